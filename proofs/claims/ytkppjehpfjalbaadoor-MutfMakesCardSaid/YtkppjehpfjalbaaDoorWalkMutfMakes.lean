/-
  The law MutfMakes: its walk.
-/
import Derived.Test.YtkppjehpfjalbaaDoorIsRow
set_option linter.unusedVariables false
set_option linter.unusedSimpArgs false
namespace Go.Proofs.YtkppjehpfjalbaaDoor
open Go.RowKit Go.Lib

set_option maxHeartbeats 8000000 in
set_option maxRecDepth 100000 in
theorem walkMutfMakes (A : Option Addr) (len cap : Nat) (zs : List Int) (w : World) (h : IsRow .i32 w A len cap zs) (hT : Tabs w) :
    Calls Tryd.prog 13 #[.slice A len cap] w fun e w' => e = .returned (.bool true) ∧ Below w.heap.size w w' := by
  have hsh := Lib.hid (shown_any w hT)
  clear hT
  obtain ⟨l, rfl, hrd, hrg⟩ := isRow_rd h
  clear h
  have hrd' := Lib.hid hrd
  have hrg' := Lib.hid hrg
  have hml := hrd.1
  clear hrd hrg
  by_cases hl : 20000 < l.length
  · have hlz : (20000 : Int) < (l.length : Int) := by omega
    go_enter Tryd.func13, Tryd.ntmps13
    go_wp2_with fail
    refine hsh.out.mono ?_
    rintro e w1 ⟨rfl, hb1⟩
    go_wp2
    go_ret
    exact ⟨rfl, hb1⟩
  have hlz : ¬ (20000 : Int) < (l.length : Int) := by omega
  obtain ⟨i0, hi, hz0, hz1, hz2⟩ := info_parts infoInt
  have h1 := Lib.hid (fun A c W q => make_any A c l W q)
  have h2 := Lib.hid (fun A c W q => refMake_any A c l W q (by omega))
  obtain ⟨U, me, rb, hm1, hm2, hm3⟩ : ∃ U me rb, Sp.makeS l = (U, me) ∧ Sp.refMakeS l = (U, rb) ∧ ((me = 0 ∧ rb = true) ∨ (me = 1 ∧ rb = false)) := by
    rw [Sp.makeS_eq, Sp.refMakeS]
    cases l.all (fun r => decide (Scal r))
    · exact ⟨_, _, _, rfl, rfl, .inr ⟨rfl, rfl⟩⟩
    · exact ⟨_, _, _, rfl, rfl, .inl ⟨rfl, rfl⟩⟩
  rw [hm1] at h1
  rw [hm2] at h2
  simp only [] at h1 h2
  have hm3' := Lib.hid hm3
  clear hm1 hm2 hm3
  go_enter Tryd.func13, Tryd.ntmps13
  go_wp2_with fail
  refine hsh.out.mono ?_
  rintro e w1 ⟨rfl, B1⟩
  have S1 := B1.size
  have RA := Lib.hid (rdN_below hrd'.out B1)
  go_wp2
  go_loopw [4, 5] (fun v4 v5 wr => ∃ (k : Nat), v5 = .int .i64 k ∧ k ≤ l.length ∧ wr.ownsRow w1.heap.size 3 1 v4 k (numk .i64 (l.take k)) ∧ Below w1.heap.size w1 wr) (fun _ v5 _ => l.length - (RowKit.intOf v5).toNat)
  case atStart => exact ⟨0, rfl, Nat.zero_le _, ⟨by simp [numk], .inl ⟨rfl, rfl⟩⟩, Below.refl _ _⟩
  case round =>
    obtain ⟨k, rfl, hk, hown, hbw⟩ := hrel
    have hsz := hbw.size
    by_cases hlt : k < l.length
    · obtain ⟨b, o, rfl, hcell⟩ := (rdN_below RA.out hbw).2 (by omega)
      have hck := hcell k hlt
      clear hcell
      have hd : Hid (l.take (k + 1) = l.take k ++ [l.getD k 0]) := Lib.hid (by rw [List.take_add_one]; simp [List.getD_eq_getElem?_getD, hlt])
      have hy : -2147483648 ≤ l.getD k 0 ∧ l.getD k 0 ≤ 2147483647 := hrg'.out (l.getD k 0) (by rw [List.getD_eq_getElem?_getD, List.getElem?_eq_getElem hlt]; exact List.getElem_mem hlt)
      have htl : (l.take k).length = k := by simp; omega
      generalize l.getD k 0 = y at hck hd hy
      go_wp2_with (at_builtin; refine wpList_append_own _ rfl _ _ 30 rfl w1.heap.size 3 i0 (.int .i64 0) 1 8 Tryd.underlying30 hi hz0 hz1 hz2 rfl (by decide) _ _ _ rfl (hown.alloc _) ⟨wr.heap.size, 0, none⟩ 1 1 (numk .i64 [y]) rfl rfl ?c1 ?c2 ?c3 ?c4 ?c5 ?_)
      case c1 =>
        intro j u hj
        match j, hj with
        | 0, hj => simp [numk] at hj; subst hj; simp [Addr.add]
        | (j + 1), hj => simp [numk] at hj
      case c2 => intro u hu; simp [numk] at hu; subst hu; rfl
      case c3 => unfold maxLen; omega
      case c4 => omega
      case c5 => first | omega | (simp; omega)
      intro v' w3 hown' hgrow _
      have hb3 := (hbw.alloc (by omega) _).grown hgrow (by simp; omega) (fun q hq => own_base hown q hq)
      rw [← numk_append, ← hd.out] at hown'
      go_wp2
      go_roundw
      case rel => exact ⟨k + 1, by go_num, by omega, hown', hb3⟩
      case measure => simp [RowKit.intOf]; omega
    · have hkl : k = l.length := by omega
      subst hkl
      have hB := below_then B1 S1 hbw
      have SB := hB.size
      have RA2 := rdN_below RA.out hbw
      obtain ⟨C, cc, rfl⟩ := own_slice hown
      have RM := (own_rdN hown).2
      rw [List.take_length] at RM
      go_wp2_with fail
      refine (h1.out _ _ _ RA2).mono ?_
      rintro e w4 ⟨rfl, rfl⟩
      go_wp2_with fail
      refine (h2.out _ _ _ RM).mono ?_
      rintro e w5 ⟨rfl, hb5⟩
      have B5 := below_then hB SB hb5
      rcases hm3'.out with ⟨rfl, rfl⟩ | ⟨rfl, rfl⟩
      all_goals
        clear hm3'
        go_wp2
        go_ret
        exact ⟨by simp, B5⟩
end Go.Proofs.YtkppjehpfjalbaaDoor
