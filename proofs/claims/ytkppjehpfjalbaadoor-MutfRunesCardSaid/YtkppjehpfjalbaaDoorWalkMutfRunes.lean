/-
  The law MutfRunes: its walk.
-/
import Derived.Test.YtkppjehpfjalbaaDoorPl7
import Derived.BigQuiet
set_option linter.unusedVariables false
set_option linter.unusedSimpArgs false
namespace Go.Proofs.YtkppjehpfjalbaaDoor
open Go.RowKit Go.Lib

set_option maxHeartbeats 8000000 in
set_option maxRecDepth 100000 in
theorem walkMutfRunes (s : ByteArray) (c : Int) (w : World) (hs : s.size ≤ maxLen) (hc0 : -9223372036854775808 ≤ c) (hc1 : c ≤ 9223372036854775807) (hT : Tabs w) :
    Calls Tryd.prog 11 #[.string s, .int .i64 c] w fun e w' => e = .returned (.bool true) ∧ Below w.heap.size w w' := by
  unfold maxLen at hs
  have hsh := Lib.hid (shown_any w hT)
  clear hT
  by_cases hl : 20000 < s.size
  · have hlz : (20000 : Int) < (s.size : Int) := by omega
    go_enter Tryd.func11, Tryd.ntmps11
    go_wp2_with fail
    refine hsh.out.mono ?_
    rintro e w1 ⟨rfl, hb1⟩
    go_wp2
    go_ret
    exact ⟨rfl, hb1⟩
  have hlz : ¬ (20000 : Int) < (s.size : Int) := by omega
  have h1 := Lib.hid (fun W => refRunes_any s W (by omega))
  have h2 := Lib.hid (fun W => runes_any s W (by omega))
  have h3 := Lib.hid (fun W => len_any s W (by omega))
  have h4 := Lib.hid (fun W => at_all s c W (by omega) hc0 hc1)
  rw [Sp.refRunes_eq] at h1
  simp only [] at h1
  have hrg := Lib.hid (runes_range s)
  have hle := runes_le s
  generalize Sp.runes s = l at *
  generalize validD s.data.toList = V at *
  go_enter Tryd.func11, Tryd.ntmps11
  go_wp2_with fail
  refine hsh.out.mono ?_
  rintro e w1 ⟨rfl, B1⟩
  have S1 := B1.size
  go_wp2_with fail
  refine (h1.out _).mono ?_
  rintro e w2 ⟨A2, c2, rfl, R2, hb2⟩
  have B2 := below_then B1 S1 hb2
  have S2 := B2.size
  clear B1 S1 hb2
  go_wp2_with fail
  refine (h2.out _).mono ?_
  rintro e w3 ⟨A3, c3, rfl, R3, hb3⟩
  have B3 := below_then B2 S2 hb3
  have S3 := B3.size
  have R2' := rdN_below R2 hb3
  clear B2 S2 hb3 R2
  go_wp2_with fail
  refine (h3.out _).mono ?_
  rintro e w4 ⟨rfl, hb4⟩
  have B4 := below_then B3 S3 hb4
  have S4 := B4.size
  have RA := Lib.hid (rdN_below R2' hb4)
  have RB := Lib.hid (rdN_below R3 hb4)
  clear B3 S3 hb4 R2' R3
  go_wp2
  go_loopw [9] (fun v wr => ∃ k : Nat, k ≤ l.length ∧ v = .int .i64 k ∧ Below w4.heap.size w4 wr) (fun v _ => l.length - (RowKit.intOf v).toNat)
  case atStart => exact ⟨0, Nat.zero_le _, rfl, Below.refl _ _⟩
  case round =>
    obtain ⟨k, hk, rfl, hbr⟩ := hrel
    have RA' := Lib.hid (rdN_below RA.out hbr)
    have RB' := Lib.hid (rdN_below RB.out hbr)
    have BR := below_then B4 S4 hbr
    have SR := BR.size
    by_cases hlt : k < l.length
    · obtain ⟨b1, o1, rfl, hcell1⟩ := RA'.out.2 (by omega)
      obtain ⟨b2, o2, rfl, hcell2⟩ := RB'.out.2 (by omega)
      have hck1 := hcell1 k hlt
      have hck2 := hcell2 k hlt
      clear hcell1 hcell2
      have hy := hrg.out (l.getD k 0) (by rw [List.getD_eq_getElem?_getD, List.getElem?_eq_getElem hlt]; exact List.getElem_mem hlt)
      generalize l.getD k 0 = y at hck1 hck2 hy
      go_wp2
      go_quiet (fail)
      go_wp2
      go_roundw
      case rel => exact ⟨k + 1, by omega, by go_num, below_drewN hbr _⟩
      case measure => simp [RowKit.intOf]; omega
    · go_wp2_with fail
      refine (h4.out _).mono ?_
      rintro e w5 ⟨rfl, hb5⟩
      have B5 := below_then BR SR hb5
      by_cases hin : 0 ≤ c ∧ c < l.length
      · obtain ⟨n, rfl⟩ : ∃ n : Nat, c = n := ⟨c.toNat, by omega⟩
        have hn : n < l.length := by omega
        have RA5 := rdN_below RA'.out hb5
        obtain ⟨b1, o1, rfl, hcell1⟩ := RA5.2 (by omega)
        have hck1 := hcell1 n hn
        clear hcell1
        have hy := hrg.out (l.getD n 0) (by rw [List.getD_eq_getElem?_getD, List.getElem?_eq_getElem hn]; exact List.getElem_mem hn)
        rw [Sp.atL_in l n hn]
        generalize l.getD n 0 = y at hck1 hy ⊢
        have hn0 : ¬ (n : Int) < 0 := by omega
        have hn1 : ¬ (l.length : Int) ≤ (n : Int) := by omega
        go_wp2
        go_ret
        exact ⟨by simp, B5⟩
      · rw [Sp.atL_out l c hin]
        by_cases hn0 : c < 0
        · go_wp2
          go_ret
          exact ⟨by simp, B5⟩
        · have hn1 : (l.length : Int) ≤ c := by omega
          go_wp2
          go_ret
          exact ⟨by simp, B5⟩
end Go.Proofs.YtkppjehpfjalbaaDoor
