/-
  Walk of strtab's All.
-/
import Derived.Test.YtokkpdjbgaicmaaDoorSt3
set_option linter.unusedVariables false
set_option linter.unusedSimpArgs false
namespace Go.Proofs.YtokkpdjbgaicmaaDoor
open Go.RowKit Go.Lib Go.Maps

theorem infoEn : (Tryd.prog.info? 47).map (fun i => (i.zero, i.size, i.bytes)) = some (some (.agg #[.string ⟨#[]⟩, .int .i64 0]), 2, 24) := by kernel_rfl

set_option maxHeartbeats 8000000 in
set_option maxRecDepth 100000 in
theorem all_any (S : Nat → Prop) (tb N : Nat) (E : List Sp.En) (ba bo : Nat) (A : Option Addr) (c : Nat) (w : World) (h : TabAt w S tb N E ba bo A c) (hD : Sp.Dist E) (hN : N ≤ 1000) :
    Calls Tryd.prog 15 #[.pointer (some ⟨tb, 0, none⟩)] w fun e w' => ∃ A2 c2, e = .returned (.slice A2 E.length c2) ∧ RdL Sp.enC w' A2 E ∧ Below w.heap.size w w' := by
  obtain ⟨i0, hi, hz0, hz1, hz2⟩ := info_parts infoEn
  have hl := h.len
  have h1 := Lib.hid h
  have hD1 := Lib.hid hD
  have hrow := Lib.hid h.row
  obtain ⟨c0, f0⟩ := blk_cell h.box 0 (.slice A E.length c) rfl
  clear h hD
  go_enter Tryd.func15, Tryd.ntmps15
  go_wp2
  go_loopw [3, 11] (fun v3 v11 wr => ∃ k : Nat, v11 = .int .i64 k ∧ k ≤ E.length ∧ wr.ownsRow w.heap.size 47 2 v3 k ((E.take k).flatMap Sp.enC) ∧ Below w.heap.size w wr) (fun _ v11 _ => E.length - (RowKit.intOf v11).toNat)
  case atStart => exact ⟨0, by go_num, Nat.zero_le _, ⟨by simp, .inl ⟨rfl, rfl⟩⟩, Below.refl _ _⟩
  case round =>
    obtain ⟨k, rfl, hk, hown, hb⟩ := hrel
    have hsz := hb.size
    have h2 := Lib.hid (tab_keeps h1.out (Keeps.of_below (S := noS) hb) (fun _ _ q => q))
    clear c0 f0
    obtain ⟨c1, f1⟩ := blk_cell h2.out.box 1 (.map (some ba)) rfl
    by_cases hlt : k < E.length
    · obtain ⟨g, rfl⟩ : ∃ g, A = some ⟨g, 0, none⟩ := by
        rcases hrow.out.2 with ⟨_, h0⟩ | ⟨g, cap, cur, hv, _⟩
        · omega
        · exact ⟨g, by injection hv⟩
      have ck := h2.out.row.cells (g := g) rfl k (.string E[k].1) (by simp [List.getElem?_eq_getElem hlt])
      rw [Addr.add_mid, Nat.zero_add] at ck
      have hsp : E = E.take k ++ E[k] :: E.drop (k + 1) := by rw [← List.drop_eq_getElem_cons hlt, List.take_append_drop]
      have hat : Sp.atT E E[k].1 = some E[k].2 := by
        have := Sp.atT_mid (P := E.take k) (e := E[k]) (D := E.drop (k + 1)) (by rw [← hsp]; exact hD1.out)
        rwa [← hsp] at this
      have HA := Lib.hid (show Sp.fT E (.string E[k].1) = some (.int .i64 E[k].2) by rw [Sp.fT_at, hat]; rfl)
      have kS := Lib.hid (keyS E[k].1 (by have := h2.out.sm _ (List.getElem_mem hlt); unfold maxLen; omega))
      have htk := Lib.hid (show (E.take (k + 1)).flatMap Sp.enC = (E.take k).flatMap Sp.enC ++ [.string E[k].1, .int .i64 E[k].2] by rw [List.take_succ_eq_append_getElem hlt, List.flatMap_append]; rfl)
      have hzk : (k : Int) < (E.length : Int) := by omega
      clear hat hsp
      generalize E[k] = en at *
      obtain ⟨et, ea⟩ := en
      simp only [] at ck HA kS htk
      go_wp2_with (first | (at_lookup; refine wpList_lookup_mapV _ rfl _ _ 53 rfl 9 3 lawS Tryd.underlying53 (zeroI _) ba N (Sp.fT E) rfl h2.out.mt _ _ rfl kS.out (some (.int .i64 ea)) HA.out ?_) | (at_builtin; refine wpList_append_own _ rfl _ _ 43 rfl w.heap.size 47 i0 (.agg #[.string ⟨#[]⟩, .int .i64 0]) 2 24 Tryd.underlying43 hi hz0 hz1 hz2 rfl (by decide) _ k ((E.take k).flatMap Sp.enC) rfl (hown.alloc _) ⟨wr.heap.size, 0, none⟩ 1 1 [.string et, .int .i64 ea] rfl rfl ?x2 ?x3 ?x4 ?x5 ?x6 ?_))
      case x2 =>
        intro j u hj
        match j, hj with
        | 0, hj => simp at hj; subst hj; simp [Addr.add]
        | 1, hj => simp at hj; subst hj; simp [Addr.add]
        | (j + 2), hj => simp at hj
      case x3 => intro u hu; simp at hu; rcases hu with rfl | rfl <;> rfl
      case x4 => unfold maxLen; omega
      case x5 => omega
      case x6 => simp; omega
      intro v' w3 hown' hg3 _
      have hb3 := (hb.alloc hsz (.cells #[.string et, .int .i64 ea] 47)).grown hg3 (by simp; omega) (fun q hq => own_base hown q hq)
      rw [← htk.out] at hown'
      clear hg3 ck c1 f1
      go_wp2
      go_roundw
      case rel => exact ⟨k + 1, by go_num, by omega, hown', hb3⟩
      case measure => simp [RowKit.intOf]; omega
    · obtain rfl : k = E.length := by omega
      have hzk : ¬ (E.length : Int) < (E.length : Int) := by omega
      obtain ⟨A2, c2, rfl⟩ := own_sl hown
      rw [List.take_length] at hown
      have hr := Lib.hid (own_rdL Sp.enC_len (by decide) hown).2
      clear hown
      go_wp2
      go_ret
      exact ⟨A2, ⟨c2, rfl⟩, hr.out, hb⟩
end Go.Proofs.YtokkpdjbgaicmaaDoor
