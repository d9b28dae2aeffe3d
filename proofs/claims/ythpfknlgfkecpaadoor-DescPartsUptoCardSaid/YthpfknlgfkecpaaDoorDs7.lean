/-
  Walk of the reference's Field; what its next tells.
-/
import Derived.Test.YthpfknlgfkecpaaDoorDs6
import Derived.Test.YthpfknlgfkecpaaDoorDsMeth
set_option linter.unusedVariables false
set_option linter.unusedSimpArgs false
namespace Go.Proofs.YthpfknlgfkecpaaDoor
open Go.RowKit Go.Lib

namespace Sp
theorem readS_rest (s : ByteArray) (q : Ty × ByteArray) (h : readS s = some q) : ∃ k : Nat, 0 < k ∧ k ≤ s.size ∧ q.2 = s.extract k s.size := by
  by_cases c4 : 4 < cnt s
  · rw [readS_deep s c4] at h
    cases h
  by_cases cI : bt s (cnt s) = 73
  · have hc : cnt s < s.size := by
      by_cases hc : cnt s < s.size
      · exact hc
      · rw [bt_end s _ hc] at cI
        cases cI
    rw [readS_I s cI] at h
    split at h
    · injection h with h
      subst h
      exact ⟨cnt s + 1, by omega, by omega, tail_extract s⟩
    · cases h
  by_cases cL : bt s (cnt s) = 76
  · have hc : cnt s < s.size := by
      by_cases hc : cnt s < s.size
      · exact hc
      · rw [bt_end s _ hc] at cL
        cases cL
    obtain ⟨E, g1, g2, g3, g4, g5⟩ := readS_class s cL hc (by omega)
    rw [g5] at h
    split at h
    · cases h
    · injection h with h
      subst h
      exact ⟨E + 1, by omega, by omega, rfl⟩
  · rw [readS_none s cI cL] at h
    cases h
theorem refNext_facts (s : ByteArray) : (readS s = none ∧ refNextS s = (t0, 0)) ∨ ∃ (t : Ty) (r : ByteArray) (k : Nat), readS s = some (t, r) ∧ 0 < k ∧ k ≤ s.size ∧ refNextS s = (t, (k : Int)) ∧ r = s.extract k s.size ∧ r.size = s.size - k := by
  cases h : readS s with
  | none => exact .inl ⟨rfl, by rw [refNextS, h]⟩
  | some q =>
    obtain ⟨k, h0, h1, h2⟩ := readS_rest s q h
    have hz : q.2.size = s.size - k := by rw [h2]; simp
    refine .inr ⟨q.1, q.2, k, rfl, h0, h1, ?_, h2, hz⟩
    rw [refNextS, h]
    simp only
    rw [hz]
    refine Prod.ext rfl ?_
    simp only
    omega
theorem readS_empty (s : ByteArray) (h : s.size = 0) : readS s = none := by
  apply readS_none
  · rw [bt_end s _ (by omega)]; decide
  · rw [bt_end s _ (by omega)]; decide
end Sp

set_option maxHeartbeats 8000000 in
set_option maxRecDepth 100000 in
theorem refField_any (s : ByteArray) (w : World) (hs : s.size ≤ 1099511627776) :
    Calls Tryd.prog 19 #[.string s] w fun e w' => e = .returned (.tuple #[Sp.tyV (Sp.fieldS s).1, .int .i64 (Sp.fieldS s).2]) ∧ Below w.heap.size w w' := by
  have HE := Lib.hid (show Sp.fieldS s = _ by rw [Sp.fieldS])
  have k1 := Lib.hid (fun W => refNext2_any s W hs)
  have HF := Sp.refNext_facts s
  generalize Sp.fieldS s = R at HE ⊢
  generalize Sp.readS s = q at *
  generalize Sp.refNextS s = n at *
  rcases HF with ⟨rfl, rfl⟩ | ⟨⟨td, tn⟩, r, k, rfl, h0, h1, rfl, h2, h3⟩
  · have hR : R = (Sp.t0, 9) := HE.out
    subst hR
    clear HE
    unfold Sp.tyV Sp.t0 at k1
    unfold Sp.tyV Sp.t0
    go_enter Tryd.func19, Tryd.ntmps19
    go_wp2_with fail
    refine (k1.out _).mono ?_
    rintro e w1 ⟨rfl, hb⟩
    obtain ⟨⟨c0, c1⟩, f0, f1⟩ := blk2 (blk_below (blk_new w _) hb)
    have hlt := blk_lt (blk_below (blk_new w _) hb)
    have hb' := below_then ((Below.refl w.heap.size w).alloc (Nat.le_refl _) _) (by simp) hb
    go_wp2
    (try simp only [Exit.inBlock, Exit.then]); refine bodyPost_ret (results_ct rfl _ _ _ rfl (ty_load _ w.heap.size 0 (x := .int .i64 0) (y := .string ⟨#[]⟩) (by (repeat (first | with_reducible assumption | (with_reducible apply World.cell?_setCell_same) | (with_reducible refine cell_alloc _ _ ?_) | (refine (World.cell?_setCell_other _ _ _ _ (by first | (simp; done) | (intro q; simp at q; done) | (intro q; simp at q; omega))).trans ?_)))) (by (repeat (first | with_reducible assumption | (with_reducible apply World.cell?_setCell_same) | (with_reducible refine cell_alloc _ _ ?_) | (refine (World.cell?_setCell_other _ _ _ _ (by first | (simp; done) | (intro q; simp at q; done) | (intro q; simp at q; omega))).trans ?_)))))) rfl ?_
    exact ⟨rfl, by (repeat (first | with_reducible assumption | with_reducible exact Below.refl _ _ | (with_reducible refine Below.setCell ?_ (by first | exact Nat.le_refl _ | (simp; done) | (simp; omega)) _) | (with_reducible refine Below.alloc ?_ (by first | exact Nat.le_refl _ | (simp; done) | (simp; omega)) _) | (with_reducible refine Below.drew ?_)))⟩
  · have hkz : ((k : Int) == 0) = false := by rw [beq_eq_false_iff_ne]; omega
    clear h2
    unfold Sp.tyV at k1
    unfold Sp.tyV
    by_cases hz : r.size = 0
    · have hR : R = ((td, tn), 0) := by rw [HE.out]; simp [hz]
      obtain rfl : k = s.size := by omega
      subst hR
      clear HE h3 hz h1
      go_enter Tryd.func19, Tryd.ntmps19
      go_wp2_with fail
      refine (k1.out _).mono ?_
      rintro e w1 ⟨rfl, hb⟩
      obtain ⟨⟨c0, c1⟩, f0, f1⟩ := blk2 (blk_below (blk_new w _) hb)
      have hlt := blk_lt (blk_below (blk_new w _) hb)
      have hb' := below_then ((Below.refl w.heap.size w).alloc (Nat.le_refl _) _) (by simp) hb
      go_wp2
      (try simp only [Exit.inBlock, Exit.then]); refine bodyPost_ret (results_ct rfl _ _ _ rfl (ty_load _ w.heap.size 0 (x := .int .i64 td) (y := .string tn) (by (repeat (first | with_reducible assumption | (with_reducible apply World.cell?_setCell_same) | (with_reducible refine cell_alloc _ _ ?_) | (refine (World.cell?_setCell_other _ _ _ _ (by first | (simp; done) | (intro q; simp at q; done) | (intro q; simp at q; omega))).trans ?_)))) (by (repeat (first | with_reducible assumption | (with_reducible apply World.cell?_setCell_same) | (with_reducible refine cell_alloc _ _ ?_) | (refine (World.cell?_setCell_other _ _ _ _ (by first | (simp; done) | (intro q; simp at q; done) | (intro q; simp at q; omega))).trans ?_)))))) rfl ?_
      exact ⟨rfl, by (repeat (first | with_reducible assumption | with_reducible exact Below.refl _ _ | (with_reducible refine Below.setCell ?_ (by first | exact Nat.le_refl _ | (simp; done) | (simp; omega)) _) | (with_reducible refine Below.alloc ?_ (by first | exact Nat.le_refl _ | (simp; done) | (simp; omega)) _) | (with_reducible refine Below.drew ?_)))⟩
    · have hR : R = (Sp.t0, 9) := by rw [HE.out]; simp [hz]
      have hks : ((k : Int) == (s.size : Int)) = false := by rw [beq_eq_false_iff_ne]; omega
      subst hR
      clear HE h3 hz h1
      unfold Sp.t0
      go_enter Tryd.func19, Tryd.ntmps19
      go_wp2_with fail
      refine (k1.out _).mono ?_
      rintro e w1 ⟨rfl, hb⟩
      obtain ⟨⟨c0, c1⟩, f0, f1⟩ := blk2 (blk_below (blk_new w _) hb)
      have hlt := blk_lt (blk_below (blk_new w _) hb)
      have hb' := below_then ((Below.refl w.heap.size w).alloc (Nat.le_refl _) _) (by simp) hb
      go_wp2
      (try simp only [Exit.inBlock, Exit.then]); refine bodyPost_ret (results_ct rfl _ _ _ rfl (ty_load _ w.heap.size 0 (x := .int .i64 0) (y := .string ⟨#[]⟩) (by (repeat (first | with_reducible assumption | (with_reducible apply World.cell?_setCell_same) | (with_reducible refine cell_alloc _ _ ?_) | (refine (World.cell?_setCell_other _ _ _ _ (by first | (simp; done) | (intro q; simp at q; done) | (intro q; simp at q; omega))).trans ?_)))) (by (repeat (first | with_reducible assumption | (with_reducible apply World.cell?_setCell_same) | (with_reducible refine cell_alloc _ _ ?_) | (refine (World.cell?_setCell_other _ _ _ _ (by first | (simp; done) | (intro q; simp at q; done) | (intro q; simp at q; omega))).trans ?_)))))) rfl ?_
      exact ⟨rfl, by (repeat (first | with_reducible assumption | with_reducible exact Below.refl _ _ | (with_reducible refine Below.setCell ?_ (by first | exact Nat.le_refl _ | (simp; done) | (simp; omega)) _) | (with_reducible refine Below.alloc ?_ (by first | exact Nat.le_refl _ | (simp; done) | (simp; omega)) _) | (with_reducible refine Below.drew ?_)))⟩
end Go.Proofs.YthpfknlgfkecpaaDoor
