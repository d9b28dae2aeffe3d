/-
  Walks of chapter 2's small functions.
-/
import Derived.Test.YthpfknlgfkecpaaDoorDsSpec
import Derived.Test.YthpfknlgfkecpaaDoorDsKit
import Derived.Test.YthpfknlgfkecpaaDoorPl1
set_option linter.unusedVariables false
set_option linter.unusedSimpArgs false
namespace Go.Proofs.YthpfknlgfkecpaaDoor
open Go.RowKit Go.Lib

set_option maxHeartbeats 4000000 in
theorem right_any (d : Int) (n : ByteArray) (w : World) (hs : n.size ≤ 1099511627776) (hT : Tabs w) :
    Calls Tryd.prog 47 #[Sp.tyV (d, n)] w fun e w' => e = .returned (.bool (Sp.rightS (d, n))) ∧ Below w.heap.size w w' := by
  have HE := Lib.hid (show Sp.rightS (d, n) = _ by rw [Sp.rightS])
  simp only [] at HE
  generalize Sp.rightS (d, n) = R at HE ⊢
  unfold Sp.tyV
  simp only []
  by_cases c1 : 0 ≤ d
  · by_cases c2 : d ≤ 4
    · by_cases c3 : n.size = 0
      · have hR : R = true := by rw [HE.out]; simp [c1, c2, c3]
        obtain rfl := str_empty n c3
        subst hR
        clear HE
        go_enter Tryd.func47, Tryd.ntmps47
        go_wp2
        go_ret
        exact ⟨rfl, (Below.refl _ _).alloc (Nat.le_refl _) _⟩
      · have hR : R = Sp.nameS n := by rw [HE.out]; simp [c1, c2, c3]
        have hne : (n.toList == []) = false := by
          rw [Bool.eq_false_iff]
          intro q
          have := (bytes_beq_iff n ⟨#[]⟩).1 (by simpa using q)
          rw [this] at c3
          exact c3 rfl
        have h1 := Lib.hid (fun W hT => name_any n W (by omega) hT)
        have T0 := Lib.hid hT
        clear hT
        subst hR
        generalize Sp.nameS n = v at h1 ⊢
        clear HE
        go_enter Tryd.func47, Tryd.ntmps47
        go_wp2_with fail
        refine (h1.out _ (fun W h => Tabs.below (T0.out.below ((Below.refl _ _).alloc (Nat.le_refl _) _)) h)).mono ?_
        rintro e w1 ⟨rfl, hb⟩
        go_wp2
        go_ret
        exact ⟨rfl, below_then ((Below.refl _ _).alloc (Nat.le_refl _) _) (by simp) hb⟩
    · have hR : R = false := by rw [HE.out]; simp [c2]
      subst hR
      clear HE
      go_enter Tryd.func47, Tryd.ntmps47
      go_wp2
      go_ret
      exact ⟨rfl, (Below.refl _ _).alloc (Nat.le_refl _) _⟩
  · have hR : R = false := by rw [HE.out]; simp [c1]
    subst hR
    clear HE
    go_enter Tryd.func47, Tryd.ntmps47
    go_wp2
    go_ret
    exact ⟨rfl, (Below.refl _ _).alloc (Nat.le_refl _) _⟩

set_option maxHeartbeats 4000000 in
theorem refRight_any (d : Int) (n : ByteArray) (w : World) (hs : n.size ≤ 1099511627776) :
    Calls Tryd.prog 51 #[Sp.tyV (d, n)] w fun e w' => e = .returned (.bool (Sp.rightS (d, n))) ∧ Below w.heap.size w w' := by
  have h1 := Lib.hid (fun W => refName_any n W (by omega))
  rw [Sp.refName_eq] at h1
  have HE := Lib.hid (show Sp.rightS (d, n) = _ by rw [Sp.rightS])
  simp only [] at HE
  generalize Sp.rightS (d, n) = R at HE ⊢
  unfold Sp.tyV
  simp only []
  generalize Sp.nameS n = v at h1 HE
  go_enter Tryd.func51, Tryd.ntmps51
  go_wp2_with fail
  refine (h1.out _).mono ?_
  rintro e w1 ⟨rfl, hb⟩
  have c0 : w1.cell? ⟨w.heap.size, 0, none⟩ = some (.int .i64 d) := cell_below hb (by simp)
  have c1 : w1.cell? ⟨w.heap.size, 1, none⟩ = some (.string n) := cell_below hb (by simp)
  have hb' := below_then ((Below.refl w.heap.size w).alloc (Nat.le_refl _) _) (by simp) hb
  by_cases q1 : 0 ≤ d
  · by_cases q2 : d ≤ 4
    · by_cases q3 : n.size = 0
      · have hR : R = true := by rw [HE.out]; simp [q1, q2, q3]
        obtain rfl := str_empty n q3
        subst hR
        clear HE
        go_wp2
        go_ret
        exact ⟨rfl, hb'⟩
      · have hR : R = v := by rw [HE.out]; simp [q1, q2, q3]
        have hne : (n.toList == []) = false := by
          rw [Bool.eq_false_iff]
          intro q
          have := (bytes_beq_iff n ⟨#[]⟩).1 (by simpa using q)
          rw [this] at q3
          exact q3 rfl
        subst hR
        clear HE
        go_wp2
        go_ret
        exact ⟨rfl, hb'⟩
    · have hR : R = false := by rw [HE.out]; simp [q2]
      subst hR
      clear HE
      go_wp2
      go_ret
      exact ⟨rfl, hb'⟩
  · have hR : R = false := by rw [HE.out]; simp [q1]
    subst hR
    clear HE
    go_wp2
    go_ret
    exact ⟨rfl, hb'⟩

set_option maxHeartbeats 4000000 in
theorem elem_any (d : Int) (n : ByteArray) (w : World) (hs : n.size ≤ 1099511627776) (hd : -9223372036854775808 ≤ d ∧ d ≤ 9223372036854775807) (hT : Tabs w) :
    Calls Tryd.prog 21 #[Sp.tyV (d, n)] w fun e w' => e = .returned (.tuple #[Sp.tyV (Sp.elemS (d, n)).1, .bool (Sp.elemS (d, n)).2]) ∧ Below w.heap.size w w' := by
  have h1 := Lib.hid (fun W hT => right_any d n W hs hT)
  have T0 := Lib.hid hT
  clear hT
  have HE := Lib.hid (show Sp.elemS (d, n) = _ by rw [Sp.elemS])
  have hrg : Sp.rightS (d, n) = true → 0 ≤ d ∧ d ≤ 4 := by
    intro q
    simp [Sp.rightS] at q
    exact q.1
  simp only [] at HE
  generalize Sp.elemS (d, n) = R at HE ⊢
  generalize Sp.rightS (d, n) = v at h1 HE hrg
  unfold Sp.tyV at h1 ⊢
  simp only [] at h1 ⊢
  go_enter Tryd.func21, Tryd.ntmps21
  go_wp2_with fail
  refine (h1.out _ (T0.out.below (((Below.refl _ _).alloc (Nat.le_refl _) _).alloc (by simp) _))).mono ?_
  rintro e w1 ⟨rfl, hb⟩
  obtain ⟨c0, f0⟩ := kept_cell hb ⟨w.heap.size, 0, none⟩ (.int .i64 d) (by simp)
  obtain ⟨c1, f1⟩ := kept_cell hb ⟨w.heap.size, 1, none⟩ (.string n) (by simp)
  obtain ⟨c2, f2⟩ := kept_cell hb ⟨w.heap.size + 1, 0, none⟩ (.int .i64 0) (by simp)
  obtain ⟨c3, f3⟩ := kept_cell hb ⟨w.heap.size + 1, 1, none⟩ (.string ⟨#[]⟩) (by simp)
  have hb' := below_then (((Below.refl w.heap.size w).alloc (Nat.le_refl _) _).alloc (by simp) _) (by simp; omega) hb
  by_cases q1 : v = true
  · subst q1
    by_cases q2 : d = 0
    · have hR : R = (Sp.t0, false) := by rw [HE.out]; simp [q2]
      subst hR
      clear HE
      go_wp2
      (try simp only [Exit.inBlock, Exit.then]); refine bodyPost_ret (results_ct rfl _ _ _ rfl (ty_load _ (w.heap.size + 1) 0 (x := .int .i64 0) (y := .string ⟨#[]⟩) (by (repeat (first | assumption | (with_reducible apply World.cell?_setCell_same) | (refine (World.cell?_setCell_other _ _ _ _ (by first | (simp; done) | (intro q; simp at q; done) | (intro q; simp at q; omega))).trans ?_)))) (by (repeat (first | assumption | (with_reducible apply World.cell?_setCell_same) | (refine (World.cell?_setCell_other _ _ _ _ (by first | (simp; done) | (intro q; simp at q; done) | (intro q; simp at q; omega))).trans ?_)))))) rfl ?_
      exact ⟨rfl, (hb'.setCell (p := ⟨w.heap.size + 1, 0, none⟩) (by simp) _).setCell (p := ⟨w.heap.size + 1, 1, none⟩) (by simp) _⟩
    · have hR : R = ((d - 1, n), true) := by rw [HE.out]; simp [q2]
      have := hrg rfl
      subst hR
      clear HE
      go_wp2
      (try simp only [Exit.inBlock, Exit.then]); refine bodyPost_ret (results_ct rfl _ _ _ rfl (ty_load _ (w.heap.size + 1) 0 (x := .int .i64 (d - 1)) (y := .string n) (by (repeat (first | assumption | (with_reducible apply World.cell?_setCell_same) | (refine (World.cell?_setCell_other _ _ _ _ (by first | (simp; done) | (intro q; simp at q; done) | (intro q; simp at q; omega))).trans ?_)))) (by (repeat (first | assumption | (with_reducible apply World.cell?_setCell_same) | (refine (World.cell?_setCell_other _ _ _ _ (by first | (simp; done) | (intro q; simp at q; done) | (intro q; simp at q; omega))).trans ?_)))))) rfl ?_
      exact ⟨rfl, ((hb'.setCell (p := ⟨w.heap.size, 0, none⟩) (by simp) _).setCell (p := ⟨w.heap.size + 1, 0, none⟩) (by simp) _).setCell (p := ⟨w.heap.size + 1, 1, none⟩) (by simp) _⟩
  · have q1 : v = false := by simpa using q1
    have hR : R = (Sp.t0, false) := by rw [HE.out]; simp [q1]
    subst hR q1
    clear HE
    go_wp2
    (try simp only [Exit.inBlock, Exit.then]); refine bodyPost_ret (results_ct rfl _ _ _ rfl (ty_load _ (w.heap.size + 1) 0 (x := .int .i64 0) (y := .string ⟨#[]⟩) (by (repeat (first | assumption | (with_reducible apply World.cell?_setCell_same) | (refine (World.cell?_setCell_other _ _ _ _ (by first | (simp; done) | (intro q; simp at q; done) | (intro q; simp at q; omega))).trans ?_)))) (by (repeat (first | assumption | (with_reducible apply World.cell?_setCell_same) | (refine (World.cell?_setCell_other _ _ _ _ (by first | (simp; done) | (intro q; simp at q; done) | (intro q; simp at q; omega))).trans ?_)))))) rfl ?_
    exact ⟨rfl, (hb'.setCell (p := ⟨w.heap.size + 1, 0, none⟩) (by simp) _).setCell (p := ⟨w.heap.size + 1, 1, none⟩) (by simp) _⟩
end Go.Proofs.YthpfknlgfkecpaaDoor
