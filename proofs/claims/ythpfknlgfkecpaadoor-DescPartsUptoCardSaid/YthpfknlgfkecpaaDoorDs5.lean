/-
  Walks of chapter 2's Field.
-/
import Derived.Test.YthpfknlgfkecpaaDoorDs4
set_option linter.unusedVariables false
set_option linter.unusedSimpArgs false
namespace Go.Proofs.YthpfknlgfkecpaaDoor
open Go.RowKit Go.Lib

namespace Sp
def fieldS (s : ByteArray) : Ty × Int := match readS s with
  | none => (t0, 9)
  | some q => if q.2.size = 0 then (q.1, 0) else (t0, 9)
end Sp

theorem cell_alloc (w : World) (o : Obj) {a : Addr} {v : Value} (h : w.cell? a = some v) : (w.alloc o).cell? a = some v := cell_below ((Below.refl _ _).alloc (Nat.le_refl _) _) h

theorem reads_any (s : ByteArray) (w : World) :
    Calls Tryd.prog 49 #[.string s] w fun e w' => e = .returned (.func (Fn.func 81) #[] #[.pointer (some ⟨w.heap.size, 0, none⟩)]) ∧ w' = w.alloc (.cells #[.string s] 9) := by
  go_enter Tryd.func49, Tryd.ntmps49
  go_wp2
  go_ret
  exact ⟨rfl, rfl⟩

set_option maxHeartbeats 8000000 in
set_option maxRecDepth 100000 in
theorem field_any (s : ByteArray) (w : World) (hs : s.size ≤ 1099511627776) (hT : Tabs w) :
    Calls Tryd.prog 18 #[.string s] w fun e w' => e = .returned (.tuple #[Sp.tyV (Sp.fieldS s).1, .int .i64 (Sp.fieldS s).2]) ∧ Below w.heap.size w w' := by
  have T0 := Lib.hid hT
  clear hT
  have HE := Lib.hid (show Sp.fieldS s = _ by rw [Sp.fieldS])
  have k1 := Lib.hid (fun b W hc hf hT => reads1_any b s W hs hc hf hT)
  generalize Sp.fieldS s = R at HE ⊢
  generalize Sp.readS s = q at HE k1
  go_enter Tryd.func18, Tryd.ntmps18
  go_wp2_with fail
  refine (reads_any _ _).mono ?_
  rintro e w1 ⟨rfl, rfl⟩
  go_wp2_with fail
  have hB0 := ((Below.refl w.heap.size w).alloc (Nat.le_refl _) (.cells #[.int .i64 0, .string ⟨#[]⟩] 23)).alloc (by simp) (.cells #[.string s] 9)
  have k2 := k1.out (w.heap.size + 1) _ (by simp) (by simp) (T0.out.below hB0)
  clear k1
  cases q with
  | none =>
    have hR : R = (Sp.t0, 9) := HE.out
    subst hR
    clear HE
    refine k2.mono ?_
    rintro e w1 ⟨rfl, hb⟩
    obtain ⟨c0, f0⟩ := kept_cell hb ⟨w.heap.size, 0, none⟩ (.int .i64 0) (by simp)
    obtain ⟨c1, f1⟩ := kept_cell hb ⟨w.heap.size, 1, none⟩ (.string ⟨#[]⟩) (by simp)
    have hb' := below_then hB0 hB0.size hb
    have hlt : w.heap.size < w1.heap.size := by have := hb.size; simp at this; omega
    unfold Sp.tyV
    go_wp2
    (try simp only [Exit.inBlock, Exit.then]); refine bodyPost_ret (results_ct rfl _ _ _ rfl (ty_load _ w.heap.size 0 (x := .int .i64 0) (y := .string ⟨#[]⟩) (cell_alloc _ _ (by (repeat (first | assumption | (with_reducible apply World.cell?_setCell_same) | (refine (World.cell?_setCell_other _ _ _ _ (by first | (simp; done) | (intro q; simp at q; done) | (intro q; simp at q; omega))).trans ?_))))) (cell_alloc _ _ (by (repeat (first | assumption | (with_reducible apply World.cell?_setCell_same) | (refine (World.cell?_setCell_other _ _ _ _ (by first | (simp; done) | (intro q; simp at q; done) | (intro q; simp at q; omega))).trans ?_))))))) rfl ?_
    exact ⟨rfl, ((hb'.setCell (p := ⟨w.heap.size, 0, none⟩) (Nat.le_refl _) _).setCell (p := ⟨w.heap.size, 1, none⟩) (Nat.le_refl _) _).alloc (by simp; omega) _⟩
  | some q =>
    obtain ⟨⟨qd, qn⟩, qr⟩ := q
    refine k2.mono ?_
    rintro e w1 ⟨rfl, hg, hcb, hfb⟩
    have hlt : w.heap.size < w1.heap.size := by have := hg.size; simp at this; omega
    have hold : w1.heap[w.heap.size]? = ((w.alloc (.cells #[.int .i64 0, .string ⟨#[]⟩] 23)).alloc (.cells #[.string s] 9)).heap[w.heap.size]? := hg.block _ (by simp; omega) (by simp)
    have c0 : w1.cell? ⟨w.heap.size, 0, none⟩ = some (.int .i64 0) := (World.cell?_of_block (a := ⟨w.heap.size, 0, none⟩) hold).trans (by simp)
    have c1 : w1.cell? ⟨w.heap.size, 1, none⟩ = some (.string ⟨#[]⟩) := (World.cell?_of_block (a := ⟨w.heap.size, 1, none⟩) hold).trans (by simp)
    have f0 : w1.frozen? ⟨w.heap.size, 0, none⟩ = false := (World.frozen?_of_block (a := ⟨w.heap.size, 0, none⟩) hold).trans (by simp)
    have f1 : w1.frozen? ⟨w.heap.size, 1, none⟩ = false := (World.frozen?_of_block (a := ⟨w.heap.size, 1, none⟩) hold).trans (by simp)
    have hb' : Below w.heap.size w w1 := hB0.grown hg hB0.size (fun k hk => by simp at hk; omega)
    by_cases hz : qr.size = 0
    · have hR : R = ((qd, qn), 0) := by rw [HE.out]; simp [hz]
      obtain rfl := str_empty qr hz
      subst hR
      clear HE
      unfold Sp.tyV
      go_wp2
      (try simp only [Exit.inBlock, Exit.then]); refine bodyPost_ret (results_ct rfl _ _ _ rfl (ty_load _ w.heap.size 0 (x := .int .i64 qd) (y := .string qn) (cell_alloc _ _ (by (repeat (first | assumption | (with_reducible apply World.cell?_setCell_same) | (refine (World.cell?_setCell_other _ _ _ _ (by first | (simp; done) | (intro q; simp at q; done) | (intro q; simp at q; omega))).trans ?_))))) (cell_alloc _ _ (by (repeat (first | assumption | (with_reducible apply World.cell?_setCell_same) | (refine (World.cell?_setCell_other _ _ _ _ (by first | (simp; done) | (intro q; simp at q; done) | (intro q; simp at q; omega))).trans ?_))))))) rfl ?_
      exact ⟨rfl, ((hb'.setCell (p := ⟨w.heap.size, 0, none⟩) (Nat.le_refl _) _).setCell (p := ⟨w.heap.size, 1, none⟩) (Nat.le_refl _) _).alloc (by simp; omega) _⟩
    · have hR : R = (Sp.t0, 9) := by rw [HE.out]; simp [hz]
      have hne2 : (qr.toList == []) = false := by
        rw [Bool.eq_false_iff]
        intro r
        have := (bytes_beq_iff qr ⟨#[]⟩).1 (by simpa using r)
        rw [this] at hz
        exact hz rfl
      subst hR
      clear HE
      unfold Sp.tyV
      go_wp2
      (try simp only [Exit.inBlock, Exit.then]); refine bodyPost_ret (results_ct rfl _ _ _ rfl (ty_load _ w.heap.size 0 (x := .int .i64 0) (y := .string ⟨#[]⟩) (cell_alloc _ _ (by (repeat (first | assumption | (with_reducible apply World.cell?_setCell_same) | (refine (World.cell?_setCell_other _ _ _ _ (by first | (simp; done) | (intro q; simp at q; done) | (intro q; simp at q; omega))).trans ?_))))) (cell_alloc _ _ (by (repeat (first | assumption | (with_reducible apply World.cell?_setCell_same) | (refine (World.cell?_setCell_other _ _ _ _ (by first | (simp; done) | (intro q; simp at q; done) | (intro q; simp at q; omega))).trans ?_))))))) rfl ?_
      exact ⟨rfl, ((hb'.setCell (p := ⟨w.heap.size, 0, none⟩) (Nat.le_refl _) _).setCell (p := ⟨w.heap.size, 1, none⟩) (Nat.le_refl _) _).alloc (by simp; omega) _⟩
end Go.Proofs.YthpfknlgfkecpaaDoor
