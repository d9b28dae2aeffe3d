/-
  Texts of the proof, joined: each says at its head what it proves.
-/
import Derived.Test.YthpfknlgfkecpaaDoorJg4
import Derived.Test.YthpfknlgfkecpaaDoorJg7
section
/-
  Walks of chapter 3's reader: field.
-/
set_option linter.unusedVariables false
set_option linter.unusedSimpArgs false
namespace Go.Proofs.YthpfknlgfkecpaaDoor
open Go.RowKit Go.Lib

namespace Sp
/-- A field, or a method's head, that is read. -/
def fieldR (s : ByteArray) (e : Int) : Mb × ByteArray × Int :=
  (⟨(numR s e 1).1, (numR (numR s e 1).2.1 (numR s e 1).2.2 2).1, (numR (numR (numR s e 1).2.1 (numR s e 1).2.2 2).2.1 (numR (numR s e 1).2.1 (numR s e 1).2.2 2).2.2 2).1, 0, 0, ⟨#[]⟩, []⟩,
   (numR (numR (numR s e 1).2.1 (numR s e 1).2.2 2).2.1 (numR (numR s e 1).2.1 (numR s e 1).2.2 2).2.2 2).2)
end Sp
theorem mb_load {w : World} {b : Nat} {c0 c1 c2 c3 c4 c5 c6 : Value} {T : TypeId} (h : w.heap[b]? = some (.cells #[c0, c1, c2, c3, c4, c5, c6] T (0, 0))) : (loadVar 65 ⟨b, 0, none⟩).run Tryd.prog w = .ok (.agg #[c0, c1, c2, c3, c4, c5, c6]) w :=
  run_loadVar_mid w b 0 65 [c0, c1, c2, c3, c4, c5, c6] _ (fun j v hj => by rw [Nat.zero_add]; exact (blk_cell h j v (by rw [← Array.getElem?_toList]; exact hj)).1) Tryd.underlying65 rfl (by kernel_rfl)
theorem cells7m {W : World} {x : Nat} {c0 c1 c2 c3 c4 c5 c6 : Value} {T : TypeId} (h : W.heap[x]? = some (.cells #[c0, c1, c2, c3, c4, c5, c6] T (0, 0))) : W.cell? ⟨x, 0, none⟩ = some c0 ∧ W.cell? ⟨x, 1, none⟩ = some c1 ∧ W.cell? ⟨x, 2, none⟩ = some c2 ∧ W.cell? ⟨x, 3, none⟩ = some c3 ∧ W.cell? ⟨x, 4, none⟩ = some c4 ∧ W.cell? ⟨x, 5, none⟩ = some c5 ∧ W.cell? ⟨x, 6, none⟩ = some c6 :=
  ⟨(blk_cell h 0 _ rfl).1, (blk_cell h 1 _ rfl).1, (blk_cell h 2 _ rfl).1, (blk_cell h 3 _ rfl).1, (blk_cell h 4 _ rfl).1, (blk_cell h 5 _ rfl).1, (blk_cell h 6 _ rfl).1⟩
theorem frz7m {W : World} {x : Nat} {c0 c1 c2 c3 c4 c5 c6 : Value} {T : TypeId} (h : W.heap[x]? = some (.cells #[c0, c1, c2, c3, c4, c5, c6] T (0, 0))) : W.frozen? ⟨x, 0, none⟩ = false ∧ W.frozen? ⟨x, 1, none⟩ = false ∧ W.frozen? ⟨x, 2, none⟩ = false ∧ W.frozen? ⟨x, 3, none⟩ = false ∧ W.frozen? ⟨x, 4, none⟩ = false ∧ W.frozen? ⟨x, 5, none⟩ = false ∧ W.frozen? ⟨x, 6, none⟩ = false :=
  ⟨(blk_cell h 0 _ rfl).2, (blk_cell h 1 _ rfl).2, (blk_cell h 2 _ rfl).2, (blk_cell h 3 _ rfl).2, (blk_cell h 4 _ rfl).2, (blk_cell h 5 _ rfl).2, (blk_cell h 6 _ rfl).2⟩

set_option maxHeartbeats 4000000 in
set_option maxRecDepth 100000 in
theorem rfield_any (rb : Nat) (s : ByteArray) (e : Int) (w : World) (h : Rd w rb s e) (hs : s.size ≤ 1099511627776) :
    Calls Tryd.prog 74 #[.pointer (some ⟨rb, 0, none⟩)] w fun x w' => x = .returned (Sp.mbV ((Sp.fieldR s e).1, none, 0)) ∧ Rd w' rb (Sp.fieldR s e).2.1 (Sp.fieldR s e).2.2 ∧ Keeps (fun i => i = rb) w w' := by
  have hlr := blk_lt h
  have hR0 := Lib.hid (blk_old (o := .cells #[.int .i64 0, .int .i64 0, .int .i64 0, .int .i64 0, .int .i64 0, .string ⟨#[]⟩, .slice none 0 0] 65) h)
  have hZ0 := Lib.hid (blk_new w (.cells #[.int .i64 0, .int .i64 0, .int .i64 0, .int .i64 0, .int .i64 0, .string ⟨#[]⟩, .slice none 0 0] 65))
  have hK0 := Lib.hid ((Keeps.refl (fun i => i = rb) w).alloc (.cells #[.int .i64 0, .int .i64 0, .int .i64 0, .int .i64 0, .int .i64 0, .string ⟨#[]⟩, .slice none 0 0] 65))
  have kn := Lib.hid (number_any rb s e 1 _ hR0.out hs (by decide))
  have hz1 := Sp.num_len s e 1
  have hFR : Sp.fieldR s e = (⟨(Sp.numR s e 1).1, (Sp.numR (Sp.numR s e 1).2.1 (Sp.numR s e 1).2.2 2).1, (Sp.numR (Sp.numR (Sp.numR s e 1).2.1 (Sp.numR s e 1).2.2 2).2.1 (Sp.numR (Sp.numR s e 1).2.1 (Sp.numR s e 1).2.2 2).2.2 2).1, 0, 0, ⟨#[]⟩, []⟩, (Sp.numR (Sp.numR (Sp.numR s e 1).2.1 (Sp.numR s e 1).2.2 2).2.1 (Sp.numR (Sp.numR s e 1).2.1 (Sp.numR s e 1).2.2 2).2.2 2).2) := rfl
  rw [hFR]
  clear hFR
  generalize Sp.numR s e 1 = N at *
  obtain ⟨fl, s1, e1⟩ := N
  simp only [] at kn hz1 ⊢
  have hL := Lib.hid (show Sp.listR 2 s1 e1 = ([(Sp.numR s1 e1 2).1, (Sp.numR (Sp.numR s1 e1 2).2.1 (Sp.numR s1 e1 2).2.2 2).1], (Sp.numR (Sp.numR s1 e1 2).2.1 (Sp.numR s1 e1 2).2.2 2).2) from rfl)
  generalize Sp.numR s1 e1 2 = N2 at *
  obtain ⟨nm, s2, e2⟩ := N2
  simp only [] at hL ⊢
  generalize Sp.numR s2 e2 2 = N3 at *
  obtain ⟨ds, s3, e3⟩ := N3
  simp only [] at hL ⊢
  go_enter Tryd.func74, Tryd.ntmps74
  go_wp2_with fail
  refine kn.out.mono ?_
  rintro x w1 ⟨rfl, hR1, hK1⟩
  have hZ1 := Lib.hid (hK1.obj hZ0.out (by omega))
  have hKK := Lib.hid (hK0.out.trans hK1)
  have hlz := blk_lt hZ1.out
  clear hR0 hZ0 hK0 kn hK1
  have hR2 := Lib.hid (blk_old (o := .cells #[.int .i64 fl, .int .i64 0, .int .i64 0, .int .i64 0, .int .i64 0, .string ⟨#[]⟩, .slice none 0 0] 65) hR1)
  have hZ2 := Lib.hid (blk_old (o := .cells #[.int .i64 fl, .int .i64 0, .int .i64 0, .int .i64 0, .int .i64 0, .string ⟨#[]⟩, .slice none 0 0] 65) hZ1.out)
  have hM2 := Lib.hid (blk_new w1 (.cells #[.int .i64 fl, .int .i64 0, .int .i64 0, .int .i64 0, .int .i64 0, .string ⟨#[]⟩, .slice none 0 0] 65))
  have hK2 := Lib.hid (hKK.out.alloc (.cells #[.int .i64 fl, .int .i64 0, .int .i64 0, .int .i64 0, .int .i64 0, .string ⟨#[]⟩, .slice none 0 0] 65))
  have hl1 := blk_lt hR1
  have hwl := hKK.out.size
  clear hR1 hZ1 hKK
  go_upto_region 2 with fail
  generalize w1.alloc (.cells #[.int .i64 fl, .int .i64 0, .int .i64 0, .int .i64 0, .int .i64 0, .string ⟨#[]⟩, .slice none 0 0] 65) = W2 at *
  generalize w1.heap.size = mb at *
  have hzb0 : w.heap.size ≤ w.heap.size := Nat.le_refl _
  generalize hzb : w.heap.size = zb at *
  have hlm := blk_lt hM2.out
  have hlz2 := blk_lt hZ2.out
  have kl := Lib.hid (list_any rb mb W2.heap.size s1 e1 [1, 2] _ 65 108 2 2 (W2.alloc (.cells (ptrC mb [1, 2]) 108)) (blk_old hR2.out) (blk_old hM2.out) (blk_new _ _) (by omega) (by have := blk_lt hR2.out; omega) (by omega) (by simp) rfl (by decide) (by omega))
  unfold ptrC at kl
  simp only [List.map_cons, List.map_nil] at kl
  rw [hL.out] at kl
  clear hL
  simp only [Sp.putC] at kl
  go_wp2_with fail
  refine kl.out.mono ?_
  rintro x w3 ⟨rfl, hR3, hM3, hK3⟩
  have hZ3 := Lib.hid (hK3.obj (blk_old hZ2.out) (by omega))
  have hKf := Lib.hid ((hK2.out.alloc _).then hK3 (fun i q => q.elim .inl (fun r => .inr (by omega))))
  have hR3' := Lib.hid hR3
  have hM3' := Lib.hid (show w3.heap[mb]? = some (.cells #[.int .i64 fl, .int .i64 nm, .int .i64 ds, .int .i64 0, .int .i64 0, .string ⟨#[]⟩, .slice none 0 0] 65 (0, 0)) from hM3)
  have hlz3 := blk_lt hZ3.out
  have hlm3 := blk_lt hM3
  clear hR3 hM3 hK3 kl hR2 hZ2 hM2 hK2
  obtain ⟨c0, c1, c2, c3, c4, c5, c6⟩ := cells7m hM3'.out
  obtain ⟨d0, d1, d2, d3, d4, d5, d6⟩ := cells7m hZ3.out
  obtain ⟨f0, f1, f2, f3, f4, f5, f6⟩ := frz7m hZ3.out
  have hfin := Lib.hid (blk_set (i := 6) (blk_set (i := 5) (blk_set (i := 4) (blk_set (i := 3) (blk_set (i := 2) (blk_set (i := 1) (blk_set (i := 0) hZ3.out (.int .i64 fl)) (.int .i64 nm)) (.int .i64 ds)) (.int .i64 0)) (.int .i64 0)) (.string ⟨#[]⟩)) (.slice none 0 0))
  go_wp2
  (try simp only [Exit.inBlock, Exit.then])
  refine bodyPost_ret (results_c rfl _ _ _ rfl (mb_load hfin.out)) rfl ?_
  have hne : rb ≠ zb := by omega
  have hle : w.heap.size ≤ zb := by omega
  refine ⟨rfl, ?_, ?_⟩
  · exact blk_other (blk_other (blk_other (blk_other (blk_other (blk_other (blk_other hR3'.out _ _ hne) _ _ hne) _ _ hne) _ _ hne) _ _ hne) _ _ hne) _ _ hne
  · exact ((((((hKf.out.setCell (a := ⟨zb, 0, none⟩) (.inr hle) _).setCell (a := ⟨zb, 1, none⟩) (.inr hle) _).setCell (a := ⟨zb, 2, none⟩) (.inr hle) _).setCell (a := ⟨zb, 3, none⟩) (.inr hle) _).setCell (a := ⟨zb, 4, none⟩) (.inr hle) _).setCell (a := ⟨zb, 5, none⟩) (.inr hle) _).setCell (a := ⟨zb, 6, none⟩) (.inr hle) _
end Go.Proofs.YthpfknlgfkecpaaDoor
end
