/-
  Texts of the proof, joined: each says at its head what it proves.
-/
import Derived.Test.YthpfknlgfkecpaaDoorJg12
section
/-
  Walks of chapter 3's reader: what reads a handler, and a number.
-/
set_option linter.unusedVariables false
set_option linter.unusedSimpArgs false
namespace Go.Proofs.YthpfknlgfkecpaaDoor
open Go.RowKit Go.Lib

namespace Sp
/-- A handler that is read. -/
def handR (s : ByteArray) (e : Int) : Hn × ByteArray × Int :=
  (⟨(listR 4 s e).1.getD 0 0, (listR 4 s e).1.getD 1 0, (listR 4 s e).1.getD 2 0, (listR 4 s e).1.getD 3 0⟩, (listR 4 s e).2)
theorem list_four (s : ByteArray) (e : Int) : ∃ a b c d, (listR 4 s e).1 = [a, b, c, d] := ⟨_, _, _, _, rfl⟩
theorem list_len (s : ByteArray) (e : Int) : ∀ (k : Nat), ∀ (s : ByteArray) (e : Int), (listR k s e).2.1.size ≤ s.size
  | 0, s, e => Nat.le_refl _
  | k + 1, s, e => by
    rw [listR]
    exact Nat.le_trans (list_len s e k _ _) (num_len s e 2)
end Sp
theorem hn_load {w : World} {b : Nat} {c0 c1 c2 c3 : Value} {T : TypeId} (h : w.heap[b]? = some (.cells #[c0, c1, c2, c3] T (0, 0))) : (loadVar 97 ⟨b, 0, none⟩).run Tryd.prog w = .ok (.agg #[c0, c1, c2, c3]) w :=
  run_loadVar_mid w b 0 97 [c0, c1, c2, c3] _ (fun j v hj => by rw [Nat.zero_add]; exact (blk_cell h j v (by rw [← Array.getElem?_toList]; exact hj)).1) Tryd.underlying97 rfl (by kernel_rfl)
theorem cells4m {W : World} {x : Nat} {c0 c1 c2 c3 : Value} {T : TypeId} (h : W.heap[x]? = some (.cells #[c0, c1, c2, c3] T (0, 0))) : W.cell? ⟨x, 0, none⟩ = some c0 ∧ W.cell? ⟨x, 1, none⟩ = some c1 ∧ W.cell? ⟨x, 2, none⟩ = some c2 ∧ W.cell? ⟨x, 3, none⟩ = some c3 :=
  ⟨(blk_cell h 0 _ rfl).1, (blk_cell h 1 _ rfl).1, (blk_cell h 2 _ rfl).1, (blk_cell h 3 _ rfl).1⟩
theorem frz4m {W : World} {x : Nat} {c0 c1 c2 c3 : Value} {T : TypeId} (h : W.heap[x]? = some (.cells #[c0, c1, c2, c3] T (0, 0))) : W.frozen? ⟨x, 0, none⟩ = false ∧ W.frozen? ⟨x, 1, none⟩ = false ∧ W.frozen? ⟨x, 2, none⟩ = false ∧ W.frozen? ⟨x, 3, none⟩ = false :=
  ⟨(blk_cell h 0 _ rfl).2, (blk_cell h 1 _ rfl).2, (blk_cell h 2 _ rfl).2, (blk_cell h 3 _ rfl).2⟩

set_option maxHeartbeats 4000000 in
set_option maxRecDepth 100000 in
theorem rint_any (rb vb : Nat) (s : ByteArray) (e : Int) (T : TypeId) (w : World) (h : Rd w rb s e) (hv : w.heap[vb]? = some (.cells #[.pointer (some ⟨rb, 0, none⟩)] T (0, 0))) (hs : s.size ≤ 1099511627776) :
    Calls Tryd.prog 72 #[.pointer (some ⟨vb, 0, none⟩)] w fun x w' => x = .returned (.int .i64 (Sp.numR s e 2).1) ∧ Rd w' rb (Sp.numR s e 2).2.1 (Sp.numR s e 2).2.2 ∧ Keeps (fun i => i = rb) w w' := by
  have kn := Lib.hid (number_any rb s e 2 w h hs (by decide))
  obtain ⟨v0, g0⟩ := blk_cell hv 0 _ rfl
  have hlv := blk_lt hv
  clear h
  generalize Sp.numR s e 2 = N at *
  obtain ⟨v, s1, e1⟩ := N
  simp only [] at kn ⊢
  go_enter Tryd.func72, Tryd.ntmps72
  go_wp2_with fail
  refine kn.out.mono ?_
  rintro x w1 ⟨rfl, hR1, hK1⟩
  clear kn
  go_wp2
  go_ret
  exact ⟨rfl, hR1, hK1⟩

set_option maxHeartbeats 4000000 in
set_option maxRecDepth 100000 in
theorem rhand_any (rb vb : Nat) (s : ByteArray) (e : Int) (T : TypeId) (w : World) (h : Rd w rb s e) (hv : w.heap[vb]? = some (.cells #[.pointer (some ⟨rb, 0, none⟩)] T (0, 0))) (hs : s.size ≤ 1099511627776) :
    Calls Tryd.prog 104 #[.pointer (some ⟨vb, 0, none⟩)] w fun x w' => x = .returned (Sp.hnV (Sp.handR s e).1) ∧ Rd w' rb (Sp.handR s e).2.1 (Sp.handR s e).2.2 ∧ Keeps (fun i => i = rb) w w' := by
  have hlr := blk_lt h
  have hlv := blk_lt hv
  have hne : rb ≠ w.heap.size := by omega
  have hzb0 : w.heap.size ≤ w.heap.size := Nat.le_refl _
  have hR2 := Lib.hid (blk_old (o := .cells #[.int .i64 0, .int .i64 0, .int .i64 0, .int .i64 0] 97) (blk_old (o := .cells #[.int .i64 0, .int .i64 0, .int .i64 0, .int .i64 0] 97) h))
  have hV2 := Lib.hid (blk_old (o := .cells #[.int .i64 0, .int .i64 0, .int .i64 0, .int .i64 0] 97) (blk_old (o := .cells #[.int .i64 0, .int .i64 0, .int .i64 0, .int .i64 0] 97) hv))
  have hZ2 := Lib.hid (blk_old (o := .cells #[.int .i64 0, .int .i64 0, .int .i64 0, .int .i64 0] 97) (blk_new w (.cells #[.int .i64 0, .int .i64 0, .int .i64 0, .int .i64 0] 97)))
  have hM2 := Lib.hid (blk_new (w.alloc (.cells #[.int .i64 0, .int .i64 0, .int .i64 0, .int .i64 0] 97)) (.cells #[.int .i64 0, .int .i64 0, .int .i64 0, .int .i64 0] 97))
  rw [show (w.alloc (.cells #[.int .i64 0, .int .i64 0, .int .i64 0, .int .i64 0] 97)).heap.size = w.heap.size + 1 by simp] at hM2
  have hK2 := Lib.hid (((Keeps.refl (fun i => i = rb) w).alloc (.cells #[.int .i64 0, .int .i64 0, .int .i64 0, .int .i64 0] 97)).alloc (.cells #[.int .i64 0, .int .i64 0, .int .i64 0, .int .i64 0] 97))
  obtain ⟨a, b, c, d, hL⟩ := Sp.list_four s e
  unfold Sp.handR
  rw [hL]
  have hLL := Lib.hid hL
  clear hL h hv
  generalize hFF : Sp.listR 4 s e = F at *
  obtain ⟨Fl, Fs, Fe⟩ := F
  have hFH := Lib.hid hFF
  clear hFF
  simp only [] at hLL ⊢
  go_enter Tryd.func104, Tryd.ntmps104
  go_upto_region 2 with fail
  generalize (w.alloc (.cells #[.int .i64 0, .int .i64 0, .int .i64 0, .int .i64 0] 97)).alloc (.cells #[.int .i64 0, .int .i64 0, .int .i64 0, .int .i64 0] 97) = W2 at *
  generalize hmb : w.heap.size + 1 = mb at *
  generalize hzb : w.heap.size = zb at *
  have hlm := blk_lt hM2.out
  have hlz2 := blk_lt hZ2.out
  have hlr2 := blk_lt hR2.out
  have kl := Lib.hid (list_any rb mb W2.heap.size s e [0, 1, 2, 3] _ 97 108 4 4 (W2.alloc (.cells (ptrC mb [0, 1, 2, 3]) 108)) (blk_old hR2.out) (blk_old hM2.out) (blk_new _ _) (by omega) (by omega) (by omega) (by simp) rfl (by decide) hs)
  unfold ptrC at kl
  simp only [List.map_cons, List.map_nil] at kl
  rw [hFH.out] at kl
  simp only [] at kl
  rw [hLL.out] at kl
  simp only [Sp.putC] at kl
  have hlz' : w.heap.size ≤ zb := by omega
  obtain ⟨v0, g0⟩ := blk_cell hV2.out 0 _ rfl
  have hlv2 := blk_lt hV2.out
  go_wp2_with fail
  refine kl.out.mono ?_
  rintro x w3 ⟨rfl, hR3, hM3, hK3⟩
  have hZ3 := Lib.hid (hK3.obj (blk_old hZ2.out) (by omega))
  have hKf := Lib.hid ((hK2.out.alloc _).then hK3 (fun i q => q.elim .inl (fun r => .inr (by omega))))
  have hR3' := Lib.hid hR3
  have hM3' := Lib.hid (show w3.heap[mb]? = some (.cells #[.int .i64 a, .int .i64 b, .int .i64 c, .int .i64 d] 97 (0, 0)) from hM3)
  have hlz3 := blk_lt hZ3.out
  have hlm3 := blk_lt hM3
  have hne2 : rb ≠ zb := hne
  clear hR3 hM3 hK3 kl hR2 hZ2 hM2 hK2 v0 g0 hV2 hlv2
  obtain ⟨c0, c1, c2, c3⟩ := cells4m hM3'.out
  obtain ⟨d0, d1, d2, d3⟩ := cells4m hZ3.out
  obtain ⟨f0, f1, f2, f3⟩ := frz4m hZ3.out
  have hfin := Lib.hid (blk_set (i := 3) (blk_set (i := 2) (blk_set (i := 1) (blk_set (i := 0) hZ3.out (.int .i64 a)) (.int .i64 b)) (.int .i64 c)) (.int .i64 d))
  go_wp2
  (try simp only [Exit.inBlock, Exit.then])
  refine bodyPost_ret (results_c rfl _ _ _ rfl (hn_load hfin.out)) rfl ?_
  refine ⟨rfl, ?_, ?_⟩
  · exact blk_other (blk_other (blk_other (blk_other hR3'.out ⟨zb, 0, none⟩ _ hne2) ⟨zb, 1, none⟩ _ hne2) ⟨zb, 2, none⟩ _ hne2) ⟨zb, 3, none⟩ _ hne2
  · exact (((hKf.out.setCell (a := ⟨zb, 0, none⟩) (.inr hlz') _).setCell (a := ⟨zb, 1, none⟩) (.inr hlz') _).setCell (a := ⟨zb, 2, none⟩) (.inr hlz') _).setCell (a := ⟨zb, 3, none⟩) (.inr hlz') _
end Go.Proofs.YthpfknlgfkecpaaDoor
end
