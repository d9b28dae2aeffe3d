/-
  Texts of the proof, joined: each says at its head what it proves.
-/
import Derived.Test.YthpfknlgfkecpaaDoorJg6
import Derived.Test.YthpfknlgfkecpaaDoorJFileNamesx1
section
/-
  Walk of chapter 3's small file.
-/
set_option linter.unusedVariables false
set_option linter.unusedSimpArgs false
namespace Go.Proofs.YthpfknlgfkecpaaDoor
open Go.RowKit Go.Lib

theorem fl_load {w : World} {b : Nat} {c0 c1 c2 c3 c4 c5 c6 : Value} {T : TypeId} (h : w.heap[b]? = some (.cells #[c0, c1, c2, c3, c4, c5, c6] T (0, 0))) : (loadVar 53 ⟨b, 0, none⟩).run Tryd.prog w = .ok (.agg #[c0, c1, c2, c3, c4, c5, c6]) w :=
  run_loadVar_mid w b 0 53 [c0, c1, c2, c3, c4, c5, c6] _ (fun j v hj => by rw [Nat.zero_add]; exact (blk_cell h j v (by rw [← Array.getElem?_toList]; exact hj)).1) Tryd.underlying53 rfl (by kernel_rfl)

namespace Sp
def smallP : List Cn := [⟨1, ⟨#[65]⟩, 0, 0, 0, 0⟩, ⟨4, ⟨#[]⟩, 0, 1, 0, 0⟩, ⟨1, ⟨#[79, 98, 106, 101, 99, 116]⟩, 0, 0, 0, 0⟩, ⟨4, ⟨#[]⟩, 0, 3, 0, 0⟩]
end Sp
def smallF : FlP := ⟨Sp.smallP, 0, 2, 4, [], [], []⟩
def smallQ (b : Nat) : Sp.At := ⟨some ⟨b, 0, none⟩, 4, none, 0, none, 0, none, 0⟩
theorem range_blk {w : World} {b : Nat} {C : Array Value} {T : TypeId} (h : w.heap[b]? = some (.cells C T (0, 0))) : w.rangeAt b 0 C.toList := fun j v hj => by
  rw [Nat.zero_add]
  exact (blk_cell h j v (by rw [← Array.getElem?_toList]; exact hj)).1
theorem rdL_blk {α : Type} {enc : α → List Value} {w : World} {b : Nat} {C : Array Value} {T : TypeId} {l : List α} (h : w.heap[b]? = some (.cells C T (0, 0))) (hC : C.toList = l.flatMap enc) (hl : l.length ≤ 9223372036854775807) : RdL enc w (some ⟨b, 0, none⟩) l :=
  ⟨hl, fun _ => ⟨b, 0, rfl, by rw [← hC]; exact range_blk h⟩⟩
theorem rdN_nil (k : IntKind) (w : World) (A : Option Addr) : RdN k w A [] := ⟨by simp, fun h => by simp at h⟩

set_option maxHeartbeats 4000000 in
set_option maxRecDepth 100000 in
theorem lawSmall_any (w : World) :
    Calls Tryd.prog 56 #[] w fun e w' => ∃ b, e = .returned (.agg (flC (smallQ b) smallF)) ∧ w.heap.size ≤ b ∧ w'.heap[b]? = some (.cells (Sp.smallP.flatMap Sp.cnC).toArray 58 (0, 0)) ∧ Below w.heap.size w w' := by
  go_enter Tryd.func56, Tryd.ntmps56
  go_wp2
  refine bodyPost_ret (results_c rfl _ _ _ rfl (fl_load (blk_old (blk_new w _)))) rfl ?_
  refine ⟨w.heap.size + 1, rfl, by omega, ?_, ((Below.refl w.heap.size w).alloc (Nat.le_refl _) _).alloc (by simp) _⟩
  generalize hW : w.alloc _ = W
  have : w.heap.size + 1 = W.heap.size := by rw [← hW]; simp
  rw [this]
  exact blk_new _ _
theorem rdF_small {w : World} {b : Nat} (h : w.heap[b]? = some (.cells (Sp.smallP.flatMap Sp.cnC).toArray 58 (0, 0))) : RdF w (smallQ b) smallF :=
  ⟨rdL_blk h rfl (by decide), rdN_nil _ _ _, ⟨rdL_nil _ _ _, fun m hm => by cases hm⟩, ⟨rdL_nil _ _ _, fun m hm => by cases hm⟩⟩
end Go.Proofs.YthpfknlgfkecpaaDoor
end
