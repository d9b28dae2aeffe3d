/-
  What a walk is told of a slice of integers that came in.
-/
import Derived.Test.YtkppjehpfjalbaaDoorPl7
import Derived.DataShut
import Derived.OpenShut
set_option linter.unusedVariables false
set_option linter.unusedSimpArgs false
namespace Go.Proofs.YtkppjehpfjalbaaDoor
open Go.RowKit Go.Lib

def IsRow (k : IntKind) (w : World) (a : Option Addr) (len cap : Nat) (zs : List Int) : Prop :=
  (a = none ∧ len = 0 ∧ cap = 0 ∧ zs = []) ∨
  ∃ x, a = some x ∧ len ≤ cap ∧ cap ≤ maxLen ∧ zs.length = cap ∧ (∀ i, i < zs.length → w.cell? (x.add i) = some (.int k (zs.getD i 0))) ∧ ∀ n ∈ zs, (Lit.int k n).wf = true

theorem isRow_rd {k : IntKind} {w : World} {a : Option Addr} {len cap : Nat} {zs : List Int} (h : IsRow k w a len cap zs) :
    ∃ l, len = l.length ∧ RdN k w a l ∧ ∀ n ∈ l, k.min ≤ n ∧ n ≤ k.max := by
  rcases h with ⟨rfl, rfl, rfl, rfl⟩ | ⟨x, rfl, hl, hm, hz, hcell, hwf⟩
  · exact ⟨[], rfl, ⟨by simp, fun h => by simp at h⟩, by simp⟩
  · have hlen : (zs.take len).length = len := by simp; omega
    refine ⟨zs.take len, hlen.symm, ⟨by rw [hlen]; unfold maxLen at hm; omega, fun h0 => ?_⟩, fun n hn => (Lit.wf_int_iff k n).1 (hwf n (List.mem_of_mem_take hn))⟩
    rw [hlen] at h0
    obtain ⟨b, off, hx, hc⟩ := ints_at hcell (by omega)
    subst hx
    refine ⟨b, off, rfl, fun j hj => ?_⟩
    rw [hlen] at hj
    rw [hc j (by omega)]
    congr 2
    simp [List.getD_eq_getElem?_getD, List.getElem?_take, hj]
end Go.Proofs.YtkppjehpfjalbaaDoor
