/-
  What a walk is told of a slice of structs that came in: one law for all.
-/
import Derived.Test.YtokkpdjbgaicmaaDoorStE
import Derived.Test.YtokkpdjbgaicmaaDoorRows
import Derived.Deep.Slices
import Derived.DataShut
import Derived.OpenShut
import Derived.ChangeSame
set_option linter.unusedVariables false
set_option linter.unusedSimpArgs false
set_option maxRecDepth 100000
namespace Go.Proofs.YtokkpdjbgaicmaaDoor
open Go.ChangeShapes Go.WideShapes Go.RowKit Go.Lib Go.Deep

/-- A sum over numbers. -/
def sumL : List Nat → Nat
  | [] => 0
  | a :: l => a + sumL l
theorem sumL_map {α β : Type} (f : α → β) (g : β → Nat) : ∀ l : List α, sumL ((l.map f).map g) = sumL (l.map fun i => g (f i))
  | [] => rfl
  | a :: l => by simp only [List.map_cons, sumL, sumL_map f g l]
theorem sumL_le {α : Type} (f g : α → Nat) : ∀ l : List α, (∀ x ∈ l, f x ≤ g x) → sumL (l.map f) ≤ sumL (l.map g)
  | [], _ => Nat.le_refl _
  | a :: l, h => by
    have h1 := h a (List.mem_cons_self ..)
    have h2 := sumL_le f g l (fun x hx => h x (List.mem_cons_of_mem _ hx))
    simp only [List.map_cons, sumL]
    omega

section
variable {H : Type} {enc : TypeId × Value → H} {W : World} {base : Nat} {sp : Nat → Bool} {held : Bool}

theorem bulk_map {D : Nat → DataW H} : ∀ l : List Nat, Rows.uptoBulkAll (l.map D) = sumL (l.map fun i => Rows.uptoBulk (D i))
  | [] => rfl
  | a :: l => by simp only [List.map_cons, Rows.uptoBulkAll, sumL, bulk_map l]

/-- Elements that are cells of n, each opened by its own law. -/
theorem sl_cells {α : Type} {E : α → List Value} {Q : α → Prop} {m : α → Nat} {n : Nat} (hn : ∀ x, (E x).length = n) (h0n : 0 < n) (a0 : α) {t e : TypeId} (ht : Tryd.prog.underlying t = some (.slice e)) (hC : Tryd.prog.cellsOf e = n)
    (hel : ∀ {fuel : Nat} {cs : List Value} {x : DataW H × List MemPlace}, DataW.trod enc Tryd.prog W base sp held fuel e cs = some x → ∃ a : α, cs = E a ∧ Q a ∧ m a ≤ Rows.uptoBulk x.1)
    {fuel : Nat} {cs : List Value} {x : DataW H × List MemPlace} (h : DataW.trod enc Tryd.prog W base sp held fuel t cs = some x) :
    ∃ (A : Option Addr) (c : Nat) (l : List α), cs = [.slice A l.length c] ∧ RdL E W A l ∧ (∀ a ∈ l, Q a) ∧ sumL (l.map m) ≤ Rows.uptoBulk x.1 ∧ (l.length ≤ c ∧ (A = none → c = 0)) := by
  rcases open_slice ht h with ⟨h1, h2⟩ | ⟨a, len, cap, mm, k, D, Pl, h1, hb, hl, hm, hmm, hx, hi⟩
  · exact ⟨none, 0, [], h1, rdL_nil _ _ _, by simp, by simp [sumL], by simp⟩
  · rw [hC] at hi
    have hlm : len ≤ mm := by rw [hmm]; split <;> omega
    have hch : ∀ i, i < len → ∃ y : α, (∀ j v, (E y)[j]? = some v → W.cell? ((a.add (i * n)).add j) = some v) ∧ Q y ∧ m y ≤ Rows.uptoBulk (D i) := by
      intro i hlt
      obtain ⟨cs', hc, ht'⟩ := hi i (by omega)
      obtain ⟨y, e1, e2, e3⟩ := hel ht'
      obtain ⟨_, hcl, hat⟩ := World.cells?_some hc
      subst e1
      refine ⟨y, fun j v hj => ?_, e2, e3⟩
      have hjl := (List.getElem?_eq_some_iff.1 hj).1
      rw [hn] at hjl
      have := hat j (by first | exact hjl | (rw [hn]; exact hjl))
      rw [this]
      simpa using hj
    haveI : Inhabited α := ⟨a0⟩
    obtain ⟨f, hf⟩ := choose_lt (α := α) hch
    have hlen : ((List.range len).map f).length = len := by simp
    refine ⟨some a, cap, (List.range len).map f, by rw [hlen]; exact h1, ⟨by rw [hlen]; unfold maxLen at hm; omega, fun h0 => ?_⟩, ?_, ?_, by rw [hlen]; exact ⟨hl, by simp⟩⟩
    · rw [hlen] at h0
      obtain ⟨b, off, spot⟩ := a
      have hspot : spot = none := by
        have hv : (E (f 0))[0]? = some ((E (f 0))[0]'(by rw [hn]; exact h0n)) := List.getElem?_eq_getElem _
        have := World.cell?_spot ((hf 0 h0).1 0 _ hv)
        simpa [Addr.add] using this
      subst hspot
      refine ⟨b, off, rfl, fun q v hq => ?_⟩
      have hlenq := (List.getElem?_eq_some_iff.1 hq).1
      rw [flat_length E n hn, hlen] at hlenq
      have hj : q % n < n := Nat.mod_lt _ h0n
      have hi2 : q / n < len := (Nat.div_lt_iff_lt_mul h0n).2 hlenq
      have hqe : q / n * n + q % n = q := by rw [Nat.mul_comm]; exact Nat.div_add_mod q n
      have hg := flat_get E n hn ((List.range len).map f) (q / n) (q % n) (by rw [hlen]; exact hi2) hj
      rw [hqe, hq] at hg
      simp only [List.getElem_map, List.getElem_range] at hg
      have := (hf (q / n) hi2).1 (q % n) v hg.symm
      rw [Addr.add_mid, Addr.add_mid, Nat.add_assoc, hqe] at this
      exact this
    · intro y hy
      obtain ⟨i, hi1, rfl⟩ := List.mem_map.1 hy
      exact (hf i (List.mem_range.1 hi1)).2.1
    · rw [hx]
      simp only [Rows.uptoBulk, bulk_map]
      rw [sumL_map]
      have := sumL_le (fun i => m (f i)) (fun i => Rows.uptoBulk (D i)) (List.range len) (fun i hi => (hf i (List.mem_range.1 hi)).2.2)
      omega
end
end Go.Proofs.YtokkpdjbgaicmaaDoor
