/-
  Lists of things of so many cells each. (Picked out of chapter 1's texts by gen_st.py.)
-/
import Derived.Test.YtokkpdjbgaicmaaDoorSt2
set_option linter.unusedVariables false
set_option linter.unusedSimpArgs false
namespace Go.Proofs.YtokkpdjbgaicmaaDoor
open Go.RowKit Go.Lib

def RdL {α : Type} (enc : α → List Value) (w : World) (A : Option Addr) (l : List α) : Prop := l.length ≤ 9223372036854775807 ∧ (0 < l.length → ∃ b o, A = some ⟨b, o, none⟩ ∧ w.rangeAt b o (l.flatMap enc))

theorem flat_length {α : Type} (enc : α → List Value) (n : Nat) (h : ∀ x, (enc x).length = n) : ∀ l : List α, (l.flatMap enc).length = l.length * n
  | [] => by simp
  | x :: l => by rw [List.flatMap_cons, List.length_append, h, flat_length enc n h l, List.length_cons, Nat.add_mul, Nat.one_mul, Nat.add_comm]

theorem flat_get {α : Type} (enc : α → List Value) (n : Nat) (h : ∀ x, (enc x).length = n) : ∀ (l : List α) (j i : Nat) (hj : j < l.length), i < n → (l.flatMap enc)[j * n + i]? = (enc l[j])[i]?
  | [], _, _, hj, _ => by simp at hj
  | x :: l, 0, i, _, hi => by
    rw [List.flatMap_cons, Nat.zero_mul, Nat.zero_add, List.getElem?_append_left (by rw [h]; exact hi)]
    rfl
  | x :: l, j + 1, i, hj, hi => by
    rw [List.flatMap_cons, List.getElem?_append_right (by rw [h, Nat.add_mul]; omega), h, show (j + 1) * n + i - n = j * n + i by rw [Nat.add_mul]; omega]
    exact flat_get enc n h l j i (by simpa using hj) hi

theorem rdL_get {α : Type} {enc : α → List Value} {w : World} {b o : Nat} {l : List α} (n : Nat) (h : ∀ x, (enc x).length = n) (hr : w.rangeAt b o (l.flatMap enc)) {j : Nat} (hj : j < l.length) (i : Nat) (hi : i < n) {v : Value} (hv : (enc l[j])[i]? = some v) : w.cell? ⟨b, o + j * n + i, none⟩ = some v := by
  have := hr (j * n + i) v (by rw [flat_get enc n h l j i hj hi, hv])
  rwa [← Nat.add_assoc] at this

theorem rdL_below {α : Type} {enc : α → List Value} {w w1 : World} {A : Option Addr} {l : List α} (h : RdL enc w A l) (hb : Below w.heap.size w w1) : RdL enc w1 A l := by
  refine ⟨h.1, fun h0 => ?_⟩
  obtain ⟨b, o, hA, hr⟩ := h.2 h0
  exact ⟨b, o, hA, fun j v hj => cell_below hb (hr j v hj)⟩

theorem rdL_nil {α : Type} (enc : α → List Value) (w : World) (A : Option Addr) : RdL enc w A [] := ⟨by simp, fun h => by simp at h⟩

/-- What is owned is read. -/
theorem own_rdL {α : Type} {enc : α → List Value} {n : Nat} (hn : ∀ x, (enc x).length = n) (h0 : 0 < n) {w : World} {base m c : Nat} {e : TypeId} {A : Option Addr} {l : List α} (h : w.ownsRow base e n (.slice A m c) m (l.flatMap enc)) : m = l.length ∧ RdL enc w A l := by
  have hl : (l.flatMap enc).length = m * n := h.1
  rw [flat_length enc n hn] at hl
  have hm : m = l.length := (Nat.eq_of_mul_eq_mul_right h0 hl).symm
  have hx : m ≤ 9223372036854775807 := by
    rcases h.2 with ⟨_, h0⟩ | ⟨g, cap, cur, hv, h1, h2, h3, h4, h5⟩
    · omega
    · have := h4; unfold maxLen at this; omega
  refine ⟨hm, by omega, fun h0 => ?_⟩
  obtain ⟨g, hA⟩ : ∃ g, A = some ⟨g, 0, none⟩ := by
    rcases h.2 with ⟨_, h1⟩ | ⟨g, cap, cur, hv, _⟩
    · omega
    · exact ⟨g, by injection hv⟩
  subst hA
  refine ⟨g, 0, rfl, fun j v hj => ?_⟩
  have hc := h.cells (g := g) rfl j v hj
  rw [show (⟨g, 0, none⟩ : Addr).add j = ⟨g, 0 + j, none⟩ by unfold Addr.add; split <;> simp_all] at hc
  exact hc
/-- Strings as cells. -/
def strC (s : ByteArray) : List Value := [.string s]
theorem strC_len (s : ByteArray) : (strC s).length = 1 := rfl
theorem strC_flat (l : List ByteArray) : l.flatMap strC = l.map Value.string := by induction l with | nil => rfl | cons a l ih => simp [strC, ih]
end Go.Proofs.YtokkpdjbgaicmaaDoor
