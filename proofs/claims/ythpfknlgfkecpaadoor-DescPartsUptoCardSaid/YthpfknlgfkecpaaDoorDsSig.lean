/-
  Signatures: plain words; blocks whose cells are known.
-/
import Derived.Test.YthpfknlgfkecpaaDoorDsPl
import Derived.Test.YthpfknlgfkecpaaDoorDs5
set_option linter.unusedVariables false
set_option linter.unusedSimpArgs false
namespace Go.Proofs.YthpfknlgfkecpaaDoor
open Go.RowKit Go.Lib

namespace Sp
/-- A signature: arguments, what it returns, none. -/
abbrev Sig := List Ty × Ty × Bool
def sig0 : Sig := ([], t0, false)
/-- The types up to the closing bracket, and what is left from it on. -/
def argsF : Nat → ByteArray → Option (List Ty × ByteArray)
  | 0, _ => none
  | f + 1, s => if bt s 0 = 41 then some ([], s) else match readS s with
    | none => none
    | some q => (argsF f q.2).map fun r => (q.1 :: r.1, r.2)
def doneS (l : List Ty) (t : Ty) (v : Bool) : Sig × Int := if 16 < l.length then (sig0, 3) else ((l, t, v), 0)
def finS (l : List Ty) (r : ByteArray) : Sig × Int :=
  if r = B [41, 86] then doneS l t0 true else if (fieldS (r.extract 1 r.size)).2 = 0 then doneS l (fieldS (r.extract 1 r.size)).1 false else (sig0, 9)
def endS (o : Option (List Ty × ByteArray)) : Sig × Int := match o with
  | none => (sig0, 9)
  | some q => finS q.1 q.2
def methodS (s : ByteArray) : Sig × Int := if bt s 0 = 40 then endS (argsF s.size (s.extract 1 s.size)) else (sig0, 9)
/-- What is read ahead of what is still to be read. -/
def ahead (acc : List Ty) (o : Option (List Ty × ByteArray)) : Option (List Ty × ByteArray) := o.map fun r => (acc ++ r.1, r.2)
theorem ahead_nil (o : Option (List Ty × ByteArray)) : ahead [] o = o := by cases o <;> simp [ahead]
theorem ahead_cons (acc : List Ty) (t : Ty) (o : Option (List Ty × ByteArray)) : ahead acc (o.map fun r => (t :: r.1, r.2)) = ahead (acc ++ [t]) o := by cases o <;> simp [ahead]
theorem fieldS_err (s : ByteArray) : (fieldS s).2 = 0 ∨ (fieldS s).2 = 9 := by
  unfold fieldS
  split
  · exact .inr rfl
  · split
    · exact .inl rfl
    · exact .inr rfl
def sigV (A : Option Addr) (c : Nat) (m : Sig) : Value := .agg #[.slice A m.1.length c, .int .i64 m.2.1.1, .string m.2.1.2, .bool m.2.2]
def tyCells : List Ty → List Value
  | [] => []
  | t :: l => .int .i64 t.1 :: .string t.2 :: tyCells l
theorem tyCells_length : ∀ l : List Ty, (tyCells l).length = l.length * 2
  | [] => rfl
  | t :: l => by simp only [tyCells, List.length_cons, tyCells_length l]; omega
theorem tyCells_append : ∀ a b : List Ty, tyCells (a ++ b) = tyCells a ++ tyCells b
  | [], _ => rfl
  | t :: a, b => by simp only [List.cons_append, tyCells, tyCells_append a b]
theorem tyCells_get : ∀ (l : List Ty) (j : Nat) (h : j < l.length), (tyCells l)[2 * j]? = some (.int .i64 (l[j]).1) ∧ (tyCells l)[2 * j + 1]? = some (.string (l[j]).2)
  | [], _, h => by simp at h
  | t :: l, 0, _ => by simp [tyCells]
  | t :: l, j + 1, h => by
    have := tyCells_get l j (by simpa using h)
    rw [show 2 * (j + 1) = 2 * j + 1 + 1 by omega]
    simpa [tyCells] using this
end Sp

/-- A slice of types is read. -/
def RdT (w : World) (A : Option Addr) (l : List Sp.Ty) : Prop := l.length ≤ 9223372036854775807 ∧ (0 < l.length → ∃ b o, A = some ⟨b, o, none⟩ ∧ w.rangeAt b o (Sp.tyCells l))

theorem rdT_nil (w : World) (A : Option Addr) : RdT w A [] := ⟨by simp, fun h => by simp at h⟩
theorem rdT_get {w : World} {b o : Nat} {l : List Sp.Ty} (h : w.rangeAt b o (Sp.tyCells l)) {j : Nat} (hj : j < l.length) : w.cell? ⟨b, o + 2 * j, none⟩ = some (.int .i64 (l[j]).1) ∧ w.cell? ⟨b, o + 2 * j + 1, none⟩ = some (.string (l[j]).2) := by
  have := Sp.tyCells_get l j hj
  exact ⟨h _ _ this.1, by have := h _ _ this.2; rwa [← Nat.add_assoc] at this⟩

namespace Sp
/-- What is read is right, and its text is gone. -/
theorem readS_size (s : ByteArray) (q : Ty × ByteArray) (h : readS s = some q) : q.2.size < s.size ∧ q.1.2.size ≤ s.size ∧ rightS q.1 = true := by
  have ht := trim_size s
  unfold readS at h
  by_cases c1 : Lib.hasPrefix (trimB s).data.toList [73] = true
  · rw [if_pos c1] at h
    have hp := pre_size _ _ c1
    split at h
    · rename_i hr
      injection h with h
      subst h
      exact ⟨by show (tailB (trimB s)).size < _; simp [tailB]; omega, by show (⟨#[]⟩ : ByteArray).size ≤ _; exact Nat.zero_le _, hr⟩
    · cases h
  · rw [if_neg c1] at h
    by_cases c2 : Lib.hasPrefix (trimB s).data.toList [76] = true
    · rw [if_pos c2] at h
      have hp := pre_size _ _ c2
      have hz : (tailB (trimB s)).size = (trimB s).size - 1 := by simp [tailB]
      split at h
      · cases h
      · split at h
        · rename_i hr
          injection h with h
          subst h
          refine ⟨?_, ?_, hr⟩
          · simp only [ByteArray.size_extract]
            omega
          · simp only [ByteArray.size_extract]
            omega
        · cases h
    · rw [if_neg c2] at h
      cases h
end Sp

/-! Blocks. -/
theorem blk_cell {w : World} {b : Nat} {C : Array Value} {T : TypeId} (h : w.heap[b]? = some (.cells C T (0, 0))) (j : Nat) (v : Value) (hv : C[j]? = some v) : w.cell? ⟨b, j, none⟩ = some v ∧ w.frozen? ⟨b, j, none⟩ = false :=
  ⟨(Lib.cell_of_heap h j).trans hv, by simp [World.frozen?, h]⟩
theorem blk4 {w : World} {b : Nat} {x y z u : Value} {T : TypeId} (h : w.heap[b]? = some (.cells #[x, y, z, u] T (0, 0))) : (w.cell? ⟨b, 0, none⟩ = some x ∧ w.cell? ⟨b, 1, none⟩ = some y ∧ w.cell? ⟨b, 2, none⟩ = some z ∧ w.cell? ⟨b, 3, none⟩ = some u) ∧ (w.frozen? ⟨b, 0, none⟩ = false ∧ w.frozen? ⟨b, 1, none⟩ = false ∧ w.frozen? ⟨b, 2, none⟩ = false ∧ w.frozen? ⟨b, 3, none⟩ = false) :=
  ⟨⟨(blk_cell h 0 x rfl).1, (blk_cell h 1 y rfl).1, (blk_cell h 2 z rfl).1, (blk_cell h 3 u rfl).1⟩, (blk_cell h 0 x rfl).2, (blk_cell h 1 y rfl).2, (blk_cell h 2 z rfl).2, (blk_cell h 3 u rfl).2⟩
theorem blk2 {w : World} {b : Nat} {x y : Value} {T : TypeId} (h : w.heap[b]? = some (.cells #[x, y] T (0, 0))) : (w.cell? ⟨b, 0, none⟩ = some x ∧ w.cell? ⟨b, 1, none⟩ = some y) ∧ (w.frozen? ⟨b, 0, none⟩ = false ∧ w.frozen? ⟨b, 1, none⟩ = false) :=
  ⟨⟨(blk_cell h 0 x rfl).1, (blk_cell h 1 y rfl).1⟩, (blk_cell h 0 x rfl).2, (blk_cell h 1 y rfl).2⟩
theorem blk1 {w : World} {b : Nat} {x : Value} {T : TypeId} (h : w.heap[b]? = some (.cells #[x] T (0, 0))) : w.cell? ⟨b, 0, none⟩ = some x ∧ w.frozen? ⟨b, 0, none⟩ = false := blk_cell h 0 x rfl
theorem blk_set {w : World} {b i : Nat} {C : Array Value} {T : TypeId} {fr : Nat × Nat} (h : w.heap[b]? = some (.cells C T fr)) (v : Value) : (w.setCell ⟨b, i, none⟩ v).heap[b]? = some (.cells (C.setIfInBounds i v) T fr) := by
  simp [World.setCell, Array.getElem?_modify, h]
theorem blk_new (w : World) (o : Obj) : (w.alloc o).heap[w.heap.size]? = some o := by
  show (w.heap.push o)[w.heap.size]? = _
  simp
theorem blk_lt {w : World} {b : Nat} {o : Obj} (h : w.heap[b]? = some o) : b < w.heap.size := by
  obtain ⟨hlt, _⟩ := Array.getElem?_eq_some_iff.1 h
  exact hlt
theorem blk_old {w : World} {b : Nat} {o p : Obj} (h : w.heap[b]? = some p) : (w.alloc o).heap[b]? = some p := (Below.heap_alloc w o b (blk_lt h)).trans h
theorem blk_other {w : World} {b : Nat} {p : Obj} (h : w.heap[b]? = some p) (a : Addr) (v : Value) (hne : b ≠ a.block) : (w.setCell a v).heap[b]? = some p := (Below.heap_setCell w a v b hne).trans h
theorem blk_drew {w : World} {b : Nat} {p : Obj} (h : w.heap[b]? = some p) : w.drew.heap[b]? = some p := h
theorem blk_grown {w w' : World} {b : Nat} {p : Obj} {row : Option Nat} (h : w.heap[b]? = some p) (hg : w.grownBy w' row) (hne : some b ≠ row) : w'.heap[b]? = some p := (hg.block b (blk_lt h) hne).trans h
theorem blk_below {w w' : World} {b : Nat} {p : Obj} (h : w.heap[b]? = some p) (hg : Below w.heap.size w w') : w'.heap[b]? = some p := (hg.block b (blk_lt h)).trans h
theorem own_rdT {w : World} {base : Nat} {e : TypeId} {A : Option Addr} {n c : Nat} {l : List Sp.Ty} (h : w.ownsRow base e 2 (.slice A n c) n (Sp.tyCells l)) : n = l.length ∧ RdT w A l := by
  have hl : (Sp.tyCells l).length = n * 2 := h.1
  rw [Sp.tyCells_length] at hl
  have hn : n = l.length := by omega
  have hm : n ≤ 9223372036854775807 := by
    rcases h.2 with ⟨_, h0⟩ | ⟨g, cap, cur, hv, h1, h2, h3, h4, h5⟩
    · omega
    · have := h4; unfold maxLen at this; omega
  refine ⟨hn, by omega, fun h0 => ?_⟩
  obtain ⟨g, hA⟩ : ∃ g, A = some ⟨g, 0, none⟩ := by
    rcases h.2 with ⟨_, h1⟩ | ⟨g, cap, cur, hv, _⟩
    · omega
    · exact ⟨g, by injection hv⟩
  subst hA
  refine ⟨g, 0, rfl, fun j v hj => ?_⟩
  have hc := h.cells (g := g) rfl j v hj
  rw [show (⟨g, 0, none⟩ : Addr).add j = ⟨g, 0 + j, none⟩ by unfold Addr.add; split <;> simp_all] at hc
  exact hc
theorem own_sl {w : World} {base n : Nat} {e : TypeId} {size : Nat} {v : Value} {xs : List Value} (h : w.ownsRow base e size v n xs) : ∃ A c, v = .slice A n c := by
  rcases h.2 with ⟨hv, h0⟩ | ⟨g, cap, cur, hv, _⟩
  · exact ⟨none, 0, by rw [hv, h0]⟩
  · exact ⟨_, _, hv⟩
theorem own_len {w : World} {base n : Nat} {e : TypeId} {v : Value} {xs : List Value} (h : w.ownsRow base e 2 v n xs) : n ≤ 9223372036854775807 := by
  rcases h.2 with ⟨_, h0⟩ | ⟨g, cap, cur, hv, h1, h2, h3, h4, h5⟩
  · omega
  · have := h4; unfold maxLen at this; omega
theorem own_below {w w1 : World} {base n size : Nat} {e : TypeId} {v : Value} {xs : List Value} (h : w.ownsRow base e size v n xs) (hb : Below w.heap.size w w1) : w1.ownsRow base e size v n xs := by
  refine ⟨h.1, ?_⟩
  rcases h.2 with h0 | ⟨g, cap, cur, hv, h1, h2, h3, h4, h5⟩
  · exact .inl h0
  · exact .inr ⟨g, cap, cur, hv, h1, blk_below h2 hb, h3, h4, h5⟩
theorem kept_grown {w w1 : World} {row : Option Nat} (hg : w.grownBy w1 row) {a : Addr} {v : Value} (hc : w.cell? a = some v ∧ w.frozen? a = false) (hne : some a.block ≠ row) : w1.cell? a = some v ∧ w1.frozen? a = false := by
  have hlt := World.block_lt_of_cell? w a hc.1
  exact ⟨hg.cell hc.1 hne, (World.frozen?_of_block (hg.block a.block hlt hne)).trans hc.2⟩
theorem own_set {w : World} {base n size : Nat} {e : TypeId} {v : Value} {xs : List Value} (h : w.ownsRow base e size v n xs) {b o : Nat} (hne : ∀ k, v.ownBlock = some k → k ≠ b) (u : Value) : (w.setCell ⟨b, o, none⟩ u).ownsRow base e size v n xs := by
  refine h.kept (row := some b) (grown_set (World.grownBy.refl w (some b)) u) ?_
  cases hk : v.ownBlock with
  | none => exact .inl rfl
  | some k => exact .inr (fun e => hne k hk (by injection e))
theorem own_blk {w : World} {base n : Nat} {e : TypeId} {size : Nat} {v : Value} {xs : List Value} (h : w.ownsRow base e size v n xs) {k : Nat} (hk : v.ownBlock = some k) : base ≤ k := (h.lt k hk).1
theorem rdT_below {w w1 : World} {A : Option Addr} {l : List Sp.Ty} (h : RdT w A l) (hb : Below w.heap.size w w1) : RdT w1 A l := by
  refine ⟨h.1, fun h0 => ?_⟩
  obtain ⟨b, o, hA, hr⟩ := h.2 h0
  exact ⟨b, o, hA, fun j v hj => cell_below hb (hr j v hj)⟩
end Go.Proofs.YthpfknlgfkecpaaDoor
