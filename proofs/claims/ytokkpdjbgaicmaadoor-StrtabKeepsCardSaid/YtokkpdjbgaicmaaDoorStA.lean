/-
  What the strtab texts need of the walks of package mutf. (Picked out of chapter 1's texts by gen_st.py.)
-/
import Derived.Test.YtokkpdjbgaicmaaDoorShelf
import Derived.Test.YtokkpdjbgaicmaaDoorMwBase
import Derived.Test.YtokkpdjbgaicmaaDoorMap
import Derived.Laws.AppendOwn
import Derived.Laws.BytesArg
import Derived.OwnWalk
import Derived.WalkSmall
import Derived.Deep.OwnRows
set_option linter.unusedVariables false
set_option linter.unusedSimpArgs false
namespace Go.Proofs.YtokkpdjbgaicmaaDoor
open Go.RowKit Go.Lib

/-- A slice of numbers that is read: nil, empty and other slices alike. -/
def RdN (k : IntKind) (w : World) (A : Option Addr) (xs : List Int) : Prop :=
  xs.length ≤ 9223372036854775807 ∧ (0 < xs.length → ∃ b o, A = some ⟨b, o, none⟩ ∧ ∀ j, j < xs.length → w.cell? ⟨b, o + j, none⟩ = some (.int k (xs.getD j 0)))

theorem own_base {w : World} {base : Nat} {e : TypeId} {size n : Nat} {v : Value} {xs : List Value} (h : w.ownsRow base e size v n xs) (k : Nat) (hk : v.ownBlock = some k) : base ≤ k := by
  rcases h.2 with ⟨rfl, _⟩ | ⟨g, cap, cur, rfl, hb, _⟩
  · simp [Value.ownBlock] at hk
  · have : g = k := by simpa [Value.ownBlock] using hk
    omega

theorem below_then {B : Nat} {w w1 w2 : World} (h : Below B w w1) (hB : B ≤ w1.heap.size) (k : Below w1.heap.size w1 w2) : Below B w w2 :=
  h.trans ⟨k.os, k.tape, k.output, k.size, fun i hi => k.block i (Nat.lt_of_lt_of_le hi hB)⟩

def strOf : Value → ByteArray
  | .string s => s
  | _ => ⟨#[]⟩

theorem cell_below {w w1 : World} (h : Below w.heap.size w w1) {a : Addr} {v : Value} (hc : w.cell? a = some v) : w1.cell? a = some v := (h.cell (World.block_lt_of_cell? w a hc)).trans hc

theorem tabs_below {w w1 : World} {g3 g4 : Nat} (hT : Lib.Utf8Tabs g3 g4 w) (h : Below w.heap.size w w1) : Lib.Utf8Tabs g3 g4 w1 :=
  ⟨fun c hc => cell_below h (hT.1 c hc), fun i hi => ⟨cell_below h (hT.2 i hi).1, cell_below h (hT.2 i hi).2⟩⟩

/-- The tables of unicode/utf8, as they are laid. -/
def Tabs (w : World) : Prop := Lib.Utf8Tabs (Tryd.lays196_ren.g 3) (Tryd.lays196_ren.g 4) w

theorem Tabs.below {w w1 : World} (h : Tabs w) (hb : Below w.heap.size w w1) : Tabs w1 := tabs_below h hb

theorem len_any (s : ByteArray) (w : World) (hs : s.size ≤ 140737488351232) :
    Calls Tryd.prog 22 #[.string s] w fun e w' => e = .returned (.int .i64 ((Sp.runes s).length : Nat)) ∧ Below w.heap.size w w' := by
  have hc := Lib.hid (Tryd.utf8_RuneCountInString s w (by omega))
  rw [Sp.runes_length]
  generalize Lib.runeCount s = n at hc ⊢
  go_enter Tryd.func22, Tryd.ntmps22
  go_wp2_with fail
  refine hc.out.mono ?_
  rintro e w' ⟨rfl, pos, rfl⟩
  go_wp2
  go_ret
  exact ⟨rfl, below_iter _ _ _⟩

theorem runes_le (s : ByteArray) : (Sp.runes s).length ≤ s.size := by rw [Sp.runes_length]; exact Lib.runeCount_le s

theorem rdN_below {k : IntKind} {w w1 : World} {A : Option Addr} {xs : List Int} (h : RdN k w A xs) (hb : Below w.heap.size w w1) : RdN k w1 A xs := by
  refine ⟨h.1, fun h0 => ?_⟩
  obtain ⟨b, o, e, hc⟩ := h.2 h0
  exact ⟨b, o, e, fun j hj => cell_below hb (hc j hj)⟩
theorem str_empty (s : ByteArray) (h : s.size = 0) : s = ⟨#[]⟩ := by
  obtain ⟨⟨l⟩⟩ := s
  have : l = [] := List.eq_nil_of_length_eq_zero h
  rw [this]

theorem blk_cell {w : World} {b : Nat} {C : Array Value} {T : TypeId} (h : w.heap[b]? = some (.cells C T (0, 0))) (j : Nat) (v : Value) (hv : C[j]? = some v) : w.cell? ⟨b, j, none⟩ = some v ∧ w.frozen? ⟨b, j, none⟩ = false :=
  ⟨(Lib.cell_of_heap h j).trans hv, by simp [World.frozen?, h]⟩

theorem blk_set {w : World} {b i : Nat} {C : Array Value} {T : TypeId} {fr : Nat × Nat} (h : w.heap[b]? = some (.cells C T fr)) (v : Value) : (w.setCell ⟨b, i, none⟩ v).heap[b]? = some (.cells (C.setIfInBounds i v) T fr) := by
  simp [World.setCell, Array.getElem?_modify, h]

theorem blk_new (w : World) (o : Obj) : (w.alloc o).heap[w.heap.size]? = some o := by
  show (w.heap.push o)[w.heap.size]? = _
  simp

theorem blk_lt {w : World} {b : Nat} {o : Obj} (h : w.heap[b]? = some o) : b < w.heap.size := by
  obtain ⟨hlt, _⟩ := Array.getElem?_eq_some_iff.1 h
  exact hlt

theorem blk_old {w : World} {b : Nat} {o p : Obj} (h : w.heap[b]? = some p) : (w.alloc o).heap[b]? = some p := (Below.heap_alloc w o b (blk_lt h)).trans h

theorem blk_other {w : World} {b : Nat} {p : Obj} (h : w.heap[b]? = some p) (a : Addr) (v : Value) (hne : b ≠ a.block) : (w.setCell a v).heap[b]? = some p := (Below.heap_setCell w a v b hne).trans h

theorem blk_drew {w : World} {b : Nat} {p : Obj} (h : w.heap[b]? = some p) : w.drew.heap[b]? = some p := h

theorem blk_grown {w w' : World} {b : Nat} {p : Obj} {row : Option Nat} (h : w.heap[b]? = some p) (hg : w.grownBy w' row) (hne : some b ≠ row) : w'.heap[b]? = some p := (hg.block b (blk_lt h) hne).trans h

theorem blk_below {w w' : World} {b : Nat} {p : Obj} (h : w.heap[b]? = some p) (hg : Below w.heap.size w w') : w'.heap[b]? = some p := (hg.block b (blk_lt h)).trans h

theorem own_sl {w : World} {base n : Nat} {e : TypeId} {size : Nat} {v : Value} {xs : List Value} (h : w.ownsRow base e size v n xs) : ∃ A c, v = .slice A n c := by
  rcases h.2 with ⟨hv, h0⟩ | ⟨g, cap, cur, hv, _⟩
  · exact ⟨none, 0, by rw [hv, h0]⟩
  · exact ⟨_, _, hv⟩

theorem own_below {w w1 : World} {base n size : Nat} {e : TypeId} {v : Value} {xs : List Value} (h : w.ownsRow base e size v n xs) (hb : Below w.heap.size w w1) : w1.ownsRow base e size v n xs := by
  refine ⟨h.1, ?_⟩
  rcases h.2 with h0 | ⟨g, cap, cur, hv, h1, h2, h3, h4, h5⟩
  · exact .inl h0
  · exact .inr ⟨g, cap, cur, hv, h1, blk_below h2 hb, h3, h4, h5⟩
end Go.Proofs.YtokkpdjbgaicmaaDoor
