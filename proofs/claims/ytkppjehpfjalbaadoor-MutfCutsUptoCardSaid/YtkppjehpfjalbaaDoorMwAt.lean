/-
  Walks of mutf.At and mutf.Len.
-/
import Derived.Test.YtkppjehpfjalbaaDoorProg
import Derived.Test.YtkppjehpfjalbaaDoorSpec
import Derived.WalkKit
import Derived.Lib.Walk
import Derived.Laws.RangeString
import Derived.Laws.RangeAny
import Derived.LoopTactic
import Derived.Below
import Derived.Deep.QuietTactic
import Derived.BigQuiet
import Derived.Lib.Hide
import Derived.IntWalk
set_option linter.unusedVariables false
namespace Go.Proofs.YtkppjehpfjalbaaDoor
open Go.RowKit Go.Lib

theorem below_drewNv {B : Nat} {a w : World} (h : Below B a w) (n : Nat) : Below B a (w.drewN n) := h.trans ⟨rfl, rfl, rfl, Nat.le_refl _, fun _ _ => rfl⟩
theorem below_iter (w : World) (s : ByteArray) (pos : Nat) : Below w.heap.size w (w.iter s pos) :=
  (Below.refl _ _).alloc (Nat.le_refl _) _

set_option maxHeartbeats 4000000 in
theorem at_any (s : ByteArray) (i : Int) (w : World) (hs : s.size ≤ 140737488351232) (h0 : -9223372036854775808 ≤ i) (h1 : i ≤ 9223372036854775807) (hx : -9223372036854775808 + 140737488351232 < i ∨ 0 ≤ i) :
    Calls Tryd.prog 39 #[.string s, .int .i64 i] w fun e w' => e = .returned (.tuple #[.int .i32 (Sp.atL (Sp.runes s) i).1, .bool (Sp.atL (Sp.runes s) i).2]) ∧ Below w.heap.size w w' := by
  go_enter Tryd.func39, Tryd.ntmps39
  go_wp2
  go_loopw [1] (fun n w' => ∃ (pos b : Nat) (j : Int), w' = w.iter s pos ∧ n = .int .i64 j ∧ Hid (Sp.atL (Sp.rl s b pos) j = Sp.atL (Sp.runes s) i) ∧ s.size ≤ pos + b ∧ j ≤ i ∧ i ≤ j + pos) (fun _ w' => s.size - w'.iterPos w.heap.size)
  case atStart => exact ⟨0, s.size, i, rfl, rfl, rfl, by omega, by omega, by omega⟩
  case round =>
    obtain ⟨pos, b, j, rfl, rfl, hc, hb, ha, hd⟩ := hrel
    by_cases hp : pos < s.size
    · have hnx : ∀ ty, (Instr.next (.pointer (some ⟨w.heap.size, 0, none⟩)) true ty).run Tryd.prog (w.iter s pos) = _ := fun ty => run_next_any w s pos ty hp
      have hwd := Lib.decode_width_pos s pos hp
      obtain ⟨g, rfl, hg, hr⟩ := Sp.rl_step s b pos hp hb
      have hr' := Lib.hid hr
      clear hr
      by_cases hj : j = 0
      · subst hj
        go_wp2
        go_ret2
        have hr := hr'.out
        have hv : Sp.atL (Sp.runes s) i = (((Utf8.decode s pos).1 : Int), true) := by rw [← hc.out, hr]; simp [Sp.atL]
        exact ⟨by rw [hv]; rfl, below_iter _ _ _⟩
      · have hj' : (j == 0) = false := by simpa using hj
        go_wp2
        go_roundw
        case rel => exact ⟨_, g, j - 1, rfl, rfl, Lib.hid (by rw [← hc.out, hr'.out]; simp [Sp.atL, hj]), by omega, by omega, by omega⟩
        case measure => simp; omega
    · have hnx : ∀ ty, (Instr.next (.pointer (some ⟨w.heap.size, 0, none⟩)) true ty).run Tryd.prog (w.iter s pos) = _ := fun ty => run_next_end w s pos ty hp
      go_wp2
      go_ret2
      have hv : Sp.atL (Sp.runes s) i = (0, false) := by rw [← hc.out, Sp.rl_end _ _ _ hp]; rfl
      exact ⟨by rw [hv]; rfl, below_iter _ _ _⟩
set_option maxHeartbeats 4000000 in
theorem at_neg (s : ByteArray) (i : Int) (w : World) (hs : s.size ≤ 140737488351232) (h0 : -9223372036854775808 ≤ i) (h1 : i < 0) :
    Calls Tryd.prog 39 #[.string s, .int .i64 i] w fun e w' => e = .returned (.tuple #[.int .i32 0, .bool false]) ∧ Below w.heap.size w w' := by
  go_enter Tryd.func39, Tryd.ntmps39
  go_wp2
  go_loopw [1] (fun n w' => ∃ (pos : Nat) (j : Int), w' = w.iter s pos ∧ n = .int .i64 j ∧ Hid (-9223372036854775808 ≤ j ∧ j ≤ 9223372036854775807 ∧ (pos ≤ s.size + 4 → j < 0 ∨ 9223372036854775808 - pos ≤ j))) (fun _ w' => s.size - w'.iterPos w.heap.size)
  case atStart => exact ⟨0, i, rfl, rfl, Lib.hid ⟨h0, by omega, fun _ => .inl h1⟩⟩
  case round =>
    obtain ⟨pos, j, rfl, rfl, hc⟩ := hrel
    by_cases hp : pos < s.size
    · have hnx : ∀ ty, (Instr.next (.pointer (some ⟨w.heap.size, 0, none⟩)) true ty).run Tryd.prog (w.iter s pos) = _ := fun ty => run_next_any w s pos ty hp
      have hwd := Lib.decode_width_pos s pos hp
      have hj0 : ¬ j = 0 := by
        have := hc.out.2.2 (by omega)
        omega
      have hj' : (j == 0) = false := by simpa using hj0
      go_wp2
      go_roundw
      case rel =>
        refine ⟨_, wrap64 (j - 1), rfl, rfl, Lib.hid ?_⟩
        obtain ⟨a, b, c⟩ := hc.out
        have c' := c (by omega)
        unfold wrap64
        refine ⟨by omega, by omega, fun _ => by omega⟩
      case measure => simp; omega
    · have hnx : ∀ ty, (Instr.next (.pointer (some ⟨w.heap.size, 0, none⟩)) true ty).run Tryd.prog (w.iter s pos) = _ := fun ty => run_next_end w s pos ty hp
      go_wp2
      go_ret2
      exact ⟨rfl, below_iter _ _ _⟩

theorem atL_neg : ∀ (l : List Int) (i : Int), i < 0 → Sp.atL l i = (0, false)
  | [], _, _ => rfl
  | r :: l, i, h => by rw [Sp.atL, if_neg (by omega)]; exact atL_neg l (i - 1) (by omega)

/-- mutf.At at every string and every place. -/
theorem at_all (s : ByteArray) (i : Int) (w : World) (hs : s.size ≤ 140737488351232) (h0 : -9223372036854775808 ≤ i) (h1 : i ≤ 9223372036854775807) :
    Calls Tryd.prog 39 #[.string s, .int .i64 i] w fun e w' => e = .returned (.tuple #[.int .i32 (Sp.atL (Sp.runes s) i).1, .bool (Sp.atL (Sp.runes s) i).2]) ∧ Below w.heap.size w w' := by
  by_cases h : i < 0
  · rw [atL_neg _ _ h]
    exact at_neg s i w hs h0 h
  · exact at_any s i w hs h0 h1 (.inr (by omega))
end Go.Proofs.YtkppjehpfjalbaaDoor
