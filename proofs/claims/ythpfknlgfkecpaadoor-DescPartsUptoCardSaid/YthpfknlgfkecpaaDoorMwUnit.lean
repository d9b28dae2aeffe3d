/-
  Walks of mutf.unit and its closure.
-/
import Derived.Test.YthpfknlgfkecpaaDoorMwBase
import Derived.Deep.QuietTactic
import Derived.BigQuiet
import Derived.WalkLawsBesides
import Derived.WalkSpells
set_option linter.unusedVariables false
set_option linter.unusedSimpArgs false
namespace Go.Proofs.YthpfknlgfkecpaaDoor
open Go.RowKit Go.Lib

theorem min2_int (k k' : IntKind) (x y : Int) : Builtin.min2 (.int k x) (.int k' y) = pure (.int k (if y < x then y else x)) := by simp only [Builtin.min2]
theorem min_two (ats : Array TypeId) (ty : TypeId) (a b : Value) : Builtin.min_ ats ty #[a, b] = (Builtin.min2 a b >>= fun s => pure s) := by simp only [Builtin.min_, List.foldlM_cons, List.foldlM_nil]
attribute [local go_sem] min2_int min_two

namespace Sp
/-- What the closure tells of a byte: its lowest six bits (of the last byte, behind the end), and whether it is a tail. -/
def tx (s : ByteArray) (i : Nat) : Int := bt s (if i < s.size then i else s.size - 1) % 64
def tl (s : ByteArray) (i : Nat) : Bool := decide (i < s.size) && decide (128 ≤ bt s i ∧ bt s i < 192)
theorem tx_range (s : ByteArray) (i : Nat) : 0 ≤ tx s i ∧ tx s i ≤ 63 := by unfold tx; omega
/-- What unit tells. -/
def unitF (c x y : Int) (a b : Bool) : Int × Int :=
  if 0 < c ∧ c < 128 then (c, 1)
  else if (192 ≤ c ∧ c < 224) ∧ a = true then
    if c % 32 * 64 + x = 0 ∨ 128 ≤ c % 32 * 64 + x then (c % 32 * 64 + x, 2) else (0, 0)
  else if (224 ≤ c ∧ c < 240) ∧ a = true ∧ b = true then
    if 2048 ≤ c % 16 * 4096 + x * 64 + y then (c % 16 * 4096 + x * 64 + y, 3) else (0, 0)
  else (0, 0)
def unitS (s : ByteArray) : Int × Int := unitF (bt s 0) (tx s 1) (tx s 2) (tl s 1) (tl s 2)
end Sp

set_option maxHeartbeats 4000000 in
theorem tail_in (i : Nat) (b : Nat) (s : ByteArray) (w : World) (hc : w.cell? ⟨b, 0, none⟩ = some (.string s)) (hi : i < s.size) (hs : s.size ≤ 140737488351232) :
    Calls Tryd.prog 139 #[.int .i64 i, .pointer (some ⟨b, 0, none⟩)] w fun e w' => e = .returned (.tuple #[.int .i32 (Sp.tx s i), .bool (Sp.tl s i)]) ∧ ∃ n, w' = w.drewN n := by
  have hr := Sp.bt_range s i
  have hx := Lib.hid (show Sp.tx s i = Go.bits .and .u8 (Sp.bt s i) 63 by rw [Sp.tx, if_pos hi, Sp.and63 _ hr.1 hr.2])
  have hy := Lib.hid (show Sp.tl s i = (Go.bits .and .u8 (Sp.bt s i) 192 == 128) by rw [Sp.tl, Sp.and192 _ hr.1 hr.2]; simp [hi])
  have hlt : (i : Int) < (s.size : Int) := by omega
  have hld : decide ((i : Int) < (s.size : Int)) = true := by simpa using hi
  have hld2 : decide (i < s.size) = true := by simpa using hi
  have hm : ¬ ((s.size : Int) - 1 < (i : Int)) := by omega
  have h0 : (0 : Int) ≤ (s.size : Int) - 1 := by omega
  have hidx : ∀ W : World, (Instr.index 9 (.string s) (.int .i64 (i : Int))).run Tryd.prog W = .ok (.int .u8 (Sp.bt s i)) W := by
    intro W
    rw [run_index_string W 9 s .i64 _ Tryd.underlying9, dif_pos ⟨by omega, by omega⟩]
    simp only [Int.toNat_natCast, Sp.bt_in s i hi]
  have hr32 := Sp.tx_range s i
  go_enter Tryd.func139, Tryd.ntmps139
  go_wp2
  go_quiet (fail)
  go_wp2
  go_ret2
  refine ⟨?_, _, rfl⟩
  rw [hx.out, hy.out]
  have hq := hx.out ▸ hr32
  have : wrap32 (bits BinOp.and IntKind.u8 (Sp.bt s i) 63) = bits BinOp.and IntKind.u8 (Sp.bt s i) 63 := by unfold wrap32; omega
  simp [this, Sp.and63 _ hr.1 hr.2]

set_option maxHeartbeats 4000000 in
theorem tail_out (i : Nat) (b : Nat) (s : ByteArray) (w : World) (hc : w.cell? ⟨b, 0, none⟩ = some (.string s)) (hi : ¬ i < s.size) (h00 : 0 < s.size) (hs : s.size ≤ 140737488351232) :
    Calls Tryd.prog 139 #[.int .i64 i, .pointer (some ⟨b, 0, none⟩)] w fun e w' => e = .returned (.tuple #[.int .i32 (Sp.tx s i), .bool (Sp.tl s i)]) ∧ ∃ n, w' = w.drewN n := by
  have hr := Sp.bt_range s (s.size - 1)
  have hx := Lib.hid (show Sp.tx s i = Go.bits .and .u8 (Sp.bt s (s.size - 1)) 63 by rw [Sp.tx, if_neg hi, Sp.and63 _ hr.1 hr.2])
  have hy := Lib.hid (show Sp.tl s i = false by simp [Sp.tl, hi])
  have hlt : ¬ (i : Int) < (s.size : Int) := by omega
  have hld : decide ((i : Int) < (s.size : Int)) = false := by simpa using hi
  have hld2 : decide (i < s.size) = false := by simpa using hi
  have hm : ((s.size : Int) - 1 < (i : Int)) := by omega
  have h0 : (0 : Int) ≤ (s.size : Int) - 1 := by omega
  have h2 : (s.size : Int) - 1 < (s.size : Int) := by omega
  have hidx : ∀ W : World, (Instr.index 9 (.string s) (.int .i64 ((s.size : Int) - 1))).run Tryd.prog W = .ok (.int .u8 (Sp.bt s (s.size - 1))) W := by
    intro W
    rw [run_index_string W 9 s .i64 _ Tryd.underlying9, dif_pos ⟨by omega, by omega⟩]
    have e : ((s.size : Int) - 1).toNat = s.size - 1 := by omega
    simp only [e, Sp.bt_in s (s.size - 1) (by omega)]
  have hr32 := Sp.tx_range s i
  go_enter Tryd.func139, Tryd.ntmps139
  go_wp2
  go_quiet (fail)
  go_wp2
  go_ret2
  refine ⟨?_, _, rfl⟩
  rw [hx.out, hy.out]
  have hq := hx.out ▸ hr32
  have : wrap32 (bits BinOp.and IntKind.u8 (Sp.bt s (s.size - 1)) 63) = bits BinOp.and IntKind.u8 (Sp.bt s (s.size - 1)) 63 := by unfold wrap32; omega
  simp [this, Sp.and63 _ hr.1 hr.2]

theorem tail_any (i : Nat) (b : Nat) (s : ByteArray) (w : World) (hc : w.cell? ⟨b, 0, none⟩ = some (.string s)) (h00 : 0 < s.size) (hs : s.size ≤ 140737488351232) :
    Calls Tryd.prog 139 #[.int .i64 i, .pointer (some ⟨b, 0, none⟩)] w fun e w' => e = .returned (.tuple #[.int .i32 (Sp.tx s i), .bool (Sp.tl s i)]) ∧ ∃ n, w' = w.drewN n := by
  by_cases hi : i < s.size
  · exact tail_in i b s w hc hi hs
  · exact tail_out i b s w hc hi h00 hs

set_option maxHeartbeats 4000000 in
theorem unit_any (s : ByteArray) (w : World) (h00 : 0 < s.size) (hs : s.size ≤ 140737488351232) :
    Calls Tryd.prog 128 #[.string s] w fun e w' => e = .returned (.tuple #[.int .i32 (Sp.unitS s).1, .int .i64 (Sp.unitS s).2]) ∧ Below w.heap.size w w' := by
  have hb0 := Sp.bt_range s 0
  have hidx : ∀ W : World, (Instr.index 9 (.string s) (.int .i64 0)).run Tryd.prog W = .ok (.int .u8 (Sp.bt s 0)) W := by
    intro W
    rw [run_index_string W 9 s .i64 _ Tryd.underlying9, dif_pos ⟨by omega, by omega⟩]
    simp only [Int.toNat_zero, Sp.bt_in s 0 h00]
  have h1 := fun W hc => tail_any 1 w.heap.size s W hc h00 hs
  have h2 := fun W hc => tail_any 2 w.heap.size s W hc h00 hs
  have q1 := Sp.tx_range s 1
  have q2 := Sp.tx_range s 2
  unfold Sp.unitS
  generalize Sp.bt s 0 = c at hidx hb0 ⊢
  generalize Sp.tx s 1 = x at h1 q1 ⊢
  generalize Sp.tx s 2 = y at h2 q2 ⊢
  generalize Sp.tl s 1 = a at h1 ⊢
  generalize Sp.tl s 2 = b at h2 ⊢
  have e224 := Lib.hid (show (Go.bits .and .u8 c 224 = 192) ↔ (192 ≤ c ∧ c < 224) by simpa using congrArg (· = true) (Sp.and224 c hb0.1 hb0.2))
  have e240 := Lib.hid (show (Go.bits .and .u8 c 240 = 224) ↔ (224 ≤ c ∧ c < 240) by simpa using congrArg (· = true) (Sp.and240 c hb0.1 hb0.2))
  have H1 := Lib.hid h1
  have H2 := Lib.hid h2
  clear h1 h2
  go_enter Tryd.func128, Tryd.ntmps128
  go_wp2_with fail
  refine (H1.out _ (by simp)).mono ?_
  rintro e w1 ⟨rfl, n1, rfl⟩
  go_wp2_with fail
  refine (H2.out _ (by simp)).mono ?_
  rintro e w2 ⟨rfl, n2, rfl⟩
  clear H1 H2 hidx
  go_wp2
  all_goals go_ret2
  all_goals
    have E1 := e224.out
    have E2 := e240.out
    refine ⟨?_, below_drewNv ((Below.refl _ _).alloc (Nat.le_refl _) _) _⟩
    clear e224 e240
    unfold Sp.unitF
    repeat' split
    all_goals first | rfl | (exfalso; simp_all; done) | (exfalso; simp_all; omega) | (exfalso; omega) | (simp [*]; done)
end Go.Proofs.YthpfknlgfkecpaaDoor
