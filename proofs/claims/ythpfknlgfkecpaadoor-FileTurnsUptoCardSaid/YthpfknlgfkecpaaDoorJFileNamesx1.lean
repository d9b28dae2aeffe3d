/-
  Texts of the proof, joined: each says at its head what it proves.
-/
import Derived.Lib.RuneCount
import Derived.Lib.RuneBytes
import Derived.Lib.ValidU
import Derived.RowKit
import Derived.KernelRfl
import Derived.Laws.BitsLemmas
import Derived.Test.YthpfknlgfkecpaaDoorProg
import Derived.WalkKit
import Derived.Lib.Walk
import Derived.Laws.RangeString
import Derived.Laws.RangeAny
import Derived.LoopTactic
import Derived.Below
import Derived.Deep.QuietTactic
import Derived.BigQuiet
import Derived.Lib.Hide
import Derived.IntWalk
import Derived.WalkLawsBesides
import Derived.WalkSpells
import Derived.Test.YthpfknlgfkecpaaDoorShelf
import Derived.Shelf.Strings.BuilderRune
import Derived.Shelf.Utf8.AppendRune
import Derived.Laws.AppendOwn
import Derived.Laws.BytesArg
import Derived.OwnWalk
import Derived.WalkSmall
import Derived.Laws.IdiomStrings
import Derived.Laws.Cover4
import Derived.Lib.Strings
import Derived.Lib.TrimByte
import Derived.Lib.SlicesS
import Derived.Deep.MidRow
import Derived.Lib.IndexBytes
import Derived.Deep.RegionWith
import Derived.Shelf.Strings.BuilderK
import Derived.Deep.Heap
section
/-
  Plain words for chapter 1's code, with no program in sight: a string's runes one by one, as the model's own decoder tells them.
-/
set_option linter.unusedVariables false
namespace Go.Proofs.YthpfknlgfkecpaaDoor.Sp
open Go.Lib

/-- The runes from place pos on, at most fuel of them. -/
def rl (s : ByteArray) : Nat → Nat → List Int
  | 0, _ => []
  | f + 1, pos => if pos < s.size then ((Utf8.decode s pos).1 : Int) :: rl s f (pos + (Utf8.decode s pos).2) else []

theorem rl_end (s : ByteArray) (f pos : Nat) (h : ¬ pos < s.size) : rl s f pos = [] := by cases f <;> simp [rl, h]

theorem rl_step (s : ByteArray) (f pos : Nat) (h : pos < s.size) (hf : s.size ≤ pos + f) :
    ∃ g, f = g + 1 ∧ s.size ≤ pos + (Utf8.decode s pos).2 + g ∧ rl s f pos = ((Utf8.decode s pos).1 : Int) :: rl s g (pos + (Utf8.decode s pos).2) := by
  obtain ⟨g, rfl⟩ : ∃ g, f = g + 1 := ⟨f - 1, by omega⟩
  have := decode_width_pos s pos h
  exact ⟨g, rfl, by omega, by simp [rl, h]⟩

/-- All runes of a string. -/
def runes (s : ByteArray) : List Int := rl s s.size 0

/-- The rune at a place, and whether there is one. -/
def atL : List Int → Int → Int × Bool
  | [], _ => (0, false)
  | r :: l, i => if i = 0 then (r, true) else atL l (i - 1)

theorem rl_length (s : ByteArray) : ∀ f pos, (rl s f pos).length = runeCountFrom s f pos
  | 0, _ => rfl
  | f + 1, pos => by
    unfold rl runeCountFrom
    split
    · simp [rl_length s f]; omega
    · rfl

theorem runes_length (s : ByteArray) : (runes s).length = runeCount s := rl_length s _ _

theorem rl_range (s : ByteArray) : ∀ f pos, ∀ r ∈ rl s f pos, 0 ≤ r ∧ r ≤ 2147483647
  | 0, _, r, h => by simp [rl] at h
  | f + 1, pos, r, h => by
    unfold rl at h
    split at h
    · rcases List.mem_cons.1 h with rfl | h
      · have := decode_le s pos
        omega
      · exact rl_range s f _ r h
    · simp at h

/-! Bits of a byte -/
theorem byte_cases (p : Int → Prop) (h : ∀ n : Fin 256, p (n.val : Int)) (c : Int) (h0 : 0 ≤ c) (h1 : c ≤ 255) : p c := by
  have := h ⟨c.toNat, by omega⟩
  simpa [Int.toNat_of_nonneg h0] using this
theorem and63 (c : Int) (h0 : 0 ≤ c) (h1 : c ≤ 255) : Go.bits .and .u8 c 63 = c % 64 :=
  byte_cases (fun c => Go.bits .and .u8 c 63 = c % 64) (by decide +kernel) c h0 h1
theorem and192 (c : Int) (h0 : 0 ≤ c) (h1 : c ≤ 255) : (Go.bits .and .u8 c 192 == 128) = decide (128 ≤ c ∧ c < 192) :=
  byte_cases (fun c => (Go.bits .and .u8 c 192 == 128) = decide (128 ≤ c ∧ c < 192)) (by decide +kernel) c h0 h1
theorem and224 (c : Int) (h0 : 0 ≤ c) (h1 : c ≤ 255) : (Go.bits .and .u8 c 224 == 192) = decide (192 ≤ c ∧ c < 224) :=
  byte_cases (fun c => (Go.bits .and .u8 c 224 == 192) = decide (192 ≤ c ∧ c < 224)) (by decide +kernel) c h0 h1
theorem and240 (c : Int) (h0 : 0 ≤ c) (h1 : c ≤ 255) : (Go.bits .and .u8 c 240 == 224) = decide (224 ≤ c ∧ c < 240) :=
  byte_cases (fun c => (Go.bits .and .u8 c 240 == 224) = decide (224 ≤ c ∧ c < 240)) (by decide +kernel) c h0 h1
theorem and31 (c : Int) (h0 : 0 ≤ c) (h1 : c ≤ 255) : Go.bits .and .u8 c 31 = c % 32 :=
  byte_cases (fun c => Go.bits .and .u8 c 31 = c % 32) (by decide +kernel) c h0 h1
theorem and15 (c : Int) (h0 : 0 ≤ c) (h1 : c ≤ 255) : Go.bits .and .u8 c 15 = c % 16 :=
  byte_cases (fun c => Go.bits .and .u8 c 15 = c % 16) (by decide +kernel) c h0 h1

theorem i32_and63 (x : Int) (h0 : 0 ≤ x) (h1 : x < 2147483648) : Go.bits .and .i32 x 63 = x % 64 := Go.bits_mask .i32 31 (by decide) Go.wraps_i32 6 (by decide) x h0 h1
theorem i32_and1023 (x : Int) (h0 : 0 ≤ x) (h1 : x < 2147483648) : Go.bits .and .i32 x 1023 = x % 1024 := Go.bits_mask .i32 31 (by decide) Go.wraps_i32 10 (by decide) x h0 h1
theorem or128 (y : Int) (h0 : 0 ≤ y) (h1 : y < 64) : Go.bits .or .u8 128 y = 128 + y := Go.u8_or128 _ h0 h1
theorem or192 (y : Int) (h0 : 0 ≤ y) (h1 : y < 32) : Go.bits .or .u8 192 y = 192 + y := Go.u8_or192 _ h0 h1

/-- A byte of a string, as a number; 0 behind the end. -/
def bt (s : ByteArray) (i : Nat) : Int := if h : i < s.size then ((s[i]'h).toNat : Int) else 0
theorem bt_range (s : ByteArray) (i : Nat) : 0 ≤ bt s i ∧ bt s i ≤ 255 := by
  unfold bt
  split
  · rename_i h
    have := (s[i]'h).toNat_lt
    omega
  · omega
theorem bt_in (s : ByteArray) (i : Nat) (h : i < s.size) : ((s[i]'h).toNat : Int) = bt s i := by simp [bt, h]

/-! The bytes of a rune in modified UTF-8 -/
def three (r : Int) : List Int := [224 + r / 4096, 128 + r / 64 % 64, 128 + r % 64]
def encZ (r : Int) : List Int :=
  if 0 < r ∧ r < 128 then [r]
  else if r < 2048 then [192 + r / 64, 128 + r % 64]
  else if r < 65536 then three r
  else three (55296 + (r - 65536) / 1024) ++ three (56320 + (r - 65536) % 1024)

theorem encZ_length (r : Int) : 1 ≤ (encZ r).length ∧ (encZ r).length ≤ 6 := by
  unfold encZ three
  repeat' split
  all_goals simp

theorem decode_max (s : ByteArray) (pos : Nat) : (Utf8.decode s pos).1 ≤ 1114111 := by
  have hb : ∀ k, (s.get! (pos + k)).toNat < 256 := fun k => (s.get! (pos + k)).toNat_lt
  have h0 := hb 0; have h1 := hb 1; have h2 := hb 2; have h3 := hb 3
  simp only [Utf8.decode]
  repeat' split
  all_goals simp_all [Utf8.runeError, Utf8.valid]
  all_goals omega

theorem rl_max (s : ByteArray) : ∀ f pos, ∀ r ∈ rl s f pos, 0 ≤ r ∧ r ≤ 1114111
  | 0, _, r, h => by simp [rl] at h
  | f + 1, pos, r, h => by
    unfold rl at h
    split at h
    · rcases List.mem_cons.1 h with rfl | h
      · have := decode_max s pos
        omega
      · exact rl_max s f _ r h
    · simp at h

end Go.Proofs.YthpfknlgfkecpaaDoor.Sp
end
section
/-
  Shared lemmas of the walks.
-/
set_option linter.unusedVariables false
namespace Go.Proofs.YthpfknlgfkecpaaDoor
open Go.RowKit Go.Lib

theorem below_drewNv {B : Nat} {a w : World} (h : Below B a w) (n : Nat) : Below B a (w.drewN n) := h.trans ⟨rfl, rfl, rfl, Nat.le_refl _, fun _ _ => rfl⟩
theorem below_iter (w : World) (s : ByteArray) (pos : Nat) : Below w.heap.size w (w.iter s pos) :=
  (Below.refl _ _).alloc (Nat.le_refl _) _

end Go.Proofs.YthpfknlgfkecpaaDoor
end
section
/-
  Walks of mutf.unit and its closure.
-/
set_option linter.unusedVariables false
set_option linter.unusedSimpArgs false
namespace Go.Proofs.YthpfknlgfkecpaaDoor
open Go.RowKit Go.Lib

theorem min2_int (k k' : IntKind) (x y : Int) : Builtin.min2 (.int k x) (.int k' y) = pure (.int k (if y < x then y else x)) := by simp only [Builtin.min2]
theorem min_two (ats : Array TypeId) (ty : TypeId) (a b : Value) : Builtin.min_ ats ty #[a, b] = (Builtin.min2 a b >>= fun s => pure s) := by simp only [Builtin.min_, List.foldlM_cons, List.foldlM_nil]
attribute [local go_sem] min2_int min_two

namespace Sp
/-- What the closure tells of a byte: its lowest six bits (of the last byte, behind the end), and whether it is a tail. -/
def tx (s : ByteArray) (i : Nat) : Int := bt s (if i < s.size then i else s.size - 1) % 64
def tl (s : ByteArray) (i : Nat) : Bool := decide (i < s.size) && decide (128 ≤ bt s i ∧ bt s i < 192)
theorem tx_range (s : ByteArray) (i : Nat) : 0 ≤ tx s i ∧ tx s i ≤ 63 := by unfold tx; omega
/-- What unit tells. -/
def unitF (c x y : Int) (a b : Bool) : Int × Int :=
  if 0 < c ∧ c < 128 then (c, 1)
  else if (192 ≤ c ∧ c < 224) ∧ a = true then
    if c % 32 * 64 + x = 0 ∨ 128 ≤ c % 32 * 64 + x then (c % 32 * 64 + x, 2) else (0, 0)
  else if (224 ≤ c ∧ c < 240) ∧ a = true ∧ b = true then
    if 2048 ≤ c % 16 * 4096 + x * 64 + y then (c % 16 * 4096 + x * 64 + y, 3) else (0, 0)
  else (0, 0)
def unitS (s : ByteArray) : Int × Int := unitF (bt s 0) (tx s 1) (tx s 2) (tl s 1) (tl s 2)
end Sp

set_option maxHeartbeats 4000000 in
theorem tail_in (i : Nat) (b : Nat) (s : ByteArray) (w : World) (hc : w.cell? ⟨b, 0, none⟩ = some (.string s)) (hi : i < s.size) (hs : s.size ≤ 140737488351232) :
    Calls Tryd.prog 139 #[.int .i64 i, .pointer (some ⟨b, 0, none⟩)] w fun e w' => e = .returned (.tuple #[.int .i32 (Sp.tx s i), .bool (Sp.tl s i)]) ∧ ∃ n, w' = w.drewN n := by
  have hr := Sp.bt_range s i
  have hx := Lib.hid (show Sp.tx s i = Go.bits .and .u8 (Sp.bt s i) 63 by rw [Sp.tx, if_pos hi, Sp.and63 _ hr.1 hr.2])
  have hy := Lib.hid (show Sp.tl s i = (Go.bits .and .u8 (Sp.bt s i) 192 == 128) by rw [Sp.tl, Sp.and192 _ hr.1 hr.2]; simp [hi])
  have hlt : (i : Int) < (s.size : Int) := by omega
  have hld : decide ((i : Int) < (s.size : Int)) = true := by simpa using hi
  have hld2 : decide (i < s.size) = true := by simpa using hi
  have hm : ¬ ((s.size : Int) - 1 < (i : Int)) := by omega
  have h0 : (0 : Int) ≤ (s.size : Int) - 1 := by omega
  have hidx : ∀ W : World, (Instr.index 9 (.string s) (.int .i64 (i : Int))).run Tryd.prog W = .ok (.int .u8 (Sp.bt s i)) W := by
    intro W
    rw [run_index_string W 9 s .i64 _ Tryd.underlying9, dif_pos ⟨by omega, by omega⟩]
    simp only [Int.toNat_natCast, Sp.bt_in s i hi]
  have hr32 := Sp.tx_range s i
  go_enter Tryd.func139, Tryd.ntmps139
  go_wp2
  go_quiet (fail)
  go_wp2
  go_ret2
  refine ⟨?_, _, rfl⟩
  rw [hx.out, hy.out]
  have hq := hx.out ▸ hr32
  have : wrap32 (bits BinOp.and IntKind.u8 (Sp.bt s i) 63) = bits BinOp.and IntKind.u8 (Sp.bt s i) 63 := by unfold wrap32; omega
  simp [this, Sp.and63 _ hr.1 hr.2]

set_option maxHeartbeats 4000000 in
theorem tail_out (i : Nat) (b : Nat) (s : ByteArray) (w : World) (hc : w.cell? ⟨b, 0, none⟩ = some (.string s)) (hi : ¬ i < s.size) (h00 : 0 < s.size) (hs : s.size ≤ 140737488351232) :
    Calls Tryd.prog 139 #[.int .i64 i, .pointer (some ⟨b, 0, none⟩)] w fun e w' => e = .returned (.tuple #[.int .i32 (Sp.tx s i), .bool (Sp.tl s i)]) ∧ ∃ n, w' = w.drewN n := by
  have hr := Sp.bt_range s (s.size - 1)
  have hx := Lib.hid (show Sp.tx s i = Go.bits .and .u8 (Sp.bt s (s.size - 1)) 63 by rw [Sp.tx, if_neg hi, Sp.and63 _ hr.1 hr.2])
  have hy := Lib.hid (show Sp.tl s i = false by simp [Sp.tl, hi])
  have hlt : ¬ (i : Int) < (s.size : Int) := by omega
  have hld : decide ((i : Int) < (s.size : Int)) = false := by simpa using hi
  have hld2 : decide (i < s.size) = false := by simpa using hi
  have hm : ((s.size : Int) - 1 < (i : Int)) := by omega
  have h0 : (0 : Int) ≤ (s.size : Int) - 1 := by omega
  have h2 : (s.size : Int) - 1 < (s.size : Int) := by omega
  have hidx : ∀ W : World, (Instr.index 9 (.string s) (.int .i64 ((s.size : Int) - 1))).run Tryd.prog W = .ok (.int .u8 (Sp.bt s (s.size - 1))) W := by
    intro W
    rw [run_index_string W 9 s .i64 _ Tryd.underlying9, dif_pos ⟨by omega, by omega⟩]
    have e : ((s.size : Int) - 1).toNat = s.size - 1 := by omega
    simp only [e, Sp.bt_in s (s.size - 1) (by omega)]
  have hr32 := Sp.tx_range s i
  go_enter Tryd.func139, Tryd.ntmps139
  go_wp2
  go_quiet (fail)
  go_wp2
  go_ret2
  refine ⟨?_, _, rfl⟩
  rw [hx.out, hy.out]
  have hq := hx.out ▸ hr32
  have : wrap32 (bits BinOp.and IntKind.u8 (Sp.bt s (s.size - 1)) 63) = bits BinOp.and IntKind.u8 (Sp.bt s (s.size - 1)) 63 := by unfold wrap32; omega
  simp [this, Sp.and63 _ hr.1 hr.2]

theorem tail_any (i : Nat) (b : Nat) (s : ByteArray) (w : World) (hc : w.cell? ⟨b, 0, none⟩ = some (.string s)) (h00 : 0 < s.size) (hs : s.size ≤ 140737488351232) :
    Calls Tryd.prog 139 #[.int .i64 i, .pointer (some ⟨b, 0, none⟩)] w fun e w' => e = .returned (.tuple #[.int .i32 (Sp.tx s i), .bool (Sp.tl s i)]) ∧ ∃ n, w' = w.drewN n := by
  by_cases hi : i < s.size
  · exact tail_in i b s w hc hi hs
  · exact tail_out i b s w hc hi h00 hs

set_option maxHeartbeats 4000000 in
theorem unit_any (s : ByteArray) (w : World) (h00 : 0 < s.size) (hs : s.size ≤ 140737488351232) :
    Calls Tryd.prog 128 #[.string s] w fun e w' => e = .returned (.tuple #[.int .i32 (Sp.unitS s).1, .int .i64 (Sp.unitS s).2]) ∧ Below w.heap.size w w' := by
  have hb0 := Sp.bt_range s 0
  have hidx : ∀ W : World, (Instr.index 9 (.string s) (.int .i64 0)).run Tryd.prog W = .ok (.int .u8 (Sp.bt s 0)) W := by
    intro W
    rw [run_index_string W 9 s .i64 _ Tryd.underlying9, dif_pos ⟨by omega, by omega⟩]
    simp only [Int.toNat_zero, Sp.bt_in s 0 h00]
  have h1 := fun W hc => tail_any 1 w.heap.size s W hc h00 hs
  have h2 := fun W hc => tail_any 2 w.heap.size s W hc h00 hs
  have q1 := Sp.tx_range s 1
  have q2 := Sp.tx_range s 2
  unfold Sp.unitS
  generalize Sp.bt s 0 = c at hidx hb0 ⊢
  generalize Sp.tx s 1 = x at h1 q1 ⊢
  generalize Sp.tx s 2 = y at h2 q2 ⊢
  generalize Sp.tl s 1 = a at h1 ⊢
  generalize Sp.tl s 2 = b at h2 ⊢
  have e224 := Lib.hid (show (Go.bits .and .u8 c 224 = 192) ↔ (192 ≤ c ∧ c < 224) by simpa using congrArg (· = true) (Sp.and224 c hb0.1 hb0.2))
  have e240 := Lib.hid (show (Go.bits .and .u8 c 240 = 224) ↔ (224 ≤ c ∧ c < 240) by simpa using congrArg (· = true) (Sp.and240 c hb0.1 hb0.2))
  have H1 := Lib.hid h1
  have H2 := Lib.hid h2
  clear h1 h2
  go_enter Tryd.func128, Tryd.ntmps128
  go_wp2_with fail
  refine (H1.out _ (by simp)).mono ?_
  rintro e w1 ⟨rfl, n1, rfl⟩
  go_wp2_with fail
  refine (H2.out _ (by simp)).mono ?_
  rintro e w2 ⟨rfl, n2, rfl⟩
  clear H1 H2 hidx
  go_wp2
  all_goals go_ret2
  all_goals
    have E1 := e224.out
    have E2 := e240.out
    refine ⟨?_, below_drewNv ((Below.refl _ _).alloc (Nat.le_refl _) _) _⟩
    clear e224 e240
    unfold Sp.unitF
    repeat' split
    all_goals first | rfl | (exfalso; simp_all; done) | (exfalso; simp_all; omega) | (exfalso; omega) | (simp [*]; done)
end Go.Proofs.YthpfknlgfkecpaaDoor
end
section
/-
  (*strings.Builder).copyCheck and WriteRune in this cut (turned from the kit's shelf to this program's own text).
-/
set_option linter.unusedVariables false
namespace Go.Proofs.YthpfknlgfkecpaaDoor
open Go.RowKit Go.Lib

theorem sizeBuilder : (Tryd.prog.info? 86).map (·.size) = some 2 := by kernel_rfl
theorem infoByte : (Tryd.prog.info? 5).map (fun i => (i.zero, i.size, i.bytes)) = some (some (.int .u8 0), 1, 1) := by kernel_rfl

set_option maxHeartbeats 1000000 in
set_option maxRecDepth 100000 in
theorem copyCheck_used (b : Nat) (w : World) (h0 : w.cell? ⟨b, 0, none⟩ = some (.pointer (some ⟨b, 0, none⟩))) :
    Calls Tryd.prog 87 #[.pointer (some ⟨b, 0, none⟩)] w fun e w' => e = .returned (.tuple #[]) ∧ w' = w := by
  obtain ⟨j, hj, _⟩ := Option.map_eq_some_iff.1 sizeBuilder
  go_enter Tryd.func87, Tryd.ntmps87
  go_wp2
  rw [Lib.run_neq_ptr_same w _ Tryd.underlying84 hj]
  go_wp2
  go_end0
  exact ⟨rfl, rfl⟩
set_option maxHeartbeats 1000000 in
set_option maxRecDepth 100000 in
theorem copyCheck_fresh (b : Nat) (w : World) (h0 : w.cell? ⟨b, 0, none⟩ = some (.pointer none)) (hsh : w.shape? b = some (86, 2)) (hfz : w.frozen? ⟨b, 0, none⟩ = false) :
    Calls Tryd.prog 87 #[.pointer (some ⟨b, 0, none⟩)] w fun e w' => e = .returned (.tuple #[]) ∧ w' = w.setCell ⟨b, 0, none⟩ (.pointer (some ⟨b, 0, none⟩)) := by
  obtain ⟨j, hj, hjs⟩ := Option.map_eq_some_iff.1 sizeBuilder
  go_enter Tryd.func87, Tryd.ntmps87
  go_wp2
  rw [Lib.run_to_unsafe w ⟨b, 0, none⟩ Tryd.underlying84 Tryd.underlying147 hj (by rw [hjs]; decide) hsh (Nat.zero_lt_succ 1)]
  simp only [Result.andThen]
  rw [Oper.upon_value]
  go_wp2
  rw [run_callFunc_extern Tryd.func115 (by kernel_rfl) (by kernel_rfl) (by kernel_rfl) (e := Extern.AbiNoEscape.same) (by kernel_rfl)]
  rw [Lib.run_noEscape]
  simp only [Result.andThen]
  rw [Oper.upon_value]
  go_wp2
  rw [Lib.run_from_unsafe w ⟨b, 0, none⟩ Tryd.underlying147 Tryd.underlying84 hj hsh (by kernel_rfl)]
  simp only [Result.andThen]
  rw [Oper.upon_value]
  go_wp2
  go_end0
  exact ⟨rfl, rfl⟩

theorem copyCheck_k (B b : Nat) (bs : List Value) (w : World) (h : Lib.IsBuilderF 86 5 B b bs w) :
    Calls Tryd.prog 87 #[.pointer (some ⟨b, 0, none⟩)] w fun e w' => e = .returned (.tuple #[]) ∧ (Lib.BuilderAtF 86 5 B b (.pointer (some ⟨b, 0, none⟩)) bs w' ∧ Below B w w' ∧ Lib.OthersKept 5 (some b) w w') := by
  rcases h with h | h
  · refine (copyCheck_fresh b w h.cell0 h.shape h.frozen0).mono ?_
    rintro e w' ⟨rfl, rfl⟩
    exact ⟨rfl, h.used _, (Below.refl B w).setCell (p := ⟨b, 0, none⟩) h.1 _, (Lib.OthersKept.refl _ _ w).setCell ⟨b, 0, none⟩ rfl _⟩
  · refine (copyCheck_used b w h.cell0).mono ?_
    rintro e w' ⟨rfl, rfl⟩
    exact ⟨rfl, h, Below.refl B _, Lib.OthersKept.refl _ _ _⟩

set_option maxHeartbeats 2000000 in
set_option maxRecDepth 100000 in
theorem writeRune_k (B b : Nat) (bs : List Value) (r : Int) (hr0 : -2147483648 ≤ r) (hr1 : r ≤ 2147483647) (w : World) (h : Lib.IsBuilderF 86 5 B b bs w) (hlen : bs.length + 4 ≤ 140737488355328) (hBw : B ≤ w.heap.size) :
    Calls Tryd.prog 129 #[.pointer (some ⟨b, 0, none⟩), .int .i32 r] w fun e w' => e = .returned (.tuple #[.int .i64 (Lib.runeCells r).length, .nilIface]) ∧ (Lib.BuilderAtF 86 5 B b (.pointer (some ⟨b, 0, none⟩)) (bs ++ Lib.runeCells r) w' ∧ Below B w w' ∧ Lib.OthersKept 5 (some b) w w') := by
  have hk4 := Lib.runeCells_le r
  go_enter Tryd.func129, Tryd.ntmps129
  go_wp2_with (go_at_call 87; refine (copyCheck_k B b bs _ h).mono ?_)
  rintro e w1 ⟨rfl, h1, hb1, hk1⟩
  obtain ⟨hB, v, hbk, hown, hne⟩ := h1
  obtain ⟨ao, cap, rfl⟩ : ∃ ao cap, v = .slice ao bs.length cap := by
    rcases hown.2 with ⟨hv, h0⟩ | ⟨g, cap, cur, fz, hv, _⟩
    · exact ⟨none, 0, by rw [hv, h0]⟩
    · exact ⟨_, _, hv⟩
  have c0 : w1.cell? ⟨b, 0, none⟩ = some (.pointer (some ⟨b, 0, none⟩)) := by rw [Lib.cell_of_heap hbk]; rfl
  have c1 : w1.cell? ⟨b, 1, none⟩ = some (.slice ao bs.length cap) := by rw [Lib.cell_of_heap hbk]; rfl
  go_wp2_with (go_at_call 140; refine (Tryd.utf8_AppendRune_row B _ bs.length bs r hr0 hr1 _ hown hlen (by have := hb1.size; omega)).mono ?_)
  rintro e w2 ⟨v', rfl, hown', o, hgrow⟩
  have hlt : b < w1.heap.size := by
    rcases Nat.lt_or_ge b w1.heap.size with h' | h'
    · exact h'
    · simp [Array.getElem?_eq_none h'] at hbk
  have hb2 : w2.heap[b]? = some (.cells #[.pointer (some ⟨b, 0, none⟩), .slice ao bs.length cap] 86 (0, 0)) := by
    rw [hgrow.block b (by simp; omega) (fun e => hne e.symm), Lib.alloc_old w1 _ b hlt]
    exact hbk
  have d0 : w2.cell? ⟨b, 0, none⟩ = some (.pointer (some ⟨b, 0, none⟩)) := by rw [Lib.cell_of_heap hb2]; rfl
  have d1 : w2.cell? ⟨b, 1, none⟩ = some (.slice ao bs.length cap) := by rw [Lib.cell_of_heap hb2]; rfl
  have f1 : w2.frozen? ⟨b, 1, none⟩ = false := Lib.frozen_of_heap hb2 1
  obtain ⟨g, cap', rfl⟩ : ∃ g cap', v' = .slice (some ⟨g, 0, none⟩) (bs.length + (Lib.runeCells r).length) cap' := by
    rcases hown'.2 with ⟨_, h0⟩ | ⟨g, cap', cur, fz, hv, _⟩
    · omega
    · exact ⟨g, cap', hv⟩
  go_wp2
  go_ret2
  refine ⟨?_, ?_, ?_, ((hk1.alloc _).grown hgrow (Lib.ownsRowF_kind (hown.alloc _))).setCell ⟨b, 1, none⟩ rfl _⟩
  · have e : ((bs.length : Int) + ((Lib.runeCells r).length : Int) - (bs.length : Int)) = ((Lib.runeCells r).length : Int) := by omega
    simp [e]
  · exact Lib.BuilderAtF.put (T := 86) (e := 5) hB hb2 (bs' := bs ++ Lib.runeCells r) (by simpa using hown') (by decide)
  · exact ((hb1.alloc (by have := hb1.size; omega) _).grown hgrow (by have := hb1.size; simp; omega) (fun k hk => (hown.lt k hk).1)).setCell (p := ⟨b, 1, none⟩) hB _
end Go.Proofs.YthpfknlgfkecpaaDoor
end
section
/-
  The walk of mutf.Decode.
-/
set_option linter.unusedVariables false
set_option linter.unusedSimpArgs false
namespace Go.Proofs.YthpfknlgfkecpaaDoor
open Go.RowKit Go.Lib

namespace Sp
/-- What Decode makes of the bytes that are left, behind what it has written; none: ErrForm. -/
def decG : Nat → ByteArray → List UInt8 → Option (List UInt8)
  | 0, _, _ => none
  | f + 1, b, acc =>
    if b.size = 0 then some acc
    else if (unitS b).2 = 0 ∨ (56320 ≤ (unitS b).1 ∧ (unitS b).1 < 57344) then none
    else if 55296 ≤ (unitS b).1 ∧ (unitS b).1 < 56320 then
      if b.size < 6 then none
      else if (unitS (b.extract 3 b.size)).2 = 0 ∨ (unitS (b.extract 3 b.size)).1 < 56320 ∨ 57344 ≤ (unitS (b.extract 3 b.size)).1 then none
      else decG f (b.extract 6 b.size) (acc ++ encodeRune (65536 + ((unitS b).1 - 55296) * 1024 + ((unitS (b.extract 3 b.size)).1 - 56320)))
    else decG f (b.extract (unitS b).2.toNat b.size) (acc ++ encodeRune (unitS b).1)

theorem unitF_range (c x y : Int) (a b : Bool) (hx : 0 ≤ x ∧ x ≤ 63) (hy : 0 ≤ y ∧ y ≤ 63) : 0 ≤ (unitF c x y a b).1 ∧ (unitF c x y a b).1 ≤ 65535 ∧ 0 ≤ (unitF c x y a b).2 ∧ (unitF c x y a b).2 ≤ 3 := by
  unfold unitF
  repeat' split
  all_goals (simp only []; omega)

theorem unitS_size (s : ByteArray) (h : 0 < s.size) : (unitS s).2 ≤ s.size := by
  unfold unitS unitF tl
  repeat' split
  all_goals simp only []
  all_goals first | omega | (simp_all; omega) | simp_all

theorem unitS_three (s : ByteArray) (h : 2048 ≤ (unitS s).1) : (unitS s).2 = 3 := by
  revert h
  unfold unitS unitF
  have hx := tx_range s 1
  have hy := tx_range s 2
  repeat' split
  all_goals simp only []
  all_goals first | (intro _; trivial) | (intro h; omega)

theorem unitS_range (s : ByteArray) : 0 ≤ (unitS s).1 ∧ (unitS s).1 ≤ 65535 ∧ 0 ≤ (unitS s).2 ∧ (unitS s).2 ≤ 3 := unitF_range _ _ _ _ _ (tx_range s 1) (tx_range s 2)
def decS (b : ByteArray) : ByteArray × Int :=
  if 65535 < b.size then (⟨#[]⟩, 2)
  else match decG (b.size + 1) b [] with
    | none => (⟨#[]⟩, 4)
    | some l => (⟨l.toArray⟩, 0)
end Sp

theorem builderAtF_below {T e : TypeId} {B b : Nat} {p : Value} {bs : List Value} {w w1 : World} (h : BuilderAtF T e B b p bs w) (hb : Below w.heap.size w w1) : BuilderAtF T e B b p bs w1 := by
  obtain ⟨hB, v, hbk, hown, hne⟩ := h
  refine ⟨hB, v, (hb.block b (Array.getElem?_eq_some_iff.1 hbk).1).trans hbk, ⟨hown.1, ?_⟩, hne⟩
  rcases hown.2 with h | ⟨g, cap, cur, fz, h1, h2, h3, h4⟩
  · exact .inl h
  · exact .inr ⟨g, cap, cur, fz, h1, h2, (hb.block g (Array.getElem?_eq_some_iff.1 h3).1).trans h3, h4⟩
theorem isBuilderF_below {T e : TypeId} {B b : Nat} {bs : List Value} {w w1 : World} (h : IsBuilderF T e B b bs w) (hb : Below w.heap.size w w1) : IsBuilderF T e B b bs w1 :=
  h.elim (fun x => .inl (builderAtF_below x hb)) (fun x => .inr (builderAtF_below x hb))
theorem below_then {B : Nat} {w w1 w2 : World} (h : Below B w w1) (hB : B ≤ w1.heap.size) (k : Below w1.heap.size w1 w2) : Below B w w2 :=
  h.trans ⟨k.os, k.tape, k.output, k.size, fun i hi => k.block i (Nat.lt_of_lt_of_le hi hB)⟩
def strOf : Value → ByteArray
  | .string s => s
  | _ => ⟨#[]⟩

set_option maxHeartbeats 8000000 in
set_option maxRecDepth 100000 in
theorem decode_any (b : ByteArray) (w : World) :
    Calls Tryd.prog 102 #[.string b] w fun e w' => e = .returned (.tuple #[.string (Sp.decS b).1, .int .i64 (Sp.decS b).2]) ∧ Below w.heap.size w w' := by
  by_cases hlong : 65535 < b.size
  · have hz : (65535 : Int) < (b.size : Int) := by omega
    have hv : Sp.decS b = (⟨#[]⟩, 2) := by rw [Sp.decS, if_pos hlong]
    rw [hv]
    go_enter Tryd.func102, Tryd.ntmps102
    go_wp2
    go_ret2
    exact ⟨rfl, Below.refl _ _⟩
  have hz : ¬ ((65535 : Int) < (b.size : Int)) := by omega
  have hv := Lib.hid (show Sp.decS b = match Sp.decG (b.size + 1) b [] with | none => (⟨#[]⟩, 4) | some l => (⟨l.toArray⟩, 0) by rw [Sp.decS, if_neg hlong])
  generalize Sp.decS b = R at hv ⊢
  go_enter Tryd.func102, Tryd.ntmps102
  go_wp2
  go_loopw [0] (fun v0 wr => ∃ (s : ByteArray) (f : Nat) (acc : List UInt8), v0 = .string s ∧ Hid (Sp.decG (b.size + 1) b [] = Sp.decG f s acc) ∧ s.size < f ∧ s.size ≤ b.size ∧ acc.length + 4 * s.size ≤ 4 * b.size ∧ IsBuilderF 86 5 w.heap.size w.heap.size (byteCells acc) wr ∧ Below w.heap.size w wr) (fun v0 _ => (strOf v0).size)
  case atStart => exact ⟨b, b.size + 1, [], rfl, Lib.hid rfl, by omega, by omega, by simp, Lib.IsBuilderF.of (Lib.fresh_isBuilder 86 5 w), (Below.refl _ _).alloc (Nat.le_refl _) _⟩
  case round =>
    obtain ⟨s, f, acc, rfl, hd, hf, hsb, hal, hI, hbw⟩ := hrel
    obtain ⟨g, rfl⟩ : ∃ g, f = g + 1 := ⟨f - 1, by omega⟩
    have hsz := hbw.size
    by_cases h0 : s.size = 0
    · have hs0 : s = ⟨#[]⟩ := by
        rcases s with ⟨⟨l⟩⟩
        cases l with
        | nil => rfl
        | cons x l => simp [ByteArray.size] at h0
      subst hs0
      have hR : Hid (R = (⟨acc.toArray⟩, 0)) := Lib.hid (by rw [hv.out, hd.out, Sp.decG, if_pos h0])
      clear hv hd h0
      go_wp2_with (go_at_call 55; refine (Tryd.Builder_String_any_k w.heap.size w.heap.size acc _ hI hsz).mono ?_)
      rintro e W1 ⟨rfl, _, b1, _⟩
      go_wp2
      go_ret2
      exact ⟨by rw [hR.out]; rfl, hbw.trans b1⟩
    · have hpos : 0 < s.size := by omega
      have hne : s.toList.isEmpty = false := by
        rw [Lib.toList_data]
        rcases s with ⟨⟨l⟩⟩
        cases l with
        | nil => simp [ByteArray.size] at h0
        | cons x l => rfl
      have hd' := Lib.hid (show Sp.decG (b.size + 1) b [] = _ by rw [hd.out, Sp.decG, if_neg h0])
      clear hd
      have hu := fun W => unit_any s W hpos (by omega)
      have hr := Sp.unitS_range s
      have hn := Sp.unitS_size s hpos
      have h3 := Sp.unitS_three s
      generalize Sp.unitS s = q at hd' hu hr hn h3
      obtain ⟨r, n⟩ := q
      simp only at hd' hu hr hn h3
      have HU := Lib.hid hu
      clear hu
      go_wp2_with fail
      refine (HU.out _).mono ?_
      rintro e W1 ⟨rfl, hb1⟩
      clear HU
      have hI1 := isBuilderF_below hI hb1
      have hbw1 := below_then hbw hsz hb1
      have hsz1 := hbw1.size
      clear hI hb1
      by_cases hbad : n = 0 ∨ (56320 ≤ r ∧ r < 57344)
      · have hR : Hid (R = (⟨#[]⟩, 4)) := Lib.hid (by rw [hv.out, hd'.out, if_pos hbad])
        clear hv hd'
        go_wp2
        all_goals go_ret2
        all_goals exact ⟨by rw [hR.out]; rfl, hbw1⟩
      have hd2 := Lib.hid (show Sp.decG (b.size + 1) b [] = _ by rw [hd'.out, if_neg hbad])
      clear hd'
      have hn0 : ¬ n = 0 := fun h => hbad (.inl h)
      have hr0 : r < 56320 ∨ 57344 ≤ r := by omega
      have hn1 : 1 ≤ n := by omega
      have hn0b : (n == 0) = false := by simpa using hn0
      clear hbad
      by_cases hhi : 55296 ≤ r ∧ r < 56320
      · have hd3 := Lib.hid (show Sp.decG (b.size + 1) b [] = _ by rw [hd2.out, if_pos hhi])
        clear hd2
        have hn3 : n = 3 := h3 (by omega)
        subst hn3
        obtain ⟨hhi0, hhi1⟩ := hhi
        by_cases h6 : s.size < 6
        · have hR : Hid (R = (⟨#[]⟩, 4)) := Lib.hid (by rw [hv.out, hd3.out, if_pos h6])
          have h6z : (s.size : Int) < 6 := by omega
          clear hv hd3
          go_wp2
          go_ret2
          exact ⟨by rw [hR.out]; rfl, hbw1⟩
        have hd4 := Lib.hid (show Sp.decG (b.size + 1) b [] = _ by rw [hd3.out, if_neg h6])
        clear hd3
        have h6z : ¬ ((s.size : Int) < 6) := by omega
        have he3 : (s.extract 3 s.size).size = s.size - 3 := by simp
        have hu2 := fun W => unit_any (s.extract 3 s.size) W (by omega) (by omega)
        have hr2 := Sp.unitS_range (s.extract 3 s.size)
        generalize Sp.unitS (s.extract 3 s.size) = q2 at hd4 hu2 hr2
        obtain ⟨r2, n2⟩ := q2
        simp only at hd4 hu2 hr2
        have HU2 := Lib.hid hu2
        clear hu2 he3
        go_wp2_with fail
        refine (HU2.out _).mono ?_
        rintro e W2 ⟨rfl, hb2⟩
        clear HU2
        have hI2 := isBuilderF_below hI1 hb2
        have hbw2 := below_then hbw1 hsz1 hb2
        have hsz2 := hbw2.size
        clear hI1 hb2
        by_cases hbad2 : n2 = 0 ∨ r2 < 56320 ∨ 57344 ≤ r2
        · have hR : Hid (R = (⟨#[]⟩, 4)) := Lib.hid (by rw [hv.out, hd4.out, if_pos hbad2])
          clear hv hd4
          go_wp2
          all_goals go_ret2
          all_goals exact ⟨by rw [hR.out]; rfl, hbw2⟩
        have hd5 := Lib.hid (show Sp.decG (b.size + 1) b [] = _ by rw [hd4.out, if_neg hbad2])
        clear hd4
        have hn20 : ¬ n2 = 0 := fun h => hbad2 (.inl h)
        have hn20b : (n2 == 0) = false := by simpa using hn20
        have hr20 : 56320 ≤ r2 := by omega
        have hr21 : r2 < 57344 := by omega
        clear hbad2
        obtain ⟨x, hx⟩ : ∃ x, x = 65536 + (r - 55296) * 1024 + (r2 - 56320) := ⟨_, rfl⟩
        have h4 := Lib.runeCells_le x
        rw [Lib.runeCells_length] at h4
        have hw := fun (W : World) (hI : IsBuilderF 86 5 w.heap.size w.heap.size (byteCells acc) W) hs => writeRune_k w.heap.size w.heap.size (byteCells acc) x (by omega) (by omega) W hI (by rw [Lib.byteCells_length]; omega) hs
        rw [← hx] at hd5
        rw [hx] at hw
        have HX := Lib.hid hx
        have HW := Lib.hid hw
        have H4 := Lib.hid h4
        clear hw h4 hx
        go_wp2_with fail
        refine (HW.out _ hI2 hsz2).mono ?_
        rintro e W3 ⟨rfl, h1, b1, k1⟩
        rw [← HX.out] at h1
        go_wp2
        go_roundw
        case rel =>
          have h4 := H4.out
          have h7 : (s.extract 6 s.size).size = s.size - 6 := by simp
          refine ⟨_, g, acc ++ Lib.encodeRune x, rfl, Lib.hid hd5.out, by omega, by omega, by simp; omega, ?_, hbw2.trans b1⟩
          rw [Lib.byteCells_append, Lib.byteCells_encodeRune]; exact Or.inr h1
        case measure =>
          have h7 : (s.extract 6 s.size).size = s.size - 6 := by simp
          simp only [strOf]
          omega
      · have hd3 := Lib.hid (show Sp.decG (b.size + 1) b [] = _ by rw [hd2.out, if_neg hhi])
        clear hd2
        have h4 := Lib.runeCells_le r
        rw [Lib.runeCells_length] at h4
        have hw := fun (W : World) (hI : IsBuilderF 86 5 w.heap.size w.heap.size (byteCells acc) W) hs => writeRune_k w.heap.size w.heap.size (byteCells acc) r (by omega) (by omega) W hI (by rw [Lib.byteCells_length]; omega) hs
        have HW := Lib.hid hw
        have H4 := Lib.hid h4
        clear hw h4
        obtain ⟨m, rfl⟩ : ∃ m : Nat, n = m := ⟨n.toNat, by omega⟩
        simp only [Int.toNat_natCast] at hd3
        have hm1 : 1 ≤ m := by omega
        have hms : m ≤ s.size := by omega
        have hd4 := Lib.hid (show s.size - (s.extract m s.size).size = m by simp; omega)
        go_wp2_with fail
        all_goals
          refine (HW.out _ hI1 hsz1).mono ?_
          rintro e W2 ⟨rfl, h1, b1, k1⟩
          go_wp2
          go_roundw
          case rel =>
            have h4 := H4.out
            have h5 := hd4.out
            have h6 : (s.extract m s.size).size = s.size - m := by simp
            refine ⟨_, g, acc ++ Lib.encodeRune r, rfl, Lib.hid hd3.out, by omega, by omega, by simp; omega, ?_, hbw1.trans b1⟩
            rw [Lib.byteCells_append, Lib.byteCells_encodeRune]; exact Or.inr h1
          case measure =>
            have h6 : (s.extract m s.size).size = s.size - m := by simp
            simp only [strOf]
            omega
end Go.Proofs.YthpfknlgfkecpaaDoor
end
section
/-
  The walk of mutf.Encode.
-/
set_option linter.unusedVariables false
set_option linter.unusedSimpArgs false
namespace Go.Proofs.YthpfknlgfkecpaaDoor
open Go.RowKit Go.Lib

/-- Numbers as the cells of a row of bytes. -/
def numc (xs : List Int) : List Value := xs.map (Value.int .u8)
theorem numc_append (xs ys : List Int) : numc (xs ++ ys) = numc xs ++ numc ys := by simp [numc]
theorem numc_length (xs : List Int) : (numc xs).length = xs.length := by simp [numc]

set_option maxHeartbeats 4000000 in
set_option maxRecDepth 100000 in
theorem three_own (B : Nat) (v : Value) (xs : List Int) r (h0 : 0 ≤ r) (h1 : r < 65536) (w : World) (hown : w.ownsRow B 5 1 v xs.length (numc xs)) (hlen : xs.length + 3 ≤ 140737488355328) (hBw : B ≤ w.heap.size) :
    Calls Tryd.prog 94 #[v, .int .i32 r] w fun e w' => ∃ v', e = .returned v' ∧ w'.ownsRow B 5 1 v' (xs.length + 3) (numc (xs ++ Sp.three r)) ∧ ∃ o, (w.alloc o).grownBy w' v.ownBlock := by
  obtain ⟨i0, hi, hz0, hz1, hz2⟩ := info_parts infoByte
  go_enter Tryd.func94, Tryd.ntmps94
  go_wp2_with (at_builtin; refine wpList_append_own _ rfl _ _ 74 rfl B 5 i0 (.int .u8 0) 1 1 Tryd.underlying74 hi hz0 hz1 hz2 rfl (by decide) _ _ _ rfl (hown.alloc _) ⟨w.heap.size, 0, none⟩ 3 3 (numc (Sp.three r)) rfl rfl ?c1 ?c2 ?c3 ?c4 ?c5 ?_)
  case c1 =>
    have e1 : bits BinOp.or IntKind.u8 128 (bits BinOp.and IntKind.i32 (r / 64) 63 % 256) = 128 + r / 64 % 64 := by
      rw [Sp.i32_and63 _ (by omega) (by omega), Sp.or128 _ (by omega) (by omega)]; omega
    have e2 : bits BinOp.or IntKind.u8 128 (bits BinOp.and IntKind.i32 r 63 % 256) = 128 + r % 64 := by
      rw [Sp.i32_and63 _ (by omega) (by omega), Sp.or128 _ (by omega) (by omega)]; omega
    intro j u hj
    match j, hj with
    | 0, hj => simp [numc, Sp.three] at hj; subst hj; simp [Addr.add]
    | 1, hj => simp [numc, Sp.three] at hj; subst hj; simp [Addr.add, e1]
    | 2, hj => simp [numc, Sp.three] at hj; subst hj; simp [Addr.add, e2]
    | (j + 3), hj => simp [numc, Sp.three] at hj
  case c2 => intro u hu; simp [numc, Sp.three] at hu; rcases hu with rfl | rfl | rfl <;> rfl
  case c3 => unfold maxLen; omega
  case c4 => omega
  case c5 => simp; omega
  intro v' w2 hown' hgrow _
  go_wp2
  go_ret
  exact ⟨_, rfl, by rw [numc_append]; exact hown', _, hgrow⟩

theorem iter_grown {w w' : World} {v : Value} {B n : Nat} {xs : List Value} {k : Nat} {s : ByteArray} {pos : Nat} (hown : w.ownsRow B 5 1 v n xs) (hg : w.grownBy w' v.ownBlock) (hk : w.heap[k]? = some (.stringIter s pos)) : w'.heap[k]? = some (.stringIter s pos) :=
  (OthersKept.grown (OthersKept.refl 5 none w) hg (Lib.ownsRowF_kind (World.ownsRowF_of hown))) k _ hk (by simp) (fun _ _ e1 => by cases e1)
theorem own_base {w : World} {base : Nat} {e : TypeId} {size n : Nat} {v : Value} {xs : List Value} (h : w.ownsRow base e size v n xs) (k : Nat) (hk : v.ownBlock = some k) : base ≤ k := by
  rcases h.2 with ⟨rfl, _⟩ | ⟨g, cap, cur, rfl, hb, _⟩
  · simp [Value.ownBlock] at hk
  · have : g = k := by simpa [Value.ownBlock] using hk
    omega

theorem app_step {w0 w2 w3 : World} {o : Obj} {v4 v' : Value} {acc news : List Int} {m k B0 : Nat} {s : ByteArray} {pos : Nat} (hown : w2.ownsRow (k + 1) 5 1 v4 acc.length (numc acc)) (hl : news.length = m)
    (hown' : w3.ownsRow (k + 1) 5 1 v' (acc.length + m) (numc (acc ++ news))) (hg : (w2.alloc o).grownBy w3 v4.ownBlock) (hit : w2.heap[k]? = some (.stringIter s pos)) (hb : Below B0 w0 w2) (hB0 : B0 ≤ k) :
    w3.ownsRow (k + 1) 5 1 v' (acc ++ news).length (numc (acc ++ news)) ∧ w3.heap[k]? = some (.stringIter s pos) ∧ Below B0 w0 w3 := by
  have hlt : k < w2.heap.size := (Array.getElem?_eq_some_iff.1 hit).1
  refine ⟨by rw [List.length_append, hl]; exact hown', iter_grown (hown.alloc _) hg ((Lib.alloc_old w2 _ k hlt).trans hit), ?_⟩
  exact (hb.alloc (by omega) _).grown hg (by simp; omega) (fun q hq => by have := own_base hown q hq; omega)

theorem own_string {P : Program} {w : World} {base n : Nat} {e' src dst e : TypeId} {v : Value} {xs : List Int} (hs : P.underlying src = some (.slice e)) (he : P.underlying e = some (.int .u8)) (hd : P.underlying dst = some .string)
    (h : w.ownsRow base e' 1 v n (numc xs)) : (convert src dst v).run P w = .ok (.string (Go.strOfNums xs)) w := by
  have hl : xs.length = n := by have := h.1; simp [numc] at this; exact this
  rcases h.2 with ⟨rfl, rfl⟩ | ⟨g, cap, cur, rfl, _⟩
  · obtain rfl : xs = [] := List.eq_nil_of_length_eq_zero hl
    exact run_convert_bytes_nil w src e hs he 0 0 dst hd
  · refine run_convert_bytes_arg w src e hs he g 0 n cap xs hl (fun i hi => ?_) dst hd
    have hc := h.cells (g := g) rfl i (.int .u8 (xs.getD i 0)) (by simp [numc, List.getElem?_eq_getElem (show i < xs.length by omega), List.getD_eq_getElem?_getD])
    have ha : (⟨g, 0, none⟩ : Addr).add i = ⟨g, 0 + i, none⟩ := by unfold Addr.add; split <;> simp_all
    rwa [ha] at hc

namespace Sp
/-- What Encode writes. -/
def encL (l : List Int) : List Int := l.flatMap encZ
def encS (s : ByteArray) : ByteArray × Int :=
  if validD s.data.toList = false then (⟨#[]⟩, 4)
  else if 65535 < (encL (runes s)).length then (⟨#[]⟩, 2)
  else (Go.strOfNums (encL (runes s)), 0)
end Sp

set_option maxHeartbeats 8000000 in
set_option maxRecDepth 100000 in
theorem encode_any (s : ByteArray) (w : World) (hs : s.size ≤ 1099511627776) (hT : Lib.Utf8Tabs (Tryd.lays196_ren.g 3) (Tryd.lays196_ren.g 4) w) :
    Calls Tryd.prog 60 #[.string s] w fun e w' => e = .returned (.tuple #[.string (Sp.encS s).1, .int .i64 (Sp.encS s).2]) ∧ Below w.heap.size w w' := by
  obtain ⟨i0, hi, hz0, hz1, hz2⟩ := info_parts infoByte
  have hV := Tryd.utf8_ValidString s w (by omega) hT
  have HE := Lib.hid (show Sp.encS s = _ by rw [Sp.encS])
  generalize Sp.encS s = R at HE ⊢
  generalize validD s.data.toList = V at hV HE
  have HV := Lib.hid hV
  clear hV
  go_enter Tryd.func60, Tryd.ntmps60
  go_wp2_with fail
  refine HV.out.mono ?_
  rintro e W1 ⟨rfl, hb1⟩
  clear HV
  cases V with
  | false =>
    have hR : Hid (R = (⟨#[]⟩, 4)) := Lib.hid (by rw [HE.out, if_pos rfl])
    clear HE
    go_wp2
    go_ret2
    exact ⟨by rw [hR.out]; rfl, hb1⟩
  | true =>
    have HR : Hid (R = if 65535 < (Sp.encL (Sp.runes s)).length then (⟨#[]⟩, 2) else (Go.strOfNums (Sp.encL (Sp.runes s)), 0)) := Lib.hid (by rw [HE.out, if_neg (by simp)])
    clear HE
    have hsz1 := hb1.size
    go_wp2
    go_loopw [4] (fun v4 wr => ∃ (pos f : Nat) (acc : List Int), wr.ownsRow (W1.heap.size + 1) 5 1 v4 acc.length (numc acc) ∧ wr.heap[W1.heap.size]? = some (.stringIter s pos) ∧ Below w.heap.size w wr ∧ Hid (acc ++ Sp.encL (Sp.rl s f pos) = Sp.encL (Sp.runes s)) ∧ s.size ≤ pos + f ∧ acc.length ≤ 6 * pos) (fun _ wr => s.size - wr.iterPos W1.heap.size)
    case atStart =>
      refine ⟨0, s.size, [], ⟨by simp [numc], .inl ⟨rfl, rfl⟩⟩, ?_, below_then hb1 hsz1 (below_iter _ _ _), Lib.hid rfl, by omega, by simp⟩
      exact World.iter_heap W1 s 0
    case round =>
      obtain ⟨pos, f, acc, hown, hit, hbw, hacc, hfu, hal⟩ := hrel
      have hsz : W1.heap.size < wr.heap.size := (Array.getElem?_eq_some_iff.1 hit).1
      by_cases hp : pos < s.size
      · have hnx : ∀ ty, (Instr.next (.pointer (some ⟨W1.heap.size, 0, none⟩)) true ty).run Tryd.prog wr = _ := fun ty => Lib.run_next_any_at wr W1.heap.size s pos ty hit hp
        have hwd := Lib.decode_width_pos s pos hp
        have hmx : ((Utf8.decode s pos).1 : Int) ≤ 1114111 := by have := Sp.decode_max s pos; omega
        have hmn : (0 : Int) ≤ ((Utf8.decode s pos).1 : Int) := by omega
        obtain ⟨g, rfl, hg, hr⟩ := Sp.rl_step s f pos hp hfu
        have hr' := Lib.hid hr
        clear hr
        have hit2 := Lib.iterAt_heap wr W1.heap.size s pos (pos + (Utf8.decode s pos).2) hit
        have hbw2 := Lib.below_iterAt hbw (k := W1.heap.size) (by omega) s (pos + (Utf8.decode s pos).2)
        have hown2 := ownsRow_iterAt hown (k := W1.heap.size) (by omega) s (pos + (Utf8.decode s pos).2)
        have hsz2 : W1.heap.size < (wr.iterAt W1.heap.size s (pos + (Utf8.decode s pos).2)).heap.size := by rw [Lib.iterAt_size]; omega
        have hlt2 : pos < pos + (Utf8.decode s pos).2 := by omega
        generalize pos + (Utf8.decode s pos).2 = pos2 at *
        generalize ((Utf8.decode s pos).1 : Int) = r at *
        generalize wr.iterAt W1.heap.size s pos2 = w2 at *
        clear hown hbw hsz
        by_cases c1 : 0 < r ∧ r < 128
        · have he : Sp.encZ r = [r] := by rw [Sp.encZ, if_pos (by omega)]
          have HE := Lib.hid he
          clear he
          obtain ⟨c10, c11⟩ := c1
          go_wp2_with (at_builtin; refine wpList_append_own _ rfl _ _ 74 rfl (W1.heap.size + 1) 5 i0 (.int .u8 0) 1 1 Tryd.underlying74 hi hz0 hz1 hz2 rfl (by decide) _ _ _ rfl (hown2.alloc _) ⟨w2.heap.size, 0, none⟩ 1 1 (numc [r]) rfl rfl ?c1 ?c2 ?c3 ?c4 ?c5 ?_)
          case c1 =>
            intro j u hj
            match j, hj with
            | 0, hj => simp [numc] at hj; subst hj; simp [Addr.add]
            | (j + 1), hj => simp [numc] at hj
          case c2 => intro u hu; simp [numc] at hu; subst hu; rfl
          case c3 => unfold maxLen; omega
          case c4 => omega
          case c5 => first | omega | (simp; omega)
          intro v' w3 hown' hgrow _
          obtain ⟨ho3, hi3, hb3⟩ := app_step (o := _) (news := [r]) hown2 rfl (by rw [numc_append]; exact hown') hgrow hit2 hbw2 (by omega)
          go_wp2
          go_roundw
          case rel =>
            refine ⟨pos2, g, acc ++ [r], ho3, hi3, hb3, Lib.hid ?_, by omega, by simp; omega⟩
            rw [← hacc.out, hr'.out, Sp.encL, Sp.encL, List.flatMap_cons, HE.out, List.append_assoc]
          case measure =>
            simp only [World.iterPos, hi3, hit]
            omega
        have c1b : ¬ (0 < r) ∨ ¬ (r < 128) := by omega
        by_cases c2 : r < 2048
        · have he : Sp.encZ r = [192 + r / 64, 128 + r % 64] := by rw [Sp.encZ, if_neg (by omega), if_pos (by omega)]
          have HE := Lib.hid he
          clear he
          by_cases c0 : 0 < r
          · have c0b : 128 ≤ r := by omega
            clear c1 c1b
            go_wp2_with (at_builtin; refine wpList_append_own _ rfl _ _ 74 rfl (W1.heap.size + 1) 5 i0 (.int .u8 0) 1 1 Tryd.underlying74 hi hz0 hz1 hz2 rfl (by decide) _ _ _ rfl (hown2.alloc _) ⟨w2.heap.size, 0, none⟩ 2 2 (numc [192 + r / 64, 128 + r % 64]) rfl rfl ?c1 ?c2 ?c3 ?c4 ?c5 ?_)
            case c1 =>
              have e2 : bits BinOp.or IntKind.u8 128 (bits BinOp.and IntKind.i32 r 63 % 256) = 128 + r % 64 := by
                rw [Sp.i32_and63 _ (by omega) (by omega), Sp.or128 _ (by omega) (by omega)]; omega
              intro j u hj
              match j, hj with
              | 0, hj => simp [numc] at hj; subst hj; simp [Addr.add]
              | 1, hj => simp [numc] at hj; subst hj; simp [Addr.add, e2]
              | (j + 2), hj => simp [numc] at hj
            case c2 => intro u hu; simp [numc] at hu; rcases hu with rfl | rfl <;> rfl
            case c3 => unfold maxLen; omega
            case c4 => omega
            case c5 => first | omega | (simp; omega)
            intro v' w3 hown' hgrow _
            obtain ⟨ho3, hi3, hb3⟩ := app_step (o := _) (news := [192 + r / 64, 128 + r % 64]) hown2 rfl (by rw [numc_append]; exact hown') hgrow hit2 hbw2 (by omega)
            go_wp2
            go_roundw
            case rel =>
              refine ⟨pos2, g, acc ++ [192 + r / 64, 128 + r % 64], ho3, hi3, hb3, Lib.hid ?_, by omega, by simp; omega⟩
              rw [← hacc.out, hr'.out, Sp.encL, Sp.encL, List.flatMap_cons, HE.out, List.append_assoc]
            case measure =>
              simp only [World.iterPos, hi3, hit]
              omega
          · have c0b : r ≤ 0 := by omega
            clear c1 c1b
            go_wp2_with (at_builtin; refine wpList_append_own _ rfl _ _ 74 rfl (W1.heap.size + 1) 5 i0 (.int .u8 0) 1 1 Tryd.underlying74 hi hz0 hz1 hz2 rfl (by decide) _ _ _ rfl (hown2.alloc _) ⟨w2.heap.size, 0, none⟩ 2 2 (numc [192 + r / 64, 128 + r % 64]) rfl rfl ?c1 ?c2 ?c3 ?c4 ?c5 ?_)
            case c1 =>
              have e2 : bits BinOp.or IntKind.u8 128 (bits BinOp.and IntKind.i32 r 63 % 256) = 128 + r % 64 := by
                rw [Sp.i32_and63 _ (by omega) (by omega), Sp.or128 _ (by omega) (by omega)]; omega
              intro j u hj
              match j, hj with
              | 0, hj => simp [numc] at hj; subst hj; simp [Addr.add]
              | 1, hj => simp [numc] at hj; subst hj; simp [Addr.add, e2]
              | (j + 2), hj => simp [numc] at hj
            case c2 => intro u hu; simp [numc] at hu; rcases hu with rfl | rfl <;> rfl
            case c3 => unfold maxLen; omega
            case c4 => omega
            case c5 => first | omega | (simp; omega)
            intro v' w3 hown' hgrow _
            obtain ⟨ho3, hi3, hb3⟩ := app_step (o := _) (news := [192 + r / 64, 128 + r % 64]) hown2 rfl (by rw [numc_append]; exact hown') hgrow hit2 hbw2 (by omega)
            go_wp2
            go_roundw
            case rel =>
              refine ⟨pos2, g, acc ++ [192 + r / 64, 128 + r % 64], ho3, hi3, hb3, Lib.hid ?_, by omega, by simp; omega⟩
              rw [← hacc.out, hr'.out, Sp.encL, Sp.encL, List.flatMap_cons, HE.out, List.append_assoc]
            case measure =>
              simp only [World.iterPos, hi3, hit]
              omega
        have c2b : ¬ (r < 2048) := by omega
        have c0b : (128 : Int) ≤ r := by omega
        by_cases c3 : r < 65536
        · have he : Sp.encZ r = Sp.three r := by rw [Sp.encZ, if_neg (by omega), if_neg c2b, if_pos (by omega)]
          have HE := Lib.hid he
          clear he c1b
          have h3 := Lib.hid (three_own (W1.heap.size + 1) u4 acc r (by omega) (by omega) w2 hown2 (by omega) (by omega))
          clear c2 c1
          go_wp2_with fail
          refine h3.out.mono ?_
          rintro e w3 ⟨v', rfl, hown', o, hgrow⟩
          clear h3
          obtain ⟨ho3, hi3, hb3⟩ := app_step (o := _) (news := Sp.three r) hown2 rfl hown' hgrow hit2 hbw2 (by omega)
          go_wp2
          go_roundw
          case rel =>
            refine ⟨pos2, g, acc ++ Sp.three r, ho3, hi3, hb3, Lib.hid ?_, by omega, by simp [Sp.three]; omega⟩
            rw [← hacc.out, hr'.out, Sp.encL, Sp.encL, List.flatMap_cons, HE.out, List.append_assoc]
          case measure =>
            simp only [World.iterPos, hi3, hit]
            omega
        have c3b : ¬ (r < 65536) := by omega
        have he : Sp.encZ r = Sp.three (55296 + (r - 65536) / 1024) ++ Sp.three (56320 + (r - 65536) % 1024) := by rw [Sp.encZ, if_neg (by omega), if_neg c2b, if_neg c3b]
        have HE := Lib.hid he
        clear he c1b
        have h3 := Lib.hid (three_own (W1.heap.size + 1) u4 acc (55296 + (r - 65536) / 1024) (by omega) (by omega) w2 hown2 (by omega) (by omega))
        clear c2 c3 c1
        go_wp2_with fail
        refine h3.out.mono ?_
        rintro e w3 ⟨v', rfl, hown', o, hgrow⟩
        clear h3
        obtain ⟨ho3, hi3, hb3⟩ := app_step (o := _) (news := Sp.three (55296 + (r - 65536) / 1024)) hown2 rfl hown' hgrow hit2 hbw2 (by omega)
        have hsz3 : W1.heap.size < w3.heap.size := (Array.getElem?_eq_some_iff.1 hi3).1
        have h4 := Lib.hid (three_own (W1.heap.size + 1) v' (acc ++ Sp.three (55296 + (r - 65536) / 1024)) (56320 + (r - 65536) % 1024) (by omega) (by omega) w3 ho3 (by simp [Sp.three]; omega) (by omega))
        have e1023 : bits BinOp.and IntKind.i32 (r - 65536) 1023 = (r - 65536) % 1024 := Sp.i32_and1023 _ (by omega) (by omega)
        clear hown' hgrow hown2 hit2 hbw2
        go_wp2_with fail
        refine h4.out.mono ?_
        rintro e w4 ⟨v'', rfl, hown4, o4, hgrow4⟩
        clear h4
        obtain ⟨ho4, hi4, hb4⟩ := app_step (o := _) (news := Sp.three (56320 + (r - 65536) % 1024)) ho3 rfl hown4 hgrow4 hi3 hb3 (by omega)
        go_wp2
        go_roundw
        case rel =>
          refine ⟨pos2, g, _, ho4, hi4, hb4, Lib.hid ?_, by omega, by simp [Sp.three]; omega⟩
          rw [← hacc.out, hr'.out, Sp.encL, Sp.encL, List.flatMap_cons, HE.out]
          simp only [List.append_assoc]
        case measure =>
          simp only [World.iterPos, hi4, hit]
          omega
      · have hnx : ∀ ty, (Instr.next (.pointer (some ⟨W1.heap.size, 0, none⟩)) true ty).run Tryd.prog wr = _ := fun ty => Lib.run_next_end_at wr W1.heap.size s pos ty hit hp
        have hfin : Hid (Sp.encL (Sp.runes s) = acc) := Lib.hid (by rw [← hacc.out, Sp.rl_end _ _ _ hp]; simp [Sp.encL])
        obtain ⟨A, c, rfl⟩ : ∃ A c, u4 = .slice A acc.length c := by
          rcases hown.2 with ⟨hv, h0⟩ | ⟨g, cap, cur, hv, _⟩
          · exact ⟨none, 0, by rw [hv, h0]⟩
          · exact ⟨_, _, hv⟩
        by_cases hlen : 65535 < acc.length
        · have hR : Hid (R = (⟨#[]⟩, 2)) := Lib.hid (by rw [HR.out, hfin.out, if_pos hlen])
          have hlz : (65535 : Int) < (acc.length : Int) := by omega
          clear HR hfin hacc
          go_wp2
          go_ret2
          exact ⟨by rw [hR.out]; rfl, hbw⟩
        · have hR : Hid (R = (Go.strOfNums acc, 0)) := Lib.hid (by rw [HR.out, hfin.out, if_neg hlen])
          have hlz : ¬ (65535 : Int) < (acc.length : Int) := by omega
          have hconv := own_string (P := Tryd.prog) (src := 74) (dst := 9) Tryd.underlying74 Tryd.underlying5 Tryd.underlying9 hown
          clear HR hfin hacc
          go_wp2
          go_ret2
          exact ⟨by rw [hR.out]; rfl, hbw⟩
end Go.Proofs.YthpfknlgfkecpaaDoor
end
section
/-
  Walks of slices.Contains at []rune, mutf.Runes and mutf.Make.
-/
set_option linter.unusedVariables false
set_option linter.unusedSimpArgs false
namespace Go.Proofs.YthpfknlgfkecpaaDoor
open Go.RowKit Go.Lib

/-- A slice of numbers that is read: nil, empty and other slices alike. -/
def RdN (k : IntKind) (w : World) (A : Option Addr) (xs : List Int) : Prop :=
  xs.length ≤ 9223372036854775807 ∧ (0 < xs.length → ∃ b o, A = some ⟨b, o, none⟩ ∧ ∀ j, j < xs.length → w.cell? ⟨b, o + j, none⟩ = some (.int k (xs.getD j 0)))

/-- The place of a number. -/
def idx : List Int → Int → Int → Int
  | [], _, _ => -1
  | x :: l, v, at_ => if v = x then at_ else idx l v (at_ + 1)

theorem idx_lo : ∀ (l : List Int) (v a : Int), 0 ≤ a → (idx l v a = -1 ∧ v ∉ l) ∨ (0 ≤ idx l v a ∧ v ∈ l)
  | [], _, _, _ => .inl ⟨rfl, by simp⟩
  | x :: l, v, a, h => by
    unfold idx
    split
    · rename_i e; exact .inr ⟨h, by simp [e]⟩
    · rename_i e
      rcases idx_lo l v (a + 1) (by omega) with ⟨h1, h2⟩ | ⟨h1, h2⟩
      · exact .inl ⟨h1, by simp [e, h2]⟩
      · exact .inr ⟨h1, by simp [h2]⟩

set_option maxHeartbeats 4000000 in
theorem index_rune (A : Option Addr) (c : Nat) (xs : List Int) (v : Int) (w : World) (h : RdN .i32 w A xs) :
    Calls Tryd.prog 130 #[.slice A xs.length c, .int .i32 v] w fun e w' => e = .returned (.int .i64 (idx xs v 0)) ∧ w' = w := by
  obtain ⟨hl, hc⟩ := h
  have HC := Lib.hid hc
  clear hc
  go_enter Tryd.func130, Tryd.ntmps130
  go_wp2
  go_loop [8] (fun n => ∃ k : Nat, k ≤ xs.length ∧ n = .int .i64 k ∧ Hid (idx (xs.drop k) v k = idx xs v 0)) (fun n => xs.length - (RowKit.intOf n).toNat)
  case atStart => exact ⟨0, Nat.zero_le _, rfl, Lib.hid (by simp)⟩
  case round =>
    obtain ⟨k, hk, rfl, hi⟩ := hrel
    by_cases hlt : k < xs.length
    · obtain ⟨b, o, rfl, hcell⟩ := HC.out (by omega)
      have hck := hcell k hlt
      clear hcell
      have hd : Hid (xs.drop k = xs.getD k 0 :: xs.drop (k + 1)) := Lib.hid (by rw [List.drop_eq_getElem_cons hlt]; simp [List.getD_eq_getElem?_getD, hlt])
      generalize xs.getD k 0 = y at hck hd
      by_cases he : v = y
      · have he' : (v == y) = true := by simpa using he
        have hv : Hid (idx xs v 0 = k) := Lib.hid (by rw [← hi.out, hd.out, idx, if_pos he])
        clear he hi hd
        go_wp2
        go_ret
        exact ⟨by rw [hv.out]; rfl, rfl⟩
      · have he' : (v == y) = false := by simpa using he
        have hv : Hid (idx (xs.drop (k + 1)) v (k + 1 : Nat) = idx xs v 0) := Lib.hid (by rw [← hi.out, hd.out, idx, if_neg he]; simp)
        clear he hi hd
        go_wp2
        go_round
        case rel => exact ⟨k + 1, by omega, by go_num, hv⟩
        case measure => simp [RowKit.intOf]; omega
    · have hv : Hid (idx xs v 0 = -1) := Lib.hid (by rw [← hi.out, List.drop_eq_nil_of_le (by omega)]; rfl)
      clear hi
      go_wp2
      go_ret
      exact ⟨by rw [hv.out]; rfl, rfl⟩

theorem contains_rune (A : Option Addr) (c : Nat) (xs : List Int) (v : Int) (w : World) (h : RdN .i32 w A xs) :
    Calls Tryd.prog 105 #[.slice A xs.length c, .int .i32 v] w fun e w' => e = .returned (.bool (decide (v ∈ xs))) ∧ w' = w := by
  rcases idx_lo xs v 0 (by omega) with ⟨h1, h2⟩ | ⟨h1, h2⟩
  · have hd : decide (v ∈ xs) = false := by simpa using h2
    have H1 := Lib.hid h1
    clear h1 h2
    go_enter Tryd.func105, Tryd.ntmps105
    go_wp2_with fail
    refine (index_rune A c xs v _ h).mono ?_
    rintro e w' ⟨rfl, rfl⟩
    rw [H1.out]
    go_wp2
    go_ret
    exact ⟨by rw [hd]; rfl, rfl⟩
  · have hd : decide (v ∈ xs) = true := by simpa using h2
    have H1 := Lib.hid h1
    clear h1 h2
    go_enter Tryd.func105, Tryd.ntmps105
    go_wp2_with fail
    refine (index_rune A c xs v _ h).mono ?_
    rintro e w' ⟨rfl, rfl⟩
    have h1' := H1.out
    generalize idx xs v 0 = q at h1' ⊢
    go_wp2
    go_ret
    exact ⟨by rw [hd]; rfl, rfl⟩
end Go.Proofs.YthpfknlgfkecpaaDoor
end
section
/-
  Walks of mutf.Name, Len, Runes and Make.
-/
set_option linter.unusedVariables false
set_option linter.unusedSimpArgs false
namespace Go.Proofs.YthpfknlgfkecpaaDoor
open Go.RowKit Go.Lib

namespace Sp
/-- May a rune stand in a name? -/
def goodR (r : Int) : Bool := decide (32 < r) && decide (r ≠ 127) && !decide (r ∈ ([59, 91, 40, 41, 46] : List Int))
def nameS (s : ByteArray) : Bool := (runes s).all goodR && decide (0 < (runes s).length) && decide ((runes s).length ≤ 64) && validD s.data.toList
end Sp

theorem cell_below {w w1 : World} (h : Below w.heap.size w w1) {a : Addr} {v : Value} (hc : w.cell? a = some v) : w1.cell? a = some v := (h.cell (World.block_lt_of_cell? w a hc)).trans hc
theorem tabs_below {w w1 : World} {g3 g4 : Nat} (hT : Lib.Utf8Tabs g3 g4 w) (h : Below w.heap.size w w1) : Lib.Utf8Tabs g3 g4 w1 :=
  ⟨fun c hc => cell_below h (hT.1 c hc), fun i hi => ⟨cell_below h (hT.2 i hi).1, cell_below h (hT.2 i hi).2⟩⟩

/-- The tables of unicode/utf8, as they are laid. -/
def Tabs (w : World) : Prop := Lib.Utf8Tabs (Tryd.lays196_ren.g 3) (Tryd.lays196_ren.g 4) w
theorem Tabs.below {w w1 : World} (h : Tabs w) (hb : Below w.heap.size w w1) : Tabs w1 := tabs_below h hb

theorem len_any (s : ByteArray) (w : World) (hs : s.size ≤ 140737488351232) :
    Calls Tryd.prog 117 #[.string s] w fun e w' => e = .returned (.int .i64 ((Sp.runes s).length : Nat)) ∧ Below w.heap.size w w' := by
  have hc := Lib.hid (Tryd.utf8_RuneCountInString s w (by omega))
  rw [Sp.runes_length]
  generalize Lib.runeCount s = n at hc ⊢
  go_enter Tryd.func117, Tryd.ntmps117
  go_wp2_with fail
  refine hc.out.mono ?_
  rintro e w' ⟨rfl, pos, rfl⟩
  go_wp2
  go_ret
  exact ⟨rfl, below_iter _ _ _⟩

set_option maxHeartbeats 8000000 in
set_option maxRecDepth 100000 in
theorem name_any (s : ByteArray) (w : World) (hs : s.size ≤ 140737488351232) (hT : ∀ W, Below w.heap.size w W → Lib.Utf8Tabs (Tryd.lays196_ren.g 3) (Tryd.lays196_ren.g 4) W) :
    Calls Tryd.prog 77 #[.string s] w fun e w' => e = .returned (.bool (Sp.nameS s)) ∧ Below w.heap.size w w' := by
  have HV := Lib.hid (fun W h => Tryd.utf8_ValidString s W (by omega) (hT W h))
  have HE := Lib.hid (show Sp.nameS s = _ by rw [Sp.nameS])
  generalize Sp.nameS s = R at HE ⊢
  generalize validD s.data.toList = V at HV HE
  clear hT
  go_enter Tryd.func77, Tryd.ntmps77
  go_wp2
  go_loopw [3] (fun v3 wr => ∃ (pos f k : Nat), v3 = .int .i64 k ∧ wr.heap[w.heap.size]? = some (.stringIter s pos) ∧ Below w.heap.size w wr ∧ Hid ((Sp.rl s f pos).all Sp.goodR = (Sp.runes s).all Sp.goodR) ∧ Hid ((Sp.runes s).length = k + (Sp.rl s f pos).length) ∧ s.size ≤ pos + f ∧ k ≤ pos) (fun _ wr => s.size - wr.iterPos w.heap.size)
  case atStart => exact ⟨0, s.size, 0, rfl, World.iter_heap w s 0, below_iter _ _ _, Lib.hid rfl, Lib.hid (by simp [Sp.runes]), by omega, by omega⟩
  case round =>
    obtain ⟨pos, f, k, rfl, hit, hbw, hall, hcnt, hfu, hk⟩ := hrel
    have hsz : w.heap.size < wr.heap.size := (Array.getElem?_eq_some_iff.1 hit).1
    by_cases hp : pos < s.size
    · have hnx : ∀ ty, (Instr.next (.pointer (some ⟨w.heap.size, 0, none⟩)) true ty).run Tryd.prog wr = _ := fun ty => Lib.run_next_any_at wr w.heap.size s pos ty hit hp
      have hwd := Lib.decode_width_pos s pos hp
      have hmx : ((Utf8.decode s pos).1 : Int) ≤ 1114111 := by have := Sp.decode_max s pos; omega
      have hmn : (0 : Int) ≤ ((Utf8.decode s pos).1 : Int) := by omega
      obtain ⟨g, rfl, hg, hr⟩ := Sp.rl_step s f pos hp hfu
      have hr' := Lib.hid hr
      clear hr
      have hit2 := Lib.iterAt_heap wr w.heap.size s pos (pos + (Utf8.decode s pos).2) hit
      have hbw2 := Lib.below_iterAt hbw (k := w.heap.size) (by omega) s (pos + (Utf8.decode s pos).2)
      have hsz2 : w.heap.size < (wr.iterAt w.heap.size s (pos + (Utf8.decode s pos).2)).heap.size := by rw [Lib.iterAt_size]; omega
      have hlt2 : pos < pos + (Utf8.decode s pos).2 := by omega
      generalize pos + (Utf8.decode s pos).2 = pos2 at *
      generalize ((Utf8.decode s pos).1 : Int) = r at *
      generalize wr.iterAt w.heap.size s pos2 = w2 at *
      clear hbw hsz
      by_cases c1 : r ≤ 32
      · have hR : Hid (R = false) := Lib.hid (by rw [HE.out, ← hall.out, hr'.out]; simp [Sp.goodR, show ¬ (32 < r) by omega])
        clear HE hall hcnt hr'
        go_wp2
        go_ret
        exact ⟨by rw [hR.out]; rfl, hbw2⟩
      by_cases c2 : r = 127
      · have hR : Hid (R = false) := Lib.hid (by rw [HE.out, ← hall.out, hr'.out]; simp [Sp.goodR, c2])
        have c2b : (r == 127) = true := by simpa using c2
        clear HE hall hcnt hr' c2
        go_wp2
        go_ret
        exact ⟨by rw [hR.out]; rfl, hbw2⟩
      have c2b : (r == 127) = false := by simpa using c2
      have hct := Lib.hid (contains_rune (some ⟨w2.heap.size, 0, none⟩) 5 [59, 91, 40, 41, 46] r (w2.alloc (.cells #[.int .i32 59, .int .i32 91, .int .i32 40, .int .i32 41, .int .i32 46] 21)) ⟨by simp, fun _ => ⟨w2.heap.size, 0, rfl, fun j hj => by
        match j, hj with
        | 0, _ => simp
        | 1, _ => simp
        | 2, _ => simp
        | 3, _ => simp
        | 4, _ => simp
        | j + 5, hj => simp at hj; omega⟩⟩)
      by_cases c3 : r ∈ ([59, 91, 40, 41, 46] : List Int)
      · have hR : Hid (R = false) := Lib.hid (by rw [HE.out, ← hall.out, hr'.out]; simp only [List.all_cons, Sp.goodR, c3]; simp)
        have c3b := Lib.hid (show decide (r ∈ ([59, 91, 40, 41, 46] : List Int)) = true by simpa using c3)
        clear HE hall hcnt hr' c2 c3
        go_wp2_with fail
        refine hct.out.mono ?_
        rintro e w3 ⟨rfl, rfl⟩
        rw [c3b.out]
        go_wp2
        go_ret
        exact ⟨by rw [hR.out]; rfl, hbw2.alloc (by omega) _⟩
      · have hgood : Sp.goodR r = true := by
          simp only [Sp.goodR, c3]
          simp [c2]
          omega
        have c3b := Lib.hid (show decide (r ∈ ([59, 91, 40, 41, 46] : List Int)) = false by simpa using c3)
        have hall2 := Lib.hid (show (Sp.rl s g pos2).all Sp.goodR = (Sp.runes s).all Sp.goodR by rw [← hall.out, hr'.out, List.all_cons, hgood, Bool.true_and])
        have hcnt2 := Lib.hid (show (Sp.runes s).length = (k + 1 : Nat) + (Sp.rl s g pos2).length by rw [hcnt.out, hr'.out, List.length_cons]; omega)
        clear hall hcnt hr' c2 c3 hgood
        go_wp2_with fail
        refine hct.out.mono ?_
        rintro e w3 ⟨rfl, rfl⟩
        rw [c3b.out]
        have hit3 := (Lib.alloc_old w2 (.cells #[.int .i32 59, .int .i32 91, .int .i32 40, .int .i32 41, .int .i32 46] 21) w.heap.size hsz2).trans hit2
        go_wp2
        go_roundw
        case rel => exact ⟨pos2, g, k + 1, by go_num, hit3, hbw2.alloc (by omega) _, hall2, hcnt2, by omega, by omega⟩
        case measure =>
          simp only [World.iterPos, hit3, hit]
          omega
    · have hnx : ∀ ty, (Instr.next (.pointer (some ⟨w.heap.size, 0, none⟩)) true ty).run Tryd.prog wr = _ := fun ty => Lib.run_next_end_at wr w.heap.size s pos ty hit hp
      have hl : Hid ((Sp.runes s).length = k) := Lib.hid (by rw [hcnt.out, Sp.rl_end _ _ _ hp]; simp)
      have ha : Hid ((Sp.runes s).all Sp.goodR = true) := Lib.hid (by rw [← hall.out, Sp.rl_end _ _ _ hp]; rfl)
      have hR0 := Lib.hid (show R = (decide (0 < k) && decide (k ≤ 64) && V) by rw [HE.out, hl.out, ha.out]; simp)
      clear HE hall hcnt
      by_cases c1 : 0 < k ∧ k ≤ 64
      · have hR : Hid (R = V) := Lib.hid (by rw [hR0.out, decide_eq_true c1.1, decide_eq_true c1.2]; rfl)
        obtain ⟨c10, c11⟩ := c1
        clear hR0
        go_wp2_with fail
        refine (HV.out _ hbw).mono ?_
        rintro e w3 ⟨rfl, hb3⟩
        go_wp2
        go_ret
        exact ⟨by rw [hR.out]; rfl, below_then hbw (by omega) hb3⟩
      · have hR : Hid (R = false) := Lib.hid (by
          rw [hR0.out]
          by_cases c : 0 < k
          · rw [decide_eq_false (show ¬ k ≤ 64 by omega)]; simp
          · rw [decide_eq_false c]; simp)
        by_cases c : 0 < k
        · have c' : ¬ k ≤ 64 := by omega
          clear hR0 c1
          go_wp2
          go_ret
          exact ⟨by rw [hR.out]; rfl, hbw⟩
        · clear hR0 c1
          go_wp2
          go_ret
          exact ⟨by rw [hR.out]; rfl, hbw⟩

theorem runes_le (s : ByteArray) : (Sp.runes s).length ≤ s.size := by rw [Sp.runes_length]; exact Lib.runeCount_le s

theorem rdN_below {k : IntKind} {w w1 : World} {A : Option Addr} {xs : List Int} (h : RdN k w A xs) (hb : Below w.heap.size w w1) : RdN k w1 A xs := by
  refine ⟨h.1, fun h0 => ?_⟩
  obtain ⟨b, o, e, hc⟩ := h.2 h0
  exact ⟨b, o, e, fun j hj => cell_below hb (hc j hj)⟩

end Go.Proofs.YthpfknlgfkecpaaDoor
end
section
/-
  Walks of the reference's own decoder: crucibleref1.next, Runes and Name.
-/
set_option linter.unusedVariables false
set_option linter.unusedSimpArgs false
namespace Go.Proofs.YthpfknlgfkecpaaDoor
open Go.RowKit Go.Lib

namespace Sp
def contG (s : ByteArray) : Nat → Nat → Int → Option Int
  | 0, _, r => some r
  | f + 1, i, r => if 128 ≤ bt s i ∧ bt s i < 192 then contG s f (i + 1) (r * 64 + bt s i - 128) else none
def finN (n r : Int) : Int × Int := if n = 3 ∧ r < 2048 ∨ n = 4 ∧ (r < 65536 ∨ 1114111 < r) ∨ 55296 ≤ r ∧ r < 57344 then (0, 0) else (r, n)
def goN (s : ByteArray) (n : Nat) (r0 : Int) : Int × Int :=
  if s.size < n then (0, 0) else match contG s (n - 1) 1 r0 with | none => (0, 0) | some r => finN n r
/-- What the reference's next tells. -/
def refNext (s : ByteArray) : Int × Int :=
  if bt s 0 < 128 then (bt s 0, 1)
  else if 194 ≤ bt s 0 ∧ bt s 0 < 224 then goN s 2 (bt s 0 - 192)
  else if 224 ≤ bt s 0 ∧ bt s 0 < 240 then goN s 3 (bt s 0 - 224)
  else if 240 ≤ bt s 0 ∧ bt s 0 < 245 then goN s 4 (bt s 0 - 240)
  else (0, 0)
end Sp

theorem idx_str (s : ByteArray) (k : Nat) (hk : k < s.size) : ∀ W : World, (Instr.index 9 (.string s) (.int .i64 (k : Int))).run Tryd.prog W = .ok (.int .u8 (Sp.bt s k)) W := by
  intro W
  rw [run_index_string W 9 s .i64 _ Tryd.underlying9, dif_pos ⟨by omega, by omega⟩]
  simp only [Int.toNat_natCast, Sp.bt_in s k hk]
theorem idx_str0 (s : ByteArray) (hk : 0 < s.size) : ∀ W : World, (Instr.index 9 (.string s) (.int .i64 0)).run Tryd.prog W = .ok (.int .u8 (Sp.bt s 0)) W := idx_str s 0 hk

set_option maxHeartbeats 8000000 in
theorem refNext_any (s : ByteArray) (w : World) (h00 : 0 < s.size) (hs : s.size ≤ 140737488351232) :
    Calls Tryd.prog 136 #[.string s] w fun e w' => e = .returned (.tuple #[.int .i64 (Sp.refNext s).1, .int .i64 (Sp.refNext s).2]) ∧ w' = w := by
  have hb0 := Sp.bt_range s 0
  have hi0 := idx_str0 s h00
  have HE := Lib.hid (show Sp.refNext s = _ by rw [Sp.refNext])
  generalize Sp.refNext s = R at HE ⊢
  generalize hc : Sp.bt s 0 = c at *
  clear hc
  by_cases c1 : c < 128
  · have hR : Hid (R = (c, 1)) := Lib.hid (by rw [HE.out, if_pos c1])
    clear HE
    go_enter Tryd.func136, Tryd.ntmps136
    go_wp2
    go_ret2
    exact ⟨by rw [hR.out]; rfl, rfl⟩
  by_cases c2 : 194 ≤ c ∧ c < 224
  · have hR : Hid (R = Sp.goN s 2 (c - 192)) := Lib.hid (by rw [HE.out, if_neg c1, if_pos c2])
    clear HE
    obtain ⟨ca, cb⟩ := c2
    by_cases hn : s.size < 2
    · have hR2 : Hid (R = (0, 0)) := Lib.hid (by rw [hR.out, Sp.goN, if_pos hn])
      have hnz : (s.size : Int) < 2 := by omega
      clear hR
      go_enter Tryd.func136, Tryd.ntmps136
      go_wp2
      go_ret2
      exact ⟨by rw [hR2.out]; rfl, rfl⟩
    have hnz : ¬ (s.size : Int) < 2 := by omega
    have hR2 : Hid (R = match Sp.contG s 1 1 (c - 192) with | none => (0, 0) | some r => Sp.finN 2 r) := Lib.hid (by rw [hR.out, Sp.goN, if_neg hn]; rfl)
    clear hR
    go_enter Tryd.func136, Tryd.ntmps136
    go_wp2
    go_loop [6, 7] (fun v6 v7 => ∃ (k : Nat) (r : Int), v6 = .int .i64 r ∧ v7 = .int .i64 k ∧ 1 ≤ k ∧ k ≤ 2 ∧ 0 ≤ r ∧ r ≤ 100000000000 ∧ Hid (r < 32 * 64 ^ (k - 1)) ∧ Hid (Sp.contG s 1 1 (c - 192) = Sp.contG s (2 - k) k r)) (fun _ v7 => 2 - (RowKit.intOf v7).toNat)
    case atStart => exact ⟨1, c - 192, rfl, rfl, by omega, by omega, by omega, by omega, Lib.hid (by omega), Lib.hid rfl⟩
    case round =>
      obtain ⟨k, r, rfl, rfl, hk1, hk2, hr0, hr1, hrk, hcg⟩ := hrel
      by_cases hlt : k < 2
      · have hik := idx_str s k (by omega)
        have hbk := Sp.bt_range s k
        have hst := Lib.hid (show Sp.contG s 1 1 (c - 192) = if 128 ≤ Sp.bt s k ∧ Sp.bt s k < 192 then Sp.contG s (2 - (k + 1)) (k + 1) (r * 64 + Sp.bt s k - 128) else none by
          rw [hcg.out]
          obtain ⟨d, hd⟩ : ∃ d, 2 - k = d + 1 := ⟨2 - k - 1, by omega⟩
          rw [hd, show 2 - (k + 1) = d by omega, Sp.contG])
        clear hcg
        generalize hx : Sp.bt s k = x at *
        clear hx
        by_cases cx : 128 ≤ x ∧ x < 192
        · have hst2 := Lib.hid (show Sp.contG s 1 1 (c - 192) = Sp.contG s (2 - (k + 1)) (k + 1) (r * 64 + x - 128) by rw [hst.out, if_pos cx])
          obtain ⟨cxa, cxb⟩ := cx
          have hrk2 : r * 64 + x - 128 ≤ 100000000000 := by
            have := hrk.out
            have : k = 1 ∨ k = 2 ∨ k = 3 := by omega
            rcases this with rfl | rfl | rfl <;> omega
          have hrk3 := Lib.hid (show r * 64 + x - 128 < 32 * 64 ^ (k + 1 - 1) by
            have := hrk.out
            have : k = 1 ∨ k = 2 ∨ k = 3 := by omega
            rcases this with rfl | rfl | rfl <;> omega)
          clear hst
          go_wp2
          go_round
          case rel => exact ⟨k + 1, r * 64 + x - 128, by go_num, by go_num, by omega, by omega, by omega, by omega, hrk3, hst2⟩
          case measure => simp [RowKit.intOf]; omega
        · have hR3 : Hid (R = (0, 0)) := Lib.hid (by rw [hR2.out, hst.out, if_neg cx])
          clear hR2 hst
          by_cases cxa : x < 128
          · clear cx
            go_wp2
            go_ret2
            exact ⟨by rw [hR3.out]; rfl, rfl⟩
          · have cxb : 192 ≤ x := by omega
            clear cx
            go_wp2
            go_ret2
            exact ⟨by rw [hR3.out]; rfl, rfl⟩
      · obtain rfl : k = 2 := by omega
        have hR3 : Hid (R = Sp.finN 2 r) := Lib.hid (by rw [hR2.out, hcg.out]; rfl)
        clear hR2 hcg hlt hk1 hk2
        go_wp2
        all_goals go_ret2
        all_goals
          refine ⟨?_, rfl⟩
          rw [hR3.out]
          unfold Sp.finN
          repeat' split
          all_goals first | rfl | (exfalso; omega) | (exfalso; simp_all; done) | (exfalso; simp_all; omega)
  by_cases c3 : 224 ≤ c ∧ c < 240
  · have hR : Hid (R = Sp.goN s 3 (c - 224)) := Lib.hid (by rw [HE.out, if_neg c1, if_neg c2, if_pos c3])
    clear HE
    obtain ⟨ca, cb⟩ := c3
    by_cases hn : s.size < 3
    · have hR2 : Hid (R = (0, 0)) := Lib.hid (by rw [hR.out, Sp.goN, if_pos hn])
      have hnz : (s.size : Int) < 3 := by omega
      clear hR
      go_enter Tryd.func136, Tryd.ntmps136
      go_wp2
      go_ret2
      exact ⟨by rw [hR2.out]; rfl, rfl⟩
    have hnz : ¬ (s.size : Int) < 3 := by omega
    have hR2 : Hid (R = match Sp.contG s 2 1 (c - 224) with | none => (0, 0) | some r => Sp.finN 3 r) := Lib.hid (by rw [hR.out, Sp.goN, if_neg hn]; rfl)
    clear hR
    go_enter Tryd.func136, Tryd.ntmps136
    go_wp2
    go_loop [6, 7] (fun v6 v7 => ∃ (k : Nat) (r : Int), v6 = .int .i64 r ∧ v7 = .int .i64 k ∧ 1 ≤ k ∧ k ≤ 3 ∧ 0 ≤ r ∧ r ≤ 100000000000 ∧ Hid (r < 32 * 64 ^ (k - 1)) ∧ Hid (Sp.contG s 2 1 (c - 224) = Sp.contG s (3 - k) k r)) (fun _ v7 => 3 - (RowKit.intOf v7).toNat)
    case atStart => exact ⟨1, c - 224, rfl, rfl, by omega, by omega, by omega, by omega, Lib.hid (by omega), Lib.hid rfl⟩
    case round =>
      obtain ⟨k, r, rfl, rfl, hk1, hk2, hr0, hr1, hrk, hcg⟩ := hrel
      by_cases hlt : k < 3
      · have hik := idx_str s k (by omega)
        have hbk := Sp.bt_range s k
        have hst := Lib.hid (show Sp.contG s 2 1 (c - 224) = if 128 ≤ Sp.bt s k ∧ Sp.bt s k < 192 then Sp.contG s (3 - (k + 1)) (k + 1) (r * 64 + Sp.bt s k - 128) else none by
          rw [hcg.out]
          obtain ⟨d, hd⟩ : ∃ d, 3 - k = d + 1 := ⟨3 - k - 1, by omega⟩
          rw [hd, show 3 - (k + 1) = d by omega, Sp.contG])
        clear hcg
        generalize hx : Sp.bt s k = x at *
        clear hx
        by_cases cx : 128 ≤ x ∧ x < 192
        · have hst2 := Lib.hid (show Sp.contG s 2 1 (c - 224) = Sp.contG s (3 - (k + 1)) (k + 1) (r * 64 + x - 128) by rw [hst.out, if_pos cx])
          obtain ⟨cxa, cxb⟩ := cx
          have hrk2 : r * 64 + x - 128 ≤ 100000000000 := by
            have := hrk.out
            have : k = 1 ∨ k = 2 ∨ k = 3 := by omega
            rcases this with rfl | rfl | rfl <;> omega
          have hrk3 := Lib.hid (show r * 64 + x - 128 < 32 * 64 ^ (k + 1 - 1) by
            have := hrk.out
            have : k = 1 ∨ k = 2 ∨ k = 3 := by omega
            rcases this with rfl | rfl | rfl <;> omega)
          clear hst
          go_wp2
          go_round
          case rel => exact ⟨k + 1, r * 64 + x - 128, by go_num, by go_num, by omega, by omega, by omega, by omega, hrk3, hst2⟩
          case measure => simp [RowKit.intOf]; omega
        · have hR3 : Hid (R = (0, 0)) := Lib.hid (by rw [hR2.out, hst.out, if_neg cx])
          clear hR2 hst
          by_cases cxa : x < 128
          · clear cx
            go_wp2
            go_ret2
            exact ⟨by rw [hR3.out]; rfl, rfl⟩
          · have cxb : 192 ≤ x := by omega
            clear cx
            go_wp2
            go_ret2
            exact ⟨by rw [hR3.out]; rfl, rfl⟩
      · obtain rfl : k = 3 := by omega
        have hR3 : Hid (R = Sp.finN 3 r) := Lib.hid (by rw [hR2.out, hcg.out]; rfl)
        clear hR2 hcg hlt hk1 hk2
        go_wp2
        all_goals go_ret2
        all_goals
          refine ⟨?_, rfl⟩
          rw [hR3.out]
          unfold Sp.finN
          repeat' split
          all_goals first | rfl | (exfalso; omega) | (exfalso; simp_all; done) | (exfalso; simp_all; omega)
  by_cases c4 : 240 ≤ c ∧ c < 245
  · have hR : Hid (R = Sp.goN s 4 (c - 240)) := Lib.hid (by rw [HE.out, if_neg c1, if_neg c2, if_neg c3, if_pos c4])
    clear HE
    obtain ⟨ca, cb⟩ := c4
    by_cases hn : s.size < 4
    · have hR2 : Hid (R = (0, 0)) := Lib.hid (by rw [hR.out, Sp.goN, if_pos hn])
      have hnz : (s.size : Int) < 4 := by omega
      clear hR
      go_enter Tryd.func136, Tryd.ntmps136
      go_wp2
      go_ret2
      exact ⟨by rw [hR2.out]; rfl, rfl⟩
    have hnz : ¬ (s.size : Int) < 4 := by omega
    have hR2 : Hid (R = match Sp.contG s 3 1 (c - 240) with | none => (0, 0) | some r => Sp.finN 4 r) := Lib.hid (by rw [hR.out, Sp.goN, if_neg hn]; rfl)
    clear hR
    go_enter Tryd.func136, Tryd.ntmps136
    go_wp2
    go_loop [6, 7] (fun v6 v7 => ∃ (k : Nat) (r : Int), v6 = .int .i64 r ∧ v7 = .int .i64 k ∧ 1 ≤ k ∧ k ≤ 4 ∧ 0 ≤ r ∧ r ≤ 100000000000 ∧ Hid (r < 32 * 64 ^ (k - 1)) ∧ Hid (Sp.contG s 3 1 (c - 240) = Sp.contG s (4 - k) k r)) (fun _ v7 => 4 - (RowKit.intOf v7).toNat)
    case atStart => exact ⟨1, c - 240, rfl, rfl, by omega, by omega, by omega, by omega, Lib.hid (by omega), Lib.hid rfl⟩
    case round =>
      obtain ⟨k, r, rfl, rfl, hk1, hk2, hr0, hr1, hrk, hcg⟩ := hrel
      by_cases hlt : k < 4
      · have hik := idx_str s k (by omega)
        have hbk := Sp.bt_range s k
        have hst := Lib.hid (show Sp.contG s 3 1 (c - 240) = if 128 ≤ Sp.bt s k ∧ Sp.bt s k < 192 then Sp.contG s (4 - (k + 1)) (k + 1) (r * 64 + Sp.bt s k - 128) else none by
          rw [hcg.out]
          obtain ⟨d, hd⟩ : ∃ d, 4 - k = d + 1 := ⟨4 - k - 1, by omega⟩
          rw [hd, show 4 - (k + 1) = d by omega, Sp.contG])
        clear hcg
        generalize hx : Sp.bt s k = x at *
        clear hx
        by_cases cx : 128 ≤ x ∧ x < 192
        · have hst2 := Lib.hid (show Sp.contG s 3 1 (c - 240) = Sp.contG s (4 - (k + 1)) (k + 1) (r * 64 + x - 128) by rw [hst.out, if_pos cx])
          obtain ⟨cxa, cxb⟩ := cx
          have hrk2 : r * 64 + x - 128 ≤ 100000000000 := by
            have := hrk.out
            have : k = 1 ∨ k = 2 ∨ k = 3 := by omega
            rcases this with rfl | rfl | rfl <;> omega
          have hrk3 := Lib.hid (show r * 64 + x - 128 < 32 * 64 ^ (k + 1 - 1) by
            have := hrk.out
            have : k = 1 ∨ k = 2 ∨ k = 3 := by omega
            rcases this with rfl | rfl | rfl <;> omega)
          clear hst
          go_wp2
          go_round
          case rel => exact ⟨k + 1, r * 64 + x - 128, by go_num, by go_num, by omega, by omega, by omega, by omega, hrk3, hst2⟩
          case measure => simp [RowKit.intOf]; omega
        · have hR3 : Hid (R = (0, 0)) := Lib.hid (by rw [hR2.out, hst.out, if_neg cx])
          clear hR2 hst
          by_cases cxa : x < 128
          · clear cx
            go_wp2
            go_ret2
            exact ⟨by rw [hR3.out]; rfl, rfl⟩
          · have cxb : 192 ≤ x := by omega
            clear cx
            go_wp2
            go_ret2
            exact ⟨by rw [hR3.out]; rfl, rfl⟩
      · obtain rfl : k = 4 := by omega
        have hR3 : Hid (R = Sp.finN 4 r) := Lib.hid (by rw [hR2.out, hcg.out]; rfl)
        clear hR2 hcg hlt hk1 hk2
        go_wp2
        all_goals go_ret2
        all_goals
          refine ⟨?_, rfl⟩
          rw [hR3.out]
          unfold Sp.finN
          repeat' split
          all_goals first | rfl | (exfalso; omega) | (exfalso; simp_all; done) | (exfalso; simp_all; omega)
  have hR : Hid (R = (0, 0)) := Lib.hid (by rw [HE.out, if_neg c1, if_neg c2, if_neg c3, if_neg c4])
  have d1 : ¬ c < 128 := c1
  by_cases e : c < 194
  · clear HE c1 c2 c3 c4
    go_enter Tryd.func136, Tryd.ntmps136
    go_wp2
    go_ret2
    exact ⟨by rw [hR.out]; rfl, rfl⟩
  · have e2 : 245 ≤ c := by omega
    clear HE c1 c2 c3 c4
    go_enter Tryd.func136, Tryd.ntmps136
    go_wp2
    go_ret2
    exact ⟨by rw [hR.out]; rfl, rfl⟩
end Go.Proofs.YthpfknlgfkecpaaDoor
end
section
/-
  Walks of the reference's Runes and Name.
-/
set_option linter.unusedVariables false
set_option linter.unusedSimpArgs false
namespace Go.Proofs.YthpfknlgfkecpaaDoor
open Go.RowKit Go.Lib

/-- Numbers as the cells of a row. -/
def numk (k : IntKind) (xs : List Int) : List Value := xs.map (Value.int k)
theorem numk_append (k : IntKind) (xs ys : List Int) : numk k (xs ++ ys) = numk k xs ++ numk k ys := by simp [numk]
theorem numk_length (k : IntKind) (xs : List Int) : (numk k xs).length = xs.length := by simp [numk]

theorem own_slice {w : World} {base n : Nat} {e : TypeId} {size : Nat} {v : Value} {xs : List Value} (h : w.ownsRow base e size v n xs) : ∃ A c, v = .slice A n c := by
  rcases h.2 with ⟨hv, h0⟩ | ⟨g, cap, cur, hv, _⟩
  · exact ⟨none, 0, by rw [hv, h0]⟩
  · exact ⟨_, _, hv⟩
theorem own_max {w : World} {base n : Nat} {e : TypeId} {v : Value} {xs : List Value} (h : w.ownsRow base e 1 v n xs) : n ≤ 9223372036854775807 := by
  rcases h.2 with ⟨hv, h0⟩ | ⟨g, cap, cur, hv, h1, h2, h3, h4, h5⟩
  · omega
  · have := h4; unfold maxLen at this; omega
/-- What is owned is read. -/
theorem own_rdN {k : IntKind} {w : World} {base : Nat} {e : TypeId} {A : Option Addr} {n c : Nat} {xs : List Int} (h : w.ownsRow base e 1 (.slice A n c) n (numk k xs)) : n = xs.length ∧ RdN k w A xs := by
  have hl : xs.length = n := by have := h.1; simp [numk] at this; exact this
  have hm := own_max h
  refine ⟨hl.symm, by omega, fun h0 => ?_⟩
  obtain ⟨g, hA⟩ : ∃ g, A = some ⟨g, 0, none⟩ := by
    rcases h.2 with ⟨_, h1⟩ | ⟨g, cap, cur, hv, _⟩
    · omega
    · exact ⟨g, by injection hv⟩
  subst hA
  refine ⟨g, 0, rfl, fun j hj => ?_⟩
  have hc := h.cells (g := g) rfl j (.int k (xs.getD j 0)) (by simp [numk, List.getElem?_eq_getElem hj, List.getD_eq_getElem?_getD])
  rw [show (⟨g, 0, none⟩ : Addr).add j = ⟨g, 0 + j, none⟩ by unfold Addr.add; split <;> simp_all] at hc
  exact hc

namespace Sp
/-- What the reference's Runes tells. -/
def rB : Nat → ByteArray → List Int × Bool
  | 0, _ => ([], true)
  | f + 1, t =>
    if t.size = 0 then ([], true)
    else if (refNext t).2 = 0 then (65533 :: (rB f (t.extract 1 t.size)).1, false)
    else ((refNext t).1 :: (rB f (t.extract (refNext t).2.toNat t.size)).1, (rB f (t.extract (refNext t).2.toNat t.size)).2)
def refRunes (s : ByteArray) : List Int × Bool := rB s.size s
theorem finN_range (n r : Int) (hn : 0 ≤ n) : 0 ≤ (finN n r).2 ∧ (finN n r).2 ≤ n := by unfold finN; split <;> simp <;> omega
theorem goN_range (s : ByteArray) (n : Nat) (r0 : Int) : 0 ≤ (goN s n r0).2 ∧ (goN s n r0).2 ≤ n ∧ (goN s n r0).2 ≤ s.size := by
  unfold goN
  split
  · simp
  · split
    · simp
    · rename_i r _
      have := finN_range n r (by omega)
      omega
theorem refNext_range (s : ByteArray) (h : 0 < s.size) : 0 ≤ (refNext s).2 ∧ (refNext s).2 ≤ s.size := by
  unfold refNext
  repeat' split
  · simp; omega
  · have := goN_range s 2 (bt s 0 - 192); omega
  · have := goN_range s 3 (bt s 0 - 224); omega
  · have := goN_range s 4 (bt s 0 - 240); omega
  · simp
end Sp

theorem infoInt : (Tryd.prog.info? 3).map (fun i => (i.zero, i.size, i.bytes)) = some (some (.int .i64 0), 1, 8) := by kernel_rfl

set_option maxHeartbeats 8000000 in
set_option maxRecDepth 100000 in
theorem refRunes_own (s : ByteArray) (w : World) (hs : s.size ≤ 1099511627776) :
    Calls Tryd.prog 114 #[.string s] w fun e w' => ∃ v, e = .returned (.tuple #[v, .bool (Sp.refRunes s).2]) ∧ w'.ownsRow w.heap.size 3 1 v (Sp.refRunes s).1.length (numk .i64 (Sp.refRunes s).1) ∧ Below w.heap.size w w' := by
  obtain ⟨i0, hi, hz0, hz1, hz2⟩ := info_parts infoInt
  generalize hR : Sp.refRunes s = R
  have HR := Lib.hid (show Sp.rB s.size s = R from hR)
  clear hR
  go_enter Tryd.func114, Tryd.ntmps114
  go_wp2
  go_loopw [0, 4, 5] (fun v0 v4 v5 wr => ∃ (t : ByteArray) (f : Nat) (acc : List Int) (ok : Bool), v0 = .string t ∧ v5 = .bool ok ∧ wr.ownsRow w.heap.size 3 1 v4 acc.length (numk .i64 acc) ∧ Below w.heap.size w wr ∧ Hid (acc ++ (Sp.rB f t).1 = R.1) ∧ Hid ((ok && (Sp.rB f t).2) = R.2) ∧ t.size ≤ f ∧ acc.length + t.size ≤ s.size) (fun v0 _ _ _ => (strOf v0).size)
  case atStart => exact ⟨s, s.size, [], true, rfl, rfl, ⟨by simp [numk], .inl ⟨rfl, rfl⟩⟩, Below.refl _ _, Lib.hid (by rw [HR.out]; rfl), Lib.hid (by rw [HR.out]; rfl), by omega, by simp⟩
  case round =>
    obtain ⟨t, f, acc, ok, rfl, rfl, hown, hbw, hl, hk, hf, hal⟩ := hrel
    have hsz := hbw.size
    by_cases h0 : t.size = 0
    · have hz : ¬ (0 < (t.size : Int)) := by omega
      have hr1 := Lib.hid (show R.1 = acc by rw [← hl.out]; cases f <;> simp [Sp.rB, h0])
      have hr2 := Lib.hid (show R.2 = ok by rw [← hk.out]; cases f <;> simp [Sp.rB, h0])
      clear hl hk HR h0
      go_wp2
      go_ret2
      exact ⟨_, by rw [hr2.out]; rfl, by rw [hr1.out]; exact hown, hbw⟩
    obtain ⟨g, rfl⟩ : ∃ g, f = g + 1 := ⟨f - 1, by omega⟩
    have hpos : 0 < t.size := by omega
    have hz : (0 < (t.size : Int)) := by omega
    have hn := Lib.hid (refNext_any t wr hpos (by omega))
    have hrr := Sp.refNext_range t hpos
    have hl2 := Lib.hid (show acc ++ (if (Sp.refNext t).2 = 0 then (65533 :: (Sp.rB g (t.extract 1 t.size)).1, false) else ((Sp.refNext t).1 :: (Sp.rB g (t.extract (Sp.refNext t).2.toNat t.size)).1, (Sp.rB g (t.extract (Sp.refNext t).2.toNat t.size)).2)).1 = R.1 by rw [← hl.out, Sp.rB, if_neg h0])
    have hk2 := Lib.hid (show (ok && (if (Sp.refNext t).2 = 0 then (65533 :: (Sp.rB g (t.extract 1 t.size)).1, false) else ((Sp.refNext t).1 :: (Sp.rB g (t.extract (Sp.refNext t).2.toNat t.size)).1, (Sp.rB g (t.extract (Sp.refNext t).2.toNat t.size)).2)).2) = R.2 by rw [← hk.out, Sp.rB, if_neg h0])
    clear hl hk h0
    generalize Sp.refNext t = q at hn hrr hl2 hk2
    obtain ⟨r, n⟩ := q
    simp only at hn hrr hl2 hk2
    by_cases hn0 : n = 0
    · have hl3 := Lib.hid (show (acc ++ [65533]) ++ (Sp.rB g (t.extract 1 t.size)).1 = R.1 by rw [← hl2.out, if_pos hn0]; simp)
      have hk3 := Lib.hid (show (false && (Sp.rB g (t.extract 1 t.size)).2) = R.2 by rw [← hk2.out, if_pos hn0]; simp)
      have hnb : (n == 0) = true := by simpa using hn0
      clear hl2 hk2 hn0
      go_wp2_with fail
      refine hn.out.mono ?_
      rintro e w1 ⟨rfl, rfl⟩
      clear hn
      go_wp2_with (at_builtin; refine wpList_append_own _ rfl _ _ 50 rfl w.heap.size 3 i0 (.int .i64 0) 1 8 Tryd.underlying50 hi hz0 hz1 hz2 rfl (by decide) _ _ _ rfl (hown.alloc _) ⟨w1.heap.size, 0, none⟩ 1 1 (numk .i64 [65533]) rfl rfl ?c1 ?c2 ?c3 ?c4 ?c5 ?_)
      case c1 =>
        intro j u hj
        match j, hj with
        | 0, hj => simp [numk] at hj; subst hj; simp [Addr.add]
        | (j + 1), hj => simp [numk] at hj
      case c2 => intro u hu; simp [numk] at hu; subst hu; rfl
      case c3 => unfold maxLen; omega
      case c4 => omega
      case c5 => first | omega | (simp; omega)
      intro v' w3 hown' hgrow _
      have hb3 := (hbw.alloc (by omega) _).grown hgrow (by simp; omega) (fun q hq => own_base hown q hq)
      go_wp2
      go_roundw
      case rel =>
        have hx : (t.extract 1 t.size).size = t.size - 1 := by simp
        exact ⟨t.extract 1 t.size, g, acc ++ [65533], false, rfl, rfl, by rw [List.length_append, numk_append]; exact hown', hb3, hl3, hk3, by omega, by simp; omega⟩
      case measure => simp only [strOf]; simp; omega
    · have hl3 := Lib.hid (show (acc ++ [r]) ++ (Sp.rB g (t.extract n.toNat t.size)).1 = R.1 by rw [← hl2.out, if_neg hn0]; simp)
      have hk3 := Lib.hid (show (ok && (Sp.rB g (t.extract n.toNat t.size)).2) = R.2 by rw [← hk2.out, if_neg hn0])
      have hnb : (n == 0) = false := by simpa using hn0
      clear hl2 hk2
      obtain ⟨m, rfl⟩ : ∃ m : Nat, n = m := ⟨n.toNat, by omega⟩
      simp only [Int.toNat_natCast] at hl3 hk3
      have hm1 : 1 ≤ m := by omega
      have hms : m ≤ t.size := by omega
      clear hn0
      go_wp2_with fail
      refine hn.out.mono ?_
      rintro e w1 ⟨rfl, rfl⟩
      clear hn
      go_wp2_with (at_builtin; refine wpList_append_own _ rfl _ _ 50 rfl w.heap.size 3 i0 (.int .i64 0) 1 8 Tryd.underlying50 hi hz0 hz1 hz2 rfl (by decide) _ _ _ rfl (hown.alloc _) ⟨w1.heap.size, 0, none⟩ 1 1 (numk .i64 [r]) rfl rfl ?c1 ?c2 ?c3 ?c4 ?c5 ?_)
      case c1 =>
        intro j u hj
        match j, hj with
        | 0, hj => simp [numk] at hj; subst hj; simp [Addr.add]
        | (j + 1), hj => simp [numk] at hj
      case c2 => intro u hu; simp [numk] at hu; subst hu; rfl
      case c3 => unfold maxLen; omega
      case c4 => omega
      case c5 => first | omega | (simp; omega)
      intro v' w3 hown' hgrow _
      have hb3 := (hbw.alloc (by omega) _).grown hgrow (by simp; omega) (fun q hq => own_base hown q hq)
      go_wp2
      go_roundw
      case rel =>
        have hx : (t.extract m t.size).size = t.size - m := by simp
        exact ⟨t.extract m t.size, g, acc ++ [r], ok, rfl, rfl, by rw [List.length_append, numk_append]; exact hown', hb3, hl3, hk3, by omega, by simp; omega⟩
      case measure =>
        have hx : (t.extract m t.size).size = t.size - m := by simp
        simp only [strOf]; omega

theorem refRunes_any (s : ByteArray) (w : World) (hs : s.size ≤ 1099511627776) :
    Calls Tryd.prog 114 #[.string s] w fun e w' => ∃ A c, e = .returned (.tuple #[.slice A (Sp.refRunes s).1.length c, .bool (Sp.refRunes s).2]) ∧ RdN .i64 w' A (Sp.refRunes s).1 ∧ Below w.heap.size w w' := by
  refine (refRunes_own s w hs).mono fun e w' ⟨v, he, ho, hb⟩ => ?_
  obtain ⟨A, c, rfl⟩ := own_slice ho
  exact ⟨A, c, he, (own_rdN ho).2, hb⟩
end Go.Proofs.YthpfknlgfkecpaaDoor
end
section
/-
  Walk of the reference's Name.
-/
set_option linter.unusedVariables false
set_option linter.unusedSimpArgs false
namespace Go.Proofs.YthpfknlgfkecpaaDoor
open Go.RowKit Go.Lib

namespace Sp
def refNameS (s : ByteArray) : Bool := (refRunes s).2 && decide (1 ≤ (refRunes s).1.length) && decide ((refRunes s).1.length ≤ 64) && (refRunes s).1.all goodR
end Sp

set_option maxHeartbeats 8000000 in
set_option maxRecDepth 100000 in
theorem refName_any (s : ByteArray) (w : World) (hs : s.size ≤ 1099511627776) :
    Calls Tryd.prog 84 #[.string s] w fun e w' => e = .returned (.bool (Sp.refNameS s)) ∧ Below w.heap.size w w' := by
  have hq := Lib.hid (refRunes_any s w hs)
  have HE := Lib.hid (show Sp.refNameS s = _ by rw [Sp.refNameS])
  generalize Sp.refNameS s = R at HE ⊢
  generalize Sp.refRunes s = q at hq HE
  obtain ⟨l, ok⟩ := q
  simp only at hq HE
  go_enter Tryd.func84, Tryd.ntmps84
  go_wp2_with fail
  refine hq.out.mono ?_
  rintro e w1 ⟨A, c, rfl, ⟨hml, hrd⟩, hb1⟩
  clear hq
  have HC := Lib.hid hrd
  clear hrd
  cases ok with
  | false =>
    have hR : Hid (R = false) := Lib.hid (by rw [HE.out]; simp)
    clear HE
    go_wp2
    go_ret
    exact ⟨by rw [hR.out]; rfl, hb1⟩
  | true =>
    by_cases h1 : (l.length : Int) < 1
    · have hR : Hid (R = false) := Lib.hid (by rw [HE.out]; simp [show ¬ 1 ≤ l.length by omega])
      clear HE
      go_wp2
      go_ret
      exact ⟨by rw [hR.out]; rfl, hb1⟩
    by_cases h2 : 64 < (l.length : Int)
    · have hR : Hid (R = false) := Lib.hid (by rw [HE.out]; simp [show ¬ l.length ≤ 64 by omega])
      clear HE
      go_wp2
      go_ret
      exact ⟨by rw [hR.out]; rfl, hb1⟩
    have hR : Hid (R = l.all Sp.goodR) := Lib.hid (by rw [HE.out]; simp [show 1 ≤ l.length by omega, show l.length ≤ 64 by omega])
    have hll : (l.length : Int) ≤ 64 := by omega
    clear HE
    go_wp2
    go_loop [5] (fun n => ∃ k : Nat, k ≤ l.length ∧ n = .int .i64 k ∧ Hid ((l.drop k).all Sp.goodR = l.all Sp.goodR)) (fun n => l.length - (RowKit.intOf n).toNat)
    case atStart => exact ⟨0, Nat.zero_le _, rfl, Lib.hid (by simp)⟩
    case round =>
      obtain ⟨k, hk, rfl, hi⟩ := hrel
      by_cases hlt : k < l.length
      · obtain ⟨b, o, rfl, hcell⟩ := HC.out (by omega)
        have hck := hcell k hlt
        clear hcell
        have hd : Hid (l.drop k = l.getD k 0 :: l.drop (k + 1)) := Lib.hid (by rw [List.drop_eq_getElem_cons hlt]; simp [List.getD_eq_getElem?_getD, hlt])
        generalize l.getD k 0 = y at hck hd
        have hi2 := Lib.hid (show (Sp.goodR y && (l.drop (k + 1)).all Sp.goodR) = l.all Sp.goodR by rw [← hi.out, hd.out, List.all_cons])
        clear hi hd
        by_cases hg : Sp.goodR y = true
        · have hi3 := Lib.hid (show (l.drop (k + 1)).all Sp.goodR = l.all Sp.goodR by rw [← hi2.out, hg, Bool.true_and])
          simp only [Sp.goodR, Bool.and_eq_true, decide_eq_true_eq, Bool.not_eq_true', decide_eq_false_iff_not, List.mem_cons, List.not_mem_nil, or_false, not_or] at hg
          obtain ⟨⟨ha, hb⟩, hc1, hc2, hc3, hc4, hc5⟩ := hg
          have e1 : (y == 127) = false := by simpa using hb
          have e2 : (y == 59) = false := by simpa using hc1
          have e3 : (y == 91) = false := by simpa using hc2
          have e4 : (y == 40) = false := by simpa using hc3
          have e5 : (y == 41) = false := by simpa using hc4
          have e6 : (y == 46) = false := by simpa using hc5
          clear hi2 hb hc1 hc2 hc3 hc4 hc5
          go_wp2
          go_round
          case rel => exact ⟨k + 1, by omega, by go_num, hi3⟩
          case measure => simp [RowKit.intOf]; omega
        · have hR2 : Hid (R = false) := Lib.hid (by rw [hR.out, ← hi2.out]; simp [hg])
          have hbad : y ≤ 32 ∨ y = 127 ∨ y = 59 ∨ y = 91 ∨ y = 40 ∨ y = 41 ∨ y = 46 := by
            simp [Sp.goodR] at hg
            by_cases h32 : 32 < y
            · by_cases h127 : y = 127
              · exact .inr (.inl h127)
              · exact .inr (.inr (by have := hg h32 h127; omega))
            · exact .inl (by omega)
          clear hi2 hR hg
          rcases hbad with hy | rfl | rfl | rfl | rfl | rfl | rfl
          all_goals
            go_wp2
            go_ret
            exact ⟨by rw [hR2.out]; rfl, hb1⟩
      · have hR2 : Hid (R = true) := Lib.hid (by rw [hR.out, ← hi.out, List.drop_eq_nil_of_le (by omega)]; rfl)
        clear hi hR
        go_wp2
        go_ret
        exact ⟨by rw [hR2.out]; rfl, hb1⟩
end Go.Proofs.YthpfknlgfkecpaaDoor
end
section
/-
  Plain words for chapter 2's code: types and their texts, by lists of bytes.
-/
set_option linter.unusedVariables false
set_option linter.unusedSimpArgs false
namespace Go.Proofs.YthpfknlgfkecpaaDoor
open Go.RowKit Go.Lib
namespace Sp
/-- A string of bytes. -/
def B (l : List UInt8) : ByteArray := ⟨l.toArray⟩
theorem B_list (s : ByteArray) : B s.data.toList = s := rfl
theorem B_size (l : List UInt8) : (B l).size = l.length := by simp [B, ByteArray.size]
theorem B_data (l : List UInt8) : (B l).data.toList = l := by simp [B]
theorem B_append (a b : List UInt8) : B a ++ B b = B (a ++ b) := by
  apply ByteArray.ext
  rw [ByteArray.data_append]
  simp [B]
/-- A type: how many dimensions, its name. -/
abbrev Ty := Int × ByteArray
def tyV (t : Ty) : Value := .agg #[.int .i64 t.1, .string t.2]
def t0 : Ty := (0, ⟨#[]⟩)
def rightS (t : Ty) : Bool := decide (0 ≤ t.1) && decide (t.1 ≤ 4) && (decide (t.2.size = 0) || nameS t.2)
def elemS (t : Ty) : Ty × Bool := if rightS t = true ∧ t.1 ≠ 0 then ((t.1 - 1, t.2), true) else (t0, false)
def arrS (t : Ty) : Ty × Bool := if rightS t = true ∧ t.1 ≠ 4 then ((t.1 + 1, t.2), true) else (t0, false)
def isRefS (t : Ty) : Bool := rightS t && (decide (0 < t.1) || decide (t.2.size ≠ 0))
def nameB (n : ByteArray) : List UInt8 := if n.size = 0 then [73] else 76 :: n.data.toList ++ [59]
def writeS (t : Ty) : ByteArray × Int := if rightS t = true then (B (List.replicate t.1.toNat 91 ++ nameB t.2), 0) else (⟨#[]⟩, 9)
end Sp
end Go.Proofs.YthpfknlgfkecpaaDoor
end
section
/-
  Results that lie in a cell, cells of a world that grew.
-/
set_option linter.unusedVariables false
set_option linter.unusedSimpArgs false
namespace Go.Proofs.YthpfknlgfkecpaaDoor
open Go.RowKit Go.Lib

theorem str_empty (s : ByteArray) (h : s.size = 0) : s = ⟨#[]⟩ := by
  obtain ⟨⟨l⟩⟩ := s
  have : l = [] := List.eq_nil_of_length_eq_zero h
  rw [this]

theorem results_ct {fn : Func} {t u : Tmp} {ty : TypeId} (h : fn.results = #[.cell t ty, .tmp u]) (tmps : Array Value) (P : Program) (w : World) {p : Addr} (hp : tmps.getD t undef = .pointer (some p)) {v : Value} (hl : (loadVar ty p).run P w = .ok v w) :
    (results fn tmps).run P w = .ok (.tuple #[v, tmps.getD u undef]) w := by
  have hp' : tmps[t]?.getD undef = .pointer (some p) := by simpa using hp
  simp [results, h, Sem.run_bind, hp', asAddr, hl]

theorem results_c {fn : Func} {t : Tmp} {ty : TypeId} (h : fn.results = #[.cell t ty]) (tmps : Array Value) (P : Program) (w : World) {p : Addr} (hp : tmps.getD t undef = .pointer (some p)) {v : Value} (hl : (loadVar ty p).run P w = .ok v w) :
    (results fn tmps).run P w = .ok v w := by
  have hp' : tmps[t]?.getD undef = .pointer (some p) := by simpa using hp
  simp [results, h, Sem.run_bind, hp', asAddr, hl]

theorem results_ctt {fn : Func} {t u x : Tmp} {ty : TypeId} (h : fn.results = #[.cell t ty, .tmp u, .tmp x]) (tmps : Array Value) (P : Program) (w : World) {p : Addr} (hp : tmps.getD t undef = .pointer (some p)) {v : Value} (hl : (loadVar ty p).run P w = .ok v w) :
    (results fn tmps).run P w = .ok (.tuple #[v, tmps.getD u undef, tmps.getD x undef]) w := by
  have hp' : tmps[t]?.getD undef = .pointer (some p) := by simpa using hp
  simp [results, h, Sem.run_bind, hp', asAddr, hl]

theorem frozen_below {w w1 : World} (h : Below w.heap.size w w1) {a : Addr} {v : Value} (hc : w.cell? a = some v) {x : Bool} (hf : w.frozen? a = x) : w1.frozen? a = x := (h.frozen (World.block_lt_of_cell? w a hc)).trans hf

/-- Behind what only grew, the cells of the blocks that were made before stand. -/
theorem kept_cell {w0 w1 : World} (h : Below w0.heap.size w0 w1) (a : Addr) (v : Value) (hc : w0.cell? a = some v ∧ w0.frozen? a = false) : w1.cell? a = some v ∧ w1.frozen? a = false :=
  ⟨cell_below h hc.1, frozen_below h hc.1 hc.2⟩

theorem range2 {w : World} {b o : Nat} {x y : Value} (h0 : w.cell? ⟨b, o, none⟩ = some x) (h1 : w.cell? ⟨b, o + 1, none⟩ = some y) : w.rangeAt b o [x, y] := by
  intro j v hj
  match j, hj with
  | 0, hj => simp at hj; subst hj; exact h0
  | 1, hj => simp at hj; subst hj; exact h1
  | j + 2, hj => simp at hj

/-- A type, read out of its two cells. -/
theorem ty_load (w : World) (b o : Nat) {x y : Value} (h0 : w.cell? ⟨b, o, none⟩ = some x) (h1 : w.cell? ⟨b, o + 1, none⟩ = some y) : (loadVar 23 ⟨b, o, none⟩).run Tryd.prog w = .ok (.agg #[x, y]) w :=
  run_loadVar_mid w b o 23 [x, y] _ (range2 h0 h1) Tryd.underlying23 rfl (by kernel_rfl)
end Go.Proofs.YthpfknlgfkecpaaDoor
end
section
/-
  Plain: the reference's decoder is the model's.
-/
set_option linter.unusedVariables false
set_option linter.unusedSimpArgs false
namespace Go.Proofs.YthpfknlgfkecpaaDoor.Sp
open Go.Lib

theorem get_bt (s : ByteArray) (p k : Nat) (h : p + k < s.size) : ((s.get! (p + k)).toNat : Int) = bt s (p + k) := by
  rw [bt, dif_pos h]
  have : s.get! (p + k) = s[p + k] := by
    simp [ByteArray.get!, getElem!_pos, h]
    rfl
  rw [this]

/-- What the reference's next tells, by numbers. -/
theorem refNext_num (s : ByteArray) (n0 n1 n2 n3 : Nat) (h0 : 0 < s.size) (e0 : bt s 0 = n0) (e1 : 1 < s.size → bt s 1 = n1) (e2 : 2 < s.size → bt s 2 = n2) (e3 : 3 < s.size → bt s 3 = n3) (b0 : n0 < 256) (b1 : n1 < 256) (b2 : n2 < 256) (b3 : n3 < 256)
    (z1 : ¬ 1 < s.size → n1 = 0) (z2 : ¬ 2 < s.size → n2 = 0) (z3 : ¬ 3 < s.size → n3 = 0) :
    refNext s =
      if n0 < 128 then ((n0 : Int), 1)
      else if 194 ≤ n0 ∧ n0 < 224 ∧ n1 / 64 = 2 then ((((n0 % 32) * 64 + n1 % 64 : Nat) : Int), 2)
      else if 224 ≤ n0 ∧ n0 < 240 ∧ n1 / 64 = 2 ∧ n2 / 64 = 2 ∧ 2048 ≤ (n0 % 16) * 4096 + n1 % 64 * 64 + n2 % 64 ∧ ¬ (55296 ≤ (n0 % 16) * 4096 + n1 % 64 * 64 + n2 % 64 ∧ (n0 % 16) * 4096 + n1 % 64 * 64 + n2 % 64 < 57344) then ((((n0 % 16) * 4096 + n1 % 64 * 64 + n2 % 64 : Nat) : Int), 3)
      else if 240 ≤ n0 ∧ n0 < 245 ∧ n1 / 64 = 2 ∧ n2 / 64 = 2 ∧ n3 / 64 = 2 ∧ 65536 ≤ (n0 % 8) * 262144 + n1 % 64 * 4096 + n2 % 64 * 64 + n3 % 64 ∧ (n0 % 8) * 262144 + n1 % 64 * 4096 + n2 % 64 * 64 + n3 % 64 ≤ 1114111 then ((((n0 % 8) * 262144 + n1 % 64 * 4096 + n2 % 64 * 64 + n3 % 64 : Nat) : Int), 4)
      else (0, 0) := by
  unfold refNext
  rw [e0]
  by_cases c1 : n0 < 128
  · rw [if_pos (by omega), if_pos c1]
  rw [if_neg (by omega), if_neg c1]
  by_cases c2 : 194 ≤ n0 ∧ n0 < 224
  · rw [if_pos (by omega)]
    unfold goN
    by_cases hs : s.size < 2
    · have := z1 (by omega)
      rw [if_pos hs, if_neg (by omega), if_neg (by omega), if_neg (by omega)]
    · rw [if_neg hs]
      simp only [show 2 - 1 = 0 + 1 from rfl, contG, e1 (by omega)]
      by_cases g1 : n1 / 64 = 2
      · rw [if_pos (by omega), if_pos (by omega)]
        simp only [finN]
        rw [if_neg (by omega)]
        refine Prod.ext ?_ rfl
        simp only []
        omega
      · rw [if_neg (by omega), if_neg (by omega), if_neg (by omega), if_neg (by omega)]
  rw [if_neg (by omega), if_neg (by omega : ¬ (194 ≤ n0 ∧ n0 < 224 ∧ n1 / 64 = 2))]
  by_cases c3 : 224 ≤ n0 ∧ n0 < 240
  · rw [if_pos (by omega)]
    unfold goN
    by_cases hs : s.size < 3
    · have := z2 (by omega)
      rw [if_pos hs, if_neg (by omega), if_neg (by omega)]
    · rw [if_neg hs]
      simp only [show 3 - 1 = 0 + 1 + 1 from rfl, contG, e1 (by omega), e2 (by omega), Nat.reduceAdd]
      by_cases g1 : n1 / 64 = 2
      · rw [if_pos (by omega : 128 ≤ (n1 : Int) ∧ (n1 : Int) < 192)]
        by_cases g2 : n2 / 64 = 2
        · rw [if_pos (by omega : 128 ≤ (n2 : Int) ∧ (n2 : Int) < 192)]
          simp only [finN]
          by_cases g3 : 2048 ≤ (n0 % 16) * 4096 + n1 % 64 * 64 + n2 % 64 ∧ ¬ (55296 ≤ (n0 % 16) * 4096 + n1 % 64 * 64 + n2 % 64 ∧ (n0 % 16) * 4096 + n1 % 64 * 64 + n2 % 64 < 57344)
          · rw [if_neg (by omega), if_pos (by omega)]
            refine Prod.ext ?_ rfl
            simp only []
            omega
          · rw [if_pos (by omega), if_neg (by omega), if_neg (by omega)]
        · rw [if_neg (by omega : ¬ (128 ≤ (n2 : Int) ∧ (n2 : Int) < 192)), if_neg (by omega), if_neg (by omega)]
      · rw [if_neg (by omega : ¬ (128 ≤ (n1 : Int) ∧ (n1 : Int) < 192)), if_neg (by omega), if_neg (by omega)]
  rw [if_neg (by omega), if_neg (by omega : ¬ (224 ≤ n0 ∧ n0 < 240 ∧ n1 / 64 = 2 ∧ n2 / 64 = 2 ∧ 2048 ≤ (n0 % 16) * 4096 + n1 % 64 * 64 + n2 % 64 ∧ ¬ (55296 ≤ (n0 % 16) * 4096 + n1 % 64 * 64 + n2 % 64 ∧ (n0 % 16) * 4096 + n1 % 64 * 64 + n2 % 64 < 57344)))]
  by_cases c4 : 240 ≤ n0 ∧ n0 < 245
  · rw [if_pos (by omega)]
    unfold goN
    by_cases hs : s.size < 4
    · have := z3 (by omega)
      rw [if_pos hs, if_neg (by omega)]
    · rw [if_neg hs]
      simp only [show 4 - 1 = 0 + 1 + 1 + 1 from rfl, contG, e1 (by omega), e2 (by omega), e3 (by omega), Nat.reduceAdd]
      by_cases g1 : n1 / 64 = 2
      · rw [if_pos (by omega : 128 ≤ (n1 : Int) ∧ (n1 : Int) < 192)]
        by_cases g2 : n2 / 64 = 2
        · rw [if_pos (by omega : 128 ≤ (n2 : Int) ∧ (n2 : Int) < 192)]
          by_cases g3 : n3 / 64 = 2
          · rw [if_pos (by omega : 128 ≤ (n3 : Int) ∧ (n3 : Int) < 192)]
            simp only [finN]
            by_cases g4 : 65536 ≤ (n0 % 8) * 262144 + n1 % 64 * 4096 + n2 % 64 * 64 + n3 % 64 ∧ (n0 % 8) * 262144 + n1 % 64 * 4096 + n2 % 64 * 64 + n3 % 64 ≤ 1114111
            · rw [if_neg (by omega), if_pos (by omega)]
              refine Prod.ext ?_ rfl
              simp only []
              omega
            · rw [if_pos (by omega), if_neg (by omega)]
          · rw [if_neg (by omega : ¬ (128 ≤ (n3 : Int) ∧ (n3 : Int) < 192)), if_neg (by omega)]
        · rw [if_neg (by omega : ¬ (128 ≤ (n2 : Int) ∧ (n2 : Int) < 192)), if_neg (by omega)]
      · rw [if_neg (by omega : ¬ (128 ≤ (n1 : Int) ∧ (n1 : Int) < 192)), if_neg (by omega)]
  rw [if_neg (by omega), if_neg (by omega)]

set_option maxHeartbeats 4000000 in
/-- What the model's decoder tells, by numbers. -/
theorem decode_num (s : ByteArray) (p n0 n1 n2 n3 : Nat) (e0 : (s.get! (p + 0)).toNat = n0) (e1 : p + 1 < s.size → (s.get! (p + 1)).toNat = n1) (e2 : p + 2 < s.size → (s.get! (p + 2)).toNat = n2) (e3 : p + 3 < s.size → (s.get! (p + 3)).toNat = n3) (b0 : n0 < 256) (b1 : n1 < 256) (b2 : n2 < 256) (b3 : n3 < 256)
    (z1 : ¬ p + 1 < s.size → n1 = 0) (z2 : ¬ p + 2 < s.size → n2 = 0) (z3 : ¬ p + 3 < s.size → n3 = 0) :
    Utf8.decode s p =
      if n0 < 128 then (n0, 1)
      else if 194 ≤ n0 ∧ n0 < 224 ∧ n1 / 64 = 2 then ((n0 % 32) * 64 + n1 % 64, 2)
      else if 224 ≤ n0 ∧ n0 < 240 ∧ n1 / 64 = 2 ∧ n2 / 64 = 2 ∧ 2048 ≤ (n0 % 16) * 4096 + n1 % 64 * 64 + n2 % 64 ∧ ¬ (55296 ≤ (n0 % 16) * 4096 + n1 % 64 * 64 + n2 % 64 ∧ (n0 % 16) * 4096 + n1 % 64 * 64 + n2 % 64 < 57344) then ((n0 % 16) * 4096 + n1 % 64 * 64 + n2 % 64, 3)
      else if 240 ≤ n0 ∧ n0 < 245 ∧ n1 / 64 = 2 ∧ n2 / 64 = 2 ∧ n3 / 64 = 2 ∧ 65536 ≤ (n0 % 8) * 262144 + n1 % 64 * 4096 + n2 % 64 * 64 + n3 % 64 ∧ (n0 % 8) * 262144 + n1 % 64 * 4096 + n2 % 64 * 64 + n3 % 64 ≤ 1114111 then ((n0 % 8) * 262144 + n1 % 64 * 4096 + n2 % 64 * 64 + n3 % 64, 4)
      else (65533, 1) := by
  have k1 : (decide (p + 1 < s.size) && (s.get! (p + 1)).toNat / 64 == 2) = decide (n1 / 64 = 2) := by
    by_cases h : p + 1 < s.size
    · rw [e1 h]; simp [h]; rfl
    · rw [z1 h]; simp [h]
  have k2 : (decide (p + 2 < s.size) && (s.get! (p + 2)).toNat / 64 == 2) = decide (n2 / 64 = 2) := by
    by_cases h : p + 2 < s.size
    · rw [e2 h]; simp [h]; rfl
    · rw [z2 h]; simp [h]
  have k3 : (decide (p + 3 < s.size) && (s.get! (p + 3)).toNat / 64 == 2) = decide (n3 / 64 = 2) := by
    by_cases h : p + 3 < s.size
    · rw [e3 h]; simp [h]; rfl
    · rw [z3 h]; simp [h]
  have f1 : n1 / 64 = 2 → (s.get! (p + 1)).toNat = n1 := fun h => e1 (by by_cases q : p + 1 < s.size; exact q; have := z1 q; omega)
  have f2 : n2 / 64 = 2 → (s.get! (p + 2)).toNat = n2 := fun h => e2 (by by_cases q : p + 2 < s.size; exact q; have := z2 q; omega)
  have f3 : n3 / 64 = 2 → (s.get! (p + 3)).toNat = n3 := fun h => e3 (by by_cases q : p + 3 < s.size; exact q; have := z3 q; omega)
  simp only [Utf8.decode, k1, k2, k3, e0, Utf8.runeError, Utf8.valid]
  clear k1 k2 k3 e1 e2 e3 z1 z2 z3
  by_cases c1 : n0 < 128
  · rw [if_pos c1, if_pos c1]
  rw [if_neg c1, if_neg c1]
  by_cases g1 : n1 / 64 = 2
  · rw [f1 g1]
    by_cases g2 : n2 / 64 = 2
    · rw [f2 g2]
      by_cases g3 : n3 / 64 = 2
      · rw [f3 g3]
        repeat' split
        all_goals first | with_reducible rfl | (exfalso; simp at *; omega) | (simp at *; omega)
      · repeat' split
        all_goals first | with_reducible rfl | (exfalso; simp at *; omega) | (simp at *; omega)
    · repeat' split
      all_goals first | with_reducible rfl | (exfalso; simp at *; omega) | (simp at *; omega)
  · repeat' split
    all_goals first | with_reducible rfl | (exfalso; simp at *; omega) | (simp at *; omega)

/-- The byte at a place, 0 behind the end. -/
def nb (s : ByteArray) (p : Nat) : Nat := if p < s.size then (s.get! p).toNat else 0
theorem nb_lt (s : ByteArray) (p : Nat) : nb s p < 256 := by
  unfold nb
  split
  · exact (s.get! p).toNat_lt
  · omega
theorem nb_out (s : ByteArray) (p : Nat) (h : ¬ p < s.size) : nb s p = 0 := by rw [nb, if_neg h]
theorem nb_in (s : ByteArray) (p : Nat) (h : p < s.size) : (s.get! p).toNat = nb s p := by rw [nb, if_pos h]
theorem bt_nb (s : ByteArray) (p : Nat) : bt s p = nb s p := by
  by_cases h : p < s.size
  · have := get_bt s p 0 (by omega)
    simp only [Nat.add_zero] at this
    rw [← this, nb_in s p h]
  · rw [nb_out s p h, bt, dif_neg h]; rfl

theorem decode_nb (s : ByteArray) (p : Nat) (h : p < s.size) : Utf8.decode s p =
      if (nb s p) < 128 then ((nb s p), 1)
      else if 194 ≤ (nb s p) ∧ (nb s p) < 224 ∧ (nb s (p + 1)) / 64 = 2 then (((nb s p) % 32) * 64 + (nb s (p + 1)) % 64, 2)
      else if 224 ≤ (nb s p) ∧ (nb s p) < 240 ∧ (nb s (p + 1)) / 64 = 2 ∧ (nb s (p + 2)) / 64 = 2 ∧ 2048 ≤ ((nb s p) % 16) * 4096 + (nb s (p + 1)) % 64 * 64 + (nb s (p + 2)) % 64 ∧ ¬ (55296 ≤ ((nb s p) % 16) * 4096 + (nb s (p + 1)) % 64 * 64 + (nb s (p + 2)) % 64 ∧ ((nb s p) % 16) * 4096 + (nb s (p + 1)) % 64 * 64 + (nb s (p + 2)) % 64 < 57344) then (((nb s p) % 16) * 4096 + (nb s (p + 1)) % 64 * 64 + (nb s (p + 2)) % 64, 3)
      else if 240 ≤ (nb s p) ∧ (nb s p) < 245 ∧ (nb s (p + 1)) / 64 = 2 ∧ (nb s (p + 2)) / 64 = 2 ∧ (nb s (p + 3)) / 64 = 2 ∧ 65536 ≤ ((nb s p) % 8) * 262144 + (nb s (p + 1)) % 64 * 4096 + (nb s (p + 2)) % 64 * 64 + (nb s (p + 3)) % 64 ∧ ((nb s p) % 8) * 262144 + (nb s (p + 1)) % 64 * 4096 + (nb s (p + 2)) % 64 * 64 + (nb s (p + 3)) % 64 ≤ 1114111 then (((nb s p) % 8) * 262144 + (nb s (p + 1)) % 64 * 4096 + (nb s (p + 2)) % 64 * 64 + (nb s (p + 3)) % 64, 4)
      else (65533, 1) := decode_num s p (nb s p) (nb s (p + 1)) (nb s (p + 2)) (nb s (p + 3)) (nb_in s p h) (fun h => nb_in s _ h) (fun h => nb_in s _ h) (fun h => nb_in s _ h) (nb_lt _ _) (nb_lt _ _) (nb_lt _ _) (nb_lt _ _) (nb_out s _) (nb_out s _) (nb_out s _)
theorem refNext_nb (s : ByteArray) (h : 0 < s.size) : refNext s =
      if (nb s 0) < 128 then (((nb s 0) : Int), 1)
      else if 194 ≤ (nb s 0) ∧ (nb s 0) < 224 ∧ (nb s 1) / 64 = 2 then (((((nb s 0) % 32) * 64 + (nb s 1) % 64 : Nat) : Int), 2)
      else if 224 ≤ (nb s 0) ∧ (nb s 0) < 240 ∧ (nb s 1) / 64 = 2 ∧ (nb s 2) / 64 = 2 ∧ 2048 ≤ ((nb s 0) % 16) * 4096 + (nb s 1) % 64 * 64 + (nb s 2) % 64 ∧ ¬ (55296 ≤ ((nb s 0) % 16) * 4096 + (nb s 1) % 64 * 64 + (nb s 2) % 64 ∧ ((nb s 0) % 16) * 4096 + (nb s 1) % 64 * 64 + (nb s 2) % 64 < 57344) then (((((nb s 0) % 16) * 4096 + (nb s 1) % 64 * 64 + (nb s 2) % 64 : Nat) : Int), 3)
      else if 240 ≤ (nb s 0) ∧ (nb s 0) < 245 ∧ (nb s 1) / 64 = 2 ∧ (nb s 2) / 64 = 2 ∧ (nb s 3) / 64 = 2 ∧ 65536 ≤ ((nb s 0) % 8) * 262144 + (nb s 1) % 64 * 4096 + (nb s 2) % 64 * 64 + (nb s 3) % 64 ∧ ((nb s 0) % 8) * 262144 + (nb s 1) % 64 * 4096 + (nb s 2) % 64 * 64 + (nb s 3) % 64 ≤ 1114111 then (((((nb s 0) % 8) * 262144 + (nb s 1) % 64 * 4096 + (nb s 2) % 64 * 64 + (nb s 3) % 64 : Nat) : Int), 4)
      else (0, 0) := refNext_num s (nb s 0) (nb s 1) (nb s 2) (nb s 3) h (bt_nb s 0) (fun _ => bt_nb s 1) (fun _ => bt_nb s 2) (fun _ => bt_nb s 3) (nb_lt _ _) (nb_lt _ _) (nb_lt _ _) (nb_lt _ _) (nb_out s 1) (nb_out s 2) (nb_out s 3)

theorem refNext_decode (s : ByteArray) (h : 0 < s.size) : refNext s = if Utf8.decode s 0 = (65533, 1) then (0, 0) else (((Utf8.decode s 0).1 : Int), ((Utf8.decode s 0).2 : Int)) := by
  rw [refNext_nb s h, decode_nb s 0 h]
  simp only [Nat.zero_add]
  generalize nb s 0 = n0
  generalize nb s 1 = n1
  generalize nb s 2 = n2
  generalize nb s 3 = n3
  split
  · rw [if_neg (by simp; omega)]; rfl
  · split
    · rw [if_neg (by simp)]; rfl
    · split
      · rw [if_neg (by simp)]; rfl
      · split
        · rw [if_neg (by simp)]; rfl
        · rw [if_pos rfl]

theorem nb_extract (s : ByteArray) (p k : Nat) : nb (s.extract p s.size) k = nb s (p + k) := by
  have hs : (s.extract p s.size).size = s.size - p := by simp
  by_cases h : p + k < s.size
  · have hk : k < (s.extract p s.size).size := by omega
    have a := bt_nb (s.extract p s.size) k
    have b := bt_nb s (p + k)
    have : bt (s.extract p s.size) k = bt s (p + k) := by
      rw [bt, dif_pos hk, bt, dif_pos h]
      simp [ByteArray.getElem_extract]
    omega
  · rw [nb_out _ _ h, nb_out _ _ (by omega)]

theorem decode_extract (s : ByteArray) (p q : Nat) (h : p + q < s.size) : Utf8.decode (s.extract p s.size) q = Utf8.decode s (p + q) := by
  have hs : (s.extract p s.size).size = s.size - p := by simp
  rw [decode_nb _ q (by omega), decode_nb s (p + q) h]
  simp only [nb_extract, Nat.add_assoc]

theorem rl_extract (s : ByteArray) (p : Nat) : ∀ f q, p ≤ s.size → rl (s.extract p s.size) f q = rl s f (p + q)
  | 0, _, _ => rfl
  | f + 1, q, hp => by
    have hs : (s.extract p s.size).size = s.size - p := by simp
    unfold rl
    by_cases h : p + q < s.size
    · rw [if_pos (by omega), if_pos h, decode_extract s p q h, rl_extract s p f _ hp, Nat.add_assoc]
    · rw [if_neg (by omega), if_neg h]

theorem decode_fits (s : ByteArray) (h : 0 < s.size) : (Utf8.decode s 0).2 ≤ s.size := by
  have hr := refNext_range s h
  rw [refNext_decode s h] at hr
  by_cases hd : Utf8.decode s 0 = (65533, 1)
  · rw [hd]; exact h
  · rw [if_neg hd] at hr
    have := hr.2
    simp only at this
    omega

theorem decodeL_eq (s : ByteArray) : decodeL s.data.toList = Utf8.decode s 0 := by
  cases s
  simp [decodeL]

theorem rB_eq : ∀ f (t : ByteArray), t.size ≤ f → (rB f t).1 = rl t f 0 ∧ ∀ n, t.size ≤ n → (rB f t).2 = validGoD n t.data.toList
  | 0, t, h => by
    have h0 : t.data.toList = [] := List.eq_nil_of_length_eq_zero (by rw [← Lib.size_eq]; omega)
    refine ⟨rfl, fun n _ => ?_⟩
    rw [h0]
    cases n <;> simp [rB, validGoD]
  | f + 1, t, h => by
    by_cases h0 : t.size = 0
    · have hl : t.data.toList = [] := List.eq_nil_of_length_eq_zero (by rw [← Lib.size_eq]; omega)
      refine ⟨?_, fun n _ => ?_⟩
      · rw [rB, if_pos h0, rl, if_neg (by omega)]
      · rw [rB, if_pos h0, hl]
        cases n <;> simp [validGoD]
    have hp : 0 < t.size := by omega
    have hl : ¬ t.data.toList = [] := by
      intro e
      have h1 : t.size = t.data.toList.length := Lib.size_eq t
      rw [e] at h1
      exact h0 h1
    have hw := decode_width_pos t 0 hp
    have hf := decode_fits t hp
    have hs : ∀ k, (t.extract k t.size).size = t.size - k := fun k => by simp
    rw [rB, if_neg h0, refNext_decode t hp]
    by_cases hd : Utf8.decode t 0 = (65533, 1)
    · obtain ⟨i1, i2⟩ := rB_eq f (t.extract 1 t.size) (by rw [hs]; omega)
      rw [if_pos hd]
      simp only [if_true]
      refine ⟨?_, fun n hn => ?_⟩
      · rw [rl, if_pos hp, hd, i1, rl_extract t 1 f 0 (by omega)]
        rfl
      · obtain ⟨m, rfl⟩ : ∃ m, n = m + 1 := ⟨n - 1, by omega⟩
        rw [validGoD, if_neg hl, decodeL_eq, hd]
        simp
    · obtain ⟨i1, i2⟩ := rB_eq f (t.extract (Utf8.decode t 0).2 t.size) (by rw [hs]; omega)
      rw [if_neg hd]
      simp only [Int.toNat_natCast]
      rw [if_neg (show ¬ (((Utf8.decode t 0).2 : Nat) : Int) = 0 by omega)]
      refine ⟨?_, fun n hn => ?_⟩
      · simp only []
        rw [rl, if_pos hp, i1, rl_extract t _ f 0 (by omega), Nat.zero_add, Nat.add_zero]
      · obtain ⟨m, rfl⟩ : ∃ m, n = m + 1 := ⟨n - 1, by omega⟩
        simp only []
        rw [validGoD, if_neg hl, decodeL_eq, if_neg (fun e => hd (Prod.ext e.1 e.2)), i2 m (by rw [hs]; omega), Lib.extract_to_end]

theorem refRunes_eq (s : ByteArray) : refRunes s = (runes s, validD s.data.toList) := by
  obtain ⟨h1, h2⟩ := rB_eq s.size s (Nat.le_refl _)
  refine Prod.ext h1 ?_
  rw [validD, ← Lib.size_eq]
  exact h2 s.size (Nat.le_refl _)

theorem refName_eq (s : ByteArray) : refNameS s = nameS s := by
  simp only [refNameS, nameS, refRunes_eq]
  rw [Bool.eq_iff_iff]
  simp
  constructor
  · rintro ⟨⟨⟨a, b⟩, c⟩, d⟩; exact ⟨⟨⟨d, b⟩, c⟩, a⟩
  · rintro ⟨⟨⟨d, b⟩, c⟩, a⟩; exact ⟨⟨⟨a, b⟩, c⟩, d⟩
end Go.Proofs.YthpfknlgfkecpaaDoor.Sp
end
section
/-
  Walks of chapter 2's small functions.
-/
set_option linter.unusedVariables false
set_option linter.unusedSimpArgs false
namespace Go.Proofs.YthpfknlgfkecpaaDoor
open Go.RowKit Go.Lib

set_option maxHeartbeats 4000000 in
theorem right_any (d : Int) (n : ByteArray) (w : World) (hs : n.size ≤ 1099511627776) (hT : Tabs w) :
    Calls Tryd.prog 47 #[Sp.tyV (d, n)] w fun e w' => e = .returned (.bool (Sp.rightS (d, n))) ∧ Below w.heap.size w w' := by
  have HE := Lib.hid (show Sp.rightS (d, n) = _ by rw [Sp.rightS])
  simp only [] at HE
  generalize Sp.rightS (d, n) = R at HE ⊢
  unfold Sp.tyV
  simp only []
  by_cases c1 : 0 ≤ d
  · by_cases c2 : d ≤ 4
    · by_cases c3 : n.size = 0
      · have hR : R = true := by rw [HE.out]; simp [c1, c2, c3]
        obtain rfl := str_empty n c3
        subst hR
        clear HE
        go_enter Tryd.func47, Tryd.ntmps47
        go_wp2
        go_ret
        exact ⟨rfl, (Below.refl _ _).alloc (Nat.le_refl _) _⟩
      · have hR : R = Sp.nameS n := by rw [HE.out]; simp [c1, c2, c3]
        have hne : (n.toList == []) = false := by
          rw [Bool.eq_false_iff]
          intro q
          have := (bytes_beq_iff n ⟨#[]⟩).1 (by simpa using q)
          rw [this] at c3
          exact c3 rfl
        have h1 := Lib.hid (fun W hT => name_any n W (by omega) hT)
        have T0 := Lib.hid hT
        clear hT
        subst hR
        generalize Sp.nameS n = v at h1 ⊢
        clear HE
        go_enter Tryd.func47, Tryd.ntmps47
        go_wp2_with fail
        refine (h1.out _ (fun W h => Tabs.below (T0.out.below ((Below.refl _ _).alloc (Nat.le_refl _) _)) h)).mono ?_
        rintro e w1 ⟨rfl, hb⟩
        go_wp2
        go_ret
        exact ⟨rfl, below_then ((Below.refl _ _).alloc (Nat.le_refl _) _) (by simp) hb⟩
    · have hR : R = false := by rw [HE.out]; simp [c2]
      subst hR
      clear HE
      go_enter Tryd.func47, Tryd.ntmps47
      go_wp2
      go_ret
      exact ⟨rfl, (Below.refl _ _).alloc (Nat.le_refl _) _⟩
  · have hR : R = false := by rw [HE.out]; simp [c1]
    subst hR
    clear HE
    go_enter Tryd.func47, Tryd.ntmps47
    go_wp2
    go_ret
    exact ⟨rfl, (Below.refl _ _).alloc (Nat.le_refl _) _⟩

set_option maxHeartbeats 4000000 in
theorem refRight_any (d : Int) (n : ByteArray) (w : World) (hs : n.size ≤ 1099511627776) :
    Calls Tryd.prog 51 #[Sp.tyV (d, n)] w fun e w' => e = .returned (.bool (Sp.rightS (d, n))) ∧ Below w.heap.size w w' := by
  have h1 := Lib.hid (fun W => refName_any n W (by omega))
  rw [Sp.refName_eq] at h1
  have HE := Lib.hid (show Sp.rightS (d, n) = _ by rw [Sp.rightS])
  simp only [] at HE
  generalize Sp.rightS (d, n) = R at HE ⊢
  unfold Sp.tyV
  simp only []
  generalize Sp.nameS n = v at h1 HE
  go_enter Tryd.func51, Tryd.ntmps51
  go_wp2_with fail
  refine (h1.out _).mono ?_
  rintro e w1 ⟨rfl, hb⟩
  have c0 : w1.cell? ⟨w.heap.size, 0, none⟩ = some (.int .i64 d) := cell_below hb (by simp)
  have c1 : w1.cell? ⟨w.heap.size, 1, none⟩ = some (.string n) := cell_below hb (by simp)
  have hb' := below_then ((Below.refl w.heap.size w).alloc (Nat.le_refl _) _) (by simp) hb
  by_cases q1 : 0 ≤ d
  · by_cases q2 : d ≤ 4
    · by_cases q3 : n.size = 0
      · have hR : R = true := by rw [HE.out]; simp [q1, q2, q3]
        obtain rfl := str_empty n q3
        subst hR
        clear HE
        go_wp2
        go_ret
        exact ⟨rfl, hb'⟩
      · have hR : R = v := by rw [HE.out]; simp [q1, q2, q3]
        have hne : (n.toList == []) = false := by
          rw [Bool.eq_false_iff]
          intro q
          have := (bytes_beq_iff n ⟨#[]⟩).1 (by simpa using q)
          rw [this] at q3
          exact q3 rfl
        subst hR
        clear HE
        go_wp2
        go_ret
        exact ⟨rfl, hb'⟩
    · have hR : R = false := by rw [HE.out]; simp [q2]
      subst hR
      clear HE
      go_wp2
      go_ret
      exact ⟨rfl, hb'⟩
  · have hR : R = false := by rw [HE.out]; simp [q1]
    subst hR
    clear HE
    go_wp2
    go_ret
    exact ⟨rfl, hb'⟩

set_option maxHeartbeats 4000000 in
theorem elem_any (d : Int) (n : ByteArray) (w : World) (hs : n.size ≤ 1099511627776) (hd : -9223372036854775808 ≤ d ∧ d ≤ 9223372036854775807) (hT : Tabs w) :
    Calls Tryd.prog 21 #[Sp.tyV (d, n)] w fun e w' => e = .returned (.tuple #[Sp.tyV (Sp.elemS (d, n)).1, .bool (Sp.elemS (d, n)).2]) ∧ Below w.heap.size w w' := by
  have h1 := Lib.hid (fun W hT => right_any d n W hs hT)
  have T0 := Lib.hid hT
  clear hT
  have HE := Lib.hid (show Sp.elemS (d, n) = _ by rw [Sp.elemS])
  have hrg : Sp.rightS (d, n) = true → 0 ≤ d ∧ d ≤ 4 := by
    intro q
    simp [Sp.rightS] at q
    exact q.1
  simp only [] at HE
  generalize Sp.elemS (d, n) = R at HE ⊢
  generalize Sp.rightS (d, n) = v at h1 HE hrg
  unfold Sp.tyV at h1 ⊢
  simp only [] at h1 ⊢
  go_enter Tryd.func21, Tryd.ntmps21
  go_wp2_with fail
  refine (h1.out _ (T0.out.below (((Below.refl _ _).alloc (Nat.le_refl _) _).alloc (by simp) _))).mono ?_
  rintro e w1 ⟨rfl, hb⟩
  obtain ⟨c0, f0⟩ := kept_cell hb ⟨w.heap.size, 0, none⟩ (.int .i64 d) (by simp)
  obtain ⟨c1, f1⟩ := kept_cell hb ⟨w.heap.size, 1, none⟩ (.string n) (by simp)
  obtain ⟨c2, f2⟩ := kept_cell hb ⟨w.heap.size + 1, 0, none⟩ (.int .i64 0) (by simp)
  obtain ⟨c3, f3⟩ := kept_cell hb ⟨w.heap.size + 1, 1, none⟩ (.string ⟨#[]⟩) (by simp)
  have hb' := below_then (((Below.refl w.heap.size w).alloc (Nat.le_refl _) _).alloc (by simp) _) (by simp; omega) hb
  by_cases q1 : v = true
  · subst q1
    by_cases q2 : d = 0
    · have hR : R = (Sp.t0, false) := by rw [HE.out]; simp [q2]
      subst hR
      clear HE
      go_wp2
      (try simp only [Exit.inBlock, Exit.then]); refine bodyPost_ret (results_ct rfl _ _ _ rfl (ty_load _ (w.heap.size + 1) 0 (x := .int .i64 0) (y := .string ⟨#[]⟩) (by (repeat (first | with_reducible assumption | (with_reducible apply World.cell?_setCell_same) | (with_reducible refine cell_alloc _ _ ?_) | (refine (World.cell?_setCell_other _ _ _ _ (by first | (simp; done) | (intro q; simp at q; done) | (intro q; simp at q; omega))).trans ?_)))) (by (repeat (first | with_reducible assumption | (with_reducible apply World.cell?_setCell_same) | (with_reducible refine cell_alloc _ _ ?_) | (refine (World.cell?_setCell_other _ _ _ _ (by first | (simp; done) | (intro q; simp at q; done) | (intro q; simp at q; omega))).trans ?_)))))) rfl ?_
      exact ⟨rfl, (hb'.setCell (p := ⟨w.heap.size + 1, 0, none⟩) (by simp) _).setCell (p := ⟨w.heap.size + 1, 1, none⟩) (by simp) _⟩
    · have hR : R = ((d - 1, n), true) := by rw [HE.out]; simp [q2]
      have := hrg rfl
      subst hR
      clear HE
      go_wp2
      (try simp only [Exit.inBlock, Exit.then]); refine bodyPost_ret (results_ct rfl _ _ _ rfl (ty_load _ (w.heap.size + 1) 0 (x := .int .i64 (d - 1)) (y := .string n) (by (repeat (first | with_reducible assumption | (with_reducible apply World.cell?_setCell_same) | (with_reducible refine cell_alloc _ _ ?_) | (refine (World.cell?_setCell_other _ _ _ _ (by first | (simp; done) | (intro q; simp at q; done) | (intro q; simp at q; omega))).trans ?_)))) (by (repeat (first | with_reducible assumption | (with_reducible apply World.cell?_setCell_same) | (with_reducible refine cell_alloc _ _ ?_) | (refine (World.cell?_setCell_other _ _ _ _ (by first | (simp; done) | (intro q; simp at q; done) | (intro q; simp at q; omega))).trans ?_)))))) rfl ?_
      exact ⟨rfl, ((hb'.setCell (p := ⟨w.heap.size, 0, none⟩) (by simp) _).setCell (p := ⟨w.heap.size + 1, 0, none⟩) (by simp) _).setCell (p := ⟨w.heap.size + 1, 1, none⟩) (by simp) _⟩
  · have q1 : v = false := by simpa using q1
    have hR : R = (Sp.t0, false) := by rw [HE.out]; simp [q1]
    subst hR q1
    clear HE
    go_wp2
    (try simp only [Exit.inBlock, Exit.then]); refine bodyPost_ret (results_ct rfl _ _ _ rfl (ty_load _ (w.heap.size + 1) 0 (x := .int .i64 0) (y := .string ⟨#[]⟩) (by (repeat (first | with_reducible assumption | (with_reducible apply World.cell?_setCell_same) | (with_reducible refine cell_alloc _ _ ?_) | (refine (World.cell?_setCell_other _ _ _ _ (by first | (simp; done) | (intro q; simp at q; done) | (intro q; simp at q; omega))).trans ?_)))) (by (repeat (first | with_reducible assumption | (with_reducible apply World.cell?_setCell_same) | (with_reducible refine cell_alloc _ _ ?_) | (refine (World.cell?_setCell_other _ _ _ _ (by first | (simp; done) | (intro q; simp at q; done) | (intro q; simp at q; omega))).trans ?_)))))) rfl ?_
    exact ⟨rfl, (hb'.setCell (p := ⟨w.heap.size + 1, 0, none⟩) (by simp) _).setCell (p := ⟨w.heap.size + 1, 1, none⟩) (by simp) _⟩
end Go.Proofs.YthpfknlgfkecpaaDoor
end
section
/-
  Walks of chapter 2's small functions: ArrayOf, IsRef and the reference's.
-/
set_option linter.unusedVariables false
set_option linter.unusedSimpArgs false
namespace Go.Proofs.YthpfknlgfkecpaaDoor
open Go.RowKit Go.Lib

set_option maxHeartbeats 4000000 in
theorem arr_any (d : Int) (n : ByteArray) (w : World) (hs : n.size ≤ 1099511627776) (hd : -9223372036854775808 ≤ d ∧ d ≤ 9223372036854775807) (hT : Tabs w) :
    Calls Tryd.prog 23 #[Sp.tyV (d, n)] w fun e w' => e = .returned (.tuple #[Sp.tyV (Sp.arrS (d, n)).1, .bool (Sp.arrS (d, n)).2]) ∧ Below w.heap.size w w' := by
  have h1 := Lib.hid (fun W hT => right_any d n W hs hT)
  have T0 := Lib.hid hT
  clear hT
  have HE := Lib.hid (show Sp.arrS (d, n) = _ by rw [Sp.arrS])
  have hrg : Sp.rightS (d, n) = true → 0 ≤ d ∧ d ≤ 4 := by
    intro q
    simp [Sp.rightS] at q
    exact q.1
  simp only [] at HE
  generalize Sp.arrS (d, n) = R at HE ⊢
  generalize Sp.rightS (d, n) = v at h1 HE hrg
  unfold Sp.tyV at h1 ⊢
  simp only [] at h1 ⊢
  go_enter Tryd.func23, Tryd.ntmps23
  go_wp2_with fail
  refine (h1.out _ (T0.out.below (((Below.refl _ _).alloc (Nat.le_refl _) _).alloc (by simp) _))).mono ?_
  rintro e w1 ⟨rfl, hb⟩
  obtain ⟨c0, f0⟩ := kept_cell hb ⟨w.heap.size, 0, none⟩ (.int .i64 d) (by simp)
  obtain ⟨c1, f1⟩ := kept_cell hb ⟨w.heap.size, 1, none⟩ (.string n) (by simp)
  obtain ⟨c2, f2⟩ := kept_cell hb ⟨w.heap.size + 1, 0, none⟩ (.int .i64 0) (by simp)
  obtain ⟨c3, f3⟩ := kept_cell hb ⟨w.heap.size + 1, 1, none⟩ (.string ⟨#[]⟩) (by simp)
  have hb' := below_then (((Below.refl w.heap.size w).alloc (Nat.le_refl _) _).alloc (by simp) _) (by simp; omega) hb
  by_cases q1 : v = true
  · subst q1
    by_cases q2 : d = 4
    · have hR : R = (Sp.t0, false) := by rw [HE.out]; simp [q2]
      subst hR
      clear HE
      go_wp2
      (try simp only [Exit.inBlock, Exit.then]); refine bodyPost_ret (results_ct rfl _ _ _ rfl (ty_load _ (w.heap.size + 1) 0 (x := .int .i64 0) (y := .string ⟨#[]⟩) (by (repeat (first | with_reducible assumption | (with_reducible apply World.cell?_setCell_same) | (with_reducible refine cell_alloc _ _ ?_) | (refine (World.cell?_setCell_other _ _ _ _ (by first | (simp; done) | (intro q; simp at q; done) | (intro q; simp at q; omega))).trans ?_)))) (by (repeat (first | with_reducible assumption | (with_reducible apply World.cell?_setCell_same) | (with_reducible refine cell_alloc _ _ ?_) | (refine (World.cell?_setCell_other _ _ _ _ (by first | (simp; done) | (intro q; simp at q; done) | (intro q; simp at q; omega))).trans ?_)))))) rfl ?_
      exact ⟨rfl, (hb'.setCell (p := ⟨w.heap.size + 1, 0, none⟩) (by simp) _).setCell (p := ⟨w.heap.size + 1, 1, none⟩) (by simp) _⟩
    · have hR : R = ((d + 1, n), true) := by rw [HE.out]; simp [q2]
      have := hrg rfl
      subst hR
      clear HE
      go_wp2
      (try simp only [Exit.inBlock, Exit.then]); refine bodyPost_ret (results_ct rfl _ _ _ rfl (ty_load _ (w.heap.size + 1) 0 (x := .int .i64 (d + 1)) (y := .string n) (by (repeat (first | with_reducible assumption | (with_reducible apply World.cell?_setCell_same) | (with_reducible refine cell_alloc _ _ ?_) | (refine (World.cell?_setCell_other _ _ _ _ (by first | (simp; done) | (intro q; simp at q; done) | (intro q; simp at q; omega))).trans ?_)))) (by (repeat (first | with_reducible assumption | (with_reducible apply World.cell?_setCell_same) | (with_reducible refine cell_alloc _ _ ?_) | (refine (World.cell?_setCell_other _ _ _ _ (by first | (simp; done) | (intro q; simp at q; done) | (intro q; simp at q; omega))).trans ?_)))))) rfl ?_
      exact ⟨rfl, ((hb'.setCell (p := ⟨w.heap.size, 0, none⟩) (by simp) _).setCell (p := ⟨w.heap.size + 1, 0, none⟩) (by simp) _).setCell (p := ⟨w.heap.size + 1, 1, none⟩) (by simp) _⟩
  · have q1 : v = false := by simpa using q1
    have hR : R = (Sp.t0, false) := by rw [HE.out]; simp [q1]
    subst hR q1
    clear HE
    go_wp2
    (try simp only [Exit.inBlock, Exit.then]); refine bodyPost_ret (results_ct rfl _ _ _ rfl (ty_load _ (w.heap.size + 1) 0 (x := .int .i64 0) (y := .string ⟨#[]⟩) (by (repeat (first | with_reducible assumption | (with_reducible apply World.cell?_setCell_same) | (with_reducible refine cell_alloc _ _ ?_) | (refine (World.cell?_setCell_other _ _ _ _ (by first | (simp; done) | (intro q; simp at q; done) | (intro q; simp at q; omega))).trans ?_)))) (by (repeat (first | with_reducible assumption | (with_reducible apply World.cell?_setCell_same) | (with_reducible refine cell_alloc _ _ ?_) | (refine (World.cell?_setCell_other _ _ _ _ (by first | (simp; done) | (intro q; simp at q; done) | (intro q; simp at q; omega))).trans ?_)))))) rfl ?_
    exact ⟨rfl, (hb'.setCell (p := ⟨w.heap.size + 1, 0, none⟩) (by simp) _).setCell (p := ⟨w.heap.size + 1, 1, none⟩) (by simp) _⟩
set_option maxHeartbeats 4000000 in
theorem refElem_any (d : Int) (n : ByteArray) (w : World) (hs : n.size ≤ 1099511627776) (hd : -9223372036854775808 ≤ d ∧ d ≤ 9223372036854775807) :
    Calls Tryd.prog 22 #[Sp.tyV (d, n)] w fun e w' => e = .returned (.tuple #[Sp.tyV (Sp.elemS (d, n)).1, .bool (Sp.elemS (d, n)).2]) ∧ Below w.heap.size w w' := by
  have h1 := Lib.hid (fun W => refRight_any d n W hs)
  have HE := Lib.hid (show Sp.elemS (d, n) = _ by rw [Sp.elemS])
  have hrg : Sp.rightS (d, n) = true → 0 ≤ d ∧ d ≤ 4 := by
    intro q
    simp [Sp.rightS] at q
    exact q.1
  simp only [] at HE
  generalize Sp.elemS (d, n) = R at HE ⊢
  generalize Sp.rightS (d, n) = v at h1 HE hrg
  unfold Sp.tyV at h1 ⊢
  simp only [] at h1 ⊢
  go_enter Tryd.func22, Tryd.ntmps22
  go_wp2_with fail
  refine (h1.out _).mono ?_
  rintro e w1 ⟨rfl, hb⟩
  obtain ⟨c0, f0⟩ := kept_cell hb ⟨w.heap.size, 0, none⟩ (.int .i64 d) (by simp)
  obtain ⟨c1, f1⟩ := kept_cell hb ⟨w.heap.size, 1, none⟩ (.string n) (by simp)
  obtain ⟨c2, f2⟩ := kept_cell hb ⟨w.heap.size + 1, 0, none⟩ (.int .i64 0) (by simp)
  obtain ⟨c3, f3⟩ := kept_cell hb ⟨w.heap.size + 1, 1, none⟩ (.string ⟨#[]⟩) (by simp)
  have hb' := below_then (((Below.refl w.heap.size w).alloc (Nat.le_refl _) _).alloc (by simp) _) (by simp; omega) hb
  by_cases q1 : v = true
  · subst q1
    by_cases q2 : d = 0
    · have hR : R = (Sp.t0, false) := by rw [HE.out]; simp [q2]
      subst hR
      clear HE
      go_wp2
      (try simp only [Exit.inBlock, Exit.then]); refine bodyPost_ret (results_ct rfl _ _ _ rfl (ty_load _ (w.heap.size + 1) 0 (x := .int .i64 0) (y := .string ⟨#[]⟩) (by (repeat (first | with_reducible assumption | (with_reducible apply World.cell?_setCell_same) | (with_reducible refine cell_alloc _ _ ?_) | (refine (World.cell?_setCell_other _ _ _ _ (by first | (simp; done) | (intro q; simp at q; done) | (intro q; simp at q; omega))).trans ?_)))) (by (repeat (first | with_reducible assumption | (with_reducible apply World.cell?_setCell_same) | (with_reducible refine cell_alloc _ _ ?_) | (refine (World.cell?_setCell_other _ _ _ _ (by first | (simp; done) | (intro q; simp at q; done) | (intro q; simp at q; omega))).trans ?_)))))) rfl ?_
      exact ⟨rfl, (hb'.setCell (p := ⟨w.heap.size + 1, 0, none⟩) (by simp) _).setCell (p := ⟨w.heap.size + 1, 1, none⟩) (by simp) _⟩
    · have hR : R = ((d - 1, n), true) := by rw [HE.out]; simp [q2]
      have := hrg rfl
      subst hR
      clear HE
      go_wp2
      (try simp only [Exit.inBlock, Exit.then]); refine bodyPost_ret (results_ct rfl _ _ _ rfl (ty_load _ (w.heap.size + 1) 0 (x := .int .i64 (d - 1)) (y := .string n) (by (repeat (first | with_reducible assumption | (with_reducible apply World.cell?_setCell_same) | (with_reducible refine cell_alloc _ _ ?_) | (refine (World.cell?_setCell_other _ _ _ _ (by first | (simp; done) | (intro q; simp at q; done) | (intro q; simp at q; omega))).trans ?_)))) (by (repeat (first | with_reducible assumption | (with_reducible apply World.cell?_setCell_same) | (with_reducible refine cell_alloc _ _ ?_) | (refine (World.cell?_setCell_other _ _ _ _ (by first | (simp; done) | (intro q; simp at q; done) | (intro q; simp at q; omega))).trans ?_)))))) rfl ?_
      exact ⟨rfl, (hb'.setCell (p := ⟨w.heap.size + 1, 0, none⟩) (by simp) _).setCell (p := ⟨w.heap.size + 1, 1, none⟩) (by simp) _⟩
  · have q1 : v = false := by simpa using q1
    have hR : R = (Sp.t0, false) := by rw [HE.out]; simp [q1]
    subst hR q1
    clear HE
    go_wp2
    (try simp only [Exit.inBlock, Exit.then]); refine bodyPost_ret (results_ct rfl _ _ _ rfl (ty_load _ (w.heap.size + 1) 0 (x := .int .i64 0) (y := .string ⟨#[]⟩) (by (repeat (first | with_reducible assumption | (with_reducible apply World.cell?_setCell_same) | (with_reducible refine cell_alloc _ _ ?_) | (refine (World.cell?_setCell_other _ _ _ _ (by first | (simp; done) | (intro q; simp at q; done) | (intro q; simp at q; omega))).trans ?_)))) (by (repeat (first | with_reducible assumption | (with_reducible apply World.cell?_setCell_same) | (with_reducible refine cell_alloc _ _ ?_) | (refine (World.cell?_setCell_other _ _ _ _ (by first | (simp; done) | (intro q; simp at q; done) | (intro q; simp at q; omega))).trans ?_)))))) rfl ?_
    exact ⟨rfl, (hb'.setCell (p := ⟨w.heap.size + 1, 0, none⟩) (by simp) _).setCell (p := ⟨w.heap.size + 1, 1, none⟩) (by simp) _⟩
set_option maxHeartbeats 4000000 in
theorem refArr_any (d : Int) (n : ByteArray) (w : World) (hs : n.size ≤ 1099511627776) (hd : -9223372036854775808 ≤ d ∧ d ≤ 9223372036854775807) :
    Calls Tryd.prog 24 #[Sp.tyV (d, n)] w fun e w' => e = .returned (.tuple #[Sp.tyV (Sp.arrS (d, n)).1, .bool (Sp.arrS (d, n)).2]) ∧ Below w.heap.size w w' := by
  have h1 := Lib.hid (fun W => refRight_any d n W hs)
  have HE := Lib.hid (show Sp.arrS (d, n) = _ by rw [Sp.arrS])
  have hrg : Sp.rightS (d, n) = true → 0 ≤ d ∧ d ≤ 4 := by
    intro q
    simp [Sp.rightS] at q
    exact q.1
  simp only [] at HE
  generalize Sp.arrS (d, n) = R at HE ⊢
  generalize Sp.rightS (d, n) = v at h1 HE hrg
  unfold Sp.tyV at h1 ⊢
  simp only [] at h1 ⊢
  go_enter Tryd.func24, Tryd.ntmps24
  go_wp2_with fail
  refine (h1.out _).mono ?_
  rintro e w1 ⟨rfl, hb⟩
  obtain ⟨c0, f0⟩ := kept_cell hb ⟨w.heap.size, 0, none⟩ (.int .i64 d) (by simp)
  obtain ⟨c1, f1⟩ := kept_cell hb ⟨w.heap.size, 1, none⟩ (.string n) (by simp)
  obtain ⟨c2, f2⟩ := kept_cell hb ⟨w.heap.size + 1, 0, none⟩ (.int .i64 0) (by simp)
  obtain ⟨c3, f3⟩ := kept_cell hb ⟨w.heap.size + 1, 1, none⟩ (.string ⟨#[]⟩) (by simp)
  have hb' := below_then (((Below.refl w.heap.size w).alloc (Nat.le_refl _) _).alloc (by simp) _) (by simp; omega) hb
  by_cases q1 : v = true
  · subst q1
    by_cases q2 : d = 4
    · have hR : R = (Sp.t0, false) := by rw [HE.out]; simp [q2]
      subst hR
      clear HE
      go_wp2
      (try simp only [Exit.inBlock, Exit.then]); refine bodyPost_ret (results_ct rfl _ _ _ rfl (ty_load _ (w.heap.size + 1) 0 (x := .int .i64 0) (y := .string ⟨#[]⟩) (by (repeat (first | with_reducible assumption | (with_reducible apply World.cell?_setCell_same) | (with_reducible refine cell_alloc _ _ ?_) | (refine (World.cell?_setCell_other _ _ _ _ (by first | (simp; done) | (intro q; simp at q; done) | (intro q; simp at q; omega))).trans ?_)))) (by (repeat (first | with_reducible assumption | (with_reducible apply World.cell?_setCell_same) | (with_reducible refine cell_alloc _ _ ?_) | (refine (World.cell?_setCell_other _ _ _ _ (by first | (simp; done) | (intro q; simp at q; done) | (intro q; simp at q; omega))).trans ?_)))))) rfl ?_
      exact ⟨rfl, (hb'.setCell (p := ⟨w.heap.size + 1, 0, none⟩) (by simp) _).setCell (p := ⟨w.heap.size + 1, 1, none⟩) (by simp) _⟩
    · have hR : R = ((d + 1, n), true) := by rw [HE.out]; simp [q2]
      have := hrg rfl
      subst hR
      clear HE
      go_wp2
      (try simp only [Exit.inBlock, Exit.then]); refine bodyPost_ret (results_ct rfl _ _ _ rfl (ty_load _ (w.heap.size + 1) 0 (x := .int .i64 (d + 1)) (y := .string n) (by (repeat (first | with_reducible assumption | (with_reducible apply World.cell?_setCell_same) | (with_reducible refine cell_alloc _ _ ?_) | (refine (World.cell?_setCell_other _ _ _ _ (by first | (simp; done) | (intro q; simp at q; done) | (intro q; simp at q; omega))).trans ?_)))) (by (repeat (first | with_reducible assumption | (with_reducible apply World.cell?_setCell_same) | (with_reducible refine cell_alloc _ _ ?_) | (refine (World.cell?_setCell_other _ _ _ _ (by first | (simp; done) | (intro q; simp at q; done) | (intro q; simp at q; omega))).trans ?_)))))) rfl ?_
      exact ⟨rfl, (hb'.setCell (p := ⟨w.heap.size + 1, 0, none⟩) (by simp) _).setCell (p := ⟨w.heap.size + 1, 1, none⟩) (by simp) _⟩
  · have q1 : v = false := by simpa using q1
    have hR : R = (Sp.t0, false) := by rw [HE.out]; simp [q1]
    subst hR q1
    clear HE
    go_wp2
    (try simp only [Exit.inBlock, Exit.then]); refine bodyPost_ret (results_ct rfl _ _ _ rfl (ty_load _ (w.heap.size + 1) 0 (x := .int .i64 0) (y := .string ⟨#[]⟩) (by (repeat (first | with_reducible assumption | (with_reducible apply World.cell?_setCell_same) | (with_reducible refine cell_alloc _ _ ?_) | (refine (World.cell?_setCell_other _ _ _ _ (by first | (simp; done) | (intro q; simp at q; done) | (intro q; simp at q; omega))).trans ?_)))) (by (repeat (first | with_reducible assumption | (with_reducible apply World.cell?_setCell_same) | (with_reducible refine cell_alloc _ _ ?_) | (refine (World.cell?_setCell_other _ _ _ _ (by first | (simp; done) | (intro q; simp at q; done) | (intro q; simp at q; omega))).trans ?_)))))) rfl ?_
    exact ⟨rfl, (hb'.setCell (p := ⟨w.heap.size + 1, 0, none⟩) (by simp) _).setCell (p := ⟨w.heap.size + 1, 1, none⟩) (by simp) _⟩

set_option maxHeartbeats 4000000 in
theorem isRef_any (d : Int) (n : ByteArray) (w : World) (hs : n.size ≤ 1099511627776) (hT : Tabs w) :
    Calls Tryd.prog 25 #[Sp.tyV (d, n)] w fun e w' => e = .returned (.bool (Sp.isRefS (d, n))) ∧ Below w.heap.size w w' := by
  have h1 := Lib.hid (fun W hT => right_any d n W hs hT)
  have T0 := Lib.hid hT
  clear hT
  have HE := Lib.hid (show Sp.isRefS (d, n) = _ by rw [Sp.isRefS])
  have hrg : Sp.rightS (d, n) = true → 0 ≤ d ∧ d ≤ 4 := by
    intro q
    simp [Sp.rightS] at q
    exact q.1
  simp only [] at HE
  generalize Sp.isRefS (d, n) = R at HE ⊢
  generalize Sp.rightS (d, n) = v at h1 HE hrg
  unfold Sp.tyV at h1 ⊢
  simp only [] at h1 ⊢
  go_enter Tryd.func25, Tryd.ntmps25
  go_wp2_with fail
  refine (h1.out _ (T0.out.below ((Below.refl _ _).alloc (Nat.le_refl _) _))).mono ?_
  rintro e w1 ⟨rfl, hb⟩
  obtain ⟨c0, f0⟩ := kept_cell hb ⟨w.heap.size, 0, none⟩ (.int .i64 d) (by simp)
  obtain ⟨c1, f1⟩ := kept_cell hb ⟨w.heap.size, 1, none⟩ (.string n) (by simp)
  have hb' := below_then ((Below.refl w.heap.size w).alloc (Nat.le_refl _) _) (by simp) hb
  cases v with
  | false =>
    have hR : R = false := by rw [HE.out]; simp
    subst hR
    clear HE
    go_wp2
    go_ret
    exact ⟨rfl, hb'⟩
  | true =>
    have hrg := hrg rfl
    by_cases q1 : d = 0
    · by_cases q2 : n.size = 0
      · have hR : R = false := by rw [HE.out]; simp [q1, q2]
        obtain rfl := str_empty n q2
        subst hR q1
        clear HE
        go_wp2
        go_ret
        exact ⟨by simp, hb'⟩
      · have hR : R = true := by rw [HE.out]; simp [q2]
        have hne : (n.toList == []) = false := by
          rw [Bool.eq_false_iff]
          intro q
          have := (bytes_beq_iff n ⟨#[]⟩).1 (by simpa using q)
          rw [this] at q2
          exact q2 rfl
        subst hR q1
        clear HE
        go_wp2
        go_ret
        exact ⟨by simp, hb'⟩
    · have hR : R = true := by rw [HE.out]; simp; omega
      have hnb : (d == 0) = false := by rw [beq_eq_false_iff_ne]; exact q1
      subst hR
      clear HE
      go_wp2
      go_ret
      exact ⟨by simp, hb'⟩

set_option maxHeartbeats 4000000 in
theorem refIsRef_any (d : Int) (n : ByteArray) (w : World) (hs : n.size ≤ 1099511627776) :
    Calls Tryd.prog 26 #[Sp.tyV (d, n)] w fun e w' => e = .returned (.bool (Sp.isRefS (d, n))) ∧ Below w.heap.size w w' := by
  have h1 := Lib.hid (fun W => refRight_any d n W hs)
  have HE := Lib.hid (show Sp.isRefS (d, n) = _ by rw [Sp.isRefS])
  simp only [] at HE
  generalize Sp.isRefS (d, n) = R at HE ⊢
  generalize Sp.rightS (d, n) = v at h1 HE
  unfold Sp.tyV at h1 ⊢
  simp only [] at h1 ⊢
  go_enter Tryd.func26, Tryd.ntmps26
  go_wp2_with fail
  refine (h1.out _).mono ?_
  rintro e w1 ⟨rfl, hb⟩
  obtain ⟨c0, f0⟩ := kept_cell hb ⟨w.heap.size, 0, none⟩ (.int .i64 d) (by simp)
  obtain ⟨c1, f1⟩ := kept_cell hb ⟨w.heap.size, 1, none⟩ (.string n) (by simp)
  have hb' := below_then ((Below.refl w.heap.size w).alloc (Nat.le_refl _) _) (by simp) hb
  cases v with
  | false =>
    have hR : R = false := by rw [HE.out]; simp
    subst hR
    clear HE
    go_wp2
    go_ret
    exact ⟨rfl, hb'⟩
  | true =>
    by_cases q1 : 0 < d
    · have hR : R = true := by rw [HE.out]; simp [q1]
      subst hR
      clear HE
      go_wp2
      go_ret
      exact ⟨rfl, hb'⟩
    · by_cases q2 : n.size = 0
      · have hR : R = false := by rw [HE.out]; simp [q1, q2]
        obtain rfl := str_empty n q2
        subst hR
        clear HE
        go_wp2
        go_ret
        exact ⟨by simp; omega, hb'⟩
      · have hR : R = true := by rw [HE.out]; simp [q2]
        have hne : (n.toList == []) = false := by
          rw [Bool.eq_false_iff]
          intro q
          have := (bytes_beq_iff n ⟨#[]⟩).1 (by simpa using q)
          rw [this] at q2
          exact q2 rfl
        subst hR
        clear HE
        go_wp2
        go_ret
        exact ⟨rfl, hb'⟩
end Go.Proofs.YthpfknlgfkecpaaDoor
end
section
/-
  Walks of chapter 2's Write and the reference's.
-/
set_option linter.unusedVariables false
set_option linter.unusedSimpArgs false
namespace Go.Proofs.YthpfknlgfkecpaaDoor
open Go.RowKit Go.Lib

namespace Sp
theorem rep_one (k : Nat) : (⟨(Lib.repeatL (⟨#[91]⟩ : ByteArray).data.toList k).toArray⟩ : ByteArray) = B (List.replicate k 91) := by
  have : Lib.repeatL (⟨#[91]⟩ : ByteArray).data.toList k = List.replicate k 91 := by
    have := Lib.repeatL_replicate 91 1 k
    simpa using this
  rw [this]; rfl
theorem rep_size (k : Nat) : (B (List.replicate k 91)).size = k := by rw [B_size]; simp
theorem nameB_some (k : Nat) (n : ByteArray) (h : ¬ n.size = 0) : (B (List.replicate k 91) ++ ⟨#[76]⟩) ++ n ++ ⟨#[59]⟩ = B (List.replicate k 91 ++ nameB n) := by
  have e1 : (⟨#[76]⟩ : ByteArray) = B [76] := rfl
  have e2 : (⟨#[59]⟩ : ByteArray) = B [59] := rfl
  have e3 : n = B n.data.toList := rfl
  rw [nameB, if_neg h]
  conv => lhs; rw [e1, e2, e3]
  rw [B_append, B_append, B_append]
  simp
theorem nameB_none (k : Nat) (n : ByteArray) (h : n.size = 0) : B (List.replicate k 91) ++ ⟨#[73]⟩ = B (List.replicate k 91 ++ nameB n) := by
  have e1 : (⟨#[73]⟩ : ByteArray) = B [73] := rfl
  rw [nameB, if_pos h, e1, B_append]
end Sp

set_option maxHeartbeats 8000000 in
set_option maxRecDepth 100000 in
theorem write_any (d : Int) (n : ByteArray) (w : World) (hs : n.size ≤ 1099511627776) (hT : Tabs w) :
    Calls Tryd.prog 17 #[Sp.tyV (d, n)] w fun e w' => e = .returned (.tuple #[.string (Sp.writeS (d, n)).1, .int .i64 (Sp.writeS (d, n)).2]) ∧ Below w.heap.size w w' := by
  have h1 := Lib.hid (fun W hT => right_any d n W hs hT)
  have T0 := Lib.hid hT
  clear hT
  have HE := Lib.hid (show Sp.writeS (d, n) = _ by rw [Sp.writeS])
  have hrg : Sp.rightS (d, n) = true → 0 ≤ d ∧ d ≤ 4 := by
    intro q
    simp [Sp.rightS] at q
    exact q.1
  simp only [] at HE
  generalize Sp.writeS (d, n) = R at HE ⊢
  generalize Sp.rightS (d, n) = v at h1 HE hrg
  unfold Sp.tyV at h1 ⊢
  simp only [] at h1 ⊢
  go_enter Tryd.func17, Tryd.ntmps17
  go_wp2_with fail
  refine (h1.out _ (T0.out.below ((Below.refl _ _).alloc (Nat.le_refl _) _))).mono ?_
  rintro e w1 ⟨rfl, hb⟩
  obtain ⟨c0, f0⟩ := kept_cell hb ⟨w.heap.size, 0, none⟩ (.int .i64 d) (by simp)
  obtain ⟨c1, f1⟩ := kept_cell hb ⟨w.heap.size, 1, none⟩ (.string n) (by simp)
  have hb' := below_then ((Below.refl w.heap.size w).alloc (Nat.le_refl _) _) (by simp) hb
  have S1 := hb'.size
  cases v with
  | false =>
    have hR : R = (⟨#[]⟩, 9) := by rw [HE.out]; simp
    subst hR
    clear HE
    go_wp2
    go_ret2
    exact ⟨rfl, hb'⟩
  | true =>
    have hrg := hrg rfl
    obtain ⟨k, rfl⟩ : ∃ k : Nat, d = k := ⟨d.toNat, by omega⟩
    have hrep := Lib.hid (fun W => Tryd.strings_Repeat ⟨#[91]⟩ k W (by omega) (by show 1 * k ≤ _; omega))
    rw [Sp.rep_one] at hrep
    have hrs := Sp.rep_size k
    have hR : R = (Sp.B (List.replicate k 91 ++ Sp.nameB n), 0) := by rw [HE.out]; simp
    clear HE
    by_cases q2 : n.size = 0
    · rw [← Sp.nameB_none k n q2] at hR
      obtain rfl := str_empty n q2
      subst hR
      go_wp2_with fail
      refine (hrep.out _).mono ?_
      rintro e w2 ⟨rfl, hb2⟩
      go_wp2
      go_ret2
      exact ⟨by simp, below_then hb' S1 hb2⟩
    · rw [← Sp.nameB_some k n q2] at hR
      have hne : (n.toList == []) = false := by
        rw [Bool.eq_false_iff]
        intro q
        have := (bytes_beq_iff n ⟨#[]⟩).1 (by simpa using q)
        rw [this] at q2
        exact q2 rfl
      subst hR
      go_wp2_with fail
      go_region_with (go_at_call 48; refine (hrep.out _).mono ?_; rintro e w2 ⟨rfl, hb2⟩; obtain ⟨c0', f0'⟩ := kept_cell hb2 ⟨w.heap.size, 0, none⟩ (.int .i64 k) ⟨c0, f0⟩; obtain ⟨c1', f1'⟩ := kept_cell hb2 ⟨w.heap.size, 1, none⟩ (.string n) ⟨c1, f1⟩)
      all_goals
        go_wp2
        go_ret2
        refine ⟨by simp, ?_⟩
        first | exact below_then hb' S1 hb2 | exact below_then hb'.drew S1 hb2

set_option maxHeartbeats 8000000 in
set_option maxRecDepth 100000 in
theorem refWrite_any (d : Int) (n : ByteArray) (w : World) (hs : n.size ≤ 1099511627776) :
    Calls Tryd.prog 20 #[Sp.tyV (d, n)] w fun e w' => e = .returned (.tuple #[.string (Sp.writeS (d, n)).1, .int .i64 (Sp.writeS (d, n)).2]) ∧ Below w.heap.size w w' := by
  have h1 := Lib.hid (fun W => refRight_any d n W hs)
  have HE := Lib.hid (show Sp.writeS (d, n) = _ by rw [Sp.writeS])
  have hrg : Sp.rightS (d, n) = true → 0 ≤ d ∧ d ≤ 4 := by
    intro q
    simp [Sp.rightS] at q
    exact q.1
  simp only [] at HE
  generalize Sp.writeS (d, n) = R at HE ⊢
  generalize Sp.rightS (d, n) = v at h1 HE hrg
  unfold Sp.tyV at h1 ⊢
  simp only [] at h1 ⊢
  go_enter Tryd.func20, Tryd.ntmps20
  go_wp2_with fail
  refine (h1.out _).mono ?_
  rintro e w1 ⟨rfl, hb⟩
  obtain ⟨c0, f0⟩ := kept_cell hb ⟨w.heap.size, 0, none⟩ (.int .i64 d) (by simp)
  obtain ⟨c1, f1⟩ := kept_cell hb ⟨w.heap.size, 1, none⟩ (.string n) (by simp)
  have hb' := below_then ((Below.refl w.heap.size w).alloc (Nat.le_refl _) _) (by simp) hb
  have S1 := hb'.size
  cases v with
  | false =>
    have hR : R = (⟨#[]⟩, 9) := by rw [HE.out]; simp
    subst hR
    clear HE
    go_wp2
    go_ret2
    exact ⟨rfl, hb'⟩
  | true =>
    have hrg := hrg rfl
    obtain ⟨k, rfl⟩ : ∃ k : Nat, d = k := ⟨d.toNat, by omega⟩
    have hrs := Sp.rep_size k
    have hR : R = (Sp.B (List.replicate k 91 ++ Sp.nameB n), 0) := by rw [HE.out]; simp
    clear HE
    go_wp2
    go_loop [5, 6] (fun v5 v6 => ∃ j : Nat, j ≤ k ∧ v6 = .int .i64 j ∧ v5 = .string (Sp.B (List.replicate j 91))) (fun _ v6 => k - (RowKit.intOf v6).toNat)
    case atStart => exact ⟨0, Nat.zero_le _, rfl, rfl⟩
    case round =>
      obtain ⟨j, hj, rfl, rfl⟩ := hrel
      by_cases hlt : j < k
      · have hz : (j : Int) < (k : Int) := by omega
        have e1 : Sp.B (List.replicate j 91) ++ ⟨#[91]⟩ = Sp.B (List.replicate (j + 1) 91) := by
          rw [show (⟨#[91]⟩ : ByteArray) = Sp.B [91] from rfl, Sp.B_append, List.replicate_succ']
        have hjs := Sp.rep_size j
        go_wp2
        go_round
        case rel => exact ⟨j + 1, by omega, by go_num, by first | rw [← e1] | rw [e1]⟩
        case measure => simp [RowKit.intOf]; omega
      · have hz : ¬ (j : Int) < (k : Int) := by omega
        obtain rfl : j = k := by omega
        by_cases q2 : n.size = 0
        · rw [← Sp.nameB_none j n q2] at hR
          obtain rfl := str_empty n q2
          go_wp2
          go_ret2
          exact ⟨by simp [hR], hb'⟩
        · rw [← Sp.nameB_some j n q2] at hR
          have hne : (n.toList == []) = false := by
            rw [Bool.eq_false_iff]
            intro q
            have := (bytes_beq_iff n ⟨#[]⟩).1 (by simpa using q)
            rw [this] at q2
            exact q2 rfl
          go_wp2
          go_ret2
          exact ⟨by simp [hR], hb'⟩
end Go.Proofs.YthpfknlgfkecpaaDoor
end
section
/-
  Walks of strings.Cut at one byte, and of (*strings.Builder).WriteString in this cut (turned from the kit's shelf).
-/
set_option linter.unusedVariables false
set_option linter.unusedSimpArgs false
namespace Go.Proofs.YthpfknlgfkecpaaDoor
open Go.RowKit Go.Lib

namespace Sp
/-- The place of a byte's first. -/
def ixB (l : List UInt8) (c : UInt8) : Int := Lib.indexByte l c
end Sp

set_option maxHeartbeats 4000000 in
theorem slcut1_any (s : ByteArray) (c : UInt8) (w : World) (hs : s.size ≤ 140737488351232) (hr : Lib.indexByte s.data.toList c < s.size ∧ -1 ≤ Lib.indexByte s.data.toList c) :
    Calls Tryd.prog 113 #[.string s, .string ⟨#[c]⟩] w fun e w' =>
      e = .returned (if 0 ≤ Lib.indexByte s.data.toList c then .tuple #[.string (s.extract 0 (Lib.indexByte s.data.toList c).toNat), .string (s.extract ((Lib.indexByte s.data.toList c).toNat + 1) s.size), .bool true] else .tuple #[.string s, .string ⟨#[]⟩, .bool false]) ∧ Below w.heap.size w w' := by
  have h1 := Lib.hid (Tryd.stringslite_Index_one s c w)
  generalize Lib.indexByte s.data.toList c = i at *
  have hc1 : (⟨#[c]⟩ : ByteArray).size = 1 := rfl
  by_cases hi : 0 ≤ i
  · obtain ⟨k, rfl⟩ : ∃ k : Nat, i = k := ⟨i.toNat, by omega⟩
    simp only [Int.toNat_natCast]
    go_enter Tryd.func113, Tryd.ntmps113
    go_wp2_with fail
    refine h1.out.mono ?_
    rintro e w1 ⟨rfl, rfl⟩
    go_wp2
    go_quiet (fail)
    go_wp2
    go_ret3
    exact ⟨by simp, below_drewNv (Below.refl _ _) _⟩
  · rw [if_neg hi]
    go_enter Tryd.func113, Tryd.ntmps113
    go_wp2_with fail
    refine h1.out.mono ?_
    rintro e w1 ⟨rfl, rfl⟩
    go_wp2
    go_ret3
    exact ⟨rfl, Below.refl _ _⟩

set_option maxHeartbeats 4000000 in
theorem cut1_any (s : ByteArray) (c : UInt8) (w : World) (hs : s.size ≤ 140737488351232) (hr : Lib.indexByte s.data.toList c < s.size ∧ -1 ≤ Lib.indexByte s.data.toList c) :
    Calls Tryd.prog 83 #[.string s, .string ⟨#[c]⟩] w fun e w' =>
      e = .returned (if 0 ≤ Lib.indexByte s.data.toList c then .tuple #[.string (s.extract 0 (Lib.indexByte s.data.toList c).toNat), .string (s.extract ((Lib.indexByte s.data.toList c).toNat + 1) s.size), .bool true] else .tuple #[.string s, .string ⟨#[]⟩, .bool false]) ∧ Below w.heap.size w w' := by
  have h1 := Lib.hid (slcut1_any s c w hs hr)
  generalize Lib.indexByte s.data.toList c = i at *
  by_cases hi : 0 ≤ i
  · rw [if_pos hi] at h1 ⊢
    go_enter Tryd.func83, Tryd.ntmps83
    go_wp2_with fail
    refine h1.out.mono ?_
    rintro e w1 ⟨rfl, hb⟩
    go_wp2
    go_ret3
    exact ⟨rfl, hb⟩
  · rw [if_neg hi] at h1 ⊢
    go_enter Tryd.func83, Tryd.ntmps83
    go_wp2_with fail
    refine h1.out.mono ?_
    rintro e w1 ⟨rfl, hb⟩
    go_wp2
    go_ret3
    exact ⟨rfl, hb⟩

set_option maxHeartbeats 2000000 in
set_option maxRecDepth 100000 in
theorem writeString_k (B b : Nat) (bs : List Value) (s : ByteArray) (w : World) (h : Lib.IsBuilderF 86 5 B b bs w) (hlen : bs.length + s.size ≤ 140737488355328) (hBw : B ≤ w.heap.size) :
    Calls Tryd.prog 54 #[.pointer (some ⟨b, 0, none⟩), .string s] w fun e w' => e = .returned (.tuple #[.int .i64 s.size, .nilIface]) ∧ (Lib.BuilderAtF 86 5 B b (.pointer (some ⟨b, 0, none⟩)) (bs ++ Lib.strCells s) w' ∧ Below B w w' ∧ Lib.OthersKept 5 (some b) w w') := by
  obtain ⟨i0, hi, hz0, hz1, hz2⟩ := info_parts infoByte
  go_enter Tryd.func54, Tryd.ntmps54
  go_wp2_with (go_at_call 87; refine (copyCheck_k B b bs _ h).mono ?_)
  rintro e w1 ⟨rfl, h1, hb1, hk1⟩
  obtain ⟨hB, v, hbk, hown, hne⟩ := h1
  have c0 : w1.cell? ⟨b, 0, none⟩ = some (.pointer (some ⟨b, 0, none⟩)) := by rw [Lib.cell_of_heap hbk]; rfl
  have c1 : w1.cell? ⟨b, 1, none⟩ = some v := by rw [Lib.cell_of_heap hbk]; rfl
  go_wp2_with (at_builtin; refine Lib.wpList_append_own_stringF _ rfl _ _ 74 9 rfl B 5 i0 Tryd.underlying74 Tryd.underlying9 hi hz0 hz1 hz2 _ _ _ rfl hown s rfl ?c3 ?c4 ?c5 ?_)
  case c3 => unfold maxLen; omega
  case c4 => omega
  case c5 => have := hb1.size; omega
  intro v' w2 hown' hgrow _
  have hlt : b < w1.heap.size := by
    rcases Nat.lt_or_ge b w1.heap.size with h' | h'
    · exact h'
    · simp [Array.getElem?_eq_none h'] at hbk
  have hb2 : w2.heap[b]? = some (.cells #[.pointer (some ⟨b, 0, none⟩), v] 86 (0, 0)) := by
    rw [hgrow.block b hlt (fun e => hne e.symm)]
    exact hbk
  have d0 : w2.cell? ⟨b, 0, none⟩ = some (.pointer (some ⟨b, 0, none⟩)) := by rw [Lib.cell_of_heap hb2]; rfl
  have d1 : w2.cell? ⟨b, 1, none⟩ = some v := by rw [Lib.cell_of_heap hb2]; rfl
  have f1 : w2.frozen? ⟨b, 1, none⟩ = false := Lib.frozen_of_heap hb2 1
  obtain ⟨ao, n', cap, rfl⟩ : ∃ ao n' cap, v' = .slice ao n' cap := by
    rcases hown'.2 with ⟨hv, _⟩ | ⟨g, cap, cur, fz, hv, _⟩
    · exact ⟨_, _, _, hv⟩
    · exact ⟨_, _, _, hv⟩
  go_wp2
  go_ret2
  refine ⟨rfl, ?_, ?_, (hk1.grown hgrow (Lib.ownsRowF_kind hown)).setCell ⟨b, 1, none⟩ rfl _⟩
  · exact Lib.BuilderAtF.put (T := 86) (e := 5) hB hb2 (bs' := bs ++ Lib.strCells s) (by simpa [Lib.strCells_length] using hown') (by decide)
  · exact (hb1.grown hgrow (by have := hb1.size; omega) (fun k hk => (hown.lt k hk).1)).setCell (p := ⟨b, 1, none⟩) hB _
end Go.Proofs.YthpfknlgfkecpaaDoor
end
section
/-
  Walks of chapter 2's reader of types.
-/
set_option linter.unusedVariables false
set_option linter.unusedSimpArgs false
namespace Go.Proofs.YthpfknlgfkecpaaDoor
open Go.RowKit Go.Lib

namespace Sp
def trimB (s : ByteArray) : ByteArray := ⟨(Lib.trimLeftB s.data.toList 91).toArray⟩
def tailB (s : ByteArray) : ByteArray := s.extract 1 s.size
def ixC (s : ByteArray) : Int := Lib.indexByte s.data.toList 59
/-- The type that stands at a text's head, and what is left. -/
def readS (s : ByteArray) : Option (Ty × ByteArray) :=
  if Lib.hasPrefix (trimB s).data.toList [73] = true then
    if rightS ((s.size : Int) - (trimB s).size, ⟨#[]⟩) = true then some (((s.size : Int) - (trimB s).size, ⟨#[]⟩), tailB (trimB s)) else none
  else if Lib.hasPrefix (trimB s).data.toList [76] = true then
    if ixC (tailB (trimB s)) < 0 ∨ ((tailB (trimB s)).extract 0 (ixC (tailB (trimB s))).toNat).size = 0 then none
    else if rightS ((s.size : Int) - (trimB s).size, (tailB (trimB s)).extract 0 (ixC (tailB (trimB s))).toNat) = true then some (((s.size : Int) - (trimB s).size, (tailB (trimB s)).extract 0 (ixC (tailB (trimB s))).toNat), (tailB (trimB s)).extract ((ixC (tailB (trimB s))).toNat + 1) (tailB (trimB s)).size) else none
  else none
theorem trim_size (s : ByteArray) : (trimB s).size ≤ s.size := by
  have h : (Lib.trimLeftB s.data.toList 91).length ≤ s.data.toList.length := by
    unfold Lib.trimLeftB
    exact (List.dropWhile_sublist _).length_le
  rw [show (trimB s).size = (Lib.trimLeftB s.data.toList 91).length from B_size _, Lib.size_eq s]
  exact h
theorem pre_size (s : ByteArray) (c : UInt8) (h : Lib.hasPrefix s.data.toList [c] = true) : 0 < s.size := by
  rw [Lib.size_eq]
  unfold Lib.hasPrefix at h
  cases hs : s.data.toList with
  | nil => rw [hs] at h; simp at h
  | cons a l => simp
theorem ix_range : ∀ (l : List UInt8) (c : UInt8), -1 ≤ Lib.indexByte l c ∧ Lib.indexByte l c < l.length
  | [], c => by simp [Lib.indexByte]
  | a :: l, c => by
    have := ix_range l c
    simp only [Lib.indexByte, List.length_cons]
    repeat' split
    all_goals omega
theorem ixC_range (s : ByteArray) : -1 ≤ ixC s ∧ ixC s < s.size := by
  have := ix_range s.data.toList 59
  rw [Lib.size_eq]
  exact this
end Sp

theorem grown_below {w w' : World} {b : Nat} (h : Below w.heap.size w w') : w.grownBy w' (some b) := ⟨h.os, h.tape, h.output, h.size, fun k hk _ => h.block k hk⟩
theorem grown_set {w w' : World} {b o : Nat} (h : w.grownBy w' (some b)) (v : Value) : w.grownBy (w'.setCell ⟨b, o, none⟩ v) (some b) := by
  have k := (Below.refl 0 w').setCell (p := ⟨b, o, none⟩) (Nat.zero_le _) v
  refine ⟨k.os.trans h.os, k.tape.trans h.tape, k.output.trans h.output, Nat.le_trans h.size k.size, fun i hi hne => ?_⟩
  rw [← h.block i hi hne]
  exact Go.Deep.blk_setCell_other _ _ _ _ (fun q => hne (by rw [q]))

theorem grown_new {w w' : World} {b o : Nat} (h : w.grownBy w' (some b)) (hb : b < w.heap.size) (v : Value) : w.grownBy (w'.setCell ⟨w.heap.size, o, none⟩ v) (some b) := by
  have k := (Below.refl 0 w').setCell (p := ⟨w.heap.size, o, none⟩) (Nat.zero_le _) v
  refine ⟨k.os.trans h.os, k.tape.trans h.tape, k.output.trans h.output, Nat.le_trans h.size k.size, fun i hi hne => ?_⟩
  rw [← h.block i hi hne]
  exact Go.Deep.blk_setCell_other _ _ _ _ (fun q => by simp at q; omega)

set_option maxHeartbeats 8000000 in
set_option maxRecDepth 100000 in
theorem reads1_any (b : Nat) (s : ByteArray) (w : World) (hs : s.size ≤ 1099511627776) (hc : w.cell? ⟨b, 0, none⟩ = some (.string s)) (hf : w.frozen? ⟨b, 0, none⟩ = false) (hT : Tabs w) :
    Calls Tryd.prog 81 #[.pointer (some ⟨b, 0, none⟩)] w fun e w' => match Sp.readS s with
      | none => e = .returned (.tuple #[Sp.tyV Sp.t0, .string s, .bool false]) ∧ Below w.heap.size w w'
      | some q => e = .returned (.tuple #[Sp.tyV q.1, .string q.2, .bool true]) ∧ w.grownBy w' (some b) ∧ w'.cell? ⟨b, 0, none⟩ = some (.string q.2) ∧ w'.frozen? ⟨b, 0, none⟩ = false := by
  have T0 := Lib.hid hT
  clear hT
  have hlt : b < w.heap.size := World.block_lt_of_cell? w _ hc
  have hne : w.heap.size ≠ b := by omega
  have HE := Lib.hid (show Sp.readS s = _ by rw [Sp.readS])
  have hx := Sp.trim_size s
  have k1 := Lib.hid (fun W => Tryd.strings_TrimLeft_one s 91 (by decide) W)
  have k2 := Lib.hid (fun W => Tryd.strings_HasPrefix (Sp.trimB s) ⟨#[73]⟩ W)
  have k3 := Lib.hid (fun W => Tryd.strings_HasPrefix (Sp.trimB s) ⟨#[76]⟩ W)
  have e1 : (⟨(Lib.trimLeftB s.data.toList 91).toArray⟩ : ByteArray) = Sp.trimB s := rfl
  rw [e1] at k1
  have e2 : (⟨#[73]⟩ : ByteArray).data.toList = [73] := rfl
  have e3 : (⟨#[76]⟩ : ByteArray).data.toList = [76] := rfl
  rw [e2] at k2
  rw [e3] at k3
  clear e1 e2 e3
  have hp1 := Sp.pre_size (Sp.trimB s) 73
  have hp2 := Sp.pre_size (Sp.trimB s) 76
  generalize Sp.readS s = R at HE ⊢
  generalize Sp.trimB s = x at *
  have hD : ((s.size : Int) - x.size) = ((s.size - x.size : Nat) : Int) := by omega
  go_enter Tryd.func81, Tryd.ntmps81
  go_wp2_with fail
  refine (k1.out _).mono ?_
  rintro e w1 ⟨rfl, rfl⟩
  go_wp2_with fail
  refine (k2.out _).mono ?_
  rintro e w2 ⟨rfl, rfl⟩
  by_cases p1 : Lib.hasPrefix x.data.toList [73] = true
  · have hpos := hp1 p1
    rw [p1]
    rw [if_pos p1] at HE
    have k4 := Lib.hid (fun W hT => right_any ((s.size : Int) - x.size) ⟨#[]⟩ W (by decide) hT)
    have HE' := Lib.hid HE.out
    clear HE
    generalize Sp.rightS ((s.size : Int) - x.size, ⟨#[]⟩) = v at k4 HE'
    unfold Sp.tyV at k4
    simp only [] at k4
    rw [hD] at k4 HE'
    go_wp2_with fail
    refine (k4.out _ (T0.out.below (((Below.refl _ _).alloc (Nat.le_refl _) _).alloc (by simp) _))).mono ?_
    rintro e w3 ⟨rfl, hb3⟩
    obtain ⟨cb, fb⟩ := kept_cell hb3 ⟨b, 0, none⟩ (.string s) (kept_cell (((Below.refl w.heap.size w).alloc (Nat.le_refl _) _).alloc (by simp) _) _ _ ⟨hc, hf⟩)
    obtain ⟨c0, f0⟩ := kept_cell hb3 ⟨w.heap.size, 0, none⟩ (.int .i64 0) (by simp)
    obtain ⟨c1, f1⟩ := kept_cell hb3 ⟨w.heap.size, 1, none⟩ (.string ⟨#[]⟩) (by simp)
    obtain ⟨c2, f2⟩ := kept_cell hb3 ⟨w.heap.size + 1, 0, none⟩ (.int .i64 ((s.size - x.size : Nat) : Int)) (by simp)
    obtain ⟨c3, f3⟩ := kept_cell hb3 ⟨w.heap.size + 1, 1, none⟩ (.string ⟨#[]⟩) (by simp)
    have hb' := below_then (((Below.refl w.heap.size w).alloc (Nat.le_refl _) _).alloc (by simp) _) (by simp; omega) hb3
    cases v with
    | false =>
      have hR : R = none := by rw [HE'.out, if_neg (by simp)]
      subst hR
      clear HE'
      go_wp2
      go_region
      all_goals
        go_wp2
        (try simp only [Exit.inBlock, Exit.then]); refine bodyPost_ret (results_ctt rfl _ _ _ rfl (ty_load _ w.heap.size 0 (x := .int .i64 0) (y := .string ⟨#[]⟩) (by simp only [World.cell?_drew]; (repeat (first | with_reducible assumption | (with_reducible apply World.cell?_setCell_same) | (with_reducible refine cell_alloc _ _ ?_) | (refine (World.cell?_setCell_other _ _ _ _ (by first | (simp; done) | (intro q; simp at q; done) | (intro q; simp at q; omega))).trans ?_)))) (by simp only [World.cell?_drew]; (repeat (first | with_reducible assumption | (with_reducible apply World.cell?_setCell_same) | (with_reducible refine cell_alloc _ _ ?_) | (refine (World.cell?_setCell_other _ _ _ _ (by first | (simp; done) | (intro q; simp at q; done) | (intro q; simp at q; omega))).trans ?_)))))) rfl ?_
        exact ⟨rfl, ((hb'.setCell (p := ⟨w.heap.size, 0, none⟩) (Nat.le_refl _) _).setCell (p := ⟨w.heap.size, 1, none⟩) (Nat.le_refl _) _).drew⟩
    | true =>
      have hR : R = some ((((s.size - x.size : Nat) : Int), ⟨#[]⟩), x.extract 1 x.size) := by rw [HE'.out, if_pos rfl]; rfl
      subst hR
      clear HE'
      go_wp2
      (try simp only [Exit.inBlock, Exit.then]); refine bodyPost_ret (results_ctt rfl _ _ _ rfl (ty_load _ w.heap.size 0 (x := .int .i64 ((s.size - x.size : Nat) : Int)) (y := .string ⟨#[]⟩) (by (repeat (first | with_reducible assumption | (with_reducible apply World.cell?_setCell_same) | (with_reducible refine cell_alloc _ _ ?_) | (refine (World.cell?_setCell_other _ _ _ _ (by first | (simp; done) | (intro q; simp at q; done) | (intro q; simp at q; omega))).trans ?_)))) (by (repeat (first | with_reducible assumption | (with_reducible apply World.cell?_setCell_same) | (with_reducible refine cell_alloc _ _ ?_) | (refine (World.cell?_setCell_other _ _ _ _ (by first | (simp; done) | (intro q; simp at q; done) | (intro q; simp at q; omega))).trans ?_)))))) rfl ?_
      exact ⟨rfl, grown_new (grown_new (grown_set (grown_below hb') _) hlt _) hlt _, by (repeat (first | with_reducible assumption | (with_reducible apply World.cell?_setCell_same) | (with_reducible refine cell_alloc _ _ ?_) | (refine (World.cell?_setCell_other _ _ _ _ (by first | (simp; done) | (intro q; simp at q; done) | (intro q; simp at q; omega))).trans ?_))), by simp [fb]⟩
  · rw [if_neg p1] at HE
    have p1' : Lib.hasPrefix x.data.toList [73] = false := by simpa using p1
    rw [p1']
    go_wp2_with fail
    refine (k3.out _).mono ?_
    rintro e w3 ⟨rfl, rfl⟩
    by_cases p2 : Lib.hasPrefix x.data.toList [76] = true
    · have hpos := hp2 p2
      rw [p2]
      rw [if_pos p2] at HE
      have hix := Sp.ixC_range (Sp.tailB x)
      have htz : (Sp.tailB x).size = x.size - 1 := by simp [Sp.tailB]
      have k5 := Lib.hid (fun W => cut1_any (Sp.tailB x) 59 W (by omega) ⟨hix.2, hix.1⟩)
      have e5 : Lib.indexByte (Sp.tailB x).data.toList 59 = Sp.ixC (Sp.tailB x) := rfl
      rw [e5] at k5
      have e6 : x.extract 1 x.size = Sp.tailB x := rfl
      clear e5
      go_wp2_with fail
      clear e6
      generalize Sp.tailB x = q at *
      generalize Sp.ixC q = i at *
      by_cases hi : i < 0
      · rw [if_pos (.inl hi)] at HE
        rw [if_neg (by omega)] at k5
        refine (k5.out _).mono ?_
        rintro e w4 ⟨rfl, hb4⟩
        obtain ⟨cb, fb⟩ := kept_cell hb4 ⟨b, 0, none⟩ (.string s) (kept_cell (((Below.refl w.heap.size w).alloc (Nat.le_refl _) _).alloc (by simp) _) _ _ ⟨hc, hf⟩)
        obtain ⟨c0, f0⟩ := kept_cell hb4 ⟨w.heap.size, 0, none⟩ (.int .i64 0) (by simp)
        obtain ⟨c1, f1⟩ := kept_cell hb4 ⟨w.heap.size, 1, none⟩ (.string ⟨#[]⟩) (by simp)
        obtain ⟨c2, f2⟩ := kept_cell hb4 ⟨w.heap.size + 1, 0, none⟩ (.int .i64 ((s.size - x.size : Nat) : Int)) (by simp)
        obtain ⟨c3, f3⟩ := kept_cell hb4 ⟨w.heap.size + 1, 1, none⟩ (.string ⟨#[]⟩) (by simp)
        have hb' := below_then (((Below.refl w.heap.size w).alloc (Nat.le_refl _) _).alloc (by simp) _) (by simp; omega) hb4
        have S4 := hb'.size
        have hR : R = none := HE.out
        subst hR
        clear HE
        go_wp2
        go_region
        all_goals
          go_wp2
          (try simp only [Exit.inBlock, Exit.then]); refine bodyPost_ret (results_ctt rfl _ _ _ rfl (ty_load _ w.heap.size 0 (x := .int .i64 0) (y := .string ⟨#[]⟩) (by simp only [World.cell?_drew]; (repeat (first | with_reducible assumption | (with_reducible apply World.cell?_setCell_same) | (with_reducible refine cell_alloc _ _ ?_) | (refine (World.cell?_setCell_other _ _ _ _ (by first | (simp; done) | (intro q; simp at q; done) | (intro q; simp at q; omega))).trans ?_)))) (by simp only [World.cell?_drew]; (repeat (first | with_reducible assumption | (with_reducible apply World.cell?_setCell_same) | (with_reducible refine cell_alloc _ _ ?_) | (refine (World.cell?_setCell_other _ _ _ _ (by first | (simp; done) | (intro q; simp at q; done) | (intro q; simp at q; omega))).trans ?_)))))) rfl ?_
          exact ⟨rfl, ((hb'.setCell (p := ⟨w.heap.size, 0, none⟩) (Nat.le_refl _) _).setCell (p := ⟨w.heap.size, 1, none⟩) (Nat.le_refl _) _).drew⟩
      · rw [if_pos (by omega)] at k5
        obtain ⟨m, rfl⟩ : ∃ m : Nat, i = m := ⟨i.toNat, by omega⟩
        simp only [Int.toNat_natCast] at k5 HE
        refine (k5.out _).mono ?_
        rintro e w4 ⟨rfl, hb4⟩
        obtain ⟨cb, fb⟩ := kept_cell hb4 ⟨b, 0, none⟩ (.string s) (kept_cell (((Below.refl w.heap.size w).alloc (Nat.le_refl _) _).alloc (by simp) _) _ _ ⟨hc, hf⟩)
        obtain ⟨c0, f0⟩ := kept_cell hb4 ⟨w.heap.size, 0, none⟩ (.int .i64 0) (by simp)
        obtain ⟨c1, f1⟩ := kept_cell hb4 ⟨w.heap.size, 1, none⟩ (.string ⟨#[]⟩) (by simp)
        obtain ⟨c2, f2⟩ := kept_cell hb4 ⟨w.heap.size + 1, 0, none⟩ (.int .i64 ((s.size - x.size : Nat) : Int)) (by simp)
        obtain ⟨c3, f3⟩ := kept_cell hb4 ⟨w.heap.size + 1, 1, none⟩ (.string ⟨#[]⟩) (by simp)
        have hb' := below_then (((Below.refl w.heap.size w).alloc (Nat.le_refl _) _).alloc (by simp) _) (by simp; omega) hb4
        have S4 := hb'.size
        by_cases hnm : (q.extract 0 m).size = 0
        · rw [if_pos (.inr hnm)] at HE
          have hR : R = none := HE.out
          subst hR
          clear HE
          have hne0 := str_empty _ hnm
          rw [hne0]
          go_wp2
          go_region
          all_goals
            go_wp2
            (try simp only [Exit.inBlock, Exit.then]); refine bodyPost_ret (results_ctt rfl _ _ _ rfl (ty_load _ w.heap.size 0 (x := .int .i64 0) (y := .string ⟨#[]⟩) (by simp only [World.cell?_drew]; (repeat (first | with_reducible assumption | (with_reducible apply World.cell?_setCell_same) | (with_reducible refine cell_alloc _ _ ?_) | (refine (World.cell?_setCell_other _ _ _ _ (by first | (simp; done) | (intro q; simp at q; done) | (intro q; simp at q; omega))).trans ?_)))) (by simp only [World.cell?_drew]; (repeat (first | with_reducible assumption | (with_reducible apply World.cell?_setCell_same) | (with_reducible refine cell_alloc _ _ ?_) | (refine (World.cell?_setCell_other _ _ _ _ (by first | (simp; done) | (intro q; simp at q; done) | (intro q; simp at q; omega))).trans ?_)))))) rfl ?_
            exact ⟨rfl, ((hb'.setCell (p := ⟨w.heap.size, 0, none⟩) (Nat.le_refl _) _).setCell (p := ⟨w.heap.size, 1, none⟩) (Nat.le_refl _) _).drew⟩
        · rw [if_neg (by omega)] at HE
          have hms : (q.extract 0 m).size ≤ 1099511627776 := by simp; omega
          have k6 := Lib.hid (fun W hT => right_any ((s.size : Int) - x.size) (q.extract 0 m) W hms hT)
          have HE' := Lib.hid HE.out
          clear HE
          have hne2 : ((q.extract 0 m).toList == []) = false := by
            rw [Bool.eq_false_iff]
            intro r
            have := (bytes_beq_iff (q.extract 0 m) ⟨#[]⟩).1 (by simpa using r)
            rw [this] at hnm
            exact hnm rfl
          generalize q.extract 0 m = nm at *
          generalize q.extract (m + 1) q.size = rs at *
          generalize Sp.rightS ((s.size : Int) - x.size, nm) = v at k6 HE'
          unfold Sp.tyV at k6
          simp only [] at k6
          rw [hD] at k6 HE'
          go_wp2_with fail
          have hb4' := hb'.setCell (p := ⟨w.heap.size + 1, 1, none⟩) (by simp) (.string nm)
          refine (k6.out _ (T0.out.below hb4')).mono ?_
          rintro e w5 ⟨rfl, hb5⟩
          obtain ⟨db, gb⟩ := kept_cell hb5 ⟨b, 0, none⟩ (.string s) ⟨by (repeat (first | with_reducible assumption | (with_reducible apply World.cell?_setCell_same) | (with_reducible refine cell_alloc _ _ ?_) | (refine (World.cell?_setCell_other _ _ _ _ (by first | (simp; done) | (intro q; simp at q; done) | (intro q; simp at q; omega))).trans ?_))), by simpa using fb⟩
          obtain ⟨d0, g0⟩ := kept_cell hb5 ⟨w.heap.size, 0, none⟩ (.int .i64 0) ⟨by (repeat (first | with_reducible assumption | (with_reducible apply World.cell?_setCell_same) | (with_reducible refine cell_alloc _ _ ?_) | (refine (World.cell?_setCell_other _ _ _ _ (by first | (simp; done) | (intro q; simp at q; done) | (intro q; simp at q; omega))).trans ?_))), by simpa using f0⟩
          obtain ⟨d1, g1⟩ := kept_cell hb5 ⟨w.heap.size, 1, none⟩ (.string ⟨#[]⟩) ⟨by (repeat (first | with_reducible assumption | (with_reducible apply World.cell?_setCell_same) | (with_reducible refine cell_alloc _ _ ?_) | (refine (World.cell?_setCell_other _ _ _ _ (by first | (simp; done) | (intro q; simp at q; done) | (intro q; simp at q; omega))).trans ?_))), by simpa using f1⟩
          obtain ⟨d2, g2⟩ := kept_cell hb5 ⟨w.heap.size + 1, 0, none⟩ (.int .i64 ((s.size - x.size : Nat) : Int)) ⟨by (repeat (first | with_reducible assumption | (with_reducible apply World.cell?_setCell_same) | (with_reducible refine cell_alloc _ _ ?_) | (refine (World.cell?_setCell_other _ _ _ _ (by first | (simp; done) | (intro q; simp at q; done) | (intro q; simp at q; omega))).trans ?_))), by simpa using f2⟩
          obtain ⟨d3, g3⟩ := kept_cell hb5 ⟨w.heap.size + 1, 1, none⟩ (.string nm) ⟨by (repeat (first | with_reducible assumption | (with_reducible apply World.cell?_setCell_same) | (with_reducible refine cell_alloc _ _ ?_) | (refine (World.cell?_setCell_other _ _ _ _ (by first | (simp; done) | (intro q; simp at q; done) | (intro q; simp at q; omega))).trans ?_))), by simpa using f3⟩
          have hb' := below_then hb4' hb4'.size hb5
          clear hb4' hb5 hb4 cb fb c0 f0 c1 f1 c2 f2 c3 f3 S4
          cases v with
          | false =>
            have hR : R = none := by rw [HE'.out, if_neg (by simp)]
            subst hR
            clear HE'
            go_wp2
            go_region
            all_goals
              go_wp2
              (try simp only [Exit.inBlock, Exit.then]); refine bodyPost_ret (results_ctt rfl _ _ _ rfl (ty_load _ w.heap.size 0 (x := .int .i64 0) (y := .string ⟨#[]⟩) (by simp only [World.cell?_drew]; (repeat (first | with_reducible assumption | (with_reducible apply World.cell?_setCell_same) | (with_reducible refine cell_alloc _ _ ?_) | (refine (World.cell?_setCell_other _ _ _ _ (by first | (simp; done) | (intro q; simp at q; done) | (intro q; simp at q; omega))).trans ?_)))) (by simp only [World.cell?_drew]; (repeat (first | with_reducible assumption | (with_reducible apply World.cell?_setCell_same) | (with_reducible refine cell_alloc _ _ ?_) | (refine (World.cell?_setCell_other _ _ _ _ (by first | (simp; done) | (intro q; simp at q; done) | (intro q; simp at q; omega))).trans ?_)))))) rfl ?_
              exact ⟨rfl, ((hb'.setCell (p := ⟨w.heap.size, 0, none⟩) (Nat.le_refl _) _).setCell (p := ⟨w.heap.size, 1, none⟩) (Nat.le_refl _) _).drew⟩
          | true =>
            have hR : R = some ((((s.size - x.size : Nat) : Int), nm), rs) := by rw [HE'.out, if_pos rfl]
            subst hR
            clear HE'
            go_wp2
            (try simp only [Exit.inBlock, Exit.then]); refine bodyPost_ret (results_ctt rfl _ _ _ rfl (ty_load _ w.heap.size 0 (x := .int .i64 ((s.size - x.size : Nat) : Int)) (y := .string nm) (by (repeat (first | with_reducible assumption | (with_reducible apply World.cell?_setCell_same) | (with_reducible refine cell_alloc _ _ ?_) | (refine (World.cell?_setCell_other _ _ _ _ (by first | (simp; done) | (intro q; simp at q; done) | (intro q; simp at q; omega))).trans ?_)))) (by (repeat (first | with_reducible assumption | (with_reducible apply World.cell?_setCell_same) | (with_reducible refine cell_alloc _ _ ?_) | (refine (World.cell?_setCell_other _ _ _ _ (by first | (simp; done) | (intro q; simp at q; done) | (intro q; simp at q; omega))).trans ?_)))))) rfl ?_
            exact ⟨rfl, grown_new (grown_new (grown_set (grown_below hb') _) hlt _) hlt _, by (repeat (first | with_reducible assumption | (with_reducible apply World.cell?_setCell_same) | (with_reducible refine cell_alloc _ _ ?_) | (refine (World.cell?_setCell_other _ _ _ _ (by first | (simp; done) | (intro q; simp at q; done) | (intro q; simp at q; omega))).trans ?_))), by simpa using gb⟩
    · have p2' : Lib.hasPrefix x.data.toList [76] = false := by simpa using p2
      rw [p2']
      rw [if_neg p2] at HE
      have hR : R = none := HE.out
      subst hR
      clear HE
      go_wp2
      go_region
      all_goals
        go_wp2
        (try simp only [Exit.inBlock, Exit.then]); refine bodyPost_ret (results_ctt rfl _ _ _ rfl (ty_load _ w.heap.size 0 (x := .int .i64 0) (y := .string ⟨#[]⟩) (by simp) (by simp))) rfl ?_
        exact ⟨rfl, (((Below.refl _ _).alloc (Nat.le_refl _) _).alloc (by simp) _).drew⟩
end Go.Proofs.YthpfknlgfkecpaaDoor
end
section
/-
  Walks of chapter 2's Field.
-/
set_option linter.unusedVariables false
set_option linter.unusedSimpArgs false
namespace Go.Proofs.YthpfknlgfkecpaaDoor
open Go.RowKit Go.Lib

namespace Sp
def fieldS (s : ByteArray) : Ty × Int := match readS s with
  | none => (t0, 9)
  | some q => if q.2.size = 0 then (q.1, 0) else (t0, 9)
end Sp

theorem cell_alloc (w : World) (o : Obj) {a : Addr} {v : Value} (h : w.cell? a = some v) : (w.alloc o).cell? a = some v := cell_below ((Below.refl _ _).alloc (Nat.le_refl _) _) h

theorem reads_any (s : ByteArray) (w : World) :
    Calls Tryd.prog 49 #[.string s] w fun e w' => e = .returned (.func (Fn.func 81) #[] #[.pointer (some ⟨w.heap.size, 0, none⟩)]) ∧ w' = w.alloc (.cells #[.string s] 9) := by
  go_enter Tryd.func49, Tryd.ntmps49
  go_wp2
  go_ret
  exact ⟨rfl, rfl⟩

set_option maxHeartbeats 8000000 in
set_option maxRecDepth 100000 in
theorem field_any (s : ByteArray) (w : World) (hs : s.size ≤ 1099511627776) (hT : Tabs w) :
    Calls Tryd.prog 18 #[.string s] w fun e w' => e = .returned (.tuple #[Sp.tyV (Sp.fieldS s).1, .int .i64 (Sp.fieldS s).2]) ∧ Below w.heap.size w w' := by
  have T0 := Lib.hid hT
  clear hT
  have HE := Lib.hid (show Sp.fieldS s = _ by rw [Sp.fieldS])
  have k1 := Lib.hid (fun b W hc hf hT => reads1_any b s W hs hc hf hT)
  generalize Sp.fieldS s = R at HE ⊢
  generalize Sp.readS s = q at HE k1
  go_enter Tryd.func18, Tryd.ntmps18
  go_wp2_with fail
  refine (reads_any _ _).mono ?_
  rintro e w1 ⟨rfl, rfl⟩
  go_wp2_with fail
  have hB0 := ((Below.refl w.heap.size w).alloc (Nat.le_refl _) (.cells #[.int .i64 0, .string ⟨#[]⟩] 23)).alloc (by simp) (.cells #[.string s] 9)
  have k2 := k1.out (w.heap.size + 1) _ (by simp) (by simp) (T0.out.below hB0)
  clear k1
  cases q with
  | none =>
    have hR : R = (Sp.t0, 9) := HE.out
    subst hR
    clear HE
    refine k2.mono ?_
    rintro e w1 ⟨rfl, hb⟩
    obtain ⟨c0, f0⟩ := kept_cell hb ⟨w.heap.size, 0, none⟩ (.int .i64 0) (by simp)
    obtain ⟨c1, f1⟩ := kept_cell hb ⟨w.heap.size, 1, none⟩ (.string ⟨#[]⟩) (by simp)
    have hb' := below_then hB0 hB0.size hb
    have hlt : w.heap.size < w1.heap.size := by have := hb.size; simp at this; omega
    unfold Sp.tyV
    go_wp2
    (try simp only [Exit.inBlock, Exit.then]); refine bodyPost_ret (results_ct rfl _ _ _ rfl (ty_load _ w.heap.size 0 (x := .int .i64 0) (y := .string ⟨#[]⟩) (cell_alloc _ _ (by (repeat (first | with_reducible assumption | (with_reducible apply World.cell?_setCell_same) | (with_reducible refine cell_alloc _ _ ?_) | (refine (World.cell?_setCell_other _ _ _ _ (by first | (simp; done) | (intro q; simp at q; done) | (intro q; simp at q; omega))).trans ?_))))) (cell_alloc _ _ (by (repeat (first | with_reducible assumption | (with_reducible apply World.cell?_setCell_same) | (with_reducible refine cell_alloc _ _ ?_) | (refine (World.cell?_setCell_other _ _ _ _ (by first | (simp; done) | (intro q; simp at q; done) | (intro q; simp at q; omega))).trans ?_))))))) rfl ?_
    exact ⟨rfl, ((hb'.setCell (p := ⟨w.heap.size, 0, none⟩) (Nat.le_refl _) _).setCell (p := ⟨w.heap.size, 1, none⟩) (Nat.le_refl _) _).alloc (by simp; omega) _⟩
  | some q =>
    obtain ⟨⟨qd, qn⟩, qr⟩ := q
    refine k2.mono ?_
    rintro e w1 ⟨rfl, hg, hcb, hfb⟩
    have hlt : w.heap.size < w1.heap.size := by have := hg.size; simp at this; omega
    have hold : w1.heap[w.heap.size]? = ((w.alloc (.cells #[.int .i64 0, .string ⟨#[]⟩] 23)).alloc (.cells #[.string s] 9)).heap[w.heap.size]? := hg.block _ (by simp; omega) (by simp)
    have c0 : w1.cell? ⟨w.heap.size, 0, none⟩ = some (.int .i64 0) := (World.cell?_of_block (a := ⟨w.heap.size, 0, none⟩) hold).trans (by simp)
    have c1 : w1.cell? ⟨w.heap.size, 1, none⟩ = some (.string ⟨#[]⟩) := (World.cell?_of_block (a := ⟨w.heap.size, 1, none⟩) hold).trans (by simp)
    have f0 : w1.frozen? ⟨w.heap.size, 0, none⟩ = false := (World.frozen?_of_block (a := ⟨w.heap.size, 0, none⟩) hold).trans (by simp)
    have f1 : w1.frozen? ⟨w.heap.size, 1, none⟩ = false := (World.frozen?_of_block (a := ⟨w.heap.size, 1, none⟩) hold).trans (by simp)
    have hb' : Below w.heap.size w w1 := hB0.grown hg hB0.size (fun k hk => by simp at hk; omega)
    by_cases hz : qr.size = 0
    · have hR : R = ((qd, qn), 0) := by rw [HE.out]; simp [hz]
      obtain rfl := str_empty qr hz
      subst hR
      clear HE
      unfold Sp.tyV
      go_wp2
      (try simp only [Exit.inBlock, Exit.then]); refine bodyPost_ret (results_ct rfl _ _ _ rfl (ty_load _ w.heap.size 0 (x := .int .i64 qd) (y := .string qn) (cell_alloc _ _ (by (repeat (first | with_reducible assumption | (with_reducible apply World.cell?_setCell_same) | (with_reducible refine cell_alloc _ _ ?_) | (refine (World.cell?_setCell_other _ _ _ _ (by first | (simp; done) | (intro q; simp at q; done) | (intro q; simp at q; omega))).trans ?_))))) (cell_alloc _ _ (by (repeat (first | with_reducible assumption | (with_reducible apply World.cell?_setCell_same) | (with_reducible refine cell_alloc _ _ ?_) | (refine (World.cell?_setCell_other _ _ _ _ (by first | (simp; done) | (intro q; simp at q; done) | (intro q; simp at q; omega))).trans ?_))))))) rfl ?_
      exact ⟨rfl, ((hb'.setCell (p := ⟨w.heap.size, 0, none⟩) (Nat.le_refl _) _).setCell (p := ⟨w.heap.size, 1, none⟩) (Nat.le_refl _) _).alloc (by simp; omega) _⟩
    · have hR : R = (Sp.t0, 9) := by rw [HE.out]; simp [hz]
      have hne2 : (qr.toList == []) = false := by
        rw [Bool.eq_false_iff]
        intro r
        have := (bytes_beq_iff qr ⟨#[]⟩).1 (by simpa using r)
        rw [this] at hz
        exact hz rfl
      subst hR
      clear HE
      unfold Sp.tyV
      go_wp2
      (try simp only [Exit.inBlock, Exit.then]); refine bodyPost_ret (results_ct rfl _ _ _ rfl (ty_load _ w.heap.size 0 (x := .int .i64 0) (y := .string ⟨#[]⟩) (cell_alloc _ _ (by (repeat (first | with_reducible assumption | (with_reducible apply World.cell?_setCell_same) | (with_reducible refine cell_alloc _ _ ?_) | (refine (World.cell?_setCell_other _ _ _ _ (by first | (simp; done) | (intro q; simp at q; done) | (intro q; simp at q; omega))).trans ?_))))) (cell_alloc _ _ (by (repeat (first | with_reducible assumption | (with_reducible apply World.cell?_setCell_same) | (with_reducible refine cell_alloc _ _ ?_) | (refine (World.cell?_setCell_other _ _ _ _ (by first | (simp; done) | (intro q; simp at q; done) | (intro q; simp at q; omega))).trans ?_))))))) rfl ?_
      exact ⟨rfl, ((hb'.setCell (p := ⟨w.heap.size, 0, none⟩) (Nat.le_refl _) _).setCell (p := ⟨w.heap.size, 1, none⟩) (Nat.le_refl _) _).alloc (by simp; omega) _⟩
end Go.Proofs.YthpfknlgfkecpaaDoor
end
section
/-
  Plain: a type's text, byte by byte.
-/
set_option linter.unusedVariables false
set_option linter.unusedSimpArgs false
namespace Go.Proofs.YthpfknlgfkecpaaDoor.Sp
open Go.RowKit Go.Lib

/-- How many brackets stand ahead. -/
def cnt (s : ByteArray) : Nat := s.size - (trimB s).size

theorem bt_list (s : ByteArray) (j : Nat) : bt s j = match s.data.toList[j]? with | some c => (c.toNat : Int) | none => 0 := by
  unfold bt
  by_cases h : j < s.size
  · have h2 : j < s.data.toList.length := by rw [← Lib.size_eq]; exact h
    rw [dif_pos h, List.getElem?_eq_getElem h2]
    rfl
  · have h2 : ¬ j < s.data.toList.length := by rw [← Lib.size_eq]; exact h
    rw [dif_neg h, List.getElem?_eq_none (by omega)]

theorem drop_split (c : UInt8) : ∀ l : List UInt8, ∃ k r, l = List.replicate k c ++ r ∧ l.dropWhile (· == c) = r ∧ ∀ x, r.head? = some x → x ≠ c
  | [] => ⟨0, [], rfl, rfl, by simp⟩
  | a :: l => by
    by_cases h : a = c
    · subst h
      obtain ⟨k, r, h1, h2, h3⟩ := drop_split a l
      refine ⟨k + 1, r, ?_, ?_, h3⟩
      · rw [List.replicate_succ, List.cons_append, ← h1]
      · rw [List.dropWhile_cons, if_pos (by simp), h2]
    · refine ⟨0, a :: l, rfl, ?_, ?_⟩
      · rw [List.dropWhile_cons, if_neg (by simpa using h)]
      · intro x hx
        simp at hx
        subst hx
        exact h

theorem trim_split (s : ByteArray) : s.data.toList = List.replicate (cnt s) 91 ++ (trimB s).data.toList ∧ (∀ x, (trimB s).data.toList.head? = some x → x ≠ 91) ∧ cnt s ≤ s.size := by
  obtain ⟨k, r, h1, h2, h3⟩ := drop_split 91 s.data.toList
  have e : (trimB s).data.toList = r := by
    rw [← h2]
    simp [trimB, Lib.trimLeftB]
  have hc : cnt s = k := by
    unfold cnt
    rw [Lib.size_eq, Lib.size_eq, e, h1]
    simp
  refine ⟨by rw [hc, e]; exact h1, by rw [e]; exact h3, ?_⟩
  unfold cnt
  omega

theorem cnt_bt (s : ByteArray) (j : Nat) (h : j < cnt s) : bt s j = 91 := by
  rw [bt_list, (trim_split s).1, List.getElem?_append_left (by simpa using h)]
  simp [h]

theorem trim_get (s : ByteArray) (j : Nat) : bt s (cnt s + j) = bt (trimB s) j := by
  rw [bt_list, bt_list, (trim_split s).1, List.getElem?_append_right (by simp)]
  simp

theorem pre_bt (s : ByteArray) (c : UInt8) (hc : c ≠ 0) : (Lib.hasPrefix s.data.toList [c] = true) ↔ bt s 0 = c.toNat := by
  rw [bt_list]
  unfold Lib.hasPrefix
  cases h : s.data.toList with
  | nil =>
    have : ¬ (0 : Int) = (c.toNat : Int) := by
      intro q
      apply hc
      have : c.toNat = 0 := by omega
      exact UInt8.toNat_inj.1 this
    simpa using this
  | cons a l =>
    simp
    constructor
    · intro q; rw [q]
    · intro q
      have : c.toNat = a.toNat := by omega
      exact UInt8.toNat_inj.1 this

theorem trim_head (s : ByteArray) (h : cnt s < s.size) : bt s (cnt s) ≠ 91 := by
  have h1 := trim_get s 0
  rw [Nat.add_zero] at h1
  rw [h1, bt_list]
  have h2 := (trim_split s).2.1
  cases hl : (trimB s).data.toList with
  | nil =>
    simp
  | cons a l =>
    rw [hl] at h2
    have := h2 a rfl
    simp
    intro q
    apply this
    have : a.toNat = (91 : UInt8).toNat := by
      show a.toNat = 91
      omega
    exact UInt8.toNat_inj.1 this

theorem ix_spec : ∀ (l : List UInt8) (c : UInt8), (Lib.indexByte l c = -1 ∧ ∀ (j : Nat) x, l[j]? = some x → x ≠ c) ∨ ∃ k : Nat, Lib.indexByte l c = k ∧ l[k]? = some c ∧ ∀ (j : Nat) x, j < k → l[j]? = some x → x ≠ c
  | [], c => .inl ⟨rfl, by simp⟩
  | a :: l, c => by
    by_cases h : a = c
    · refine .inr ⟨0, ?_, by simp [h], by simp⟩
      simp [Lib.indexByte, h]
    · have hb : (a == c) = false := by simpa using h
      rcases ix_spec l c with ⟨h1, h2⟩ | ⟨k, h1, h2, h3⟩
      · refine .inl ⟨by simp [Lib.indexByte, hb, h1], ?_⟩
        intro j x hj
        cases j with
        | zero => simp at hj; subst hj; exact h
        | succ j => exact h2 j x (by simpa using hj)
      · refine .inr ⟨k + 1, ?_, by simpa using h2, ?_⟩
        · simp only [Lib.indexByte, hb, h1]
          have : ((k : Int) == -1) = false := by rw [beq_eq_false_iff_ne]; omega
          rw [this]
          simp
        · intro j x hj hx
          cases j with
          | zero => simp at hx; subst hx; exact h
          | succ j => exact h3 j x (by omega) (by simpa using hx)

theorem bt_ne (s : ByteArray) (j : Nat) (h : j < s.size) (c : UInt8) (hx : ∀ x, s.data.toList[j]? = some x → x ≠ c) : bt s j ≠ c.toNat := by
  have h2 : j < s.data.toList.length := by rw [← Lib.size_eq]; exact h
  rw [bt_list, List.getElem?_eq_getElem h2]
  simp only []
  intro q
  apply hx _ (List.getElem?_eq_getElem h2)
  apply UInt8.toNat_inj.1
  omega

/-- Where the semicolon stands. -/
theorem ixC_spec (s : ByteArray) : (ixC s = -1 ∧ ∀ j, j < s.size → bt s j ≠ 59) ∨ ∃ k : Nat, ixC s = k ∧ k < s.size ∧ bt s k = 59 ∧ ∀ j, j < k → bt s j ≠ 59 := by
  rcases ix_spec s.data.toList 59 with ⟨h1, h2⟩ | ⟨k, h1, h2, h3⟩
  · exact .inl ⟨h1, fun j hj => bt_ne s j hj 59 (fun x hx => h2 j x hx)⟩
  · have hk : k < s.size := by
      have := (ixC_range s).2
      have e : ixC s = k := h1
      omega
    refine .inr ⟨k, h1, hk, ?_, fun j hj => bt_ne s j (by omega) 59 (fun x hx => h3 j x hj hx)⟩
    rw [bt_list, h2]
    rfl

theorem tail_get (s : ByteArray) (j : Nat) (h : cnt s < s.size) : bt (tailB (trimB s)) j = bt s (cnt s + 1 + j) ∧ (tailB (trimB s)).size = s.size - cnt s - 1 := by
  have hs : (tailB (trimB s)).size = (trimB s).size - 1 := by simp [tailB]
  have h2 := trim_size s
  have h3 : (trimB s).size = s.size - cnt s := by unfold cnt at *; omega
  refine ⟨?_, by omega⟩
  rw [bt_nb, tailB, nb_extract, ← bt_nb, ← trim_get, Nat.add_assoc]

theorem trim_zero (s : ByteArray) : bt s (cnt s) = bt (trimB s) 0 := by
  have := trim_get s 0
  rwa [Nat.add_zero] at this
theorem dims_eq (s : ByteArray) : ((s.size : Int) - (trimB s).size) = (cnt s : Int) := by
  have := trim_size s
  unfold cnt
  omega
theorem bt_end (s : ByteArray) (j : Nat) (h : ¬ j < s.size) : bt s j = 0 := by rw [bt, dif_neg h]
theorem readS_I (s : ByteArray) (h : bt s (cnt s) = 73) : readS s = if rightS ((cnt s : Int), ⟨#[]⟩) = true then some (((cnt s : Int), ⟨#[]⟩), tailB (trimB s)) else none := by
  rw [readS, if_pos ((pre_bt _ 73 (by decide)).2 (by rw [← trim_zero, h]; rfl)), dims_eq]
theorem readS_none (s : ByteArray) (h1 : bt s (cnt s) ≠ 73) (h2 : bt s (cnt s) ≠ 76) : readS s = none := by
  rw [readS, if_neg, if_neg]
  · intro q
    exact h2 (by rw [trim_zero]; exact (pre_bt _ 76 (by decide)).1 q)
  · intro q
    exact h1 (by rw [trim_zero]; exact (pre_bt _ 73 (by decide)).1 q)
theorem readS_L (s : ByteArray) (h : bt s (cnt s) = 76) : readS s =
    if ixC (tailB (trimB s)) < 0 ∨ ((tailB (trimB s)).extract 0 (ixC (tailB (trimB s))).toNat).size = 0 then none
    else if rightS ((cnt s : Int), (tailB (trimB s)).extract 0 (ixC (tailB (trimB s))).toNat) = true then some (((cnt s : Int), (tailB (trimB s)).extract 0 (ixC (tailB (trimB s))).toNat), (tailB (trimB s)).extract ((ixC (tailB (trimB s))).toNat + 1) (tailB (trimB s)).size) else none := by
  have h1 : ¬ Lib.hasPrefix (trimB s).data.toList [73] = true := by
    intro q
    have := (pre_bt _ 73 (by decide)).1 q
    rw [← trim_zero, h] at this
    revert this
    decide
  rw [readS, if_neg h1, if_pos ((pre_bt _ 76 (by decide)).2 (by rw [← trim_zero, h]; rfl)), dims_eq]
theorem readS_deep (s : ByteArray) (h : 4 < cnt s) : readS s = none := by
  have hr : ∀ n, rightS ((cnt s : Int), n) = false := by
    intro n
    have : ¬ (cnt s : Int) ≤ 4 := by omega
    simp [rightS, this]
  by_cases h1 : bt s (cnt s) = 73
  · rw [readS_I s h1, if_neg (by rw [hr]; simp)]
  · by_cases h2 : bt s (cnt s) = 76
    · rw [readS_L s h2]
      split
      · rfl
      · rw [if_neg (by rw [hr]; simp)]
    · exact readS_none s h1 h2

theorem ext_list (a b : ByteArray) (h : a.data.toList = b.data.toList) : a = b := by
  apply ByteArray.ext
  exact Array.ext' h
theorem trim_extract (s : ByteArray) : trimB s = s.extract (cnt s) s.size := by
  apply ext_list
  have h := (trim_split s).1
  rw [Lib.extract_to_end]
  rw [h]
  simp
theorem tail_extract (s : ByteArray) : tailB (trimB s) = s.extract (cnt s + 1) s.size := by
  apply ext_list
  rw [tailB, Lib.extract_to_end, trim_extract, Lib.extract_to_end, Lib.extract_to_end]
  simp [List.drop_drop]
theorem cut_extract (s : ByteArray) (a k : Nat) : (s.extract a s.size).extract 0 k = s.extract a (a + k) := by
  apply ext_list
  rw [Lib.extract_data, Lib.extract_to_end, Lib.extract_data, List.drop_zero, Nat.sub_zero, Nat.add_sub_cancel_left]

theorem drop_extract (s : ByteArray) (a k : Nat) : (s.extract a s.size).extract k (s.extract a s.size).size = s.extract (a + k) s.size := by
  apply ext_list
  rw [Lib.extract_to_end, Lib.extract_to_end, Lib.extract_to_end, List.drop_drop]

/-- A class type's text. -/
theorem readS_class (s : ByteArray) (h : bt s (cnt s) = 76) (hc : cnt s < s.size) (h4 : cnt s ≤ 4) :
    ∃ E, cnt s + 1 ≤ E ∧ E ≤ s.size ∧ (∀ j, cnt s + 1 ≤ j → j < E → bt s j ≠ 59) ∧ (E < s.size → bt s E = 59) ∧
      readS s = if E = s.size ∨ nameS (s.extract (cnt s + 1) E) = false then none else some (((cnt s : Int), s.extract (cnt s + 1) E), s.extract (E + 1) s.size) := by
  have hz := (tail_get s 0 hc).2
  have hr : ∀ n : ByteArray, n.size ≠ 0 → rightS ((cnt s : Int), n) = nameS n := by
    intro n hn
    have q0 : (0 : Int) ≤ (cnt s : Int) := by omega
    have q4 : (cnt s : Int) ≤ 4 := by omega
    simp only [rightS, decide_eq_true q0, decide_eq_true q4, Bool.true_and, decide_eq_false hn, Bool.false_or]
  have hn0 : ∀ n : ByteArray, n.size = 0 → nameS n = false := by
    intro n hn
    have : n = ⟨#[]⟩ := str_empty n hn
    subst this
    decide +kernel
  have hL := readS_L s h
  rcases ixC_spec (tailB (trimB s)) with ⟨h1, h2⟩ | ⟨k, h1, h2, h3, h5⟩
  · refine ⟨s.size, by omega, Nat.le_refl _, ?_, fun q => absurd q (Nat.lt_irrefl _), ?_⟩
    · intro j hj1 hj2
      have := h2 (j - (cnt s + 1)) (by omega)
      rw [(tail_get s _ hc).1] at this
      rwa [show cnt s + 1 + (j - (cnt s + 1)) = j by omega] at this
    · rw [hL, h1, if_pos (.inl (by decide)), if_pos (.inl rfl)]
  · have e1 : (tailB (trimB s)).extract 0 k = s.extract (cnt s + 1) (cnt s + 1 + k) := by rw [tail_extract, cut_extract]
    have e2 : (tailB (trimB s)).extract (k + 1) (tailB (trimB s)).size = s.extract (cnt s + 1 + k + 1) s.size := by rw [tail_extract, drop_extract, show cnt s + 1 + (k + 1) = cnt s + 1 + k + 1 by omega]
    refine ⟨cnt s + 1 + k, by omega, by omega, ?_, ?_, ?_⟩
    · intro j hj1 hj2
      have := h5 (j - (cnt s + 1)) (by omega)
      rw [(tail_get s _ hc).1] at this
      rwa [show cnt s + 1 + (j - (cnt s + 1)) = j by omega] at this
    · intro _
      rw [(tail_get s _ hc).1] at h3
      exact h3
    · rw [hL, h1]
      simp only [Int.toNat_natCast]
      rw [e1, e2]
      by_cases hz0 : (s.extract (cnt s + 1) (cnt s + 1 + k)).size = 0
      · rw [if_pos (.inr hz0), if_pos (.inr (hn0 _ hz0))]
      · rw [if_neg (by omega), hr _ hz0]
        cases nameS (s.extract (cnt s + 1) (cnt s + 1 + k)) with
        | false => rw [if_neg (by simp), if_pos (.inr rfl)]
        | true => rw [if_pos rfl, if_neg (by simp; omega)]
end Go.Proofs.YthpfknlgfkecpaaDoor.Sp
end
section
/-
  Walks of the reference's next and Field.
-/
set_option linter.unusedVariables false
set_option linter.unusedSimpArgs false
namespace Go.Proofs.YthpfknlgfkecpaaDoor
open Go.RowKit Go.Lib

namespace Sp
def refNextS (s : ByteArray) : Ty × Int := match readS s with
  | none => (t0, 0)
  | some q => (q.1, (s.size : Int) - q.2.size)
end Sp

set_option maxHeartbeats 8000000 in
set_option maxRecDepth 100000 in
theorem refNext2_any (s : ByteArray) (w : World) (hs : s.size ≤ 1099511627776) :
    Calls Tryd.prog 50 #[.string s] w fun e w' => e = .returned (.tuple #[Sp.tyV (Sp.refNextS s).1, .int .i64 (Sp.refNextS s).2]) ∧ Below w.heap.size w w' := by
  have hcs := (Sp.trim_split s).2.2
  go_enter Tryd.func50, Tryd.ntmps50
  go_wp2
  go_loopw [9] (fun _ wr => ∃ j : Nat, j ≤ Sp.cnt s ∧ wr = (w.alloc (.cells #[.int .i64 0, .string ⟨#[]⟩] 23)).alloc (.cells #[.int .i64 j, .string ⟨#[]⟩] 23)) (fun _ wr => s.size - (RowKit.intOf ((wr.cell? ⟨w.heap.size + 1, 0, none⟩).getD undef)).toNat)
  case atStart => exact ⟨0, Nat.zero_le _, rfl⟩
  case round =>
    obtain ⟨j, hj, rfl⟩ := hrel
    by_cases hlt : j < Sp.cnt s
    · have hck := idx_str s j (by omega)
      rw [Sp.cnt_bt s j hlt] at hck
      have hz : (j : Int) < (s.size : Int) := by omega
      go_wp2
      go_roundw
      case rel => exact ⟨j + 1, by omega, by simp⟩
      case measure => simp [RowKit.intOf]; omega
    · obtain rfl : j = Sp.cnt s := by omega
      have D1 := Sp.readS_deep s
      have D2 := Sp.readS_I s
      have D3 := Sp.readS_none s
      have D4 := Sp.readS_L s
      have D5 := Sp.trim_head s
      have D6 := Sp.bt_end s
      have D7 := fun j => Sp.tail_get s j
      have Dc := Sp.readS_class s
      generalize hcc : Sp.cnt s = c at *
      by_cases hdeep : 4 < c
      · have hR : Sp.refNextS s = (Sp.t0, 0) := by rw [Sp.refNextS, D1 hdeep]
        have hz4 : (4 : Int) < (c : Int) := by omega
        have hck := fun h => idx_str s c h
        by_cases hend : c < s.size
        · have hk := idx_str s c hend
          have hne : ¬ Sp.bt s c = 91 := D5 hend
          generalize Sp.bt s c = y at *
          clear hck Dc D1 D2 D3 D4 D5 D6 D7
          go_wp2
          (try simp only [Exit.inBlock, Exit.then]); refine bodyPost_ret (results_ct rfl _ _ _ rfl (ty_load _ w.heap.size 0 (x := .int .i64 0) (y := .string ⟨#[]⟩) (by simp) (by simp))) rfl ?_
          exact ⟨by first | rfl | (rw [hR]; rfl), (((Below.refl _ _).alloc (Nat.le_refl _) _).alloc (by simp) _)⟩
        · have hz : ¬ (c : Int) < (s.size : Int) := by omega
          clear hck Dc D1 D2 D3 D4 D5 D6 D7
          go_wp2
          (try simp only [Exit.inBlock, Exit.then]); refine bodyPost_ret (results_ct rfl _ _ _ rfl (ty_load _ w.heap.size 0 (x := .int .i64 0) (y := .string ⟨#[]⟩) (by simp) (by simp))) rfl ?_
          exact ⟨by first | rfl | (rw [hR]; rfl), (((Below.refl _ _).alloc (Nat.le_refl _) _).alloc (by simp) _)⟩
      have hz4 : ¬ (4 : Int) < (c : Int) := by omega
      by_cases hend : c < s.size
      · have hk := idx_str s c hend
        have hne : ¬ Sp.bt s c = 91 := D5 hend
        have hz : (c : Int) < (s.size : Int) := by omega
        have hzc : ((c : Int) == (s.size : Int)) = false := by rw [beq_eq_false_iff_ne]; omega
        by_cases y1 : Sp.bt s c = 73
        · have hts := (D7 0 hend).2
          have q0 : (0 : Int) ≤ (c : Int) := by omega
          have q4 : (c : Int) ≤ 4 := by omega
          have hri : Sp.rightS ((c : Int), ⟨#[]⟩) = true := by
            simp only [Sp.rightS, decide_eq_true q0, decide_eq_true q4, Bool.true_and]
            rfl
          have hR : Sp.refNextS s = (((c : Int), ⟨#[]⟩), (c : Int) + 1) := by
            rw [Sp.refNextS, D2 y1, if_pos hri]
            simp only [Prod.mk.injEq, true_and]
            rw [hts]
            omega
          rw [y1] at hk
          clear Dc D1 D2 D3 D4 D5 D6 D7 y1 hne
          go_wp2
          (try simp only [Exit.inBlock, Exit.then]); refine bodyPost_ret (results_ct rfl _ _ _ rfl (ty_load _ w.heap.size 0 (x := .int .i64 c) (y := .string ⟨#[]⟩) (by simp) (by simp))) rfl ?_
          exact ⟨by first | rfl | (rw [hR]; rfl), (((Below.refl _ _).alloc (Nat.le_refl _) _).alloc (by simp) _)⟩
        by_cases y2 : Sp.bt s c = 76
        · rw [y2] at hk
          obtain ⟨E, g1, g2, g3, g4, g5⟩ := Dc y2 hend (by omega)
          have hnm : (s.extract (c + 1) E).size ≤ 1099511627776 := by simp; omega
          have k1 := Lib.hid (fun W => refName_any (s.extract (c + 1) E) W (by omega))
          rw [Sp.refName_eq] at k1
          have hR := Lib.hid (show Sp.refNextS s = if E = s.size ∨ Sp.nameS (s.extract (c + 1) E) = false then (Sp.t0, 0) else (((c : Int), s.extract (c + 1) E), (E : Int) + 1) by
            rw [Sp.refNextS, g5]
            by_cases q : E = s.size ∨ Sp.nameS (s.extract (c + 1) E) = false
            · rw [if_pos q, if_pos q]
            · rw [if_neg q, if_neg q]
              have hx : (s.extract (E + 1) s.size).size = s.size - (E + 1) := by simp
              simp only [hx]
              have : E < s.size := by omega
              refine Prod.ext rfl ?_
              simp only []
              omega)
          clear Dc D1 D2 D3 D4 D5 D6 D7 g5 hne y2
          generalize hN : s.extract (c + 1) E = nm at *
          generalize Sp.nameS nm = v at *
          go_wp2
          go_loop [6] (fun v6 => ∃ j : Nat, c + 1 ≤ j ∧ j ≤ E ∧ v6 = .int .i64 j) (fun v6 => E - (RowKit.intOf v6).toNat)
          case atStart => exact ⟨c + 1, Nat.le_refl _, g1, by go_num⟩
          case round =>
            obtain ⟨j, hj1, hj2, rfl⟩ := hrel
            by_cases hlt : j < E
            · have hjs : j < s.size := by omega
              have hzj : (j : Int) < (s.size : Int) := by omega
              have hkj := idx_str s j hjs
              have hny := g3 j hj1 hlt
              generalize Sp.bt s j = y at hkj hny
              go_wp2
              go_round
              case rel => exact ⟨j + 1, by omega, by omega, by go_num⟩
              case measure => simp [RowKit.intOf]; omega
            · obtain rfl : j = E := by omega
              clear g3
              have hfin : Hid (∀ W1, Below ((w.alloc (.cells #[.int .i64 0, .string ⟨#[]⟩] 23)).alloc (.cells #[.int .i64 c, .string nm] 23)).heap.size ((w.alloc (.cells #[.int .i64 0, .string ⟨#[]⟩] 23)).alloc (.cells #[.int .i64 c, .string nm] 23)) W1 → Below w.heap.size w W1) := Lib.hid (fun W1 h => below_then (((Below.refl _ _).alloc (Nat.le_refl _) _).alloc (by simp) _) (by simp; omega) h)
              by_cases hE : j = s.size
              · have hR' : Sp.refNextS s = (Sp.t0, 0) := by rw [hR.out, if_pos (.inl hE)]
                have hze : ¬ (j : Int) < (s.size : Int) := by omega
                subst hE
                clear hR
                go_wp2_with fail
                refine (k1.out _).mono ?_
                rintro e w1 ⟨rfl, hb⟩
                obtain ⟨c0, f0⟩ := kept_cell hb ⟨w.heap.size, 0, none⟩ (.int .i64 0) (by simp)
                obtain ⟨c1, f1⟩ := kept_cell hb ⟨w.heap.size, 1, none⟩ (.string ⟨#[]⟩) (by simp)
                have hb' := hfin.out _ hb
                go_wp2
                (try simp only [Exit.inBlock, Exit.then]); refine bodyPost_ret (results_ct rfl _ _ _ rfl (ty_load _ w.heap.size 0 (x := .int .i64 0) (y := .string ⟨#[]⟩) (by (repeat (first | with_reducible assumption | (with_reducible apply World.cell?_setCell_same) | (with_reducible refine cell_alloc _ _ ?_) | (refine (World.cell?_setCell_other _ _ _ _ (by first | (simp; done) | (intro q; simp at q; done) | (intro q; simp at q; omega))).trans ?_)))) (by (repeat (first | with_reducible assumption | (with_reducible apply World.cell?_setCell_same) | (with_reducible refine cell_alloc _ _ ?_) | (refine (World.cell?_setCell_other _ _ _ _ (by first | (simp; done) | (intro q; simp at q; done) | (intro q; simp at q; omega))).trans ?_)))))) rfl ?_
                exact ⟨by first | rfl | (rw [hR']; rfl), (hb'.setCell (p := ⟨w.heap.size, 0, none⟩) (Nat.le_refl _) _).setCell (p := ⟨w.heap.size, 1, none⟩) (Nat.le_refl _) _⟩
              · have hlt2 : j < s.size := by omega
                have hkE := idx_str s j hlt2
                rw [g4 hlt2] at hkE
                have hzl : (j : Int) < (s.size : Int) := by omega
                have hzb : ((j : Int) == (s.size : Int)) = false := by rw [beq_eq_false_iff_ne]; omega
                cases v with
                | false =>
                  have hR' : Sp.refNextS s = (Sp.t0, 0) := by rw [hR.out, if_pos (.inr rfl)]
                  clear hR
                  go_wp2_with fail
                  refine (k1.out _).mono ?_
                  rintro e w1 ⟨rfl, hb⟩
                  obtain ⟨c0, f0⟩ := kept_cell hb ⟨w.heap.size, 0, none⟩ (.int .i64 0) (by simp)
                  obtain ⟨c1, f1⟩ := kept_cell hb ⟨w.heap.size, 1, none⟩ (.string ⟨#[]⟩) (by simp)
                  have hb' := hfin.out _ hb
                  go_wp2
                  (try simp only [Exit.inBlock, Exit.then]); refine bodyPost_ret (results_ct rfl _ _ _ rfl (ty_load _ w.heap.size 0 (x := .int .i64 0) (y := .string ⟨#[]⟩) (by (repeat (first | with_reducible assumption | (with_reducible apply World.cell?_setCell_same) | (with_reducible refine cell_alloc _ _ ?_) | (refine (World.cell?_setCell_other _ _ _ _ (by first | (simp; done) | (intro q; simp at q; done) | (intro q; simp at q; omega))).trans ?_)))) (by (repeat (first | with_reducible assumption | (with_reducible apply World.cell?_setCell_same) | (with_reducible refine cell_alloc _ _ ?_) | (refine (World.cell?_setCell_other _ _ _ _ (by first | (simp; done) | (intro q; simp at q; done) | (intro q; simp at q; omega))).trans ?_)))))) rfl ?_
                  exact ⟨by first | rfl | (rw [hR']; rfl), (hb'.setCell (p := ⟨w.heap.size, 0, none⟩) (Nat.le_refl _) _).setCell (p := ⟨w.heap.size, 1, none⟩) (Nat.le_refl _) _⟩
                | true =>
                  have hR' : Sp.refNextS s = (((c : Int), nm), (j : Int) + 1) := by rw [hR.out, if_neg (by simp; omega)]
                  clear hR
                  go_wp2_with fail
                  refine (k1.out _).mono ?_
                  rintro e w1 ⟨rfl, hb⟩
                  obtain ⟨c0, f0⟩ := kept_cell hb ⟨w.heap.size, 0, none⟩ (.int .i64 0) (by simp)
                  obtain ⟨c1, f1⟩ := kept_cell hb ⟨w.heap.size, 1, none⟩ (.string ⟨#[]⟩) (by simp)
                  obtain ⟨c2, f2⟩ := kept_cell hb ⟨w.heap.size + 1, 0, none⟩ (.int .i64 c) (by simp)
                  obtain ⟨c3, f3⟩ := kept_cell hb ⟨w.heap.size + 1, 1, none⟩ (.string nm) (by simp)
                  have hb' := hfin.out _ hb
                  go_wp2
                  (try simp only [Exit.inBlock, Exit.then]); refine bodyPost_ret (results_ct rfl _ _ _ rfl (ty_load _ w.heap.size 0 (x := .int .i64 c) (y := .string nm) (by (repeat (first | with_reducible assumption | (with_reducible apply World.cell?_setCell_same) | (with_reducible refine cell_alloc _ _ ?_) | (refine (World.cell?_setCell_other _ _ _ _ (by first | (simp; done) | (intro q; simp at q; done) | (intro q; simp at q; omega))).trans ?_)))) (by (repeat (first | with_reducible assumption | (with_reducible apply World.cell?_setCell_same) | (with_reducible refine cell_alloc _ _ ?_) | (refine (World.cell?_setCell_other _ _ _ _ (by first | (simp; done) | (intro q; simp at q; done) | (intro q; simp at q; omega))).trans ?_)))))) rfl ?_
                  exact ⟨by first | rfl | (rw [hR']; rfl), (hb'.setCell (p := ⟨w.heap.size, 0, none⟩) (Nat.le_refl _) _).setCell (p := ⟨w.heap.size, 1, none⟩) (Nat.le_refl _) _⟩
        · have hR : Sp.refNextS s = (Sp.t0, 0) := by rw [Sp.refNextS, D3 y1 y2]
          generalize Sp.bt s c = y at *
          clear Dc D1 D2 D3 D4 D5 D6 D7
          go_wp2
          (try simp only [Exit.inBlock, Exit.then]); refine bodyPost_ret (results_ct rfl _ _ _ rfl (ty_load _ w.heap.size 0 (x := .int .i64 0) (y := .string ⟨#[]⟩) (by simp) (by simp))) rfl ?_
          exact ⟨by first | rfl | (rw [hR]; rfl), (((Below.refl _ _).alloc (Nat.le_refl _) _).alloc (by simp) _)⟩
      · have hR : Sp.refNextS s = (Sp.t0, 0) := by rw [Sp.refNextS, D3 (by rw [D6 c hend]; decide) (by rw [D6 c hend]; decide)]
        have hz : ¬ (c : Int) < (s.size : Int) := by omega
        have hce : c = s.size := by omega
        clear Dc D1 D2 D3 D4 D5 D6 D7
        go_wp2
        (try simp only [Exit.inBlock, Exit.then]); refine bodyPost_ret (results_ct rfl _ _ _ rfl (ty_load _ w.heap.size 0 (x := .int .i64 0) (y := .string ⟨#[]⟩) (by simp) (by simp))) rfl ?_
        exact ⟨by first | rfl | (rw [hR]; rfl), (((Below.refl _ _).alloc (Nat.le_refl _) _).alloc (by simp) _)⟩
end Go.Proofs.YthpfknlgfkecpaaDoor
end
section
/-
  Signatures: plain words; blocks whose cells are known.
-/
set_option linter.unusedVariables false
set_option linter.unusedSimpArgs false
namespace Go.Proofs.YthpfknlgfkecpaaDoor
open Go.RowKit Go.Lib

namespace Sp
/-- A signature: arguments, what it returns, none. -/
abbrev Sig := List Ty × Ty × Bool
def sig0 : Sig := ([], t0, false)
/-- The types up to the closing bracket, and what is left from it on. -/
def argsF : Nat → ByteArray → Option (List Ty × ByteArray)
  | 0, _ => none
  | f + 1, s => if bt s 0 = 41 then some ([], s) else match readS s with
    | none => none
    | some q => (argsF f q.2).map fun r => (q.1 :: r.1, r.2)
def doneS (l : List Ty) (t : Ty) (v : Bool) : Sig × Int := if 16 < l.length then (sig0, 3) else ((l, t, v), 0)
def finS (l : List Ty) (r : ByteArray) : Sig × Int :=
  if r = B [41, 86] then doneS l t0 true else if (fieldS (r.extract 1 r.size)).2 = 0 then doneS l (fieldS (r.extract 1 r.size)).1 false else (sig0, 9)
def endS (o : Option (List Ty × ByteArray)) : Sig × Int := match o with
  | none => (sig0, 9)
  | some q => finS q.1 q.2
def methodS (s : ByteArray) : Sig × Int := if bt s 0 = 40 then endS (argsF s.size (s.extract 1 s.size)) else (sig0, 9)
/-- What is read ahead of what is still to be read. -/
def ahead (acc : List Ty) (o : Option (List Ty × ByteArray)) : Option (List Ty × ByteArray) := o.map fun r => (acc ++ r.1, r.2)
theorem ahead_nil (o : Option (List Ty × ByteArray)) : ahead [] o = o := by cases o <;> simp [ahead]
theorem ahead_cons (acc : List Ty) (t : Ty) (o : Option (List Ty × ByteArray)) : ahead acc (o.map fun r => (t :: r.1, r.2)) = ahead (acc ++ [t]) o := by cases o <;> simp [ahead]
theorem fieldS_err (s : ByteArray) : (fieldS s).2 = 0 ∨ (fieldS s).2 = 9 := by
  unfold fieldS
  split
  · exact .inr rfl
  · split
    · exact .inl rfl
    · exact .inr rfl
def sigV (A : Option Addr) (c : Nat) (m : Sig) : Value := .agg #[.slice A m.1.length c, .int .i64 m.2.1.1, .string m.2.1.2, .bool m.2.2]
def tyCells : List Ty → List Value
  | [] => []
  | t :: l => .int .i64 t.1 :: .string t.2 :: tyCells l
theorem tyCells_length : ∀ l : List Ty, (tyCells l).length = l.length * 2
  | [] => rfl
  | t :: l => by simp only [tyCells, List.length_cons, tyCells_length l]; omega
theorem tyCells_append : ∀ a b : List Ty, tyCells (a ++ b) = tyCells a ++ tyCells b
  | [], _ => rfl
  | t :: a, b => by simp only [List.cons_append, tyCells, tyCells_append a b]
theorem tyCells_get : ∀ (l : List Ty) (j : Nat) (h : j < l.length), (tyCells l)[2 * j]? = some (.int .i64 (l[j]).1) ∧ (tyCells l)[2 * j + 1]? = some (.string (l[j]).2)
  | [], _, h => by simp at h
  | t :: l, 0, _ => by simp [tyCells]
  | t :: l, j + 1, h => by
    have := tyCells_get l j (by simpa using h)
    rw [show 2 * (j + 1) = 2 * j + 1 + 1 by omega]
    simpa [tyCells] using this
end Sp

/-- A slice of types is read. -/
def RdT (w : World) (A : Option Addr) (l : List Sp.Ty) : Prop := l.length ≤ 9223372036854775807 ∧ (0 < l.length → ∃ b o, A = some ⟨b, o, none⟩ ∧ w.rangeAt b o (Sp.tyCells l))

theorem rdT_nil (w : World) (A : Option Addr) : RdT w A [] := ⟨by simp, fun h => by simp at h⟩
theorem rdT_get {w : World} {b o : Nat} {l : List Sp.Ty} (h : w.rangeAt b o (Sp.tyCells l)) {j : Nat} (hj : j < l.length) : w.cell? ⟨b, o + 2 * j, none⟩ = some (.int .i64 (l[j]).1) ∧ w.cell? ⟨b, o + 2 * j + 1, none⟩ = some (.string (l[j]).2) := by
  have := Sp.tyCells_get l j hj
  exact ⟨h _ _ this.1, by have := h _ _ this.2; rwa [← Nat.add_assoc] at this⟩

namespace Sp
/-- What is read is right, and its text is gone. -/
theorem readS_size (s : ByteArray) (q : Ty × ByteArray) (h : readS s = some q) : q.2.size < s.size ∧ q.1.2.size ≤ s.size ∧ rightS q.1 = true := by
  have ht := trim_size s
  unfold readS at h
  by_cases c1 : Lib.hasPrefix (trimB s).data.toList [73] = true
  · rw [if_pos c1] at h
    have hp := pre_size _ _ c1
    split at h
    · rename_i hr
      injection h with h
      subst h
      exact ⟨by show (tailB (trimB s)).size < _; simp [tailB]; omega, by show (⟨#[]⟩ : ByteArray).size ≤ _; exact Nat.zero_le _, hr⟩
    · cases h
  · rw [if_neg c1] at h
    by_cases c2 : Lib.hasPrefix (trimB s).data.toList [76] = true
    · rw [if_pos c2] at h
      have hp := pre_size _ _ c2
      have hz : (tailB (trimB s)).size = (trimB s).size - 1 := by simp [tailB]
      split at h
      · cases h
      · split at h
        · rename_i hr
          injection h with h
          subst h
          refine ⟨?_, ?_, hr⟩
          · simp only [ByteArray.size_extract]
            omega
          · simp only [ByteArray.size_extract]
            omega
        · cases h
    · rw [if_neg c2] at h
      cases h
end Sp

/-! Blocks. -/
theorem blk_cell {w : World} {b : Nat} {C : Array Value} {T : TypeId} (h : w.heap[b]? = some (.cells C T (0, 0))) (j : Nat) (v : Value) (hv : C[j]? = some v) : w.cell? ⟨b, j, none⟩ = some v ∧ w.frozen? ⟨b, j, none⟩ = false :=
  ⟨(Lib.cell_of_heap h j).trans hv, by simp [World.frozen?, h]⟩
theorem blk4 {w : World} {b : Nat} {x y z u : Value} {T : TypeId} (h : w.heap[b]? = some (.cells #[x, y, z, u] T (0, 0))) : (w.cell? ⟨b, 0, none⟩ = some x ∧ w.cell? ⟨b, 1, none⟩ = some y ∧ w.cell? ⟨b, 2, none⟩ = some z ∧ w.cell? ⟨b, 3, none⟩ = some u) ∧ (w.frozen? ⟨b, 0, none⟩ = false ∧ w.frozen? ⟨b, 1, none⟩ = false ∧ w.frozen? ⟨b, 2, none⟩ = false ∧ w.frozen? ⟨b, 3, none⟩ = false) :=
  ⟨⟨(blk_cell h 0 x rfl).1, (blk_cell h 1 y rfl).1, (blk_cell h 2 z rfl).1, (blk_cell h 3 u rfl).1⟩, (blk_cell h 0 x rfl).2, (blk_cell h 1 y rfl).2, (blk_cell h 2 z rfl).2, (blk_cell h 3 u rfl).2⟩
theorem blk2 {w : World} {b : Nat} {x y : Value} {T : TypeId} (h : w.heap[b]? = some (.cells #[x, y] T (0, 0))) : (w.cell? ⟨b, 0, none⟩ = some x ∧ w.cell? ⟨b, 1, none⟩ = some y) ∧ (w.frozen? ⟨b, 0, none⟩ = false ∧ w.frozen? ⟨b, 1, none⟩ = false) :=
  ⟨⟨(blk_cell h 0 x rfl).1, (blk_cell h 1 y rfl).1⟩, (blk_cell h 0 x rfl).2, (blk_cell h 1 y rfl).2⟩
theorem blk1 {w : World} {b : Nat} {x : Value} {T : TypeId} (h : w.heap[b]? = some (.cells #[x] T (0, 0))) : w.cell? ⟨b, 0, none⟩ = some x ∧ w.frozen? ⟨b, 0, none⟩ = false := blk_cell h 0 x rfl
theorem blk_set {w : World} {b i : Nat} {C : Array Value} {T : TypeId} {fr : Nat × Nat} (h : w.heap[b]? = some (.cells C T fr)) (v : Value) : (w.setCell ⟨b, i, none⟩ v).heap[b]? = some (.cells (C.setIfInBounds i v) T fr) := by
  simp [World.setCell, Array.getElem?_modify, h]
theorem blk_new (w : World) (o : Obj) : (w.alloc o).heap[w.heap.size]? = some o := by
  show (w.heap.push o)[w.heap.size]? = _
  simp
theorem blk_lt {w : World} {b : Nat} {o : Obj} (h : w.heap[b]? = some o) : b < w.heap.size := by
  obtain ⟨hlt, _⟩ := Array.getElem?_eq_some_iff.1 h
  exact hlt
theorem blk_old {w : World} {b : Nat} {o p : Obj} (h : w.heap[b]? = some p) : (w.alloc o).heap[b]? = some p := (Below.heap_alloc w o b (blk_lt h)).trans h
theorem blk_other {w : World} {b : Nat} {p : Obj} (h : w.heap[b]? = some p) (a : Addr) (v : Value) (hne : b ≠ a.block) : (w.setCell a v).heap[b]? = some p := (Below.heap_setCell w a v b hne).trans h
theorem blk_drew {w : World} {b : Nat} {p : Obj} (h : w.heap[b]? = some p) : w.drew.heap[b]? = some p := h
theorem blk_grown {w w' : World} {b : Nat} {p : Obj} {row : Option Nat} (h : w.heap[b]? = some p) (hg : w.grownBy w' row) (hne : some b ≠ row) : w'.heap[b]? = some p := (hg.block b (blk_lt h) hne).trans h
theorem blk_below {w w' : World} {b : Nat} {p : Obj} (h : w.heap[b]? = some p) (hg : Below w.heap.size w w') : w'.heap[b]? = some p := (hg.block b (blk_lt h)).trans h
theorem own_rdT {w : World} {base : Nat} {e : TypeId} {A : Option Addr} {n c : Nat} {l : List Sp.Ty} (h : w.ownsRow base e 2 (.slice A n c) n (Sp.tyCells l)) : n = l.length ∧ RdT w A l := by
  have hl : (Sp.tyCells l).length = n * 2 := h.1
  rw [Sp.tyCells_length] at hl
  have hn : n = l.length := by omega
  have hm : n ≤ 9223372036854775807 := by
    rcases h.2 with ⟨_, h0⟩ | ⟨g, cap, cur, hv, h1, h2, h3, h4, h5⟩
    · omega
    · have := h4; unfold maxLen at this; omega
  refine ⟨hn, by omega, fun h0 => ?_⟩
  obtain ⟨g, hA⟩ : ∃ g, A = some ⟨g, 0, none⟩ := by
    rcases h.2 with ⟨_, h1⟩ | ⟨g, cap, cur, hv, _⟩
    · omega
    · exact ⟨g, by injection hv⟩
  subst hA
  refine ⟨g, 0, rfl, fun j v hj => ?_⟩
  have hc := h.cells (g := g) rfl j v hj
  rw [show (⟨g, 0, none⟩ : Addr).add j = ⟨g, 0 + j, none⟩ by unfold Addr.add; split <;> simp_all] at hc
  exact hc
theorem own_sl {w : World} {base n : Nat} {e : TypeId} {size : Nat} {v : Value} {xs : List Value} (h : w.ownsRow base e size v n xs) : ∃ A c, v = .slice A n c := by
  rcases h.2 with ⟨hv, h0⟩ | ⟨g, cap, cur, hv, _⟩
  · exact ⟨none, 0, by rw [hv, h0]⟩
  · exact ⟨_, _, hv⟩
theorem own_len {w : World} {base n : Nat} {e : TypeId} {v : Value} {xs : List Value} (h : w.ownsRow base e 2 v n xs) : n ≤ 9223372036854775807 := by
  rcases h.2 with ⟨_, h0⟩ | ⟨g, cap, cur, hv, h1, h2, h3, h4, h5⟩
  · omega
  · have := h4; unfold maxLen at this; omega
theorem own_below {w w1 : World} {base n size : Nat} {e : TypeId} {v : Value} {xs : List Value} (h : w.ownsRow base e size v n xs) (hb : Below w.heap.size w w1) : w1.ownsRow base e size v n xs := by
  refine ⟨h.1, ?_⟩
  rcases h.2 with h0 | ⟨g, cap, cur, hv, h1, h2, h3, h4, h5⟩
  · exact .inl h0
  · exact .inr ⟨g, cap, cur, hv, h1, blk_below h2 hb, h3, h4, h5⟩
theorem kept_grown {w w1 : World} {row : Option Nat} (hg : w.grownBy w1 row) {a : Addr} {v : Value} (hc : w.cell? a = some v ∧ w.frozen? a = false) (hne : some a.block ≠ row) : w1.cell? a = some v ∧ w1.frozen? a = false := by
  have hlt := World.block_lt_of_cell? w a hc.1
  exact ⟨hg.cell hc.1 hne, (World.frozen?_of_block (hg.block a.block hlt hne)).trans hc.2⟩
theorem own_set {w : World} {base n size : Nat} {e : TypeId} {v : Value} {xs : List Value} (h : w.ownsRow base e size v n xs) {b o : Nat} (hne : ∀ k, v.ownBlock = some k → k ≠ b) (u : Value) : (w.setCell ⟨b, o, none⟩ u).ownsRow base e size v n xs := by
  refine h.kept (row := some b) (grown_set (World.grownBy.refl w (some b)) u) ?_
  cases hk : v.ownBlock with
  | none => exact .inl rfl
  | some k => exact .inr (fun e => hne k hk (by injection e))
theorem own_blk {w : World} {base n : Nat} {e : TypeId} {size : Nat} {v : Value} {xs : List Value} (h : w.ownsRow base e size v n xs) {k : Nat} (hk : v.ownBlock = some k) : base ≤ k := (h.lt k hk).1
theorem rdT_below {w w1 : World} {A : Option Addr} {l : List Sp.Ty} (h : RdT w A l) (hb : Below w.heap.size w w1) : RdT w1 A l := by
  refine ⟨h.1, fun h0 => ?_⟩
  obtain ⟨b, o, hA, hr⟩ := h.2 h0
  exact ⟨b, o, hA, fun j v hj => cell_below hb (hr j v hj)⟩
end Go.Proofs.YthpfknlgfkecpaaDoor
end
