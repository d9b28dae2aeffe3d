/-
  Plain words for chapter 1's code, with no program in sight: a string's runes one by one, as the model's own decoder tells them.
-/
import Derived.Lib.RuneCount
import Derived.Lib.RuneBytes
import Derived.Lib.ValidU
import Derived.RowKit
import Derived.KernelRfl
import Derived.Laws.BitsLemmas
set_option linter.unusedVariables false
namespace Go.Proofs.YtokkpdjbgaicmaaDoor.Sp
open Go.Lib

/-- The runes from place pos on, at most fuel of them. -/
def rl (s : ByteArray) : Nat → Nat → List Int
  | 0, _ => []
  | f + 1, pos => if pos < s.size then ((Utf8.decode s pos).1 : Int) :: rl s f (pos + (Utf8.decode s pos).2) else []

theorem rl_end (s : ByteArray) (f pos : Nat) (h : ¬ pos < s.size) : rl s f pos = [] := by cases f <;> simp [rl, h]

theorem rl_step (s : ByteArray) (f pos : Nat) (h : pos < s.size) (hf : s.size ≤ pos + f) :
    ∃ g, f = g + 1 ∧ s.size ≤ pos + (Utf8.decode s pos).2 + g ∧ rl s f pos = ((Utf8.decode s pos).1 : Int) :: rl s g (pos + (Utf8.decode s pos).2) := by
  obtain ⟨g, rfl⟩ : ∃ g, f = g + 1 := ⟨f - 1, by omega⟩
  have := decode_width_pos s pos h
  exact ⟨g, rfl, by omega, by simp [rl, h]⟩

/-- All runes of a string. -/
def runes (s : ByteArray) : List Int := rl s s.size 0

/-- The rune at a place, and whether there is one. -/
def atL : List Int → Int → Int × Bool
  | [], _ => (0, false)
  | r :: l, i => if i = 0 then (r, true) else atL l (i - 1)

theorem rl_length (s : ByteArray) : ∀ f pos, (rl s f pos).length = runeCountFrom s f pos
  | 0, _ => rfl
  | f + 1, pos => by
    unfold rl runeCountFrom
    split
    · simp [rl_length s f]; omega
    · rfl

theorem runes_length (s : ByteArray) : (runes s).length = runeCount s := rl_length s _ _

theorem rl_range (s : ByteArray) : ∀ f pos, ∀ r ∈ rl s f pos, 0 ≤ r ∧ r ≤ 2147483647
  | 0, _, r, h => by simp [rl] at h
  | f + 1, pos, r, h => by
    unfold rl at h
    split at h
    · rcases List.mem_cons.1 h with rfl | h
      · have := decode_le s pos
        omega
      · exact rl_range s f _ r h
    · simp at h

/-! Bits of a byte -/
theorem byte_cases (p : Int → Prop) (h : ∀ n : Fin 256, p (n.val : Int)) (c : Int) (h0 : 0 ≤ c) (h1 : c ≤ 255) : p c := by
  have := h ⟨c.toNat, by omega⟩
  simpa [Int.toNat_of_nonneg h0] using this
theorem and63 (c : Int) (h0 : 0 ≤ c) (h1 : c ≤ 255) : Go.bits .and .u8 c 63 = c % 64 :=
  byte_cases (fun c => Go.bits .and .u8 c 63 = c % 64) (by decide +kernel) c h0 h1
theorem and192 (c : Int) (h0 : 0 ≤ c) (h1 : c ≤ 255) : (Go.bits .and .u8 c 192 == 128) = decide (128 ≤ c ∧ c < 192) :=
  byte_cases (fun c => (Go.bits .and .u8 c 192 == 128) = decide (128 ≤ c ∧ c < 192)) (by decide +kernel) c h0 h1
theorem and224 (c : Int) (h0 : 0 ≤ c) (h1 : c ≤ 255) : (Go.bits .and .u8 c 224 == 192) = decide (192 ≤ c ∧ c < 224) :=
  byte_cases (fun c => (Go.bits .and .u8 c 224 == 192) = decide (192 ≤ c ∧ c < 224)) (by decide +kernel) c h0 h1
theorem and240 (c : Int) (h0 : 0 ≤ c) (h1 : c ≤ 255) : (Go.bits .and .u8 c 240 == 224) = decide (224 ≤ c ∧ c < 240) :=
  byte_cases (fun c => (Go.bits .and .u8 c 240 == 224) = decide (224 ≤ c ∧ c < 240)) (by decide +kernel) c h0 h1
theorem and31 (c : Int) (h0 : 0 ≤ c) (h1 : c ≤ 255) : Go.bits .and .u8 c 31 = c % 32 :=
  byte_cases (fun c => Go.bits .and .u8 c 31 = c % 32) (by decide +kernel) c h0 h1
theorem and15 (c : Int) (h0 : 0 ≤ c) (h1 : c ≤ 255) : Go.bits .and .u8 c 15 = c % 16 :=
  byte_cases (fun c => Go.bits .and .u8 c 15 = c % 16) (by decide +kernel) c h0 h1

theorem i32_and63 (x : Int) (h0 : 0 ≤ x) (h1 : x < 2147483648) : Go.bits .and .i32 x 63 = x % 64 := Go.bits_mask .i32 31 (by decide) Go.wraps_i32 6 (by decide) x h0 h1
theorem i32_and1023 (x : Int) (h0 : 0 ≤ x) (h1 : x < 2147483648) : Go.bits .and .i32 x 1023 = x % 1024 := Go.bits_mask .i32 31 (by decide) Go.wraps_i32 10 (by decide) x h0 h1
theorem or128 (y : Int) (h0 : 0 ≤ y) (h1 : y < 64) : Go.bits .or .u8 128 y = 128 + y := Go.u8_or128 _ h0 h1
theorem or192 (y : Int) (h0 : 0 ≤ y) (h1 : y < 32) : Go.bits .or .u8 192 y = 192 + y := Go.u8_or192 _ h0 h1

/-- A byte of a string, as a number; 0 behind the end. -/
def bt (s : ByteArray) (i : Nat) : Int := if h : i < s.size then ((s[i]'h).toNat : Int) else 0
theorem bt_range (s : ByteArray) (i : Nat) : 0 ≤ bt s i ∧ bt s i ≤ 255 := by
  unfold bt
  split
  · rename_i h
    have := (s[i]'h).toNat_lt
    omega
  · omega
theorem bt_in (s : ByteArray) (i : Nat) (h : i < s.size) : ((s[i]'h).toNat : Int) = bt s i := by simp [bt, h]

/-! The bytes of a rune in modified UTF-8 -/
def three (r : Int) : List Int := [224 + r / 4096, 128 + r / 64 % 64, 128 + r % 64]
def encZ (r : Int) : List Int :=
  if 0 < r ∧ r < 128 then [r]
  else if r < 2048 then [192 + r / 64, 128 + r % 64]
  else if r < 65536 then three r
  else three (55296 + (r - 65536) / 1024) ++ three (56320 + (r - 65536) % 1024)

theorem encZ_length (r : Int) : 1 ≤ (encZ r).length ∧ (encZ r).length ≤ 6 := by
  unfold encZ three
  repeat' split
  all_goals simp

theorem decode_max (s : ByteArray) (pos : Nat) : (Utf8.decode s pos).1 ≤ 1114111 := by
  have hb : ∀ k, (s.get! (pos + k)).toNat < 256 := fun k => (s.get! (pos + k)).toNat_lt
  have h0 := hb 0; have h1 := hb 1; have h2 := hb 2; have h3 := hb 3
  simp only [Utf8.decode]
  repeat' split
  all_goals simp_all [Utf8.runeError, Utf8.valid]
  all_goals omega

theorem rl_max (s : ByteArray) : ∀ f pos, ∀ r ∈ rl s f pos, 0 ≤ r ∧ r ≤ 1114111
  | 0, _, r, h => by simp [rl] at h
  | f + 1, pos, r, h => by
    unfold rl at h
    split at h
    · rcases List.mem_cons.1 h with rfl | h
      · have := decode_max s pos
        omega
      · exact rl_max s f _ r h
    · simp at h

end Go.Proofs.YtokkpdjbgaicmaaDoor.Sp
