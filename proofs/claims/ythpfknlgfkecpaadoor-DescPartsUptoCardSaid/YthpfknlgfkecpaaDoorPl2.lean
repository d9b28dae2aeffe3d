/-
  Plain: Decode is the reference's Decode; a text's runes and its bytes.
-/
import Derived.Test.YthpfknlgfkecpaaDoorSpR
set_option linter.unusedVariables false
set_option linter.unusedSimpArgs false
namespace Go.Proofs.YthpfknlgfkecpaaDoor.Sp
open Go.Lib

/-! ### Scalars -/
theorem scal_iff (r : Int) : Scal r ↔ (0 ≤ r ∧ r < 55296) ∨ (57344 ≤ r ∧ r ≤ 1114111) := Iff.rfl
theorem validRune_scal (r : Int) : Lib.validRune r = decide (Scal r) := by
  unfold Lib.validRune Scal
  congr 1

/-! ### unit and the reference's unit -/
/-- Three bytes. -/
theorem unit3 (s : ByteArray) : (refUnit s = -1 ∧ ((unitS s).2 ≠ 3)) ∨ (0 ≤ refUnit s ∧ unitS s = (refUnit s, 3)) := by
  have h0 := bt_range s 0; have h1 := bt_range s 1; have h2 := bt_range s 2
  unfold refUnit unitS unitF tx tl
  by_cases hs : s.size < 3
  · rw [if_pos (.inl hs)]
    refine .inl ⟨rfl, ?_⟩
    repeat' split
    all_goals simp only []
    all_goals simp_all
    all_goals omega
  have l1 : 1 < s.size := by omega
  have l2 : 2 < s.size := by omega
  simp only [if_pos l1, if_pos l2, decide_eq_true l1, decide_eq_true l2, Bool.true_and, decide_eq_true_eq]
  generalize bt s 0 = a at *
  generalize bt s 1 = b at *
  generalize bt s 2 = c at *
  by_cases g : 224 ≤ a ∧ a < 240 ∧ 128 ≤ b ∧ b < 192 ∧ 128 ≤ c ∧ c < 192
  · obtain ⟨g1, g2, g3, g4, g5, g6⟩ := g
    rw [if_neg (by omega), if_neg (show ¬ (0 < a ∧ a < 128) by omega), if_neg (show ¬ ((192 ≤ a ∧ a < 224) ∧ 128 ≤ b ∧ b < 192) by omega), if_pos (show (224 ≤ a ∧ a < 240) ∧ (128 ≤ b ∧ b < 192) ∧ 128 ≤ c ∧ c < 192 by omega)]
    by_cases q : (a - 224) * 4096 + (b - 128) * 64 + c - 128 < 2048
    · rw [if_pos q, if_neg (show ¬ 2048 ≤ a % 16 * 4096 + b % 64 * 64 + c % 64 by omega)]
      exact .inl ⟨rfl, by decide⟩
    · rw [if_neg q, if_pos (show 2048 ≤ a % 16 * 4096 + b % 64 * 64 + c % 64 by omega)]
      refine .inr ⟨by omega, ?_⟩
      refine Prod.ext ?_ rfl
      simp only []
      omega
  · rw [if_pos (by omega)]
    refine .inl ⟨rfl, ?_⟩
    rw [if_neg (show ¬ ((224 ≤ a ∧ a < 240) ∧ (128 ≤ b ∧ b < 192) ∧ 128 ≤ c ∧ c < 192) by omega)]
    repeat' split
    all_goals simp

theorem three_or (p q : Prop) [Decidable p] [Decidable q] (X : Int) (h : (if p then if q then (X, 3) else (0, 0) else ((0, 0) : Int × Int)).2 ≠ 3) : (if p then if q then (X, 3) else (0, 0) else ((0, 0) : Int × Int)) = (0, 0) := by
  by_cases c : p
  · rw [if_pos c] at h ⊢
    by_cases d : q
    · rw [if_pos d] at h; exact absurd rfl h
    · rw [if_neg d]
  · rw [if_neg c]

/-- One or two bytes. -/
theorem unit12 (s : ByteArray) (h : (unitS s).2 ≠ 3) :
    unitS s =
      if 0 < bt s 0 ∧ bt s 0 < 128 then (bt s 0, 1)
      else if 192 ≤ bt s 0 ∧ bt s 0 < 224 ∧ 1 < s.size ∧ 128 ≤ bt s 1 ∧ bt s 1 < 192 ∧ ¬ (1 ≤ (bt s 0 - 192) * 64 + bt s 1 - 128 ∧ (bt s 0 - 192) * 64 + bt s 1 - 128 < 128) then ((bt s 0 - 192) * 64 + bt s 1 - 128, 2)
      else (0, 0) := by
  have h0 := bt_range s 0; have h1 := bt_range s 1; have h2 := bt_range s 2
  revert h
  unfold unitS unitF tx tl
  simp only [Bool.and_eq_true, decide_eq_true_eq]
  by_cases c1 : 0 < bt s 0 ∧ bt s 0 < 128
  · rw [if_pos c1, if_pos c1]; intro _; rfl
  rw [if_neg c1, if_neg c1]
  by_cases c2 : (192 ≤ bt s 0 ∧ bt s 0 < 224) ∧ 1 < s.size ∧ 128 ≤ bt s 1 ∧ bt s 1 < 192
  · rw [if_pos c2, if_pos c2.2.1]
    have e : bt s 0 % 32 * 64 + bt s 1 % 64 = (bt s 0 - 192) * 64 + bt s 1 - 128 := by omega
    rw [e]
    by_cases q : (bt s 0 - 192) * 64 + bt s 1 - 128 = 0 ∨ 128 ≤ (bt s 0 - 192) * 64 + bt s 1 - 128
    · rw [if_pos q, if_pos (by omega)]; intro _; rfl
    · rw [if_neg q, if_neg (by omega)]; intro _; rfl
  · rw [if_neg c2, if_neg (show ¬ (192 ≤ bt s 0 ∧ bt s 0 < 224 ∧ 1 < s.size ∧ 128 ≤ bt s 1 ∧ bt s 1 < 192 ∧ ¬ (1 ≤ (bt s 0 - 192) * 64 + bt s 1 - 128 ∧ (bt s 0 - 192) * 64 + bt s 1 - 128 < 128)) by omega)]
    exact three_or _ _ _

/-- Decode's step: which rune stands in front, in how many bytes; none: ErrForm. -/
def decStep (b : ByteArray) : Option (Int × Nat) :=
  if (unitS b).2 = 0 ∨ (56320 ≤ (unitS b).1 ∧ (unitS b).1 < 57344) then none
  else if 55296 ≤ (unitS b).1 ∧ (unitS b).1 < 56320 then
    if b.size < 6 then none
    else if (unitS (b.extract 3 b.size)).2 = 0 ∨ (unitS (b.extract 3 b.size)).1 < 56320 ∨ 57344 ≤ (unitS (b.extract 3 b.size)).1 then none
    else some (65536 + ((unitS b).1 - 55296) * 1024 + ((unitS (b.extract 3 b.size)).1 - 56320), 6)
  else some ((unitS b).1, (unitS b).2.toNat)

theorem decG_step (f : Nat) (b : ByteArray) (acc : List UInt8) (h : b.size ≠ 0) : decG (f + 1) b acc = match decStep b with | none => none | some q => decG f (b.extract q.2 b.size) (acc ++ encodeRune q.1) := by
  rw [decG, if_neg h]
  unfold decStep
  by_cases c1 : (unitS b).2 = 0 ∨ (56320 ≤ (unitS b).1 ∧ (unitS b).1 < 57344)
  · rw [if_pos c1, if_pos c1]
  rw [if_neg c1, if_neg c1]
  by_cases c2 : 55296 ≤ (unitS b).1 ∧ (unitS b).1 < 56320
  · rw [if_pos c2, if_pos c2]
    by_cases c3 : b.size < 6
    · rw [if_pos c3, if_pos c3]
    rw [if_neg c3, if_neg c3]
    by_cases c4 : (unitS (b.extract 3 b.size)).2 = 0 ∨ (unitS (b.extract 3 b.size)).1 < 56320 ∨ 57344 ≤ (unitS (b.extract 3 b.size)).1
    · rw [if_pos c4, if_pos c4]
    · rw [if_neg c4, if_neg c4]
  · rw [if_neg c2, if_neg c2]

theorem unit_low (s : ByteArray) (h : 2048 ≤ (unitS s).1) : unitS s = (refUnit s, 3) ∧ 0 ≤ refUnit s := by
  rcases unit3 s with ⟨h1, h2⟩ | ⟨h1, h2⟩
  · exfalso
    rw [unit12 s h2] at h
    have h0 := bt_range s 0; have h1 := bt_range s 1
    split at h
    · simp only at h; omega
    · split at h
      · simp only at h; omega
      · simp at h
  · exact ⟨h2, h1⟩

/-- The two steps are one. -/
theorem step_eq (b : ByteArray) (h : 0 < b.size) : decStep b = if (refStep b).1 < 0 then none else some (refStep b) := by
  have h0 := bt_range b 0; have h1 := bt_range b 1
  have hx : (b.extract 3 b.size).size = b.size - 3 := by simp
  have hur := refUnit_range b
  rcases unit3 b with ⟨hu, hn⟩ | ⟨hu, hn⟩
  · -- one or two bytes, or none
    have hU := unit12 b hn
    unfold decStep refStep
    rw [hu, if_neg (show ¬ (55296 ≤ (-1 : Int) ∧ (-1 : Int) < 56320) by omega), if_neg (show ¬ (0 ≤ (-1 : Int) ∧ ((-1 : Int) < 56320 ∨ 57344 ≤ (-1 : Int))) by omega)]
    by_cases c1 : 0 < bt b 0 ∧ bt b 0 < 128
    · rw [if_pos c1] at hU
      rw [hU]
      simp only []
      rw [if_pos (show 1 ≤ bt b 0 ∧ bt b 0 < 128 by omega), if_neg (show ¬ ((1 : Int) = 0 ∨ (56320 ≤ bt b 0 ∧ bt b 0 < 57344)) by omega), if_neg (show ¬ (55296 ≤ bt b 0 ∧ bt b 0 < 56320) by omega), if_neg (show ¬ ((bt b 0, 1) : Int × Nat).1 < 0 by simp only []; omega)]
      rfl
    rw [if_neg c1] at hU
    rw [if_neg (show ¬ (1 ≤ bt b 0 ∧ bt b 0 < 128) by omega)]
    by_cases c2 : 192 ≤ bt b 0 ∧ bt b 0 < 224
    · rw [if_pos c2]
      by_cases c3 : 1 < b.size ∧ 128 ≤ bt b 1 ∧ bt b 1 < 192
      · rw [if_pos c3]
        by_cases c4 : 1 ≤ (bt b 0 - 192) * 64 + bt b 1 - 128 ∧ (bt b 0 - 192) * 64 + bt b 1 - 128 < 128
        · rw [if_neg (fun q => q.2.2.2.2.2 c4)] at hU
          rw [hU, if_pos c4, if_pos (.inl rfl), if_pos (by decide)]
        · rw [if_pos ⟨c2.1, c2.2, c3.1, c3.2.1, c3.2.2, c4⟩] at hU
          rw [hU, if_neg c4]
          simp only []
          have hv : 0 ≤ (bt b 0 - 192) * 64 + bt b 1 - 128 ∧ (bt b 0 - 192) * 64 + bt b 1 - 128 < 2048 := by omega
          generalize (bt b 0 - 192) * 64 + bt b 1 - 128 = v at *
          rw [if_neg (show ¬ ((2 : Int) = 0 ∨ (56320 ≤ v ∧ v < 57344)) by omega), if_neg (show ¬ (55296 ≤ v ∧ v < 56320) by omega), if_neg (show ¬ ((v, 2) : Int × Nat).1 < 0 by simp only []; omega)]
          rfl
      · rw [if_neg (fun q => c3 ⟨q.2.2.1, q.2.2.2.1, q.2.2.2.2.1⟩)] at hU
        rw [hU, if_neg c3, if_pos (.inl rfl), if_pos (by decide)]
    · rw [if_neg (fun q => c2 ⟨q.1, q.2.1⟩)] at hU
      rw [hU, if_neg c2, if_pos (.inl rfl), if_pos (by decide)]
  · -- three bytes
    have hc := hur.2.2 hu
    unfold decStep refStep
    rw [hn]
    simp only []
    rw [if_neg (show ¬ (1 ≤ bt b 0 ∧ bt b 0 < 128) by omega)]
    have hc2 : 224 ≤ bt b 0 := hc.2
    rw [if_neg (show ¬ (192 ≤ bt b 0 ∧ bt b 0 < 224) by omega)]
    by_cases c1 : 55296 ≤ refUnit b ∧ refUnit b < 56320
    · rw [if_neg (by omega), if_pos c1, if_pos c1]
      have hvr := refUnit_range (b.extract 3 b.size)
      by_cases hs : b.size < 6
      · rw [if_pos hs]
        have : ¬ (56320 ≤ refUnit (b.extract 3 b.size) ∧ refUnit (b.extract 3 b.size) < 57344) := by
          intro hv
          have := (hvr.2.2 (by omega)).1
          omega
        rw [if_neg this, if_pos (by simp)]
      · rw [if_neg hs]
        by_cases hv : 56320 ≤ refUnit (b.extract 3 b.size) ∧ refUnit (b.extract 3 b.size) < 57344
        · rcases unit3 (b.extract 3 b.size) with ⟨q1, _⟩ | ⟨q1, q2⟩
          · omega
          · rw [q2]
            simp only []
            generalize refUnit (b.extract 3 b.size) = v at *
            rw [if_neg (show ¬ ((3 : Int) = 0 ∨ v < 56320 ∨ 57344 ≤ v) by omega), if_pos hv, if_neg (show ¬ ((65536 + (refUnit b - 55296) * 1024 + v - 56320, 6) : Int × Nat).1 < 0 by simp only; omega)]
            simp only [Option.some.injEq, Prod.mk.injEq, and_true]
            omega
        · rw [if_neg hv, if_pos (show ((-1, 1) : Int × Nat).1 < 0 by decide)]
          refine if_pos ?_
          by_cases g : 2048 ≤ (unitS (b.extract 3 b.size)).1
          · have := (unit_low _ g).1
            rw [this]
            simp only []
            omega
          · exact .inr (.inl (by omega))
    · rw [if_neg c1]
      by_cases c2 : 0 ≤ refUnit b ∧ (refUnit b < 56320 ∨ 57344 ≤ refUnit b)
      · rw [if_neg (show ¬ ((3 : Int) = 0 ∨ (56320 ≤ refUnit b ∧ refUnit b < 57344)) by omega), if_neg c1, if_pos c2, if_neg (show ¬ ((refUnit b, 3) : Int × Nat).1 < 0 by simp only; omega)]
        rfl
      · rw [if_pos (by omega), if_neg c1, if_neg c2, if_pos (show ((-1, 1) : Int × Nat).1 < 0 by decide)]

/-- UTF-8, as bytes. -/
def utfB (l : List Int) : List UInt8 := l.flatMap encodeRune

theorem decG_ref : ∀ f (b : ByteArray) (l : List Int), decG f b (utfB l) = (refDecG f b l).map utfB
  | 0, _, _ => rfl
  | f + 1, b, l => by
    by_cases h0 : b.size = 0
    · rw [decG, if_pos h0, refDecG, if_pos h0]; rfl
    rw [decG_step f b _ h0, step_eq b (by omega), refDecG, if_neg h0]
    by_cases hr : (refStep b).1 < 0
    · rw [if_pos hr, if_pos hr]; rfl
    · rw [if_neg hr, if_neg hr]
      simp only []
      have := decG_ref f (b.extract (refStep b).2 b.size) (l ++ [(refStep b).1])
      rw [← this]
      congr 1
      simp [utfB]
end Go.Proofs.YthpfknlgfkecpaaDoor.Sp
