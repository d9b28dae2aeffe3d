/-
  Texts of the proof, joined: each says at its head what it proves.
-/
import Derived.Test.YtfjplmbknegidaaGreatDoorJk20
import Derived.Laws.Cover4
import Derived.Test.YtfjplmbknegidaaGreatDoorJk12
import Derived.Lib.AppendStr
import Derived.Test.YtfjplmbknegidaaGreatDoorJk18
section
/-
  Plain: Decode is the reference's Decode; a text's runes and its bytes.
-/
set_option linter.unusedVariables false
set_option linter.unusedSimpArgs false
namespace Go.Proofs.YtfjplmbknegidaaGreatDoor.Sp
open Go.Lib

/-! ### Scalars -/
theorem scal_iff (r : Int) : Scal r ↔ (0 ≤ r ∧ r < 55296) ∨ (57344 ≤ r ∧ r ≤ 1114111) := Iff.rfl
theorem validRune_scal (r : Int) : Lib.validRune r = decide (Scal r) := by
  unfold Lib.validRune Scal
  congr 1

/-! ### unit and the reference's unit -/
/-- Three bytes. -/
theorem unit3 (s : ByteArray) : (refUnit s = -1 ∧ ((unitS s).2 ≠ 3)) ∨ (0 ≤ refUnit s ∧ unitS s = (refUnit s, 3)) := by
  have h0 := bt_range s 0; have h1 := bt_range s 1; have h2 := bt_range s 2
  unfold refUnit unitS unitF tx tl
  by_cases hs : s.size < 3
  · rw [if_pos (.inl hs)]
    refine .inl ⟨rfl, ?_⟩
    repeat' split
    all_goals simp only []
    all_goals simp_all
    all_goals omega
  have l1 : 1 < s.size := by omega
  have l2 : 2 < s.size := by omega
  simp only [if_pos l1, if_pos l2, decide_eq_true l1, decide_eq_true l2, Bool.true_and, decide_eq_true_eq]
  generalize bt s 0 = a at *
  generalize bt s 1 = b at *
  generalize bt s 2 = c at *
  by_cases g : 224 ≤ a ∧ a < 240 ∧ 128 ≤ b ∧ b < 192 ∧ 128 ≤ c ∧ c < 192
  · obtain ⟨g1, g2, g3, g4, g5, g6⟩ := g
    rw [if_neg (by omega), if_neg (show ¬ (0 < a ∧ a < 128) by omega), if_neg (show ¬ ((192 ≤ a ∧ a < 224) ∧ 128 ≤ b ∧ b < 192) by omega), if_pos (show (224 ≤ a ∧ a < 240) ∧ (128 ≤ b ∧ b < 192) ∧ 128 ≤ c ∧ c < 192 by omega)]
    by_cases q : (a - 224) * 4096 + (b - 128) * 64 + c - 128 < 2048
    · rw [if_pos q, if_neg (show ¬ 2048 ≤ a % 16 * 4096 + b % 64 * 64 + c % 64 by omega)]
      exact .inl ⟨rfl, by decide⟩
    · rw [if_neg q, if_pos (show 2048 ≤ a % 16 * 4096 + b % 64 * 64 + c % 64 by omega)]
      refine .inr ⟨by omega, ?_⟩
      refine Prod.ext ?_ rfl
      simp only []
      omega
  · rw [if_pos (by omega)]
    refine .inl ⟨rfl, ?_⟩
    rw [if_neg (show ¬ ((224 ≤ a ∧ a < 240) ∧ (128 ≤ b ∧ b < 192) ∧ 128 ≤ c ∧ c < 192) by omega)]
    repeat' split
    all_goals simp

theorem three_or (p q : Prop) [Decidable p] [Decidable q] (X : Int) (h : (if p then if q then (X, 3) else (0, 0) else ((0, 0) : Int × Int)).2 ≠ 3) : (if p then if q then (X, 3) else (0, 0) else ((0, 0) : Int × Int)) = (0, 0) := by
  by_cases c : p
  · rw [if_pos c] at h ⊢
    by_cases d : q
    · rw [if_pos d] at h; exact absurd rfl h
    · rw [if_neg d]
  · rw [if_neg c]

/-- One or two bytes. -/
theorem unit12 (s : ByteArray) (h : (unitS s).2 ≠ 3) :
    unitS s =
      if 0 < bt s 0 ∧ bt s 0 < 128 then (bt s 0, 1)
      else if 192 ≤ bt s 0 ∧ bt s 0 < 224 ∧ 1 < s.size ∧ 128 ≤ bt s 1 ∧ bt s 1 < 192 ∧ ¬ (1 ≤ (bt s 0 - 192) * 64 + bt s 1 - 128 ∧ (bt s 0 - 192) * 64 + bt s 1 - 128 < 128) then ((bt s 0 - 192) * 64 + bt s 1 - 128, 2)
      else (0, 0) := by
  have h0 := bt_range s 0; have h1 := bt_range s 1; have h2 := bt_range s 2
  revert h
  unfold unitS unitF tx tl
  simp only [Bool.and_eq_true, decide_eq_true_eq]
  by_cases c1 : 0 < bt s 0 ∧ bt s 0 < 128
  · rw [if_pos c1, if_pos c1]; intro _; rfl
  rw [if_neg c1, if_neg c1]
  by_cases c2 : (192 ≤ bt s 0 ∧ bt s 0 < 224) ∧ 1 < s.size ∧ 128 ≤ bt s 1 ∧ bt s 1 < 192
  · rw [if_pos c2, if_pos c2.2.1]
    have e : bt s 0 % 32 * 64 + bt s 1 % 64 = (bt s 0 - 192) * 64 + bt s 1 - 128 := by omega
    rw [e]
    by_cases q : (bt s 0 - 192) * 64 + bt s 1 - 128 = 0 ∨ 128 ≤ (bt s 0 - 192) * 64 + bt s 1 - 128
    · rw [if_pos q, if_pos (by omega)]; intro _; rfl
    · rw [if_neg q, if_neg (by omega)]; intro _; rfl
  · rw [if_neg c2, if_neg (show ¬ (192 ≤ bt s 0 ∧ bt s 0 < 224 ∧ 1 < s.size ∧ 128 ≤ bt s 1 ∧ bt s 1 < 192 ∧ ¬ (1 ≤ (bt s 0 - 192) * 64 + bt s 1 - 128 ∧ (bt s 0 - 192) * 64 + bt s 1 - 128 < 128)) by omega)]
    exact three_or _ _ _

/-- Decode's step: which rune stands in front, in how many bytes; none: ErrForm. -/
def decStep (b : ByteArray) : Option (Int × Nat) :=
  if (unitS b).2 = 0 ∨ (56320 ≤ (unitS b).1 ∧ (unitS b).1 < 57344) then none
  else if 55296 ≤ (unitS b).1 ∧ (unitS b).1 < 56320 then
    if b.size < 6 then none
    else if (unitS (b.extract 3 b.size)).2 = 0 ∨ (unitS (b.extract 3 b.size)).1 < 56320 ∨ 57344 ≤ (unitS (b.extract 3 b.size)).1 then none
    else some (65536 + ((unitS b).1 - 55296) * 1024 + ((unitS (b.extract 3 b.size)).1 - 56320), 6)
  else some ((unitS b).1, (unitS b).2.toNat)

theorem decG_step (f : Nat) (b : ByteArray) (acc : List UInt8) (h : b.size ≠ 0) : decG (f + 1) b acc = match decStep b with | none => none | some q => decG f (b.extract q.2 b.size) (acc ++ encodeRune q.1) := by
  rw [decG, if_neg h]
  unfold decStep
  by_cases c1 : (unitS b).2 = 0 ∨ (56320 ≤ (unitS b).1 ∧ (unitS b).1 < 57344)
  · rw [if_pos c1, if_pos c1]
  rw [if_neg c1, if_neg c1]
  by_cases c2 : 55296 ≤ (unitS b).1 ∧ (unitS b).1 < 56320
  · rw [if_pos c2, if_pos c2]
    by_cases c3 : b.size < 6
    · rw [if_pos c3, if_pos c3]
    rw [if_neg c3, if_neg c3]
    by_cases c4 : (unitS (b.extract 3 b.size)).2 = 0 ∨ (unitS (b.extract 3 b.size)).1 < 56320 ∨ 57344 ≤ (unitS (b.extract 3 b.size)).1
    · rw [if_pos c4, if_pos c4]
    · rw [if_neg c4, if_neg c4]
  · rw [if_neg c2, if_neg c2]

theorem unit_low (s : ByteArray) (h : 2048 ≤ (unitS s).1) : unitS s = (refUnit s, 3) ∧ 0 ≤ refUnit s := by
  rcases unit3 s with ⟨h1, h2⟩ | ⟨h1, h2⟩
  · exfalso
    rw [unit12 s h2] at h
    have h0 := bt_range s 0; have h1 := bt_range s 1
    split at h
    · simp only at h; omega
    · split at h
      · simp only at h; omega
      · simp at h
  · exact ⟨h2, h1⟩

/-- The two steps are one. -/
theorem step_eq (b : ByteArray) (h : 0 < b.size) : decStep b = if (refStep b).1 < 0 then none else some (refStep b) := by
  have h0 := bt_range b 0; have h1 := bt_range b 1
  have hx : (b.extract 3 b.size).size = b.size - 3 := by simp
  have hur := refUnit_range b
  rcases unit3 b with ⟨hu, hn⟩ | ⟨hu, hn⟩
  · -- one or two bytes, or none
    have hU := unit12 b hn
    unfold decStep refStep
    rw [hu, if_neg (show ¬ (55296 ≤ (-1 : Int) ∧ (-1 : Int) < 56320) by omega), if_neg (show ¬ (0 ≤ (-1 : Int) ∧ ((-1 : Int) < 56320 ∨ 57344 ≤ (-1 : Int))) by omega)]
    by_cases c1 : 0 < bt b 0 ∧ bt b 0 < 128
    · rw [if_pos c1] at hU
      rw [hU]
      simp only []
      rw [if_pos (show 1 ≤ bt b 0 ∧ bt b 0 < 128 by omega), if_neg (show ¬ ((1 : Int) = 0 ∨ (56320 ≤ bt b 0 ∧ bt b 0 < 57344)) by omega), if_neg (show ¬ (55296 ≤ bt b 0 ∧ bt b 0 < 56320) by omega), if_neg (show ¬ ((bt b 0, 1) : Int × Nat).1 < 0 by simp only []; omega)]
      rfl
    rw [if_neg c1] at hU
    rw [if_neg (show ¬ (1 ≤ bt b 0 ∧ bt b 0 < 128) by omega)]
    by_cases c2 : 192 ≤ bt b 0 ∧ bt b 0 < 224
    · rw [if_pos c2]
      by_cases c3 : 1 < b.size ∧ 128 ≤ bt b 1 ∧ bt b 1 < 192
      · rw [if_pos c3]
        by_cases c4 : 1 ≤ (bt b 0 - 192) * 64 + bt b 1 - 128 ∧ (bt b 0 - 192) * 64 + bt b 1 - 128 < 128
        · rw [if_neg (fun q => q.2.2.2.2.2 c4)] at hU
          rw [hU, if_pos c4, if_pos (.inl rfl), if_pos (by decide)]
        · rw [if_pos ⟨c2.1, c2.2, c3.1, c3.2.1, c3.2.2, c4⟩] at hU
          rw [hU, if_neg c4]
          simp only []
          have hv : 0 ≤ (bt b 0 - 192) * 64 + bt b 1 - 128 ∧ (bt b 0 - 192) * 64 + bt b 1 - 128 < 2048 := by omega
          generalize (bt b 0 - 192) * 64 + bt b 1 - 128 = v at *
          rw [if_neg (show ¬ ((2 : Int) = 0 ∨ (56320 ≤ v ∧ v < 57344)) by omega), if_neg (show ¬ (55296 ≤ v ∧ v < 56320) by omega), if_neg (show ¬ ((v, 2) : Int × Nat).1 < 0 by simp only []; omega)]
          rfl
      · rw [if_neg (fun q => c3 ⟨q.2.2.1, q.2.2.2.1, q.2.2.2.2.1⟩)] at hU
        rw [hU, if_neg c3, if_pos (.inl rfl), if_pos (by decide)]
    · rw [if_neg (fun q => c2 ⟨q.1, q.2.1⟩)] at hU
      rw [hU, if_neg c2, if_pos (.inl rfl), if_pos (by decide)]
  · -- three bytes
    have hc := hur.2.2 hu
    unfold decStep refStep
    rw [hn]
    simp only []
    rw [if_neg (show ¬ (1 ≤ bt b 0 ∧ bt b 0 < 128) by omega)]
    have hc2 : 224 ≤ bt b 0 := hc.2
    rw [if_neg (show ¬ (192 ≤ bt b 0 ∧ bt b 0 < 224) by omega)]
    by_cases c1 : 55296 ≤ refUnit b ∧ refUnit b < 56320
    · rw [if_neg (by omega), if_pos c1, if_pos c1]
      have hvr := refUnit_range (b.extract 3 b.size)
      by_cases hs : b.size < 6
      · rw [if_pos hs]
        have : ¬ (56320 ≤ refUnit (b.extract 3 b.size) ∧ refUnit (b.extract 3 b.size) < 57344) := by
          intro hv
          have := (hvr.2.2 (by omega)).1
          omega
        rw [if_neg this, if_pos (by simp)]
      · rw [if_neg hs]
        by_cases hv : 56320 ≤ refUnit (b.extract 3 b.size) ∧ refUnit (b.extract 3 b.size) < 57344
        · rcases unit3 (b.extract 3 b.size) with ⟨q1, _⟩ | ⟨q1, q2⟩
          · omega
          · rw [q2]
            simp only []
            generalize refUnit (b.extract 3 b.size) = v at *
            rw [if_neg (show ¬ ((3 : Int) = 0 ∨ v < 56320 ∨ 57344 ≤ v) by omega), if_pos hv, if_neg (show ¬ ((65536 + (refUnit b - 55296) * 1024 + v - 56320, 6) : Int × Nat).1 < 0 by simp only; omega)]
            simp only [Option.some.injEq, Prod.mk.injEq, and_true]
            omega
        · rw [if_neg hv, if_pos (show ((-1, 1) : Int × Nat).1 < 0 by decide)]
          refine if_pos ?_
          by_cases g : 2048 ≤ (unitS (b.extract 3 b.size)).1
          · have := (unit_low _ g).1
            rw [this]
            simp only []
            omega
          · exact .inr (.inl (by omega))
    · rw [if_neg c1]
      by_cases c2 : 0 ≤ refUnit b ∧ (refUnit b < 56320 ∨ 57344 ≤ refUnit b)
      · rw [if_neg (show ¬ ((3 : Int) = 0 ∨ (56320 ≤ refUnit b ∧ refUnit b < 57344)) by omega), if_neg c1, if_pos c2, if_neg (show ¬ ((refUnit b, 3) : Int × Nat).1 < 0 by simp only; omega)]
        rfl
      · rw [if_pos (by omega), if_neg c1, if_neg c2, if_pos (show ((-1, 1) : Int × Nat).1 < 0 by decide)]

/-- UTF-8, as bytes. -/
def utfB (l : List Int) : List UInt8 := l.flatMap encodeRune

theorem decG_ref : ∀ f (b : ByteArray) (l : List Int), decG f b (utfB l) = (refDecG f b l).map utfB
  | 0, _, _ => rfl
  | f + 1, b, l => by
    by_cases h0 : b.size = 0
    · rw [decG, if_pos h0, refDecG, if_pos h0]; rfl
    rw [decG_step f b _ h0, step_eq b (by omega), refDecG, if_neg h0]
    by_cases hr : (refStep b).1 < 0
    · rw [if_pos hr, if_pos hr]; rfl
    · rw [if_neg hr, if_neg hr]
      simp only []
      have := decG_ref f (b.extract (refStep b).2 b.size) (l ++ [(refStep b).1])
      rw [← this]
      congr 1
      simp [utfB]
end Go.Proofs.YtfjplmbknegidaaGreatDoor.Sp
end
section
/-
  Plain: Decode tells what the reference's Decode tells.
-/
set_option linter.unusedVariables false
set_option linter.unusedSimpArgs false
namespace Go.Proofs.YtfjplmbknegidaaGreatDoor.Sp
open Go.Lib

theorem utfB_eq (l : List Int) : (⟨(utfB l).toArray⟩ : ByteArray) = Go.strOfNums (utfL l) := by
  unfold Go.strOfNums utfB utfL
  congr 2
  rw [List.map_flatMap]
  rfl

theorem refStep_scal (b : ByteArray) (h : 0 ≤ (refStep b).1) : Scal (refStep b).1 := by
  have h0 := bt_range b 0; have h1 := bt_range b 1
  have hu := refUnit_range b
  unfold refStep at h ⊢
  by_cases c1 : 1 ≤ bt b 0 ∧ bt b 0 < 128
  · rw [if_pos c1]; left; constructor <;> simp only [] <;> omega
  rw [if_neg c1] at h ⊢
  by_cases c2 : 192 ≤ bt b 0 ∧ bt b 0 < 224
  · rw [if_pos c2] at h ⊢
    by_cases c3 : 1 < b.size ∧ 128 ≤ bt b 1 ∧ bt b 1 < 192
    · rw [if_pos c3] at h ⊢
      by_cases c4 : 1 ≤ (bt b 0 - 192) * 64 + bt b 1 - 128 ∧ (bt b 0 - 192) * 64 + bt b 1 - 128 < 128
      · rw [if_pos c4] at h; simp at h
      · rw [if_neg c4]; left; constructor <;> simp only [] <;> omega
    · rw [if_neg c3] at h; simp at h
  rw [if_neg c2] at h ⊢
  by_cases c3 : 55296 ≤ refUnit b ∧ refUnit b < 56320
  · rw [if_pos c3] at h ⊢
    by_cases c4 : 56320 ≤ refUnit (b.extract 3 b.size) ∧ refUnit (b.extract 3 b.size) < 57344
    · rw [if_pos c4]; right; constructor <;> simp only [] <;> omega
    · rw [if_neg c4] at h; simp at h
  rw [if_neg c3] at h ⊢
  by_cases c4 : 0 ≤ refUnit b ∧ (refUnit b < 56320 ∨ 57344 ≤ refUnit b)
  · rw [if_pos c4]
    unfold Scal
    simp only []
    omega
  · rw [if_neg c4] at h; simp at h

theorem refDecG_scal : ∀ f (b : ByteArray) (acc l : List Int), (∀ r ∈ acc, Scal r) → refDecG f b acc = some l → ∀ r ∈ l, Scal r
  | 0, _, _, _, _, h => by simp [refDecG] at h
  | f + 1, b, acc, l, ha, h => by
    rw [refDecG] at h
    by_cases h0 : b.size = 0
    · rw [if_pos h0] at h
      injection h with h
      subst h
      exact ha
    rw [if_neg h0] at h
    by_cases h1 : (refStep b).1 < 0
    · rw [if_pos h1] at h
      exact absurd h (by simp)
    · rw [if_neg h1] at h
      refine refDecG_scal f _ _ l ?_ h
      intro r hr
      rcases List.mem_append.1 hr with hr | hr
      · exact ha r hr
      · rw [List.mem_singleton.1 hr]
        exact refStep_scal b (by omega)

theorem refMakeS_all (l : List Int) (h : ∀ r ∈ l, Scal r) : refMakeS l = (Go.strOfNums (utfL l), true) := by
  rw [refMakeS, if_pos]
  rw [List.all_eq_true]
  intro r hr
  exact decide_eq_true (h r hr)

/-- Decode is the reference's. -/
theorem decS_eq (b : ByteArray) : decS b = refDecS b := by
  unfold decS refDecS
  by_cases h : 65535 < b.size
  · rw [if_pos h, if_pos h]
  · rw [if_neg h, if_neg h, show ([] : List UInt8) = utfB [] from rfl, decG_ref]
    cases hd : refDecG (b.size + 1) b [] with
    | none => rfl
    | some l =>
      have hs := refDecG_scal _ _ _ _ (by simp) hd
      simp only [Option.map_some]
      rw [refMakeS_all l hs, utfB_eq]
end Go.Proofs.YtfjplmbknegidaaGreatDoor.Sp
end
section
/-
  Plain: a text is its runes' UTF-8 (lists of numbers).
-/
set_option linter.unusedVariables false
set_option linter.unusedSimpArgs false
namespace Go.Proofs.YtfjplmbknegidaaGreatDoor.Sp
open Go.Lib

/-- Bytes' numbers. -/
def By (L : List Int) : Prop := ∀ x ∈ L, 0 ≤ x ∧ x ≤ 255
theorem By.app {L M : List Int} (h : By L) (k : By M) : By (L ++ M) := fun x hx => (List.mem_append.1 hx).elim (h x) (k x)
theorem By.drop {L : List Int} (h : By L) (n : Nat) : By (L.drop n) := fun x hx => h x (List.mem_of_mem_drop hx)
theorem By.take {L : List Int} (h : By L) (n : Nat) : By (L.take n) := fun x hx => h x (List.mem_of_mem_take hx)
theorem by_enc (r : Int) : By (encodeRuneZ r) := fun x hx => by have := encodeRuneZ_byte r x hx; omega
theorem by_utfL (l : List Int) : By (utfL l) := fun x hx => by
  obtain ⟨r, _, h⟩ := List.mem_flatMap.1 hx
  exact by_enc r x h
theorem by_encZ (r : Int) (h : Scal r) : By (encZ r) := by
  unfold Scal at h
  exact encZ_bytes r (by omega) (by omega)
theorem by_encL (l : List Int) (h : ∀ r ∈ l, Scal r) : By (encL l) := fun x hx => by
  obtain ⟨r, hr, h2⟩ := List.mem_flatMap.1 hx
  exact by_encZ r (h r hr) x h2

theorem size_nums (L : List Int) : (Go.strOfNums L).size = L.length := Go.strOfNums_size L
theorem bt_nums (L : List Int) (h : By L) (k : Nat) : bt (Go.strOfNums L) k = L.getD k 0 := by
  unfold bt
  rw [List.getD_eq_getElem?_getD]
  by_cases hk : k < L.length
  · rw [dif_pos (by rw [size_nums]; exact hk), List.getElem?_eq_getElem hk]
    have hx := h L[k] (List.getElem_mem hk)
    have e : (Go.strOfNums L)[k]'(by rw [size_nums]; exact hk) = UInt8.ofNat (L[k]).toNat := by
      have : ∀ (M : List UInt8) (hM : k < (⟨M.toArray⟩ : ByteArray).size) (hM2 : k < M.length), (⟨M.toArray⟩ : ByteArray)[k]'hM = M[k]'hM2 := fun M _ _ => rfl
      refine (this _ _ (by simpa using hk)).trans ?_
      simp
    rw [e]
    have : (L[k]).toNat < 256 := by omega
    have e2 : (UInt8.ofNat (L[k]).toNat).toNat = (L[k]).toNat := by simp [UInt8.toNat_ofNat, Nat.mod_eq_of_lt this]
    rw [e2]
    simp only [Option.getD_some]
    omega
  · rw [dif_neg (by rw [size_nums]; exact hk), List.getElem?_eq_none (by omega)]
    rfl
theorem nb_nums (L : List Int) (h : By L) (k : Nat) : (nb (Go.strOfNums L) k : Int) = L.getD k 0 := by rw [← bt_nb, bt_nums L h]
theorem extract_nums (L : List Int) (k : Nat) : (Go.strOfNums L).extract k (Go.strOfNums L).size = Go.strOfNums (L.drop k) := by
  have h : ∀ s : ByteArray, s.extract k s.size = ⟨(s.data.toList.drop k).toArray⟩ := fun s => by
    have := Lib.extract_to_end s k
    rw [← this]
  rw [h, Go.strOfNums_data]
  unfold Go.strOfNums
  rw [List.map_drop]
/-- A string's numbers. -/
def nums (s : ByteArray) : List Int := s.data.toList.map fun b => (b.toNat : Int)
theorem by_nums (s : ByteArray) : By (nums s) := fun x hx => by
  obtain ⟨b, _, rfl⟩ := List.mem_map.1 hx
  have := b.toNat_lt
  omega
theorem nums_str (s : ByteArray) : Go.strOfNums (nums s) = s := by
  unfold Go.strOfNums nums
  rw [List.map_map]
  have : ((fun n : Int => UInt8.ofNat n.toNat) ∘ fun b : UInt8 => (b.toNat : Int)) = id := by
    funext b
    simp [Function.comp]
  rw [this, List.map_id]
theorem str_nums (L : List Int) (h : By L) : nums (Go.strOfNums L) = L := by
  unfold nums
  rw [Go.strOfNums_data, List.map_map]
  rw [show L = L.map id by simp]
  simp only [List.map_map]
  apply List.map_congr_left
  intro x hx
  have := h x hx
  have h2 : x.toNat < 256 := by omega
  simp only [Function.comp, id]
  have e2 : (UInt8.ofNat x.toNat).toNat = x.toNat := by simp [UInt8.toNat_ofNat, Nat.mod_eq_of_lt h2]
  rw [e2]
  omega
theorem nums_inj {L M : List Int} (h : By L) (k : By M) (e : Go.strOfNums L = Go.strOfNums M) : L = M := by rw [← str_nums L h, e, str_nums M k]

/-- What the reference's next tells, by whole numbers. -/
theorem refNext_list (L : List Int) (h : By L) (h0 : 0 < L.length) : refNext (Go.strOfNums L) =
      if L.getD 0 0 < 128 then (L.getD 0 0, 1)
      else if 194 ≤ L.getD 0 0 ∧ L.getD 0 0 < 224 ∧ L.getD 1 0 / 64 = 2 then (L.getD 0 0 % 32 * 64 + L.getD 1 0 % 64, 2)
      else if 224 ≤ L.getD 0 0 ∧ L.getD 0 0 < 240 ∧ L.getD 1 0 / 64 = 2 ∧ L.getD 2 0 / 64 = 2 ∧ 2048 ≤ L.getD 0 0 % 16 * 4096 + L.getD 1 0 % 64 * 64 + L.getD 2 0 % 64 ∧ ¬ (55296 ≤ L.getD 0 0 % 16 * 4096 + L.getD 1 0 % 64 * 64 + L.getD 2 0 % 64 ∧ L.getD 0 0 % 16 * 4096 + L.getD 1 0 % 64 * 64 + L.getD 2 0 % 64 < 57344) then (L.getD 0 0 % 16 * 4096 + L.getD 1 0 % 64 * 64 + L.getD 2 0 % 64, 3)
      else if 240 ≤ L.getD 0 0 ∧ L.getD 0 0 < 245 ∧ L.getD 1 0 / 64 = 2 ∧ L.getD 2 0 / 64 = 2 ∧ L.getD 3 0 / 64 = 2 ∧ 65536 ≤ L.getD 0 0 % 8 * 262144 + L.getD 1 0 % 64 * 4096 + L.getD 2 0 % 64 * 64 + L.getD 3 0 % 64 ∧ L.getD 0 0 % 8 * 262144 + L.getD 1 0 % 64 * 4096 + L.getD 2 0 % 64 * 64 + L.getD 3 0 % 64 ≤ 1114111 then (L.getD 0 0 % 8 * 262144 + L.getD 1 0 % 64 * 4096 + L.getD 2 0 % 64 * 64 + L.getD 3 0 % 64, 4)
      else (0, 0) := by
  rw [refNext_nb _ (by rw [size_nums]; exact h0)]
  have e0 := nb_nums L h 0; have e1 := nb_nums L h 1; have e2 := nb_nums L h 2; have e3 := nb_nums L h 3
  rw [← e0, ← e1, ← e2, ← e3]
  clear e0 e1 e2 e3
  generalize nb (Go.strOfNums L) 0 = a
  generalize nb (Go.strOfNums L) 1 = b
  generalize nb (Go.strOfNums L) 2 = c
  generalize nb (Go.strOfNums L) 3 = d
  refine ite_congr (by simp only [eq_iff_iff]; omega) (fun _ => rfl) fun _ => ?_
  refine ite_congr (by simp only [eq_iff_iff]; omega) (fun _ => by simp only [Prod.mk.injEq, and_true]; omega) fun _ => ?_
  refine ite_congr (by simp only [eq_iff_iff]; omega) (fun _ => by simp only [Prod.mk.injEq, and_true]; omega) fun _ => ?_
  refine ite_congr (by simp only [eq_iff_iff]; omega) (fun _ => by simp only [Prod.mk.injEq, and_true]; omega) fun _ => rfl

/-- Behind a rune's UTF-8 the reference's next tells it. -/
theorem refNext_enc (r : Int) (M : List Int) (h : Scal r) (hM : By M) : refNext (Go.strOfNums (encodeRuneZ r ++ M)) = (r, ((encodeRuneZ r).length : Int)) := by
  have hl := encodeRuneZ_length r
  rw [refNext_list _ ((by_enc r).app hM) (by rw [List.length_append]; omega)]
  unfold Scal at h
  by_cases c1 : r ≤ 127
  · rw [encodeRuneZ_one (by omega) c1]
    simp only [List.cons_append, List.nil_append, List.getD_cons_zero, List.length_cons, List.length_nil]
    rw [if_pos (by omega)]
    rfl
  by_cases c2 : r ≤ 2047
  · rw [encodeRuneZ_two (by omega) c2]
    simp only [List.cons_append, List.nil_append, List.getD_cons_zero, List.getD_cons_succ, List.length_cons, List.length_nil]
    rw [if_neg (by omega), if_pos (by omega)]
    refine Prod.ext ?_ rfl
    simp only []
    omega
  by_cases c3 : r ≤ 65535
  · rw [encodeRuneZ_three (by omega)]
    simp only [List.cons_append, List.nil_append, List.getD_cons_zero, List.getD_cons_succ, List.length_cons, List.length_nil]
    rw [if_neg (by omega), if_neg (by omega), if_pos (by omega)]
    refine Prod.ext ?_ rfl
    simp only []
    omega
  · rw [encodeRuneZ_four (by omega) (by omega)]
    simp only [List.cons_append, List.nil_append, List.getD_cons_zero, List.getD_cons_succ, List.length_cons, List.length_nil]
    rw [if_neg (by omega), if_neg (by omega), if_neg (by omega), if_pos (by omega)]
    refine Prod.ext ?_ rfl
    simp only []
    omega

theorem list_head (L : List Int) (n : Nat) (hn : n ≤ L.length) : L = (List.range n).map (fun k => L.getD k 0) ++ L.drop n := by
  conv => lhs; rw [← List.take_append_drop n L]
  congr 1
  apply List.ext_getElem
  · simp [hn]
  · intro i h1 h2
    have : i < L.length := by simp at h1; omega
    simp [List.getD_eq_getElem?_getD, this]

theorem getD_out (L : List Int) (k : Nat) (h : L.length ≤ k) : L.getD k 0 = 0 := by simp [List.getD_eq_getElem?_getD, h]

/-- What the reference's next tells is a rune's UTF-8. -/
theorem refNext_inv (L : List Int) (h : By L) (h0 : 0 < L.length) (hn : (refNext (Go.strOfNums L)).2 ≠ 0) :
    Scal (refNext (Go.strOfNums L)).1 ∧ (refNext (Go.strOfNums L)).2 = ((encodeRuneZ (refNext (Go.strOfNums L)).1).length : Int) ∧ L = encodeRuneZ (refNext (Go.strOfNums L)).1 ++ L.drop (encodeRuneZ (refNext (Go.strOfNums L)).1).length := by
  have hg : ∀ k, 0 ≤ L.getD k 0 ∧ L.getD k 0 ≤ 255 := fun k => by
    by_cases hk : k < L.length
    · rw [List.getD_eq_getElem?_getD, List.getElem?_eq_getElem hk]
      exact h _ (List.getElem_mem hk)
    · rw [getD_out L k (by omega)]; omega
  have g0 := hg 0; have g1 := hg 1; have g2 := hg 2; have g3 := hg 3
  have o1 : L.length ≤ 1 → L.getD 1 0 = 0 := fun q => getD_out L 1 q
  have o2 : L.length ≤ 2 → L.getD 2 0 = 0 := fun q => getD_out L 2 q
  have o3 : L.length ≤ 3 → L.getD 3 0 = 0 := fun q => getD_out L 3 q
  have l1 := list_head L 1
  have l2 := list_head L 2
  have l3 := list_head L 3
  have l4 := list_head L 4
  simp only [List.range, List.range.loop, List.map_cons, List.map_nil] at l1 l2 l3 l4
  revert hn
  rw [refNext_list L h h0]
  generalize L.getD 0 0 = a at *
  generalize L.getD 1 0 = b at *
  generalize L.getD 2 0 = c at *
  generalize L.getD 3 0 = d at *
  by_cases c1 : a < 128
  · rw [if_pos c1]
    intro _
    simp only []
    rw [encodeRuneZ_one (by omega) (by omega)]
    exact ⟨.inl (by omega), rfl, l1 (by omega)⟩
  rw [if_neg c1]
  by_cases c2 : 194 ≤ a ∧ a < 224 ∧ b / 64 = 2
  · rw [if_pos c2]
    intro _
    simp only []
    rw [encodeRuneZ_two (by omega) (by omega), show 192 + (a % 32 * 64 + b % 64) / 64 = a by omega, show 128 + (a % 32 * 64 + b % 64) % 64 = b by omega]
    exact ⟨.inl (by omega), rfl, l2 (by omega)⟩
  rw [if_neg c2]
  by_cases c3 : 224 ≤ a ∧ a < 240 ∧ b / 64 = 2 ∧ c / 64 = 2 ∧ 2048 ≤ a % 16 * 4096 + b % 64 * 64 + c % 64 ∧ ¬ (55296 ≤ a % 16 * 4096 + b % 64 * 64 + c % 64 ∧ a % 16 * 4096 + b % 64 * 64 + c % 64 < 57344)
  · rw [if_pos c3]
    intro _
    simp only []
    rw [encodeRuneZ_three (by omega), show 224 + (a % 16 * 4096 + b % 64 * 64 + c % 64) / 4096 = a by omega, show 128 + (a % 16 * 4096 + b % 64 * 64 + c % 64) / 64 % 64 = b by omega, show 128 + (a % 16 * 4096 + b % 64 * 64 + c % 64) % 64 = c by omega]
    exact ⟨by unfold Scal; omega, rfl, l3 (by omega)⟩
  rw [if_neg c3]
  by_cases c4 : 240 ≤ a ∧ a < 245 ∧ b / 64 = 2 ∧ c / 64 = 2 ∧ d / 64 = 2 ∧ 65536 ≤ a % 8 * 262144 + b % 64 * 4096 + c % 64 * 64 + d % 64 ∧ a % 8 * 262144 + b % 64 * 4096 + c % 64 * 64 + d % 64 ≤ 1114111
  · rw [if_pos c4]
    intro _
    simp only []
    rw [encodeRuneZ_four (by omega) (by omega), show 240 + (a % 8 * 262144 + b % 64 * 4096 + c % 64 * 64 + d % 64) / 262144 = a by omega, show 128 + (a % 8 * 262144 + b % 64 * 4096 + c % 64 * 64 + d % 64) / 4096 % 64 = b by omega, show 128 + (a % 8 * 262144 + b % 64 * 4096 + c % 64 * 64 + d % 64) / 64 % 64 = c by omega, show 128 + (a % 8 * 262144 + b % 64 * 4096 + c % 64 * 64 + d % 64) % 64 = d by omega]
    exact ⟨.inr (by omega), rfl, l4 (by omega)⟩
  · rw [if_neg c4]
    intro q
    exact absurd rfl q

/-- A text of scalars: its runes and that it is valid. -/
theorem rB_utf : ∀ f (l : List Int), (∀ r ∈ l, Scal r) → (utfL l).length ≤ f → rB f (Go.strOfNums (utfL l)) = (l, true)
  | 0, l, h, hf => by
    cases l with
    | nil => rfl
    | cons r l =>
      exfalso
      have := encodeRuneZ_length r
      simp [utfL] at hf
      rw [hf.1] at this
      simp at this
  | f + 1, l, h, hf => by
    cases l with
    | nil => rw [rB, if_pos (by rfl)]
    | cons r l =>
      have hl := encodeRuneZ_length r
      have e : utfL (r :: l) = encodeRuneZ r ++ utfL l := by simp [utfL]
      rw [e, List.length_append] at hf
      rw [e, rB, if_neg (by rw [size_nums, List.length_append]; omega), refNext_enc r _ (h r (by simp)) (by_utfL l)]
      simp only [Int.toNat_natCast]
      rw [if_neg (by omega), extract_nums, List.drop_left, rB_utf f l (fun x hx => h x (by simp [hx])) (by omega)]

theorem refRunes_utf (l : List Int) (h : ∀ r ∈ l, Scal r) : refRunes (Go.strOfNums (utfL l)) = (l, true) := by
  rw [refRunes]
  exact rB_utf _ l h (by rw [size_nums]; exact Nat.le_refl _)
theorem runes_utf (l : List Int) (h : ∀ r ∈ l, Scal r) : runes (Go.strOfNums (utfL l)) = l := by
  have := refRunes_utf l h
  rw [refRunes_eq] at this
  exact (Prod.ext_iff.1 this).1
theorem valid_utf (l : List Int) (h : ∀ r ∈ l, Scal r) : validD (Go.strOfNums (utfL l)).data.toList = true := by
  have := refRunes_utf l h
  rw [refRunes_eq] at this
  exact (Prod.ext_iff.1 this).2

theorem rB_inv : ∀ f (L : List Int), By L → L.length ≤ f → (rB f (Go.strOfNums L)).2 = true → (∀ r ∈ (rB f (Go.strOfNums L)).1, Scal r) ∧ utfL (rB f (Go.strOfNums L)).1 = L
  | 0, L, h, hf, hv => by
    obtain rfl : L = [] := List.eq_nil_of_length_eq_zero (by omega)
    exact ⟨by simp [rB], by simp [rB, utfL]⟩
  | f + 1, L, h, hf, hv => by
    by_cases h0 : L.length = 0
    · obtain rfl : L = [] := List.eq_nil_of_length_eq_zero (by omega)
      rw [rB, if_pos (by rfl)]
      exact ⟨by simp, by simp [utfL]⟩
    rw [rB, if_neg (by rw [size_nums]; exact h0)] at hv ⊢
    by_cases hz : (refNext (Go.strOfNums L)).2 = 0
    · rw [if_pos hz] at hv
      simp at hv
    rw [if_neg hz] at hv ⊢
    obtain ⟨i1, i2, i3⟩ := refNext_inv L h (by omega) hz
    rw [i2] at hv ⊢
    simp only [Int.toNat_natCast, extract_nums] at hv ⊢
    have hl := encodeRuneZ_length (refNext (Go.strOfNums L)).1
    obtain ⟨j1, j2⟩ := rB_inv f (L.drop (encodeRuneZ (refNext (Go.strOfNums L)).1).length) (h.drop _) (by rw [List.length_drop]; omega) hv
    refine ⟨?_, ?_⟩
    · intro r hr
      rcases List.mem_cons.1 hr with rfl | hr
      · exact i1
      · exact j1 r hr
    · have : ∀ (r : Int) (l : List Int), utfL (r :: l) = encodeRuneZ r ++ utfL l := fun r l => by simp [utfL]
      rw [this, j2]
      exact i3.symm

/-- A valid text is the UTF-8 of its runes, which are scalars. -/
theorem text_of (s : ByteArray) (h : validD s.data.toList = true) : (∀ r ∈ runes s, Scal r) ∧ s = Go.strOfNums (utfL (runes s)) := by
  have hv : (rB s.size (Go.strOfNums (nums s))).2 = true := by
    rw [nums_str]
    have := refRunes_eq s
    rw [refRunes] at this
    rw [this]
    exact h
  obtain ⟨h1, h2⟩ := rB_inv s.size (nums s) (by_nums s) (by rw [nums, List.length_map, ← Lib.size_eq]; exact Nat.le_refl _) hv
  have e : (rB s.size (Go.strOfNums (nums s))).1 = runes s := by
    rw [nums_str]
    have := refRunes_eq s
    rw [refRunes] at this
    rw [this]
  rw [e] at h1 h2
  refine ⟨h1, ?_⟩
  rw [h2, nums_str]

theorem utf_inj (l m : List Int) (hl : ∀ r ∈ l, Scal r) (hm : ∀ r ∈ m, Scal r) (e : Go.strOfNums (utfL l) = Go.strOfNums (utfL m)) : l = m := by rw [← runes_utf l hl, e, runes_utf m hm]

theorem utfL_app (l m : List Int) : utfL (l ++ m) = utfL l ++ utfL m := by simp [utfL]
theorem encL_app (l m : List Int) : encL (l ++ m) = encL l ++ encL m := by simp [encL]
end Go.Proofs.YtfjplmbknegidaaGreatDoor.Sp
end
section
/-
  Chapter 3's writer: its row and its frame.
-/
set_option linter.unusedVariables false
set_option linter.unusedSimpArgs false
namespace Go.Proofs.YtfjplmbknegidaaGreatDoor
open Go.RowKit Go.Lib

/-- The writer's row v holds xs; the class lies boxed; what was there at w stands. -/
structure Em (w : World) (X : Array Value) (W : World) (v : Value) (xs : List Int) : Prop where
  own : W.ownsRow (w.heap.size + 1) 5 1 v xs.length (numc xs)
  bel : Below w.heap.size w W
  box : W.heap[w.heap.size]? = some (.cells X 63 (0, 0))
/-- A block beside the writer's row. -/
def Tm (W : World) (v : Value) (tb : Nat) (o : Obj) : Prop := W.heap[tb]? = some o ∧ v.ownBlock ≠ some tb
section
variable {w W W' : World} {X : Array Value} {v v' : Value} {xs : List Int}
theorem Em.lt (h : Em w X W v xs) : w.heap.size < W.heap.size := blk_lt h.box
theorem Em.alloc (h : Em w X W v xs) (o : Obj) : Em w X (W.alloc o) v xs := ⟨h.own.alloc _, h.bel.alloc (by have := h.lt; omega) o, blk_old h.box⟩
theorem Em.drew (h : Em w X W v xs) : Em w X W.drew v xs := ⟨h.own, h.bel.drew, h.box⟩
theorem Em.onto (h : Em w X W v xs) (o : Onto v v' W W') {ys : List Int} (hy : W'.ownsRow (w.heap.size + 1) 5 1 v' ys.length (numc ys)) : Em w X W' v' ys :=
  ⟨hy, h.bel.trans (o.below (by have := h.lt; omega) (fun k hk => by have := own_base h.own k hk; omega)), o.keeps.obj h.box (fun q => by have := own_base h.own _ q; omega)⟩
theorem Em.max (h : Em w X W v xs) : xs.length ≤ 9223372036854775807 := own_max h.own
theorem Tm.new (h : Em w X W v xs) (o : Obj) : Tm (W.alloc o) v W.heap.size o := ⟨blk_new W o, fun q => by have := h.own.lt _ q; omega⟩
theorem Tm.alloc {tb : Nat} {o : Obj} (h : Tm W v tb o) (p : Obj) : Tm (W.alloc p) v tb o := ⟨blk_old h.1, h.2⟩
theorem Tm.drew {tb : Nat} {o : Obj} (h : Tm W v tb o) : Tm W.drew v tb o := h
theorem Tm.onto {tb : Nat} {o : Obj} (h : Tm W v tb o) (k : Onto v v' W W') : Tm W' v' tb o := ⟨k.keeps.obj h.1 h.2, fun q => (k.at_ _ q).elim h.2 (fun r => by have := blk_lt h.1; omega)⟩
end

theorem rdN_blk {W : World} {a : Nat} {C : Array Value} {T : TypeId} (l : List Int) (h : W.heap[a]? = some (.cells C T (0, 0))) (hC : C.toList = l.map (Value.int .i64)) (hl : l.length ≤ 9223372036854775807) : RdN .i64 W (some ⟨a, 0, none⟩) l := by
  refine ⟨hl, fun _ => ⟨a, 0, rfl, fun j hj => ?_⟩⟩
  rw [Nat.zero_add]
  refine (blk_cell h j _ ?_).1
  rw [← Array.getElem?_toList, hC, List.getElem?_map, List.getElem?_eq_getElem hj, Option.map_some, List.getD_eq_getElem?_getD, List.getElem?_eq_getElem hj]
  rfl

theorem put_em {w W : World} {X : Array Value} {v : Value} {xs : List Int} (h : Em w X W v xs) (n : Int) (m : Nat) (hm : m ≤ 8) (hm0 : 0 < m) (hlen : xs.length ≤ 1000000000) :
    Calls Tryz.prog 80 #[v, .int .i64 n, .int .i64 m] W fun e W' => ∃ v', e = .returned v' ∧ Em w X W' v' (xs ++ Sp.putL n m) ∧ Onto v v' W W' := by
  refine (put_any _ v xs n m W (.inl h.own) hm hlen (by have := h.lt; omega)).mono ?_
  rintro e W' ⟨v', rfl, ho, hO⟩
  exact ⟨v', rfl, h.onto hO (ho hm0), hO⟩
/-- Numbers that lie in a block beside the row. -/
theorem puts_blk {w W : World} {X : Array Value} {v : Value} {xs : List Int} (h : Em w X W v xs) {a : Nat} {C : Array Value} {T : TypeId} (ht : Tm W v a (.cells C T (0, 0))) (l : List Int) (hC : C.toList = l.map (Value.int .i64)) (n c : Nat) (hn : n = l.length) (hlen : xs.length + 2 * l.length ≤ 1000000000) :
    Calls Tryz.prog 79 #[v, .slice (some ⟨a, 0, none⟩) n c] W fun e W' => ∃ v', e = .returned v' ∧ Em w X W' v' (xs ++ Sp.putsL l) ∧ Onto v v' W W' := by
  subst hn
  refine (puts_any _ v xs _ c l W (.inl h.own) (rdN_blk l ht.1 hC (by omega)) (fun b o e _ => by injection e with e; injection e with e _; subst e; exact ht.2) hlen (by have := h.lt; omega)).mono ?_
  rintro e W' ⟨v', rfl, ho, hO⟩
  exact ⟨v', rfl, h.onto hO (ho (.inl h.own)), hO⟩
/-- The first number, behind the literal. -/
theorem puts_first {w W : World} {X : Array Value} {v : Value} {xs : List Int} (h : RowG W (w.heap.size + 1) v xs.length (numc xs)) (hb : Below w.heap.size w W) (hx : W.heap[w.heap.size]? = some (.cells X 63 (0, 0))) {a : Nat} {C : Array Value} {T : TypeId} (ht : Tm W v a (.cells C T (0, 0))) (l : List Int) (h0 : 0 < l.length) (hC : C.toList = l.map (Value.int .i64)) (n c : Nat) (hn : n = l.length) (hlen : xs.length + 2 * l.length ≤ 1000000000) :
    Calls Tryz.prog 79 #[v, .slice (some ⟨a, 0, none⟩) n c] W fun e W' => ∃ v', e = .returned v' ∧ Em w X W' v' (xs ++ Sp.putsL l) ∧ Onto v v' W W' := by
  subst hn
  have hlt := blk_lt hx
  refine (puts_any _ v xs _ c l W h (rdN_blk l ht.1 hC (by omega)) (fun b o e _ => by injection e with e; injection e with e _; subst e; exact ht.2) hlen (by omega)).mono ?_
  rintro e W' ⟨v', rfl, ho, hO⟩
  exact ⟨v', rfl, ⟨ho (.inr h0), hb.trans (hO.below (by omega) (fun k hk => by have := h.base k hk; omega)), hO.keeps.obj hx (fun q => by have := h.base _ q; omega)⟩, hO⟩
/-- Numbers that were there at w. -/
theorem puts_old {w W : World} {X : Array Value} {v : Value} {xs : List Int} (h : Em w X W v xs) (A : Option Addr) (c : Nat) (l : List Int) (hr : RdN .i64 w A l) (hlen : xs.length + 2 * l.length ≤ 1000000000) :
    Calls Tryz.prog 79 #[v, .slice A l.length c] W fun e W' => ∃ v', e = .returned v' ∧ Em w X W' v' (xs ++ Sp.putsL l) ∧ Onto v v' W W' := by
  refine (puts_any _ v xs A c l W (.inl h.own) (rdN_below hr h.bel) (fun b o e h0 q => ?_) hlen (by have := h.lt; omega)).mono ?_
  · obtain ⟨b', o', e', hc⟩ := hr.2 h0
    rw [e] at e'
    injection e' with e'
    injection e' with e1 e2
    subst e1
    have := World.block_lt_of_cell? _ _ (hc 0 h0)
    have := own_base h.own _ q
    simp at *
    omega
  · rintro e W' ⟨v', rfl, ho, hO⟩
    exact ⟨v', rfl, h.onto hO (ho (.inl h.own)), hO⟩
theorem strCells_numc (s : ByteArray) : Lib.strCells s = numc (Sp.nums s) := by
  unfold Lib.strCells numc Sp.nums
  rw [List.map_map]
  rfl
theorem nums_length (s : ByteArray) : (Sp.nums s).length = s.size := by
  unfold Sp.nums
  rw [List.length_map, Array.length_toList]
  rfl
/-- Behind an append. -/
theorem Onto.of_grown {w W W' : World} {X : Array Value} {v v' : Value} {xs : List Int} (hg : W.grownBy W' v.ownBlock) (hat : v'.ownBlock = v.ownBlock ∨ v'.ownBlock = some W.heap.size) : Onto v v' W W' :=
  ⟨Keeps.of_grown hg (fun k hk => .inl hk), fun k hk => hat.elim (fun q => .inl (q ▸ hk)) (fun q => .inr (by rw [hk] at q; injection q with q; omega))⟩
/-- A literal's row of four, marked. -/
theorem row_four (B : Nat) (W : World) (a b c d : Int) (fz : Nat × Nat) (hB : B ≤ W.heap.size) : RowG (W.alloc (.cells #[.int .u8 a, .int .u8 b, .int .u8 c, .int .u8 d] 5 fz)) B (.slice (some ⟨W.heap.size, 0, none⟩) 4 4) 4 (numc [a, b, c, d]) :=
  .inr ⟨rfl, W.heap.size, _, fz, rfl, hB, blk_new _ _, rfl⟩

namespace Sp
def constB (c : Cn) : List Int := putL c.tag 1 ++ (if c.tag = 1 then putsL [((encS c.text).1.size : Int)] ++ Sp.nums (encS c.text).1 else if c.tag = 2 then putL c.n 8 else if c.tag = 5 ∨ c.tag = 6 then putsL [c.a, c.b, c.c] else putsL [c.a])
def fieldB (m : Mb) : List Int := putL m.flags 1 ++ putsL [m.name, m.desc]
def handB (h : Hn) : List Int := putsL [h.fr, h.til, h.at_, h.cls]
def codeB (m : Mb) : List Int := putL m.stack 1 ++ putL m.locals 1 ++ putsL [(m.code.size : Int)] ++ (Sp.nums m.code ++ putL (m.hs.length : Int) 1) ++ m.hs.flatMap handB
def methodB (m : Mb) : List Int := putL m.flags 1 ++ putsL [m.name, m.desc] ++ (if m.flags = 2 then [] else codeB m)
def bytesS (F : Fl) : List Int := [67, 82, 85, 88] ++ putsL [(F.pool.length : Int)] ++ F.pool.flatMap constB ++ (putL F.flags 1 ++ putsL [F.this, F.super]) ++ (putL (F.ifaces.length : Int) 1 ++ putsL F.ifaces) ++ putL (F.fields.length : Int) 1 ++ F.fields.flatMap fieldB ++ putL (F.methods.length : Int) 1 ++ F.methods.flatMap methodB
def encodeF (F : Fl) : ByteArray × Int := if partsS F ≠ 0 then (⟨#[]⟩, partsS F) else if 65536 < (bytesS F).length then (⟨#[]⟩, 2) else (Go.strOfNums (bytesS F), 0)
end Sp
end Go.Proofs.YtfjplmbknegidaaGreatDoor
end
section
/-
  Plain: a file that is right has a right name.
-/
set_option linter.unusedVariables false
set_option linter.unusedSimpArgs false
namespace Go.Proofs.YtfjplmbknegidaaGreatDoor.Sp
open Go.RowKit Go.Lib
theorem enc_parts {F : Fl} (h : (encodeF F).2 = 0) : partsS F = 0 := by
  unfold encodeF at h
  by_cases q : partsS F = 0
  · exact q
  · rw [if_pos q] at h; exact h
theorem pool_const {p : List Cn} : ∀ {l : List Cn}, poolF p l = 0 → ∀ c ∈ l, constS p c = 0
  | [], _, c, hc => by cases hc
  | d :: l, h, c, hc => by
    unfold poolF at h
    by_cases q : constS p d = 0
    · rw [if_neg (by simp [q])] at h
      rcases List.mem_cons.1 hc with rfl | hc
      · exact q
      · exact pool_const h c hc
    · rw [if_pos q] at h; exact absurd h q
theorem parts_pool {F : Fl} (h : partsS F = 0) : (∀ c ∈ F.pool, constS F.pool c = 0) ∧ headS F.pool F.flags F.this F.super F.ifaces = 0 := by
  unfold partsS at h
  split at h
  · cases h
  · split at h
    · rename_i q; exact absurd h q
    · rename_i q1
      split at h
      · rename_i q; exact absurd h q
      · rename_i q2
        exact ⟨pool_const (Classical.not_not.1 q1), Classical.not_not.1 q2⟩
theorem const_class {p : List Cn} {c : Cn} (h : constS p c = 0) (ht : c.tag = 4) : nameS (cnameS p c.a).1 = true := by
  unfold constS at h
  split at h
  · cases h
  · rw [if_neg (by omega), if_neg (by omega), if_pos (by omega)] at h
    unfold namedS at h
    split at h
    · cases h
    · split at h
      · cases h
      · rename_i q1 q2
        cases hn : nameS (cnameS p c.a).1 with
        | true => rfl
        | false => exact absurd ⟨ht, hn⟩ q2
theorem tagged_class {p : List Cn} (hp : ∀ c ∈ p, constS p c = 0) {i : Int} (ht : taggedS p i 4 = true) : nameS (classNameS p i).1 = true := by
  unfold taggedS at ht
  unfold classNameS
  cases hg : get p i with
  | none => rw [hg] at ht; cases ht
  | some c =>
    rw [hg] at ht
    have h4 : c.tag = 4 := by simpa using ht
    simp only [h4, if_true]
    refine const_class (hp c ?_) h4
    unfold get at hg
    split at hg
    · exact List.mem_of_getElem? hg
    · cases hg
theorem head_tags {p : List Cn} {fl th su : Int} {ifs : List Int} (h : headS p fl th su ifs = 0) : taggedS p th 4 = true ∧ (su = 0 ∨ taggedS p su 4 = true) ∧ ∀ i ∈ ifs, taggedS p i 4 = true := by
  unfold headS at h
  split at h
  · cases h
  · split at h
    · cases h
    · rename_i q
      split at h
      · cases h
      · split at h
        · rename_i q2
          refine ⟨?_, ?_, fun i hi => List.all_eq_true.1 q2 i hi⟩
          · cases e : taggedS p th 4 with
            | true => rfl
            | false => exact absurd (.inl e) q
          · by_cases e : su = 0
            · exact .inl e
            · cases e2 : taggedS p su 4 with
              | true => exact .inr rfl
              | false => exact absurd (.inr ⟨e, e2⟩) q
        · cases h
/-- The name of a class whose file is right is right. -/
theorem enc_name {F : Fl} (h : (encodeF F).2 = 0) : nameS (classNameS F.pool F.this).1 = true := by
  obtain ⟨hp, hh⟩ := parts_pool (enc_parts h)
  exact tagged_class hp (head_tags hh).1
theorem name_nil : nameS nilB = false := by decide +kernel
theorem name_ne {s : ByteArray} (h : nameS s = true) : s ≠ nilB := by
  rintro rfl
  rw [name_nil] at h; cases h
end Go.Proofs.YtfjplmbknegidaaGreatDoor.Sp
end
