/-
  Plain: Decode tells what the reference's Decode tells.
-/
import Derived.Test.YthpfknlgfkecpaaDoorPl2
set_option linter.unusedVariables false
set_option linter.unusedSimpArgs false
namespace Go.Proofs.YthpfknlgfkecpaaDoor.Sp
open Go.Lib

theorem utfB_eq (l : List Int) : (⟨(utfB l).toArray⟩ : ByteArray) = Go.strOfNums (utfL l) := by
  unfold Go.strOfNums utfB utfL
  congr 2
  rw [List.map_flatMap]
  rfl

theorem refStep_scal (b : ByteArray) (h : 0 ≤ (refStep b).1) : Scal (refStep b).1 := by
  have h0 := bt_range b 0; have h1 := bt_range b 1
  have hu := refUnit_range b
  unfold refStep at h ⊢
  by_cases c1 : 1 ≤ bt b 0 ∧ bt b 0 < 128
  · rw [if_pos c1]; left; constructor <;> simp only [] <;> omega
  rw [if_neg c1] at h ⊢
  by_cases c2 : 192 ≤ bt b 0 ∧ bt b 0 < 224
  · rw [if_pos c2] at h ⊢
    by_cases c3 : 1 < b.size ∧ 128 ≤ bt b 1 ∧ bt b 1 < 192
    · rw [if_pos c3] at h ⊢
      by_cases c4 : 1 ≤ (bt b 0 - 192) * 64 + bt b 1 - 128 ∧ (bt b 0 - 192) * 64 + bt b 1 - 128 < 128
      · rw [if_pos c4] at h; simp at h
      · rw [if_neg c4]; left; constructor <;> simp only [] <;> omega
    · rw [if_neg c3] at h; simp at h
  rw [if_neg c2] at h ⊢
  by_cases c3 : 55296 ≤ refUnit b ∧ refUnit b < 56320
  · rw [if_pos c3] at h ⊢
    by_cases c4 : 56320 ≤ refUnit (b.extract 3 b.size) ∧ refUnit (b.extract 3 b.size) < 57344
    · rw [if_pos c4]; right; constructor <;> simp only [] <;> omega
    · rw [if_neg c4] at h; simp at h
  rw [if_neg c3] at h ⊢
  by_cases c4 : 0 ≤ refUnit b ∧ (refUnit b < 56320 ∨ 57344 ≤ refUnit b)
  · rw [if_pos c4]
    unfold Scal
    simp only []
    omega
  · rw [if_neg c4] at h; simp at h

theorem refDecG_scal : ∀ f (b : ByteArray) (acc l : List Int), (∀ r ∈ acc, Scal r) → refDecG f b acc = some l → ∀ r ∈ l, Scal r
  | 0, _, _, _, _, h => by simp [refDecG] at h
  | f + 1, b, acc, l, ha, h => by
    rw [refDecG] at h
    by_cases h0 : b.size = 0
    · rw [if_pos h0] at h
      injection h with h
      subst h
      exact ha
    rw [if_neg h0] at h
    by_cases h1 : (refStep b).1 < 0
    · rw [if_pos h1] at h
      exact absurd h (by simp)
    · rw [if_neg h1] at h
      refine refDecG_scal f _ _ l ?_ h
      intro r hr
      rcases List.mem_append.1 hr with hr | hr
      · exact ha r hr
      · rw [List.mem_singleton.1 hr]
        exact refStep_scal b (by omega)

theorem refMakeS_all (l : List Int) (h : ∀ r ∈ l, Scal r) : refMakeS l = (Go.strOfNums (utfL l), true) := by
  rw [refMakeS, if_pos]
  rw [List.all_eq_true]
  intro r hr
  exact decide_eq_true (h r hr)

/-- Decode is the reference's. -/
theorem decS_eq (b : ByteArray) : decS b = refDecS b := by
  unfold decS refDecS
  by_cases h : 65535 < b.size
  · rw [if_pos h, if_pos h]
  · rw [if_neg h, if_neg h, show ([] : List UInt8) = utfB [] from rfl, decG_ref]
    cases hd : refDecG (b.size + 1) b [] with
    | none => rfl
    | some l =>
      have hs := refDecG_scal _ _ _ _ (by simp) hd
      simp only [Option.map_some]
      rw [refMakeS_all l hs, utfB_eq]
end Go.Proofs.YthpfknlgfkecpaaDoor.Sp
