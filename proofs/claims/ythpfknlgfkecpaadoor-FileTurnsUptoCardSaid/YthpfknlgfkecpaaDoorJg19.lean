/-
  Texts of the proof, joined: each says at its head what it proves.
-/
import Derived.Test.YthpfknlgfkecpaaDoorJg5
import Derived.Test.YthpfknlgfkecpaaDoorJFileNamesx3
section
/-
  Plain: a small class's bytes are not many.
-/
set_option linter.unusedVariables false
set_option linter.unusedSimpArgs false
namespace Go.Proofs.YthpfknlgfkecpaaDoor.Sp
open Go.Lib

theorem constB_len (c : Cn) : (constB c).length ≤ 65538 := by
  unfold constB
  have h := encS_size c.text
  rw [List.length_append, putL_length]
  split
  · rw [List.length_append, putsL_length, nums_length]; simp only [List.length_cons, List.length_nil]; omega
  · split
    · rw [putL_length]; omega
    · split
      · rw [putsL_length]; simp only [List.length_cons, List.length_nil]; omega
      · rw [putsL_length]; simp only [List.length_cons, List.length_nil]; omega
theorem constB_all : ∀ l : List Cn, (l.flatMap constB).length ≤ l.length * 65538
  | [] => by simp
  | c :: l => by
    have h1 := constB_len c
    have h2 := constB_all l
    rw [List.flatMap_cons, List.length_append, List.length_cons]
    omega
theorem handB_all (l : List Hn) : (l.flatMap handB).length = 8 * l.length := by
  induction l with
  | nil => rfl
  | cons h l ih =>
    rw [List.flatMap_cons, List.length_append, ih, handB, putsL_length]
    simp only [List.length_cons, List.length_nil]
    omega
theorem fieldB_all (l : List Mb) : (l.flatMap fieldB).length = 5 * l.length := by
  induction l with
  | nil => rfl
  | cons h l ih =>
    rw [List.flatMap_cons, List.length_append, ih, fieldB, List.length_append, putL_length, putsL_length]
    simp only [List.length_cons, List.length_nil]
    omega
theorem methodB_all (l : List Mb) : (l.flatMap methodB).length ≤ 10 * l.length + codeN l := by
  induction l with
  | nil => simp
  | cons m l ih =>
    rw [List.flatMap_cons, List.length_append, codeN, List.length_cons]
    have : (methodB m).length ≤ 10 + (m.code.size + 8 * m.hs.length) := by
      unfold methodB
      rw [List.length_append, List.length_append, putL_length, putsL_length]
      simp only [List.length_cons, List.length_nil]
      split
      · simp only [List.length_nil]; omega
      · unfold codeB
        simp only [List.length_append, putL_length, putsL_length, List.length_cons, List.length_nil, nums_length, handB_all]
        omega
    omega
theorem small_bytes {F : Fl} (h : smallS F = true) : (bytesS F).length ≤ 900000000 := by
  unfold smallS at h
  obtain ⟨h1, h2, h3, h4, h5⟩ := of_decide_eq_true h
  have a1 := constB_all F.pool
  have a2 := fieldB_all F.fields
  have a3 := methodB_all F.methods
  unfold bytesS
  simp only [List.length_append, putL_length, putsL_length, List.length_cons, List.length_nil]
  omega
end Go.Proofs.YthpfknlgfkecpaaDoor.Sp
end
