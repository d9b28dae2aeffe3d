/-
  Plain: what the laws of chapter 1 still ask; the walk of pick.
-/
import Derived.Test.YtkppjehpfjalbaaDoorPl5
import Derived.Test.YtkppjehpfjalbaaDoorMwShown
set_option linter.unusedVariables false
set_option linter.unusedSimpArgs false
namespace Go.Proofs.YtkppjehpfjalbaaDoor
open Go.RowKit Go.Lib
namespace Sp

theorem atL_app : ∀ (l m : List Int) (i : Int), 0 ≤ i → atL (l ++ m) i = if i < l.length then atL l i else atL m (i - l.length)
  | [], m, i, h => by rw [if_neg (by simp; omega)]; simp
  | r :: l, m, i, h => by
    simp only [List.cons_append, List.length_cons]
    by_cases h0 : i = 0
    · rw [if_pos (by omega), atL, atL, if_pos h0, if_pos h0]
    · rw [atL, if_neg h0, atL_app l m (i - 1) (by omega)]
      by_cases h1 : i - 1 < l.length
      · rw [if_pos h1, if_pos (by omega), atL, if_neg h0]
      · rw [if_neg h1, if_neg (by omega)]
        congr 1
        omega
theorem atL_in : ∀ (l : List Int) (i : Nat), i < l.length → atL l i = (l.getD i 0, true)
  | r :: l, 0, _ => rfl
  | r :: l, i + 1, h => by
    rw [atL, if_neg (by omega), show ((i + 1 : Nat) : Int) - 1 = (i : Int) by omega, atL_in l i (by simpa using h)]
    simp
theorem atL_out : ∀ (l : List Int) (i : Int), ¬ (0 ≤ i ∧ i < l.length) → atL l i = (0, false)
  | [], _, _ => rfl
  | r :: l, i, h => by
    simp only [List.length_cons] at h
    rw [atL, if_neg (by omega)]
    by_cases h0 : i < 0
    · exact atL_out l (i - 1) (by omega)
    · exact atL_out l (i - 1) (by omega)

theorem enc_short (s : ByteArray) (hs : s.size ≤ 32767) : (encS s).2 = 0 ∨ encS s = (⟨#[]⟩, 4) := by
  rw [encS]
  cases hv : validD s.data.toList with
  | false => rw [if_pos rfl]; exact .inr rfl
  | true =>
    rw [if_neg (by simp)]
    obtain ⟨_, i2⟩ := text_of s hv
    have h1 := encL_long (runes s)
    have h2 : s.size = (utfL (runes s)).length := by
      have := congrArg ByteArray.size i2
      rw [size_nums] at this
      exact this
    rw [if_neg (by omega)]
    exact .inl rfl

theorem text_size (l : List Int) : (Go.strOfNums (utfL l)).size = (utfL l).length := size_nums _
end Sp

set_option maxHeartbeats 4000000 in
theorem pick1_any (c n : Int) (w : World) (h0 : -9223372036854775808 ≤ c) (h1 : c ≤ 9223372036854775807) (hn : 0 < n) (hn2 : n ≤ 9223372036854775807) :
    Calls Tryd.prog 38 #[.int .i64 c, .int .i64 n] w fun e w' => (∃ i, e = .returned (.int .i64 i) ∧ 0 ≤ i ∧ i < n) ∧ w' = w := by
  have hd : n ≠ 0 := by omega
  by_cases hc : c < 0
  · have hm1 : 0 ≤ -(c + 1).tmod n := by rw [← Int.neg_tmod]; exact Int.tmod_nonneg _ (by omega)
    have hm2 : -(c + 1).tmod n < n := by rw [← Int.neg_tmod]; exact Int.tmod_lt_of_pos _ hn
    go_enter Tryd.func38, Tryd.ntmps38
    go_wp2
    go_ret
    exact ⟨⟨_, rfl, hm1, hm2⟩, rfl⟩
  · have hm1 : 0 ≤ c % n := Int.emod_nonneg _ hd
    have hm2 : c % n < n := Int.emod_lt_of_pos _ hn
    go_enter Tryd.func38, Tryd.ntmps38
    go_wp2
    go_ret
    exact ⟨⟨_, rfl, hm1, hm2⟩, rfl⟩
end Go.Proofs.YtkppjehpfjalbaaDoor
