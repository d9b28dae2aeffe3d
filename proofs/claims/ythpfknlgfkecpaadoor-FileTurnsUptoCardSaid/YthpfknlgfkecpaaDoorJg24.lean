/-
  Texts of the proof, joined: each says at its head what it proves.
-/
import Derived.Test.YthpfknlgfkecpaaDoorJg22
import Derived.Test.YthpfknlgfkecpaaDoorJg23
section
/-
  Plain: a class that may be is read as it was written; what is cut is none; and the walk of cruciblelaw3's pick.
-/
set_option linter.unusedVariables false
set_option linter.unusedSimpArgs false
namespace Go.Proofs.YthpfknlgfkecpaaDoor
open Go.RowKit Go.Lib

namespace Sp
theorem encode_said {F : Fl} (h : (encodeF F).2 = 0) : partsS F = 0 ∧ (encodeF F).1 = Go.strOfNums (bytesS F) := by
  unfold encodeF at h ⊢
  by_cases hp : partsS F = 0
  · rw [if_neg (by simp [hp])] at h ⊢
    by_cases hb : 65536 < (bytesS F).length
    · rw [if_pos hb] at h; cases h
    · rw [if_neg hb]; exact ⟨hp, rfl⟩
  · rw [if_pos hp] at h; exact absurd h hp
theorem encode_void {F : Fl} (h : ¬ (encodeF F).2 = 0) : (encodeF F).1 = ⟨#[]⟩ := by
  unfold encodeF at h ⊢
  by_cases hp : partsS F = 0
  · rw [if_neg (by simp [hp])] at h ⊢
    by_cases hb : 65536 < (bytesS F).length
    · rw [if_pos hb]
    · rw [if_neg hb] at h; exact absurd rfl h
  · rw [if_pos hp]
theorem str_app (L M : List Int) : Go.strOfNums (L ++ M) = Go.strOfNums L ++ Go.strOfNums M := by
  apply ByteArray.ext
  rw [ByteArray.data_append]
  unfold Go.strOfNums
  simp
theorem x_str : Go.strOfNums [120] = ⟨#[120]⟩ := by decide +kernel
/-- A class that may be, and its bytes. -/
theorem back_all {F : Fl} (h : (encodeF F).2 = 0) (hn : ∀ c ∈ F.pool, In64 c.n) : (0 < (encodeF F).1.size ∧ (encodeF F).1.size ≤ 65536) ∧ parseS (encodeF F).1 = (F, 0) ∧ (∀ k, k < (encodeF F).1.size → parseS ((encodeF F).1.extract 0 k) = (zeroFl, 5)) ∧ parseS ((encodeF F).1 ++ ⟨#[120]⟩) = (zeroFl, if (encodeF F).1.size = 65536 then 2 else 6) := by
  obtain ⟨hp, hb⟩ := encode_said h
  obtain ⟨_, hl, hz⟩ := encode_ok h
  have h0 : 0 < (bytesS F).length := by rw [bytes_body, List.length_append]; simp; omega
  rw [hz]
  refine ⟨⟨h0, hl⟩, ?_, ?_, ?_⟩
  · rw [hb]
    exact parse_back F hp hn hl
  · intro k hk
    rw [hb, extract_take]
    exact parse_cut F hp hn hl k hk
  · rw [hb, ← x_str, ← str_app, parse_more F hp hn 120 (by omega)]
    by_cases hq : (bytesS F).length = 65536
    · rw [if_pos (by omega), if_pos hq]
    · rw [if_neg (by omega), if_neg hq]
end Sp
set_option maxHeartbeats 4000000 in
set_option maxRecDepth 100000 in
theorem pick3b_any (c n : Int) (w : World) (h : In64 c) (hn : 0 < n) (hn2 : n ≤ 9223372036854775807) :
    Calls Tryd.prog 38 #[.int .i64 c, .int .i64 n] w fun e w' => (∃ i, e = .returned (.int .i64 i) ∧ 0 ≤ i ∧ i < n) ∧ w' = w := by
  obtain ⟨h0, h1⟩ := h
  have hd : n ≠ 0 := by omega
  by_cases hc : c < 0
  · have hm1 : 0 ≤ -(c + 1).tmod n := by rw [← Int.neg_tmod]; exact Int.tmod_nonneg _ (by omega)
    have hm2 : -(c + 1).tmod n < n := by rw [← Int.neg_tmod]; exact Int.tmod_lt_of_pos _ hn
    go_enter Tryd.func38, Tryd.ntmps38
    go_wp2
    go_ret
    exact ⟨⟨_, rfl, hm1, hm2⟩, rfl⟩
  · have hm1 : 0 ≤ c % n := Int.emod_nonneg _ hd
    have hm2 : c % n < n := Int.emod_lt_of_pos _ hn
    go_enter Tryd.func38, Tryd.ntmps38
    go_wp2
    go_ret
    exact ⟨⟨_, rfl, hm1, hm2⟩, rfl⟩
end Go.Proofs.YthpfknlgfkecpaaDoor
end
