/-
  Plain: mutf.Make's text of runes.
-/
import Derived.Test.YtkppjehpfjalbaaDoorPl6
set_option linter.unusedVariables false
set_option linter.unusedSimpArgs false
namespace Go.Proofs.YtkppjehpfjalbaaDoor
open Go.RowKit Go.Lib
namespace Sp
theorem encode_nums (r : Int) (h : Scal r) : Utf8.encode r = Go.strOfNums (encodeRuneZ r) := by
  have hv : Utf8.valid r = true := by
    unfold Scal at h
    simp only [Utf8.valid, Bool.or_eq_true, Bool.and_eq_true, decide_eq_true_eq]
    omega
  unfold Scal at h
  obtain ⟨n, rfl⟩ : ∃ n : Nat, r = n := ⟨r.toNat, by omega⟩
  simp only [Utf8.encode, hv, if_true, Int.toNat_natCast]
  by_cases c1 : n < 128
  · rw [if_pos c1, encodeRuneZ_one (by omega) (by omega)]
    rfl
  rw [if_neg c1]
  by_cases c2 : n < 2048
  · rw [if_pos c2, encodeRuneZ_two (by omega) (by omega)]
    unfold Go.strOfNums
    simp only [List.map_cons, List.map_nil]
    rw [show (192 + (n : Int) / 64).toNat = 192 + n / 64 by omega, show (128 + (n : Int) % 64).toNat = 128 + n % 64 by omega]
  rw [if_neg c2]
  by_cases c3 : n < 65536
  · rw [if_pos c3, encodeRuneZ_three (by omega)]
    unfold Go.strOfNums
    simp only [List.map_cons, List.map_nil]
    rw [show (224 + (n : Int) / 4096).toNat = 224 + n / 4096 by omega, show (128 + (n : Int) / 64 % 64).toNat = 128 + n / 64 % 64 by omega, show (128 + (n : Int) % 64).toNat = 128 + n % 64 by omega]
  rw [if_neg c3, encodeRuneZ_four (by omega) (by omega)]
  unfold Go.strOfNums
  simp only [List.map_cons, List.map_nil]
  rw [show (240 + (n : Int) / 262144).toNat = 240 + n / 262144 by omega, show (128 + (n : Int) / 4096 % 64).toNat = 128 + n / 4096 % 64 by omega, show (128 + (n : Int) / 64 % 64).toNat = 128 + n / 64 % 64 by omega, show (128 + (n : Int) % 64).toNat = 128 + n % 64 by omega]

theorem fold_nums : ∀ (l acc : List Int), (∀ r ∈ l, Scal r) → l.foldl (fun r n => r ++ Utf8.encode n) (Go.strOfNums acc) = Go.strOfNums (acc ++ utfL l)
  | [], acc, _ => by simp [utfL]
  | r :: l, acc, h => by
    rw [List.foldl_cons, encode_nums r (h r (by simp)), strOfNums_append, fold_nums l _ (fun x hx => h x (by simp [hx]))]
    simp [utfL]
theorem runesBytes_utf (l : List Int) (h : ∀ r ∈ l, Scal r) : runesBytes l = Go.strOfNums (utfL l) := fold_nums l [] h
theorem makeS_eq (l : List Int) : makeS l = if l.all (fun r => decide (Scal r)) then (Go.strOfNums (utfL l), 0) else (⟨#[]⟩, 1) := by
  rw [makeS, show Lib.validRune = fun r => decide (Scal r) from funext validRune_scal]
  split
  · rename_i h
    rw [runesBytes_utf]
    intro r hr
    exact of_decide_eq_true (List.all_eq_true.1 h r hr)
  · rfl
theorem makeS_all (l : List Int) (h : ∀ r ∈ l, Scal r) : makeS l = (Go.strOfNums (utfL l), 0) := by
  rw [makeS_eq, if_pos]
  rw [List.all_eq_true]
  intro r hr
  exact decide_eq_true (h r hr)
end Sp
end Go.Proofs.YtkppjehpfjalbaaDoor
