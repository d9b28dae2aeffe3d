/-
  Walks of slices.Contains at []rune, mutf.Runes and mutf.Make.
-/
import Derived.Test.YthpfknlgfkecpaaDoorMwBase
import Derived.Laws.IdiomStrings
import Derived.Laws.Cover4
import Derived.Deep.QuietTactic
import Derived.BigQuiet
import Derived.KernelRfl
set_option linter.unusedVariables false
set_option linter.unusedSimpArgs false
namespace Go.Proofs.YthpfknlgfkecpaaDoor
open Go.RowKit Go.Lib

/-- A slice of numbers that is read: nil, empty and other slices alike. -/
def RdN (k : IntKind) (w : World) (A : Option Addr) (xs : List Int) : Prop :=
  xs.length ≤ 9223372036854775807 ∧ (0 < xs.length → ∃ b o, A = some ⟨b, o, none⟩ ∧ ∀ j, j < xs.length → w.cell? ⟨b, o + j, none⟩ = some (.int k (xs.getD j 0)))

/-- The place of a number. -/
def idx : List Int → Int → Int → Int
  | [], _, _ => -1
  | x :: l, v, at_ => if v = x then at_ else idx l v (at_ + 1)

theorem idx_lo : ∀ (l : List Int) (v a : Int), 0 ≤ a → (idx l v a = -1 ∧ v ∉ l) ∨ (0 ≤ idx l v a ∧ v ∈ l)
  | [], _, _, _ => .inl ⟨rfl, by simp⟩
  | x :: l, v, a, h => by
    unfold idx
    split
    · rename_i e; exact .inr ⟨h, by simp [e]⟩
    · rename_i e
      rcases idx_lo l v (a + 1) (by omega) with ⟨h1, h2⟩ | ⟨h1, h2⟩
      · exact .inl ⟨h1, by simp [e, h2]⟩
      · exact .inr ⟨h1, by simp [h2]⟩

set_option maxHeartbeats 4000000 in
theorem index_rune (A : Option Addr) (c : Nat) (xs : List Int) (v : Int) (w : World) (h : RdN .i32 w A xs) :
    Calls Tryd.prog 130 #[.slice A xs.length c, .int .i32 v] w fun e w' => e = .returned (.int .i64 (idx xs v 0)) ∧ w' = w := by
  obtain ⟨hl, hc⟩ := h
  have HC := Lib.hid hc
  clear hc
  go_enter Tryd.func130, Tryd.ntmps130
  go_wp2
  go_loop [8] (fun n => ∃ k : Nat, k ≤ xs.length ∧ n = .int .i64 k ∧ Hid (idx (xs.drop k) v k = idx xs v 0)) (fun n => xs.length - (RowKit.intOf n).toNat)
  case atStart => exact ⟨0, Nat.zero_le _, rfl, Lib.hid (by simp)⟩
  case round =>
    obtain ⟨k, hk, rfl, hi⟩ := hrel
    by_cases hlt : k < xs.length
    · obtain ⟨b, o, rfl, hcell⟩ := HC.out (by omega)
      have hck := hcell k hlt
      clear hcell
      have hd : Hid (xs.drop k = xs.getD k 0 :: xs.drop (k + 1)) := Lib.hid (by rw [List.drop_eq_getElem_cons hlt]; simp [List.getD_eq_getElem?_getD, hlt])
      generalize xs.getD k 0 = y at hck hd
      by_cases he : v = y
      · have he' : (v == y) = true := by simpa using he
        have hv : Hid (idx xs v 0 = k) := Lib.hid (by rw [← hi.out, hd.out, idx, if_pos he])
        clear he hi hd
        go_wp2
        go_ret
        exact ⟨by rw [hv.out]; rfl, rfl⟩
      · have he' : (v == y) = false := by simpa using he
        have hv : Hid (idx (xs.drop (k + 1)) v (k + 1 : Nat) = idx xs v 0) := Lib.hid (by rw [← hi.out, hd.out, idx, if_neg he]; simp)
        clear he hi hd
        go_wp2
        go_round
        case rel => exact ⟨k + 1, by omega, by go_num, hv⟩
        case measure => simp [RowKit.intOf]; omega
    · have hv : Hid (idx xs v 0 = -1) := Lib.hid (by rw [← hi.out, List.drop_eq_nil_of_le (by omega)]; rfl)
      clear hi
      go_wp2
      go_ret
      exact ⟨by rw [hv.out]; rfl, rfl⟩

theorem contains_rune (A : Option Addr) (c : Nat) (xs : List Int) (v : Int) (w : World) (h : RdN .i32 w A xs) :
    Calls Tryd.prog 105 #[.slice A xs.length c, .int .i32 v] w fun e w' => e = .returned (.bool (decide (v ∈ xs))) ∧ w' = w := by
  rcases idx_lo xs v 0 (by omega) with ⟨h1, h2⟩ | ⟨h1, h2⟩
  · have hd : decide (v ∈ xs) = false := by simpa using h2
    have H1 := Lib.hid h1
    clear h1 h2
    go_enter Tryd.func105, Tryd.ntmps105
    go_wp2_with fail
    refine (index_rune A c xs v _ h).mono ?_
    rintro e w' ⟨rfl, rfl⟩
    rw [H1.out]
    go_wp2
    go_ret
    exact ⟨by rw [hd]; rfl, rfl⟩
  · have hd : decide (v ∈ xs) = true := by simpa using h2
    have H1 := Lib.hid h1
    clear h1 h2
    go_enter Tryd.func105, Tryd.ntmps105
    go_wp2_with fail
    refine (index_rune A c xs v _ h).mono ?_
    rintro e w' ⟨rfl, rfl⟩
    have h1' := H1.out
    generalize idx xs v 0 = q at h1' ⊢
    go_wp2
    go_ret
    exact ⟨by rw [hd]; rfl, rfl⟩
end Go.Proofs.YthpfknlgfkecpaaDoor
