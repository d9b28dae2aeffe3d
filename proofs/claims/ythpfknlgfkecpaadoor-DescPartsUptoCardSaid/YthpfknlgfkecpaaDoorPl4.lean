/-
  Plain: a text is its runes' UTF-8 (lists of numbers).
-/
import Derived.Test.YthpfknlgfkecpaaDoorPl3
import Derived.Laws.Cover4
set_option linter.unusedVariables false
set_option linter.unusedSimpArgs false
namespace Go.Proofs.YthpfknlgfkecpaaDoor.Sp
open Go.Lib

/-- Bytes' numbers. -/
def By (L : List Int) : Prop := ∀ x ∈ L, 0 ≤ x ∧ x ≤ 255
theorem By.app {L M : List Int} (h : By L) (k : By M) : By (L ++ M) := fun x hx => (List.mem_append.1 hx).elim (h x) (k x)
theorem By.drop {L : List Int} (h : By L) (n : Nat) : By (L.drop n) := fun x hx => h x (List.mem_of_mem_drop hx)
theorem By.take {L : List Int} (h : By L) (n : Nat) : By (L.take n) := fun x hx => h x (List.mem_of_mem_take hx)
theorem by_enc (r : Int) : By (encodeRuneZ r) := fun x hx => by have := encodeRuneZ_byte r x hx; omega
theorem by_utfL (l : List Int) : By (utfL l) := fun x hx => by
  obtain ⟨r, _, h⟩ := List.mem_flatMap.1 hx
  exact by_enc r x h
theorem by_encZ (r : Int) (h : Scal r) : By (encZ r) := by
  unfold Scal at h
  exact encZ_bytes r (by omega) (by omega)
theorem by_encL (l : List Int) (h : ∀ r ∈ l, Scal r) : By (encL l) := fun x hx => by
  obtain ⟨r, hr, h2⟩ := List.mem_flatMap.1 hx
  exact by_encZ r (h r hr) x h2

theorem size_nums (L : List Int) : (Go.strOfNums L).size = L.length := Go.strOfNums_size L
theorem bt_nums (L : List Int) (h : By L) (k : Nat) : bt (Go.strOfNums L) k = L.getD k 0 := by
  unfold bt
  rw [List.getD_eq_getElem?_getD]
  by_cases hk : k < L.length
  · rw [dif_pos (by rw [size_nums]; exact hk), List.getElem?_eq_getElem hk]
    have hx := h L[k] (List.getElem_mem hk)
    have e : (Go.strOfNums L)[k]'(by rw [size_nums]; exact hk) = UInt8.ofNat (L[k]).toNat := by
      have : ∀ (M : List UInt8) (hM : k < (⟨M.toArray⟩ : ByteArray).size) (hM2 : k < M.length), (⟨M.toArray⟩ : ByteArray)[k]'hM = M[k]'hM2 := fun M _ _ => rfl
      refine (this _ _ (by simpa using hk)).trans ?_
      simp
    rw [e]
    have : (L[k]).toNat < 256 := by omega
    have e2 : (UInt8.ofNat (L[k]).toNat).toNat = (L[k]).toNat := by simp [UInt8.toNat_ofNat, Nat.mod_eq_of_lt this]
    rw [e2]
    simp only [Option.getD_some]
    omega
  · rw [dif_neg (by rw [size_nums]; exact hk), List.getElem?_eq_none (by omega)]
    rfl
theorem nb_nums (L : List Int) (h : By L) (k : Nat) : (nb (Go.strOfNums L) k : Int) = L.getD k 0 := by rw [← bt_nb, bt_nums L h]
theorem extract_nums (L : List Int) (k : Nat) : (Go.strOfNums L).extract k (Go.strOfNums L).size = Go.strOfNums (L.drop k) := by
  have h : ∀ s : ByteArray, s.extract k s.size = ⟨(s.data.toList.drop k).toArray⟩ := fun s => by
    have := Lib.extract_to_end s k
    rw [← this]
  rw [h, Go.strOfNums_data]
  unfold Go.strOfNums
  rw [List.map_drop]
/-- A string's numbers. -/
def nums (s : ByteArray) : List Int := s.data.toList.map fun b => (b.toNat : Int)
theorem by_nums (s : ByteArray) : By (nums s) := fun x hx => by
  obtain ⟨b, _, rfl⟩ := List.mem_map.1 hx
  have := b.toNat_lt
  omega
theorem nums_str (s : ByteArray) : Go.strOfNums (nums s) = s := by
  unfold Go.strOfNums nums
  rw [List.map_map]
  have : ((fun n : Int => UInt8.ofNat n.toNat) ∘ fun b : UInt8 => (b.toNat : Int)) = id := by
    funext b
    simp [Function.comp]
  rw [this, List.map_id]
theorem str_nums (L : List Int) (h : By L) : nums (Go.strOfNums L) = L := by
  unfold nums
  rw [Go.strOfNums_data, List.map_map]
  rw [show L = L.map id by simp]
  simp only [List.map_map]
  apply List.map_congr_left
  intro x hx
  have := h x hx
  have h2 : x.toNat < 256 := by omega
  simp only [Function.comp, id]
  have e2 : (UInt8.ofNat x.toNat).toNat = x.toNat := by simp [UInt8.toNat_ofNat, Nat.mod_eq_of_lt h2]
  rw [e2]
  omega
theorem nums_inj {L M : List Int} (h : By L) (k : By M) (e : Go.strOfNums L = Go.strOfNums M) : L = M := by rw [← str_nums L h, e, str_nums M k]

/-- What the reference's next tells, by whole numbers. -/
theorem refNext_list (L : List Int) (h : By L) (h0 : 0 < L.length) : refNext (Go.strOfNums L) =
      if L.getD 0 0 < 128 then (L.getD 0 0, 1)
      else if 194 ≤ L.getD 0 0 ∧ L.getD 0 0 < 224 ∧ L.getD 1 0 / 64 = 2 then (L.getD 0 0 % 32 * 64 + L.getD 1 0 % 64, 2)
      else if 224 ≤ L.getD 0 0 ∧ L.getD 0 0 < 240 ∧ L.getD 1 0 / 64 = 2 ∧ L.getD 2 0 / 64 = 2 ∧ 2048 ≤ L.getD 0 0 % 16 * 4096 + L.getD 1 0 % 64 * 64 + L.getD 2 0 % 64 ∧ ¬ (55296 ≤ L.getD 0 0 % 16 * 4096 + L.getD 1 0 % 64 * 64 + L.getD 2 0 % 64 ∧ L.getD 0 0 % 16 * 4096 + L.getD 1 0 % 64 * 64 + L.getD 2 0 % 64 < 57344) then (L.getD 0 0 % 16 * 4096 + L.getD 1 0 % 64 * 64 + L.getD 2 0 % 64, 3)
      else if 240 ≤ L.getD 0 0 ∧ L.getD 0 0 < 245 ∧ L.getD 1 0 / 64 = 2 ∧ L.getD 2 0 / 64 = 2 ∧ L.getD 3 0 / 64 = 2 ∧ 65536 ≤ L.getD 0 0 % 8 * 262144 + L.getD 1 0 % 64 * 4096 + L.getD 2 0 % 64 * 64 + L.getD 3 0 % 64 ∧ L.getD 0 0 % 8 * 262144 + L.getD 1 0 % 64 * 4096 + L.getD 2 0 % 64 * 64 + L.getD 3 0 % 64 ≤ 1114111 then (L.getD 0 0 % 8 * 262144 + L.getD 1 0 % 64 * 4096 + L.getD 2 0 % 64 * 64 + L.getD 3 0 % 64, 4)
      else (0, 0) := by
  rw [refNext_nb _ (by rw [size_nums]; exact h0)]
  have e0 := nb_nums L h 0; have e1 := nb_nums L h 1; have e2 := nb_nums L h 2; have e3 := nb_nums L h 3
  rw [← e0, ← e1, ← e2, ← e3]
  clear e0 e1 e2 e3
  generalize nb (Go.strOfNums L) 0 = a
  generalize nb (Go.strOfNums L) 1 = b
  generalize nb (Go.strOfNums L) 2 = c
  generalize nb (Go.strOfNums L) 3 = d
  refine ite_congr (by simp only [eq_iff_iff]; omega) (fun _ => rfl) fun _ => ?_
  refine ite_congr (by simp only [eq_iff_iff]; omega) (fun _ => by simp only [Prod.mk.injEq, and_true]; omega) fun _ => ?_
  refine ite_congr (by simp only [eq_iff_iff]; omega) (fun _ => by simp only [Prod.mk.injEq, and_true]; omega) fun _ => ?_
  refine ite_congr (by simp only [eq_iff_iff]; omega) (fun _ => by simp only [Prod.mk.injEq, and_true]; omega) fun _ => rfl

/-- Behind a rune's UTF-8 the reference's next tells it. -/
theorem refNext_enc (r : Int) (M : List Int) (h : Scal r) (hM : By M) : refNext (Go.strOfNums (encodeRuneZ r ++ M)) = (r, ((encodeRuneZ r).length : Int)) := by
  have hl := encodeRuneZ_length r
  rw [refNext_list _ ((by_enc r).app hM) (by rw [List.length_append]; omega)]
  unfold Scal at h
  by_cases c1 : r ≤ 127
  · rw [encodeRuneZ_one (by omega) c1]
    simp only [List.cons_append, List.nil_append, List.getD_cons_zero, List.length_cons, List.length_nil]
    rw [if_pos (by omega)]
    rfl
  by_cases c2 : r ≤ 2047
  · rw [encodeRuneZ_two (by omega) c2]
    simp only [List.cons_append, List.nil_append, List.getD_cons_zero, List.getD_cons_succ, List.length_cons, List.length_nil]
    rw [if_neg (by omega), if_pos (by omega)]
    refine Prod.ext ?_ rfl
    simp only []
    omega
  by_cases c3 : r ≤ 65535
  · rw [encodeRuneZ_three (by omega)]
    simp only [List.cons_append, List.nil_append, List.getD_cons_zero, List.getD_cons_succ, List.length_cons, List.length_nil]
    rw [if_neg (by omega), if_neg (by omega), if_pos (by omega)]
    refine Prod.ext ?_ rfl
    simp only []
    omega
  · rw [encodeRuneZ_four (by omega) (by omega)]
    simp only [List.cons_append, List.nil_append, List.getD_cons_zero, List.getD_cons_succ, List.length_cons, List.length_nil]
    rw [if_neg (by omega), if_neg (by omega), if_neg (by omega), if_pos (by omega)]
    refine Prod.ext ?_ rfl
    simp only []
    omega

theorem list_head (L : List Int) (n : Nat) (hn : n ≤ L.length) : L = (List.range n).map (fun k => L.getD k 0) ++ L.drop n := by
  conv => lhs; rw [← List.take_append_drop n L]
  congr 1
  apply List.ext_getElem
  · simp [hn]
  · intro i h1 h2
    have : i < L.length := by simp at h1; omega
    simp [List.getD_eq_getElem?_getD, this]

theorem getD_out (L : List Int) (k : Nat) (h : L.length ≤ k) : L.getD k 0 = 0 := by simp [List.getD_eq_getElem?_getD, h]

/-- What the reference's next tells is a rune's UTF-8. -/
theorem refNext_inv (L : List Int) (h : By L) (h0 : 0 < L.length) (hn : (refNext (Go.strOfNums L)).2 ≠ 0) :
    Scal (refNext (Go.strOfNums L)).1 ∧ (refNext (Go.strOfNums L)).2 = ((encodeRuneZ (refNext (Go.strOfNums L)).1).length : Int) ∧ L = encodeRuneZ (refNext (Go.strOfNums L)).1 ++ L.drop (encodeRuneZ (refNext (Go.strOfNums L)).1).length := by
  have hg : ∀ k, 0 ≤ L.getD k 0 ∧ L.getD k 0 ≤ 255 := fun k => by
    by_cases hk : k < L.length
    · rw [List.getD_eq_getElem?_getD, List.getElem?_eq_getElem hk]
      exact h _ (List.getElem_mem hk)
    · rw [getD_out L k (by omega)]; omega
  have g0 := hg 0; have g1 := hg 1; have g2 := hg 2; have g3 := hg 3
  have o1 : L.length ≤ 1 → L.getD 1 0 = 0 := fun q => getD_out L 1 q
  have o2 : L.length ≤ 2 → L.getD 2 0 = 0 := fun q => getD_out L 2 q
  have o3 : L.length ≤ 3 → L.getD 3 0 = 0 := fun q => getD_out L 3 q
  have l1 := list_head L 1
  have l2 := list_head L 2
  have l3 := list_head L 3
  have l4 := list_head L 4
  simp only [List.range, List.range.loop, List.map_cons, List.map_nil] at l1 l2 l3 l4
  revert hn
  rw [refNext_list L h h0]
  generalize L.getD 0 0 = a at *
  generalize L.getD 1 0 = b at *
  generalize L.getD 2 0 = c at *
  generalize L.getD 3 0 = d at *
  by_cases c1 : a < 128
  · rw [if_pos c1]
    intro _
    simp only []
    rw [encodeRuneZ_one (by omega) (by omega)]
    exact ⟨.inl (by omega), rfl, l1 (by omega)⟩
  rw [if_neg c1]
  by_cases c2 : 194 ≤ a ∧ a < 224 ∧ b / 64 = 2
  · rw [if_pos c2]
    intro _
    simp only []
    rw [encodeRuneZ_two (by omega) (by omega), show 192 + (a % 32 * 64 + b % 64) / 64 = a by omega, show 128 + (a % 32 * 64 + b % 64) % 64 = b by omega]
    exact ⟨.inl (by omega), rfl, l2 (by omega)⟩
  rw [if_neg c2]
  by_cases c3 : 224 ≤ a ∧ a < 240 ∧ b / 64 = 2 ∧ c / 64 = 2 ∧ 2048 ≤ a % 16 * 4096 + b % 64 * 64 + c % 64 ∧ ¬ (55296 ≤ a % 16 * 4096 + b % 64 * 64 + c % 64 ∧ a % 16 * 4096 + b % 64 * 64 + c % 64 < 57344)
  · rw [if_pos c3]
    intro _
    simp only []
    rw [encodeRuneZ_three (by omega), show 224 + (a % 16 * 4096 + b % 64 * 64 + c % 64) / 4096 = a by omega, show 128 + (a % 16 * 4096 + b % 64 * 64 + c % 64) / 64 % 64 = b by omega, show 128 + (a % 16 * 4096 + b % 64 * 64 + c % 64) % 64 = c by omega]
    exact ⟨by unfold Scal; omega, rfl, l3 (by omega)⟩
  rw [if_neg c3]
  by_cases c4 : 240 ≤ a ∧ a < 245 ∧ b / 64 = 2 ∧ c / 64 = 2 ∧ d / 64 = 2 ∧ 65536 ≤ a % 8 * 262144 + b % 64 * 4096 + c % 64 * 64 + d % 64 ∧ a % 8 * 262144 + b % 64 * 4096 + c % 64 * 64 + d % 64 ≤ 1114111
  · rw [if_pos c4]
    intro _
    simp only []
    rw [encodeRuneZ_four (by omega) (by omega), show 240 + (a % 8 * 262144 + b % 64 * 4096 + c % 64 * 64 + d % 64) / 262144 = a by omega, show 128 + (a % 8 * 262144 + b % 64 * 4096 + c % 64 * 64 + d % 64) / 4096 % 64 = b by omega, show 128 + (a % 8 * 262144 + b % 64 * 4096 + c % 64 * 64 + d % 64) / 64 % 64 = c by omega, show 128 + (a % 8 * 262144 + b % 64 * 4096 + c % 64 * 64 + d % 64) % 64 = d by omega]
    exact ⟨.inr (by omega), rfl, l4 (by omega)⟩
  · rw [if_neg c4]
    intro q
    exact absurd rfl q

/-- A text of scalars: its runes and that it is valid. -/
theorem rB_utf : ∀ f (l : List Int), (∀ r ∈ l, Scal r) → (utfL l).length ≤ f → rB f (Go.strOfNums (utfL l)) = (l, true)
  | 0, l, h, hf => by
    cases l with
    | nil => rfl
    | cons r l =>
      exfalso
      have := encodeRuneZ_length r
      simp [utfL] at hf
      rw [hf.1] at this
      simp at this
  | f + 1, l, h, hf => by
    cases l with
    | nil => rw [rB, if_pos (by rfl)]
    | cons r l =>
      have hl := encodeRuneZ_length r
      have e : utfL (r :: l) = encodeRuneZ r ++ utfL l := by simp [utfL]
      rw [e, List.length_append] at hf
      rw [e, rB, if_neg (by rw [size_nums, List.length_append]; omega), refNext_enc r _ (h r (by simp)) (by_utfL l)]
      simp only [Int.toNat_natCast]
      rw [if_neg (by omega), extract_nums, List.drop_left, rB_utf f l (fun x hx => h x (by simp [hx])) (by omega)]

theorem refRunes_utf (l : List Int) (h : ∀ r ∈ l, Scal r) : refRunes (Go.strOfNums (utfL l)) = (l, true) := by
  rw [refRunes]
  exact rB_utf _ l h (by rw [size_nums]; exact Nat.le_refl _)
theorem runes_utf (l : List Int) (h : ∀ r ∈ l, Scal r) : runes (Go.strOfNums (utfL l)) = l := by
  have := refRunes_utf l h
  rw [refRunes_eq] at this
  exact (Prod.ext_iff.1 this).1
theorem valid_utf (l : List Int) (h : ∀ r ∈ l, Scal r) : validD (Go.strOfNums (utfL l)).data.toList = true := by
  have := refRunes_utf l h
  rw [refRunes_eq] at this
  exact (Prod.ext_iff.1 this).2

theorem rB_inv : ∀ f (L : List Int), By L → L.length ≤ f → (rB f (Go.strOfNums L)).2 = true → (∀ r ∈ (rB f (Go.strOfNums L)).1, Scal r) ∧ utfL (rB f (Go.strOfNums L)).1 = L
  | 0, L, h, hf, hv => by
    obtain rfl : L = [] := List.eq_nil_of_length_eq_zero (by omega)
    exact ⟨by simp [rB], by simp [rB, utfL]⟩
  | f + 1, L, h, hf, hv => by
    by_cases h0 : L.length = 0
    · obtain rfl : L = [] := List.eq_nil_of_length_eq_zero (by omega)
      rw [rB, if_pos (by rfl)]
      exact ⟨by simp, by simp [utfL]⟩
    rw [rB, if_neg (by rw [size_nums]; exact h0)] at hv ⊢
    by_cases hz : (refNext (Go.strOfNums L)).2 = 0
    · rw [if_pos hz] at hv
      simp at hv
    rw [if_neg hz] at hv ⊢
    obtain ⟨i1, i2, i3⟩ := refNext_inv L h (by omega) hz
    rw [i2] at hv ⊢
    simp only [Int.toNat_natCast, extract_nums] at hv ⊢
    have hl := encodeRuneZ_length (refNext (Go.strOfNums L)).1
    obtain ⟨j1, j2⟩ := rB_inv f (L.drop (encodeRuneZ (refNext (Go.strOfNums L)).1).length) (h.drop _) (by rw [List.length_drop]; omega) hv
    refine ⟨?_, ?_⟩
    · intro r hr
      rcases List.mem_cons.1 hr with rfl | hr
      · exact i1
      · exact j1 r hr
    · have : ∀ (r : Int) (l : List Int), utfL (r :: l) = encodeRuneZ r ++ utfL l := fun r l => by simp [utfL]
      rw [this, j2]
      exact i3.symm

/-- A valid text is the UTF-8 of its runes, which are scalars. -/
theorem text_of (s : ByteArray) (h : validD s.data.toList = true) : (∀ r ∈ runes s, Scal r) ∧ s = Go.strOfNums (utfL (runes s)) := by
  have hv : (rB s.size (Go.strOfNums (nums s))).2 = true := by
    rw [nums_str]
    have := refRunes_eq s
    rw [refRunes] at this
    rw [this]
    exact h
  obtain ⟨h1, h2⟩ := rB_inv s.size (nums s) (by_nums s) (by rw [nums, List.length_map, ← Lib.size_eq]; exact Nat.le_refl _) hv
  have e : (rB s.size (Go.strOfNums (nums s))).1 = runes s := by
    rw [nums_str]
    have := refRunes_eq s
    rw [refRunes] at this
    rw [this]
  rw [e] at h1 h2
  refine ⟨h1, ?_⟩
  rw [h2, nums_str]

theorem utf_inj (l m : List Int) (hl : ∀ r ∈ l, Scal r) (hm : ∀ r ∈ m, Scal r) (e : Go.strOfNums (utfL l) = Go.strOfNums (utfL m)) : l = m := by rw [← runes_utf l hl, e, runes_utf m hm]

theorem utfL_app (l m : List Int) : utfL (l ++ m) = utfL l ++ utfL m := by simp [utfL]
theorem encL_app (l m : List Int) : encL (l ++ m) = encL l ++ encL m := by simp [encL]
end Go.Proofs.YthpfknlgfkecpaaDoor.Sp
