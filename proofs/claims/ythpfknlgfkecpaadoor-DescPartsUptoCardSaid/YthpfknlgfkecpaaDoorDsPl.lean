/-
  Plain: a type's text, byte by byte.
-/
import Derived.Test.YthpfknlgfkecpaaDoorDs5
set_option linter.unusedVariables false
set_option linter.unusedSimpArgs false
namespace Go.Proofs.YthpfknlgfkecpaaDoor.Sp
open Go.RowKit Go.Lib

/-- How many brackets stand ahead. -/
def cnt (s : ByteArray) : Nat := s.size - (trimB s).size

theorem bt_list (s : ByteArray) (j : Nat) : bt s j = match s.data.toList[j]? with | some c => (c.toNat : Int) | none => 0 := by
  unfold bt
  by_cases h : j < s.size
  · have h2 : j < s.data.toList.length := by rw [← Lib.size_eq]; exact h
    rw [dif_pos h, List.getElem?_eq_getElem h2]
    rfl
  · have h2 : ¬ j < s.data.toList.length := by rw [← Lib.size_eq]; exact h
    rw [dif_neg h, List.getElem?_eq_none (by omega)]

theorem drop_split (c : UInt8) : ∀ l : List UInt8, ∃ k r, l = List.replicate k c ++ r ∧ l.dropWhile (· == c) = r ∧ ∀ x, r.head? = some x → x ≠ c
  | [] => ⟨0, [], rfl, rfl, by simp⟩
  | a :: l => by
    by_cases h : a = c
    · subst h
      obtain ⟨k, r, h1, h2, h3⟩ := drop_split a l
      refine ⟨k + 1, r, ?_, ?_, h3⟩
      · rw [List.replicate_succ, List.cons_append, ← h1]
      · rw [List.dropWhile_cons, if_pos (by simp), h2]
    · refine ⟨0, a :: l, rfl, ?_, ?_⟩
      · rw [List.dropWhile_cons, if_neg (by simpa using h)]
      · intro x hx
        simp at hx
        subst hx
        exact h

theorem trim_split (s : ByteArray) : s.data.toList = List.replicate (cnt s) 91 ++ (trimB s).data.toList ∧ (∀ x, (trimB s).data.toList.head? = some x → x ≠ 91) ∧ cnt s ≤ s.size := by
  obtain ⟨k, r, h1, h2, h3⟩ := drop_split 91 s.data.toList
  have e : (trimB s).data.toList = r := by
    rw [← h2]
    simp [trimB, Lib.trimLeftB]
  have hc : cnt s = k := by
    unfold cnt
    rw [Lib.size_eq, Lib.size_eq, e, h1]
    simp
  refine ⟨by rw [hc, e]; exact h1, by rw [e]; exact h3, ?_⟩
  unfold cnt
  omega

theorem cnt_bt (s : ByteArray) (j : Nat) (h : j < cnt s) : bt s j = 91 := by
  rw [bt_list, (trim_split s).1, List.getElem?_append_left (by simpa using h)]
  simp [h]

theorem trim_get (s : ByteArray) (j : Nat) : bt s (cnt s + j) = bt (trimB s) j := by
  rw [bt_list, bt_list, (trim_split s).1, List.getElem?_append_right (by simp)]
  simp

theorem pre_bt (s : ByteArray) (c : UInt8) (hc : c ≠ 0) : (Lib.hasPrefix s.data.toList [c] = true) ↔ bt s 0 = c.toNat := by
  rw [bt_list]
  unfold Lib.hasPrefix
  cases h : s.data.toList with
  | nil =>
    have : ¬ (0 : Int) = (c.toNat : Int) := by
      intro q
      apply hc
      have : c.toNat = 0 := by omega
      exact UInt8.toNat_inj.1 this
    simpa using this
  | cons a l =>
    simp
    constructor
    · intro q; rw [q]
    · intro q
      have : c.toNat = a.toNat := by omega
      exact UInt8.toNat_inj.1 this

theorem trim_head (s : ByteArray) (h : cnt s < s.size) : bt s (cnt s) ≠ 91 := by
  have h1 := trim_get s 0
  rw [Nat.add_zero] at h1
  rw [h1, bt_list]
  have h2 := (trim_split s).2.1
  cases hl : (trimB s).data.toList with
  | nil =>
    simp
  | cons a l =>
    rw [hl] at h2
    have := h2 a rfl
    simp
    intro q
    apply this
    have : a.toNat = (91 : UInt8).toNat := by
      show a.toNat = 91
      omega
    exact UInt8.toNat_inj.1 this

theorem ix_spec : ∀ (l : List UInt8) (c : UInt8), (Lib.indexByte l c = -1 ∧ ∀ (j : Nat) x, l[j]? = some x → x ≠ c) ∨ ∃ k : Nat, Lib.indexByte l c = k ∧ l[k]? = some c ∧ ∀ (j : Nat) x, j < k → l[j]? = some x → x ≠ c
  | [], c => .inl ⟨rfl, by simp⟩
  | a :: l, c => by
    by_cases h : a = c
    · refine .inr ⟨0, ?_, by simp [h], by simp⟩
      simp [Lib.indexByte, h]
    · have hb : (a == c) = false := by simpa using h
      rcases ix_spec l c with ⟨h1, h2⟩ | ⟨k, h1, h2, h3⟩
      · refine .inl ⟨by simp [Lib.indexByte, hb, h1], ?_⟩
        intro j x hj
        cases j with
        | zero => simp at hj; subst hj; exact h
        | succ j => exact h2 j x (by simpa using hj)
      · refine .inr ⟨k + 1, ?_, by simpa using h2, ?_⟩
        · simp only [Lib.indexByte, hb, h1]
          have : ((k : Int) == -1) = false := by rw [beq_eq_false_iff_ne]; omega
          rw [this]
          simp
        · intro j x hj hx
          cases j with
          | zero => simp at hx; subst hx; exact h
          | succ j => exact h3 j x (by omega) (by simpa using hx)

theorem bt_ne (s : ByteArray) (j : Nat) (h : j < s.size) (c : UInt8) (hx : ∀ x, s.data.toList[j]? = some x → x ≠ c) : bt s j ≠ c.toNat := by
  have h2 : j < s.data.toList.length := by rw [← Lib.size_eq]; exact h
  rw [bt_list, List.getElem?_eq_getElem h2]
  simp only []
  intro q
  apply hx _ (List.getElem?_eq_getElem h2)
  apply UInt8.toNat_inj.1
  omega

/-- Where the semicolon stands. -/
theorem ixC_spec (s : ByteArray) : (ixC s = -1 ∧ ∀ j, j < s.size → bt s j ≠ 59) ∨ ∃ k : Nat, ixC s = k ∧ k < s.size ∧ bt s k = 59 ∧ ∀ j, j < k → bt s j ≠ 59 := by
  rcases ix_spec s.data.toList 59 with ⟨h1, h2⟩ | ⟨k, h1, h2, h3⟩
  · exact .inl ⟨h1, fun j hj => bt_ne s j hj 59 (fun x hx => h2 j x hx)⟩
  · have hk : k < s.size := by
      have := (ixC_range s).2
      have e : ixC s = k := h1
      omega
    refine .inr ⟨k, h1, hk, ?_, fun j hj => bt_ne s j (by omega) 59 (fun x hx => h3 j x hj hx)⟩
    rw [bt_list, h2]
    rfl

theorem tail_get (s : ByteArray) (j : Nat) (h : cnt s < s.size) : bt (tailB (trimB s)) j = bt s (cnt s + 1 + j) ∧ (tailB (trimB s)).size = s.size - cnt s - 1 := by
  have hs : (tailB (trimB s)).size = (trimB s).size - 1 := by simp [tailB]
  have h2 := trim_size s
  have h3 : (trimB s).size = s.size - cnt s := by unfold cnt at *; omega
  refine ⟨?_, by omega⟩
  rw [bt_nb, tailB, nb_extract, ← bt_nb, ← trim_get, Nat.add_assoc]

theorem trim_zero (s : ByteArray) : bt s (cnt s) = bt (trimB s) 0 := by
  have := trim_get s 0
  rwa [Nat.add_zero] at this
theorem dims_eq (s : ByteArray) : ((s.size : Int) - (trimB s).size) = (cnt s : Int) := by
  have := trim_size s
  unfold cnt
  omega
theorem bt_end (s : ByteArray) (j : Nat) (h : ¬ j < s.size) : bt s j = 0 := by rw [bt, dif_neg h]
theorem readS_I (s : ByteArray) (h : bt s (cnt s) = 73) : readS s = if rightS ((cnt s : Int), ⟨#[]⟩) = true then some (((cnt s : Int), ⟨#[]⟩), tailB (trimB s)) else none := by
  rw [readS, if_pos ((pre_bt _ 73 (by decide)).2 (by rw [← trim_zero, h]; rfl)), dims_eq]
theorem readS_none (s : ByteArray) (h1 : bt s (cnt s) ≠ 73) (h2 : bt s (cnt s) ≠ 76) : readS s = none := by
  rw [readS, if_neg, if_neg]
  · intro q
    exact h2 (by rw [trim_zero]; exact (pre_bt _ 76 (by decide)).1 q)
  · intro q
    exact h1 (by rw [trim_zero]; exact (pre_bt _ 73 (by decide)).1 q)
theorem readS_L (s : ByteArray) (h : bt s (cnt s) = 76) : readS s =
    if ixC (tailB (trimB s)) < 0 ∨ ((tailB (trimB s)).extract 0 (ixC (tailB (trimB s))).toNat).size = 0 then none
    else if rightS ((cnt s : Int), (tailB (trimB s)).extract 0 (ixC (tailB (trimB s))).toNat) = true then some (((cnt s : Int), (tailB (trimB s)).extract 0 (ixC (tailB (trimB s))).toNat), (tailB (trimB s)).extract ((ixC (tailB (trimB s))).toNat + 1) (tailB (trimB s)).size) else none := by
  have h1 : ¬ Lib.hasPrefix (trimB s).data.toList [73] = true := by
    intro q
    have := (pre_bt _ 73 (by decide)).1 q
    rw [← trim_zero, h] at this
    revert this
    decide
  rw [readS, if_neg h1, if_pos ((pre_bt _ 76 (by decide)).2 (by rw [← trim_zero, h]; rfl)), dims_eq]
theorem readS_deep (s : ByteArray) (h : 4 < cnt s) : readS s = none := by
  have hr : ∀ n, rightS ((cnt s : Int), n) = false := by
    intro n
    have : ¬ (cnt s : Int) ≤ 4 := by omega
    simp [rightS, this]
  by_cases h1 : bt s (cnt s) = 73
  · rw [readS_I s h1, if_neg (by rw [hr]; simp)]
  · by_cases h2 : bt s (cnt s) = 76
    · rw [readS_L s h2]
      split
      · rfl
      · rw [if_neg (by rw [hr]; simp)]
    · exact readS_none s h1 h2

theorem ext_list (a b : ByteArray) (h : a.data.toList = b.data.toList) : a = b := by
  apply ByteArray.ext
  exact Array.ext' h
theorem trim_extract (s : ByteArray) : trimB s = s.extract (cnt s) s.size := by
  apply ext_list
  have h := (trim_split s).1
  rw [Lib.extract_to_end]
  rw [h]
  simp
theorem tail_extract (s : ByteArray) : tailB (trimB s) = s.extract (cnt s + 1) s.size := by
  apply ext_list
  rw [tailB, Lib.extract_to_end, trim_extract, Lib.extract_to_end, Lib.extract_to_end]
  simp [List.drop_drop]
theorem cut_extract (s : ByteArray) (a k : Nat) : (s.extract a s.size).extract 0 k = s.extract a (a + k) := by
  apply ext_list
  rw [Lib.extract_data, Lib.extract_to_end, Lib.extract_data, List.drop_zero, Nat.sub_zero, Nat.add_sub_cancel_left]

theorem drop_extract (s : ByteArray) (a k : Nat) : (s.extract a s.size).extract k (s.extract a s.size).size = s.extract (a + k) s.size := by
  apply ext_list
  rw [Lib.extract_to_end, Lib.extract_to_end, Lib.extract_to_end, List.drop_drop]

/-- A class type's text. -/
theorem readS_class (s : ByteArray) (h : bt s (cnt s) = 76) (hc : cnt s < s.size) (h4 : cnt s ≤ 4) :
    ∃ E, cnt s + 1 ≤ E ∧ E ≤ s.size ∧ (∀ j, cnt s + 1 ≤ j → j < E → bt s j ≠ 59) ∧ (E < s.size → bt s E = 59) ∧
      readS s = if E = s.size ∨ nameS (s.extract (cnt s + 1) E) = false then none else some (((cnt s : Int), s.extract (cnt s + 1) E), s.extract (E + 1) s.size) := by
  have hz := (tail_get s 0 hc).2
  have hr : ∀ n : ByteArray, n.size ≠ 0 → rightS ((cnt s : Int), n) = nameS n := by
    intro n hn
    have q0 : (0 : Int) ≤ (cnt s : Int) := by omega
    have q4 : (cnt s : Int) ≤ 4 := by omega
    simp only [rightS, decide_eq_true q0, decide_eq_true q4, Bool.true_and, decide_eq_false hn, Bool.false_or]
  have hn0 : ∀ n : ByteArray, n.size = 0 → nameS n = false := by
    intro n hn
    have : n = ⟨#[]⟩ := str_empty n hn
    subst this
    decide +kernel
  have hL := readS_L s h
  rcases ixC_spec (tailB (trimB s)) with ⟨h1, h2⟩ | ⟨k, h1, h2, h3, h5⟩
  · refine ⟨s.size, by omega, Nat.le_refl _, ?_, fun q => absurd q (Nat.lt_irrefl _), ?_⟩
    · intro j hj1 hj2
      have := h2 (j - (cnt s + 1)) (by omega)
      rw [(tail_get s _ hc).1] at this
      rwa [show cnt s + 1 + (j - (cnt s + 1)) = j by omega] at this
    · rw [hL, h1, if_pos (.inl (by decide)), if_pos (.inl rfl)]
  · have e1 : (tailB (trimB s)).extract 0 k = s.extract (cnt s + 1) (cnt s + 1 + k) := by rw [tail_extract, cut_extract]
    have e2 : (tailB (trimB s)).extract (k + 1) (tailB (trimB s)).size = s.extract (cnt s + 1 + k + 1) s.size := by rw [tail_extract, drop_extract, show cnt s + 1 + (k + 1) = cnt s + 1 + k + 1 by omega]
    refine ⟨cnt s + 1 + k, by omega, by omega, ?_, ?_, ?_⟩
    · intro j hj1 hj2
      have := h5 (j - (cnt s + 1)) (by omega)
      rw [(tail_get s _ hc).1] at this
      rwa [show cnt s + 1 + (j - (cnt s + 1)) = j by omega] at this
    · intro _
      rw [(tail_get s _ hc).1] at h3
      exact h3
    · rw [hL, h1]
      simp only [Int.toNat_natCast]
      rw [e1, e2]
      by_cases hz0 : (s.extract (cnt s + 1) (cnt s + 1 + k)).size = 0
      · rw [if_pos (.inr hz0), if_pos (.inr (hn0 _ hz0))]
      · rw [if_neg (by omega), hr _ hz0]
        cases nameS (s.extract (cnt s + 1) (cnt s + 1 + k)) with
        | false => rw [if_neg (by simp), if_pos (.inr rfl)]
        | true => rw [if_pos rfl, if_neg (by simp; omega)]
end Go.Proofs.YthpfknlgfkecpaaDoor.Sp
