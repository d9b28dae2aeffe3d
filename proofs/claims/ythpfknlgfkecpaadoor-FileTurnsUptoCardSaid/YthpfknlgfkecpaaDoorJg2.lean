/-
  Texts of the proof, joined: each says at its head what it proves.
-/
import Derived.Test.YthpfknlgfkecpaaDoorJFileNamesx3
section
/-
  Plain: bytes of modified UTF-8 and the runes that they tell.
-/
set_option linter.unusedVariables false
set_option linter.unusedSimpArgs false
namespace Go.Proofs.YthpfknlgfkecpaaDoor.Sp
open Go.Lib

theorem getD_by (L : List Int) (h : By L) (k : Nat) : 0 ≤ L.getD k 0 ∧ L.getD k 0 ≤ 255 := by
  by_cases hk : k < L.length
  · rw [List.getD_eq_getElem?_getD, List.getElem?_eq_getElem hk]
    exact h _ (List.getElem_mem hk)
  · rw [getD_out L k (by omega)]; omega

theorem refUnit_list (L : List Int) (h : By L) : refUnit (Go.strOfNums L) =
    if ¬ (224 ≤ L.getD 0 0 ∧ L.getD 0 0 < 240) ∨ ¬ (128 ≤ L.getD 1 0 ∧ L.getD 1 0 < 192) ∨ ¬ (128 ≤ L.getD 2 0 ∧ L.getD 2 0 < 192) then -1
    else if (L.getD 0 0 - 224) * 4096 + (L.getD 1 0 - 128) * 64 + L.getD 2 0 - 128 < 2048 then -1
    else (L.getD 0 0 - 224) * 4096 + (L.getD 1 0 - 128) * 64 + L.getD 2 0 - 128 := by
  have o2 : L.length ≤ 2 → L.getD 2 0 = 0 := fun q => getD_out L 2 q
  unfold refUnit
  rw [size_nums, bt_nums L h, bt_nums L h, bt_nums L h]
  generalize L.getD 0 0 = a at *
  generalize L.getD 1 0 = b at *
  generalize L.getD 2 0 = c at *
  exact ite_congr (by simp only [eq_iff_iff]; omega) (fun _ => rfl) fun _ => rfl

theorem three_by (u : Int) (h0 : 0 ≤ u) (h1 : u < 65536) : By (three u) := by
  intro x hx
  simp [three] at hx
  omega

theorem refUnit_three (u : Int) (M : List Int) (h0 : 2048 ≤ u) (h1 : u < 65536) (hM : By M) : refUnit (Go.strOfNums (three u ++ M)) = u := by
  rw [refUnit_list _ ((three_by u (by omega) h1).app hM)]
  simp only [three, List.cons_append, List.nil_append, List.getD_cons_zero, List.getD_cons_succ]
  rw [if_neg (by omega), if_neg (by omega)]
  omega

theorem refUnit_inv (L : List Int) (h : By L) (h0 : 0 ≤ refUnit (Go.strOfNums L)) : 2048 ≤ refUnit (Go.strOfNums L) ∧ refUnit (Go.strOfNums L) < 65536 ∧ L = three (refUnit (Go.strOfNums L)) ++ L.drop 3 := by
  have g0 := getD_by L h 0; have g1 := getD_by L h 1; have g2 := getD_by L h 2
  have o2 : L.length ≤ 2 → L.getD 2 0 = 0 := fun q => getD_out L 2 q
  have l3 := list_head L 3
  simp only [List.range, List.range.loop, List.map_cons, List.map_nil] at l3
  revert h0
  rw [refUnit_list L h]
  generalize L.getD 0 0 = a at *
  generalize L.getD 1 0 = b at *
  generalize L.getD 2 0 = c at *
  by_cases c1 : ¬ (224 ≤ a ∧ a < 240) ∨ ¬ (128 ≤ b ∧ b < 192) ∨ ¬ (128 ≤ c ∧ c < 192)
  · rw [if_pos c1]; intro q; omega
  rw [if_neg c1]
  by_cases c2 : (a - 224) * 4096 + (b - 128) * 64 + c - 128 < 2048
  · rw [if_pos c2]; intro q; omega
  rw [if_neg c2]
  intro _
  refine ⟨by omega, by omega, ?_⟩
  unfold three
  rw [show 224 + ((a - 224) * 4096 + (b - 128) * 64 + c - 128) / 4096 = a by omega, show 128 + ((a - 224) * 4096 + (b - 128) * 64 + c - 128) / 64 % 64 = b by omega, show 128 + ((a - 224) * 4096 + (b - 128) * 64 + c - 128) % 64 = c by omega]
  exact l3 (by omega)

/-- The reference's step, by a list. -/
theorem refStep_list (L : List Int) (h : By L) : refStep (Go.strOfNums L) =
  if 1 ≤ L.getD 0 0 ∧ L.getD 0 0 < 128 then (L.getD 0 0, 1)
  else if 192 ≤ L.getD 0 0 ∧ L.getD 0 0 < 224 then
    if 128 ≤ L.getD 1 0 ∧ L.getD 1 0 < 192 then
      if 1 ≤ (L.getD 0 0 - 192) * 64 + L.getD 1 0 - 128 ∧ (L.getD 0 0 - 192) * 64 + L.getD 1 0 - 128 < 128 then (-1, 2) else ((L.getD 0 0 - 192) * 64 + L.getD 1 0 - 128, 2)
    else (-1, 1)
  else if 55296 ≤ refUnit (Go.strOfNums L) ∧ refUnit (Go.strOfNums L) < 56320 then
    if 56320 ≤ refUnit (Go.strOfNums (L.drop 3)) ∧ refUnit (Go.strOfNums (L.drop 3)) < 57344 then (65536 + (refUnit (Go.strOfNums L) - 55296) * 1024 + refUnit (Go.strOfNums (L.drop 3)) - 56320, 6) else (-1, 1)
  else if 0 ≤ refUnit (Go.strOfNums L) ∧ (refUnit (Go.strOfNums L) < 56320 ∨ 57344 ≤ refUnit (Go.strOfNums L)) then (refUnit (Go.strOfNums L), 3)
  else (-1, 1) := by
  have o1 : L.length ≤ 1 → L.getD 1 0 = 0 := fun q => getD_out L 1 q
  unfold refStep
  rw [extract_nums, size_nums, bt_nums L h, bt_nums L h]
  refine ite_congr rfl (fun _ => rfl) fun _ => ?_
  refine ite_congr rfl (fun _ => ?_) fun _ => rfl
  refine ite_congr (by simp only [eq_iff_iff]; omega) (fun _ => rfl) fun _ => rfl

theorem refStep_enc (r : Int) (M : List Int) (h : Scal r) (hM : By M) : refStep (Go.strOfNums (encZ r ++ M)) = (r, (encZ r).length) := by
  have hb := (by_encZ r h).app hM
  unfold Scal at h
  rw [refStep_list _ hb]
  clear hb
  unfold encZ
  by_cases c1 : 0 < r ∧ r < 128
  · rw [if_pos c1]
    simp only [List.cons_append, List.nil_append, List.getD_cons_zero, List.length_cons, List.length_nil]
    rw [if_pos (by omega)]
  rw [if_neg c1]
  by_cases c2 : r < 2048
  · rw [if_pos c2]
    simp only [List.cons_append, List.nil_append, List.getD_cons_zero, List.getD_cons_succ, List.length_cons, List.length_nil]
    rw [if_neg (by omega), if_pos (by omega), if_pos (by omega), if_neg (by omega)]
    refine Prod.ext ?_ rfl
    simp only []
    omega
  rw [if_neg c2]
  by_cases c3 : r < 65536
  · rw [if_pos c3, refUnit_three r M (by omega) c3 hM]
    simp only [three, List.cons_append, List.nil_append, List.getD_cons_zero, List.getD_cons_succ, List.length_cons, List.length_nil]
    rw [if_neg (by omega), if_neg (by omega), if_neg (by omega), if_pos (by omega)]
  · rw [if_neg c3, List.append_assoc, refUnit_three _ _ (by omega) (by omega) ((three_by _ (by omega) (by omega)).app hM)]
    have e : (three (55296 + (r - 65536) / 1024) ++ (three (56320 + (r - 65536) % 1024) ++ M)).drop 3 = three (56320 + (r - 65536) % 1024) ++ M := rfl
    rw [e, refUnit_three _ M (by omega) (by omega) hM]
    simp only [three, List.cons_append, List.nil_append, List.getD_cons_zero, List.getD_cons_succ, List.length_cons, List.length_nil, List.length_append]
    rw [if_neg (by omega), if_neg (by omega), if_pos (by omega), if_pos (by omega)]
    refine Prod.ext ?_ rfl
    simp only []
    omega

theorem refStep_inv (L : List Int) (h : By L) (h0 : 0 ≤ (refStep (Go.strOfNums L)).1) :
    (refStep (Go.strOfNums L)).2 = (encZ (refStep (Go.strOfNums L)).1).length ∧ L = encZ (refStep (Go.strOfNums L)).1 ++ L.drop (encZ (refStep (Go.strOfNums L)).1).length := by
  have g0 := getD_by L h 0; have g1 := getD_by L h 1
  have o0 : L.length ≤ 0 → L.getD 0 0 = 0 := fun q => getD_out L 0 q
  have o1 : L.length ≤ 1 → L.getD 1 0 = 0 := fun q => getD_out L 1 q
  have l1 := list_head L 1
  have l2 := list_head L 2
  simp only [List.range, List.range.loop, List.map_cons, List.map_nil] at l1 l2
  have hu := refUnit_inv L h
  have hv := refUnit_inv (L.drop 3) (h.drop 3)
  have hd3 : (L.drop 3).drop 3 = L.drop 6 := by simp [List.drop_drop]
  revert h0
  rw [refStep_list L h]
  generalize L.getD 0 0 = a at *
  generalize L.getD 1 0 = b at *
  generalize refUnit (Go.strOfNums L) = u at *
  generalize refUnit (Go.strOfNums (L.drop 3)) = v at *
  by_cases c1 : 1 ≤ a ∧ a < 128
  · rw [if_pos c1]
    intro _
    have e : encZ a = [a] := by rw [encZ, if_pos (by omega)]
    simp only []
    rw [e]
    exact ⟨rfl, l1 (by omega)⟩
  rw [if_neg c1]
  by_cases c2 : 192 ≤ a ∧ a < 224
  · rw [if_pos c2]
    by_cases c3 : 128 ≤ b ∧ b < 192
    · rw [if_pos c3]
      by_cases c4 : 1 ≤ (a - 192) * 64 + b - 128 ∧ (a - 192) * 64 + b - 128 < 128
      · rw [if_pos c4]; intro q; simp at q
      · rw [if_neg c4]
        intro _
        have e : encZ ((a - 192) * 64 + b - 128) = [a, b] := by
          rw [encZ, if_neg (by omega), if_pos (by omega), show 192 + ((a - 192) * 64 + b - 128) / 64 = a by omega, show 128 + ((a - 192) * 64 + b - 128) % 64 = b by omega]
        simp only []
        rw [e]
        exact ⟨rfl, l2 (by omega)⟩
    · rw [if_neg c3]; intro q; simp at q
  rw [if_neg c2]
  by_cases c3 : 55296 ≤ u ∧ u < 56320
  · rw [if_pos c3]
    by_cases c4 : 56320 ≤ v ∧ v < 57344
    · rw [if_pos c4]
      intro _
      have e : encZ (65536 + (u - 55296) * 1024 + v - 56320) = three u ++ three v := by
        rw [encZ, if_neg (by omega), if_neg (by omega), if_neg (by omega), show 55296 + (65536 + (u - 55296) * 1024 + v - 56320 - 65536) / 1024 = u by omega, show 56320 + (65536 + (u - 55296) * 1024 + v - 56320 - 65536) % 1024 = v by omega]
      simp only []
      rw [e]
      refine ⟨rfl, ?_⟩
      have e1 := (hu (by omega)).2.2
      have e2 := (hv (by omega)).2.2
      rw [List.append_assoc, show (three u ++ three v).length = 6 from rfl, ← hd3, ← e2]
      exact e1
    · rw [if_neg c4]; intro q; simp at q
  rw [if_neg c3]
  by_cases c4 : 0 ≤ u ∧ (u < 56320 ∨ 57344 ≤ u)
  · rw [if_pos c4]
    intro _
    obtain ⟨q1, q2, q3⟩ := hu c4.1
    have e : encZ u = three u := by rw [encZ, if_neg (by omega), if_neg (by omega), if_pos (by omega)]
    simp only []
    rw [e]
    exact ⟨rfl, q3⟩
  · rw [if_neg c4]; intro q; simp at q

theorem encL_cons (r : Int) (l : List Int) : encL (r :: l) = encZ r ++ encL l := by simp [encL]

theorem refDecG_enc : ∀ f (l acc : List Int), (∀ r ∈ l, Scal r) → (encL l).length < f → refDecG f (Go.strOfNums (encL l)) acc = some (acc ++ l)
  | 0, l, acc, h, hf => by omega
  | f + 1, l, acc, h, hf => by
    cases l with
    | nil => rw [refDecG, if_pos (by rfl), List.append_nil]
    | cons r l =>
      have hz := encZ_length r
      have hr : Scal r := h r (by simp)
      have hl : ∀ x ∈ l, Scal x := fun x hx => h x (by simp [hx])
      have hn : ¬ r < 0 := by unfold Scal at hr; omega
      rw [encL_cons, List.length_append] at hf
      rw [refDecG, encL_cons, if_neg (by rw [size_nums, List.length_append]; omega), refStep_enc r _ hr (by_encL l hl)]
      simp only []
      rw [if_neg hn, extract_nums, List.drop_left, refDecG_enc f l _ hl (by omega), List.append_assoc]
      rfl

theorem refDecG_inv : ∀ f (L acc out : List Int), By L → refDecG f (Go.strOfNums L) acc = some out → ∃ l, out = acc ++ l ∧ (∀ r ∈ l, Scal r) ∧ L = encL l
  | 0, L, acc, out, h, hd => by simp [refDecG] at hd
  | f + 1, L, acc, out, h, hd => by
    rw [refDecG] at hd
    by_cases h0 : L.length = 0
    · rw [if_pos (by rw [size_nums]; exact h0)] at hd
      injection hd with hd
      obtain rfl : L = [] := List.eq_nil_of_length_eq_zero h0
      exact ⟨[], by simp [hd], by simp, rfl⟩
    rw [if_neg (by rw [size_nums]; exact h0)] at hd
    by_cases h1 : (refStep (Go.strOfNums L)).1 < 0
    · rw [if_pos h1] at hd; exact absurd hd (by simp)
    rw [if_neg h1] at hd
    obtain ⟨i1, i2⟩ := refStep_inv L h (by omega)
    have hs := refStep_scal (Go.strOfNums L) (by omega)
    rw [i1, extract_nums] at hd
    obtain ⟨l, j1, j2, j3⟩ := refDecG_inv f _ _ out (h.drop _) hd
    refine ⟨(refStep (Go.strOfNums L)).1 :: l, by simp [j1], ?_, ?_⟩
    · intro x hx
      rcases List.mem_cons.1 hx with rfl | hx
      · exact hs
      · exact j2 x hx
    · rw [encL_cons, ← j3]
      exact i2

/-- What is written is read. -/
theorem dec_enc (l : List Int) (h : ∀ r ∈ l, Scal r) (hs : (encL l).length ≤ 65535) : decS (Go.strOfNums (encL l)) = (Go.strOfNums (utfL l), 0) := by
  rw [decS_eq, refDecS, if_neg (by rw [size_nums]; omega), refDecG_enc _ l [] h (by rw [size_nums]; omega)]
  simp only [List.nil_append]
  rw [refMakeS_all l h]
theorem dec_inv (b : ByteArray) : (decS b = (⟨#[]⟩, 2) ∧ 65535 < b.size) ∨ decS b = (⟨#[]⟩, 4) ∨ ∃ l, (∀ r ∈ l, Scal r) ∧ b = Go.strOfNums (encL l) ∧ decS b = (Go.strOfNums (utfL l), 0) ∧ (encL l).length ≤ 65535 := by
  rw [decS_eq, refDecS]
  by_cases h : 65535 < b.size
  · rw [if_pos h]; exact .inl ⟨rfl, h⟩
  rw [if_neg h]
  cases hd : refDecG (b.size + 1) b [] with
  | none => exact .inr (.inl rfl)
  | some l =>
    right; right
    rw [← nums_str b] at hd
    obtain ⟨m, j1, j2, j3⟩ := refDecG_inv _ _ _ _ (by_nums b) hd
    obtain rfl : l = m := by simpa using j1
    have e : b = Go.strOfNums (encL l) := by rw [← j3, nums_str]
    refine ⟨l, j2, e, ?_, ?_⟩
    · simp only []
      rw [refMakeS_all l j2]
    · rw [e, size_nums] at h
      omega

/-- What Encode tells of a valid text. -/
theorem enc_ok (s : ByteArray) (h : (encS s).2 = 0) : ∃ l, (∀ r ∈ l, Scal r) ∧ s = Go.strOfNums (utfL l) ∧ runes s = l ∧ (encL l).length ≤ 65535 ∧ encS s = (Go.strOfNums (encL l), 0) := by
  rw [encS] at h ⊢
  cases hv : validD s.data.toList with
  | false => rw [hv, if_pos rfl] at h; exact absurd h (by decide)
  | true =>
    rw [hv, if_neg (by simp)] at h
    rw [if_neg (by simp)]
    by_cases h2 : 65535 < (encL (runes s)).length
    · rw [if_pos h2] at h; exact absurd h (by decide)
    rw [if_neg h2]
    obtain ⟨i1, i2⟩ := text_of s hv
    exact ⟨runes s, i1, i2, rfl, by omega, rfl⟩
theorem enc_utf (l : List Int) (h : ∀ r ∈ l, Scal r) (hs : (encL l).length ≤ 65535) : encS (Go.strOfNums (utfL l)) = (Go.strOfNums (encL l), 0) := by
  rw [encS, valid_utf l h, if_neg (by simp), runes_utf l h, if_neg (by omega)]
theorem enc_cases (s : ByteArray) : (encS s).2 = 0 ∨ encS s = (⟨#[]⟩, 4) ∨ encS s = (⟨#[]⟩, 2) := by
  rw [encS]
  repeat' split
  all_goals simp

theorem encL_inj (l m : List Int) (hl : ∀ r ∈ l, Scal r) (hm : ∀ r ∈ m, Scal r) (e : encL l = encL m) : l = m := by
  have h1 := refDecG_enc ((encL l).length + 1) l [] hl (by omega)
  have h2 := refDecG_enc ((encL l).length + 1) m [] hm (by rw [e]; omega)
  rw [e] at h1 h2
  rw [h1] at h2
  simpa using h2

theorem enc_long (r : Int) : (encZ r).length ≤ 2 * (encodeRuneZ r).length := by
  have := encodeRuneZ_length r
  unfold encZ encodeRuneZ three
  by_cases c1 : 0 < r ∧ r < 128
  · rw [if_pos c1, if_pos (by omega)]; simp
  rw [if_neg c1]
  by_cases c2 : r < 2048
  · rw [if_pos c2]
    repeat' split
    all_goals simp
  rw [if_neg c2]
  by_cases c3 : r < 65536
  · rw [if_pos c3]
    rw [if_neg (by omega), if_neg (by omega)]
    repeat' split
    all_goals simp
  rw [if_neg c3, if_neg (by omega), if_neg (by omega), if_neg (by omega)]
  repeat' split
  all_goals simp
theorem encL_long : ∀ l : List Int, (encL l).length ≤ 2 * (utfL l).length
  | [] => by simp [encL]
  | r :: l => by
    have h1 := enc_long r
    have h2 := encL_long l
    rw [encL_cons, show utfL (r :: l) = encodeRuneZ r ++ utfL l by simp [utfL], List.length_append, List.length_append]
    omega

theorem enc_nozero (r : Int) (h : Scal r) : ∀ x ∈ encZ r, 0 < x := by
  unfold Scal at h
  intro x hx
  unfold encZ three at hx
  repeat' split at hx
  all_goals simp at hx
  all_goals omega
theorem encL_nozero (l : List Int) (h : ∀ r ∈ l, Scal r) : ∀ x ∈ encL l, 0 < x := fun x hx => by
  obtain ⟨r, hr, h2⟩ := List.mem_flatMap.1 hx
  exact enc_nozero r (h r hr) x h2

theorem step_bad (L : List Int) (h : By L) (h0 : 128 ≤ L.getD 0 0 ∧ L.getD 0 0 < 192) : (refStep (Go.strOfNums L)).1 < 0 := by
  have hu : refUnit (Go.strOfNums L) = -1 := by rw [refUnit_list L h, if_pos (.inl (by omega))]
  rw [refStep_list L h, hu, if_neg (by omega), if_neg (by omega), if_neg (by omega), if_neg (by omega)]
  decide
theorem step_low (u : Int) (M : List Int) (h0 : 56320 ≤ u) (h1 : u < 57344) (hM : By M) : (refStep (Go.strOfNums (three u ++ M))).1 < 0 := by
  rw [refStep_list _ ((three_by u (by omega) (by omega)).app hM), refUnit_three u M (by omega) (by omega) hM]
  simp only [three, List.cons_append, List.nil_append, List.getD_cons_zero, List.getD_cons_succ]
  rw [if_neg (by omega), if_neg (by omega), if_neg (by omega), if_neg (by omega)]
  decide
/-- A cut within a rune. -/
theorem cut_bad (r : Int) (M : List Int) (k : Nat) (h : Scal r) (hM : By M) (h0 : 0 < k) (h1 : k < (encZ r).length) : (refStep (Go.strOfNums ((encZ r).drop k ++ M))).1 < 0 := by
  have hb := ((by_encZ r h).drop k).app hM
  unfold Scal at h
  revert h1 hb
  unfold encZ
  by_cases c1 : 0 < r ∧ r < 128
  · rw [if_pos c1]; intro h1 _; simp at h1; omega
  rw [if_neg c1]
  by_cases c2 : r < 2048
  · rw [if_pos c2]; intro h1 hb
    obtain rfl : k = 1 := by simp at h1; omega
    refine step_bad _ hb ?_
    simp only [List.drop_succ_cons, List.drop_zero, List.cons_append, List.nil_append, List.getD_cons_zero]
    omega
  rw [if_neg c2]
  by_cases c3 : r < 65536
  · rw [if_pos c3]; intro h1 hb
    have hk : k = 1 ∨ k = 2 := by simp [three] at h1; omega
    rcases hk with rfl | rfl
    all_goals
      refine step_bad _ hb ?_
      simp only [three, List.drop_succ_cons, List.drop_zero, List.cons_append, List.nil_append, List.getD_cons_zero]
      omega
  rw [if_neg c3]; intro h1 hb
  have hk : k = 3 ∨ k = 1 ∨ k = 2 ∨ k = 4 ∨ k = 5 := by simp [three] at h1; omega
  rcases hk with rfl | rfl | rfl | rfl | rfl
  · exact step_low _ M (by omega) (by omega) hM
  all_goals
    refine step_bad _ hb ?_
    simp only [three, List.drop_succ_cons, List.drop_zero, List.cons_append, List.nil_append, List.getD_cons_zero]
    omega

theorem enc_cut : ∀ (l P m : List Int), (∀ r ∈ l, Scal r) → (∀ r ∈ m, Scal r) → encL l = P ++ encL m → ∃ l', (∀ r ∈ l', Scal r) ∧ P = encL l'
  | [], P, m, _, _, e => by
    have : P = [] := by
      have : P ++ encL m = [] := e.symm
      simp at this
      exact this.1
    exact ⟨[], by simp, this⟩
  | r :: l, P, m, hl, hm, e => by
    have hr : Scal r := hl r (by simp)
    have hl' : ∀ x ∈ l, Scal x := fun x hx => hl x (by simp [hx])
    rw [encL_cons] at e
    by_cases h0 : P.length = 0
    · exact ⟨[], by simp, List.eq_nil_of_length_eq_zero h0⟩
    by_cases h1 : (encZ r).length ≤ P.length
    · have e2 : P = encZ r ++ P.drop (encZ r).length := by
        have q := congrArg (List.take (encZ r).length) e
        rw [List.take_left, List.take_append_of_le_length h1] at q
        conv => lhs; rw [← List.take_append_drop (encZ r).length P, ← q]
      rw [e2, List.append_assoc] at e
      obtain ⟨l', j1, j2⟩ := enc_cut l (P.drop (encZ r).length) m hl' hm (List.append_cancel_left e)
      refine ⟨r :: l', ?_, ?_⟩
      · intro x hx
        rcases List.mem_cons.1 hx with rfl | hx
        · exact hr
        · exact j1 x hx
      · rw [encL_cons, ← j2]; exact e2
    · exfalso
      have q := congrArg (List.drop P.length) e
      rw [List.drop_left, List.drop_append_of_le_length (by omega)] at q
      have hb := cut_bad r (encL l) P.length hr (by_encL l hl') (by omega) (by omega)
      cases m with
      | nil =>
        have := congrArg List.length q
        simp [encL] at this
        omega
      | cons r2 m =>
        have h2 : Scal r2 := hm r2 (by simp)
        rw [q, encL_cons, refStep_enc r2 _ h2 (by_encL m (fun x hx => hm x (by simp [hx])))] at hb
        unfold Scal at h2
        simp only at hb
        omega

theorem enc_pre : ∀ (m l Q : List Int), (∀ r ∈ l, Scal r) → (∀ r ∈ m, Scal r) → By Q → encL l = encL m ++ Q → ∃ l', l = m ++ l' ∧ Q = encL l'
  | [], l, Q, _, _, _, e => ⟨l, rfl, e.symm⟩
  | r :: m, l, Q, hl, hm, hQ, e => by
    have hr : Scal r := hm r (by simp)
    have hm' : ∀ x ∈ m, Scal x := fun x hx => hm x (by simp [hx])
    have hz := encZ_length r
    cases l with
    | nil =>
      exfalso
      have := congrArg List.length e
      rw [encL_cons] at this
      simp [encL] at this
      omega
    | cons r2 l =>
      have h2 : Scal r2 := hl r2 (by simp)
      have hl' : ∀ x ∈ l, Scal x := fun x hx => hl x (by simp [hx])
      rw [encL_cons, encL_cons, List.append_assoc] at e
      have s1 := refStep_enc r2 (encL l) h2 (by_encL l hl')
      rw [e, refStep_enc r _ hr ((by_encL m hm').app hQ)] at s1
      obtain rfl : r = r2 := (Prod.ext_iff.1 s1).1
      obtain ⟨l', j1, j2⟩ := enc_pre m l Q hl' hm' hQ (List.append_cancel_left e)
      exact ⟨l', by rw [j1]; rfl, j2⟩

/-- ASCII without a 0. -/
theorem ascii_same : ∀ L : List Int, (∀ x ∈ L, 0 < x ∧ x < 128) → utfL L = L ∧ encL L = L ∧ ∀ x ∈ L, Scal x
  | [], _ => ⟨rfl, rfl, by simp⟩
  | x :: L, h => by
    have hx := h x (by simp)
    obtain ⟨i1, i2, i3⟩ := ascii_same L (fun y hy => h y (by simp [hy]))
    refine ⟨?_, ?_, ?_⟩
    · rw [show utfL (x :: L) = encodeRuneZ x ++ utfL L by simp [utfL], i1, encodeRuneZ_one (by omega) (by omega)]; rfl
    · rw [encL_cons, i2, encZ, if_pos hx]; rfl
    · intro y hy
      rcases List.mem_cons.1 hy with rfl | hy
      · exact .inl (by omega)
      · exact i3 y hy
end Go.Proofs.YthpfknlgfkecpaaDoor.Sp
end
