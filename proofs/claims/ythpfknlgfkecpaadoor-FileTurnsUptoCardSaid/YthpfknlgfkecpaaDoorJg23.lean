/-
  Texts of the proof, joined: each says at its head what it proves.
-/
import Derived.Test.YthpfknlgfkecpaaDoorJg19
import Derived.Test.YthpfknlgfkecpaaDoorJg20
section
/-
  Plain: a number constant behind all others changes nothing of a class but its length.
-/
set_option linter.unusedVariables false
set_option linter.unusedSimpArgs false
namespace Go.Proofs.YthpfknlgfkecpaaDoor.Sp
open Go.Lib

/-- A number constant. -/
def newC (n : Int) : Cn := ⟨2, ⟨#[]⟩, n, 0, 0, 0⟩
theorem get_grow (p : List Cn) (x : Cn) (i : Int) : get (p ++ [x]) i = if i = (p.length : Int) + 1 then some x else get p i := by
  unfold get
  by_cases h : 1 ≤ i
  · rw [if_pos h, if_pos h]
    by_cases h2 : i = (p.length : Int) + 1
    · subst h2
      rw [if_pos rfl, show ((p.length : Int) + 1 - 1).toNat = p.length by omega]
      simp
    · rw [if_neg h2]
      by_cases h3 : (i - 1).toNat < p.length
      · rw [List.getElem?_append_left h3]
      · rw [List.getElem?_append_right (by omega), List.getElem?_eq_none (l := p) (by omega)]
        exact List.getElem?_eq_none (by simp; omega)
  · rw [if_neg h, if_neg h, if_neg (by omega)]
theorem get_out (p : List Cn) : get p ((p.length : Int) + 1) = none := by
  unfold get
  rw [if_pos (by omega)]
  exact List.getElem?_eq_none (by omega)
theorem tagged_grow (p : List Cn) (n : Int) (i t : Int) (ht : t ≠ 2) : taggedS (p ++ [newC n]) i t = taggedS p i t := by
  unfold taggedS
  rw [get_grow]
  by_cases h : i = (p.length : Int) + 1
  · subst h
    rw [if_pos rfl, get_out]
    simp only [newC]
    exact decide_eq_false (fun q => ht q.symm)
  · rw [if_neg h]
theorem cname_grow (p : List Cn) (n : Int) (i : Int) : cnameS (p ++ [newC n]) i = cnameS p i := by
  unfold cnameS
  rw [get_grow]
  by_cases h : i = (p.length : Int) + 1
  · subst h
    rw [if_pos rfl, get_out]
    show (if (newC n).tag = 1 then ((newC n).text, true) else (⟨#[]⟩, false)) = (⟨#[]⟩, false)
    exact if_neg (show ¬ (2 : Int) = 1 by decide)
  · rw [if_neg h]
theorem link_grow (p : List Cn) (n : Int) (a b : Int) (m : Bool) : linkS (p ++ [newC n]) a b m = linkS p a b m := by
  unfold linkS
  rw [cname_grow, cname_grow]
theorem const_grow (p : List Cn) (n : Int) (c : Cn) : constS (p ++ [newC n]) c = constS p c := by
  unfold constS linkedS namedS
  rw [cname_grow, link_grow, tagged_grow _ _ _ _ (by decide)]
theorem const_new (p : List Cn) (n : Int) : constS p (newC n) = 0 := by
  unfold constS
  rw [if_neg (by simp [leanS, newC]; rfl), if_neg (by simp [newC]), if_neg (by simp [newC]), if_neg (by simp [newC])]
theorem head_grow (p : List Cn) (n : Int) (f t s : Int) (ifs : List Int) : headS (p ++ [newC n]) f t s ifs = headS p f t s ifs := by
  unfold headS
  rw [tagged_grow _ _ _ _ (by decide), tagged_grow _ _ _ _ (by decide)]
  simp only [tagged_grow _ _ _ _ (show (4 : Int) ≠ 2 by decide)]
theorem key_grow (p : List Cn) (n : Int) (m : Bool) : keyM (p ++ [newC n]) m = keyM p m := by
  funext b
  unfold keyM
  rw [cname_grow, cname_grow]
theorem fieldM_grow (p : List Cn) (n : Int) (ff : Int) : fieldM (p ++ [newC n]) ff = fieldM p ff := by
  funext b
  unfold fieldM
  rw [link_grow]
theorem hand_grow (p : List Cn) (n : Int) (z : Int) : ∀ l : List Hn, handS (p ++ [newC n]) z l = handS p z l
  | [] => rfl
  | h :: l => by
    rw [handS, handS, tagged_grow _ _ _ _ (by decide), hand_grow p n z l]
theorem methodM_grow (p : List Cn) (n : Int) (ff : Int) : methodM (p ++ [newC n]) ff = methodM p ff := by
  funext b
  unfold methodM codedS
  rw [link_grow, cname_grow, cname_grow, hand_grow]
theorem pool_grow (p : List Cn) (n : Int) : ∀ l : List Cn, poolF (p ++ [newC n]) (l ++ [newC n]) = poolF p l
  | [] => by
    show poolF (p ++ [newC n]) [newC n] = 0
    rw [poolF, if_neg (by rw [const_new]; simp)]
    rfl
  | c :: l => by
    rw [List.cons_append, poolF, poolF, const_grow, pool_grow p n l]

/-- The class with one more constant. -/
def growF (F : Fl) (n : Int) : Fl := { F with pool := F.pool ++ [newC n] }
theorem parts_grow (F : Fl) (n : Int) (h : partsS F = 0) (hp : F.pool.length ≠ 2000) : partsS (growF F n) = 0 := by
  unfold partsS at h ⊢
  unfold growF
  simp only [List.length_append, List.length_cons, List.length_nil]
  rw [pool_grow, head_grow, key_grow, key_grow, fieldM_grow, methodM_grow]
  by_cases h2 : 2000 < F.pool.length
  · rw [if_pos h2] at h; cases h
  · rw [if_neg h2] at h
    rw [if_neg (by omega)]
    exact h
theorem parts_many (F : Fl) (n : Int) (hp : F.pool.length = 2000) : partsS (growF F n) = 3 := by
  unfold partsS growF
  simp only [List.length_append, List.length_cons, List.length_nil]
  rw [if_pos (by omega)]
theorem bytes_grow (F : Fl) (n : Int) : (bytesS (growF F n)).length = (bytesS F).length + 9 := by
  unfold bytesS growF
  have h9 : (constB (newC n)).length = 9 := by
    unfold constB newC
    simp only [List.length_append, putL_length]
    rw [if_neg (by decide), if_pos trivial, putL_length]
  simp only [List.flatMap_append, List.flatMap_cons, List.flatMap_nil, List.append_nil, List.length_append, putL_length, putsL_length, List.length_cons, List.length_nil, h9]
  omega
theorem encode_ok {F : Fl} (h : (encodeF F).2 = 0) : partsS F = 0 ∧ (bytesS F).length ≤ 65536 ∧ (encodeF F).1.size = (bytesS F).length := by
  unfold encodeF at h ⊢
  by_cases hp : partsS F = 0
  · rw [if_neg (by simp [hp])] at h ⊢
    by_cases hb : 65536 < (bytesS F).length
    · rw [if_pos hb] at h; cases h
    · rw [if_neg hb]
      exact ⟨hp, by omega, Go.strOfNums_size _⟩
  · rw [if_pos hp] at h
    exact absurd h hp
/-- What comes of a class that may be, with a number constant more. -/
theorem encode_grow {F : Fl} (n : Int) (h : (encodeF F).2 = 0) :
    (encodeF F).1.size = (bytesS F).length ∧ (bytesS F).length ≤ 65536 ∧ F.pool.length ≤ 2000 ∧ (F.pool.length = 2000 → (encodeF (growF F n)).2 = 3) ∧ (F.pool.length ≠ 2000 →
      (65536 < (bytesS F).length + 9 → (encodeF (growF F n)).2 = 2) ∧ ((bytesS F).length + 9 ≤ 65536 → (encodeF (growF F n)).2 = 0 ∧ (encodeF (growF F n)).1.size = (encodeF F).1.size + 9)) := by
  obtain ⟨h1, h2, h3⟩ := encode_ok h
  refine ⟨h3, h2, ?_, fun hp => ?_, fun hp => ⟨fun hb => ?_, fun hb => ?_⟩⟩
  · unfold partsS at h1
    by_cases h2 : 2000 < F.pool.length
    · rw [if_pos h2] at h1; cases h1
    · omega
  · unfold encodeF
    rw [parts_many F n hp]
    rfl
  · unfold encodeF
    rw [parts_grow F n h1 hp, if_neg (by simp), bytes_grow, if_pos hb]
  · rw [h3]
    unfold encodeF
    rw [parts_grow F n h1 hp, if_neg (by simp), bytes_grow, if_neg (by omega)]
    exact ⟨rfl, by rw [← bytes_grow F n]; exact Go.strOfNums_size _⟩
theorem tagged_pos {p : List Cn} {i t : Int} (h : taggedS p i t = true) : 0 < p.length := by
  unfold taggedS at h
  rcases get_cases p i with ⟨_, h2⟩ | ⟨_, _, h3⟩ | ⟨k, hk, h1, h3⟩
  · rw [h2] at h; cases h
  · rw [h3] at h; cases h
  · omega
theorem pool_pos {F : Fl} (h : (encodeF F).2 = 0) : 0 < F.pool.length := by
  have hp := (encode_ok h).1
  have hh : headS F.pool F.flags F.this F.super F.ifaces = 0 := by
    unfold partsS at hp
    split at hp
    · cases hp
    split at hp
    · rename_i q; exact absurd hp q
    split at hp
    · rename_i q; exact absurd hp q
    rename_i q
    simpa using q
  unfold headS at hh
  split at hh
  · cases hh
  split at hh
  · cases hh
  rename_i q
  simp only [not_or, Bool.not_eq_false] at q
  exact tagged_pos q.1
/-- What the law asks of a class that may be and of one that has a number constant more. -/
theorem grow_said (F : Fl) (n : Int) (h : (encodeF F).2 = 0) : (encodeF F).1.size ≤ 65536 ∧ 0 < F.pool.length ∧ F.pool.length ≤ 2000 ∧ (F.pool.length = 2000 → (encodeF (growF F n)).2 = 3) ∧ (F.pool.length ≠ 2000 →
      (65536 < (encodeF F).1.size + 9 → (encodeF (growF F n)).2 = 2) ∧ ((encodeF F).1.size + 9 ≤ 65536 → (encodeF (growF F n)).2 = 0 ∧ (encodeF (growF F n)).1.size = (encodeF F).1.size + 9)) := by
  obtain ⟨h1, h2, h3, h4, h5⟩ := encode_grow n h
  rw [h1] at *
  exact ⟨h2, pool_pos h, h3, h4, fun hp => ⟨(h5 hp).1, fun hb => h1 ▸ (h5 hp).2 hb⟩⟩
end Go.Proofs.YthpfknlgfkecpaaDoor.Sp
end
