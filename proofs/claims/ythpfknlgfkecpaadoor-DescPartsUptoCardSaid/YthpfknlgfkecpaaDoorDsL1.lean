/-
  Plain: a right type's text is read as that type, and what is read is its text.
-/
import Derived.Test.YthpfknlgfkecpaaDoorDsSpS
import Derived.Test.YthpfknlgfkecpaaDoorPl4
set_option linter.unusedVariables false
set_option linter.unusedSimpArgs false
namespace Go.Proofs.YthpfknlgfkecpaaDoor.Sp
open Go.RowKit Go.Lib

theorem enc_byte (r v : Int) (h : v ∈ Lib.encodeRuneZ r) : (v = r ∧ 0 ≤ r ∧ r ≤ 127) ∨ (128 ≤ v ∧ v < 256) := by
  unfold Lib.encodeRuneZ at h
  repeat' split at h
  all_goals simp at h
  all_goals omega

theorem name_byte (n : ByteArray) (h : nameS n = true) (x : UInt8) (hx : x ∈ n.data.toList) : x ≠ 59 ∧ x ≠ 91 ∧ x ≠ 41 ∧ x ≠ 40 ∧ x ≠ 0 := by
  simp only [nameS, Bool.and_eq_true] at h
  obtain ⟨⟨⟨hg, _⟩, _⟩, hv⟩ := h
  obtain ⟨hs, ht⟩ := text_of n hv
  rw [ht, strOfNums_data] at hx
  obtain ⟨v, hv1, rfl⟩ := List.mem_map.1 hx
  obtain ⟨r, hr, hvr⟩ := List.mem_flatMap.1 hv1
  have hgr := List.all_eq_true.1 hg r hr
  have key : ∀ c : Nat, c < 128 → (UInt8.ofNat v.toNat = UInt8.ofNat c) → v = c ∧ v = r := by
    intro c hc e
    have e2 := congrArg UInt8.toNat e
    simp only [UInt8.toNat_ofNat'] at e2
    rcases enc_byte r v hvr with ⟨h1, h2, h3⟩ | ⟨h1, h2⟩
    · refine ⟨?_, h1⟩
      omega
    · omega
  simp only [goodR, Bool.and_eq_true, decide_eq_true_eq, Bool.not_eq_true', decide_eq_false_iff_not, List.mem_cons, not_or] at hgr
  obtain ⟨⟨g1, g2⟩, g3⟩ := hgr
  refine ⟨fun e => ?_, fun e => ?_, fun e => ?_, fun e => ?_, fun e => ?_⟩
  · obtain ⟨a, b⟩ := key 59 (by decide) e; omega
  · obtain ⟨a, b⟩ := key 91 (by decide) e; omega
  · obtain ⟨a, b⟩ := key 41 (by decide) e; omega
  · obtain ⟨a, b⟩ := key 40 (by decide) e; omega
  · obtain ⟨a, b⟩ := key 0 (by decide) e; omega

theorem trim_rep (x : UInt8) (l : List UInt8) (hx : x ≠ 91) : ∀ k : Nat, Lib.trimLeftB (List.replicate k 91 ++ x :: l) 91 = x :: l
  | 0 => by
    unfold Lib.trimLeftB
    rw [List.replicate_zero, List.nil_append, List.dropWhile_cons]
    simp [hx]
  | k + 1 => by
    have := trim_rep x l hx k
    unfold Lib.trimLeftB at *
    rw [List.replicate_succ, List.cons_append, List.dropWhile_cons]
    simp [this]
theorem ix_app (c : UInt8) (r : List UInt8) : ∀ a : List UInt8, (∀ x ∈ a, x ≠ c) → Lib.indexByte (a ++ c :: r) c = (a.length : Int)
  | [], _ => by simp [Lib.indexByte]
  | x :: a, h => by
    have hx : (x == c) = false := by simpa using h x (by simp)
    have := ix_app c r a (fun y hy => h y (by simp [hy]))
    simp only [List.cons_append, Lib.indexByte, hx, this]
    have : ((a.length : Int) == -1) = false := by rw [beq_eq_false_iff_ne]; omega
    rw [this]
    simp
theorem tail_B (x : UInt8) (l : List UInt8) : tailB (B (x :: l)) = B l := by
  apply ext_list
  rw [tailB, Lib.extract_to_end]
  rfl
theorem pre_cons (x c : UInt8) (l : List UInt8) : Lib.hasPrefix (x :: l) [c] = (x == c) := by
  show (c == x && true) = (x == c)
  rw [Bool.and_true, Bool.eq_iff_iff, beq_iff_eq, beq_iff_eq]
  exact eq_comm

/-- A right type's text is read as that type, whatever stands behind. -/
theorem readS_typeB (t : Ty) (h : rightS t = true) (r : List UInt8) : readS (B (typeB t ++ r)) = some (t, B r) := by
  obtain ⟨d, n⟩ := t
  have hd := rightS_dims _ h
  simp only at hd
  obtain ⟨k, rfl⟩ : ∃ k : Nat, d = k := ⟨d.toNat, by omega⟩
  by_cases hn : n.size = 0
  · obtain rfl := str_empty n hn
    have e : typeB ((k : Int), ⟨#[]⟩) ++ r = List.replicate k 91 ++ 73 :: r := by simp [typeB, show nameB ⟨#[]⟩ = [73] from rfl]
    have ht : trimB (B (List.replicate k 91 ++ 73 :: r)) = B (73 :: r) := by
      unfold trimB
      rw [B_data, trim_rep 73 r (by decide) k]
      rfl
    have hz : (((B (List.replicate k 91 ++ 73 :: r)).size : Int) - (B (73 :: r)).size) = k := by
      rw [B_size, B_size]; simp
    rw [e, readS, ht, hz, B_data, pre_cons, if_pos (by decide), if_pos h, tail_B]
  · have e : typeB ((k : Int), n) ++ r = List.replicate k 91 ++ 76 :: (n.data.toList ++ 59 :: r) := by simp [typeB, nameB, hn]
    have ht : trimB (B (List.replicate k 91 ++ 76 :: (n.data.toList ++ 59 :: r))) = B (76 :: (n.data.toList ++ 59 :: r)) := by
      unfold trimB
      rw [B_data, trim_rep 76 _ (by decide) k]
      rfl
    have hz : (((B (List.replicate k 91 ++ 76 :: (n.data.toList ++ 59 :: r))).size : Int) - (B (76 :: (n.data.toList ++ 59 :: r))).size) = k := by
      rw [B_size, B_size]; simp
    have hnm : nameS n = true := by
      have := h
      simp [rightS, hn] at this
      exact this.2
    have hix : ixC (B (n.data.toList ++ 59 :: r)) = (n.size : Int) := by
      unfold ixC
      rw [B_data, ix_app 59 r _ (fun x hx => (name_byte n hnm x hx).1)]
      rfl
    have hx1 : (B (n.data.toList ++ 59 :: r)).extract 0 n.size = n := by
      apply ext_list
      rw [Lib.extract_data, B_data, List.drop_zero, Nat.sub_zero]
      exact List.take_left' rfl
    have hx2 : (B (n.data.toList ++ 59 :: r)).extract (n.size + 1) (B (n.data.toList ++ 59 :: r)).size = B r := by
      apply ext_list
      rw [Lib.extract_to_end, B_data, B_data, Lib.size_eq n, ← List.drop_drop, List.drop_left]
      rfl
    rw [e, readS, ht, hz, B_data, pre_cons, if_neg (by decide), pre_cons, if_pos (by decide), tail_B, hix]
    simp only [Int.toNat_natCast, hx1, hx2]
    rw [if_neg (by omega), if_pos h]

/-- What is read is the text of a right type, and what is left. -/
theorem readS_back (s : ByteArray) (q : Ty × ByteArray) (h : readS s = some q) : s = B (typeB q.1 ++ q.2.data.toList) ∧ rightS q.1 = true := by
  have hr := (readS_size s q h).2.2
  refine ⟨?_, hr⟩
  have hs := (trim_split s).1
  have hd := dims_eq s
  apply ext_list
  rw [B_data]
  unfold readS at h
  by_cases c1 : Lib.hasPrefix (trimB s).data.toList [73] = true
  · rw [if_pos c1, hd] at h
    split at h
    · injection h with h
      subst h
      simp only [typeB, nameB, Int.toNat_natCast]
      rw [if_pos (by rfl), tailB, Lib.extract_to_end]
      cases hl : (trimB s).data.toList with
      | nil => rw [hl] at c1; simp [Lib.hasPrefix] at c1
      | cons x l =>
        rw [hl] at c1 hs
        rw [pre_cons] at c1
        have hx : x = 73 := by simpa using c1
        rw [hs, hx]
        simp
    · cases h
  · rw [if_neg c1] at h
    by_cases c2 : Lib.hasPrefix (trimB s).data.toList [76] = true
    · rw [if_pos c2, hd] at h
      split at h
      · cases h
      · rename_i hi
        split at h
        · injection h with h
          subst h
          simp only [typeB, nameB, Int.toNat_natCast]
          rw [if_neg (by omega)]
          cases hl : (trimB s).data.toList with
          | nil => rw [hl] at c2; simp [Lib.hasPrefix] at c2
          | cons x l =>
            have hx : x = 76 := by
              rw [hl, pre_cons] at c2
              simpa using c2
            have htl : (tailB (trimB s)).data.toList = l := by rw [tailB, Lib.extract_to_end, hl]; rfl
            rcases ix_spec (tailB (trimB s)).data.toList 59 with ⟨h1, _⟩ | ⟨k, h1, h2, _⟩
            · exfalso
              apply hi
              left
              unfold ixC
              rw [h1]
              decide
            · have h1' : ixC (tailB (trimB s)) = k := h1
              rw [h1', Int.toNat_natCast, Lib.extract_to_end, Lib.extract_data, htl, hs, hl, hx]
              rw [htl] at h2
              have hlt : k < l.length := by
                rcases Nat.lt_or_ge k l.length with q | q
                · exact q
                · rw [List.getElem?_eq_none q] at h2; cases h2
              have hk : l.drop k = 59 :: l.drop (k + 1) := by
                rw [List.drop_eq_getElem_cons hlt]
                rw [List.getElem?_eq_getElem hlt] at h2
                injection h2 with h2
                rw [h2]
              have hsp : l = l.take k ++ 59 :: l.drop (k + 1) := by rw [← hk, List.take_append_drop]
              simp only [List.drop_zero, Nat.sub_zero]
              rw [List.append_assoc]
              congr 1
              simp only [List.cons_append, List.append_assoc, List.nil_append]
              congr 1
        · cases h
    · rw [if_neg c2] at h
      cases h
end Go.Proofs.YthpfknlgfkecpaaDoor.Sp
