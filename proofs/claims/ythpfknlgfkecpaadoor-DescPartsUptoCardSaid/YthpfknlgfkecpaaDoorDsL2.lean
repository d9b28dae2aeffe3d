/-
  Plain: signatures and their texts.
-/
import Derived.Test.YthpfknlgfkecpaaDoorDsL1
set_option linter.unusedVariables false
set_option linter.unusedSimpArgs false
namespace Go.Proofs.YthpfknlgfkecpaaDoor.Sp
open Go.RowKit Go.Lib

theorem bt_B0 (x : UInt8) (l : List UInt8) : bt (B (x :: l)) 0 = (x.toNat : Int) := by rw [bt_list, B_data]; rfl
theorem typeB_head (t : Ty) (h : rightS t = true) : ∃ x l, typeB t = x :: l ∧ (x = 91 ∨ x = 73 ∨ x = 76) := by
  obtain ⟨d, n⟩ := t
  have hd := rightS_dims _ h
  simp only at hd
  obtain ⟨k, rfl⟩ : ∃ k : Nat, d = k := ⟨d.toNat, by omega⟩
  cases k with
  | succ k => exact ⟨91, List.replicate k 91 ++ nameB n, by simp [typeB, List.replicate_succ], .inl rfl⟩
  | zero =>
    by_cases hn : n.size = 0
    · exact ⟨73, [], by simp only [typeB, nameB]; rw [if_pos hn]; rfl, .inr (.inl rfl)⟩
    · exact ⟨76, n.data.toList ++ [59], by simp only [typeB, nameB]; rw [if_neg hn]; rfl, .inr (.inr rfl)⟩
theorem typeB_one (t : Ty) (h : rightS t = true) : 1 ≤ (typeB t).length := by
  obtain ⟨x, l, e, _⟩ := typeB_head t h
  rw [e]
  simp
theorem typeB_bt (t : Ty) (h : rightS t = true) (r : List UInt8) (c : Int) (hc : c ≠ 91 ∧ c ≠ 73 ∧ c ≠ 76) : bt (B (typeB t ++ r)) 0 ≠ c := by
  obtain ⟨x, l, e, hx⟩ := typeB_head t h
  rw [e, List.cons_append, bt_B0]
  rcases hx with rfl | rfl | rfl
  · exact fun q => hc.1 q.symm
  · exact fun q => hc.2.1 q.symm
  · exact fun q => hc.2.2 q.symm
theorem field_typeB (t : Ty) (h : rightS t = true) : fieldS (B (typeB t)) = (t, 0) := by
  have := readS_typeB t h []
  rw [List.append_nil] at this
  rw [fieldS, this]
  rfl
theorem field_back (s : ByteArray) (h : (fieldS s).2 = 0) : rightS (fieldS s).1 = true ∧ s = B (typeB (fieldS s).1) := by
  unfold fieldS at h ⊢
  cases hq : readS s with
  | none => rw [hq] at h; cases h
  | some q =>
    rw [hq] at h
    simp only at h ⊢
    split at h
    · rename_i hz
      obtain ⟨h1, h2⟩ := readS_back s q hq
      rw [if_pos hz]
      refine ⟨h2, ?_⟩
      have : q.2 = ⟨#[]⟩ := str_empty _ hz
      rw [this] at h1
      simpa using h1
    · cases h
theorem field_write (s : ByteArray) (h : (fieldS s).2 = 0) : writeS (fieldS s).1 = (s, 0) := by
  obtain ⟨h1, h2⟩ := field_back s h
  rw [writeS_some _ h1, ← h2]
theorem write_ok (t : Ty) : ((writeS t).2 = 0 ↔ rightS t = true) := by
  cases h : rightS t with
  | true => rw [writeS_some t h]; simp
  | false => rw [writeS_none t h]; simp
/-- A beginning of a type's text is none; with more behind it is none. -/
theorem cut_none (t : Ty) (h : rightS t = true) (k : Nat) (hk : k < (typeB t).length) : (fieldS ((B (typeB t)).extract 0 k)).2 = 9 := by
  rcases fieldS_err ((B (typeB t)).extract 0 k) with h0 | h0
  · exfalso
    obtain ⟨h1, h2⟩ := field_back _ h0
    have e1 : (B (typeB t)).extract 0 k = B ((typeB t).take k) := by
      apply ext_list
      rw [Lib.extract_data, B_data, B_data]
      simp
    rw [e1] at h1 h2
    have h3 := readS_typeB _ h1 ((typeB t).drop k)
    have e2 : typeB (fieldS (B ((typeB t).take k))).1 = (typeB t).take k := by
      have := congrArg (fun b : ByteArray => b.data.toList) h2
      simp only [B_data] at this
      exact this.symm
    rw [e2, List.take_append_drop] at h3
    have h4 := readS_typeB t h []
    rw [List.append_nil, h3] at h4
    injection h4 with h4
    injection h4 with h5 h6
    have h7 := congrArg ByteArray.size h6
    rw [B_size, B_size, List.length_drop] at h7
    simp at h7
    omega
  · exact h0
theorem more_none (t : Ty) (h : rightS t = true) (m : ByteArray) (hm : m.size ≠ 0) : (fieldS (B (typeB t) ++ m)).2 = 9 := by
  have e : B (typeB t) ++ m = B (typeB t ++ m.data.toList) := by
    rw [← B_append]
    rfl
  rw [e, fieldS, readS_typeB t h]
  simp only
  rw [if_neg]
  rw [B_size]
  exact hm

theorem argsB_len : ∀ l : List Ty, allR l = true → l.length ≤ (argsB l).length
  | [], _ => by simp [argsB]
  | t :: l, h => by
    simp only [allR, List.all_cons, Bool.and_eq_true] at h
    have h1 := typeB_one t h.1
    have h2 := argsB_len l h.2
    simp only [argsB, List.length_append, List.length_cons]
    omega
theorem argsF_argsB (r : List UInt8) : ∀ (l : List Ty) (f : Nat), allR l = true → l.length + 1 ≤ f → argsF f (B (argsB l ++ 41 :: r)) = some (l, B (41 :: r))
  | [], f, _, hf => by
    obtain ⟨g, rfl⟩ : ∃ g, f = g + 1 := ⟨f - 1, by simp at hf; omega⟩
    show argsF (g + 1) (B (41 :: r)) = _
    rw [argsF, if_pos (by rw [bt_B0]; rfl)]
  | t :: l, f, h, hf => by
    obtain ⟨g, rfl⟩ : ∃ g, f = g + 1 := ⟨f - 1, by simp at hf; omega⟩
    simp only [allR, List.all_cons, Bool.and_eq_true] at h
    have ih := argsF_argsB r l g h.2 (by simp at hf; omega)
    simp only [argsB, List.append_assoc, argsF]
    rw [if_neg (typeB_bt t h.1 _ 41 (by decide)), readS_typeB t h.1]
    simp only
    rw [ih]
    rfl
theorem argsF_back : ∀ (f : Nat) (s : ByteArray) (l : List Ty) (r : ByteArray), argsF f s = some (l, r) → s = B (argsB l ++ r.data.toList) ∧ allR l = true ∧ bt r 0 = 41
  | 0, _, _, _, h => by cases h
  | f + 1, s, l, r, h => by
    rw [argsF] at h
    split at h
    · rename_i h41
      injection h with h
      injection h with h1 h2
      subst h1 h2
      exact ⟨rfl, rfl, h41⟩
    · cases hq : readS s with
      | none => rw [hq] at h; cases h
      | some q =>
        rw [hq] at h
        simp only at h
        cases ha : argsF f q.2 with
        | none => rw [ha] at h; cases h
        | some p =>
          rw [ha] at h
          simp only [Option.map_some, Option.some.injEq, Prod.mk.injEq] at h
          obtain ⟨h1, h2⟩ := h
          subst h1 h2
          obtain ⟨i1, i2, i3⟩ := argsF_back f q.2 p.1 p.2 ha
          obtain ⟨j1, j2⟩ := readS_back s q hq
          refine ⟨?_, ?_, i3⟩
          · rw [j1]
            simp only [argsB, List.append_assoc]
            congr 2
            exact congrArg (fun b : ByteArray => b.data.toList) i1
          · simp only [allR, List.all_cons, j2, Bool.true_and]
            exact i2
theorem ext1_B (x : UInt8) (l : List UInt8) : (B (x :: l)).extract 1 (B (x :: l)).size = B l := by
  apply ext_list
  rw [Lib.extract_to_end]
  rfl
theorem B_inj (a b : List UInt8) (h : B a = B b) : a = b := by
  have := congrArg (fun b : ByteArray => b.data.toList) h
  simpa only [B_data] using this

/-- What Sign writes Method reads. -/
theorem method_text (l : List Ty) (t : Ty) (v : Bool) (hl : allR l = true) (ht : rightS t = true) (h16 : ¬ 16 < l.length) (hv : v = true → t = t0) :
    methodS (B (40 :: argsB l ++ 41 :: (if v = true then [86] else typeB t))) = ((l, t, v), 0) := by
  rw [List.cons_append, methodS, if_pos (by rw [bt_B0]; rfl), ext1_B]
  have hlen := argsB_len l hl
  rw [argsF_argsB _ l _ hl (by rw [B_size]; simp; omega)]
  show finS l _ = _
  cases v with
  | true =>
    rw [if_pos rfl, finS, if_pos rfl, doneS, if_neg h16, hv rfl]
  | false =>
    rw [if_neg (by decide), finS, if_neg, ext1_B, field_typeB t ht]
    · simp only
      rw [if_pos trivial, doneS, if_neg h16]
    · intro e
      have := B_inj _ _ e
      injection this with _ this
      obtain ⟨x, l', e1, hx⟩ := typeB_head t ht
      rw [e1] at this
      injection this with this _
      subst this
      revert hx
      decide
theorem sign_inv (m : Sig) (h : (signS m).2 = 0) : allR m.1 = true ∧ rightS m.2.1 = true ∧ (m.2.2 = true → m.2.1 = t0) ∧ ¬ 16 < m.1.length ∧ (signS m).1 = B (40 :: argsB m.1 ++ 41 :: (if m.2.2 = true then [86] else typeB m.2.1)) := by
  unfold signS at h ⊢
  by_cases h1 : allR m.1 = false
  · rw [if_pos h1] at h; cases h
  rw [if_neg h1] at h ⊢
  by_cases h2 : rightS m.2.1 = false ∨ (m.2.2 = true ∧ m.2.1 ≠ t0)
  · rw [if_pos h2] at h; cases h
  rw [if_neg h2] at h ⊢
  by_cases h3 : 16 < m.1.length
  · rw [if_pos h3] at h; cases h
  rw [if_neg h3]
  refine ⟨by simpa using h1, ?_, ?_, h3, rfl⟩
  · cases hq : rightS m.2.1 with
    | true => rfl
    | false => exact absurd (.inl hq) h2
  · intro hv
    by_cases ht : m.2.1 = t0
    · exact ht
    · exact absurd (.inr ⟨hv, ht⟩) h2
theorem sign_of (m : Sig) (h1 : allR m.1 = true) (h2 : rightS m.2.1 = true) (h3 : m.2.2 = true → m.2.1 = t0) (h4 : ¬ 16 < m.1.length) : signS m = (B (40 :: argsB m.1 ++ 41 :: (if m.2.2 = true then [86] else typeB m.2.1)), 0) := by
  rw [signS, if_neg (by rw [h1]; decide), if_neg, if_neg h4]
  rintro (q | ⟨q1, q2⟩)
  · rw [h2] at q; cases q
  · exact q2 (h3 q1)
theorem sign_method (m : Sig) (h : (signS m).2 = 0) : methodS (signS m).1 = (m, 0) := by
  obtain ⟨h1, h2, h3, h4, h5⟩ := sign_inv m h
  rw [h5]
  exact method_text m.1 m.2.1 m.2.2 h1 h2 h4 h3

theorem right_t0 : rightS t0 = true := by decide +kernel
theorem method_inv (s : ByteArray) (h : (methodS s).2 = 0) : signS (methodS s).1 = (s, 0) ∧ bt s 0 = 40 := by
  unfold methodS at h ⊢
  by_cases h40 : bt s 0 = 40
  · rw [if_pos h40] at h ⊢
    refine ⟨?_, h40⟩
    cases ha : argsF s.size (s.extract 1 s.size) with
    | none => rw [ha] at h; cases h
    | some q =>
      obtain ⟨l, r⟩ := q
      rw [ha] at h
      obtain ⟨i1, i2, i3⟩ := argsF_back _ _ _ _ ha
      simp only [endS, finS] at h ⊢
      have hr : ∃ y, r.data.toList = 41 :: y := by
        rw [bt_list] at i3
        cases hl : r.data.toList with
        | nil => rw [hl] at i3; simp at i3
        | cons x y =>
          rw [hl] at i3
          simp only [List.getElem?_cons_zero] at i3
          have : x = 41 := by
            apply UInt8.toNat_inj.1
            show x.toNat = 41
            omega
          exact ⟨y, by rw [this]⟩
      have hs : ∃ y, s.data.toList = 40 :: y := by
        rw [bt_list] at h40
        cases hl : s.data.toList with
        | nil => rw [hl] at h40; simp at h40
        | cons x y =>
          rw [hl] at h40
          simp only [List.getElem?_cons_zero] at h40
          have : x = 40 := by
            apply UInt8.toNat_inj.1
            show x.toNat = 40
            omega
          exact ⟨y, by rw [this]⟩
      obtain ⟨z, hz⟩ := hr
      obtain ⟨y, hy⟩ := hs
      have hsy : s = B (40 :: argsB l ++ 41 :: z) := by
        apply ext_list
        have := congrArg (fun b : ByteArray => b.data.toList) i1
        simp only [Lib.extract_to_end, B_data, hy, hz] at this
        rw [B_data, hy]
        simpa using this
      have hrz : r = B (41 :: z) := by
        apply ext_list
        rw [hz, B_data]
      by_cases hv : r = B [41, 86]
      · rw [if_pos hv] at h ⊢
        have hz2 : z = [86] := by
          rw [hrz] at hv
          have := B_inj _ _ hv
          injection this
        unfold doneS at h ⊢
        by_cases h16 : 16 < l.length
        · rw [if_pos h16] at h; cases h
        · rw [if_neg h16]
          simp only
          rw [sign_of (l, t0, true) i2 right_t0 (fun _ => rfl) h16, hsy, hz2]
          rfl
      · rw [if_neg hv] at h ⊢
        rw [hrz, ext1_B] at h ⊢
        by_cases hf : (fieldS (B z)).2 = 0
        · rw [if_pos hf] at h ⊢
          obtain ⟨j1, j2⟩ := field_back _ hf
          unfold doneS at h ⊢
          by_cases h16 : 16 < l.length
          · rw [if_pos h16] at h; cases h
          · rw [if_neg h16]
            simp only
            rw [sign_of (l, (fieldS (B z)).1, false) i2 j1 (by intro q; cases q) h16, hsy]
            have := B_inj _ _ j2
            simp only
            rw [if_neg (by decide), ← this]
        · rw [if_neg hf] at h; cases h
  · rw [if_neg h40] at h; cases h
theorem field_no_method (s : ByteArray) (h : (fieldS s).2 = 0) : (methodS s).2 ≠ 0 := by
  intro h2
  obtain ⟨j1, j2⟩ := field_back s h
  have := (method_inv s h2).2
  rw [j2] at this
  have q := typeB_bt _ j1 [] 40 (by decide)
  rw [List.append_nil] at q
  exact q this
end Go.Proofs.YthpfknlgfkecpaaDoor.Sp
