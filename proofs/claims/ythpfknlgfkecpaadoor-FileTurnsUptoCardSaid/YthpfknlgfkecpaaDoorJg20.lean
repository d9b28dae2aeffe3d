/-
  Texts of the proof, joined: each says at its head what it proves.
-/
import Derived.Test.YthpfknlgfkecpaaDoorJFileNamesx3
import Derived.Test.YthpfknlgfkecpaaDoorJFileNamesx2
section
/-
  Plain: a right class's methods have names, and no two the same; the first that hits is found.
-/
set_option linter.unusedVariables false
set_option linter.unusedSimpArgs false
namespace Go.Proofs.YthpfknlgfkecpaaDoor.Sp
open Go.Lib

theorem memF_all {chk : Mb → Int} {key : Mb → ByteArray × ByteArray} : ∀ {l : List Mb} {had : List (ByteArray × ByteArray)}, memF chk key had l = 0 → (∀ m ∈ l, chk m = 0) ∧ (∀ m ∈ l, key m ∉ had) ∧ (l.map key).Nodup
  | [], had, _ => ⟨by simp, by simp, by simp⟩
  | m :: l, had, h => by
    rw [memF] at h
    by_cases hc : chk m = 0
    · rw [if_neg (by simp [hc])] at h
      by_cases hi : inS had (key m) = true
      · rw [if_pos hi] at h
        cases h
      · rw [if_neg hi] at h
        obtain ⟨h1, h2, h3⟩ := memF_all h
        have hk : key m ∉ had := fun q => hi ((inS_iff _ _ _).2 q)
        refine ⟨fun x hx => ?_, fun x hx => ?_, ?_⟩
        · rcases List.mem_cons.1 hx with rfl | hx
          · exact hc
          · exact h1 x hx
        · rcases List.mem_cons.1 hx with rfl | hx
          · exact hk
          · exact fun q => h2 x hx (List.mem_cons_of_mem _ q)
        · rw [List.map_cons, List.nodup_cons]
          refine ⟨fun q => ?_, h3⟩
          obtain ⟨x, hx, he⟩ := List.mem_map.1 q
          exact h2 x hx (by rw [he]; exact List.mem_cons_self ..)
    · rw [if_pos hc] at h
      exact absurd h hc
theorem method_named {p : List Cn} {ff : Int} {m : Mb} (h : methodM p ff m = 0) : (cnameS p m.name).2 = true ∧ (cnameS p m.desc).2 = true := by
  unfold methodM at h
  split at h
  · cases h
  · split at h
    · rename_i hl
      exact absurd h hl
    · rename_i hl
      have hl0 : linkS p m.name m.desc true = 0 := by simpa using hl
      unfold linkS at hl0
      split at hl0
      · cases hl0
      · rename_i q
        simp only [not_or, Bool.not_eq_false] at q
        exact q
/-- What a class that is right has. -/
theorem right_methods {F : Fl} (h : (encodeF F).2 = 0) : (∀ m ∈ F.methods, (cnameS F.pool m.name).2 = true ∧ (cnameS F.pool m.desc).2 = true) ∧ (F.methods.map (keyM F.pool true)).Nodup := by
  have hp : partsS F = 0 := by
    unfold encodeF at h
    split at h
    · exact h
    · rename_i q
      simpa using q
  have hm : memS (methodM F.pool F.flags) (keyM F.pool true) F.methods = 0 := by
    unfold partsS at hp
    split at hp
    · cases hp
    split at hp
    · rename_i q; exact absurd hp q
    split at hp
    · rename_i q; exact absurd hp q
    split at hp
    · rename_i q; exact absurd hp q
    exact hp
  unfold memS at hm
  split at hm
  · cases hm
  obtain ⟨h1, _, h3⟩ := memF_all hm
  exact ⟨fun m hm => method_named (h1 m hm), h3⟩
theorem findF_range (p : List Cn) (a b : ByteArray) : ∀ (l : List Mb) (k : Nat), findF p a b l k = -1 ∨ ∃ j, ∃ h : j < l.length, findF p a b l k = ((k + j : Nat) : Int) ∧ hitS p l[j] a b = true
  | [], _ => .inl rfl
  | m :: l, k => by
    rw [findF]
    by_cases h : hitS p m a b = true
    · rw [if_pos h]
      exact .inr ⟨0, by simp, by simp, h⟩
    · rw [if_neg h]
      rcases findF_range p a b l (k + 1) with q | ⟨j, hj, q, r⟩
      · exact .inl q
      · exact .inr ⟨j + 1, by simpa using hj, by rw [q]; congr 1; omega, by simpa using r⟩
theorem findF_own (p : List Cn) : ∀ (l : List Mb) (k i : Nat) (hi : i < l.length), (∀ m ∈ l, (cnameS p m.name).2 = true ∧ (cnameS p m.desc).2 = true) → (l.map (keyM p true)).Nodup → findF p (cnameS p l[i].name).1 (cnameS p l[i].desc).1 l k = ((k + i : Nat) : Int)
  | [], _, _, hi, _, _ => by simp at hi
  | m :: l, k, 0, _, h1, _ => by
    have := h1 m (List.mem_cons_self ..)
    rw [findF, if_pos]
    · simp
    · simp [hitS, this.1, this.2]
  | m :: l, k, i + 1, hi, h1, h2 => by
    have hil : i < l.length := by simpa using hi
    rw [List.map_cons, List.nodup_cons] at h2
    rw [findF, if_neg]
    · have := findF_own p l (k + 1) i hil (fun x hx => h1 x (List.mem_cons_of_mem _ hx)) h2.2
      simp only [List.getElem_cons_succ]
      rw [this]
      congr 1
      omega
    · intro q
      simp only [hitS, List.getElem_cons_succ, Bool.and_eq_true, decide_eq_true_eq] at q
      refine h2.1 (List.mem_map.2 ⟨l[i], List.getElem_mem hil, ?_⟩)
      unfold keyM
      rw [if_pos rfl, if_pos rfl, ← q.1.2, ← q.2]
end Go.Proofs.YthpfknlgfkecpaaDoor.Sp
end
