/-
  Walks of strtab's New, Find, Runes and All; plain words for Prune.
-/
import Derived.Test.YtokkpdjbgaicmaaDoorStE
set_option linter.unusedVariables false
set_option linter.unusedSimpArgs false
namespace Go.Proofs.YtokkpdjbgaicmaaDoor
open Go.RowKit Go.Lib Go.Maps

namespace Sp
def Dist (E : List En) : Prop := E.Pairwise fun a b => a.1 ≠ b.1 ∧ a.2 ≠ b.2
theorem atT_none (E : List En) (t : ByteArray) : atT E t = none ↔ ∀ e ∈ E, e.1 ≠ t := by
  induction E with
  | nil => simp [atT]
  | cons e E ih =>
    simp only [atT]
    split
    · rename_i h; simp [h]
    · rename_i h; simp [ih, h]
theorem lenA_none (E : List En) (a : Int) : lenA E a = none ↔ ∀ e ∈ E, e.2 ≠ a := by
  induction E with
  | nil => simp [lenA]
  | cons e E ih =>
    simp only [lenA]
    split
    · rename_i h; simp [h]
    · rename_i h; simp [ih, h]
theorem atT_append (P D : List En) (t : ByteArray) : atT (P ++ D) t = (atT P t).or (atT D t) := by
  induction P with
  | nil => simp [atT]
  | cons e P ih =>
    simp only [List.cons_append, atT]
    split
    · rfl
    · exact ih
theorem lenA_append (P D : List En) (a : Int) : lenA (P ++ D) a = (lenA P a).or (lenA D a) := by
  induction P with
  | nil => simp [lenA]
  | cons e P ih =>
    simp only [List.cons_append, lenA]
    split
    · rfl
    · exact ih
theorem dist_mid {P D : List En} {e : En} (h : Dist (P ++ e :: D)) : (∀ x ∈ P, x.1 ≠ e.1 ∧ x.2 ≠ e.2) ∧ (∀ x ∈ D, x.1 ≠ e.1 ∧ x.2 ≠ e.2) ∧ Dist (P ++ D) := by
  obtain ⟨h1, h2, h3⟩ := List.pairwise_append.1 h
  obtain ⟨h4, h5⟩ := List.pairwise_cons.1 h2
  refine ⟨fun x hx => h3 x hx e (List.mem_cons_self ..), fun x hx => ?_, List.pairwise_append.2 ⟨h1, h5, fun a ha b hb => h3 a ha b (List.mem_cons_of_mem _ hb)⟩⟩
  have := h4 x hx
  exact ⟨fun q => this.1 q.symm, fun q => this.2 q.symm⟩
theorem atT_mid {P D : List En} {e : En} (h : Dist (P ++ e :: D)) : atT (P ++ e :: D) e.1 = some e.2 := by
  rw [atT_append, (atT_none P e.1).2 (fun x hx => ((dist_mid h).1 x hx).1), Option.none_or, atT, if_pos rfl]
theorem lenA_mid {P D : List En} {e : En} (h : Dist (P ++ e :: D)) : lenA (P ++ e :: D) e.2 = some (((runes e.1).length : Nat) : Int) := by
  rw [lenA_append, (lenA_none P e.2).2 (fun x hx => ((dist_mid h).1 x hx).2), Option.none_or, lenA, if_pos rfl]
theorem fT_del {P D : List En} {e : En} (h : Dist (P ++ e :: D)) : fT (P ++ D) (.string e.1) = none ∧ ∀ x, x ≠ .string e.1 → fT (P ++ D) x = fT (P ++ e :: D) x := by
  obtain ⟨h1, h2, h3⟩ := dist_mid h
  refine ⟨?_, fun x hx => ?_⟩
  · rw [fT_at, (atT_none _ _).2]
    · rfl
    · intro y hy
      rcases List.mem_append.1 hy with q | q
      · exact (h1 y q).1
      · exact (h2 y q).1
  · cases x with
    | string s =>
      have hne : ¬ e.1 = s := fun q => hx (by rw [q])
      rw [fT_at, fT_at, atT_append, atT_append, atT, if_neg hne]
    | _ => rfl
theorem fA_del {P D : List En} {e : En} (h : Dist (P ++ e :: D)) : fA (P ++ D) (.int .i64 e.2) = none ∧ ∀ x, x ≠ .int .i64 e.2 → fA (P ++ D) x = fA (P ++ e :: D) x := by
  obtain ⟨h1, h2, h3⟩ := dist_mid h
  refine ⟨?_, fun x hx => ?_⟩
  · rw [fA_at, (lenA_none _ _).2]
    · rfl
    · intro y hy
      rcases List.mem_append.1 hy with q | q
      · exact (h1 y q).2
      · exact (h2 y q).2
  · cases x with
    | int k b =>
      cases k with
      | i64 =>
        have hne : ¬ e.2 = b := fun q => hx (by rw [q])
        rw [fA_at, fA_at, lenA_append, lenA_append, lenA, if_neg hne]
      | _ => rfl
    | _ => rfl
theorem dist_next {E : List En} (h : Dist E) (t : ByteArray) (a : Int) : Dist (nextE E t a) := by
  unfold nextE
  split
  · rename_i h0
    unfold enterS at h0
    split at h0
    · cases h0
    · split at h0
      · cases h0
      · split at h0
        · cases h0
        · rename_i hn
          have h1 : atT E t = none := by cases hq : atT E t with | none => rfl | some x => exact absurd (.inl (by rw [hq]; rfl)) hn
          have h2 : lenA E a = none := by cases hq : lenA E a with | none => rfl | some x => exact absurd (.inr (by rw [hq]; rfl)) hn
          refine List.pairwise_append.2 ⟨h, List.pairwise_singleton _ _, fun x hx y hy => ?_⟩
          simp at hy
          subst hy
          exact ⟨(atT_none _ _).1 h1 x hx, (lenA_none _ _).1 h2 x hx⟩
  · exact h
def enC (e : En) : List Value := [.string e.1, .int .i64 e.2]
theorem enC_len (e : En) : (enC e).length = 2 := rfl
end Sp

set_option maxHeartbeats 8000000 in
set_option maxRecDepth 100000 in
theorem new_any (w : World) :
    Calls Tryd.prog 6 #[] w fun e w' => ∃ tb ba bo, e = .returned (.pointer (some ⟨tb, 0, none⟩)) ∧ Below w.heap.size w w' ∧ TabAt w' (fun k => w.heap.size ≤ k ∧ k < w'.heap.size) tb 0 [] ba bo none 0 := by
  have hmm := @run_makeMap Tryd.prog
  go_enter Tryd.func6, Tryd.ntmps6
  go_wp2
  go_ret
  refine ⟨_, w.heap.size, w.heap.size + 1, rfl, by (repeat (first | with_reducible assumption | with_reducible exact Below.refl _ _ | (with_reducible refine Below.setCell ?_ (by first | exact Nat.le_refl _ | omega | (simp; done) | (simp; omega)) _) | (with_reducible refine Below.alloc ?_ (by first | exact Nat.le_refl _ | omega | (simp; done) | (simp; omega)) _) | (with_reducible refine Below.drew ?_))), ?_⟩
  refine ⟨?_, ⟨by simp, .inl ⟨rfl, rfl⟩⟩, ?_, ?_, by omega, (by first | (simp; done) | (simp; omega)), (by first | (simp; done) | (simp; omega)), (by first | (simp; done) | (simp; omega)), (fun k hk => by cases hk), (fun k hk => hk.2), Nat.le_refl _, by simp⟩
  · have := blk_new ((w.alloc (.map #[] 0)).alloc (.map #[] 0)) (.cells #[.slice none 0 0, .map (some w.heap.size), .map (some (w.heap.size + 1)), .int .i64 0] 56)
    simpa [Sp.runesN] using this
  · have := mapV_alloc (mapV_alloc (mapV_made w Tryd.prog 9) (.map #[] 0)) (.cells #[.slice none 0 0, .map (some w.heap.size), .map (some (w.heap.size + 1)), .int .i64 0] 56)
    exact mapV_congr this (fun x => by cases x <;> rfl)
  · have := mapV_alloc (mapV_made (w.alloc (.map #[] 0)) Tryd.prog 3) (.cells #[.slice none 0 0, .map (some w.heap.size), .map (some (w.heap.size + 1)), .int .i64 0] 56)
    have e1 : (w.alloc (.map #[] 0)).heap.size = w.heap.size + 1 := by simp
    rw [e1] at this
    exact mapV_congr this (fun x => by cases x with | int k a => cases k <;> rfl | _ => rfl)

set_option maxHeartbeats 8000000 in
set_option maxRecDepth 100000 in
theorem find_any (S : Nat → Prop) (tb N : Nat) (E : List Sp.En) (ba bo : Nat) (A : Option Addr) (c : Nat) (t : ByteArray) (w : World) (h : TabAt w S tb N E ba bo A c) (ht : t.size ≤ 1000000) :
    Calls Tryd.prog 13 #[.pointer (some ⟨tb, 0, none⟩), .string t] w fun e w' => e = .returned (.tuple #[.int .i64 ((Sp.atT E t).getD 0), .bool (Sp.atT E t).isSome]) ∧ w' = w := by
  have kS := Lib.hid (keyS t (by unfold maxLen; omega))
  have h2 := Lib.hid h
  clear h
  obtain ⟨c1, f1⟩ := blk_cell h2.out.box 1 (.map (some ba)) rfl
  have HA := Lib.hid (Sp.fT_at E t)
  generalize Sp.atT E t = X at *
  cases X with
  | some x =>
    go_enter Tryd.func13, Tryd.ntmps13
    go_wp2_with (at_lookup; refine wpList_lookup_mapV_ok _ rfl _ _ 53 rfl 9 3 lawS Tryd.underlying53 (zeroI _) ba N (Sp.fT E) rfl h2.out.mt _ _ rfl kS.out (some (.int .i64 x)) HA.out ?_)
    go_ret2
    exact ⟨rfl, rfl⟩
  | none =>
    go_enter Tryd.func13, Tryd.ntmps13
    go_wp2_with (at_lookup; refine wpList_lookup_mapV_ok _ rfl _ _ 53 rfl 9 3 lawS Tryd.underlying53 (zeroI _) ba N (Sp.fT E) rfl h2.out.mt _ _ rfl kS.out none HA.out ?_)
    go_ret2
    exact ⟨rfl, rfl⟩

set_option maxHeartbeats 8000000 in
set_option maxRecDepth 100000 in
theorem runesT_any (S : Nat → Prop) (tb N : Nat) (E : List Sp.En) (ba bo : Nat) (A : Option Addr) (c : Nat) (w : World) (h : TabAt w S tb N E ba bo A c) :
    Calls Tryd.prog 16 #[.pointer (some ⟨tb, 0, none⟩)] w fun e w' => e = .returned (.int .i64 (Sp.runesN E : Nat)) ∧ w' = w := by
  obtain ⟨c1, f1⟩ := blk_cell h.box 3 (.int .i64 (Sp.runesN E : Nat)) rfl
  clear h
  go_enter Tryd.func16, Tryd.ntmps16
  go_wp2
  go_ret
  exact ⟨rfl, rfl⟩
end Go.Proofs.YtokkpdjbgaicmaaDoor
