/-
  Texts of the proof, joined: each says at its head what it proves.
-/
import Derived.Test.YtfjplmbknegidaaGreatDoorJk4
section
/-
  Walks of the reference's next and Field.
-/
set_option linter.unusedVariables false
set_option linter.unusedSimpArgs false
namespace Go.Proofs.YtfjplmbknegidaaGreatDoor
open Go.RowKit Go.Lib

namespace Sp
def refNextS (s : ByteArray) : Ty × Int := match readS s with
  | none => (t0, 0)
  | some q => (q.1, (s.size : Int) - q.2.size)
end Sp

set_option maxHeartbeats 8000000 in
set_option maxRecDepth 100000 in
theorem refNext2_any (s : ByteArray) (w : World) (hs : s.size ≤ 1099511627776) :
    Calls Tryz.prog 130 #[.string s] w fun e w' => e = .returned (.tuple #[Sp.tyV (Sp.refNextS s).1, .int .i64 (Sp.refNextS s).2]) ∧ Below w.heap.size w w' := by
  have hcs := (Sp.trim_split s).2.2
  go_enter Tryz.func130, Tryz.ntmps130
  go_wp2
  go_loopw [9] (fun _ wr => ∃ j : Nat, j ≤ Sp.cnt s ∧ wr = (w.alloc (.cells #[.int .i64 0, .string ⟨#[]⟩] 25)).alloc (.cells #[.int .i64 j, .string ⟨#[]⟩] 25)) (fun _ wr => s.size - (RowKit.intOf ((wr.cell? ⟨w.heap.size + 1, 0, none⟩).getD undef)).toNat)
  case atStart => exact ⟨0, Nat.zero_le _, rfl⟩
  case round =>
    obtain ⟨j, hj, rfl⟩ := hrel
    by_cases hlt : j < Sp.cnt s
    · have hck := idx_str s j (by omega)
      rw [Sp.cnt_bt s j hlt] at hck
      have hz : (j : Int) < (s.size : Int) := by omega
      go_wp2
      go_roundw
      case rel => exact ⟨j + 1, by omega, by simp⟩
      case measure => simp [RowKit.intOf]; omega
    · obtain rfl : j = Sp.cnt s := by omega
      have D1 := Sp.readS_deep s
      have D2 := Sp.readS_I s
      have D3 := Sp.readS_none s
      have D4 := Sp.readS_L s
      have D5 := Sp.trim_head s
      have D6 := Sp.bt_end s
      have D7 := fun j => Sp.tail_get s j
      have Dc := Sp.readS_class s
      generalize hcc : Sp.cnt s = c at *
      by_cases hdeep : 4 < c
      · have hR : Sp.refNextS s = (Sp.t0, 0) := by rw [Sp.refNextS, D1 hdeep]
        have hz4 : (4 : Int) < (c : Int) := by omega
        have hck := fun h => idx_str s c h
        by_cases hend : c < s.size
        · have hk := idx_str s c hend
          have hne : ¬ Sp.bt s c = 91 := D5 hend
          generalize Sp.bt s c = y at *
          clear hck Dc D1 D2 D3 D4 D5 D6 D7
          go_wp2
          (try simp only [Exit.inBlock, Exit.then]); refine bodyPost_ret (results_ct rfl _ _ _ rfl (ty_load _ w.heap.size 0 (x := .int .i64 0) (y := .string ⟨#[]⟩) (by simp) (by simp))) rfl ?_
          exact ⟨by first | rfl | (rw [hR]; rfl), (((Below.refl _ _).alloc (Nat.le_refl _) _).alloc (by simp) _)⟩
        · have hz : ¬ (c : Int) < (s.size : Int) := by omega
          clear hck Dc D1 D2 D3 D4 D5 D6 D7
          go_wp2
          (try simp only [Exit.inBlock, Exit.then]); refine bodyPost_ret (results_ct rfl _ _ _ rfl (ty_load _ w.heap.size 0 (x := .int .i64 0) (y := .string ⟨#[]⟩) (by simp) (by simp))) rfl ?_
          exact ⟨by first | rfl | (rw [hR]; rfl), (((Below.refl _ _).alloc (Nat.le_refl _) _).alloc (by simp) _)⟩
      have hz4 : ¬ (4 : Int) < (c : Int) := by omega
      by_cases hend : c < s.size
      · have hk := idx_str s c hend
        have hne : ¬ Sp.bt s c = 91 := D5 hend
        have hz : (c : Int) < (s.size : Int) := by omega
        have hzc : ((c : Int) == (s.size : Int)) = false := by rw [beq_eq_false_iff_ne]; omega
        by_cases y1 : Sp.bt s c = 73
        · have hts := (D7 0 hend).2
          have q0 : (0 : Int) ≤ (c : Int) := by omega
          have q4 : (c : Int) ≤ 4 := by omega
          have hri : Sp.rightS ((c : Int), ⟨#[]⟩) = true := by
            simp only [Sp.rightS, decide_eq_true q0, decide_eq_true q4, Bool.true_and]
            rfl
          have hR : Sp.refNextS s = (((c : Int), ⟨#[]⟩), (c : Int) + 1) := by
            rw [Sp.refNextS, D2 y1, if_pos hri]
            simp only [Prod.mk.injEq, true_and]
            rw [hts]
            omega
          rw [y1] at hk
          clear Dc D1 D2 D3 D4 D5 D6 D7 y1 hne
          go_wp2
          (try simp only [Exit.inBlock, Exit.then]); refine bodyPost_ret (results_ct rfl _ _ _ rfl (ty_load _ w.heap.size 0 (x := .int .i64 c) (y := .string ⟨#[]⟩) (by simp) (by simp))) rfl ?_
          exact ⟨by first | rfl | (rw [hR]; rfl), (((Below.refl _ _).alloc (Nat.le_refl _) _).alloc (by simp) _)⟩
        by_cases y2 : Sp.bt s c = 76
        · rw [y2] at hk
          obtain ⟨E, g1, g2, g3, g4, g5⟩ := Dc y2 hend (by omega)
          have hnm : (s.extract (c + 1) E).size ≤ 1099511627776 := by simp; omega
          have k1 := Lib.hid (fun W => refName_any (s.extract (c + 1) E) W (by omega))
          rw [Sp.refName_eq] at k1
          have hR := Lib.hid (show Sp.refNextS s = if E = s.size ∨ Sp.nameS (s.extract (c + 1) E) = false then (Sp.t0, 0) else (((c : Int), s.extract (c + 1) E), (E : Int) + 1) by
            rw [Sp.refNextS, g5]
            by_cases q : E = s.size ∨ Sp.nameS (s.extract (c + 1) E) = false
            · rw [if_pos q, if_pos q]
            · rw [if_neg q, if_neg q]
              have hx : (s.extract (E + 1) s.size).size = s.size - (E + 1) := by simp
              simp only [hx]
              have : E < s.size := by omega
              refine Prod.ext rfl ?_
              simp only []
              omega)
          clear Dc D1 D2 D3 D4 D5 D6 D7 g5 hne y2
          generalize hN : s.extract (c + 1) E = nm at *
          generalize Sp.nameS nm = v at *
          go_wp2
          go_loop [6] (fun v6 => ∃ j : Nat, c + 1 ≤ j ∧ j ≤ E ∧ v6 = .int .i64 j) (fun v6 => E - (RowKit.intOf v6).toNat)
          case atStart => exact ⟨c + 1, Nat.le_refl _, g1, by go_num⟩
          case round =>
            obtain ⟨j, hj1, hj2, rfl⟩ := hrel
            by_cases hlt : j < E
            · have hjs : j < s.size := by omega
              have hzj : (j : Int) < (s.size : Int) := by omega
              have hkj := idx_str s j hjs
              have hny := g3 j hj1 hlt
              generalize Sp.bt s j = y at hkj hny
              go_wp2
              go_round
              case rel => exact ⟨j + 1, by omega, by omega, by go_num⟩
              case measure => simp [RowKit.intOf]; omega
            · obtain rfl : j = E := by omega
              clear g3
              have hfin : Hid (∀ W1, Below ((w.alloc (.cells #[.int .i64 0, .string ⟨#[]⟩] 25)).alloc (.cells #[.int .i64 c, .string nm] 25)).heap.size ((w.alloc (.cells #[.int .i64 0, .string ⟨#[]⟩] 25)).alloc (.cells #[.int .i64 c, .string nm] 25)) W1 → Below w.heap.size w W1) := Lib.hid (fun W1 h => below_then (((Below.refl _ _).alloc (Nat.le_refl _) _).alloc (by simp) _) (by simp; omega) h)
              by_cases hE : j = s.size
              · have hR' : Sp.refNextS s = (Sp.t0, 0) := by rw [hR.out, if_pos (.inl hE)]
                have hze : ¬ (j : Int) < (s.size : Int) := by omega
                subst hE
                clear hR
                go_wp2_with fail
                refine (k1.out _).mono ?_
                rintro e w1 ⟨rfl, hb⟩
                obtain ⟨c0, f0⟩ := kept_cell hb ⟨w.heap.size, 0, none⟩ (.int .i64 0) (by simp)
                obtain ⟨c1, f1⟩ := kept_cell hb ⟨w.heap.size, 1, none⟩ (.string ⟨#[]⟩) (by simp)
                have hb' := hfin.out _ hb
                go_wp2
                (try simp only [Exit.inBlock, Exit.then]); refine bodyPost_ret (results_ct rfl _ _ _ rfl (ty_load _ w.heap.size 0 (x := .int .i64 0) (y := .string ⟨#[]⟩) (by (repeat (first | with_reducible assumption | (with_reducible apply World.cell?_setCell_same) | (with_reducible refine cell_alloc _ _ ?_) | (refine (World.cell?_setCell_other _ _ _ _ (by first | (simp; done) | (intro q; simp at q; done) | (intro q; simp at q; omega))).trans ?_)))) (by (repeat (first | with_reducible assumption | (with_reducible apply World.cell?_setCell_same) | (with_reducible refine cell_alloc _ _ ?_) | (refine (World.cell?_setCell_other _ _ _ _ (by first | (simp; done) | (intro q; simp at q; done) | (intro q; simp at q; omega))).trans ?_)))))) rfl ?_
                exact ⟨by first | rfl | (rw [hR']; rfl), (hb'.setCell (p := ⟨w.heap.size, 0, none⟩) (Nat.le_refl _) _).setCell (p := ⟨w.heap.size, 1, none⟩) (Nat.le_refl _) _⟩
              · have hlt2 : j < s.size := by omega
                have hkE := idx_str s j hlt2
                rw [g4 hlt2] at hkE
                have hzl : (j : Int) < (s.size : Int) := by omega
                have hzb : ((j : Int) == (s.size : Int)) = false := by rw [beq_eq_false_iff_ne]; omega
                cases v with
                | false =>
                  have hR' : Sp.refNextS s = (Sp.t0, 0) := by rw [hR.out, if_pos (.inr rfl)]
                  clear hR
                  go_wp2_with fail
                  refine (k1.out _).mono ?_
                  rintro e w1 ⟨rfl, hb⟩
                  obtain ⟨c0, f0⟩ := kept_cell hb ⟨w.heap.size, 0, none⟩ (.int .i64 0) (by simp)
                  obtain ⟨c1, f1⟩ := kept_cell hb ⟨w.heap.size, 1, none⟩ (.string ⟨#[]⟩) (by simp)
                  have hb' := hfin.out _ hb
                  go_wp2
                  (try simp only [Exit.inBlock, Exit.then]); refine bodyPost_ret (results_ct rfl _ _ _ rfl (ty_load _ w.heap.size 0 (x := .int .i64 0) (y := .string ⟨#[]⟩) (by (repeat (first | with_reducible assumption | (with_reducible apply World.cell?_setCell_same) | (with_reducible refine cell_alloc _ _ ?_) | (refine (World.cell?_setCell_other _ _ _ _ (by first | (simp; done) | (intro q; simp at q; done) | (intro q; simp at q; omega))).trans ?_)))) (by (repeat (first | with_reducible assumption | (with_reducible apply World.cell?_setCell_same) | (with_reducible refine cell_alloc _ _ ?_) | (refine (World.cell?_setCell_other _ _ _ _ (by first | (simp; done) | (intro q; simp at q; done) | (intro q; simp at q; omega))).trans ?_)))))) rfl ?_
                  exact ⟨by first | rfl | (rw [hR']; rfl), (hb'.setCell (p := ⟨w.heap.size, 0, none⟩) (Nat.le_refl _) _).setCell (p := ⟨w.heap.size, 1, none⟩) (Nat.le_refl _) _⟩
                | true =>
                  have hR' : Sp.refNextS s = (((c : Int), nm), (j : Int) + 1) := by rw [hR.out, if_neg (by simp; omega)]
                  clear hR
                  go_wp2_with fail
                  refine (k1.out _).mono ?_
                  rintro e w1 ⟨rfl, hb⟩
                  obtain ⟨c0, f0⟩ := kept_cell hb ⟨w.heap.size, 0, none⟩ (.int .i64 0) (by simp)
                  obtain ⟨c1, f1⟩ := kept_cell hb ⟨w.heap.size, 1, none⟩ (.string ⟨#[]⟩) (by simp)
                  obtain ⟨c2, f2⟩ := kept_cell hb ⟨w.heap.size + 1, 0, none⟩ (.int .i64 c) (by simp)
                  obtain ⟨c3, f3⟩ := kept_cell hb ⟨w.heap.size + 1, 1, none⟩ (.string nm) (by simp)
                  have hb' := hfin.out _ hb
                  go_wp2
                  (try simp only [Exit.inBlock, Exit.then]); refine bodyPost_ret (results_ct rfl _ _ _ rfl (ty_load _ w.heap.size 0 (x := .int .i64 c) (y := .string nm) (by (repeat (first | with_reducible assumption | (with_reducible apply World.cell?_setCell_same) | (with_reducible refine cell_alloc _ _ ?_) | (refine (World.cell?_setCell_other _ _ _ _ (by first | (simp; done) | (intro q; simp at q; done) | (intro q; simp at q; omega))).trans ?_)))) (by (repeat (first | with_reducible assumption | (with_reducible apply World.cell?_setCell_same) | (with_reducible refine cell_alloc _ _ ?_) | (refine (World.cell?_setCell_other _ _ _ _ (by first | (simp; done) | (intro q; simp at q; done) | (intro q; simp at q; omega))).trans ?_)))))) rfl ?_
                  exact ⟨by first | rfl | (rw [hR']; rfl), (hb'.setCell (p := ⟨w.heap.size, 0, none⟩) (Nat.le_refl _) _).setCell (p := ⟨w.heap.size, 1, none⟩) (Nat.le_refl _) _⟩
        · have hR : Sp.refNextS s = (Sp.t0, 0) := by rw [Sp.refNextS, D3 y1 y2]
          generalize Sp.bt s c = y at *
          clear Dc D1 D2 D3 D4 D5 D6 D7
          go_wp2
          (try simp only [Exit.inBlock, Exit.then]); refine bodyPost_ret (results_ct rfl _ _ _ rfl (ty_load _ w.heap.size 0 (x := .int .i64 0) (y := .string ⟨#[]⟩) (by simp) (by simp))) rfl ?_
          exact ⟨by first | rfl | (rw [hR]; rfl), (((Below.refl _ _).alloc (Nat.le_refl _) _).alloc (by simp) _)⟩
      · have hR : Sp.refNextS s = (Sp.t0, 0) := by rw [Sp.refNextS, D3 (by rw [D6 c hend]; decide) (by rw [D6 c hend]; decide)]
        have hz : ¬ (c : Int) < (s.size : Int) := by omega
        have hce : c = s.size := by omega
        clear Dc D1 D2 D3 D4 D5 D6 D7
        go_wp2
        (try simp only [Exit.inBlock, Exit.then]); refine bodyPost_ret (results_ct rfl _ _ _ rfl (ty_load _ w.heap.size 0 (x := .int .i64 0) (y := .string ⟨#[]⟩) (by simp) (by simp))) rfl ?_
        exact ⟨by first | rfl | (rw [hR]; rfl), (((Below.refl _ _).alloc (Nat.le_refl _) _).alloc (by simp) _)⟩
end Go.Proofs.YtfjplmbknegidaaGreatDoor
end
section
/-
  Signatures: plain words; blocks whose cells are known.
-/
set_option linter.unusedVariables false
set_option linter.unusedSimpArgs false
namespace Go.Proofs.YtfjplmbknegidaaGreatDoor
open Go.RowKit Go.Lib

namespace Sp
/-- A signature: arguments, what it returns, none. -/
abbrev Sig := List Ty × Ty × Bool
def sig0 : Sig := ([], t0, false)
/-- The types up to the closing bracket, and what is left from it on. -/
def argsF : Nat → ByteArray → Option (List Ty × ByteArray)
  | 0, _ => none
  | f + 1, s => if bt s 0 = 41 then some ([], s) else match readS s with
    | none => none
    | some q => (argsF f q.2).map fun r => (q.1 :: r.1, r.2)
def doneS (l : List Ty) (t : Ty) (v : Bool) : Sig × Int := if 16 < l.length then (sig0, 3) else ((l, t, v), 0)
def finS (l : List Ty) (r : ByteArray) : Sig × Int :=
  if r = B [41, 86] then doneS l t0 true else if (fieldS (r.extract 1 r.size)).2 = 0 then doneS l (fieldS (r.extract 1 r.size)).1 false else (sig0, 9)
def endS (o : Option (List Ty × ByteArray)) : Sig × Int := match o with
  | none => (sig0, 9)
  | some q => finS q.1 q.2
def methodS (s : ByteArray) : Sig × Int := if bt s 0 = 40 then endS (argsF s.size (s.extract 1 s.size)) else (sig0, 9)
/-- What is read ahead of what is still to be read. -/
def ahead (acc : List Ty) (o : Option (List Ty × ByteArray)) : Option (List Ty × ByteArray) := o.map fun r => (acc ++ r.1, r.2)
theorem ahead_nil (o : Option (List Ty × ByteArray)) : ahead [] o = o := by cases o <;> simp [ahead]
theorem ahead_cons (acc : List Ty) (t : Ty) (o : Option (List Ty × ByteArray)) : ahead acc (o.map fun r => (t :: r.1, r.2)) = ahead (acc ++ [t]) o := by cases o <;> simp [ahead]
theorem fieldS_err (s : ByteArray) : (fieldS s).2 = 0 ∨ (fieldS s).2 = 9 := by
  unfold fieldS
  split
  · exact .inr rfl
  · split
    · exact .inl rfl
    · exact .inr rfl
def sigV (A : Option Addr) (c : Nat) (m : Sig) : Value := .agg #[.slice A m.1.length c, .int .i64 m.2.1.1, .string m.2.1.2, .bool m.2.2]
def tyCells : List Ty → List Value
  | [] => []
  | t :: l => .int .i64 t.1 :: .string t.2 :: tyCells l
theorem tyCells_length : ∀ l : List Ty, (tyCells l).length = l.length * 2
  | [] => rfl
  | t :: l => by simp only [tyCells, List.length_cons, tyCells_length l]; omega
theorem tyCells_append : ∀ a b : List Ty, tyCells (a ++ b) = tyCells a ++ tyCells b
  | [], _ => rfl
  | t :: a, b => by simp only [List.cons_append, tyCells, tyCells_append a b]
theorem tyCells_get : ∀ (l : List Ty) (j : Nat) (h : j < l.length), (tyCells l)[2 * j]? = some (.int .i64 (l[j]).1) ∧ (tyCells l)[2 * j + 1]? = some (.string (l[j]).2)
  | [], _, h => by simp at h
  | t :: l, 0, _ => by simp [tyCells]
  | t :: l, j + 1, h => by
    have := tyCells_get l j (by simpa using h)
    rw [show 2 * (j + 1) = 2 * j + 1 + 1 by omega]
    simpa [tyCells] using this
end Sp

/-- A slice of types is read. -/
def RdT (w : World) (A : Option Addr) (l : List Sp.Ty) : Prop := l.length ≤ 9223372036854775807 ∧ (0 < l.length → ∃ b o, A = some ⟨b, o, none⟩ ∧ w.rangeAt b o (Sp.tyCells l))

theorem rdT_nil (w : World) (A : Option Addr) : RdT w A [] := ⟨by simp, fun h => by simp at h⟩
theorem rdT_get {w : World} {b o : Nat} {l : List Sp.Ty} (h : w.rangeAt b o (Sp.tyCells l)) {j : Nat} (hj : j < l.length) : w.cell? ⟨b, o + 2 * j, none⟩ = some (.int .i64 (l[j]).1) ∧ w.cell? ⟨b, o + 2 * j + 1, none⟩ = some (.string (l[j]).2) := by
  have := Sp.tyCells_get l j hj
  exact ⟨h _ _ this.1, by have := h _ _ this.2; rwa [← Nat.add_assoc] at this⟩

namespace Sp
/-- What is read is right, and its text is gone. -/
theorem readS_size (s : ByteArray) (q : Ty × ByteArray) (h : readS s = some q) : q.2.size < s.size ∧ q.1.2.size ≤ s.size ∧ rightS q.1 = true := by
  have ht := trim_size s
  unfold readS at h
  by_cases c1 : Lib.hasPrefix (trimB s).data.toList [73] = true
  · rw [if_pos c1] at h
    have hp := pre_size _ _ c1
    split at h
    · rename_i hr
      injection h with h
      subst h
      exact ⟨by show (tailB (trimB s)).size < _; simp [tailB]; omega, by show (⟨#[]⟩ : ByteArray).size ≤ _; exact Nat.zero_le _, hr⟩
    · cases h
  · rw [if_neg c1] at h
    by_cases c2 : Lib.hasPrefix (trimB s).data.toList [76] = true
    · rw [if_pos c2] at h
      have hp := pre_size _ _ c2
      have hz : (tailB (trimB s)).size = (trimB s).size - 1 := by simp [tailB]
      split at h
      · cases h
      · split at h
        · rename_i hr
          injection h with h
          subst h
          refine ⟨?_, ?_, hr⟩
          · simp only [ByteArray.size_extract]
            omega
          · simp only [ByteArray.size_extract]
            omega
        · cases h
    · rw [if_neg c2] at h
      cases h
end Sp

/-! Blocks. -/
theorem blk_cell {w : World} {b : Nat} {C : Array Value} {T : TypeId} (h : w.heap[b]? = some (.cells C T (0, 0))) (j : Nat) (v : Value) (hv : C[j]? = some v) : w.cell? ⟨b, j, none⟩ = some v ∧ w.frozen? ⟨b, j, none⟩ = false :=
  ⟨(Lib.cell_of_heap h j).trans hv, by simp [World.frozen?, h]⟩
theorem blk4 {w : World} {b : Nat} {x y z u : Value} {T : TypeId} (h : w.heap[b]? = some (.cells #[x, y, z, u] T (0, 0))) : (w.cell? ⟨b, 0, none⟩ = some x ∧ w.cell? ⟨b, 1, none⟩ = some y ∧ w.cell? ⟨b, 2, none⟩ = some z ∧ w.cell? ⟨b, 3, none⟩ = some u) ∧ (w.frozen? ⟨b, 0, none⟩ = false ∧ w.frozen? ⟨b, 1, none⟩ = false ∧ w.frozen? ⟨b, 2, none⟩ = false ∧ w.frozen? ⟨b, 3, none⟩ = false) :=
  ⟨⟨(blk_cell h 0 x rfl).1, (blk_cell h 1 y rfl).1, (blk_cell h 2 z rfl).1, (blk_cell h 3 u rfl).1⟩, (blk_cell h 0 x rfl).2, (blk_cell h 1 y rfl).2, (blk_cell h 2 z rfl).2, (blk_cell h 3 u rfl).2⟩
theorem blk2 {w : World} {b : Nat} {x y : Value} {T : TypeId} (h : w.heap[b]? = some (.cells #[x, y] T (0, 0))) : (w.cell? ⟨b, 0, none⟩ = some x ∧ w.cell? ⟨b, 1, none⟩ = some y) ∧ (w.frozen? ⟨b, 0, none⟩ = false ∧ w.frozen? ⟨b, 1, none⟩ = false) :=
  ⟨⟨(blk_cell h 0 x rfl).1, (blk_cell h 1 y rfl).1⟩, (blk_cell h 0 x rfl).2, (blk_cell h 1 y rfl).2⟩
theorem blk1 {w : World} {b : Nat} {x : Value} {T : TypeId} (h : w.heap[b]? = some (.cells #[x] T (0, 0))) : w.cell? ⟨b, 0, none⟩ = some x ∧ w.frozen? ⟨b, 0, none⟩ = false := blk_cell h 0 x rfl
theorem blk_set {w : World} {b i : Nat} {C : Array Value} {T : TypeId} {fr : Nat × Nat} (h : w.heap[b]? = some (.cells C T fr)) (v : Value) : (w.setCell ⟨b, i, none⟩ v).heap[b]? = some (.cells (C.setIfInBounds i v) T fr) := by
  simp [World.setCell, Array.getElem?_modify, h]
theorem blk_new (w : World) (o : Obj) : (w.alloc o).heap[w.heap.size]? = some o := by
  show (w.heap.push o)[w.heap.size]? = _
  simp
theorem blk_lt {w : World} {b : Nat} {o : Obj} (h : w.heap[b]? = some o) : b < w.heap.size := by
  obtain ⟨hlt, _⟩ := Array.getElem?_eq_some_iff.1 h
  exact hlt
theorem blk_old {w : World} {b : Nat} {o p : Obj} (h : w.heap[b]? = some p) : (w.alloc o).heap[b]? = some p := (Below.heap_alloc w o b (blk_lt h)).trans h
theorem blk_other {w : World} {b : Nat} {p : Obj} (h : w.heap[b]? = some p) (a : Addr) (v : Value) (hne : b ≠ a.block) : (w.setCell a v).heap[b]? = some p := (Below.heap_setCell w a v b hne).trans h
theorem blk_drew {w : World} {b : Nat} {p : Obj} (h : w.heap[b]? = some p) : w.drew.heap[b]? = some p := h
theorem blk_grown {w w' : World} {b : Nat} {p : Obj} {row : Option Nat} (h : w.heap[b]? = some p) (hg : w.grownBy w' row) (hne : some b ≠ row) : w'.heap[b]? = some p := (hg.block b (blk_lt h) hne).trans h
theorem blk_below {w w' : World} {b : Nat} {p : Obj} (h : w.heap[b]? = some p) (hg : Below w.heap.size w w') : w'.heap[b]? = some p := (hg.block b (blk_lt h)).trans h
theorem own_rdT {w : World} {base : Nat} {e : TypeId} {A : Option Addr} {n c : Nat} {l : List Sp.Ty} (h : w.ownsRow base e 2 (.slice A n c) n (Sp.tyCells l)) : n = l.length ∧ RdT w A l := by
  have hl : (Sp.tyCells l).length = n * 2 := h.1
  rw [Sp.tyCells_length] at hl
  have hn : n = l.length := by omega
  have hm : n ≤ 9223372036854775807 := by
    rcases h.2 with ⟨_, h0⟩ | ⟨g, cap, cur, hv, h1, h2, h3, h4, h5⟩
    · omega
    · have := h4; unfold maxLen at this; omega
  refine ⟨hn, by omega, fun h0 => ?_⟩
  obtain ⟨g, hA⟩ : ∃ g, A = some ⟨g, 0, none⟩ := by
    rcases h.2 with ⟨_, h1⟩ | ⟨g, cap, cur, hv, _⟩
    · omega
    · exact ⟨g, by injection hv⟩
  subst hA
  refine ⟨g, 0, rfl, fun j v hj => ?_⟩
  have hc := h.cells (g := g) rfl j v hj
  rw [show (⟨g, 0, none⟩ : Addr).add j = ⟨g, 0 + j, none⟩ by unfold Addr.add; split <;> simp_all] at hc
  exact hc
theorem own_sl {w : World} {base n : Nat} {e : TypeId} {size : Nat} {v : Value} {xs : List Value} (h : w.ownsRow base e size v n xs) : ∃ A c, v = .slice A n c := by
  rcases h.2 with ⟨hv, h0⟩ | ⟨g, cap, cur, hv, _⟩
  · exact ⟨none, 0, by rw [hv, h0]⟩
  · exact ⟨_, _, hv⟩
theorem own_len {w : World} {base n : Nat} {e : TypeId} {v : Value} {xs : List Value} (h : w.ownsRow base e 2 v n xs) : n ≤ 9223372036854775807 := by
  rcases h.2 with ⟨_, h0⟩ | ⟨g, cap, cur, hv, h1, h2, h3, h4, h5⟩
  · omega
  · have := h4; unfold maxLen at this; omega
theorem own_below {w w1 : World} {base n size : Nat} {e : TypeId} {v : Value} {xs : List Value} (h : w.ownsRow base e size v n xs) (hb : Below w.heap.size w w1) : w1.ownsRow base e size v n xs := by
  refine ⟨h.1, ?_⟩
  rcases h.2 with h0 | ⟨g, cap, cur, hv, h1, h2, h3, h4, h5⟩
  · exact .inl h0
  · exact .inr ⟨g, cap, cur, hv, h1, blk_below h2 hb, h3, h4, h5⟩
theorem kept_grown {w w1 : World} {row : Option Nat} (hg : w.grownBy w1 row) {a : Addr} {v : Value} (hc : w.cell? a = some v ∧ w.frozen? a = false) (hne : some a.block ≠ row) : w1.cell? a = some v ∧ w1.frozen? a = false := by
  have hlt := World.block_lt_of_cell? w a hc.1
  exact ⟨hg.cell hc.1 hne, (World.frozen?_of_block (hg.block a.block hlt hne)).trans hc.2⟩
theorem own_set {w : World} {base n size : Nat} {e : TypeId} {v : Value} {xs : List Value} (h : w.ownsRow base e size v n xs) {b o : Nat} (hne : ∀ k, v.ownBlock = some k → k ≠ b) (u : Value) : (w.setCell ⟨b, o, none⟩ u).ownsRow base e size v n xs := by
  refine h.kept (row := some b) (grown_set (World.grownBy.refl w (some b)) u) ?_
  cases hk : v.ownBlock with
  | none => exact .inl rfl
  | some k => exact .inr (fun e => hne k hk (by injection e))
theorem own_blk {w : World} {base n : Nat} {e : TypeId} {size : Nat} {v : Value} {xs : List Value} (h : w.ownsRow base e size v n xs) {k : Nat} (hk : v.ownBlock = some k) : base ≤ k := (h.lt k hk).1
theorem rdT_below {w w1 : World} {A : Option Addr} {l : List Sp.Ty} (h : RdT w A l) (hb : Below w.heap.size w w1) : RdT w1 A l := by
  refine ⟨h.1, fun h0 => ?_⟩
  obtain ⟨b, o, hA, hr⟩ := h.2 h0
  exact ⟨b, o, hA, fun j v hj => cell_below hb (hr j v hj)⟩
end Go.Proofs.YtfjplmbknegidaaGreatDoor
end
