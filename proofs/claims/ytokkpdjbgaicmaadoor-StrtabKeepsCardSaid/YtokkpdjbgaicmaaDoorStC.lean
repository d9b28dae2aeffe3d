/-
  Walks of the reference's Runes and Name.
-/
import Derived.Test.YtokkpdjbgaicmaaDoorStB
set_option linter.unusedVariables false
set_option linter.unusedSimpArgs false
namespace Go.Proofs.YtokkpdjbgaicmaaDoor
open Go.RowKit Go.Lib

/-- Numbers as the cells of a row. -/
def numk (k : IntKind) (xs : List Int) : List Value := xs.map (Value.int k)
theorem numk_append (k : IntKind) (xs ys : List Int) : numk k (xs ++ ys) = numk k xs ++ numk k ys := by simp [numk]
theorem numk_length (k : IntKind) (xs : List Int) : (numk k xs).length = xs.length := by simp [numk]

theorem own_slice {w : World} {base n : Nat} {e : TypeId} {size : Nat} {v : Value} {xs : List Value} (h : w.ownsRow base e size v n xs) : ∃ A c, v = .slice A n c := by
  rcases h.2 with ⟨hv, h0⟩ | ⟨g, cap, cur, hv, _⟩
  · exact ⟨none, 0, by rw [hv, h0]⟩
  · exact ⟨_, _, hv⟩
theorem own_max {w : World} {base n : Nat} {e : TypeId} {v : Value} {xs : List Value} (h : w.ownsRow base e 1 v n xs) : n ≤ 9223372036854775807 := by
  rcases h.2 with ⟨hv, h0⟩ | ⟨g, cap, cur, hv, h1, h2, h3, h4, h5⟩
  · omega
  · have := h4; unfold maxLen at this; omega
/-- What is owned is read. -/
theorem own_rdN {k : IntKind} {w : World} {base : Nat} {e : TypeId} {A : Option Addr} {n c : Nat} {xs : List Int} (h : w.ownsRow base e 1 (.slice A n c) n (numk k xs)) : n = xs.length ∧ RdN k w A xs := by
  have hl : xs.length = n := by have := h.1; simp [numk] at this; exact this
  have hm := own_max h
  refine ⟨hl.symm, by omega, fun h0 => ?_⟩
  obtain ⟨g, hA⟩ : ∃ g, A = some ⟨g, 0, none⟩ := by
    rcases h.2 with ⟨_, h1⟩ | ⟨g, cap, cur, hv, _⟩
    · omega
    · exact ⟨g, by injection hv⟩
  subst hA
  refine ⟨g, 0, rfl, fun j hj => ?_⟩
  have hc := h.cells (g := g) rfl j (.int k (xs.getD j 0)) (by simp [numk, List.getElem?_eq_getElem hj, List.getD_eq_getElem?_getD])
  rw [show (⟨g, 0, none⟩ : Addr).add j = ⟨g, 0 + j, none⟩ by unfold Addr.add; split <;> simp_all] at hc
  exact hc

namespace Sp
/-- What the reference's Runes tells. -/
def rB : Nat → ByteArray → List Int × Bool
  | 0, _ => ([], true)
  | f + 1, t =>
    if t.size = 0 then ([], true)
    else if (refNext t).2 = 0 then (65533 :: (rB f (t.extract 1 t.size)).1, false)
    else ((refNext t).1 :: (rB f (t.extract (refNext t).2.toNat t.size)).1, (rB f (t.extract (refNext t).2.toNat t.size)).2)
def refRunes (s : ByteArray) : List Int × Bool := rB s.size s
theorem finN_range (n r : Int) (hn : 0 ≤ n) : 0 ≤ (finN n r).2 ∧ (finN n r).2 ≤ n := by unfold finN; split <;> simp <;> omega
theorem goN_range (s : ByteArray) (n : Nat) (r0 : Int) : 0 ≤ (goN s n r0).2 ∧ (goN s n r0).2 ≤ n ∧ (goN s n r0).2 ≤ s.size := by
  unfold goN
  split
  · simp
  · split
    · simp
    · rename_i r _
      have := finN_range n r (by omega)
      omega
theorem refNext_range (s : ByteArray) (h : 0 < s.size) : 0 ≤ (refNext s).2 ∧ (refNext s).2 ≤ s.size := by
  unfold refNext
  repeat' split
  · simp; omega
  · have := goN_range s 2 (bt s 0 - 192); omega
  · have := goN_range s 3 (bt s 0 - 224); omega
  · have := goN_range s 4 (bt s 0 - 240); omega
  · simp
end Sp

theorem infoInt : (Tryd.prog.info? 3).map (fun i => (i.zero, i.size, i.bytes)) = some (some (.int .i64 0), 1, 8) := by kernel_rfl

set_option maxHeartbeats 8000000 in
set_option maxRecDepth 100000 in
theorem refRunes_own (s : ByteArray) (w : World) (hs : s.size ≤ 1099511627776) :
    Calls Tryd.prog 18 #[.string s] w fun e w' => ∃ v, e = .returned (.tuple #[v, .bool (Sp.refRunes s).2]) ∧ w'.ownsRow w.heap.size 3 1 v (Sp.refRunes s).1.length (numk .i64 (Sp.refRunes s).1) ∧ Below w.heap.size w w' := by
  obtain ⟨i0, hi, hz0, hz1, hz2⟩ := info_parts infoInt
  generalize hR : Sp.refRunes s = R
  have HR := Lib.hid (show Sp.rB s.size s = R from hR)
  clear hR
  go_enter Tryd.func18, Tryd.ntmps18
  go_wp2
  go_loopw [0, 4, 5] (fun v0 v4 v5 wr => ∃ (t : ByteArray) (f : Nat) (acc : List Int) (ok : Bool), v0 = .string t ∧ v5 = .bool ok ∧ wr.ownsRow w.heap.size 3 1 v4 acc.length (numk .i64 acc) ∧ Below w.heap.size w wr ∧ Hid (acc ++ (Sp.rB f t).1 = R.1) ∧ Hid ((ok && (Sp.rB f t).2) = R.2) ∧ t.size ≤ f ∧ acc.length + t.size ≤ s.size) (fun v0 _ _ _ => (strOf v0).size)
  case atStart => exact ⟨s, s.size, [], true, rfl, rfl, ⟨by simp [numk], .inl ⟨rfl, rfl⟩⟩, Below.refl _ _, Lib.hid (by rw [HR.out]; rfl), Lib.hid (by rw [HR.out]; rfl), by omega, by simp⟩
  case round =>
    obtain ⟨t, f, acc, ok, rfl, rfl, hown, hbw, hl, hk, hf, hal⟩ := hrel
    have hsz := hbw.size
    by_cases h0 : t.size = 0
    · have hz : ¬ (0 < (t.size : Int)) := by omega
      have hr1 := Lib.hid (show R.1 = acc by rw [← hl.out]; cases f <;> simp [Sp.rB, h0])
      have hr2 := Lib.hid (show R.2 = ok by rw [← hk.out]; cases f <;> simp [Sp.rB, h0])
      clear hl hk HR h0
      go_wp2
      go_ret2
      exact ⟨_, by rw [hr2.out]; rfl, by rw [hr1.out]; exact hown, hbw⟩
    obtain ⟨g, rfl⟩ : ∃ g, f = g + 1 := ⟨f - 1, by omega⟩
    have hpos : 0 < t.size := by omega
    have hz : (0 < (t.size : Int)) := by omega
    have hn := Lib.hid (refNext_any t wr hpos (by omega))
    have hrr := Sp.refNext_range t hpos
    have hl2 := Lib.hid (show acc ++ (if (Sp.refNext t).2 = 0 then (65533 :: (Sp.rB g (t.extract 1 t.size)).1, false) else ((Sp.refNext t).1 :: (Sp.rB g (t.extract (Sp.refNext t).2.toNat t.size)).1, (Sp.rB g (t.extract (Sp.refNext t).2.toNat t.size)).2)).1 = R.1 by rw [← hl.out, Sp.rB, if_neg h0])
    have hk2 := Lib.hid (show (ok && (if (Sp.refNext t).2 = 0 then (65533 :: (Sp.rB g (t.extract 1 t.size)).1, false) else ((Sp.refNext t).1 :: (Sp.rB g (t.extract (Sp.refNext t).2.toNat t.size)).1, (Sp.rB g (t.extract (Sp.refNext t).2.toNat t.size)).2)).2) = R.2 by rw [← hk.out, Sp.rB, if_neg h0])
    clear hl hk h0
    generalize Sp.refNext t = q at hn hrr hl2 hk2
    obtain ⟨r, n⟩ := q
    simp only at hn hrr hl2 hk2
    by_cases hn0 : n = 0
    · have hl3 := Lib.hid (show (acc ++ [65533]) ++ (Sp.rB g (t.extract 1 t.size)).1 = R.1 by rw [← hl2.out, if_pos hn0]; simp)
      have hk3 := Lib.hid (show (false && (Sp.rB g (t.extract 1 t.size)).2) = R.2 by rw [← hk2.out, if_pos hn0]; simp)
      have hnb : (n == 0) = true := by simpa using hn0
      clear hl2 hk2 hn0
      go_wp2_with fail
      refine hn.out.mono ?_
      rintro e w1 ⟨rfl, rfl⟩
      clear hn
      go_wp2_with (at_builtin; refine wpList_append_own _ rfl _ _ 30 rfl w.heap.size 3 i0 (.int .i64 0) 1 8 Tryd.underlying30 hi hz0 hz1 hz2 rfl (by decide) _ _ _ rfl (hown.alloc _) ⟨w1.heap.size, 0, none⟩ 1 1 (numk .i64 [65533]) rfl rfl ?c1 ?c2 ?c3 ?c4 ?c5 ?_)
      case c1 =>
        intro j u hj
        match j, hj with
        | 0, hj => simp [numk] at hj; subst hj; simp [Addr.add]
        | (j + 1), hj => simp [numk] at hj
      case c2 => intro u hu; simp [numk] at hu; subst hu; rfl
      case c3 => unfold maxLen; omega
      case c4 => omega
      case c5 => first | omega | (simp; omega)
      intro v' w3 hown' hgrow _
      have hb3 := (hbw.alloc (by omega) _).grown hgrow (by simp; omega) (fun q hq => own_base hown q hq)
      go_wp2
      go_roundw
      case rel =>
        have hx : (t.extract 1 t.size).size = t.size - 1 := by simp
        exact ⟨t.extract 1 t.size, g, acc ++ [65533], false, rfl, rfl, by rw [List.length_append, numk_append]; exact hown', hb3, hl3, hk3, by omega, by simp; omega⟩
      case measure => simp only [strOf]; simp; omega
    · have hl3 := Lib.hid (show (acc ++ [r]) ++ (Sp.rB g (t.extract n.toNat t.size)).1 = R.1 by rw [← hl2.out, if_neg hn0]; simp)
      have hk3 := Lib.hid (show (ok && (Sp.rB g (t.extract n.toNat t.size)).2) = R.2 by rw [← hk2.out, if_neg hn0])
      have hnb : (n == 0) = false := by simpa using hn0
      clear hl2 hk2
      obtain ⟨m, rfl⟩ : ∃ m : Nat, n = m := ⟨n.toNat, by omega⟩
      simp only [Int.toNat_natCast] at hl3 hk3
      have hm1 : 1 ≤ m := by omega
      have hms : m ≤ t.size := by omega
      clear hn0
      go_wp2_with fail
      refine hn.out.mono ?_
      rintro e w1 ⟨rfl, rfl⟩
      clear hn
      go_wp2_with (at_builtin; refine wpList_append_own _ rfl _ _ 30 rfl w.heap.size 3 i0 (.int .i64 0) 1 8 Tryd.underlying30 hi hz0 hz1 hz2 rfl (by decide) _ _ _ rfl (hown.alloc _) ⟨w1.heap.size, 0, none⟩ 1 1 (numk .i64 [r]) rfl rfl ?c1 ?c2 ?c3 ?c4 ?c5 ?_)
      case c1 =>
        intro j u hj
        match j, hj with
        | 0, hj => simp [numk] at hj; subst hj; simp [Addr.add]
        | (j + 1), hj => simp [numk] at hj
      case c2 => intro u hu; simp [numk] at hu; subst hu; rfl
      case c3 => unfold maxLen; omega
      case c4 => omega
      case c5 => first | omega | (simp; omega)
      intro v' w3 hown' hgrow _
      have hb3 := (hbw.alloc (by omega) _).grown hgrow (by simp; omega) (fun q hq => own_base hown q hq)
      go_wp2
      go_roundw
      case rel =>
        have hx : (t.extract m t.size).size = t.size - m := by simp
        exact ⟨t.extract m t.size, g, acc ++ [r], ok, rfl, rfl, by rw [List.length_append, numk_append]; exact hown', hb3, hl3, hk3, by omega, by simp; omega⟩
      case measure =>
        have hx : (t.extract m t.size).size = t.size - m := by simp
        simp only [strOf]; omega

theorem refRunes_any (s : ByteArray) (w : World) (hs : s.size ≤ 1099511627776) :
    Calls Tryd.prog 18 #[.string s] w fun e w' => ∃ A c, e = .returned (.tuple #[.slice A (Sp.refRunes s).1.length c, .bool (Sp.refRunes s).2]) ∧ RdN .i64 w' A (Sp.refRunes s).1 ∧ Below w.heap.size w w' := by
  refine (refRunes_own s w hs).mono fun e w' ⟨v, he, ho, hb⟩ => ?_
  obtain ⟨A, c, rfl⟩ := own_slice ho
  exact ⟨A, c, he, (own_rdN ho).2, hb⟩
end Go.Proofs.YtokkpdjbgaicmaaDoor
