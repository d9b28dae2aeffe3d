/-
  The walk of mutf.Decode.
-/
import Derived.Test.YthpfknlgfkecpaaDoorMwUnit
import Derived.Test.YthpfknlgfkecpaaDoorMwBuild
set_option linter.unusedVariables false
set_option linter.unusedSimpArgs false
namespace Go.Proofs.YthpfknlgfkecpaaDoor
open Go.RowKit Go.Lib

namespace Sp
/-- What Decode makes of the bytes that are left, behind what it has written; none: ErrForm. -/
def decG : Nat → ByteArray → List UInt8 → Option (List UInt8)
  | 0, _, _ => none
  | f + 1, b, acc =>
    if b.size = 0 then some acc
    else if (unitS b).2 = 0 ∨ (56320 ≤ (unitS b).1 ∧ (unitS b).1 < 57344) then none
    else if 55296 ≤ (unitS b).1 ∧ (unitS b).1 < 56320 then
      if b.size < 6 then none
      else if (unitS (b.extract 3 b.size)).2 = 0 ∨ (unitS (b.extract 3 b.size)).1 < 56320 ∨ 57344 ≤ (unitS (b.extract 3 b.size)).1 then none
      else decG f (b.extract 6 b.size) (acc ++ encodeRune (65536 + ((unitS b).1 - 55296) * 1024 + ((unitS (b.extract 3 b.size)).1 - 56320)))
    else decG f (b.extract (unitS b).2.toNat b.size) (acc ++ encodeRune (unitS b).1)

theorem unitF_range (c x y : Int) (a b : Bool) (hx : 0 ≤ x ∧ x ≤ 63) (hy : 0 ≤ y ∧ y ≤ 63) : 0 ≤ (unitF c x y a b).1 ∧ (unitF c x y a b).1 ≤ 65535 ∧ 0 ≤ (unitF c x y a b).2 ∧ (unitF c x y a b).2 ≤ 3 := by
  unfold unitF
  repeat' split
  all_goals (simp only []; omega)

theorem unitS_size (s : ByteArray) (h : 0 < s.size) : (unitS s).2 ≤ s.size := by
  unfold unitS unitF tl
  repeat' split
  all_goals simp only []
  all_goals first | omega | (simp_all; omega) | simp_all

theorem unitS_three (s : ByteArray) (h : 2048 ≤ (unitS s).1) : (unitS s).2 = 3 := by
  revert h
  unfold unitS unitF
  have hx := tx_range s 1
  have hy := tx_range s 2
  repeat' split
  all_goals simp only []
  all_goals first | (intro _; trivial) | (intro h; omega)

theorem unitS_range (s : ByteArray) : 0 ≤ (unitS s).1 ∧ (unitS s).1 ≤ 65535 ∧ 0 ≤ (unitS s).2 ∧ (unitS s).2 ≤ 3 := unitF_range _ _ _ _ _ (tx_range s 1) (tx_range s 2)
def decS (b : ByteArray) : ByteArray × Int :=
  if 65535 < b.size then (⟨#[]⟩, 2)
  else match decG (b.size + 1) b [] with
    | none => (⟨#[]⟩, 4)
    | some l => (⟨l.toArray⟩, 0)
end Sp

theorem builderAtF_below {T e : TypeId} {B b : Nat} {p : Value} {bs : List Value} {w w1 : World} (h : BuilderAtF T e B b p bs w) (hb : Below w.heap.size w w1) : BuilderAtF T e B b p bs w1 := by
  obtain ⟨hB, v, hbk, hown, hne⟩ := h
  refine ⟨hB, v, (hb.block b (Array.getElem?_eq_some_iff.1 hbk).1).trans hbk, ⟨hown.1, ?_⟩, hne⟩
  rcases hown.2 with h | ⟨g, cap, cur, fz, h1, h2, h3, h4⟩
  · exact .inl h
  · exact .inr ⟨g, cap, cur, fz, h1, h2, (hb.block g (Array.getElem?_eq_some_iff.1 h3).1).trans h3, h4⟩
theorem isBuilderF_below {T e : TypeId} {B b : Nat} {bs : List Value} {w w1 : World} (h : IsBuilderF T e B b bs w) (hb : Below w.heap.size w w1) : IsBuilderF T e B b bs w1 :=
  h.elim (fun x => .inl (builderAtF_below x hb)) (fun x => .inr (builderAtF_below x hb))
theorem below_then {B : Nat} {w w1 w2 : World} (h : Below B w w1) (hB : B ≤ w1.heap.size) (k : Below w1.heap.size w1 w2) : Below B w w2 :=
  h.trans ⟨k.os, k.tape, k.output, k.size, fun i hi => k.block i (Nat.lt_of_lt_of_le hi hB)⟩
def strOf : Value → ByteArray
  | .string s => s
  | _ => ⟨#[]⟩

set_option maxHeartbeats 8000000 in
set_option maxRecDepth 100000 in
theorem decode_any (b : ByteArray) (w : World) :
    Calls Tryd.prog 102 #[.string b] w fun e w' => e = .returned (.tuple #[.string (Sp.decS b).1, .int .i64 (Sp.decS b).2]) ∧ Below w.heap.size w w' := by
  by_cases hlong : 65535 < b.size
  · have hz : (65535 : Int) < (b.size : Int) := by omega
    have hv : Sp.decS b = (⟨#[]⟩, 2) := by rw [Sp.decS, if_pos hlong]
    rw [hv]
    go_enter Tryd.func102, Tryd.ntmps102
    go_wp2
    go_ret2
    exact ⟨rfl, Below.refl _ _⟩
  have hz : ¬ ((65535 : Int) < (b.size : Int)) := by omega
  have hv := Lib.hid (show Sp.decS b = match Sp.decG (b.size + 1) b [] with | none => (⟨#[]⟩, 4) | some l => (⟨l.toArray⟩, 0) by rw [Sp.decS, if_neg hlong])
  generalize Sp.decS b = R at hv ⊢
  go_enter Tryd.func102, Tryd.ntmps102
  go_wp2
  go_loopw [0] (fun v0 wr => ∃ (s : ByteArray) (f : Nat) (acc : List UInt8), v0 = .string s ∧ Hid (Sp.decG (b.size + 1) b [] = Sp.decG f s acc) ∧ s.size < f ∧ s.size ≤ b.size ∧ acc.length + 4 * s.size ≤ 4 * b.size ∧ IsBuilderF 86 5 w.heap.size w.heap.size (byteCells acc) wr ∧ Below w.heap.size w wr) (fun v0 _ => (strOf v0).size)
  case atStart => exact ⟨b, b.size + 1, [], rfl, Lib.hid rfl, by omega, by omega, by simp, Lib.IsBuilderF.of (Lib.fresh_isBuilder 86 5 w), (Below.refl _ _).alloc (Nat.le_refl _) _⟩
  case round =>
    obtain ⟨s, f, acc, rfl, hd, hf, hsb, hal, hI, hbw⟩ := hrel
    obtain ⟨g, rfl⟩ : ∃ g, f = g + 1 := ⟨f - 1, by omega⟩
    have hsz := hbw.size
    by_cases h0 : s.size = 0
    · have hs0 : s = ⟨#[]⟩ := by
        rcases s with ⟨⟨l⟩⟩
        cases l with
        | nil => rfl
        | cons x l => simp [ByteArray.size] at h0
      subst hs0
      have hR : Hid (R = (⟨acc.toArray⟩, 0)) := Lib.hid (by rw [hv.out, hd.out, Sp.decG, if_pos h0])
      clear hv hd h0
      go_wp2_with (go_at_call 55; refine (Tryd.Builder_String_any_k w.heap.size w.heap.size acc _ hI hsz).mono ?_)
      rintro e W1 ⟨rfl, _, b1, _⟩
      go_wp2
      go_ret2
      exact ⟨by rw [hR.out]; rfl, hbw.trans b1⟩
    · have hpos : 0 < s.size := by omega
      have hne : s.toList.isEmpty = false := by
        rw [Lib.toList_data]
        rcases s with ⟨⟨l⟩⟩
        cases l with
        | nil => simp [ByteArray.size] at h0
        | cons x l => rfl
      have hd' := Lib.hid (show Sp.decG (b.size + 1) b [] = _ by rw [hd.out, Sp.decG, if_neg h0])
      clear hd
      have hu := fun W => unit_any s W hpos (by omega)
      have hr := Sp.unitS_range s
      have hn := Sp.unitS_size s hpos
      have h3 := Sp.unitS_three s
      generalize Sp.unitS s = q at hd' hu hr hn h3
      obtain ⟨r, n⟩ := q
      simp only at hd' hu hr hn h3
      have HU := Lib.hid hu
      clear hu
      go_wp2_with fail
      refine (HU.out _).mono ?_
      rintro e W1 ⟨rfl, hb1⟩
      clear HU
      have hI1 := isBuilderF_below hI hb1
      have hbw1 := below_then hbw hsz hb1
      have hsz1 := hbw1.size
      clear hI hb1
      by_cases hbad : n = 0 ∨ (56320 ≤ r ∧ r < 57344)
      · have hR : Hid (R = (⟨#[]⟩, 4)) := Lib.hid (by rw [hv.out, hd'.out, if_pos hbad])
        clear hv hd'
        go_wp2
        all_goals go_ret2
        all_goals exact ⟨by rw [hR.out]; rfl, hbw1⟩
      have hd2 := Lib.hid (show Sp.decG (b.size + 1) b [] = _ by rw [hd'.out, if_neg hbad])
      clear hd'
      have hn0 : ¬ n = 0 := fun h => hbad (.inl h)
      have hr0 : r < 56320 ∨ 57344 ≤ r := by omega
      have hn1 : 1 ≤ n := by omega
      have hn0b : (n == 0) = false := by simpa using hn0
      clear hbad
      by_cases hhi : 55296 ≤ r ∧ r < 56320
      · have hd3 := Lib.hid (show Sp.decG (b.size + 1) b [] = _ by rw [hd2.out, if_pos hhi])
        clear hd2
        have hn3 : n = 3 := h3 (by omega)
        subst hn3
        obtain ⟨hhi0, hhi1⟩ := hhi
        by_cases h6 : s.size < 6
        · have hR : Hid (R = (⟨#[]⟩, 4)) := Lib.hid (by rw [hv.out, hd3.out, if_pos h6])
          have h6z : (s.size : Int) < 6 := by omega
          clear hv hd3
          go_wp2
          go_ret2
          exact ⟨by rw [hR.out]; rfl, hbw1⟩
        have hd4 := Lib.hid (show Sp.decG (b.size + 1) b [] = _ by rw [hd3.out, if_neg h6])
        clear hd3
        have h6z : ¬ ((s.size : Int) < 6) := by omega
        have he3 : (s.extract 3 s.size).size = s.size - 3 := by simp
        have hu2 := fun W => unit_any (s.extract 3 s.size) W (by omega) (by omega)
        have hr2 := Sp.unitS_range (s.extract 3 s.size)
        generalize Sp.unitS (s.extract 3 s.size) = q2 at hd4 hu2 hr2
        obtain ⟨r2, n2⟩ := q2
        simp only at hd4 hu2 hr2
        have HU2 := Lib.hid hu2
        clear hu2 he3
        go_wp2_with fail
        refine (HU2.out _).mono ?_
        rintro e W2 ⟨rfl, hb2⟩
        clear HU2
        have hI2 := isBuilderF_below hI1 hb2
        have hbw2 := below_then hbw1 hsz1 hb2
        have hsz2 := hbw2.size
        clear hI1 hb2
        by_cases hbad2 : n2 = 0 ∨ r2 < 56320 ∨ 57344 ≤ r2
        · have hR : Hid (R = (⟨#[]⟩, 4)) := Lib.hid (by rw [hv.out, hd4.out, if_pos hbad2])
          clear hv hd4
          go_wp2
          all_goals go_ret2
          all_goals exact ⟨by rw [hR.out]; rfl, hbw2⟩
        have hd5 := Lib.hid (show Sp.decG (b.size + 1) b [] = _ by rw [hd4.out, if_neg hbad2])
        clear hd4
        have hn20 : ¬ n2 = 0 := fun h => hbad2 (.inl h)
        have hn20b : (n2 == 0) = false := by simpa using hn20
        have hr20 : 56320 ≤ r2 := by omega
        have hr21 : r2 < 57344 := by omega
        clear hbad2
        obtain ⟨x, hx⟩ : ∃ x, x = 65536 + (r - 55296) * 1024 + (r2 - 56320) := ⟨_, rfl⟩
        have h4 := Lib.runeCells_le x
        rw [Lib.runeCells_length] at h4
        have hw := fun (W : World) (hI : IsBuilderF 86 5 w.heap.size w.heap.size (byteCells acc) W) hs => writeRune_k w.heap.size w.heap.size (byteCells acc) x (by omega) (by omega) W hI (by rw [Lib.byteCells_length]; omega) hs
        rw [← hx] at hd5
        rw [hx] at hw
        have HX := Lib.hid hx
        have HW := Lib.hid hw
        have H4 := Lib.hid h4
        clear hw h4 hx
        go_wp2_with fail
        refine (HW.out _ hI2 hsz2).mono ?_
        rintro e W3 ⟨rfl, h1, b1, k1⟩
        rw [← HX.out] at h1
        go_wp2
        go_roundw
        case rel =>
          have h4 := H4.out
          have h7 : (s.extract 6 s.size).size = s.size - 6 := by simp
          refine ⟨_, g, acc ++ Lib.encodeRune x, rfl, Lib.hid hd5.out, by omega, by omega, by simp; omega, ?_, hbw2.trans b1⟩
          rw [Lib.byteCells_append, Lib.byteCells_encodeRune]; exact Or.inr h1
        case measure =>
          have h7 : (s.extract 6 s.size).size = s.size - 6 := by simp
          simp only [strOf]
          omega
      · have hd3 := Lib.hid (show Sp.decG (b.size + 1) b [] = _ by rw [hd2.out, if_neg hhi])
        clear hd2
        have h4 := Lib.runeCells_le r
        rw [Lib.runeCells_length] at h4
        have hw := fun (W : World) (hI : IsBuilderF 86 5 w.heap.size w.heap.size (byteCells acc) W) hs => writeRune_k w.heap.size w.heap.size (byteCells acc) r (by omega) (by omega) W hI (by rw [Lib.byteCells_length]; omega) hs
        have HW := Lib.hid hw
        have H4 := Lib.hid h4
        clear hw h4
        obtain ⟨m, rfl⟩ : ∃ m : Nat, n = m := ⟨n.toNat, by omega⟩
        simp only [Int.toNat_natCast] at hd3
        have hm1 : 1 ≤ m := by omega
        have hms : m ≤ s.size := by omega
        have hd4 := Lib.hid (show s.size - (s.extract m s.size).size = m by simp; omega)
        go_wp2_with fail
        all_goals
          refine (HW.out _ hI1 hsz1).mono ?_
          rintro e W2 ⟨rfl, h1, b1, k1⟩
          go_wp2
          go_roundw
          case rel =>
            have h4 := H4.out
            have h5 := hd4.out
            have h6 : (s.extract m s.size).size = s.size - m := by simp
            refine ⟨_, g, acc ++ Lib.encodeRune r, rfl, Lib.hid hd3.out, by omega, by omega, by simp; omega, ?_, hbw1.trans b1⟩
            rw [Lib.byteCells_append, Lib.byteCells_encodeRune]; exact Or.inr h1
          case measure =>
            have h6 : (s.extract m s.size).size = s.size - m := by simp
            simp only [strOf]
            omega
end Go.Proofs.YthpfknlgfkecpaaDoor
