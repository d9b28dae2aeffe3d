/-
  Walks of the reference's utf and Make.
-/
import Derived.Test.YtkppjehpfjalbaaDoorMwRenc
set_option linter.unusedVariables false
set_option linter.unusedSimpArgs false
namespace Go.Proofs.YtkppjehpfjalbaaDoor
open Go.RowKit Go.Lib

/-- A scalar value. -/
def Scal (r : Int) : Prop := (0 ≤ r ∧ r < 55296) ∨ (57344 ≤ r ∧ r ≤ 1114111)

set_option maxHeartbeats 4000000 in
theorem refUtf_any (r : Int) (w : World) (hr : Scal r) :
    Calls Tryd.prog 56 #[.int .i64 r] w fun e w' => e = .returned (.string (Go.strOfNums (Lib.encodeRuneZ r))) ∧ Below w.heap.size w w' := by
  unfold Scal at hr
  have h0 : 0 ≤ r := by omega
  have h1 : r ≤ 1114111 := by omega
  by_cases c1 : r < 128
  · have hcv := conv_lit w [r] 1 #[.int .u8 r] rfl (by simp [numc])
    rw [Lib.encodeRuneZ_one h0 (by omega)]
    clear hr
    generalize Go.strOfNums [r] = R at hcv ⊢
    go_enter Tryd.func56, Tryd.ntmps56
    go_wp2
    go_ret
    exact ⟨rfl, (Below.refl _ _).alloc (Nat.le_refl _) _⟩
  by_cases c2 : r < 2048
  · have hcv := conv_lit w [192 + r / 64, 128 + r % 64] 2 #[.int .u8 (192 + r / 64), .int .u8 (128 + r % 64)] rfl (by simp [numc])
    rw [Lib.encodeRuneZ_two (by omega) (by omega)]
    clear hr
    generalize Go.strOfNums [192 + r / 64, 128 + r % 64] = R at hcv ⊢
    go_enter Tryd.func56, Tryd.ntmps56
    go_wp2
    go_ret
    exact ⟨rfl, (Below.refl _ _).alloc (Nat.le_refl _) _⟩
  by_cases c3 : r < 65536
  · have h3 := Lib.hid (refThree_any r w h0 c3)
    rw [Lib.encodeRuneZ_three (by omega)]
    have e3 : Sp.three r = [224 + r / 4096, 128 + r / 64 % 64, 128 + r % 64] := rfl
    rw [← e3]
    clear hr e3
    generalize Go.strOfNums (Sp.three r) = R at h3 ⊢
    go_enter Tryd.func56, Tryd.ntmps56
    go_wp2_with fail
    refine h3.out.mono ?_
    rintro e w1 ⟨rfl, hb⟩
    go_wp2
    go_ret
    exact ⟨rfl, hb⟩
  · have hcv := conv_lit w [240 + r / 262144, 128 + r / 4096 % 64, 128 + r / 64 % 64, 128 + r % 64] 4 #[.int .u8 (240 + r / 262144), .int .u8 (128 + r / 4096 % 64), .int .u8 (128 + r / 64 % 64), .int .u8 (128 + r % 64)] rfl (by simp [numc])
    rw [Lib.encodeRuneZ_four (by omega) (by omega)]
    clear hr
    generalize Go.strOfNums [240 + r / 262144, 128 + r / 4096 % 64, 128 + r / 64 % 64, 128 + r % 64] = R at hcv ⊢
    go_enter Tryd.func56, Tryd.ntmps56
    go_wp2
    go_ret
    exact ⟨rfl, (Below.refl _ _).alloc (Nat.le_refl _) _⟩

theorem encodeZ_len (r : Int) : (Lib.encodeRuneZ r).length ≤ 4 := by
  unfold Lib.encodeRuneZ
  repeat' split
  all_goals simp

namespace Sp
instance (r : Int) : Decidable (Scal r) := inferInstanceAs (Decidable (_ ∨ _))
/-- What the reference's Make tells. -/
def utfL (l : List Int) : List Int := l.flatMap Lib.encodeRuneZ
def refMakeS (l : List Int) : ByteArray × Bool := if l.all (fun r => decide (Scal r)) then (Go.strOfNums (utfL l), true) else (⟨#[]⟩, false)
end Sp

set_option maxHeartbeats 8000000 in
set_option maxRecDepth 100000 in
theorem refMake_any (A : Option Addr) (c : Nat) (l : List Int) (w : World) (hrd : RdN .i64 w A l) (hl : l.length ≤ 1099511627776) :
    Calls Tryd.prog 42 #[.slice A l.length c] w fun e w' => e = .returned (.tuple #[.string (Sp.refMakeS l).1, .bool (Sp.refMakeS l).2]) ∧ Below w.heap.size w w' := by
  obtain ⟨i0, hi, hz0, hz1, hz2⟩ := infoByte1
  have HE := Lib.hid (show Sp.refMakeS l = _ by rw [Sp.refMakeS])
  generalize Sp.refMakeS l = R at HE ⊢
  have hml := hrd.1
  have hrd' := Lib.hid hrd
  clear hrd
  go_enter Tryd.func42, Tryd.ntmps42
  go_wp2
  go_loopw [4, 5] (fun v4 v5 wr => ∃ (k : Nat) (acc : List Int), v5 = .int .i64 k ∧ k ≤ l.length ∧ wr.ownsRow w.heap.size 5 1 v4 acc.length (numc acc) ∧ Below w.heap.size w wr ∧ Hid (acc ++ Sp.utfL (l.drop k) = Sp.utfL l) ∧ Hid ((l.drop k).all (fun r => decide (Scal r)) = l.all (fun r => decide (Scal r))) ∧ acc.length ≤ 4 * k) (fun _ v5 _ => l.length - (RowKit.intOf v5).toNat)
  case atStart => exact ⟨0, [], rfl, Nat.zero_le _, ⟨by simp [numc], .inl ⟨rfl, rfl⟩⟩, Below.refl _ _, Lib.hid (by simp), Lib.hid (by simp), by simp⟩
  case round =>
    obtain ⟨k, acc, rfl, hk, hown, hbw, hacc, hall, hal⟩ := hrel
    have hsz := hbw.size
    by_cases hlt : k < l.length
    · obtain ⟨b, o, rfl, hcell⟩ := (rdN_below hrd'.out hbw).2 (by omega)
      have hck := hcell k hlt
      clear hcell
      have hd : Hid (l.drop k = l.getD k 0 :: l.drop (k + 1)) := Lib.hid (by rw [List.drop_eq_getElem_cons hlt]; simp [List.getD_eq_getElem?_getD, hlt])
      generalize l.getD k 0 = y at hck hd
      have hall2 := Lib.hid (show (decide (Scal y) && (l.drop (k + 1)).all (fun r => decide (Scal r))) = l.all (fun r => decide (Scal r)) by rw [← hall.out, hd.out, List.all_cons])
      have hacc2 := Lib.hid (show (acc ++ Lib.encodeRuneZ y) ++ Sp.utfL (l.drop (k + 1)) = Sp.utfL l by rw [← hacc.out, hd.out]; simp [Sp.utfL])
      clear hacc hall hd
      by_cases hS : Scal y
      · have hall3 := Lib.hid (show (l.drop (k + 1)).all (fun r => decide (Scal r)) = l.all (fun r => decide (Scal r)) by rw [← hall2.out, decide_eq_true hS, Bool.true_and])
        have hlz := encodeZ_len y
        have hcs := Lib.hid (strCells_nums (Lib.encodeRuneZ y) (fun x hx => by have := Lib.encodeRuneZ_byte y x hx; omega))
        have hsl : (Go.strOfNums (Lib.encodeRuneZ y)).size = (Lib.encodeRuneZ y).length := strOfNums_size _
        have hB := Lib.hid (fun W => refUtf_any y W hS)
        unfold Scal at hS
        have hsb : (Go.strOfNums (Lib.encodeRuneZ y)).size ≤ 4 := by omega
        have hsl' := Lib.hid hsl
        clear hsl hall2
        generalize hS : Go.strOfNums (Lib.encodeRuneZ y) = S at *
        clear hS
        have y0 : ¬ y < 0 := by omega
        have y1 : ¬ 1114111 < y := by omega
        by_cases y2 : 55296 ≤ y
        · have y3 : ¬ y < 57344 := by omega
          go_wp2_with fail
          refine (hB.out _).mono ?_
          rintro e w2 ⟨rfl, hb2⟩
          clear hB
          have hown2 := hown.kept (w' := w2) (row := none) ⟨hb2.os, hb2.tape, hb2.output, hb2.size, fun i hi _ => hb2.block i hi⟩ (by cases u4.ownBlock <;> simp)
          have hbw2 := below_then hbw hsz hb2
          have hsz2 := hbw2.size
          clear hown hb2
          go_wp2_with (at_builtin; refine wpList_append_own_string _ rfl _ _ 74 9 rfl w.heap.size 5 i0 Tryd.underlying74 Tryd.underlying9 hi hz0 hz1 hz2 _ _ _ rfl hown2 S rfl ?c1 ?c2 ?c3 ?_)
          case c1 => unfold maxLen; omega
          case c2 => omega
          case c3 => omega
          intro v' w3 hown' hgrow _
          have hb3 := hbw2.grown hgrow hsz2 (fun q hq => own_base hown2 q hq)
          rw [hcs.out, ← numc_append, hsl'.out] at hown'
          go_wp2
          go_roundw
          case rel => exact ⟨k + 1, acc ++ Lib.encodeRuneZ y, by go_num, by omega, by rw [List.length_append]; exact hown', hb3, hacc2, hall3, by simp; omega⟩
          case measure => simp [RowKit.intOf]; omega
        · go_wp2_with fail
          refine (hB.out _).mono ?_
          rintro e w2 ⟨rfl, hb2⟩
          clear hB
          have hown2 := hown.kept (w' := w2) (row := none) ⟨hb2.os, hb2.tape, hb2.output, hb2.size, fun i hi _ => hb2.block i hi⟩ (by cases u4.ownBlock <;> simp)
          have hbw2 := below_then hbw hsz hb2
          have hsz2 := hbw2.size
          clear hown hb2
          go_wp2_with (at_builtin; refine wpList_append_own_string _ rfl _ _ 74 9 rfl w.heap.size 5 i0 Tryd.underlying74 Tryd.underlying9 hi hz0 hz1 hz2 _ _ _ rfl hown2 S rfl ?c1 ?c2 ?c3 ?_)
          case c1 => unfold maxLen; omega
          case c2 => omega
          case c3 => omega
          intro v' w3 hown' hgrow _
          have hb3 := hbw2.grown hgrow hsz2 (fun q hq => own_base hown2 q hq)
          rw [hcs.out, ← numc_append, hsl'.out] at hown'
          go_wp2
          go_roundw
          case rel => exact ⟨k + 1, acc ++ Lib.encodeRuneZ y, by go_num, by omega, by rw [List.length_append]; exact hown', hb3, hacc2, hall3, by simp; omega⟩
          case measure => simp [RowKit.intOf]; omega
      · have hR : Hid (R = (⟨#[]⟩, false)) := Lib.hid (by rw [HE.out, ← hall2.out, decide_eq_false hS, Bool.false_and]; rfl)
        unfold Scal at hS
        clear HE hall2 hacc2
        by_cases y0 : y < 0
        · go_wp2
          go_ret2
          exact ⟨by rw [hR.out]; rfl, hbw⟩
        by_cases y1 : 1114111 < y
        · go_wp2
          go_ret2
          exact ⟨by rw [hR.out]; rfl, hbw⟩
        have y2 : 55296 ≤ y := by omega
        have y3 : y < 57344 := by omega
        clear hS
        go_wp2
        go_ret2
        exact ⟨by rw [hR.out]; rfl, hbw⟩
    · have hfin : Hid (Sp.utfL l = acc) := Lib.hid (by rw [← hacc.out, List.drop_eq_nil_of_le (by omega)]; simp [Sp.utfL])
      have hall2 : Hid (l.all (fun r => decide (Scal r)) = true) := Lib.hid (by rw [← hall.out, List.drop_eq_nil_of_le (by omega)]; rfl)
      have hR : Hid (R = (Go.strOfNums acc, true)) := Lib.hid (by rw [HE.out, hall2.out, hfin.out]; rfl)
      obtain ⟨A2, c2, rfl⟩ := own_slice hown
      have hconv := own_string (P := Tryd.prog) (src := 74) (dst := 9) Tryd.underlying74 Tryd.underlying5 Tryd.underlying9 hown
      clear HE hfin hacc hall hall2
      go_wp2
      go_ret2
      exact ⟨by rw [hR.out]; rfl, hbw⟩
end Go.Proofs.YtkppjehpfjalbaaDoor
