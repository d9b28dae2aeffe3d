/-
  Texts of the proof, joined.
-/
import Derived.Test.YtjjlcoimaihdoaaGreatDoorJh5
import Derived.Test.YtjjlcoimaihdoaaGreatDoorJh8
import Derived.Test.YtjjlcoimaihdoaaGreatDoorJh7
import Derived.Test.YtjjlcoimaihdoaaGreatDoorJh6
import Derived.Deep.DeepCutAuto
set_option linter.unusedVariables false
set_option linter.unusedSimpArgs false
namespace Go.Proofs.YtjjlcoimaihdoaaGreatDoor
open Go.RowKit Go.Lib
set_option maxHeartbeats 4000000 in
theorem refUtf_any (r : Int) (w : World) (hr : Scal r) :
  Calls Tryz.prog 291 #[.int .i64 r] w fun e w' => e = .returned (.string (Go.strOfNums (Lib.encodeRuneZ r))) ∧ Below w.heap.size w w' := by
 unfold Scal at hr
 have h0 : 0 ≤ r := by omega
 have h1 : r ≤ 1114111 := by omega
 by_cases c1 : r < 128
 ·have hcv := conv_lit w [r] 1 #[.int .u8 r] rfl (by simp [numc])
  rw [Lib.encodeRuneZ_one h0 (by omega)]
  clear hr
  generalize Go.strOfNums [r] = R at hcv ⊢
  go_enter Tryz.func291, Tryz.ntmps291
  go_wp2
  go_ret
  exact ⟨rfl, (Below.refl _ _).alloc (Nat.le_refl _) _⟩
 by_cases c2 : r < 2048
 ·have hcv := conv_lit w [192 + r / 64, 128 + r % 64] 2 #[.int .u8 (192 + r / 64), .int .u8 (128 + r % 64)] rfl (by simp [numc])
  rw [Lib.encodeRuneZ_two (by omega) (by omega)]
  clear hr
  generalize Go.strOfNums [192 + r / 64, 128 + r % 64] = R at hcv ⊢
  go_enter Tryz.func291, Tryz.ntmps291
  go_wp2
  go_ret
  exact ⟨rfl, (Below.refl _ _).alloc (Nat.le_refl _) _⟩
 by_cases c3 : r < 65536
 ·have h3 := Lib.hid (refThree_any r w h0 c3)
  rw [Lib.encodeRuneZ_three (by omega)]
  have e3 : Sp.three r = [224 + r / 4096, 128 + r / 64 % 64, 128 + r % 64] := rfl
  rw [← e3]
  clear hr e3
  generalize Go.strOfNums (Sp.three r) = R at h3 ⊢
  go_enter Tryz.func291, Tryz.ntmps291
  go_wp2_with fail
  refine h3.out.mono ?_
  rintro e w1 ⟨rfl, hb⟩
  go_wp2
  go_ret
  exact ⟨rfl, hb⟩
 ·have hcv := conv_lit w [240 + r / 262144, 128 + r / 4096 % 64, 128 + r / 64 % 64, 128 + r % 64] 4 #[.int .u8 (240 + r / 262144), .int .u8 (128 + r / 4096 % 64), .int .u8 (128 + r / 64 % 64), .int .u8 (128 + r % 64)] rfl (by simp [numc])
  rw [Lib.encodeRuneZ_four (by omega) (by omega)]
  clear hr
  generalize Go.strOfNums [240 + r / 262144, 128 + r / 4096 % 64, 128 + r / 64 % 64, 128 + r % 64] = R at hcv ⊢
  go_enter Tryz.func291, Tryz.ntmps291
  go_wp2
  go_ret
  exact ⟨rfl, (Below.refl _ _).alloc (Nat.le_refl _) _⟩
theorem encodeZ_len (r : Int) : (Lib.encodeRuneZ r).length ≤ 4 := by
 unfold Lib.encodeRuneZ
 repeat' split
 all_goals simp
set_option maxHeartbeats 8000000 in
set_option maxRecDepth 100000 in
theorem refMake_any (A : Option Addr) (c : Nat) (l : List Int) (w : World) (hrd : RdN .i64 w A l) (hl : l.length ≤ 1099511627776) :
  Calls Tryz.prog 267 #[.slice A l.length c] w fun e w' => e = .returned (.tuple #[.string (Sp.refMakeS l).1, .bool (Sp.refMakeS l).2]) ∧ Below w.heap.size w w' := by
 obtain ⟨i0, hi, hz0, hz1, hz2⟩ := infoByte1
 have HE := Lib.hid (show Sp.refMakeS l = _ by rw [Sp.refMakeS])
 generalize Sp.refMakeS l = R at HE ⊢
 have hml := hrd.1
 have hrd' := Lib.hid hrd
 clear hrd
 go_enter Tryz.func267, Tryz.ntmps267
 go_wp2
 go_loopw [4, 5] (fun v4 v5 wr => ∃ (k : Nat) (acc : List Int), v5 = .int .i64 k ∧ k ≤ l.length ∧ wr.ownsRow w.heap.size 5 1 v4 acc.length (numc acc) ∧ Below w.heap.size w wr ∧ Hid (acc ++ Sp.utfL (l.drop k) = Sp.utfL l) ∧ Hid ((l.drop k).all (fun r => decide (Scal r)) = l.all (fun r => decide (Scal r))) ∧ acc.length ≤ 4 * k) (fun _ v5 _ => l.length - (RowKit.intOf v5).toNat)
 case atStart => exact ⟨0, [], rfl, Nat.zero_le _, ⟨by simp [numc], .inl ⟨rfl, rfl⟩⟩, Below.refl _ _, Lib.hid (by simp), Lib.hid (by simp), by simp⟩
 case round =>
  obtain ⟨k, acc, rfl, hk, hown, hbw, hacc, hall, hal⟩ := hrel
  have hsz := hbw.size
  by_cases hlt : k < l.length
  ·obtain ⟨b, o, rfl, hcell⟩ := (rdN_below hrd'.out hbw).2 (by omega)
   have hck := hcell k hlt
   clear hcell
   have hd : Hid (l.drop k = l.getD k 0 :: l.drop (k + 1)) := Lib.hid (by rw [List.drop_eq_getElem_cons hlt]; simp [List.getD_eq_getElem?_getD, hlt])
   generalize l.getD k 0 = y at hck hd
   have hall2 := Lib.hid (show (decide (Scal y) && (l.drop (k + 1)).all (fun r => decide (Scal r))) = l.all (fun r => decide (Scal r)) by rw [← hall.out, hd.out, List.all_cons])
   have hacc2 := Lib.hid (show (acc ++ Lib.encodeRuneZ y) ++ Sp.utfL (l.drop (k + 1)) = Sp.utfL l by rw [← hacc.out, hd.out]; simp [Sp.utfL])
   clear hacc hall hd
   by_cases hS : Scal y
   ·have hall3 := Lib.hid (show (l.drop (k + 1)).all (fun r => decide (Scal r)) = l.all (fun r => decide (Scal r)) by rw [← hall2.out, decide_eq_true hS, Bool.true_and])
    have hlz := encodeZ_len y
    have hcs := Lib.hid (strCells_nums (Lib.encodeRuneZ y) (fun x hx => by have := Lib.encodeRuneZ_byte y x hx; omega))
    have hsl : (Go.strOfNums (Lib.encodeRuneZ y)).size = (Lib.encodeRuneZ y).length := strOfNums_size _
    have hB := Lib.hid (fun W => refUtf_any y W hS)
    unfold Scal at hS
    have hsb : (Go.strOfNums (Lib.encodeRuneZ y)).size ≤ 4 := by omega
    have hsl' := Lib.hid hsl
    clear hsl hall2
    generalize hS : Go.strOfNums (Lib.encodeRuneZ y) = S at *
    clear hS
    have y0 : ¬ y < 0 := by omega
    have y1 : ¬ 1114111 < y := by omega
    by_cases y2 : 55296 ≤ y
    ·have y3 : ¬ y < 57344 := by omega
     go_wp2_with fail
     refine (hB.out _).mono ?_
     rintro e w2 ⟨rfl, hb2⟩
     clear hB
     have hown2 := hown.kept (w' := w2) (row := none) ⟨hb2.os, hb2.tape, hb2.output, hb2.size, fun i hi _ => hb2.block i hi⟩ (by cases u4.ownBlock <;> simp)
     have hbw2 := below_then hbw hsz hb2
     have hsz2 := hbw2.size
     clear hown hb2
     go_wp2_with (at_builtin; refine wpList_append_own_string _ rfl _ _ 33 9 rfl w.heap.size 5 i0 Tryz.underlying33 Tryz.underlying9 hi hz0 hz1 hz2 _ _ _ rfl hown2 S rfl ?c1 ?c2 ?c3 ?_)
     case c1 => unfold maxLen; omega
     case c2 => omega
     case c3 => omega
     intro v' w3 hown' hgrow _
     have hb3 := hbw2.grown hgrow hsz2 (fun q hq => own_base hown2 q hq)
     rw [hcs.out, ← numc_append, hsl'.out] at hown'
     go_wp2
     go_roundw
     case rel => exact ⟨k + 1, acc ++ Lib.encodeRuneZ y, by go_num, by omega, by rw [List.length_append]; exact hown', hb3, hacc2, hall3, by simp; omega⟩
     case measure => simp [RowKit.intOf]; omega
    ·go_wp2_with fail
     refine (hB.out _).mono ?_
     rintro e w2 ⟨rfl, hb2⟩
     clear hB
     have hown2 := hown.kept (w' := w2) (row := none) ⟨hb2.os, hb2.tape, hb2.output, hb2.size, fun i hi _ => hb2.block i hi⟩ (by cases u4.ownBlock <;> simp)
     have hbw2 := below_then hbw hsz hb2
     have hsz2 := hbw2.size
     clear hown hb2
     go_wp2_with (at_builtin; refine wpList_append_own_string _ rfl _ _ 33 9 rfl w.heap.size 5 i0 Tryz.underlying33 Tryz.underlying9 hi hz0 hz1 hz2 _ _ _ rfl hown2 S rfl ?c1 ?c2 ?c3 ?_)
     case c1 => unfold maxLen; omega
     case c2 => omega
     case c3 => omega
     intro v' w3 hown' hgrow _
     have hb3 := hbw2.grown hgrow hsz2 (fun q hq => own_base hown2 q hq)
     rw [hcs.out, ← numc_append, hsl'.out] at hown'
     go_wp2
     go_roundw
     case rel => exact ⟨k + 1, acc ++ Lib.encodeRuneZ y, by go_num, by omega, by rw [List.length_append]; exact hown', hb3, hacc2, hall3, by simp; omega⟩
     case measure => simp [RowKit.intOf]; omega
   ·have hR : Hid (R = (⟨#[]⟩, false)) := Lib.hid (by rw [HE.out, ← hall2.out, decide_eq_false hS, Bool.false_and]; rfl)
    unfold Scal at hS
    clear HE hall2 hacc2
    by_cases y0 : y < 0
    ·go_wp2
     go_ret2
     exact ⟨by rw [hR.out]; rfl, hbw⟩
    by_cases y1 : 1114111 < y
    ·go_wp2
     go_ret2
     exact ⟨by rw [hR.out]; rfl, hbw⟩
    have y2 : 55296 ≤ y := by omega
    have y3 : y < 57344 := by omega
    clear hS
    go_wp2
    go_ret2
    exact ⟨by rw [hR.out]; rfl, hbw⟩
  ·have hfin : Hid (Sp.utfL l = acc) := Lib.hid (by rw [← hacc.out, List.drop_eq_nil_of_le (by omega)]; simp [Sp.utfL])
   have hall2 : Hid (l.all (fun r => decide (Scal r)) = true) := Lib.hid (by rw [← hall.out, List.drop_eq_nil_of_le (by omega)]; rfl)
   have hR : Hid (R = (Go.strOfNums acc, true)) := Lib.hid (by rw [HE.out, hall2.out, hfin.out]; rfl)
   obtain ⟨A2, c2, rfl⟩ := own_slice hown
   have hconv := own_string (P := Tryz.prog) (src := 33) (dst := 9) Tryz.underlying33 Tryz.underlying5 Tryz.underlying9 hown
   clear HE hfin hacc hall hall2
   go_wp2
   go_ret2
   exact ⟨by rw [hR.out]; rfl, hbw⟩
set_option maxHeartbeats 4000000 in
theorem refUnit_any (s : ByteArray) (w : World) (hs : s.size ≤ 140737488351232) :
  Calls Tryz.prog 266 #[.string s] w fun e w' => e = .returned (.int .i64 (Sp.refUnit s)) ∧ Below w.heap.size w w' := by
 have r0 := Sp.bt_range s 0; have r1 := Sp.bt_range s 1; have r2 := Sp.bt_range s 2
 have HE := Lib.hid (show Sp.refUnit s = _ by rw [Sp.refUnit])
 generalize Sp.refUnit s = R at HE ⊢
 by_cases hn : s.size < 3
 ·have hR : Hid (R = -1) := Lib.hid (by rw [HE.out, if_pos (.inl hn)])
  have hnz : (s.size : Int) < 3 := by omega
  clear HE
  go_enter Tryz.func266, Tryz.ntmps266
  go_wp2
  go_ret
  exact ⟨by rw [hR.out]; rfl, Below.refl _ _⟩
 have hnz : ¬ (s.size : Int) < 3 := by omega
 have i0 : ∀ W : World, (Instr.index 9 (.string s) (.int .i64 0)).run Tryz.prog W = .ok (.int .u8 (Sp.bt s 0)) W := idx_str s 0 (by omega)
 have i1 : ∀ W : World, (Instr.index 9 (.string s) (.int .i64 1)).run Tryz.prog W = .ok (.int .u8 (Sp.bt s 1)) W := idx_str s 1 (by omega)
 have i2 : ∀ W : World, (Instr.index 9 (.string s) (.int .i64 2)).run Tryz.prog W = .ok (.int .u8 (Sp.bt s 2)) W := idx_str s 2 (by omega)
 have l0 : (0 : Int) < (s.size : Int) := by omega
 have l1 : (1 : Int) < (s.size : Int) := by omega
 have l2 : (2 : Int) < (s.size : Int) := by omega
 generalize Sp.bt s 0 = a at *
 generalize Sp.bt s 1 = b at *
 generalize Sp.bt s 2 = c at *
 by_cases hbad : a < 224 ∨ 240 ≤ a ∨ b < 128 ∨ 192 ≤ b ∨ c < 128 ∨ 192 ≤ c
 ·have hR : Hid (R = -1) := Lib.hid (by rw [HE.out, if_pos (by omega)])
  clear HE
  go_enter Tryz.func266, Tryz.ntmps266
  by_cases c1 : a < 224
  ·clear hbad
   go_wp2
   go_ret
   exact ⟨by rw [hR.out]; rfl, Below.refl _ _⟩
  by_cases c2 : 240 ≤ a
  ·clear hbad
   go_wp2
   go_ret
   exact ⟨by rw [hR.out]; rfl, Below.refl _ _⟩
  by_cases c3 : b < 128
  ·clear hbad
   go_wp2
   go_ret
   exact ⟨by rw [hR.out]; rfl, Below.refl _ _⟩
  by_cases c4 : 192 ≤ b
  ·clear hbad
   go_wp2
   go_ret
   exact ⟨by rw [hR.out]; rfl, Below.refl _ _⟩
  by_cases c5 : c < 128
  ·clear hbad
   go_wp2
   go_ret
   exact ⟨by rw [hR.out]; rfl, Below.refl _ _⟩
  have c6 : 192 ≤ c := by omega
  clear hbad
  go_wp2
  go_ret
  exact ⟨by rw [hR.out]; rfl, Below.refl _ _⟩
 have c1 : ¬ a < 224 := by omega
 have c2 : ¬ 240 ≤ a := by omega
 have c3 : ¬ b < 128 := by omega
 have c4 : ¬ 192 ≤ b := by omega
 have c5 : ¬ c < 128 := by omega
 have c6 : ¬ 192 ≤ c := by omega
 have hR0 : Hid (R = if (a - 224) * 4096 + (b - 128) * 64 + c - 128 < 2048 then -1 else (a - 224) * 4096 + (b - 128) * 64 + c - 128) := Lib.hid (by rw [HE.out, if_neg (by omega)])
 clear HE hbad
 go_enter Tryz.func266, Tryz.ntmps266
 by_cases hlo : (a - 224) * 4096 + (b - 128) * 64 + c - 128 < 2048
 ·have hR : Hid (R = -1) := Lib.hid (by rw [hR0.out, if_pos hlo])
  clear hR0
  go_wp2
  go_quiet (fail)
  go_wp2
  go_ret
  exact ⟨by rw [hR.out]; rfl, below_drewNv (Below.refl _ _) _⟩
 ·have hR : Hid (R = (a - 224) * 4096 + (b - 128) * 64 + c - 128) := Lib.hid (by rw [hR0.out, if_neg hlo])
  clear hR0
  go_wp2
  go_quiet (fail)
  go_wp2
  go_ret
  exact ⟨by rw [hR.out]; rfl, below_drewNv (Below.refl _ _) _⟩
set_option maxHeartbeats 16000000 in
set_option maxRecDepth 100000 in
theorem refDecode_any (b : ByteArray) (w : World) (hs : b.size ≤ 140737488351232) :
  Calls Tryz.prog 227 #[.string b] w fun e w' => e = .returned (.tuple #[.string (Sp.refDecS b).1, .int .i64 (Sp.refDecS b).2]) ∧ Below w.heap.size w w' := by
 obtain ⟨i0, hi, hz0, hz1, hz2⟩ := info_parts infoInt
 by_cases hlong : 65535 < b.size
 ·have hz : (65535 : Int) < (b.size : Int) := by omega
  have hv : Sp.refDecS b = (⟨#[]⟩, 2) := by rw [Sp.refDecS, if_pos hlong]
  rw [hv]
  go_enter Tryz.func227, Tryz.ntmps227
  go_wp2
  go_ret2
  exact ⟨rfl, Below.refl _ _⟩
 have hz : ¬ ((65535 : Int) < (b.size : Int)) := by omega
 have hv := Lib.hid (show Sp.refDecS b = match Sp.refDecG (b.size + 1) b [] with | none => (⟨#[]⟩, 4) | some l => ((Sp.refMakeS l).1, 0) by (rw [Sp.refDecS, if_neg hlong]) <;> rfl)
 generalize Sp.refDecS b = R at hv ⊢
 go_enter Tryz.func227, Tryz.ntmps227
 go_wp2
 go_loopw [0, 4] (fun v0 v4 wr => ∃ (s : ByteArray) (f : Nat) (acc : List Int), v0 = .string s ∧ Hid (Sp.refDecG (b.size + 1) b [] = Sp.refDecG f s acc) ∧ s.size < f ∧ s.size ≤ b.size ∧ acc.length + s.size ≤ b.size ∧ wr.ownsRow w.heap.size 3 1 v4 acc.length (numk .i64 acc) ∧ Below w.heap.size w wr) (fun v0 _ _ => (strOf v0).size)
 case atStart => exact ⟨b, b.size + 1, [], rfl, Lib.hid rfl, by omega, by omega, by simp, ⟨by simp [numk], .inl ⟨rfl, rfl⟩⟩, Below.refl _ _⟩
 case round =>
  obtain ⟨s, f, acc, rfl, hd, hf, hsb, hal, hown, hbw⟩ := hrel
  obtain ⟨g, rfl⟩ : ∃ g, f = g + 1 := ⟨f - 1, by omega⟩
  have hsz := hbw.size
  by_cases h0 : s.size = 0
  ·have hR : Hid (R = ((Sp.refMakeS acc).1, 0)) := Lib.hid (by rw [hv.out, hd.out, Sp.refDecG, if_pos h0])
   have hnz : ¬ (0 : Int) < (s.size : Int) := by omega
   obtain ⟨A2, c2, rfl⟩ := own_slice hown
   have hM := Lib.hid (refMake_any A2 c2 acc wr (own_rdN hown).2 (by omega))
   generalize Sp.refMakeS acc = M at hM hR
   clear hv hd h0
   go_wp2_with fail
   refine hM.out.mono ?_
   rintro e w2 ⟨rfl, hb2⟩
   go_wp2
   go_ret2
   exact ⟨by rw [hR.out]; rfl, below_then hbw hsz hb2⟩
  have hpos : 0 < s.size := by omega
  have hpz : (0 : Int) < (s.size : Int) := by omega
  have hd' := Lib.hid (show Sp.refDecG (b.size + 1) b [] = if (Sp.refStep s).1 < 0 then none else Sp.refDecG g (s.extract (Sp.refStep s).2 s.size) (acc ++ [(Sp.refStep s).1]) by rw [hd.out, Sp.refDecG, if_neg h0])
  clear hd h0
  have hst := refStep_range s hpos
  have HS := Lib.hid (show Sp.refStep s = _ by rw [Sp.refStep])
  have hu := Lib.hid (refUnit_any s wr (by omega))
  have hur := Sp.refUnit_range s
  have ix0 : ∀ W : World, (Instr.index 9 (.string s) (.int .i64 0)).run Tryz.prog W = .ok (.int .u8 (Sp.bt s 0)) W := idx_str s 0 hpos
  have hc := Sp.bt_range s 0
  generalize Sp.refStep s = q at hd' hst HS
  obtain ⟨r, n⟩ := q
  simp only at hd' hst
  generalize Sp.refUnit s = u at HS hu hur
  generalize Sp.bt s 0 = c at HS ix0 hc hur
  go_wp2_with fail
  refine hu.out.mono ?_
  rintro e w1 ⟨rfl, hb1⟩
  clear hu
  have hown1 := hown.kept (w' := w1) (row := none) ⟨hb1.os, hb1.tape, hb1.output, hb1.size, fun i hi _ => hb1.block i hi⟩ (by cases u4.ownBlock <;> simp)
  have hbw1 := below_then hbw hsz hb1
  have hsz1 := hbw1.size
  clear hown hb1 hbw hsz
  by_cases c1 : 1 ≤ c ∧ c < 128
  ·have e := HS.out
   rw [if_pos c1] at e
   injection e with er en
   subst er; subst en
   clear HS
   obtain ⟨ca, cb⟩ := c1
   have ca' : 0 < r := by omega
   have hd2 := Lib.hid (show Sp.refDecG (b.size + 1) b [] = Sp.refDecG g (s.extract 1 s.size) (acc ++ [r]) by rw [hd'.out, if_neg (by omega)])
   clear hd'
   go_wp2_with (at_builtin; refine wpList_append_own _ rfl _ _ 23 rfl w.heap.size 3 i0 (.int .i64 0) 1 8 Tryz.underlying23 hi hz0 hz1 hz2 rfl (by decide) _ _ _ rfl (hown1.alloc _) ⟨w1.heap.size, 0, none⟩ 1 1 (numk .i64 [r]) rfl rfl ?c1 ?c2 ?c3 ?c4 ?c5 ?_)
   case c1 =>
    intro j u hj
    match j, hj with
    | 0, hj => simp [numk] at hj; subst hj; simp [Addr.add]
    | (j + 1), hj => simp [numk] at hj
   case c2 => intro u hu; simp [numk] at hu; subst hu; rfl
   case c3 => unfold maxLen; omega
   case c4 => omega
   case c5 => first | omega | (simp; omega)
   intro v' w3 hown' hgrow _
   have hb3 := (hbw1.alloc (by have := hbw1.size; omega) _).grown hgrow (by have := hbw1.size; simp; omega) (fun q hq => own_base hown1 q hq)
   go_wp2
   go_roundw
   case rel =>
    have hx : (s.extract 1 s.size).size = s.size - 1 := by simp
    exact ⟨s.extract 1 s.size, g, acc ++ [r], rfl, Lib.hid hd2.out, by omega, by omega, by simp; omega, by rw [List.length_append, numk_append]; exact hown', hb3⟩
   case measure =>
    have hx : (s.extract 1 s.size).size = s.size - 1 := by simp
    simp only [strOf]; omega
  have HS2 := Lib.hid (show (r, n) = _ by rw [HS.out, if_neg c1])
  clear HS
  have c1' : c < 1 ∨ 128 ≤ c := by omega
  by_cases c2 : 192 ≤ c ∧ c < 224
  ·have HS3 := Lib.hid (show (r, n) = _ by rw [HS2.out, if_pos c2])
   clear HS2
   obtain ⟨ca, cb⟩ := c2
   have cc : 1 ≤ c := by omega
   have cd : ¬ c < 128 := by omega
   clear c1
   by_cases hs1 : 1 < s.size
   ·have hs1z : (1 : Int) < (s.size : Int) := by omega
    have ix1 : ∀ W : World, (Instr.index 9 (.string s) (.int .i64 1)).run Tryz.prog W = .ok (.int .u8 (Sp.bt s 1)) W := idx_str s 1 hs1
    have hx1 := Sp.bt_range s 1
    generalize Sp.bt s 1 = x at HS3 ix1 hx1
    by_cases cx : 128 ≤ x ∧ x < 192
    ·have HS4 := Lib.hid (show (r, n) = _ by rw [HS3.out, if_pos ⟨hs1, cx.1, cx.2⟩])
     clear HS3
     obtain ⟨cxa, cxb⟩ := cx
     by_cases cr : 1 ≤ (c - 192) * 64 + x - 128 ∧ (c - 192) * 64 + x - 128 < 128
     ·have e := HS4.out
      rw [if_pos cr] at e
      injection e with er en
      subst er; subst en
      clear HS4
      obtain ⟨cra, crb⟩ := cr
      have hR : Hid (R = (⟨#[]⟩, 4)) := Lib.hid (by rw [hv.out, hd'.out, if_pos (by omega)])
      clear hv hd'
      go_wp2
      go_ret2
      exact ⟨by rw [hR.out]; rfl, hbw1⟩
     ·have e := HS4.out
      rw [if_neg cr] at e
      injection e with er en
      have er' := Lib.hid er
      subst en
      clear HS4 er
      have cr' : (c - 192) * 64 + x - 128 < 1 ∨ 128 ≤ (c - 192) * 64 + x - 128 := by omega
      have hr0 : 0 ≤ (c - 192) * 64 + x - 128 := by omega
      rw [er'.out] at hd' hst
      by_cases cr1 : (c - 192) * 64 + x - 128 < 1
      ·clear cr cr'
       have hd2 := Lib.hid (show Sp.refDecG (b.size + 1) b [] = Sp.refDecG g (s.extract 2 s.size) (acc ++ [((c - 192) * 64 + x - 128)]) by rw [hd'.out, if_neg (by omega)])
       clear hd'
       go_wp2_with (at_builtin; refine wpList_append_own _ rfl _ _ 23 rfl w.heap.size 3 i0 (.int .i64 0) 1 8 Tryz.underlying23 hi hz0 hz1 hz2 rfl (by decide) _ _ _ rfl (hown1.alloc _) ⟨w1.heap.size, 0, none⟩ 1 1 (numk .i64 [((c - 192) * 64 + x - 128)]) rfl rfl ?c1 ?c2 ?c3 ?c4 ?c5 ?_)
       case c1 =>
        intro j u hj
        match j, hj with
        | 0, hj => simp [numk] at hj; subst hj; simp [Addr.add]
        | (j + 1), hj => simp [numk] at hj
       case c2 => intro u hu; simp [numk] at hu; subst hu; rfl
       case c3 => unfold maxLen; omega
       case c4 => omega
       case c5 => first | omega | (simp; omega)
       intro v' w3 hown' hgrow _
       have hb3 := (hbw1.alloc (by have := hbw1.size; omega) _).grown hgrow (by have := hbw1.size; simp; omega) (fun q hq => own_base hown1 q hq)
       go_wp2
       go_roundw
       case rel =>
        have hx : (s.extract 2 s.size).size = s.size - 2 := by simp
        exact ⟨s.extract 2 s.size, g, acc ++ [((c - 192) * 64 + x - 128)], rfl, Lib.hid hd2.out, by omega, by omega, by simp; omega, by rw [List.length_append, numk_append]; exact hown', hb3⟩
       case measure =>
        have hx : (s.extract 2 s.size).size = s.size - 2 := by simp
        simp only [strOf]; omega
      ·have cr2 : ¬ (c - 192) * 64 + x - 128 < 128 := by omega
       have cr3 : 1 ≤ (c - 192) * 64 + x - 128 := by omega
       clear cr cr'
       have hd2 := Lib.hid (show Sp.refDecG (b.size + 1) b [] = Sp.refDecG g (s.extract 2 s.size) (acc ++ [((c - 192) * 64 + x - 128)]) by rw [hd'.out, if_neg (by omega)])
       clear hd'
       go_wp2_with (at_builtin; refine wpList_append_own _ rfl _ _ 23 rfl w.heap.size 3 i0 (.int .i64 0) 1 8 Tryz.underlying23 hi hz0 hz1 hz2 rfl (by decide) _ _ _ rfl (hown1.alloc _) ⟨w1.heap.size, 0, none⟩ 1 1 (numk .i64 [((c - 192) * 64 + x - 128)]) rfl rfl ?c1 ?c2 ?c3 ?c4 ?c5 ?_)
       case c1 =>
        intro j u hj
        match j, hj with
        | 0, hj => simp [numk] at hj; subst hj; simp [Addr.add]
        | (j + 1), hj => simp [numk] at hj
       case c2 => intro u hu; simp [numk] at hu; subst hu; rfl
       case c3 => unfold maxLen; omega
       case c4 => omega
       case c5 => first | omega | (simp; omega)
       intro v' w3 hown' hgrow _
       have hb3 := (hbw1.alloc (by have := hbw1.size; omega) _).grown hgrow (by have := hbw1.size; simp; omega) (fun q hq => own_base hown1 q hq)
       go_wp2
       go_roundw
       case rel =>
        have hx : (s.extract 2 s.size).size = s.size - 2 := by simp
        exact ⟨s.extract 2 s.size, g, acc ++ [((c - 192) * 64 + x - 128)], rfl, Lib.hid hd2.out, by omega, by omega, by simp; omega, by rw [List.length_append, numk_append]; exact hown', hb3⟩
       case measure =>
        have hx : (s.extract 2 s.size).size = s.size - 2 := by simp
        simp only [strOf]; omega
    ·have e := HS3.out
     rw [if_neg (by omega)] at e
     injection e with er en
     subst er; subst en
     clear HS3
     by_cases cx1 : x < 128
     ·clear cx
      have hR : Hid (R = (⟨#[]⟩, 4)) := Lib.hid (by rw [hv.out, hd'.out, if_pos (by omega)])
      clear hv hd'
      go_wp2
      go_ret2
      exact ⟨by rw [hR.out]; rfl, hbw1⟩
     ·have cx2 : 192 ≤ x := by omega
      have cx3 : 128 ≤ x := by omega
      clear cx
      have hR : Hid (R = (⟨#[]⟩, 4)) := Lib.hid (by rw [hv.out, hd'.out, if_pos (by omega)])
      clear hv hd'
      go_wp2
      go_ret2
      exact ⟨by rw [hR.out]; rfl, hbw1⟩
   ·have hs1z : ¬ (1 : Int) < (s.size : Int) := by omega
    have e := HS3.out
    rw [if_neg (by omega)] at e
    injection e with er en
    subst er; subst en
    clear HS3
    have hR : Hid (R = (⟨#[]⟩, 4)) := Lib.hid (by rw [hv.out, hd'.out, if_pos (by omega)])
    clear hv hd'
    go_wp2
    go_ret2
    exact ⟨by rw [hR.out]; rfl, hbw1⟩
  have HS3 := Lib.hid (show (r, n) = _ by rw [HS2.out, if_neg c2])
  clear HS2
  have c2' : c < 192 ∨ 224 ≤ c := by omega
  by_cases cu : 55296 ≤ u ∧ u < 56320
  ·have HS4 := Lib.hid (show (r, n) = _ by rw [HS3.out, if_pos cu])
   clear HS3
   obtain ⟨cua, cub⟩ := cu
   have hur3 := hur.2.2 (by omega)
   have cc : 224 ≤ c := hur3.2
   have hs3 : 3 ≤ s.size := hur3.1
   clear c1 c2 c1' c2' hur hur3
   have hv2 := Lib.hid (fun W => refUnit_any (s.extract 3 s.size) W (by simp; omega))
   have hvr := Sp.refUnit_range (s.extract 3 s.size)
   have hxs : (s.extract 3 s.size).size = s.size - 3 := by simp
   have hvr3 := hvr.2.2
   rw [hxs] at hvr3
   clear hxs hvr
   generalize Sp.refUnit (s.extract 3 s.size) = v at HS4 hv2 hvr3
   go_wp2_with fail
   refine (hv2.out w1).mono ?_
   rintro e w2 ⟨rfl, hb2⟩
   clear hv2
   have hown2 := hown1.kept (w' := w2) (row := none) ⟨hb2.os, hb2.tape, hb2.output, hb2.size, fun i hi _ => hb2.block i hi⟩ (by cases u4.ownBlock <;> simp)
   have hbw2 := below_then hbw1 hsz1 hb2
   have hsz2 := hbw2.size
   clear hown1 hb2 hbw1 hsz1
   by_cases cv : 56320 ≤ v ∧ v < 57344
   ·have e := HS4.out
    rw [if_pos cv] at e
    injection e with er en
    have er' := Lib.hid er
    subst en
    clear HS4 er
    obtain ⟨cva, cvb⟩ := cv
    have hs6 : 6 ≤ s.size := by have := (hvr3 (by omega)).1; omega
    rw [er'.out] at hd' hst
    clear hvr3
    have hd2 := Lib.hid (show Sp.refDecG (b.size + 1) b [] = Sp.refDecG g (s.extract 6 s.size) (acc ++ [(65536 + (u - 55296) * 1024 + v - 56320)]) by rw [hd'.out, if_neg (by omega)])
    clear hd'
    go_wp2_with (at_builtin; refine wpList_append_own _ rfl _ _ 23 rfl w.heap.size 3 i0 (.int .i64 0) 1 8 Tryz.underlying23 hi hz0 hz1 hz2 rfl (by decide) _ _ _ rfl (hown2.alloc _) ⟨w2.heap.size, 0, none⟩ 1 1 (numk .i64 [(65536 + (u - 55296) * 1024 + v - 56320)]) rfl rfl ?c1 ?c2 ?c3 ?c4 ?c5 ?_)
    case c1 =>
     intro j u hj
     match j, hj with
     | 0, hj => simp [numk] at hj; subst hj; simp [Addr.add]
     | (j + 1), hj => simp [numk] at hj
    case c2 => intro u hu; simp [numk] at hu; subst hu; rfl
    case c3 => unfold maxLen; omega
    case c4 => omega
    case c5 => first | omega | (simp; omega)
    intro v' w3 hown' hgrow _
    have hb3 := (hbw2.alloc (by have := hbw2.size; omega) _).grown hgrow (by have := hbw2.size; simp; omega) (fun q hq => own_base hown2 q hq)
    go_wp2
    go_roundw
    case rel =>
     have hx : (s.extract 6 s.size).size = s.size - 6 := by simp
     exact ⟨s.extract 6 s.size, g, acc ++ [(65536 + (u - 55296) * 1024 + v - 56320)], rfl, Lib.hid hd2.out, by omega, by omega, by simp; omega, by rw [List.length_append, numk_append]; exact hown', hb3⟩
    case measure =>
     have hx : (s.extract 6 s.size).size = s.size - 6 := by simp
     simp only [strOf]; omega
   ·have e := HS4.out
    rw [if_neg cv] at e
    injection e with er en
    subst er; subst en
    clear HS4 hvr3
    by_cases cv1 : v < 56320
    ·clear cv
     have hR : Hid (R = (⟨#[]⟩, 4)) := Lib.hid (by rw [hv.out, hd'.out, if_pos (by omega)])
     clear hv hd'
     go_wp2
     go_ret2
     exact ⟨by rw [hR.out]; rfl, hbw2⟩
    ·have cv2 : 57344 ≤ v := by omega
     have cv3 : 56320 ≤ v := by omega
     clear cv
     have hR : Hid (R = (⟨#[]⟩, 4)) := Lib.hid (by rw [hv.out, hd'.out, if_pos (by omega)])
     clear hv hd'
     go_wp2
     go_ret2
     exact ⟨by rw [hR.out]; rfl, hbw2⟩
  have HS4 := Lib.hid (show (r, n) = _ by rw [HS3.out, if_neg cu])
  clear HS3
  by_cases cg : 0 ≤ u ∧ (u < 56320 ∨ 57344 ≤ u)
  ·have e := HS4.out
   rw [if_pos cg] at e
   injection e with er en
   subst en
   clear HS4
   have hur3 := hur.2.2 (by omega)
   have cc : 224 ≤ c := hur3.2
   have hs3 : 3 ≤ s.size := hur3.1
   have cga : 0 ≤ u := by omega
   have er' := Lib.hid er
   rw [er] at hd' hst
   clear er
   clear c1 c2 c1' c2' hur hur3
   by_cases cl : u < 55296
   ·have cl2 : u < 56320 := by omega
    clear cg cu
    have hd2 := Lib.hid (show Sp.refDecG (b.size + 1) b [] = Sp.refDecG g (s.extract 3 s.size) (acc ++ [u]) by rw [hd'.out, if_neg (by omega)])
    clear hd'
    go_wp2_with (at_builtin; refine wpList_append_own _ rfl _ _ 23 rfl w.heap.size 3 i0 (.int .i64 0) 1 8 Tryz.underlying23 hi hz0 hz1 hz2 rfl (by decide) _ _ _ rfl (hown1.alloc _) ⟨w1.heap.size, 0, none⟩ 1 1 (numk .i64 [u]) rfl rfl ?c1 ?c2 ?c3 ?c4 ?c5 ?_)
    case c1 =>
     intro j u hj
     match j, hj with
     | 0, hj => simp [numk] at hj; subst hj; simp [Addr.add]
     | (j + 1), hj => simp [numk] at hj
    case c2 => intro u hu; simp [numk] at hu; subst hu; rfl
    case c3 => unfold maxLen; omega
    case c4 => omega
    case c5 => first | omega | (simp; omega)
    intro v' w3 hown' hgrow _
    have hb3 := (hbw1.alloc (by have := hbw1.size; omega) _).grown hgrow (by have := hbw1.size; simp; omega) (fun q hq => own_base hown1 q hq)
    go_wp2
    go_roundw
    case rel =>
     have hx : (s.extract 3 s.size).size = s.size - 3 := by simp
     exact ⟨s.extract 3 s.size, g, acc ++ [u], rfl, Lib.hid hd2.out, by omega, by omega, by simp; omega, by rw [List.length_append, numk_append]; exact hown', hb3⟩
    case measure =>
     have hx : (s.extract 3 s.size).size = s.size - 3 := by simp
     simp only [strOf]; omega
   ·have cl2 : 57344 ≤ u := by omega
    have cl3 : 55296 ≤ u := by omega
    have cl4 : ¬ u < 56320 := by omega
    clear cg cu cl
    have hd2 := Lib.hid (show Sp.refDecG (b.size + 1) b [] = Sp.refDecG g (s.extract 3 s.size) (acc ++ [u]) by rw [hd'.out, if_neg (by omega)])
    clear hd'
    go_wp2_with (at_builtin; refine wpList_append_own _ rfl _ _ 23 rfl w.heap.size 3 i0 (.int .i64 0) 1 8 Tryz.underlying23 hi hz0 hz1 hz2 rfl (by decide) _ _ _ rfl (hown1.alloc _) ⟨w1.heap.size, 0, none⟩ 1 1 (numk .i64 [u]) rfl rfl ?c1 ?c2 ?c3 ?c4 ?c5 ?_)
    case c1 =>
     intro j u hj
     match j, hj with
     | 0, hj => simp [numk] at hj; subst hj; simp [Addr.add]
     | (j + 1), hj => simp [numk] at hj
    case c2 => intro u hu; simp [numk] at hu; subst hu; rfl
    case c3 => unfold maxLen; omega
    case c4 => omega
    case c5 => first | omega | (simp; omega)
    intro v' w3 hown' hgrow _
    have hb3 := (hbw1.alloc (by have := hbw1.size; omega) _).grown hgrow (by have := hbw1.size; simp; omega) (fun q hq => own_base hown1 q hq)
    go_wp2
    go_roundw
    case rel =>
     have hx : (s.extract 3 s.size).size = s.size - 3 := by simp
     exact ⟨s.extract 3 s.size, g, acc ++ [u], rfl, Lib.hid hd2.out, by omega, by omega, by simp; omega, by rw [List.length_append, numk_append]; exact hown', hb3⟩
    case measure =>
     have hx : (s.extract 3 s.size).size = s.size - 3 := by simp
     simp only [strOf]; omega
  have e := HS4.out
  rw [if_neg cg] at e
  injection e with er en
  subst er; subst en
  clear HS4 hur
  have hcc : c < 1 ∨ (128 ≤ c ∧ c < 192) ∨ 224 ≤ c := by omega
  have huu : u < 0 ∨ 56320 ≤ u := by omega
  rcases hcc with hcc | ⟨hcc, hcd⟩ | hcc
  all_goals
   rcases huu with huu | huu
  all_goals
   have hR : Hid (R = (⟨#[]⟩, 4)) := Lib.hid (by rw [hv.out, hd'.out, if_pos (by omega)])
   have q1 : u < 57344 := by omega
   clear hv hd' c1 c2 c1' c2' cu cg
   go_wp2
   go_ret2
   exact ⟨by rw [hR.out]; rfl, hbw1⟩
theorem Sp.num_stuck (s : ByteArray) (e : Int) (n : Nat) (he : e ≠ 0) : Sp.numR s e n = (0, s, e) := by
 unfold Sp.numR Sp.takeR
 rw [if_neg he]
 rfl
set_option maxHeartbeats 8000000 in
set_option maxRecDepth 100000 in
theorem qconst_any (rb : Nat) (s : ByteArray) (e : Int) (w : World) (h : Rq w rb s e) (hs : s.size ≤ 1099511627776) :
  Calls Tryz.prog 174 #[.pointer (some ⟨rb, 0, none⟩)] w fun x w' => x = .returned (Sp.cnV (Sp.constR s e).1) ∧ Rq w' rb (Sp.constR s e).2.1 (Sp.constR s e).2.2 ∧ Keeps (fun i => i = rb) w w' := by
 have hlr := blk_lt h
 have hR0 := Lib.hid (blk_old (o := .cells #[.int .i64 0, .string ⟨#[]⟩, .int .i64 0, .int .i64 0, .int .i64 0, .int .i64 0] 145) h)
 have hZ0 := Lib.hid (blk_new w (.cells #[.int .i64 0, .string ⟨#[]⟩, .int .i64 0, .int .i64 0, .int .i64 0, .int .i64 0] 145))
 have hK0 := Lib.hid ((Keeps.refl (fun i => i = rb) w).alloc (.cells #[.int .i64 0, .string ⟨#[]⟩, .int .i64 0, .int .i64 0, .int .i64 0, .int .i64 0] 145))
 have kn := Lib.hid (qnumber_any rb s e 1 _ hR0.out hs (by decide))
 have hz1 := Sp.num_len s e 1
 have ht := Sp.num_two s e 1 (by decide)
 unfold Sp.constR
 generalize Sp.numR s e 1 = N at *
 obtain ⟨t, s1, e1⟩ := N
 simp only [] at kn hz1 ht ⊢
 have hHF := Lib.hid (show Sp.constT t s1 e1 = _ by rw [Sp.constT])
 generalize Sp.constT t s1 e1 = F at *
 obtain ⟨FC, Fs, Fe⟩ := F
 simp only [] at hHF ⊢
 go_enter Tryz.func174, Tryz.ntmps174
 go_wp2_with fail
 refine kn.out.mono ?_
 rintro x w1 ⟨rfl, hR1, hK1⟩
 have hZ1 := Lib.hid (hK1.obj hZ0.out (by omega))
 have hKK := Lib.hid (hK0.out.trans hK1)
 have hlz := blk_lt hZ1.out
 clear hR0 hZ0 hK0 kn hK1
 have hR2 := Lib.hid (blk_old (o := .cells #[.int .i64 t, .string ⟨#[]⟩, .int .i64 0, .int .i64 0, .int .i64 0, .int .i64 0] 145) hR1)
 have hZ2 := Lib.hid (blk_old (o := .cells #[.int .i64 t, .string ⟨#[]⟩, .int .i64 0, .int .i64 0, .int .i64 0, .int .i64 0] 145) hZ1.out)
 have hC2 := Lib.hid (blk_new w1 (.cells #[.int .i64 t, .string ⟨#[]⟩, .int .i64 0, .int .i64 0, .int .i64 0, .int .i64 0] 145))
 have hK2 := Lib.hid (hKK.out.alloc (.cells #[.int .i64 t, .string ⟨#[]⟩, .int .i64 0, .int .i64 0, .int .i64 0, .int .i64 0] 145))
 have hl1 := blk_lt hR1
 have hwl := hKK.out.size
 clear hR1 hZ1 hKK
 go_upto_region 2 with fail
 generalize w1.alloc (.cells #[.int .i64 t, .string ⟨#[]⟩, .int .i64 0, .int .i64 0, .int .i64 0, .int .i64 0] 145) = W2 at *
 generalize w1.heap.size = cb at *
 have hzb0 : w.heap.size ≤ w.heap.size := Nat.le_refl _
 generalize hzb : w.heap.size = zb at *
 have hlc := blk_lt hC2.out
 have hlz2 := blk_lt hZ2.out
 have hRl := blk_lt hR2.out
 have hs1 : s1.size ≤ 1099511627776 := by omega
 have hne1 : rb ≠ cb := by omega
 have hne2 : rb ≠ zb := by omega
 have hne3 : zb ≠ cb := by omega
 have hle : w.heap.size ≤ zb := by omega
 have hle2 : w.heap.size ≤ cb := by omega
 clear hz1 hs
 obtain ⟨d0, g0⟩ := blk_cell hC2.out 0 _ rfl
 obtain ⟨r1, g1⟩ := blk_cell hR2.out 1 _ rfl
 by_cases hgood : 1 ≤ t ∧ t ≤ 7
 rotate_left
 ·have hF := hHF.out
  rw [if_neg (show ¬ t = 1 by omega), if_neg (show ¬ t = 2 by omega), if_neg (show ¬ (t = 3 ∨ t = 4 ∨ t = 7) by omega), if_neg (show ¬ (t = 5 ∨ t = 6) by omega)] at hF
  clear hHF
  injection hF with h1 h2
  injection h2 with h2 h3'
  subst h1 h2
  have b1 : (t == 1) = false := by simp; omega
  have b2 : (t == 2) = false := by simp; omega
  have b5 : (t == 5) = false := by simp; omega
  have b6 : (t == 6) = false := by simp; omega
  by_cases he : e1 = 0
  ·subst he
   rw [if_pos rfl] at h3'
   subst h3'
   have hR := Lib.hid (show Rq (W2.setCell ⟨rb, 1, none⟩ (.int .i64 4)) rb Fs 4 from blk_set (i := 1) hR2.out (.int .i64 4))
   have hZ := Lib.hid (blk_other hZ2.out ⟨rb, 1, none⟩ (.int .i64 4) (fun q => hne2 q.symm))
   have hC := Lib.hid (blk_other hC2.out ⟨rb, 1, none⟩ (.int .i64 4) (fun q => hne1 q.symm))
   have hK := Lib.hid (hK2.out.setCell (a := ⟨rb, 1, none⟩) (.inl rfl) (.int .i64 4))
   have hbad : ¬ t < 1 → 7 < t := by omega
   by_cases hlow : t < 1
   ·clear hbad
    clear hR2 hZ2 hC2 hK2 hgood
    have kq := Lib.hid (qnumber_any rb Fs 4 2 _ hR.out hs1 (by decide))
    rw [Sp.num_stuck Fs 4 2 (by decide)] at kq
    simp only [] at kq
    have hlq := blk_lt hC.out
    obtain ⟨d0, g0⟩ := blk_cell hC.out 0 _ rfl
    go_wp2_with fail
    refine kq.out.mono ?_
    rintro x w9 ⟨rfl, hRa, hKa⟩
    have hZ5 := Lib.hid (hKa.obj hZ.out (fun q => hne2 q.symm))
    have hC5 := Lib.hid (hKa.obj hC.out (fun q => hne1 q.symm))
    have hKb := hK.out.trans hKa
    obtain ⟨q1, p1⟩ := blk_cell hC5.out 3 _ rfl
    have hlc9 := blk_lt hC5.out
    have hR7 := Lib.hid (show Rq (w9.setCell ⟨cb, 3, none⟩ (.int .i64 0)) rb Fs 4 from blk_other hRa _ _ hne1)
    have hZ7 := Lib.hid (blk_other hZ5.out ⟨cb, 3, none⟩ (.int .i64 0) hne3)
    have hK7 := Lib.hid (hKb.setCell (a := ⟨cb, 3, none⟩) (.inr hle2) (.int .i64 0))
    clear hRa hKa hKb kq hR hZ hC hK hlq d0 g0
    obtain ⟨c0, c1, c2, c3, c4, c5⟩ := cells6m hC5.out
    obtain ⟨d0, d1, d2, d3, d4, d5⟩ := cells6m hZ5.out
    obtain ⟨f0, f1, f2, f3, f4, f5⟩ := frz6m hZ5.out
    have hlcc := blk_lt hC5.out
    have hlzz := blk_lt hZ5.out
    have hfin := Lib.hid (blk_set (i := 5) (blk_set (i := 4) (blk_set (i := 3) (blk_set (i := 2) (blk_set (i := 1) (blk_set (i := 0) hZ7.out (.int .i64 t)) (.string ⟨#[]⟩)) (.int .i64 0)) (.int .i64 0)) (.int .i64 0)) (.int .i64 0))
    go_wp2
    (try simp only [Exit.inBlock, Exit.then])
    refine bodyPost_ret (results_c rfl _ _ _ rfl (cn_load hfin.out)) rfl ?_
    refine ⟨rfl, ?_, ?_⟩
    ·exact blk_other (blk_other (blk_other (blk_other (blk_other (blk_other hR7.out _ _ hne2) _ _ hne2) _ _ hne2) _ _ hne2) _ _ hne2) _ _ hne2
    ·exact (((((hK7.out.setCell (a := ⟨zb, 0, none⟩) (.inr hle) _).setCell (a := ⟨zb, 1, none⟩) (.inr hle) _).setCell (a := ⟨zb, 2, none⟩) (.inr hle) _).setCell (a := ⟨zb, 3, none⟩) (.inr hle) _).setCell (a := ⟨zb, 4, none⟩) (.inr hle) _).setCell (a := ⟨zb, 5, none⟩) (.inr hle) _
   ·have hhigh := hbad hlow
    clear hbad
    clear hR2 hZ2 hC2 hK2 hgood
    have kq := Lib.hid (qnumber_any rb Fs 4 2 _ hR.out hs1 (by decide))
    rw [Sp.num_stuck Fs 4 2 (by decide)] at kq
    simp only [] at kq
    have hlq := blk_lt hC.out
    obtain ⟨d0, g0⟩ := blk_cell hC.out 0 _ rfl
    go_wp2_with fail
    refine kq.out.mono ?_
    rintro x w9 ⟨rfl, hRa, hKa⟩
    have hZ5 := Lib.hid (hKa.obj hZ.out (fun q => hne2 q.symm))
    have hC5 := Lib.hid (hKa.obj hC.out (fun q => hne1 q.symm))
    have hKb := hK.out.trans hKa
    obtain ⟨q1, p1⟩ := blk_cell hC5.out 3 _ rfl
    have hlc9 := blk_lt hC5.out
    have hR7 := Lib.hid (show Rq (w9.setCell ⟨cb, 3, none⟩ (.int .i64 0)) rb Fs 4 from blk_other hRa _ _ hne1)
    have hZ7 := Lib.hid (blk_other hZ5.out ⟨cb, 3, none⟩ (.int .i64 0) hne3)
    have hK7 := Lib.hid (hKb.setCell (a := ⟨cb, 3, none⟩) (.inr hle2) (.int .i64 0))
    clear hRa hKa hKb kq hR hZ hC hK hlq d0 g0
    obtain ⟨c0, c1, c2, c3, c4, c5⟩ := cells6m hC5.out
    obtain ⟨d0, d1, d2, d3, d4, d5⟩ := cells6m hZ5.out
    obtain ⟨f0, f1, f2, f3, f4, f5⟩ := frz6m hZ5.out
    have hlcc := blk_lt hC5.out
    have hlzz := blk_lt hZ5.out
    have hfin := Lib.hid (blk_set (i := 5) (blk_set (i := 4) (blk_set (i := 3) (blk_set (i := 2) (blk_set (i := 1) (blk_set (i := 0) hZ7.out (.int .i64 t)) (.string ⟨#[]⟩)) (.int .i64 0)) (.int .i64 0)) (.int .i64 0)) (.int .i64 0))
    go_wp2
    (try simp only [Exit.inBlock, Exit.then])
    refine bodyPost_ret (results_c rfl _ _ _ rfl (cn_load hfin.out)) rfl ?_
    refine ⟨rfl, ?_, ?_⟩
    ·exact blk_other (blk_other (blk_other (blk_other (blk_other (blk_other hR7.out _ _ hne2) _ _ hne2) _ _ hne2) _ _ hne2) _ _ hne2) _ _ hne2
    ·exact (((((hK7.out.setCell (a := ⟨zb, 0, none⟩) (.inr hle) _).setCell (a := ⟨zb, 1, none⟩) (.inr hle) _).setCell (a := ⟨zb, 2, none⟩) (.inr hle) _).setCell (a := ⟨zb, 3, none⟩) (.inr hle) _).setCell (a := ⟨zb, 4, none⟩) (.inr hle) _).setCell (a := ⟨zb, 5, none⟩) (.inr hle) _
  ·have heb : (e1 == 0) = false := by simp [he]
   rw [if_neg he] at h3'
   subst h3'
   have hR := hR2
   have hZ := hZ2
   have hC := hC2
   have hK := hK2
   clear hR2 hZ2 hC2 hK2 hgood
   have kq := Lib.hid (qnumber_any rb Fs Fe 2 _ hR.out hs1 (by decide))
   rw [Sp.num_stuck Fs Fe 2 he] at kq
   simp only [] at kq
   have hlq := blk_lt hC.out
   obtain ⟨d0, g0⟩ := blk_cell hC.out 0 _ rfl
   go_wp2_with fail
   refine kq.out.mono ?_
   rintro x w9 ⟨rfl, hRa, hKa⟩
   have hZ5 := Lib.hid (hKa.obj hZ.out (fun q => hne2 q.symm))
   have hC5 := Lib.hid (hKa.obj hC.out (fun q => hne1 q.symm))
   have hKb := hK.out.trans hKa
   obtain ⟨q1, p1⟩ := blk_cell hC5.out 3 _ rfl
   have hlc9 := blk_lt hC5.out
   have hR7 := Lib.hid (show Rq (w9.setCell ⟨cb, 3, none⟩ (.int .i64 0)) rb Fs Fe from blk_other hRa _ _ hne1)
   have hZ7 := Lib.hid (blk_other hZ5.out ⟨cb, 3, none⟩ (.int .i64 0) hne3)
   have hK7 := Lib.hid (hKb.setCell (a := ⟨cb, 3, none⟩) (.inr hle2) (.int .i64 0))
   clear hRa hKa hKb kq hR hZ hC hK hlq d0 g0
   obtain ⟨c0, c1, c2, c3, c4, c5⟩ := cells6m hC5.out
   obtain ⟨d0, d1, d2, d3, d4, d5⟩ := cells6m hZ5.out
   obtain ⟨f0, f1, f2, f3, f4, f5⟩ := frz6m hZ5.out
   have hlcc := blk_lt hC5.out
   have hlzz := blk_lt hZ5.out
   have hfin := Lib.hid (blk_set (i := 5) (blk_set (i := 4) (blk_set (i := 3) (blk_set (i := 2) (blk_set (i := 1) (blk_set (i := 0) hZ7.out (.int .i64 t)) (.string ⟨#[]⟩)) (.int .i64 0)) (.int .i64 0)) (.int .i64 0)) (.int .i64 0))
   go_wp2
   (try simp only [Exit.inBlock, Exit.then])
   refine bodyPost_ret (results_c rfl _ _ _ rfl (cn_load hfin.out)) rfl ?_
   refine ⟨rfl, ?_, ?_⟩
   ·exact blk_other (blk_other (blk_other (blk_other (blk_other (blk_other hR7.out _ _ hne2) _ _ hne2) _ _ hne2) _ _ hne2) _ _ hne2) _ _ hne2
   ·exact (((((hK7.out.setCell (a := ⟨zb, 0, none⟩) (.inr hle) _).setCell (a := ⟨zb, 1, none⟩) (.inr hle) _).setCell (a := ⟨zb, 2, none⟩) (.inr hle) _).setCell (a := ⟨zb, 3, none⟩) (.inr hle) _).setCell (a := ⟨zb, 4, none⟩) (.inr hle) _).setCell (a := ⟨zb, 5, none⟩) (.inr hle) _
 ·obtain ⟨hg1, hg2⟩ := hgood
  have bl : ¬ t < 1 := by omega
  have bg : ¬ 7 < t := by omega
  go_cut [24] (fun x24 wx => x24 = .bool false ∧ wx = W2)
  case first =>
   by_cases he : e1 = 0
   ·subst he
    go_wp2
    go_meet
    exact ⟨rfl, rfl⟩
   ·have heb : (e1 == 0) = false := by simp [he]
    go_wp2
    go_meet
    exact ⟨rfl, rfl⟩
  case rest =>
   obtain ⟨rfl, rfl⟩ := hcut
   clear d0 g0 r1 g1 bl bg
   have hR := hR2
   have hZ := hZ2
   have hC := hC2
   have hK := hK2
   clear hR2 hZ2 hC2 hK2
   by_cases ht1 : t = 1
   ·subst ht1
    have hF := hHF.out
    rw [if_pos rfl] at hF
    clear hHF
    have kn := Lib.hid (qnumber_any rb s1 e1 2 _ hR.out hs1 (by decide))
    have hv := Sp.num_two s1 e1 2 (by decide)
    have hz2 := Sp.num_len s1 e1 2
    generalize Sp.numR s1 e1 2 = N at *
    obtain ⟨v, s2, e2⟩ := N
    simp only [] at kn hv hz2 hF
    obtain ⟨k, rfl⟩ := Int.eq_ofNat_of_zero_le hv.1
    rw [Int.toNat_natCast] at hF
    have d0 := (blk_cell hC.out 0 _ rfl).1
    have hlq := blk_lt hC.out
    go_wp2_with fail
    refine kn.out.mono ?_
    rintro x w3 ⟨rfl, hR3, hK3⟩
    have hZ3 := Lib.hid (hK3.obj hZ.out (fun q => hne2 q.symm))
    have hC3 := Lib.hid (hK3.obj hC.out (fun q => hne1 q.symm))
    have hKb := Lib.hid (hK.out.trans hK3)
    have kt := Lib.hid (qtake_any rb s2 e2 k w3 hR3 (by omega) (by omega))
    have hzt := Sp.take_size s2 e2 k
    clear kn hR hZ hC hK hR3 hK3 d0 hlq
    generalize Sp.takeR s2 e2 k = T at *
    obtain ⟨tx, s3, e3⟩ := T
    simp only [] at kt hF hzt
    go_wp2_with fail
    refine kt.out.mono ?_
    rintro x w4 ⟨rfl, hR4, hK4⟩
    have hZ4 := Lib.hid (hK4.obj hZ3.out (fun q => hne2 q.symm))
    have hC4 := Lib.hid (hK4.obj hC3.out (fun q => hne1 q.symm))
    have hKc := Lib.hid (hKb.out.trans hK4)
    have hR4' := Lib.hid hR4
    have kd := Lib.hid (fun W => refDecode_any tx W (by omega))
    rw [← Sp.decS_eq] at kd
    clear kt hZ3 hC3 hKb hR4 hK4
    generalize Sp.decS tx = D at *
    obtain ⟨dt, de⟩ := D
    simp only [] at kd hF
    go_wp2_with fail
    refine (kd.out _).mono ?_
    rintro x w5 ⟨rfl, hb5⟩
    have hK5 := Keeps.of_below (S := fun i => i = rb) hb5
    have hZ5 := Lib.hid (hK5.obj hZ4.out (fun q => hne2 q.symm))
    have hC5 := Lib.hid (hK5.obj hC4.out (fun q => hne1 q.symm))
    have hR5 := Lib.hid (show Rq w5 rb s3 e3 from blk_below hR4'.out hb5)
    have hKd := Lib.hid (hKc.out.trans hK5)
    clear kd hZ4 hC4 hKc hR4' hb5 hK5
    obtain ⟨r1, g1⟩ := blk_cell hR5.out 1 _ rfl
    obtain ⟨q1, p1⟩ := blk_cell hC5.out 1 _ rfl
    have hlr5 := blk_lt hR5.out
    have hlc5 := blk_lt hC5.out
    by_cases he : e3 = 0
    ·subst he
     rw [if_pos rfl] at hF
     have hFe : (FC, Fs, Fe) = (⟨1, dt, 0, 0, 0, 0⟩, s3, de) := hF
     injection hFe with h1 h2
     injection h2 with h2 h3
     subst h1 h2 h3
     clear hF
     have hR6 := Lib.hid (show Rq (w5.setCell ⟨rb, 1, none⟩ (.int .i64 Fe)) rb Fs Fe from blk_set (i := 1) hR5.out (.int .i64 Fe))
     have hR7 := Lib.hid (show Rq ((w5.setCell ⟨rb, 1, none⟩ (.int .i64 Fe)).setCell ⟨cb, 1, none⟩ (.string dt)) rb Fs Fe from blk_other hR6.out _ _ hne1)
     have hZ7 := Lib.hid (blk_other (blk_other hZ5.out ⟨rb, 1, none⟩ (.int .i64 Fe) (fun q => hne2 q.symm)) ⟨cb, 1, none⟩ (.string dt) hne3)
     have hK7 := Lib.hid ((hKd.out.setCell (a := ⟨rb, 1, none⟩) (.inl rfl) (.int .i64 Fe)).setCell (a := ⟨cb, 1, none⟩) (.inr hle2) (.string dt))
     clear hR6 hR5 hKd
     obtain ⟨c0, c1, c2, c3, c4, c5⟩ := cells6m hC5.out
     obtain ⟨d0, d1, d2, d3, d4, d5⟩ := cells6m hZ5.out
     obtain ⟨f0, f1, f2, f3, f4, f5⟩ := frz6m hZ5.out
     have hlcc := blk_lt hC5.out
     have hlzz := blk_lt hZ5.out
     have hfin := Lib.hid (blk_set (i := 5) (blk_set (i := 4) (blk_set (i := 3) (blk_set (i := 2) (blk_set (i := 1) (blk_set (i := 0) hZ7.out (.int .i64 1)) (.string dt)) (.int .i64 0)) (.int .i64 0)) (.int .i64 0)) (.int .i64 0))
     go_wp2
     (try simp only [Exit.inBlock, Exit.then])
     refine bodyPost_ret (results_c rfl _ _ _ rfl (cn_load hfin.out)) rfl ?_
     refine ⟨rfl, ?_, ?_⟩
     ·exact blk_other (blk_other (blk_other (blk_other (blk_other (blk_other hR7.out _ _ hne2) _ _ hne2) _ _ hne2) _ _ hne2) _ _ hne2) _ _ hne2
     ·exact (((((hK7.out.setCell (a := ⟨zb, 0, none⟩) (.inr hle) _).setCell (a := ⟨zb, 1, none⟩) (.inr hle) _).setCell (a := ⟨zb, 2, none⟩) (.inr hle) _).setCell (a := ⟨zb, 3, none⟩) (.inr hle) _).setCell (a := ⟨zb, 4, none⟩) (.inr hle) _).setCell (a := ⟨zb, 5, none⟩) (.inr hle) _
    ·have heb : (e3 == 0) = false := by simp [he]
     rw [if_neg he] at hF
     have hFe : (FC, Fs, Fe) = (⟨1, dt, 0, 0, 0, 0⟩, s3, e3) := hF
     injection hFe with h1 h2
     injection h2 with h2 h3
     subst h1 h2 h3
     clear hF
     have hR7 := Lib.hid (show Rq (w5.setCell ⟨cb, 1, none⟩ (.string dt)) rb Fs Fe from blk_other hR5.out _ _ hne1)
     have hZ7 := Lib.hid (blk_other hZ5.out ⟨cb, 1, none⟩ (.string dt) hne3)
     have hK7 := Lib.hid (hKd.out.setCell (a := ⟨cb, 1, none⟩) (.inr hle2) (.string dt))
     clear hR5 hKd
     obtain ⟨c0, c1, c2, c3, c4, c5⟩ := cells6m hC5.out
     obtain ⟨d0, d1, d2, d3, d4, d5⟩ := cells6m hZ5.out
     obtain ⟨f0, f1, f2, f3, f4, f5⟩ := frz6m hZ5.out
     have hlcc := blk_lt hC5.out
     have hlzz := blk_lt hZ5.out
     have hfin := Lib.hid (blk_set (i := 5) (blk_set (i := 4) (blk_set (i := 3) (blk_set (i := 2) (blk_set (i := 1) (blk_set (i := 0) hZ7.out (.int .i64 1)) (.string dt)) (.int .i64 0)) (.int .i64 0)) (.int .i64 0)) (.int .i64 0))
     go_wp2
     (try simp only [Exit.inBlock, Exit.then])
     refine bodyPost_ret (results_c rfl _ _ _ rfl (cn_load hfin.out)) rfl ?_
     refine ⟨rfl, ?_, ?_⟩
     ·exact blk_other (blk_other (blk_other (blk_other (blk_other (blk_other hR7.out _ _ hne2) _ _ hne2) _ _ hne2) _ _ hne2) _ _ hne2) _ _ hne2
     ·exact (((((hK7.out.setCell (a := ⟨zb, 0, none⟩) (.inr hle) _).setCell (a := ⟨zb, 1, none⟩) (.inr hle) _).setCell (a := ⟨zb, 2, none⟩) (.inr hle) _).setCell (a := ⟨zb, 3, none⟩) (.inr hle) _).setCell (a := ⟨zb, 4, none⟩) (.inr hle) _).setCell (a := ⟨zb, 5, none⟩) (.inr hle) _
   by_cases ht2 : t = 2
   ·subst ht2
    have hF := hHF.out
    rw [if_neg (by decide), if_pos rfl] at hF
    clear hHF
    have k8 := Lib.hid (fun W h => qnumber_any rb s1 e1 8 W h hs1 (by decide))
    generalize Sp.numR s1 e1 8 = N at *
    obtain ⟨v, s2, e2⟩ := N
    simp only [] at k8 hF
    injection hF with h1 h2
    injection h2 with h2 h3
    subst h1 h2 h3
    have kq := Lib.hid (k8.out _ hR.out)
    have hlq := blk_lt hC.out
    obtain ⟨d0, g0⟩ := blk_cell hC.out 0 _ rfl
    go_wp2_with fail
    refine kq.out.mono ?_
    rintro x w9 ⟨rfl, hRa, hKa⟩
    have hZ5 := Lib.hid (hKa.obj hZ.out (fun q => hne2 q.symm))
    have hC5 := Lib.hid (hKa.obj hC.out (fun q => hne1 q.symm))
    have hKb := hK.out.trans hKa
    obtain ⟨q1, p1⟩ := blk_cell hC5.out 2 _ rfl
    have hlc9 := blk_lt hC5.out
    have hR7 := Lib.hid (show Rq (w9.setCell ⟨cb, 2, none⟩ (.int .i64 v)) rb Fs Fe from blk_other hRa _ _ hne1)
    have hZ7 := Lib.hid (blk_other hZ5.out ⟨cb, 2, none⟩ (.int .i64 v) hne3)
    have hK7 := Lib.hid (hKb.setCell (a := ⟨cb, 2, none⟩) (.inr hle2) (.int .i64 v))
    clear hRa hKa hKb kq hR hZ hC hK hlq d0 g0
    obtain ⟨c0, c1, c2, c3, c4, c5⟩ := cells6m hC5.out
    obtain ⟨d0, d1, d2, d3, d4, d5⟩ := cells6m hZ5.out
    obtain ⟨f0, f1, f2, f3, f4, f5⟩ := frz6m hZ5.out
    have hlcc := blk_lt hC5.out
    have hlzz := blk_lt hZ5.out
    have hfin := Lib.hid (blk_set (i := 5) (blk_set (i := 4) (blk_set (i := 3) (blk_set (i := 2) (blk_set (i := 1) (blk_set (i := 0) hZ7.out (.int .i64 2)) (.string ⟨#[]⟩)) (.int .i64 v)) (.int .i64 0)) (.int .i64 0)) (.int .i64 0))
    go_wp2
    (try simp only [Exit.inBlock, Exit.then])
    refine bodyPost_ret (results_c rfl _ _ _ rfl (cn_load hfin.out)) rfl ?_
    refine ⟨rfl, ?_, ?_⟩
    ·exact blk_other (blk_other (blk_other (blk_other (blk_other (blk_other hR7.out _ _ hne2) _ _ hne2) _ _ hne2) _ _ hne2) _ _ hne2) _ _ hne2
    ·exact (((((hK7.out.setCell (a := ⟨zb, 0, none⟩) (.inr hle) _).setCell (a := ⟨zb, 1, none⟩) (.inr hle) _).setCell (a := ⟨zb, 2, none⟩) (.inr hle) _).setCell (a := ⟨zb, 3, none⟩) (.inr hle) _).setCell (a := ⟨zb, 4, none⟩) (.inr hle) _).setCell (a := ⟨zb, 5, none⟩) (.inr hle) _
   by_cases ht5 : t = 5 ∨ t = 6
   ·have hts := ht5
    have hF := hHF.out
    rw [if_neg ht1, if_neg ht2, if_neg (show ¬ (t = 3 ∨ t = 4 ∨ t = 7) by omega), if_pos ht5] at hF
    clear hHF ht1 ht2 ht5
    have k1 := Lib.hid (fun W h => qnumber_any rb s1 e1 2 W h hs1 (by decide))
    have hz2 := Sp.num_len s1 e1 2
    generalize Sp.numR s1 e1 2 = N at *
    obtain ⟨v, s2, e2⟩ := N
    simp only [] at k1 hF hz2
    have k2 := Lib.hid (fun W h => qnumber_any rb s2 e2 2 W h (by omega) (by decide))
    have hz3 := Sp.num_len s2 e2 2
    generalize Sp.numR s2 e2 2 = N at *
    obtain ⟨u, s3, e3⟩ := N
    simp only [] at k2 hF hz3
    have k3 := Lib.hid (fun W h => qnumber_any rb s3 e3 2 W h (by omega) (by decide))
    generalize Sp.numR s3 e3 2 = N at *
    obtain ⟨z, s4, e4⟩ := N
    simp only [] at k3 hF
    injection hF with h1 h2
    injection h2 with h2 h3
    subst h1 h2 h3
    rcases hts with rfl | rfl
    ·have hq0 : True := trivial
     have kq := Lib.hid (k1.out _ hR.out)
     have hlq := blk_lt hC.out
     obtain ⟨d0, g0⟩ := blk_cell hC.out 0 _ rfl
     go_wp2_with fail
     refine kq.out.mono ?_
     rintro x w13 ⟨rfl, hRa, hKa⟩
     have hZa := hKa.obj hZ.out (fun q => hne2 q.symm)
     have hCa := hKa.obj hC.out (fun q => hne1 q.symm)
     have hKb := hK.out.trans hKa
     obtain ⟨dd, ff⟩ := blk_cell hCa 3 _ rfl
     have hlc := blk_lt hCa
     have hR' := Lib.hid (show Rq (w13.setCell ⟨cb, 3, none⟩ (.int .i64 v)) rb s2 e2 from blk_other hRa _ _ hne1)
     have hZ' := Lib.hid (blk_other hZa ⟨cb, 3, none⟩ (.int .i64 v) hne3)
     have hC' := Lib.hid (show (w13.setCell ⟨cb, 3, none⟩ (.int .i64 v)).heap[cb]? = some (.cells #[.int .i64 5, .string ⟨#[]⟩, .int .i64 0, .int .i64 v, .int .i64 0, .int .i64 0] 145 (0, 0)) from blk_set (i := 3) hCa (.int .i64 v))
     have hK' := Lib.hid (hKb.setCell (a := ⟨cb, 3, none⟩) (.inr hle2) (.int .i64 v))
     clear hRa hKa hZa hCa hKb kq hR hZ hC hK hlq d0 g0
     go_upto_region 17 with fail
     clear dd ff hlc
     generalize w13.setCell ⟨cb, 3, none⟩ (.int .i64 v) = W13 at *
     have hR := hR'
     have hZ := hZ'
     have hC := hC'
     have hK := hK'
     clear hR' hZ' hC' hK'
     have kq := Lib.hid (k2.out _ hR.out)
     have hlq := blk_lt hC.out
     obtain ⟨d0, g0⟩ := blk_cell hC.out 0 _ rfl
     go_wp2_with fail
     refine kq.out.mono ?_
     rintro x w14 ⟨rfl, hRa, hKa⟩
     have hZa := hKa.obj hZ.out (fun q => hne2 q.symm)
     have hCa := hKa.obj hC.out (fun q => hne1 q.symm)
     have hKb := hK.out.trans hKa
     obtain ⟨dd, ff⟩ := blk_cell hCa 4 _ rfl
     have hlc := blk_lt hCa
     have hR' := Lib.hid (show Rq (w14.setCell ⟨cb, 4, none⟩ (.int .i64 u)) rb s3 e3 from blk_other hRa _ _ hne1)
     have hZ' := Lib.hid (blk_other hZa ⟨cb, 4, none⟩ (.int .i64 u) hne3)
     have hC' := Lib.hid (show (w14.setCell ⟨cb, 4, none⟩ (.int .i64 u)).heap[cb]? = some (.cells #[.int .i64 5, .string ⟨#[]⟩, .int .i64 0, .int .i64 v, .int .i64 u, .int .i64 0] 145 (0, 0)) from blk_set (i := 4) hCa (.int .i64 u))
     have hK' := Lib.hid (hKb.setCell (a := ⟨cb, 4, none⟩) (.inr hle2) (.int .i64 u))
     clear hRa hKa hZa hCa hKb kq hR hZ hC hK hlq d0 g0
     go_upto_region 18 with fail
     clear dd ff hlc
     generalize w14.setCell ⟨cb, 4, none⟩ (.int .i64 u) = W14 at *
     have hR := hR'
     have hZ := hZ'
     have hC := hC'
     have hK := hK'
     clear hR' hZ' hC' hK'
     have kq := Lib.hid (k3.out _ hR.out)
     have hlq := blk_lt hC.out
     obtain ⟨d0, g0⟩ := blk_cell hC.out 0 _ rfl
     go_wp2_with fail
     refine kq.out.mono ?_
     rintro x w9 ⟨rfl, hRa, hKa⟩
     have hZ5 := Lib.hid (hKa.obj hZ.out (fun q => hne2 q.symm))
     have hC5 := Lib.hid (hKa.obj hC.out (fun q => hne1 q.symm))
     have hKb := hK.out.trans hKa
     obtain ⟨q1, p1⟩ := blk_cell hC5.out 5 _ rfl
     have hlc9 := blk_lt hC5.out
     have hR7 := Lib.hid (show Rq (w9.setCell ⟨cb, 5, none⟩ (.int .i64 z)) rb Fs Fe from blk_other hRa _ _ hne1)
     have hZ7 := Lib.hid (blk_other hZ5.out ⟨cb, 5, none⟩ (.int .i64 z) hne3)
     have hK7 := Lib.hid (hKb.setCell (a := ⟨cb, 5, none⟩) (.inr hle2) (.int .i64 z))
     clear hRa hKa hKb kq hR hZ hC hK hlq d0 g0
     obtain ⟨c0, c1, c2, c3, c4, c5⟩ := cells6m hC5.out
     obtain ⟨d0, d1, d2, d3, d4, d5⟩ := cells6m hZ5.out
     obtain ⟨f0, f1, f2, f3, f4, f5⟩ := frz6m hZ5.out
     have hlcc := blk_lt hC5.out
     have hlzz := blk_lt hZ5.out
     have hfin := Lib.hid (blk_set (i := 5) (blk_set (i := 4) (blk_set (i := 3) (blk_set (i := 2) (blk_set (i := 1) (blk_set (i := 0) hZ7.out (.int .i64 5)) (.string ⟨#[]⟩)) (.int .i64 0)) (.int .i64 v)) (.int .i64 u)) (.int .i64 z))
     go_wp2
     (try simp only [Exit.inBlock, Exit.then])
     refine bodyPost_ret (results_c rfl _ _ _ rfl (cn_load hfin.out)) rfl ?_
     refine ⟨rfl, ?_, ?_⟩
     ·exact blk_other (blk_other (blk_other (blk_other (blk_other (blk_other hR7.out _ _ hne2) _ _ hne2) _ _ hne2) _ _ hne2) _ _ hne2) _ _ hne2
     ·exact (((((hK7.out.setCell (a := ⟨zb, 0, none⟩) (.inr hle) _).setCell (a := ⟨zb, 1, none⟩) (.inr hle) _).setCell (a := ⟨zb, 2, none⟩) (.inr hle) _).setCell (a := ⟨zb, 3, none⟩) (.inr hle) _).setCell (a := ⟨zb, 4, none⟩) (.inr hle) _).setCell (a := ⟨zb, 5, none⟩) (.inr hle) _
    ·have hq0 : True := trivial
     have kq := Lib.hid (k1.out _ hR.out)
     have hlq := blk_lt hC.out
     obtain ⟨d0, g0⟩ := blk_cell hC.out 0 _ rfl
     go_wp2_with fail
     refine kq.out.mono ?_
     rintro x w13 ⟨rfl, hRa, hKa⟩
     have hZa := hKa.obj hZ.out (fun q => hne2 q.symm)
     have hCa := hKa.obj hC.out (fun q => hne1 q.symm)
     have hKb := hK.out.trans hKa
     obtain ⟨dd, ff⟩ := blk_cell hCa 3 _ rfl
     have hlc := blk_lt hCa
     have hR' := Lib.hid (show Rq (w13.setCell ⟨cb, 3, none⟩ (.int .i64 v)) rb s2 e2 from blk_other hRa _ _ hne1)
     have hZ' := Lib.hid (blk_other hZa ⟨cb, 3, none⟩ (.int .i64 v) hne3)
     have hC' := Lib.hid (show (w13.setCell ⟨cb, 3, none⟩ (.int .i64 v)).heap[cb]? = some (.cells #[.int .i64 6, .string ⟨#[]⟩, .int .i64 0, .int .i64 v, .int .i64 0, .int .i64 0] 145 (0, 0)) from blk_set (i := 3) hCa (.int .i64 v))
     have hK' := Lib.hid (hKb.setCell (a := ⟨cb, 3, none⟩) (.inr hle2) (.int .i64 v))
     clear hRa hKa hZa hCa hKb kq hR hZ hC hK hlq d0 g0
     go_upto_region 17 with fail
     clear dd ff hlc
     generalize w13.setCell ⟨cb, 3, none⟩ (.int .i64 v) = W13 at *
     have hR := hR'
     have hZ := hZ'
     have hC := hC'
     have hK := hK'
     clear hR' hZ' hC' hK'
     have kq := Lib.hid (k2.out _ hR.out)
     have hlq := blk_lt hC.out
     obtain ⟨d0, g0⟩ := blk_cell hC.out 0 _ rfl
     go_wp2_with fail
     refine kq.out.mono ?_
     rintro x w14 ⟨rfl, hRa, hKa⟩
     have hZa := hKa.obj hZ.out (fun q => hne2 q.symm)
     have hCa := hKa.obj hC.out (fun q => hne1 q.symm)
     have hKb := hK.out.trans hKa
     obtain ⟨dd, ff⟩ := blk_cell hCa 4 _ rfl
     have hlc := blk_lt hCa
     have hR' := Lib.hid (show Rq (w14.setCell ⟨cb, 4, none⟩ (.int .i64 u)) rb s3 e3 from blk_other hRa _ _ hne1)
     have hZ' := Lib.hid (blk_other hZa ⟨cb, 4, none⟩ (.int .i64 u) hne3)
     have hC' := Lib.hid (show (w14.setCell ⟨cb, 4, none⟩ (.int .i64 u)).heap[cb]? = some (.cells #[.int .i64 6, .string ⟨#[]⟩, .int .i64 0, .int .i64 v, .int .i64 u, .int .i64 0] 145 (0, 0)) from blk_set (i := 4) hCa (.int .i64 u))
     have hK' := Lib.hid (hKb.setCell (a := ⟨cb, 4, none⟩) (.inr hle2) (.int .i64 u))
     clear hRa hKa hZa hCa hKb kq hR hZ hC hK hlq d0 g0
     go_upto_region 18 with fail
     clear dd ff hlc
     generalize w14.setCell ⟨cb, 4, none⟩ (.int .i64 u) = W14 at *
     have hR := hR'
     have hZ := hZ'
     have hC := hC'
     have hK := hK'
     clear hR' hZ' hC' hK'
     have kq := Lib.hid (k3.out _ hR.out)
     have hlq := blk_lt hC.out
     obtain ⟨d0, g0⟩ := blk_cell hC.out 0 _ rfl
     go_wp2_with fail
     refine kq.out.mono ?_
     rintro x w9 ⟨rfl, hRa, hKa⟩
     have hZ5 := Lib.hid (hKa.obj hZ.out (fun q => hne2 q.symm))
     have hC5 := Lib.hid (hKa.obj hC.out (fun q => hne1 q.symm))
     have hKb := hK.out.trans hKa
     obtain ⟨q1, p1⟩ := blk_cell hC5.out 5 _ rfl
     have hlc9 := blk_lt hC5.out
     have hR7 := Lib.hid (show Rq (w9.setCell ⟨cb, 5, none⟩ (.int .i64 z)) rb Fs Fe from blk_other hRa _ _ hne1)
     have hZ7 := Lib.hid (blk_other hZ5.out ⟨cb, 5, none⟩ (.int .i64 z) hne3)
     have hK7 := Lib.hid (hKb.setCell (a := ⟨cb, 5, none⟩) (.inr hle2) (.int .i64 z))
     clear hRa hKa hKb kq hR hZ hC hK hlq d0 g0
     obtain ⟨c0, c1, c2, c3, c4, c5⟩ := cells6m hC5.out
     obtain ⟨d0, d1, d2, d3, d4, d5⟩ := cells6m hZ5.out
     obtain ⟨f0, f1, f2, f3, f4, f5⟩ := frz6m hZ5.out
     have hlcc := blk_lt hC5.out
     have hlzz := blk_lt hZ5.out
     have hfin := Lib.hid (blk_set (i := 5) (blk_set (i := 4) (blk_set (i := 3) (blk_set (i := 2) (blk_set (i := 1) (blk_set (i := 0) hZ7.out (.int .i64 6)) (.string ⟨#[]⟩)) (.int .i64 0)) (.int .i64 v)) (.int .i64 u)) (.int .i64 z))
     go_wp2
     (try simp only [Exit.inBlock, Exit.then])
     refine bodyPost_ret (results_c rfl _ _ _ rfl (cn_load hfin.out)) rfl ?_
     refine ⟨rfl, ?_, ?_⟩
     ·exact blk_other (blk_other (blk_other (blk_other (blk_other (blk_other hR7.out _ _ hne2) _ _ hne2) _ _ hne2) _ _ hne2) _ _ hne2) _ _ hne2
     ·exact (((((hK7.out.setCell (a := ⟨zb, 0, none⟩) (.inr hle) _).setCell (a := ⟨zb, 1, none⟩) (.inr hle) _).setCell (a := ⟨zb, 2, none⟩) (.inr hle) _).setCell (a := ⟨zb, 3, none⟩) (.inr hle) _).setCell (a := ⟨zb, 4, none⟩) (.inr hle) _).setCell (a := ⟨zb, 5, none⟩) (.inr hle) _
   have hts : t = 3 ∨ t = 4 ∨ t = 7 := by omega
   have hF := hHF.out
   rw [if_neg ht1, if_neg ht2, if_pos hts] at hF
   clear hHF ht1 ht2 ht5
   have k1 := Lib.hid (fun W h => qnumber_any rb s1 e1 2 W h hs1 (by decide))
   generalize Sp.numR s1 e1 2 = N at *
   obtain ⟨v, s2, e2⟩ := N
   simp only [] at k1 hF
   injection hF with h1 h2
   injection h2 with h2 h3
   subst h1 h2 h3
   rcases hts with rfl | rfl | rfl
   ·have hq0 : True := trivial
    have kq := Lib.hid (k1.out _ hR.out)
    have hlq := blk_lt hC.out
    obtain ⟨d0, g0⟩ := blk_cell hC.out 0 _ rfl
    go_wp2_with fail
    refine kq.out.mono ?_
    rintro x w9 ⟨rfl, hRa, hKa⟩
    have hZ5 := Lib.hid (hKa.obj hZ.out (fun q => hne2 q.symm))
    have hC5 := Lib.hid (hKa.obj hC.out (fun q => hne1 q.symm))
    have hKb := hK.out.trans hKa
    obtain ⟨q1, p1⟩ := blk_cell hC5.out 3 _ rfl
    have hlc9 := blk_lt hC5.out
    have hR7 := Lib.hid (show Rq (w9.setCell ⟨cb, 3, none⟩ (.int .i64 v)) rb Fs Fe from blk_other hRa _ _ hne1)
    have hZ7 := Lib.hid (blk_other hZ5.out ⟨cb, 3, none⟩ (.int .i64 v) hne3)
    have hK7 := Lib.hid (hKb.setCell (a := ⟨cb, 3, none⟩) (.inr hle2) (.int .i64 v))
    clear hRa hKa hKb kq hR hZ hC hK hlq d0 g0
    obtain ⟨c0, c1, c2, c3, c4, c5⟩ := cells6m hC5.out
    obtain ⟨d0, d1, d2, d3, d4, d5⟩ := cells6m hZ5.out
    obtain ⟨f0, f1, f2, f3, f4, f5⟩ := frz6m hZ5.out
    have hlcc := blk_lt hC5.out
    have hlzz := blk_lt hZ5.out
    have hfin := Lib.hid (blk_set (i := 5) (blk_set (i := 4) (blk_set (i := 3) (blk_set (i := 2) (blk_set (i := 1) (blk_set (i := 0) hZ7.out (.int .i64 3)) (.string ⟨#[]⟩)) (.int .i64 0)) (.int .i64 v)) (.int .i64 0)) (.int .i64 0))
    go_wp2
    (try simp only [Exit.inBlock, Exit.then])
    refine bodyPost_ret (results_c rfl _ _ _ rfl (cn_load hfin.out)) rfl ?_
    refine ⟨rfl, ?_, ?_⟩
    ·exact blk_other (blk_other (blk_other (blk_other (blk_other (blk_other hR7.out _ _ hne2) _ _ hne2) _ _ hne2) _ _ hne2) _ _ hne2) _ _ hne2
    ·exact (((((hK7.out.setCell (a := ⟨zb, 0, none⟩) (.inr hle) _).setCell (a := ⟨zb, 1, none⟩) (.inr hle) _).setCell (a := ⟨zb, 2, none⟩) (.inr hle) _).setCell (a := ⟨zb, 3, none⟩) (.inr hle) _).setCell (a := ⟨zb, 4, none⟩) (.inr hle) _).setCell (a := ⟨zb, 5, none⟩) (.inr hle) _
   ·have hq0 : True := trivial
    have kq := Lib.hid (k1.out _ hR.out)
    have hlq := blk_lt hC.out
    obtain ⟨d0, g0⟩ := blk_cell hC.out 0 _ rfl
    go_wp2_with fail
    refine kq.out.mono ?_
    rintro x w9 ⟨rfl, hRa, hKa⟩
    have hZ5 := Lib.hid (hKa.obj hZ.out (fun q => hne2 q.symm))
    have hC5 := Lib.hid (hKa.obj hC.out (fun q => hne1 q.symm))
    have hKb := hK.out.trans hKa
    obtain ⟨q1, p1⟩ := blk_cell hC5.out 3 _ rfl
    have hlc9 := blk_lt hC5.out
    have hR7 := Lib.hid (show Rq (w9.setCell ⟨cb, 3, none⟩ (.int .i64 v)) rb Fs Fe from blk_other hRa _ _ hne1)
    have hZ7 := Lib.hid (blk_other hZ5.out ⟨cb, 3, none⟩ (.int .i64 v) hne3)
    have hK7 := Lib.hid (hKb.setCell (a := ⟨cb, 3, none⟩) (.inr hle2) (.int .i64 v))
    clear hRa hKa hKb kq hR hZ hC hK hlq d0 g0
    obtain ⟨c0, c1, c2, c3, c4, c5⟩ := cells6m hC5.out
    obtain ⟨d0, d1, d2, d3, d4, d5⟩ := cells6m hZ5.out
    obtain ⟨f0, f1, f2, f3, f4, f5⟩ := frz6m hZ5.out
    have hlcc := blk_lt hC5.out
    have hlzz := blk_lt hZ5.out
    have hfin := Lib.hid (blk_set (i := 5) (blk_set (i := 4) (blk_set (i := 3) (blk_set (i := 2) (blk_set (i := 1) (blk_set (i := 0) hZ7.out (.int .i64 4)) (.string ⟨#[]⟩)) (.int .i64 0)) (.int .i64 v)) (.int .i64 0)) (.int .i64 0))
    go_wp2
    (try simp only [Exit.inBlock, Exit.then])
    refine bodyPost_ret (results_c rfl _ _ _ rfl (cn_load hfin.out)) rfl ?_
    refine ⟨rfl, ?_, ?_⟩
    ·exact blk_other (blk_other (blk_other (blk_other (blk_other (blk_other hR7.out _ _ hne2) _ _ hne2) _ _ hne2) _ _ hne2) _ _ hne2) _ _ hne2
    ·exact (((((hK7.out.setCell (a := ⟨zb, 0, none⟩) (.inr hle) _).setCell (a := ⟨zb, 1, none⟩) (.inr hle) _).setCell (a := ⟨zb, 2, none⟩) (.inr hle) _).setCell (a := ⟨zb, 3, none⟩) (.inr hle) _).setCell (a := ⟨zb, 4, none⟩) (.inr hle) _).setCell (a := ⟨zb, 5, none⟩) (.inr hle) _
   ·have hq0 : True := trivial
    have kq := Lib.hid (k1.out _ hR.out)
    have hlq := blk_lt hC.out
    obtain ⟨d0, g0⟩ := blk_cell hC.out 0 _ rfl
    go_wp2_with fail
    refine kq.out.mono ?_
    rintro x w9 ⟨rfl, hRa, hKa⟩
    have hZ5 := Lib.hid (hKa.obj hZ.out (fun q => hne2 q.symm))
    have hC5 := Lib.hid (hKa.obj hC.out (fun q => hne1 q.symm))
    have hKb := hK.out.trans hKa
    obtain ⟨q1, p1⟩ := blk_cell hC5.out 3 _ rfl
    have hlc9 := blk_lt hC5.out
    have hR7 := Lib.hid (show Rq (w9.setCell ⟨cb, 3, none⟩ (.int .i64 v)) rb Fs Fe from blk_other hRa _ _ hne1)
    have hZ7 := Lib.hid (blk_other hZ5.out ⟨cb, 3, none⟩ (.int .i64 v) hne3)
    have hK7 := Lib.hid (hKb.setCell (a := ⟨cb, 3, none⟩) (.inr hle2) (.int .i64 v))
    clear hRa hKa hKb kq hR hZ hC hK hlq d0 g0
    obtain ⟨c0, c1, c2, c3, c4, c5⟩ := cells6m hC5.out
    obtain ⟨d0, d1, d2, d3, d4, d5⟩ := cells6m hZ5.out
    obtain ⟨f0, f1, f2, f3, f4, f5⟩ := frz6m hZ5.out
    have hlcc := blk_lt hC5.out
    have hlzz := blk_lt hZ5.out
    have hfin := Lib.hid (blk_set (i := 5) (blk_set (i := 4) (blk_set (i := 3) (blk_set (i := 2) (blk_set (i := 1) (blk_set (i := 0) hZ7.out (.int .i64 7)) (.string ⟨#[]⟩)) (.int .i64 0)) (.int .i64 v)) (.int .i64 0)) (.int .i64 0))
    go_wp2
    (try simp only [Exit.inBlock, Exit.then])
    refine bodyPost_ret (results_c rfl _ _ _ rfl (cn_load hfin.out)) rfl ?_
    refine ⟨rfl, ?_, ?_⟩
    ·exact blk_other (blk_other (blk_other (blk_other (blk_other (blk_other hR7.out _ _ hne2) _ _ hne2) _ _ hne2) _ _ hne2) _ _ hne2) _ _ hne2
    ·exact (((((hK7.out.setCell (a := ⟨zb, 0, none⟩) (.inr hle) _).setCell (a := ⟨zb, 1, none⟩) (.inr hle) _).setCell (a := ⟨zb, 2, none⟩) (.inr hle) _).setCell (a := ⟨zb, 3, none⟩) (.inr hle) _).setCell (a := ⟨zb, 4, none⟩) (.inr hle) _).setCell (a := ⟨zb, 5, none⟩) (.inr hle) _
end Go.Proofs.YtjjlcoimaihdoaaGreatDoor
