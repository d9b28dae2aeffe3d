/-
  Walks of the reference's unit and Decode.
-/
import Derived.Test.YtkppjehpfjalbaaDoorMwRmake
set_option linter.unusedVariables false
set_option linter.unusedSimpArgs false
namespace Go.Proofs.YtkppjehpfjalbaaDoor
open Go.RowKit Go.Lib

namespace Sp
def refUnit (s : ByteArray) : Int :=
  if s.size < 3 ∨ ¬ (224 ≤ bt s 0 ∧ bt s 0 < 240) ∨ ¬ (128 ≤ bt s 1 ∧ bt s 1 < 192) ∨ ¬ (128 ≤ bt s 2 ∧ bt s 2 < 192) then -1
  else if (bt s 0 - 224) * 4096 + (bt s 1 - 128) * 64 + bt s 2 - 128 < 2048 then -1
  else (bt s 0 - 224) * 4096 + (bt s 1 - 128) * 64 + bt s 2 - 128
theorem refUnit_range (s : ByteArray) : -1 ≤ refUnit s ∧ refUnit s ≤ 65535 ∧ (0 ≤ refUnit s → 3 ≤ s.size ∧ 224 ≤ bt s 0) := by
  have := bt_range s 0; have := bt_range s 1; have := bt_range s 2
  unfold refUnit
  repeat' split
  all_goals omega
def refStep (b : ByteArray) : Int × Nat :=
  if 1 ≤ bt b 0 ∧ bt b 0 < 128 then (bt b 0, 1)
  else if 192 ≤ bt b 0 ∧ bt b 0 < 224 then
    if 1 < b.size ∧ 128 ≤ bt b 1 ∧ bt b 1 < 192 then
      if 1 ≤ (bt b 0 - 192) * 64 + bt b 1 - 128 ∧ (bt b 0 - 192) * 64 + bt b 1 - 128 < 128 then (-1, 2) else ((bt b 0 - 192) * 64 + bt b 1 - 128, 2)
    else (-1, 1)
  else if 55296 ≤ refUnit b ∧ refUnit b < 56320 then
    if 56320 ≤ refUnit (b.extract 3 b.size) ∧ refUnit (b.extract 3 b.size) < 57344 then (65536 + (refUnit b - 55296) * 1024 + refUnit (b.extract 3 b.size) - 56320, 6) else (-1, 1)
  else if 0 ≤ refUnit b ∧ (refUnit b < 56320 ∨ 57344 ≤ refUnit b) then (refUnit b, 3)
  else (-1, 1)
def refDecG : Nat → ByteArray → List Int → Option (List Int)
  | 0, _, _ => none
  | f + 1, b, acc =>
    if b.size = 0 then some acc
    else if (refStep b).1 < 0 then none
    else refDecG f (b.extract (refStep b).2 b.size) (acc ++ [(refStep b).1])
def refDecS (b : ByteArray) : ByteArray × Int :=
  if 65535 < b.size then (⟨#[]⟩, 2)
  else match refDecG (b.size + 1) b [] with
    | none => (⟨#[]⟩, 4)
    | some l => ((refMakeS l).1, 0)
end Sp

set_option maxHeartbeats 4000000 in
theorem refUnit_any (s : ByteArray) (w : World) (hs : s.size ≤ 140737488351232) :
    Calls Tryd.prog 52 #[.string s] w fun e w' => e = .returned (.int .i64 (Sp.refUnit s)) ∧ Below w.heap.size w w' := by
  have r0 := Sp.bt_range s 0; have r1 := Sp.bt_range s 1; have r2 := Sp.bt_range s 2
  have HE := Lib.hid (show Sp.refUnit s = _ by rw [Sp.refUnit])
  generalize Sp.refUnit s = R at HE ⊢
  by_cases hn : s.size < 3
  · have hR : Hid (R = -1) := Lib.hid (by rw [HE.out, if_pos (.inl hn)])
    have hnz : (s.size : Int) < 3 := by omega
    clear HE
    go_enter Tryd.func52, Tryd.ntmps52
    go_wp2
    go_ret
    exact ⟨by rw [hR.out]; rfl, Below.refl _ _⟩
  have hnz : ¬ (s.size : Int) < 3 := by omega
  have i0 : ∀ W : World, (Instr.index 9 (.string s) (.int .i64 0)).run Tryd.prog W = .ok (.int .u8 (Sp.bt s 0)) W := idx_str s 0 (by omega)
  have i1 : ∀ W : World, (Instr.index 9 (.string s) (.int .i64 1)).run Tryd.prog W = .ok (.int .u8 (Sp.bt s 1)) W := idx_str s 1 (by omega)
  have i2 : ∀ W : World, (Instr.index 9 (.string s) (.int .i64 2)).run Tryd.prog W = .ok (.int .u8 (Sp.bt s 2)) W := idx_str s 2 (by omega)
  have l0 : (0 : Int) < (s.size : Int) := by omega
  have l1 : (1 : Int) < (s.size : Int) := by omega
  have l2 : (2 : Int) < (s.size : Int) := by omega
  generalize Sp.bt s 0 = a at *
  generalize Sp.bt s 1 = b at *
  generalize Sp.bt s 2 = c at *
  by_cases hbad : a < 224 ∨ 240 ≤ a ∨ b < 128 ∨ 192 ≤ b ∨ c < 128 ∨ 192 ≤ c
  · have hR : Hid (R = -1) := Lib.hid (by rw [HE.out, if_pos (by omega)])
    clear HE
    go_enter Tryd.func52, Tryd.ntmps52
    by_cases c1 : a < 224
    · clear hbad
      go_wp2
      go_ret
      exact ⟨by rw [hR.out]; rfl, Below.refl _ _⟩
    by_cases c2 : 240 ≤ a
    · clear hbad
      go_wp2
      go_ret
      exact ⟨by rw [hR.out]; rfl, Below.refl _ _⟩
    by_cases c3 : b < 128
    · clear hbad
      go_wp2
      go_ret
      exact ⟨by rw [hR.out]; rfl, Below.refl _ _⟩
    by_cases c4 : 192 ≤ b
    · clear hbad
      go_wp2
      go_ret
      exact ⟨by rw [hR.out]; rfl, Below.refl _ _⟩
    by_cases c5 : c < 128
    · clear hbad
      go_wp2
      go_ret
      exact ⟨by rw [hR.out]; rfl, Below.refl _ _⟩
    have c6 : 192 ≤ c := by omega
    clear hbad
    go_wp2
    go_ret
    exact ⟨by rw [hR.out]; rfl, Below.refl _ _⟩
  have c1 : ¬ a < 224 := by omega
  have c2 : ¬ 240 ≤ a := by omega
  have c3 : ¬ b < 128 := by omega
  have c4 : ¬ 192 ≤ b := by omega
  have c5 : ¬ c < 128 := by omega
  have c6 : ¬ 192 ≤ c := by omega
  have hR0 : Hid (R = if (a - 224) * 4096 + (b - 128) * 64 + c - 128 < 2048 then -1 else (a - 224) * 4096 + (b - 128) * 64 + c - 128) := Lib.hid (by rw [HE.out, if_neg (by omega)])
  clear HE hbad
  go_enter Tryd.func52, Tryd.ntmps52
  by_cases hlo : (a - 224) * 4096 + (b - 128) * 64 + c - 128 < 2048
  · have hR : Hid (R = -1) := Lib.hid (by rw [hR0.out, if_pos hlo])
    clear hR0
    go_wp2
    go_quiet (fail)
    go_wp2
    go_ret
    exact ⟨by rw [hR.out]; rfl, below_drewNv (Below.refl _ _) _⟩
  · have hR : Hid (R = (a - 224) * 4096 + (b - 128) * 64 + c - 128) := Lib.hid (by rw [hR0.out, if_neg hlo])
    clear hR0
    go_wp2
    go_quiet (fail)
    go_wp2
    go_ret
    exact ⟨by rw [hR.out]; rfl, below_drewNv (Below.refl _ _) _⟩
theorem refStep_range (b : ByteArray) (h : 0 < b.size) : (0 ≤ (Sp.refStep b).1 → (Sp.refStep b).2 ≤ b.size) ∧ 1 ≤ (Sp.refStep b).2 ∧ (Sp.refStep b).1 ≤ 2000000 ∧ -1 ≤ (Sp.refStep b).1 := by
  have := Sp.bt_range b 0; have := Sp.bt_range b 1
  have hu := Sp.refUnit_range b
  have hv := Sp.refUnit_range (b.extract 3 b.size)
  have hx : (b.extract 3 b.size).size = b.size - 3 := by simp
  unfold Sp.refStep
  repeat' split
  all_goals simp only []
  all_goals omega

set_option maxHeartbeats 16000000 in
set_option maxRecDepth 100000 in
theorem refDecode_any (b : ByteArray) (w : World) (hs : b.size ≤ 140737488351232) :
    Calls Tryd.prog 34 #[.string b] w fun e w' => e = .returned (.tuple #[.string (Sp.refDecS b).1, .int .i64 (Sp.refDecS b).2]) ∧ Below w.heap.size w w' := by
  obtain ⟨i0, hi, hz0, hz1, hz2⟩ := info_parts infoInt
  by_cases hlong : 65535 < b.size
  · have hz : (65535 : Int) < (b.size : Int) := by omega
    have hv : Sp.refDecS b = (⟨#[]⟩, 2) := by rw [Sp.refDecS, if_pos hlong]
    rw [hv]
    go_enter Tryd.func34, Tryd.ntmps34
    go_wp2
    go_ret2
    exact ⟨rfl, Below.refl _ _⟩
  have hz : ¬ ((65535 : Int) < (b.size : Int)) := by omega
  have hv := Lib.hid (show Sp.refDecS b = match Sp.refDecG (b.size + 1) b [] with | none => (⟨#[]⟩, 4) | some l => ((Sp.refMakeS l).1, 0) by rw [Sp.refDecS, if_neg hlong])
  generalize Sp.refDecS b = R at hv ⊢
  go_enter Tryd.func34, Tryd.ntmps34
  go_wp2
  go_loopw [0, 4] (fun v0 v4 wr => ∃ (s : ByteArray) (f : Nat) (acc : List Int), v0 = .string s ∧ Hid (Sp.refDecG (b.size + 1) b [] = Sp.refDecG f s acc) ∧ s.size < f ∧ s.size ≤ b.size ∧ acc.length + s.size ≤ b.size ∧ wr.ownsRow w.heap.size 3 1 v4 acc.length (numk .i64 acc) ∧ Below w.heap.size w wr) (fun v0 _ _ => (strOf v0).size)
  case atStart => exact ⟨b, b.size + 1, [], rfl, Lib.hid rfl, by omega, by omega, by simp, ⟨by simp [numk], .inl ⟨rfl, rfl⟩⟩, Below.refl _ _⟩
  case round =>
    obtain ⟨s, f, acc, rfl, hd, hf, hsb, hal, hown, hbw⟩ := hrel
    obtain ⟨g, rfl⟩ : ∃ g, f = g + 1 := ⟨f - 1, by omega⟩
    have hsz := hbw.size
    by_cases h0 : s.size = 0
    · have hR : Hid (R = ((Sp.refMakeS acc).1, 0)) := Lib.hid (by rw [hv.out, hd.out, Sp.refDecG, if_pos h0])
      have hnz : ¬ (0 : Int) < (s.size : Int) := by omega
      obtain ⟨A2, c2, rfl⟩ := own_slice hown
      have hM := Lib.hid (refMake_any A2 c2 acc wr (own_rdN hown).2 (by omega))
      generalize Sp.refMakeS acc = M at hM hR
      clear hv hd h0
      go_wp2_with fail
      refine hM.out.mono ?_
      rintro e w2 ⟨rfl, hb2⟩
      go_wp2
      go_ret2
      exact ⟨by rw [hR.out]; rfl, below_then hbw hsz hb2⟩
    have hpos : 0 < s.size := by omega
    have hpz : (0 : Int) < (s.size : Int) := by omega
    have hd' := Lib.hid (show Sp.refDecG (b.size + 1) b [] = if (Sp.refStep s).1 < 0 then none else Sp.refDecG g (s.extract (Sp.refStep s).2 s.size) (acc ++ [(Sp.refStep s).1]) by rw [hd.out, Sp.refDecG, if_neg h0])
    clear hd h0
    have hst := refStep_range s hpos
    have HS := Lib.hid (show Sp.refStep s = _ by rw [Sp.refStep])
    have hu := Lib.hid (refUnit_any s wr (by omega))
    have hur := Sp.refUnit_range s
    have ix0 : ∀ W : World, (Instr.index 9 (.string s) (.int .i64 0)).run Tryd.prog W = .ok (.int .u8 (Sp.bt s 0)) W := idx_str s 0 hpos
    have hc := Sp.bt_range s 0
    generalize Sp.refStep s = q at hd' hst HS
    obtain ⟨r, n⟩ := q
    simp only at hd' hst
    generalize Sp.refUnit s = u at HS hu hur
    generalize Sp.bt s 0 = c at HS ix0 hc hur
    go_wp2_with fail
    refine hu.out.mono ?_
    rintro e w1 ⟨rfl, hb1⟩
    clear hu
    have hown1 := hown.kept (w' := w1) (row := none) ⟨hb1.os, hb1.tape, hb1.output, hb1.size, fun i hi _ => hb1.block i hi⟩ (by cases u4.ownBlock <;> simp)
    have hbw1 := below_then hbw hsz hb1
    have hsz1 := hbw1.size
    clear hown hb1 hbw hsz
    by_cases c1 : 1 ≤ c ∧ c < 128
    · have e := HS.out
      rw [if_pos c1] at e
      injection e with er en
      subst er; subst en
      clear HS
      obtain ⟨ca, cb⟩ := c1
      have ca' : 0 < r := by omega
      have hd2 := Lib.hid (show Sp.refDecG (b.size + 1) b [] = Sp.refDecG g (s.extract 1 s.size) (acc ++ [r]) by rw [hd'.out, if_neg (by omega)])
      clear hd'
      go_wp2_with (at_builtin; refine wpList_append_own _ rfl _ _ 30 rfl w.heap.size 3 i0 (.int .i64 0) 1 8 Tryd.underlying30 hi hz0 hz1 hz2 rfl (by decide) _ _ _ rfl (hown1.alloc _) ⟨w1.heap.size, 0, none⟩ 1 1 (numk .i64 [r]) rfl rfl ?c1 ?c2 ?c3 ?c4 ?c5 ?_)
      case c1 =>
        intro j u hj
        match j, hj with
        | 0, hj => simp [numk] at hj; subst hj; simp [Addr.add]
        | (j + 1), hj => simp [numk] at hj
      case c2 => intro u hu; simp [numk] at hu; subst hu; rfl
      case c3 => unfold maxLen; omega
      case c4 => omega
      case c5 => first | omega | (simp; omega)
      intro v' w3 hown' hgrow _
      have hb3 := (hbw1.alloc (by have := hbw1.size; omega) _).grown hgrow (by have := hbw1.size; simp; omega) (fun q hq => own_base hown1 q hq)
      go_wp2
      go_roundw
      case rel =>
        have hx : (s.extract 1 s.size).size = s.size - 1 := by simp
        exact ⟨s.extract 1 s.size, g, acc ++ [r], rfl, Lib.hid hd2.out, by omega, by omega, by simp; omega, by rw [List.length_append, numk_append]; exact hown', hb3⟩
      case measure =>
        have hx : (s.extract 1 s.size).size = s.size - 1 := by simp
        simp only [strOf]; omega
    have HS2 := Lib.hid (show (r, n) = _ by rw [HS.out, if_neg c1])
    clear HS
    have c1' : c < 1 ∨ 128 ≤ c := by omega
    by_cases c2 : 192 ≤ c ∧ c < 224
    · have HS3 := Lib.hid (show (r, n) = _ by rw [HS2.out, if_pos c2])
      clear HS2
      obtain ⟨ca, cb⟩ := c2
      have cc : 1 ≤ c := by omega
      have cd : ¬ c < 128 := by omega
      clear c1
      by_cases hs1 : 1 < s.size
      · have hs1z : (1 : Int) < (s.size : Int) := by omega
        have ix1 : ∀ W : World, (Instr.index 9 (.string s) (.int .i64 1)).run Tryd.prog W = .ok (.int .u8 (Sp.bt s 1)) W := idx_str s 1 hs1
        have hx1 := Sp.bt_range s 1
        generalize Sp.bt s 1 = x at HS3 ix1 hx1
        by_cases cx : 128 ≤ x ∧ x < 192
        · have HS4 := Lib.hid (show (r, n) = _ by rw [HS3.out, if_pos ⟨hs1, cx.1, cx.2⟩])
          clear HS3
          obtain ⟨cxa, cxb⟩ := cx
          by_cases cr : 1 ≤ (c - 192) * 64 + x - 128 ∧ (c - 192) * 64 + x - 128 < 128
          · have e := HS4.out
            rw [if_pos cr] at e
            injection e with er en
            subst er; subst en
            clear HS4
            obtain ⟨cra, crb⟩ := cr
            have hR : Hid (R = (⟨#[]⟩, 4)) := Lib.hid (by rw [hv.out, hd'.out, if_pos (by omega)])
            clear hv hd'
            go_wp2
            go_ret2
            exact ⟨by rw [hR.out]; rfl, hbw1⟩
          · have e := HS4.out
            rw [if_neg cr] at e
            injection e with er en
            have er' := Lib.hid er
            subst en
            clear HS4 er
            have cr' : (c - 192) * 64 + x - 128 < 1 ∨ 128 ≤ (c - 192) * 64 + x - 128 := by omega
            have hr0 : 0 ≤ (c - 192) * 64 + x - 128 := by omega
            rw [er'.out] at hd' hst
            by_cases cr1 : (c - 192) * 64 + x - 128 < 1
            · clear cr cr'
              have hd2 := Lib.hid (show Sp.refDecG (b.size + 1) b [] = Sp.refDecG g (s.extract 2 s.size) (acc ++ [((c - 192) * 64 + x - 128)]) by rw [hd'.out, if_neg (by omega)])
              clear hd'
              go_wp2_with (at_builtin; refine wpList_append_own _ rfl _ _ 30 rfl w.heap.size 3 i0 (.int .i64 0) 1 8 Tryd.underlying30 hi hz0 hz1 hz2 rfl (by decide) _ _ _ rfl (hown1.alloc _) ⟨w1.heap.size, 0, none⟩ 1 1 (numk .i64 [((c - 192) * 64 + x - 128)]) rfl rfl ?c1 ?c2 ?c3 ?c4 ?c5 ?_)
              case c1 =>
                intro j u hj
                match j, hj with
                | 0, hj => simp [numk] at hj; subst hj; simp [Addr.add]
                | (j + 1), hj => simp [numk] at hj
              case c2 => intro u hu; simp [numk] at hu; subst hu; rfl
              case c3 => unfold maxLen; omega
              case c4 => omega
              case c5 => first | omega | (simp; omega)
              intro v' w3 hown' hgrow _
              have hb3 := (hbw1.alloc (by have := hbw1.size; omega) _).grown hgrow (by have := hbw1.size; simp; omega) (fun q hq => own_base hown1 q hq)
              go_wp2
              go_roundw
              case rel =>
                have hx : (s.extract 2 s.size).size = s.size - 2 := by simp
                exact ⟨s.extract 2 s.size, g, acc ++ [((c - 192) * 64 + x - 128)], rfl, Lib.hid hd2.out, by omega, by omega, by simp; omega, by rw [List.length_append, numk_append]; exact hown', hb3⟩
              case measure =>
                have hx : (s.extract 2 s.size).size = s.size - 2 := by simp
                simp only [strOf]; omega
            · have cr2 : ¬ (c - 192) * 64 + x - 128 < 128 := by omega
              have cr3 : 1 ≤ (c - 192) * 64 + x - 128 := by omega
              clear cr cr'
              have hd2 := Lib.hid (show Sp.refDecG (b.size + 1) b [] = Sp.refDecG g (s.extract 2 s.size) (acc ++ [((c - 192) * 64 + x - 128)]) by rw [hd'.out, if_neg (by omega)])
              clear hd'
              go_wp2_with (at_builtin; refine wpList_append_own _ rfl _ _ 30 rfl w.heap.size 3 i0 (.int .i64 0) 1 8 Tryd.underlying30 hi hz0 hz1 hz2 rfl (by decide) _ _ _ rfl (hown1.alloc _) ⟨w1.heap.size, 0, none⟩ 1 1 (numk .i64 [((c - 192) * 64 + x - 128)]) rfl rfl ?c1 ?c2 ?c3 ?c4 ?c5 ?_)
              case c1 =>
                intro j u hj
                match j, hj with
                | 0, hj => simp [numk] at hj; subst hj; simp [Addr.add]
                | (j + 1), hj => simp [numk] at hj
              case c2 => intro u hu; simp [numk] at hu; subst hu; rfl
              case c3 => unfold maxLen; omega
              case c4 => omega
              case c5 => first | omega | (simp; omega)
              intro v' w3 hown' hgrow _
              have hb3 := (hbw1.alloc (by have := hbw1.size; omega) _).grown hgrow (by have := hbw1.size; simp; omega) (fun q hq => own_base hown1 q hq)
              go_wp2
              go_roundw
              case rel =>
                have hx : (s.extract 2 s.size).size = s.size - 2 := by simp
                exact ⟨s.extract 2 s.size, g, acc ++ [((c - 192) * 64 + x - 128)], rfl, Lib.hid hd2.out, by omega, by omega, by simp; omega, by rw [List.length_append, numk_append]; exact hown', hb3⟩
              case measure =>
                have hx : (s.extract 2 s.size).size = s.size - 2 := by simp
                simp only [strOf]; omega
        · have e := HS3.out
          rw [if_neg (by omega)] at e
          injection e with er en
          subst er; subst en
          clear HS3
          by_cases cx1 : x < 128
          · clear cx
            have hR : Hid (R = (⟨#[]⟩, 4)) := Lib.hid (by rw [hv.out, hd'.out, if_pos (by omega)])
            clear hv hd'
            go_wp2
            go_ret2
            exact ⟨by rw [hR.out]; rfl, hbw1⟩
          · have cx2 : 192 ≤ x := by omega
            have cx3 : 128 ≤ x := by omega
            clear cx
            have hR : Hid (R = (⟨#[]⟩, 4)) := Lib.hid (by rw [hv.out, hd'.out, if_pos (by omega)])
            clear hv hd'
            go_wp2
            go_ret2
            exact ⟨by rw [hR.out]; rfl, hbw1⟩
      · have hs1z : ¬ (1 : Int) < (s.size : Int) := by omega
        have e := HS3.out
        rw [if_neg (by omega)] at e
        injection e with er en
        subst er; subst en
        clear HS3
        have hR : Hid (R = (⟨#[]⟩, 4)) := Lib.hid (by rw [hv.out, hd'.out, if_pos (by omega)])
        clear hv hd'
        go_wp2
        go_ret2
        exact ⟨by rw [hR.out]; rfl, hbw1⟩
    have HS3 := Lib.hid (show (r, n) = _ by rw [HS2.out, if_neg c2])
    clear HS2
    have c2' : c < 192 ∨ 224 ≤ c := by omega
    by_cases cu : 55296 ≤ u ∧ u < 56320
    · have HS4 := Lib.hid (show (r, n) = _ by rw [HS3.out, if_pos cu])
      clear HS3
      obtain ⟨cua, cub⟩ := cu
      have hur3 := hur.2.2 (by omega)
      have cc : 224 ≤ c := hur3.2
      have hs3 : 3 ≤ s.size := hur3.1
      clear c1 c2 c1' c2' hur hur3
      have hv2 := Lib.hid (fun W => refUnit_any (s.extract 3 s.size) W (by simp; omega))
      have hvr := Sp.refUnit_range (s.extract 3 s.size)
      have hxs : (s.extract 3 s.size).size = s.size - 3 := by simp
      have hvr3 := hvr.2.2
      rw [hxs] at hvr3
      clear hxs hvr
      generalize Sp.refUnit (s.extract 3 s.size) = v at HS4 hv2 hvr3
      go_wp2_with fail
      refine (hv2.out w1).mono ?_
      rintro e w2 ⟨rfl, hb2⟩
      clear hv2
      have hown2 := hown1.kept (w' := w2) (row := none) ⟨hb2.os, hb2.tape, hb2.output, hb2.size, fun i hi _ => hb2.block i hi⟩ (by cases u4.ownBlock <;> simp)
      have hbw2 := below_then hbw1 hsz1 hb2
      have hsz2 := hbw2.size
      clear hown1 hb2 hbw1 hsz1
      by_cases cv : 56320 ≤ v ∧ v < 57344
      · have e := HS4.out
        rw [if_pos cv] at e
        injection e with er en
        have er' := Lib.hid er
        subst en
        clear HS4 er
        obtain ⟨cva, cvb⟩ := cv
        have hs6 : 6 ≤ s.size := by have := (hvr3 (by omega)).1; omega
        rw [er'.out] at hd' hst
        clear hvr3
        have hd2 := Lib.hid (show Sp.refDecG (b.size + 1) b [] = Sp.refDecG g (s.extract 6 s.size) (acc ++ [(65536 + (u - 55296) * 1024 + v - 56320)]) by rw [hd'.out, if_neg (by omega)])
        clear hd'
        go_wp2_with (at_builtin; refine wpList_append_own _ rfl _ _ 30 rfl w.heap.size 3 i0 (.int .i64 0) 1 8 Tryd.underlying30 hi hz0 hz1 hz2 rfl (by decide) _ _ _ rfl (hown2.alloc _) ⟨w2.heap.size, 0, none⟩ 1 1 (numk .i64 [(65536 + (u - 55296) * 1024 + v - 56320)]) rfl rfl ?c1 ?c2 ?c3 ?c4 ?c5 ?_)
        case c1 =>
          intro j u hj
          match j, hj with
          | 0, hj => simp [numk] at hj; subst hj; simp [Addr.add]
          | (j + 1), hj => simp [numk] at hj
        case c2 => intro u hu; simp [numk] at hu; subst hu; rfl
        case c3 => unfold maxLen; omega
        case c4 => omega
        case c5 => first | omega | (simp; omega)
        intro v' w3 hown' hgrow _
        have hb3 := (hbw2.alloc (by have := hbw2.size; omega) _).grown hgrow (by have := hbw2.size; simp; omega) (fun q hq => own_base hown2 q hq)
        go_wp2
        go_roundw
        case rel =>
          have hx : (s.extract 6 s.size).size = s.size - 6 := by simp
          exact ⟨s.extract 6 s.size, g, acc ++ [(65536 + (u - 55296) * 1024 + v - 56320)], rfl, Lib.hid hd2.out, by omega, by omega, by simp; omega, by rw [List.length_append, numk_append]; exact hown', hb3⟩
        case measure =>
          have hx : (s.extract 6 s.size).size = s.size - 6 := by simp
          simp only [strOf]; omega
      · have e := HS4.out
        rw [if_neg cv] at e
        injection e with er en
        subst er; subst en
        clear HS4 hvr3
        by_cases cv1 : v < 56320
        · clear cv
          have hR : Hid (R = (⟨#[]⟩, 4)) := Lib.hid (by rw [hv.out, hd'.out, if_pos (by omega)])
          clear hv hd'
          go_wp2
          go_ret2
          exact ⟨by rw [hR.out]; rfl, hbw2⟩
        · have cv2 : 57344 ≤ v := by omega
          have cv3 : 56320 ≤ v := by omega
          clear cv
          have hR : Hid (R = (⟨#[]⟩, 4)) := Lib.hid (by rw [hv.out, hd'.out, if_pos (by omega)])
          clear hv hd'
          go_wp2
          go_ret2
          exact ⟨by rw [hR.out]; rfl, hbw2⟩
    have HS4 := Lib.hid (show (r, n) = _ by rw [HS3.out, if_neg cu])
    clear HS3
    by_cases cg : 0 ≤ u ∧ (u < 56320 ∨ 57344 ≤ u)
    · have e := HS4.out
      rw [if_pos cg] at e
      injection e with er en
      subst en
      clear HS4
      have hur3 := hur.2.2 (by omega)
      have cc : 224 ≤ c := hur3.2
      have hs3 : 3 ≤ s.size := hur3.1
      have cga : 0 ≤ u := by omega
      have er' := Lib.hid er
      rw [er] at hd' hst
      clear er
      clear c1 c2 c1' c2' hur hur3
      by_cases cl : u < 55296
      · have cl2 : u < 56320 := by omega
        clear cg cu
        have hd2 := Lib.hid (show Sp.refDecG (b.size + 1) b [] = Sp.refDecG g (s.extract 3 s.size) (acc ++ [u]) by rw [hd'.out, if_neg (by omega)])
        clear hd'
        go_wp2_with (at_builtin; refine wpList_append_own _ rfl _ _ 30 rfl w.heap.size 3 i0 (.int .i64 0) 1 8 Tryd.underlying30 hi hz0 hz1 hz2 rfl (by decide) _ _ _ rfl (hown1.alloc _) ⟨w1.heap.size, 0, none⟩ 1 1 (numk .i64 [u]) rfl rfl ?c1 ?c2 ?c3 ?c4 ?c5 ?_)
        case c1 =>
          intro j u hj
          match j, hj with
          | 0, hj => simp [numk] at hj; subst hj; simp [Addr.add]
          | (j + 1), hj => simp [numk] at hj
        case c2 => intro u hu; simp [numk] at hu; subst hu; rfl
        case c3 => unfold maxLen; omega
        case c4 => omega
        case c5 => first | omega | (simp; omega)
        intro v' w3 hown' hgrow _
        have hb3 := (hbw1.alloc (by have := hbw1.size; omega) _).grown hgrow (by have := hbw1.size; simp; omega) (fun q hq => own_base hown1 q hq)
        go_wp2
        go_roundw
        case rel =>
          have hx : (s.extract 3 s.size).size = s.size - 3 := by simp
          exact ⟨s.extract 3 s.size, g, acc ++ [u], rfl, Lib.hid hd2.out, by omega, by omega, by simp; omega, by rw [List.length_append, numk_append]; exact hown', hb3⟩
        case measure =>
          have hx : (s.extract 3 s.size).size = s.size - 3 := by simp
          simp only [strOf]; omega
      · have cl2 : 57344 ≤ u := by omega
        have cl3 : 55296 ≤ u := by omega
        have cl4 : ¬ u < 56320 := by omega
        clear cg cu cl
        have hd2 := Lib.hid (show Sp.refDecG (b.size + 1) b [] = Sp.refDecG g (s.extract 3 s.size) (acc ++ [u]) by rw [hd'.out, if_neg (by omega)])
        clear hd'
        go_wp2_with (at_builtin; refine wpList_append_own _ rfl _ _ 30 rfl w.heap.size 3 i0 (.int .i64 0) 1 8 Tryd.underlying30 hi hz0 hz1 hz2 rfl (by decide) _ _ _ rfl (hown1.alloc _) ⟨w1.heap.size, 0, none⟩ 1 1 (numk .i64 [u]) rfl rfl ?c1 ?c2 ?c3 ?c4 ?c5 ?_)
        case c1 =>
          intro j u hj
          match j, hj with
          | 0, hj => simp [numk] at hj; subst hj; simp [Addr.add]
          | (j + 1), hj => simp [numk] at hj
        case c2 => intro u hu; simp [numk] at hu; subst hu; rfl
        case c3 => unfold maxLen; omega
        case c4 => omega
        case c5 => first | omega | (simp; omega)
        intro v' w3 hown' hgrow _
        have hb3 := (hbw1.alloc (by have := hbw1.size; omega) _).grown hgrow (by have := hbw1.size; simp; omega) (fun q hq => own_base hown1 q hq)
        go_wp2
        go_roundw
        case rel =>
          have hx : (s.extract 3 s.size).size = s.size - 3 := by simp
          exact ⟨s.extract 3 s.size, g, acc ++ [u], rfl, Lib.hid hd2.out, by omega, by omega, by simp; omega, by rw [List.length_append, numk_append]; exact hown', hb3⟩
        case measure =>
          have hx : (s.extract 3 s.size).size = s.size - 3 := by simp
          simp only [strOf]; omega
    have e := HS4.out
    rw [if_neg cg] at e
    injection e with er en
    subst er; subst en
    clear HS4 hur
    have hcc : c < 1 ∨ (128 ≤ c ∧ c < 192) ∨ 224 ≤ c := by omega
    have huu : u < 0 ∨ 56320 ≤ u := by omega
    rcases hcc with hcc | ⟨hcc, hcd⟩ | hcc
    all_goals
      rcases huu with huu | huu
    all_goals
      have hR : Hid (R = (⟨#[]⟩, 4)) := Lib.hid (by rw [hv.out, hd'.out, if_pos (by omega)])
      have q1 : u < 57344 := by omega
      clear hv hd' c1 c2 c1' c2' cu cg
      go_wp2
      go_ret2
      exact ⟨by rw [hR.out]; rfl, hbw1⟩
end Go.Proofs.YtkppjehpfjalbaaDoor
