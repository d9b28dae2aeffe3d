/-
  The walk of cruciblelaw1.shown: chapter 1's examples.
-/
import Derived.Test.YtkppjehpfjalbaaDoorMwRdec
set_option linter.unusedVariables false
set_option linter.unusedSimpArgs false
namespace Go.Proofs.YtkppjehpfjalbaaDoor
open Go.RowKit Go.Lib

/-- The tables of unicode/utf8, as they are laid. -/
def Tabs (w : World) : Prop := Lib.Utf8Tabs (Tryd.lays196_ren.g 3) (Tryd.lays196_ren.g 4) w
theorem Tabs.below {w w1 : World} (h : Tabs w) (hb : Below w.heap.size w w1) : Tabs w1 := tabs_below h hb

theorem ex0 : Sp.encS ⟨#[97, 195, 169, 226, 130, 172]⟩ = (⟨#[97, 195, 169, 226, 130, 172]⟩, 0) := by decide +kernel
theorem ex1 : Sp.encS ⟨#[0]⟩ = (⟨#[192, 128]⟩, 0) := by decide +kernel
theorem ex2 : Sp.encS ⟨#[240, 159, 152, 128]⟩ = (⟨#[237, 160, 189, 237, 184, 128]⟩, 0) := by decide +kernel
theorem ex3 : Sp.decS ⟨#[192, 128]⟩ = (⟨#[0]⟩, 0) := by decide +kernel
theorem ex4 : Sp.decS ⟨#[0]⟩ = (⟨#[]⟩, 4) := by decide +kernel
theorem ex5 : Sp.decS ⟨#[193, 129]⟩ = (⟨#[]⟩, 4) := by decide +kernel
theorem ex6 : Sp.decS ⟨#[237, 160, 189]⟩ = (⟨#[]⟩, 4) := by decide +kernel
theorem ex7 : Sp.decS ⟨#[226, 130]⟩ = (⟨#[]⟩, 4) := by decide +kernel
theorem ex8 : Sp.atL (Sp.runes ⟨#[97, 195, 169, 226, 130, 172]⟩) 1 = (233, true) := by decide +kernel
theorem ex9 : Sp.atL (Sp.runes ⟨#[97]⟩) 1 = (0, false) := by decide +kernel
theorem ex10 : (Sp.runes ⟨#[97, 195, 169, 226, 130, 172]⟩).length = 3 := by decide +kernel
theorem exn0 : Sp.nameS ⟨#[80, 111, 105, 110, 116]⟩ = true := by decide +kernel
theorem exn1 : Sp.nameS ⟨#[60, 105, 110, 105, 116, 62]⟩ = true := by decide +kernel
theorem exn2 : Sp.nameS ⟨#[]⟩ = false := by decide +kernel
theorem exn3 : Sp.nameS ⟨#[97, 32, 98]⟩ = false := by decide +kernel
theorem exn4 : Sp.nameS ⟨#[97, 59]⟩ = false := by decide +kernel

set_option maxHeartbeats 8000000 in
set_option maxRecDepth 100000 in
theorem shown_any (w : World) (hT : Tabs w) :
    Calls Tryd.prog 30 #[] w fun e w' => e = .returned (.bool true) ∧ Below w.heap.size w w' := by
  have hcv : ∀ W : World, (convert 74 9 (.slice (some ⟨W.heap.size, 0, none⟩) 1 1)).run Tryd.prog (W.alloc (.cells #[.int .u8 0] 5)) = .ok (.string ⟨#[0]⟩) (W.alloc (.cells #[.int .u8 0] 5)) := fun W => conv_lit W [0] 1 #[.int .u8 0] rfl (by simp [numc])
  have T0 := Lib.hid hT
  clear hT
  have B0 := Below.refl w.heap.size w
  have S0 := B0.size
  go_enter Tryd.func30, Tryd.ntmps30
  go_wp2_with fail
  refine (encode_any _ _ (by decide) T0.out).mono ?_
  rintro e W1 ⟨rfl, hb1⟩
  simp only [ex0]
  have B1 := below_then B0 S0 hb1
  have S1 := B1.size
  have T1 := Lib.hid (T0.out.below hb1)
  clear B0 S0 hb1 T0
  go_wp2_with fail
  refine (encode_any _ _ (by decide) (Tabs.below T1.out ((Below.refl _ _).alloc (Nat.le_refl _) _))).mono ?_
  rintro e W2 ⟨rfl, hb2⟩
  simp only [ex1]
  have B2 := below_then (B1.alloc S1 _) (by simp; omega) hb2
  have S2 := B2.size
  have T2 := Lib.hid (Tabs.below (Tabs.below T1.out ((Below.refl _ _).alloc (Nat.le_refl _) _)) hb2)
  clear B1 S1 hb2 T1
  go_wp2_with fail
  refine (encode_any _ _ (by decide) T2.out).mono ?_
  rintro e W3 ⟨rfl, hb3⟩
  simp only [ex2]
  have B3 := below_then B2 S2 hb3
  have S3 := B3.size
  have T3 := Lib.hid (T2.out.below hb3)
  clear B2 S2 hb3 T2
  go_wp2_with fail
  refine (decode_any _ _).mono ?_
  rintro e W4 ⟨rfl, hb4⟩
  simp only [ex3]
  have B4 := below_then B3 S3 hb4
  have S4 := B4.size
  have T4 := Lib.hid (T3.out.below hb4)
  clear B3 S3 hb4 T3
  go_wp2_with fail
  refine (decode_any _ _).mono ?_
  rintro e W5 ⟨rfl, hb5⟩
  simp only [ex4]
  have B5 := below_then B4 S4 hb5
  have S5 := B5.size
  have T5 := Lib.hid (T4.out.below hb5)
  clear B4 S4 hb5 T4
  go_wp2_with fail
  refine (decode_any _ _).mono ?_
  rintro e W6 ⟨rfl, hb6⟩
  simp only [ex5]
  have B6 := below_then B5 S5 hb6
  have S6 := B6.size
  have T6 := Lib.hid (T5.out.below hb6)
  clear B5 S5 hb6 T5
  go_wp2_with fail
  refine (decode_any _ _).mono ?_
  rintro e W7 ⟨rfl, hb7⟩
  simp only [ex6]
  have B7 := below_then B6 S6 hb7
  have S7 := B7.size
  have T7 := Lib.hid (T6.out.below hb7)
  clear B6 S6 hb7 T6
  go_wp2_with fail
  refine (decode_any _ _).mono ?_
  rintro e W8 ⟨rfl, hb8⟩
  simp only [ex7]
  have B8 := below_then B7 S7 hb8
  have S8 := B8.size
  have T8 := Lib.hid (T7.out.below hb8)
  clear B7 S7 hb8 T7
  go_wp2_with fail
  refine (at_all _ _ _ (by decide) (by decide) (by decide)).mono ?_
  rintro e W9 ⟨rfl, hb9⟩
  simp only [ex8]
  have B9 := below_then B8 S8 hb9
  have S9 := B9.size
  have T9 := Lib.hid (T8.out.below hb9)
  clear B8 S8 hb9 T8
  go_wp2_with fail
  refine (at_all _ _ _ (by decide) (by decide) (by decide)).mono ?_
  rintro e W10 ⟨rfl, hb10⟩
  simp only [ex9]
  have B10 := below_then B9 S9 hb10
  have S10 := B10.size
  have T10 := Lib.hid (T9.out.below hb10)
  clear B9 S9 hb10 T9
  go_wp2_with fail
  refine (len_any _ _ (by decide)).mono ?_
  rintro e W11 ⟨rfl, hb11⟩
  simp only [ex10]
  have B11 := below_then (B10.alloc S10 (.cells #[.int .u8 0] 5)) (by simp; omega) hb11
  have S11 := B11.size
  have T11 := Lib.hid (Tabs.below (Tabs.below T10.out ((Below.refl _ _).alloc (Nat.le_refl _) _)) hb11)
  clear B10 S10 T10 hb11
  go_wp2_with fail
  refine (name_any _ _ (by decide) (fun W h => Tabs.below T11.out h)).mono ?_
  rintro e W12 ⟨rfl, hb12⟩
  simp only [exn0]
  have B12 := below_then B11 S11 hb12
  have S12 := B12.size
  have T12 := Lib.hid (T11.out.below hb12)
  clear B11 S11 T11 hb12
  go_wp2_with fail
  refine (name_any _ _ (by decide) (fun W h => Tabs.below T12.out h)).mono ?_
  rintro e W13 ⟨rfl, hb13⟩
  simp only [exn1]
  have B13 := below_then B12 S12 hb13
  have S13 := B13.size
  have T13 := Lib.hid (T12.out.below hb13)
  clear B12 S12 T12 hb13
  go_wp2_with fail
  refine (name_any _ _ (by decide) (fun W h => Tabs.below T13.out h)).mono ?_
  rintro e W14 ⟨rfl, hb14⟩
  simp only [exn2]
  have B14 := below_then B13 S13 hb14
  have S14 := B14.size
  have T14 := Lib.hid (T13.out.below hb14)
  clear B13 S13 T13 hb14
  go_wp2_with fail
  refine (name_any _ _ (by decide) (fun W h => Tabs.below T14.out h)).mono ?_
  rintro e W15 ⟨rfl, hb15⟩
  simp only [exn3]
  have B15 := below_then B14 S14 hb15
  have S15 := B15.size
  have T15 := Lib.hid (T14.out.below hb15)
  clear B14 S14 T14 hb15
  go_wp2_with fail
  refine (name_any _ _ (by decide) (fun W h => Tabs.below T15.out h)).mono ?_
  rintro e W16 ⟨rfl, hb16⟩
  simp only [exn4]
  have B16 := below_then B15 S15 hb16
  have S16 := B16.size
  have T16 := Lib.hid (T15.out.below hb16)
  clear B15 S15 T15 hb16
  go_wp2
  go_ret
  exact ⟨rfl, B16⟩
end Go.Proofs.YtkppjehpfjalbaaDoor
