/-
  The walk of cruciblelaw2.shown: chapter 2's examples. (Printed by gen_shown2.py.)
-/
import Derived.Test.YthpfknlgfkecpaaDoorDsSpS
set_option linter.unusedVariables false
set_option linter.unusedSimpArgs false
namespace Go.Proofs.YthpfknlgfkecpaaDoor
open Go.RowKit Go.Lib

theorem exd0 : Sp.fieldS ⟨#[73]⟩ = ((0, ⟨#[]⟩), 0) := by decide +kernel
theorem exd1 : Sp.fieldS ⟨#[91, 91, 76, 80, 111, 105, 110, 116, 59]⟩ = ((2, ⟨#[80, 111, 105, 110, 116]⟩), 0) := by decide +kernel
theorem exd2 : Sp.fieldS ⟨#[76, 59]⟩ = ((0, ⟨#[]⟩), 9) := by decide +kernel
theorem exd3 : Sp.fieldS ⟨#[76, 80, 111, 105, 110, 116]⟩ = ((0, ⟨#[]⟩), 9) := by decide +kernel
theorem exd4 : Sp.fieldS ⟨#[91, 91, 91, 91, 91, 73]⟩ = ((0, ⟨#[]⟩), 9) := by decide +kernel
theorem exd5 : Sp.fieldS ⟨#[73, 73]⟩ = ((0, ⟨#[]⟩), 9) := by decide +kernel
theorem exd6 : Sp.methodS ⟨#[40, 73, 76, 80, 111, 105, 110, 116, 59, 41, 86]⟩ = (([(0, ⟨#[]⟩), (0, ⟨#[80, 111, 105, 110, 116]⟩)], (0, ⟨#[]⟩), true), 0) := by decide +kernel
theorem exd7 : Sp.methodS ⟨#[40, 41, 73]⟩ = (([], (0, ⟨#[]⟩), false), 0) := by decide +kernel
theorem exd8 : Sp.methodS ⟨#[40, 86, 41, 73]⟩ = (([], (0, ⟨#[]⟩), false), 9) := by decide +kernel
theorem exd9 : Sp.methodS ⟨#[40, 41]⟩ = (([], (0, ⟨#[]⟩), false), 9) := by decide +kernel
theorem exd10 : Sp.elemS (1, ⟨#[]⟩) = ((0, ⟨#[]⟩), true) := by decide +kernel
theorem exd11 : Sp.elemS (0, ⟨#[]⟩) = ((0, ⟨#[]⟩), false) := by decide +kernel
theorem exd12 : Sp.arrS (4, ⟨#[]⟩) = ((0, ⟨#[]⟩), false) := by decide +kernel

set_option maxHeartbeats 8000000 in
set_option maxRecDepth 100000 in
theorem shown2_any (w : World) (hT : Tabs w) :
    Calls Tryd.prog 16 #[] w fun e w' => e = .returned (.bool true) ∧ Below w.heap.size w w' := by
  have T0 := Lib.hid hT
  clear hT
  have B0 := Below.refl w.heap.size w
  have S0 := B0.size
  go_enter Tryd.func16, Tryd.ntmps16
  go_wp2_with fail
  refine (field_any _ _ (by decide) T0.out).mono ?_
  rintro e W1 ⟨rfl, hb1⟩
  simp only [exd0, Sp.tyV, Sp.sigV, List.length_cons, List.length_nil]
  have B1 := below_then B0 S0 hb1
  have S1 := B1.size
  have T1 := Lib.hid (Tabs.below T0.out hb1)
  clear B0 S0 hb1 T0
  go_wp2_with fail
  refine (field_any _ _ (by decide) (Tabs.below T1.out ((Below.refl _ _).alloc (Nat.le_refl _) _))).mono ?_
  rintro e W2 ⟨rfl, hb2⟩
  simp only [exd1, Sp.tyV, Sp.sigV, List.length_cons, List.length_nil]
  have B2 := below_then (B1.alloc S1 _) (by simp; omega) hb2
  have S2 := B2.size
  have T2 := Lib.hid (Tabs.below (Tabs.below T1.out ((Below.refl _ _).alloc (Nat.le_refl _) _)) hb2)
  have L2 : W1.heap.size < W2.heap.size := by have := hb2.size; simp at this; omega
  have K0_2 := Lib.hid (blk_below (blk_new W1 (.cells #[.int .i64 0, .string ⟨#[]⟩] 23)) hb2)
  clear B1 S1 hb2 T1 
  go_wp2_with fail
  refine (field_any _ _ (by decide) (Tabs.below T2.out ((Below.refl _ _).alloc (Nat.le_refl _) _))).mono ?_
  rintro e W3 ⟨rfl, hb3⟩
  simp only [exd2, Sp.tyV, Sp.sigV, List.length_cons, List.length_nil]
  have B3 := below_then (B2.alloc S2 _) (by simp; omega) hb3
  have S3 := B3.size
  have T3 := Lib.hid (Tabs.below (Tabs.below T2.out ((Below.refl _ _).alloc (Nat.le_refl _) _)) hb3)
  have L3 : W2.heap.size < W3.heap.size := by have := hb3.size; simp at this; omega
  have K0_3 := Lib.hid (blk_below (blk_old K0_2.out) hb3)
  have K1_3 := Lib.hid (blk_below (blk_new W2 (.cells #[.int .i64 2, .string ⟨#[80, 111, 105, 110, 116]⟩] 23)) hb3)
  clear B2 S2 hb3 T2 K0_2
  go_wp2_with fail
  refine (field_any _ _ (by decide) (Tabs.below T3.out ((Below.refl _ _).alloc (Nat.le_refl _) _))).mono ?_
  rintro e W4 ⟨rfl, hb4⟩
  simp only [exd3, Sp.tyV, Sp.sigV, List.length_cons, List.length_nil]
  have B4 := below_then (B3.alloc S3 _) (by simp; omega) hb4
  have S4 := B4.size
  have T4 := Lib.hid (Tabs.below (Tabs.below T3.out ((Below.refl _ _).alloc (Nat.le_refl _) _)) hb4)
  have L4 : W3.heap.size < W4.heap.size := by have := hb4.size; simp at this; omega
  have K0_4 := Lib.hid (blk_below (blk_old K0_3.out) hb4)
  have K1_4 := Lib.hid (blk_below (blk_old K1_3.out) hb4)
  clear B3 S3 hb4 T3 K0_3 K1_3
  go_wp2_with fail
  refine (field_any _ _ (by decide) (Tabs.below T4.out ((Below.refl _ _).alloc (Nat.le_refl _) _))).mono ?_
  rintro e W5 ⟨rfl, hb5⟩
  simp only [exd4, Sp.tyV, Sp.sigV, List.length_cons, List.length_nil]
  have B5 := below_then (B4.alloc S4 _) (by simp; omega) hb5
  have S5 := B5.size
  have T5 := Lib.hid (Tabs.below (Tabs.below T4.out ((Below.refl _ _).alloc (Nat.le_refl _) _)) hb5)
  have L5 : W4.heap.size < W5.heap.size := by have := hb5.size; simp at this; omega
  have K0_5 := Lib.hid (blk_below (blk_old K0_4.out) hb5)
  have K1_5 := Lib.hid (blk_below (blk_old K1_4.out) hb5)
  clear B4 S4 hb5 T4 K0_4 K1_4
  go_wp2_with fail
  refine (field_any _ _ (by decide) (Tabs.below T5.out ((Below.refl _ _).alloc (Nat.le_refl _) _))).mono ?_
  rintro e W6 ⟨rfl, hb6⟩
  simp only [exd5, Sp.tyV, Sp.sigV, List.length_cons, List.length_nil]
  have B6 := below_then (B5.alloc S5 _) (by simp; omega) hb6
  have S6 := B6.size
  have T6 := Lib.hid (Tabs.below (Tabs.below T5.out ((Below.refl _ _).alloc (Nat.le_refl _) _)) hb6)
  have L6 : W5.heap.size < W6.heap.size := by have := hb6.size; simp at this; omega
  have K0_6 := Lib.hid (blk_below (blk_old K0_5.out) hb6)
  have K1_6 := Lib.hid (blk_below (blk_old K1_5.out) hb6)
  clear B5 S5 hb6 T5 K0_5 K1_5
  go_wp2_with fail
  refine (method_any _ _ (by decide) (Tabs.below T6.out ((Below.refl _ _).alloc (Nat.le_refl _) _))).mono ?_
  rintro e W7 ⟨A7, c7, rfl, hr7, hb7⟩
  simp only [exd6] at hr7
  simp only [exd6, Sp.tyV, Sp.sigV, List.length_cons, List.length_nil]
  have B7 := below_then (B6.alloc S6 _) (by simp; omega) hb7
  have S7 := B7.size
  have T7 := Lib.hid (Tabs.below (Tabs.below T6.out ((Below.refl _ _).alloc (Nat.le_refl _) _)) hb7)
  have L7 : W6.heap.size < W7.heap.size := by have := hb7.size; simp at this; omega
  have K0_7 := Lib.hid (blk_below (blk_old K0_6.out) hb7)
  have K1_7 := Lib.hid (blk_below (blk_old K1_6.out) hb7)
  clear B6 S6 hb7 T6 K0_6 K1_6
  go_wp2_with fail
  refine (method_any _ _ (by decide) (Tabs.below T7.out ((Below.refl _ _).alloc (Nat.le_refl _) _))).mono ?_
  rintro e W8 ⟨A8, c8, rfl, hr8, hb8⟩
  clear hr8
  simp only [exd7, Sp.tyV, Sp.sigV, List.length_cons, List.length_nil]
  have B8 := below_then (B7.alloc S7 _) (by simp; omega) hb8
  have S8 := B8.size
  have T8 := Lib.hid (Tabs.below (Tabs.below T7.out ((Below.refl _ _).alloc (Nat.le_refl _) _)) hb8)
  have L8 : W7.heap.size < W8.heap.size := by have := hb8.size; simp at this; omega
  have K0_8 := Lib.hid (blk_below (blk_old K0_7.out) hb8)
  have K1_8 := Lib.hid (blk_below (blk_old K1_7.out) hb8)
  have K6_8 := Lib.hid (blk_below (blk_new W7 (.cells #[.slice A7 2 c7, .int .i64 0, .string ⟨#[]⟩, .bool true] 37)) hb8)
  have hr8 := rdT_below (rdT_below hr7 ((Below.refl _ _).alloc (Nat.le_refl _) _)) hb8
  clear B7 S7 hb8 T7 K0_7 K1_7 hr7
  go_wp2_with fail
  refine (method_any _ _ (by decide) (Tabs.below T8.out ((Below.refl _ _).alloc (Nat.le_refl _) _))).mono ?_
  rintro e W9 ⟨A9, c9, rfl, hr9, hb9⟩
  clear hr9
  simp only [exd8, Sp.tyV, Sp.sigV, List.length_cons, List.length_nil]
  have B9 := below_then (B8.alloc S8 _) (by simp; omega) hb9
  have S9 := B9.size
  have T9 := Lib.hid (Tabs.below (Tabs.below T8.out ((Below.refl _ _).alloc (Nat.le_refl _) _)) hb9)
  have L9 : W8.heap.size < W9.heap.size := by have := hb9.size; simp at this; omega
  have K0_9 := Lib.hid (blk_below (blk_old K0_8.out) hb9)
  have K1_9 := Lib.hid (blk_below (blk_old K1_8.out) hb9)
  have K6_9 := Lib.hid (blk_below (blk_old K6_8.out) hb9)
  have K7_9 := Lib.hid (blk_below (blk_new W8 (.cells #[.slice A8 0 c8, .int .i64 0, .string ⟨#[]⟩, .bool false] 37)) hb9)
  have hr9 := rdT_below (rdT_below hr8 ((Below.refl _ _).alloc (Nat.le_refl _) _)) hb9
  clear B8 S8 hb9 T8 K0_8 K1_8 K6_8 hr8
  go_wp2_with fail
  refine (method_any _ _ (by decide) (Tabs.below T9.out ((Below.refl _ _).alloc (Nat.le_refl _) _))).mono ?_
  rintro e W10 ⟨A10, c10, rfl, hr10, hb10⟩
  clear hr10
  simp only [exd9, Sp.tyV, Sp.sigV, List.length_cons, List.length_nil]
  have B10 := below_then (B9.alloc S9 _) (by simp; omega) hb10
  have S10 := B10.size
  have T10 := Lib.hid (Tabs.below (Tabs.below T9.out ((Below.refl _ _).alloc (Nat.le_refl _) _)) hb10)
  have L10 : W9.heap.size < W10.heap.size := by have := hb10.size; simp at this; omega
  have K0_10 := Lib.hid (blk_below (blk_old K0_9.out) hb10)
  have K1_10 := Lib.hid (blk_below (blk_old K1_9.out) hb10)
  have K6_10 := Lib.hid (blk_below (blk_old K6_9.out) hb10)
  have K7_10 := Lib.hid (blk_below (blk_old K7_9.out) hb10)
  have hr10 := rdT_below (rdT_below hr9 ((Below.refl _ _).alloc (Nat.le_refl _) _)) hb10
  clear B9 S9 hb10 T9 K0_9 K1_9 K6_9 K7_9 hr9
  go_wp2_with fail
  refine (elem_any 1 ⟨#[]⟩ _ (by decide) (by decide) (Tabs.below T10.out ((Below.refl _ _).alloc (Nat.le_refl _) _))).mono ?_
  rintro e W11 ⟨rfl, hb11⟩
  simp only [exd10, Sp.tyV, Sp.sigV, List.length_cons, List.length_nil]
  have B11 := below_then (B10.alloc S10 _) (by simp; omega) hb11
  have S11 := B11.size
  have T11 := Lib.hid (Tabs.below (Tabs.below T10.out ((Below.refl _ _).alloc (Nat.le_refl _) _)) hb11)
  have L11 : W10.heap.size < W11.heap.size := by have := hb11.size; simp at this; omega
  have K0_11 := Lib.hid (blk_below (blk_old K0_10.out) hb11)
  have K1_11 := Lib.hid (blk_below (blk_old K1_10.out) hb11)
  have K6_11 := Lib.hid (blk_below (blk_old K6_10.out) hb11)
  have K7_11 := Lib.hid (blk_below (blk_old K7_10.out) hb11)
  have hr11 := rdT_below (rdT_below hr10 ((Below.refl _ _).alloc (Nat.le_refl _) _)) hb11
  clear B10 S10 hb11 T10 K0_10 K1_10 K6_10 K7_10 hr10
  go_wp2_with fail
  refine (elem_any 0 ⟨#[]⟩ _ (by decide) (by decide) (Tabs.below T11.out ((Below.refl _ _).alloc (Nat.le_refl _) _))).mono ?_
  rintro e W12 ⟨rfl, hb12⟩
  simp only [exd11, Sp.tyV, Sp.sigV, List.length_cons, List.length_nil]
  have B12 := below_then (B11.alloc S11 _) (by simp; omega) hb12
  have S12 := B12.size
  have T12 := Lib.hid (Tabs.below (Tabs.below T11.out ((Below.refl _ _).alloc (Nat.le_refl _) _)) hb12)
  have L12 : W11.heap.size < W12.heap.size := by have := hb12.size; simp at this; omega
  have K0_12 := Lib.hid (blk_below (blk_old K0_11.out) hb12)
  have K1_12 := Lib.hid (blk_below (blk_old K1_11.out) hb12)
  have K6_12 := Lib.hid (blk_below (blk_old K6_11.out) hb12)
  have K7_12 := Lib.hid (blk_below (blk_old K7_11.out) hb12)
  have K10_12 := Lib.hid (blk_below (blk_new W11 (.cells #[.int .i64 0, .string ⟨#[]⟩] 23)) hb12)
  have hr12 := rdT_below (rdT_below hr11 ((Below.refl _ _).alloc (Nat.le_refl _) _)) hb12
  clear B11 S11 hb12 T11 K0_11 K1_11 K6_11 K7_11 hr11
  go_wp2_with fail
  refine (arr_any 4 ⟨#[]⟩ _ (by decide) (by decide) (Tabs.below T12.out ((Below.refl _ _).alloc (Nat.le_refl _) _))).mono ?_
  rintro e W13 ⟨rfl, hb13⟩
  simp only [exd12, Sp.tyV, Sp.sigV, List.length_cons, List.length_nil]
  have B13 := below_then (B12.alloc S12 _) (by simp; omega) hb13
  have S13 := B13.size
  have T13 := Lib.hid (Tabs.below (Tabs.below T12.out ((Below.refl _ _).alloc (Nat.le_refl _) _)) hb13)
  have L13 : W12.heap.size < W13.heap.size := by have := hb13.size; simp at this; omega
  have K0_13 := Lib.hid (blk_below (blk_old K0_12.out) hb13)
  have K1_13 := Lib.hid (blk_below (blk_old K1_12.out) hb13)
  have K6_13 := Lib.hid (blk_below (blk_old K6_12.out) hb13)
  have K7_13 := Lib.hid (blk_below (blk_old K7_12.out) hb13)
  have K10_13 := Lib.hid (blk_below (blk_old K10_12.out) hb13)
  have hr13 := rdT_below (rdT_below hr12 ((Below.refl _ _).alloc (Nat.le_refl _) _)) hb13
  clear B12 S12 hb13 T12 K0_12 K1_12 K6_12 K7_12 K10_12 hr12
  have hl0 := blk_lt K0_13.out
  obtain ⟨⟨c00, c01⟩, _⟩ := blk2 K0_13.out
  have hl1 := blk_lt K1_13.out
  obtain ⟨⟨c10, c11⟩, _⟩ := blk2 K1_13.out
  have hl6 := blk_lt K6_13.out
  obtain ⟨⟨c60, c61, c62, c63⟩, _⟩ := blk4 K6_13.out
  have hl7 := blk_lt K7_13.out
  obtain ⟨⟨c70, c71, c72, c73⟩, _⟩ := blk4 K7_13.out
  have hl10 := blk_lt K10_13.out
  obtain ⟨⟨c100, c101⟩, _⟩ := blk2 K10_13.out
  obtain ⟨b, o, rfl, hrr⟩ := hr13.2 (by decide)
  have hp := hrr 3 _ rfl
  have hlb := World.block_lt_of_cell? _ _ hp
  have hp2 : W13.cell? ⟨b, o + 2 + 1, none⟩ = some (.string ⟨#[80, 111, 105, 110, 116]⟩) := hp
  clear hrr hr13
  go_wp2
  go_ret
  exact ⟨rfl, B13.alloc S13 _⟩
end Go.Proofs.YthpfknlgfkecpaaDoor
