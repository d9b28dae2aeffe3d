/-
  The law DescFields: its walk. (Printed by gen_fields.py.)
-/
import Derived.Test.YthpfknlgfkecpaaDoorDsShown
import Derived.Test.YthpfknlgfkecpaaDoorDs7
import Derived.Deep.RegionHeld3
set_option linter.unusedVariables false
set_option linter.unusedSimpArgs false
namespace Go.Proofs.YthpfknlgfkecpaaDoor
open Go.RowKit Go.Lib

theorem beq_ty (a b : Sp.Ty) (h : a = b) : a = b := h

set_option maxHeartbeats 8000000 in
set_option maxRecDepth 100000 in
theorem walkDescFields (s : ByteArray) (t : Sp.Ty) (w : World) (hs63 : s.size ≤ maxLen) (hd : -9223372036854775808 ≤ t.1 ∧ t.1 ≤ 9223372036854775807) (hn63 : t.2.size ≤ maxLen) (hT : Tabs w) :
    Calls Tryd.prog 4 #[.string s, Sp.tyV t] w fun e w' => e = .returned (.bool true) ∧ Below w.heap.size w w' := by
  obtain ⟨d, n⟩ := t
  simp only [] at hd hn63
  unfold maxLen at hn63 hs63
  have T0 := Lib.hid hT
  clear hT
  unfold Sp.tyV
  simp only []
  have hk := Lib.hid (fun W hT => shown2_any W hT)
  go_enter Tryd.func4, Tryd.ntmps4
  have hK := Lib.hid (blk_new w (.cells #[.int .i64 d, .string n] 23))
  have hB := (Below.refl w.heap.size w).alloc (Nat.le_refl _) (.cells #[.int .i64 d, .string n] 23)
  have hS : w.heap.size ≤ (w.alloc (.cells #[.int .i64 d, .string n] 23)).heap.size := by simp
  go_wp2_with fail
  generalize w.alloc (.cells #[.int .i64 d, .string n] 23) = W0 at *
  refine (hk.out _ (T0.out.below hB)).mono ?_
  rintro e w1 ⟨rfl, hb1⟩
  clear hk
  have K1 := Lib.hid (blk_below hK.out hb1)
  have B1 := below_then hB hS hb1
  have S1 := B1.size
  clear hK hB hS hb1
  obtain ⟨⟨c0, c1⟩, f0, f1⟩ := blk2 K1.out
  by_cases hbs : 50000 < s.size
  · have hz : (50000 : Int) < (s.size : Int) := by omega
    go_wp2
    go_ret
    exact ⟨rfl, B1⟩
  have hzs : ¬ (50000 : Int) < (s.size : Int) := by omega
  by_cases hbig : 50000 < n.size
  · have hz : (50000 : Int) < (n.size : Int) := by omega
    go_wp2
    go_ret
    exact ⟨rfl, B1⟩
  have hz : ¬ (50000 : Int) < (n.size : Int) := by omega
  have hns : n.size ≤ 1099511627776 := by omega
  have hss : s.size ≤ 1099511627776 := by omega
  have k1 := Lib.hid (fun W hT => field_any s W hss hT)
  have k2 := Lib.hid (fun W => refField_any s W hss)
  have k3 := Lib.hid (fun W hT => write_any d n W hns hT)
  have k4 := Lib.hid (fun W => refWrite_any d n W hns)
  have k5 := Lib.hid (fun W hT => elem_any d n W hns hd hT)
  have k6 := Lib.hid (fun W => refElem_any d n W hns hd)
  have k7 := Lib.hid (fun W hT => arr_any d n W hns hd hT)
  have k8 := Lib.hid (fun W => refArr_any d n W hns hd)
  have k9 := Lib.hid (fun W hT => isRef_any d n W hns hT)
  have k10 := Lib.hid (fun W => refIsRef_any d n W hns)
  generalize Sp.fieldS s = F at *
  generalize Sp.writeS (d, n) = G at *
  generalize Sp.elemS (d, n) = E at *
  generalize Sp.arrS (d, n) = A at *
  generalize Sp.isRefS (d, n) = r at *
  obtain ⟨⟨fd, fn⟩, fe⟩ := F
  obtain ⟨gs, ge⟩ := G
  obtain ⟨⟨ed, en⟩, eb⟩ := E
  obtain ⟨⟨ad, an⟩, ab⟩ := A
  unfold Sp.tyV at k1 k2 k3 k4 k5 k6 k7 k8 k9 k10
  simp only [] at k1 k2 k3 k4 k5 k6 k7 k8 k9 k10
  go_wp2_with fail
  refine (k1.out _ (T0.out.below B1)).mono ?_
  rintro e w2 ⟨rfl, hb⟩
  have K2 := Lib.hid (blk_below (K1.out) hb)
  have B2 := below_then B1 S1 hb
  have S2 := B2.size
  clear hb B1 S1 K1 k1
  clear c0 c1 f0 f1
  obtain ⟨⟨c0, c1⟩, f0, f1⟩ := blk2 K2.out
  have hl2 := blk_lt K2.out
  go_wp2_with fail
  refine (k2.out _).mono ?_
  rintro e w3 ⟨rfl, hb⟩
  have K3 := Lib.hid (blk_below (blk_old K2.out) hb)
  have Rk13 := Lib.hid (blk_below (blk_new w2 (.cells #[.int .i64 fd, .string fn] 23)) hb)
  have B3 := below_then (B2.alloc S2 _) (by simp; omega) hb
  have S3 := B3.size
  clear hb B2 S2 K2 k2
  clear c0 c1 f0 f1
  obtain ⟨⟨c0, c1⟩, f0, f1⟩ := blk2 K3.out
  have hl3 := blk_lt K3.out
  clear hl2
  go_wp2_with fail
  refine (k3.out _ (T0.out.below (B3.alloc S3 _))).mono ?_
  rintro e w4 ⟨rfl, hb⟩
  have K4 := Lib.hid (blk_below (blk_old K3.out) hb)
  have Rk14 := Lib.hid (blk_below (blk_old Rk13.out) hb)
  have Rk24 := Lib.hid (blk_below (blk_new w3 (.cells #[.int .i64 fd, .string fn] 23)) hb)
  have B4 := below_then (B3.alloc S3 _) (by simp; omega) hb
  have S4 := B4.size
  clear hb B3 S3 K3 Rk13 k3
  clear c0 c1 f0 f1
  obtain ⟨⟨c0, c1⟩, f0, f1⟩ := blk2 K4.out
  have hl4 := blk_lt K4.out
  clear hl3
  go_wp2_with fail
  refine (k4.out _).mono ?_
  rintro e w5 ⟨rfl, hb⟩
  have K5 := Lib.hid (blk_below (K4.out) hb)
  have Rk15 := Lib.hid (blk_below (Rk14.out) hb)
  have Rk25 := Lib.hid (blk_below (Rk24.out) hb)
  have B5 := below_then B4 S4 hb
  have S5 := B5.size
  clear hb B4 S4 K4 Rk14 Rk24 k4
  clear c0 c1 f0 f1
  obtain ⟨⟨c0, c1⟩, f0, f1⟩ := blk2 K5.out
  have hl5 := blk_lt K5.out
  clear hl4
  go_wp2_with fail
  refine (k5.out _ (T0.out.below B5)).mono ?_
  rintro e w6 ⟨rfl, hb⟩
  have K6 := Lib.hid (blk_below (K5.out) hb)
  have Rk16 := Lib.hid (blk_below (Rk15.out) hb)
  have Rk26 := Lib.hid (blk_below (Rk25.out) hb)
  have B6 := below_then B5 S5 hb
  have S6 := B6.size
  clear hb B5 S5 K5 Rk15 Rk25 k5
  clear c0 c1 f0 f1
  obtain ⟨⟨c0, c1⟩, f0, f1⟩ := blk2 K6.out
  have hl6 := blk_lt K6.out
  clear hl5
  go_wp2_with fail
  refine (k6.out _).mono ?_
  rintro e w7 ⟨rfl, hb⟩
  have K7 := Lib.hid (blk_below (blk_old K6.out) hb)
  have Rk17 := Lib.hid (blk_below (blk_old Rk16.out) hb)
  have Rk27 := Lib.hid (blk_below (blk_old Rk26.out) hb)
  have Rk57 := Lib.hid (blk_below (blk_new w6 (.cells #[.int .i64 ed, .string en] 23)) hb)
  have B7 := below_then (B6.alloc S6 _) (by simp; omega) hb
  have S7 := B7.size
  clear hb B6 S6 K6 Rk16 Rk26 k6
  clear c0 c1 f0 f1
  obtain ⟨⟨c0, c1⟩, f0, f1⟩ := blk2 K7.out
  have hl7 := blk_lt K7.out
  clear hl6
  go_wp2_with fail
  refine (k7.out _ (T0.out.below (B7.alloc S7 _))).mono ?_
  rintro e w8 ⟨rfl, hb⟩
  have K8 := Lib.hid (blk_below (blk_old K7.out) hb)
  have Rk18 := Lib.hid (blk_below (blk_old Rk17.out) hb)
  have Rk28 := Lib.hid (blk_below (blk_old Rk27.out) hb)
  have Rk58 := Lib.hid (blk_below (blk_old Rk57.out) hb)
  have Rk68 := Lib.hid (blk_below (blk_new w7 (.cells #[.int .i64 ed, .string en] 23)) hb)
  have B8 := below_then (B7.alloc S7 _) (by simp; omega) hb
  have S8 := B8.size
  clear hb B7 S7 K7 Rk17 Rk27 Rk57 k7
  clear c0 c1 f0 f1
  obtain ⟨⟨c0, c1⟩, f0, f1⟩ := blk2 K8.out
  have hl8 := blk_lt K8.out
  clear hl7
  go_wp2_with fail
  refine (k8.out _).mono ?_
  rintro e w9 ⟨rfl, hb⟩
  have K9 := Lib.hid (blk_below (blk_old K8.out) hb)
  have Rk19 := Lib.hid (blk_below (blk_old Rk18.out) hb)
  have Rk29 := Lib.hid (blk_below (blk_old Rk28.out) hb)
  have Rk59 := Lib.hid (blk_below (blk_old Rk58.out) hb)
  have Rk69 := Lib.hid (blk_below (blk_old Rk68.out) hb)
  have Rk79 := Lib.hid (blk_below (blk_new w8 (.cells #[.int .i64 ad, .string an] 23)) hb)
  have B9 := below_then (B8.alloc S8 _) (by simp; omega) hb
  have S9 := B9.size
  clear hb B8 S8 K8 Rk18 Rk28 Rk58 Rk68 k8
  clear c0 c1 f0 f1
  obtain ⟨⟨c0, c1⟩, f0, f1⟩ := blk2 K9.out
  have hl9 := blk_lt K9.out
  clear hl8
  have KW := Lib.hid (blk_old (o := .cells #[.int .i64 ad, .string an] 23) K9.out)
  have Rk1W := Lib.hid (blk_old (o := .cells #[.int .i64 ad, .string an] 23) Rk19.out)
  have Rk2W := Lib.hid (blk_old (o := .cells #[.int .i64 ad, .string an] 23) Rk29.out)
  have Rk5W := Lib.hid (blk_old (o := .cells #[.int .i64 ad, .string an] 23) Rk59.out)
  have Rk6W := Lib.hid (blk_old (o := .cells #[.int .i64 ad, .string an] 23) Rk69.out)
  have Rk7W := Lib.hid (blk_old (o := .cells #[.int .i64 ad, .string an] 23) Rk79.out)
  have Rk8W := Lib.hid (blk_new w9 (.cells #[.int .i64 ad, .string an] 23))
  have BW := B9.alloc S9 (.cells #[.int .i64 ad, .string an] 23)
  have SW := BW.size
  go_wp2_with fail
  clear c0 c1 f0 f1 B9 S9 K9 Rk19 Rk29 Rk59 Rk69 Rk79
  generalize w9.alloc (.cells #[.int .i64 ad, .string an] 23) = W at *
  obtain ⟨⟨c00, c01⟩, _⟩ := blk2 KW.out
  obtain ⟨⟨c10, c11⟩, _⟩ := blk2 Rk1W.out
  obtain ⟨⟨c20, c21⟩, _⟩ := blk2 Rk2W.out
  obtain ⟨⟨c30, c31⟩, _⟩ := blk2 Rk5W.out
  obtain ⟨⟨c40, c41⟩, _⟩ := blk2 Rk6W.out
  obtain ⟨⟨c50, c51⟩, _⟩ := blk2 Rk7W.out
  obtain ⟨⟨c60, c61⟩, _⟩ := blk2 Rk8W.out
  have TW := Lib.hid (T0.out.below BW)
  have hmk := Lib.hid (show ∀ w', Below W.heap.size W w' → (w'.cell? ⟨w.heap.size, 0, none⟩ = some (.int .i64 d) ∧ w'.cell? ⟨w.heap.size, 1, none⟩ = some (.string n) ∧ w'.cell? ⟨w2.heap.size, 0, none⟩ = some (.int .i64 fd) ∧ w'.cell? ⟨w2.heap.size, 1, none⟩ = some (.string fn) ∧ w'.cell? ⟨w3.heap.size, 0, none⟩ = some (.int .i64 fd) ∧ w'.cell? ⟨w3.heap.size, 1, none⟩ = some (.string fn) ∧ w'.cell? ⟨w6.heap.size, 0, none⟩ = some (.int .i64 ed) ∧ w'.cell? ⟨w6.heap.size, 1, none⟩ = some (.string en) ∧ w'.cell? ⟨w7.heap.size, 0, none⟩ = some (.int .i64 ed) ∧ w'.cell? ⟨w7.heap.size, 1, none⟩ = some (.string en) ∧ w'.cell? ⟨w8.heap.size, 0, none⟩ = some (.int .i64 ad) ∧ w'.cell? ⟨w8.heap.size, 1, none⟩ = some (.string an) ∧ w'.cell? ⟨w9.heap.size, 0, none⟩ = some (.int .i64 ad) ∧ w'.cell? ⟨w9.heap.size, 1, none⟩ = some (.string an) ∧ Hid (Below W.heap.size W w')) from fun w' h => ⟨cell_below h c00, cell_below h c01, cell_below h c10, cell_below h c11, cell_below h c20, cell_below h c21, cell_below h c30, cell_below h c31, cell_below h c40, cell_below h c41, cell_below h c50, cell_below h c51, cell_below h c60, cell_below h c61, Lib.hid h⟩)
  go_region_held3 (fun w' => w'.cell? ⟨w.heap.size, 0, none⟩ = some (.int .i64 d) ∧ w'.cell? ⟨w.heap.size, 1, none⟩ = some (.string n) ∧ w'.cell? ⟨w2.heap.size, 0, none⟩ = some (.int .i64 fd) ∧ w'.cell? ⟨w2.heap.size, 1, none⟩ = some (.string fn) ∧ w'.cell? ⟨w3.heap.size, 0, none⟩ = some (.int .i64 fd) ∧ w'.cell? ⟨w3.heap.size, 1, none⟩ = some (.string fn) ∧ w'.cell? ⟨w6.heap.size, 0, none⟩ = some (.int .i64 ed) ∧ w'.cell? ⟨w6.heap.size, 1, none⟩ = some (.string en) ∧ w'.cell? ⟨w7.heap.size, 0, none⟩ = some (.int .i64 ed) ∧ w'.cell? ⟨w7.heap.size, 1, none⟩ = some (.string en) ∧ w'.cell? ⟨w8.heap.size, 0, none⟩ = some (.int .i64 ad) ∧ w'.cell? ⟨w8.heap.size, 1, none⟩ = some (.string an) ∧ w'.cell? ⟨w9.heap.size, 0, none⟩ = some (.int .i64 ad) ∧ w'.cell? ⟨w9.heap.size, 1, none⟩ = some (.string an) ∧ Hid (Below W.heap.size W w')) (first | exact hmk.out _ (Below.refl _ _) | exact hmk.out _ (Below.refl _ _).drew | exact hmk.out _ (Hid.out (by assumption))) (first | (go_split_ands; go_at_call 25; refine (k9.out _ (TW.out.below (Hid.out (by assumption)))).mono ?_; rintro e wP ⟨rfl, hbP⟩; have hWP := Lib.hid (below_then (Hid.out (by assumption) : Below W.heap.size W _) (Below.size (Hid.out (by assumption) : Below W.heap.size W _)) hbP)) | (go_split_ands; go_at_call 26; refine (k10.out _).mono ?_; rintro e wP ⟨rfl, hbP⟩; have hWP := Lib.hid (below_then (Hid.out (by assumption) : Below W.heap.size W _) (Below.size (Hid.out (by assumption) : Below W.heap.size W _)) hbP)))
  all_goals
    (try clear c00 c01 c10 c11 c20 c21 c30 c31 c40 c41 c50 c51 c60 c61)
    (try go_split_ands)
    go_wp2
    go_ret
    exact ⟨by simp, by first | exact below_then BW SW (Hid.out (by assumption)) | exact (below_then BW SW (Hid.out (by assumption))).drew⟩
end Go.Proofs.YthpfknlgfkecpaaDoor
