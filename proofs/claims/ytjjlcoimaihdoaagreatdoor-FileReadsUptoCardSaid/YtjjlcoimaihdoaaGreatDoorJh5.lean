/-
  Texts of the proof, joined.
-/
import Derived.Test.YtjjlcoimaihdoaaGreatDoorJh4
import Derived.Deep.DeepCutAuto
import Derived.Outline
import Derived.Deep.QuietTactic
import Derived.BigQuiet
import Derived.Test.YtjjlcoimaihdoaaGreatDoorJh3
import Derived.Test.YtjjlcoimaihdoaaGreatDoorRows
import Derived.Deep.Slices
import Derived.DataShut
import Derived.OpenShut
import Derived.ChangeSame
import Derived.Maps.AppendAt
import Derived.Test.YtjjlcoimaihdoaaGreatDoorJh1
import Derived.Test.YtjjlcoimaihdoaaGreatDoorJh2
import Derived.Lib.AppendStr
set_option linter.unusedVariables false
set_option linter.unusedSimpArgs false
namespace Go.Proofs.YtjjlcoimaihdoaaGreatDoor
open Go.RowKit Go.Lib
namespace Sp
def handS (p : List Cn) (n : Int) : List Hn → Int
 | [] => 0
 | h :: l => if h.fr < 0 ∨ h.til ≤ h.fr ∨ n < h.til ∨ h.at_ < 0 ∨ n ≤ h.at_ then 1 else if h.cls ≠ 0 ∧ taggedS p h.cls 4 = false then 7 else handS p n l
def codedS (p : List Cn) (m : Mb) : Int :=
 if m.stack < 0 ∨ 64 < m.stack ∨ m.locals < 0 ∨ 64 < m.locals then 26
 else if m.code.size = 0 then 5
 else if 4096 < m.code.size then 2
 else if 32 < m.hs.length then 3
 else handS p m.code.size m.hs
def initB : ByteArray := B [60, 105, 110, 105, 116, 62]
def clinitB : ByteArray := B [60, 99, 108, 105, 110, 105, 116, 62]
def voidB : ByteArray := B [40, 41, 86]
def oddS (nm s : ByteArray) (fl : Int) : Bool :=
 (decide (nm = initB) && (decide (fl ≠ 0) || !(methodS s).1.2.2)) || (decide (nm = clinitB) && (decide (fl ≠ 1) || decide (s ≠ voidB)))
def methodM (p : List Cn) (ff : Int) (m : Mb) : Int :=
 if m.flags < 0 ∨ 2 < m.flags ∨ (m.flags = 0 ∧ ff = 3) then 10
 else if linkS p m.name m.desc true ≠ 0 then linkS p m.name m.desc true
 else if oddS (cnameS p m.name).1 (cnameS p m.desc).1 m.flags = true then 10
 else if m.flags = 2 then (if bareS m = true then 0 else 1)
 else codedS p m
end Sp
theorem hn_cells {w : World} {b o : Nat} {p : List Sp.Hn} (hr : w.rangeAt b o (p.flatMap Sp.hnC)) {k : Nat} (hk : k < p.length) :
  w.cell? ⟨b, o + k * 4, none⟩ = some (.int .i64 p[k].fr) ∧ w.cell? ⟨b, o + k * 4 + 1, none⟩ = some (.int .i64 p[k].til) ∧ w.cell? ⟨b, o + k * 4 + 2, none⟩ = some (.int .i64 p[k].at_) ∧ w.cell? ⟨b, o + k * 4 + 3, none⟩ = some (.int .i64 p[k].cls) :=
 ⟨rdL_get 4 Sp.hnC_len hr hk 0 (by decide) rfl, rdL_get 4 Sp.hnC_len hr hk 1 (by decide) rfl, rdL_get 4 Sp.hnC_len hr hk 2 (by decide) rfl, rdL_get 4 Sp.hnC_len hr hk 3 (by decide) rfl⟩
theorem initL : Sp.initB.toList = [60, 105, 110, 105, 116, 62] := by decide +kernel
theorem clinitL : Sp.clinitB.toList = [60, 99, 108, 105, 110, 105, 116, 62] := by decide +kernel
theorem voidL : Sp.voidB.toList = [40, 41, 86] := by decide +kernel
set_option maxHeartbeats 16000000 in
set_option maxRecDepth 100000 in
theorem methodM_any (q : Sp.At) (F : FlP) (m : Sp.Mp) (w : World) (hr : RdF w q F) (hff : FlagsOk F.flags) (h1 : In64 m.1.name) (h2 : In64 m.1.desc) (hh : RdL Sp.hnC w m.2.1 m.1.hs) (hc : ∀ h ∈ m.1.hs, In64 h.cls) (hcz : m.1.code.size ≤ 1099511627776)
  (hz : ∀ c ∈ F.pool, c.text.size ≤ 1099511627776) (hT : Tabs w) :
  Calls Tryz.prog 221 #[.agg (flC q F), Sp.mbV m] w fun e w' => e = .returned (.int .i64 (Sp.methodM F.pool F.flags m.1)) ∧ Below w.heap.size w w' := by
 obtain ⟨pool, fl, th, su, ifs, flds, mths⟩ := F
 obtain ⟨qA, qc, qI, qd, qX, qe, qY, qg⟩ := q
 obtain ⟨⟨mf, mn, md, ms, ml, mc, mh⟩, mA, mcap⟩ := m
 simp only [] at hff h1 h2 hh hc hcz hz ⊢
 have T0 := Lib.hid hT
 clear hT
 have hr0 := Lib.hid hr
 clear hr
 have hhl := hh.1
 have HH := Lib.hid hh.2
 clear hh
 have HE := Lib.hid (show Sp.methodM pool fl ⟨mf, mn, md, ms, ml, mc, mh⟩ = _ by rw [Sp.methodM])
 have hdz := Sp.cname_size pool hz md
 have ki := Lib.hid (fun W => interface_any ⟨qA, qc, qI, qd, qX, qe, qY, qg⟩ ⟨pool, fl, th, su, ifs, flds, mths⟩ W hff)
 have kl := Lib.hid (fun W hr hT => link_any ⟨qA, qc, qI, qd, qX, qe, qY, qg⟩ ⟨pool, fl, th, su, ifs, flds, mths⟩ mn md true W hr h1 h2 hz hT)
 have kn := Lib.hid (fun W hr => cname_any ⟨qA, qc, qI, qd, qX, qe, qY, qg⟩ ⟨pool, fl, th, su, ifs, flds, mths⟩ mn W hr h1)
 have kd := Lib.hid (fun W hr => cname_any ⟨qA, qc, qI, qd, qX, qe, qY, qg⟩ ⟨pool, fl, th, su, ifs, flds, mths⟩ md W hr h2)
 have km := Lib.hid (fun W hT => method_any (Sp.cnameS pool md).1 W hdz hT)
 have kb := Lib.hid (fun W => bare_any (⟨mf, mn, md, ms, ml, mc, mh⟩, mA, mcap) W hhl)
 have kt := Lib.hid (fun i (hi : In64 i) W hr => tagged_any ⟨qA, qc, qI, qd, qX, qe, qY, qg⟩ ⟨pool, fl, th, su, ifs, flds, mths⟩ i 4 W hr hi)
 have hcc := Lib.hid hc
 clear hc hz hdz
 have HC := Lib.hid (show Sp.codedS pool ⟨mf, mn, md, ms, ml, mc, mh⟩ = _ by rw [Sp.codedS])
 have HO := Lib.hid (show Sp.oddS (Sp.cnameS pool mn).1 (Sp.cnameS pool md).1 mf = _ by rw [Sp.oddS])
 generalize Sp.methodM pool fl ⟨mf, mn, md, ms, ml, mc, mh⟩ = R at HE ⊢
 have HE0 := Lib.hid HE.out
 clear HE
 have hbare : Sp.bareS ⟨mf, mn, md, ms, ml, mc, mh⟩ = (decide (ms = 0) && decide (ml = 0) && decide (mc.size = 0) && decide (mh.length = 0)) := rfl
 rw [hbare] at HE0
 clear hbare
 simp only [] at HE0 HC ki kl kn kd km kb kt
 generalize Sp.codedS pool ⟨mf, mn, md, ms, ml, mc, mh⟩ = cd at *
 generalize Sp.oddS (Sp.cnameS pool mn).1 (Sp.cnameS pool md).1 mf = od at *
 generalize (decide (ms = 0) && decide (ml = 0) && decide (mc.size = 0) && decide (mh.length = 0)) = br at *
 generalize Sp.linkS pool mn md true = le at *
 generalize Sp.cnameS pool mn = N at *
 generalize Sp.cnameS pool md = D at *
 obtain ⟨na, nb⟩ := N
 obtain ⟨da, db⟩ := D
 simp only [] at HE0 HO kn kd km
 generalize Sp.methodS da = M at *
 obtain ⟨⟨sl, ⟨sd, sn⟩, sv⟩, se⟩ := M
 unfold Sp.sigV at km
 simp only [] at HE0 HO km
 have hB := ((Below.refl w.heap.size w).alloc (Nat.le_refl _) (.cells (flC ⟨qA, qc, qI, qd, qX, qe, qY, qg⟩ ⟨pool, fl, th, su, ifs, flds, mths⟩) 26)).alloc (by simp) (.cells #[.int .i64 mf, .int .i64 mn, .int .i64 md, .int .i64 ms, .int .i64 ml, .string mc, .slice mA mh.length mcap] 131)
 have hK := Lib.hid (blk_old (o := .cells #[.int .i64 mf, .int .i64 mn, .int .i64 md, .int .i64 ms, .int .i64 ml, .string mc, .slice mA mh.length mcap] 131) (blk_new w (.cells (flC ⟨qA, qc, qI, qd, qX, qe, qY, qg⟩ ⟨pool, fl, th, su, ifs, flds, mths⟩) 26)))
 have hL := Lib.hid (blk_new (w.alloc (.cells (flC ⟨qA, qc, qI, qd, qX, qe, qY, qg⟩ ⟨pool, fl, th, su, ifs, flds, mths⟩) 26)) (.cells #[.int .i64 mf, .int .i64 mn, .int .i64 md, .int .i64 ms, .int .i64 ml, .string mc, .slice mA mh.length mcap] 131))
 rw [show (w.alloc (.cells (flC ⟨qA, qc, qI, qd, qX, qe, qY, qg⟩ ⟨pool, fl, th, su, ifs, flds, mths⟩) 26)).heap.size = w.heap.size + 1 by simp] at hL
 have hS := hB.size
 unfold flC at ki kl kn kd kt
 unfold Sp.mbV at kb ⊢
 have hfl : flC ⟨qA, qc, qI, qd, qX, qe, qY, qg⟩ ⟨pool, fl, th, su, ifs, flds, mths⟩ = #[.slice qA pool.length qc, .int .i64 fl, .int .i64 th, .int .i64 su, .slice qI ifs.length qd, .slice qX flds.length qe, .slice qY mths.length qg] := rfl
 rw [hfl] at hB hS ⊢
 clear hfl
 simp only [] at ki kl kn kd kb kt ⊢
 by_cases u0 : mf < 0
 ·have hR : R = 10 := by rw [HE0.out, if_pos (by omega)]
  subst hR
  clear HE0
  go_enter Tryz.func221, Tryz.ntmps221
  go_wp2
  go_ret
  exact ⟨rfl, hB⟩
 by_cases u1 : 2 < mf
 ·have hR : R = 10 := by rw [HE0.out, if_pos (by omega)]
  subst hR
  clear HE0
  go_enter Tryz.func221, Tryz.ntmps221
  go_wp2
  go_ret
  exact ⟨rfl, hB⟩
 go_enter Tryz.func221, Tryz.ntmps221
 go_upto_region 1 with fail
 go_cut [30] (fun s30 wx => ∃ b : Bool, s30 = .bool b ∧ Hid (Below w.heap.size w wx) ∧ Hid (wx.heap[w.heap.size]? = some (.cells (flC ⟨qA, qc, qI, qd, qX, qe, qY, qg⟩ ⟨pool, fl, th, su, ifs, flds, mths⟩) 26 (0, 0))) ∧ Hid (wx.heap[w.heap.size + 1]? = some (.cells #[.int .i64 mf, .int .i64 mn, .int .i64 md, .int .i64 ms, .int .i64 ml, .string mc, .slice mA mh.length mcap] 131 (0, 0))) ∧ Hid (R = if b = true then 10 else if le ≠ 0 then le else if od = true then 10 else if mf = 2 then (if br = true then 0 else 1) else cd))
 case first =>
  by_cases m0 : mf = 0
  ·subst m0
   go_wp2_with fail
   refine (ki.out _).mono ?_
   rintro e w1 ⟨rfl, hb1⟩
   have K1 := Lib.hid (blk_below hK.out hb1)
   have L1 := Lib.hid (blk_below hL.out hb1)
   have B1 := Lib.hid (below_then hB hS hb1)
   clear hK hL hB hS hb1 ki
   have hi : (fl = 3 ∧ decide (fl = 3) = true) ∨ (¬ fl = 3 ∧ decide (fl = 3) = false) := by
    by_cases q : fl = 3
    ·exact .inl ⟨q, by simp [q]⟩
    ·exact .inr ⟨q, by simp [q]⟩
   rcases hi with ⟨hi, hid⟩ | ⟨hi, hid⟩
   ·have HE1 := Lib.hid (show R = if true = true then 10 else if le ≠ 0 then le else if od = true then 10 else if (0 : Int) = 2 then (if br = true then 0 else 1) else cd by rw [HE0.out, if_pos (by simp [hi]), if_pos rfl])
    rw [hid]
    clear HE0 hid hi
    go_wp2_with fail
    go_meet
    exact ⟨true, rfl, B1, K1, L1, HE1⟩
   ·have HE1 := Lib.hid (show R = if false = true then 10 else if le ≠ 0 then le else if od = true then 10 else if (0 : Int) = 2 then (if br = true then 0 else 1) else cd by rw [HE0.out, if_neg (by simp [hi])]; simp)
    rw [hid]
    clear HE0 hid hi
    go_wp2_with fail
    go_meet
    exact ⟨false, rfl, B1, K1, L1, HE1⟩
  ·have m0b : (mf == 0) = false := by rw [beq_eq_false_iff_ne]; exact m0
   have HE1 := Lib.hid (show R = if false = true then 10 else if le ≠ 0 then le else if od = true then 10 else if mf = 2 then (if br = true then 0 else 1) else cd by rw [HE0.out, if_neg (by omega)]; simp)
   have B1 := Lib.hid hB
   clear hB hS HE0
   go_wp2_with fail
   go_meet
   exact ⟨false, rfl, B1, hK, hL, HE1⟩
 case rest =>
  clear hB hS hK hL HE0 ki
  obtain ⟨b, rfl, HB1, K1, L1, HE0⟩ := hcut
  have B1 := HB1.out
  have S1 := B1.size
  clear HB1
  cases b with
  | true =>
   have hR : R = 10 := by rw [HE0.out, if_pos rfl]
   subst hR
   clear HE0
   go_wp2
   go_ret
   exact ⟨rfl, B1⟩
  | false =>
  have HE1 := Lib.hid (show R = if le ≠ 0 then le else if od = true then 10 else if mf = 2 then (if br = true then 0 else 1) else cd by rw [HE0.out, if_neg (by decide)])
  clear HE0
  obtain ⟨c0, c1, c2, c3, c4, c5, c6⟩ := flC_box K1.out
  have e0 := (blk_cell L1.out 0 (.int .i64 mf) rfl).1
  have e1 := (blk_cell L1.out 1 (.int .i64 mn) rfl).1
  have e2 := (blk_cell L1.out 2 (.int .i64 md) rfl).1
  have e3 := (blk_cell L1.out 3 (.int .i64 ms) rfl).1
  have e4 := (blk_cell L1.out 4 (.int .i64 ml) rfl).1
  have e5 := (blk_cell L1.out 5 (.string mc) rfl).1
  have e6 := (blk_cell L1.out 6 (.slice mA mh.length mcap) rfl).1
  go_wp2_with fail
  refine (kl.out _ (rdF_below hr0.out B1) (T0.out.below B1)).mono ?_
  rintro e w2 ⟨rfl, hb2⟩
  have K2 := Lib.hid (blk_below K1.out hb2)
  have L2 := Lib.hid (blk_below L1.out hb2)
  have B2 := below_then B1 S1 hb2
  have S2 := B2.size
  clear K1 L1 B1 S1 hb2 kl c0 c1 c2 c3 c4 c5 c6 e0 e1 e2 e3 e4 e5 e6
  obtain ⟨c0, c1, c2, c3, c4, c5, c6⟩ := flC_box K2.out
  have e0 := (blk_cell L2.out 0 (.int .i64 mf) rfl).1
  have e1 := (blk_cell L2.out 1 (.int .i64 mn) rfl).1
  have e2 := (blk_cell L2.out 2 (.int .i64 md) rfl).1
  have e3 := (blk_cell L2.out 3 (.int .i64 ms) rfl).1
  have e4 := (blk_cell L2.out 4 (.int .i64 ml) rfl).1
  have e5 := (blk_cell L2.out 5 (.string mc) rfl).1
  have e6 := (blk_cell L2.out 6 (.slice mA mh.length mcap) rfl).1
  by_cases hle : le = 0
  ·subst hle
   have HE2 := Lib.hid HE1.out
   rw [if_neg (by simp)] at HE2
   clear HE1
   go_wp2_with fail
   refine (kn.out _ (rdF_below hr0.out B2)).mono ?_
   rintro e w3 ⟨rfl, hb3⟩
   have K3 := Lib.hid (blk_below K2.out hb3)
   have L3 := Lib.hid (blk_below L2.out hb3)
   have B3 := below_then B2 S2 hb3
   have S3 := B3.size
   clear K2 L2 B2 S2 hb3 kn c0 c1 c2 c3 c4 c5 c6 e0 e1 e2 e3 e4 e5 e6
   obtain ⟨c0, c1, c2, c3, c4, c5, c6⟩ := flC_box K3.out
   have e0 := (blk_cell L3.out 0 (.int .i64 mf) rfl).1
   have e1 := (blk_cell L3.out 1 (.int .i64 mn) rfl).1
   have e2 := (blk_cell L3.out 2 (.int .i64 md) rfl).1
   have e3 := (blk_cell L3.out 3 (.int .i64 ms) rfl).1
   have e4 := (blk_cell L3.out 4 (.int .i64 ml) rfl).1
   have e5 := (blk_cell L3.out 5 (.string mc) rfl).1
   have e6 := (blk_cell L3.out 6 (.slice mA mh.length mcap) rfl).1
   go_wp2_with fail
   refine (kd.out _ (rdF_below hr0.out B3)).mono ?_
   rintro e w4 ⟨rfl, hb4⟩
   have K4 := Lib.hid (blk_below K3.out hb4)
   have L4 := Lib.hid (blk_below L3.out hb4)
   have B4 := below_then B3 S3 hb4
   have S4 := B4.size
   clear K3 L3 B3 S3 hb4 kd c0 c1 c2 c3 c4 c5 c6 e0 e1 e2 e3 e4 e5 e6
   obtain ⟨c0, c1, c2, c3, c4, c5, c6⟩ := flC_box K4.out
   have e0 := (blk_cell L4.out 0 (.int .i64 mf) rfl).1
   have e1 := (blk_cell L4.out 1 (.int .i64 mn) rfl).1
   have e2 := (blk_cell L4.out 2 (.int .i64 md) rfl).1
   have e3 := (blk_cell L4.out 3 (.int .i64 ms) rfl).1
   have e4 := (blk_cell L4.out 4 (.int .i64 ml) rfl).1
   have e5 := (blk_cell L4.out 5 (.string mc) rfl).1
   have e6 := (blk_cell L4.out 6 (.slice mA mh.length mcap) rfl).1
   go_wp2_with fail
   refine (km.out _ (T0.out.below B4)).mono ?_
   rintro e w5 ⟨A5, x5, rfl, _, hb5⟩
   have K5 := Lib.hid (blk_below K4.out hb5)
   have L5 := Lib.hid (blk_below L4.out hb5)
   have B5 := below_then B4 S4 hb5
   have S5 := B5.size
   clear K4 L4 B4 S4 hb5 km c0 c1 c2 c3 c4 c5 c6 e0 e1 e2 e3 e4 e5 e6
   obtain ⟨c0, c1, c2, c3, c4, c5, c6⟩ := flC_box K5.out
   have e0 := (blk_cell L5.out 0 (.int .i64 mf) rfl).1
   have e1 := (blk_cell L5.out 1 (.int .i64 mn) rfl).1
   have e2 := (blk_cell L5.out 2 (.int .i64 md) rfl).1
   have e3 := (blk_cell L5.out 3 (.int .i64 ms) rfl).1
   have e4 := (blk_cell L5.out 4 (.int .i64 ml) rfl).1
   have e5 := (blk_cell L5.out 5 (.string mc) rfl).1
   have e6 := (blk_cell L5.out 6 (.slice mA mh.length mcap) rfl).1
   have hlk := blk_lt K5.out
   have hll := blk_lt L5.out
   have KZ := Lib.hid (blk_old (o := .cells #[.slice A5 sl.length x5, .int .i64 sd, .string sn, .bool sv] 303) K5.out)
   have LZ := Lib.hid (blk_old (o := .cells #[.slice A5 sl.length x5, .int .i64 sd, .string sn, .bool sv] 303) L5.out)
   have BZ := B5.alloc S5 (.cells #[.slice A5 sl.length x5, .int .i64 sd, .string sn, .bool sv] 303)
   have SZ := Lib.hid BZ.size
   have q1 : decide (na = Sp.initB) = (na.toList == [60, 105, 110, 105, 116, 62]) := by rw [← initL, bytes_eqb]
   have q2 : decide (na = Sp.clinitB) = (na.toList == [60, 99, 108, 105, 110, 105, 116, 62]) := by rw [← clinitL, bytes_eqb]
   have q3 : decide (da = Sp.voidB) = (da.toList == [40, 41, 86]) := by rw [← voidL, bytes_eqb]
   have hic : (na.toList == [60, 105, 110, 105, 116, 62]) = true → (na.toList == [60, 99, 108, 105, 110, 105, 116, 62]) = false := by
    intro hA
    rw [Bool.eq_false_iff]
    intro r
    rw [beq_iff_eq] at hA r
    rw [hA] at r
    exact absurd r (by decide)
   have HO2 : Hid (od = (((na.toList == [60, 105, 110, 105, 116, 62]) && (decide (mf ≠ 0) || !sv)) || ((na.toList == [60, 99, 108, 105, 110, 105, 116, 62]) && (decide (mf ≠ 1) || !(da.toList == [40, 41, 86]))))) := Lib.hid (by
    rw [HO.out, q1, q2, ← q3]
    simp only [decide_not])
   have hmm : (mf = 0 ∧ (mf != 0) = false ∧ (mf != 1) = true) ∨ (mf = 1 ∧ (mf != 0) = true ∧ (mf != 1) = false) ∨ (mf = 2 ∧ (mf != 0) = true ∧ (mf != 1) = true) := by
    have : mf = 0 ∨ mf = 1 ∨ mf = 2 := by omega
    rcases this with rfl | rfl | rfl <;> simp
   have hic2 := Lib.hid hic
   clear hic q1 q2 q3 HO K5 L5
   have TZ := Lib.hid (blk_new w5 (.cells #[.slice A5 sl.length x5, .int .i64 sd, .string sn, .bool sv] 303))
   obtain ⟨s0, s1, s2, s3⟩ := (blk4 TZ.out).1
   go_upto_region 9 with fail
   go_cut [59] (fun s59 wx => s59 = .bool ((na.toList == [60, 105, 110, 105, 116, 62]) && (decide (mf ≠ 0) || !sv)) ∧ wx = w5.alloc (.cells #[.slice A5 sl.length x5, .int .i64 sd, .string sn, .bool sv] 303))
   case first =>
    cases hA : (na.toList == [60, 105, 110, 105, 116, 62]) with
    | false =>
     go_wp2_with fail
     go_meet
     exact ⟨by simp [hA], rfl⟩
    | true =>
     by_cases m0 : mf = 0
     ·subst m0
      cases sv with
      | true =>
       go_wp2_with fail
       go_meet
       exact ⟨by simp [hA], rfl⟩
      | false =>
       go_wp2_with fail
       go_meet
       exact ⟨by simp [hA], rfl⟩
     ·have m0b : (mf != 0) = true := by simp [m0]
      go_wp2_with fail
      go_meet
      exact ⟨by simp [hA, m0], rfl⟩
   case rest =>
    obtain ⟨rfl, rfl⟩ := hcut
    generalize hc1 : ((na.toList == [60, 105, 110, 105, 116, 62]) && (decide (mf ≠ 0) || !sv)) = t1 at *
    cases t1 with
    | true =>
     have hR : R = 10 := by rw [HE2.out, if_pos (by rw [HO2.out]; rfl)]
     subst hR
     clear HE2
     go_wp2_with fail
     go_ret
     exact ⟨rfl, BZ⟩
    | false =>
     have HO3 : Hid (od = ((na.toList == [60, 99, 108, 105, 110, 105, 116, 62]) && (decide (mf ≠ 1) || !(da.toList == [40, 41, 86])))) := Lib.hid (by rw [HO2.out]; simp)
     clear HO2 hc1 hic2
     go_upto_region 10 with fail
     go_cut [59] (fun s59 wx => s59 = .bool ((na.toList == [60, 99, 108, 105, 110, 105, 116, 62]) && (decide (mf ≠ 1) || !(da.toList == [40, 41, 86]))) ∧ wx = w5.alloc (.cells #[.slice A5 sl.length x5, .int .i64 sd, .string sn, .bool sv] 303))
     case first =>
      cases hA : (na.toList == [60, 99, 108, 105, 110, 105, 116, 62]) with
      | false =>
       go_wp2_with fail
       go_meet
       exact ⟨by simp [hA], rfl⟩
      | true =>
       by_cases m1 : mf = 1
       ·subst m1
        cases hC : (da.toList == [40, 41, 86]) with
        | true =>
         go_wp2_with fail
         go_meet
         exact ⟨by simp [hA, hC], rfl⟩
        | false =>
         go_wp2_with fail
         go_meet
         exact ⟨by simp [hA, hC], rfl⟩
       ·have m1b : (mf != 1) = true := by simp [m1]
        go_wp2_with fail
        go_meet
        exact ⟨by simp [hA, m1], rfl⟩
     case rest =>
      obtain ⟨rfl, rfl⟩ := hcut
      generalize hc1 : ((na.toList == [60, 99, 108, 105, 110, 105, 116, 62]) && (decide (mf ≠ 1) || !(da.toList == [40, 41, 86]))) = t2 at *
      cases t2 with
      | true =>
       have hR : R = 10 := by rw [HE2.out, if_pos HO3.out]
       subst hR
       clear HE2
       go_wp2_with fail
       go_ret
       exact ⟨rfl, BZ⟩
      | false =>
       have HE3 := Lib.hid (show R = if mf = 2 then (if br = true then 0 else 1) else cd by rw [HE2.out, if_neg (by rw [HO3.out]; decide)])
       clear HE2 HO3 hc1 s0 s1 s2 s3
       by_cases m2 : mf = 2
       ·subst m2
        have HT := Lib.hid (show R = (if br = true then 0 else 1) by rw [HE3.out, if_pos rfl])
        clear HE3
        go_wp2_with fail
        refine (kb.out _).mono ?_
        rintro e w6 ⟨rfl, hb6⟩
        have B6 := below_then BZ SZ.out hb6
        have L6 := Lib.hid (blk_below LZ.out hb6)
        clear c0 c1 c2 c3 c4 c5 c6 e0 e1 e2 e3 e4 e5 e6
        have e0 := (blk_cell L6.out 0 (.int .i64 2) rfl).1
        cases br with
        | false =>
         have hR : R = 1 := HT.out
         subst hR
         clear HT
         go_wp2_with fail
         go_ret
         exact ⟨rfl, B6⟩
        | true =>
         have hR : R = 0 := HT.out
         subst hR
         clear HT
         go_wp2_with fail
         go_ret
         exact ⟨rfl, B6⟩
       ·have m2b : (mf == 2) = false := by rw [beq_eq_false_iff_ne]; exact m2
        have HT := Lib.hid (show R = _ by rw [HE3.out, if_neg m2, HC.out])
        (try simp only [] at HT)
        clear HE3 HC kb
        by_cases g0 : ms < 0
        ·clear HH kt hcc
         have hR : R = 26 := by rw [HT.out, if_pos (by omega)]
         subst hR
         clear HT
         go_wp2
         go_ret
         exact ⟨rfl, BZ⟩
        by_cases g1 : 64 < ms
        ·clear HH kt hcc
         have hR : R = 26 := by rw [HT.out, if_pos (by omega)]
         subst hR
         clear HT
         go_wp2
         go_ret
         exact ⟨rfl, BZ⟩
        by_cases g2 : ml < 0
        ·clear HH kt hcc
         have hR : R = 26 := by rw [HT.out, if_pos (by omega)]
         subst hR
         clear HT
         go_wp2
         go_ret
         exact ⟨rfl, BZ⟩
        by_cases g3 : 64 < ml
        ·clear HH kt hcc
         have hR : R = 26 := by rw [HT.out, if_pos (by omega)]
         subst hR
         clear HT
         go_wp2
         go_ret
         exact ⟨rfl, BZ⟩
        have HE2 := Lib.hid HT.out
        rw [if_neg (by omega)] at HE2
        clear HT
        have HT := HE2
        clear HE2
        by_cases g4 : mc.size = 0
        ·obtain rfl := str_empty mc g4
         clear HH kt hcc
         have hR : R = 5 := by rw [HT.out, if_pos g4]
         subst hR
         clear HT
         go_wp2
         go_ret
         exact ⟨rfl, BZ⟩
        have hne : (mc.toList == []) = false := by
         rw [Bool.eq_false_iff]
         intro r
         have := (bytes_beq_iff mc ⟨#[]⟩).1 (by simpa using r)
         rw [this] at g4
         exact g4 rfl
        by_cases g5 : 4096 < mc.size
        ·have hz : (4096 : Int) < (mc.size : Int) := by omega
         clear HH kt hcc
         have hR : R = 2 := by rw [HT.out, if_neg g4, if_pos g5]
         subst hR
         clear HT
         go_wp2
         go_ret
         exact ⟨rfl, BZ⟩
        have hz5 : ¬ (4096 : Int) < (mc.size : Int) := by omega
        by_cases g6 : 32 < mh.length
        ·have hz : (32 : Int) < (mh.length : Int) := by omega
         clear HH kt hcc
         have hR : R = 3 := by rw [HT.out, if_neg g4, if_neg g5, if_pos g6]
         subst hR
         clear HT
         go_wp2
         go_ret
         exact ⟨rfl, BZ⟩
        have hz6 : ¬ (32 : Int) < (mh.length : Int) := by omega
        have HF := Lib.hid (show Sp.handS pool mc.size mh = R by rw [HT.out, if_neg g4, if_neg g5, if_neg g6])
        clear HT g4 g5 g6
        go_wp2
        clear c0 c1 c2 c3 c4 c5 c6 e0 e1 e2 e3 e4 e5 e6
        go_loopw [131] (fun vk wr => ∃ k : Nat, vk = .int .i64 k ∧ k ≤ mh.length ∧ Below w.heap.size w wr ∧ Hid (wr.heap[w.heap.size]? = some (.cells (flC ⟨qA, qc, qI, qd, qX, qe, qY, qg⟩ ⟨pool, fl, th, su, ifs, flds, mths⟩) 26 (0, 0))) ∧ Hid (wr.heap[w.heap.size + 1]? = some (.cells #[.int .i64 mf, .int .i64 mn, .int .i64 md, .int .i64 ms, .int .i64 ml, .string mc, .slice mA mh.length mcap] 131 (0, 0))) ∧ Hid (Sp.handS pool mc.size (mh.drop k) = R)) (fun vk _ => mh.length - (RowKit.intOf vk).toNat)
        case atStart => exact ⟨0, by go_num, Nat.zero_le _, BZ, KZ, LZ, HF⟩
        case round =>
         clear BZ KZ LZ HF
         obtain ⟨k, rfl, hk, hb, hK, hL, hf⟩ := hrel
         have hbz := hb.size
         have hlb := blk_lt hK.out
         have hll := blk_lt hL.out
         obtain ⟨c0, c1, c2, c3, c4, c5, c6⟩ := flC_box hK.out
         have e5 := (blk_cell hL.out 5 (.string mc) rfl).1
         have e6 := (blk_cell hL.out 6 (.slice mA mh.length mcap) rfl).1
         by_cases hlt : k < mh.length
         ·obtain ⟨b, o, rfl, hrg⟩ := HH.out (by omega)
          obtain ⟨d0, d1, d2, d3⟩ := hn_cells hrg hlt
          have D0 := cell_below hb d0
          have D1 := cell_below hb d1
          have D2 := cell_below hb d2
          have D3 := cell_below hb d3
          have hzk : (k : Int) < (mh.length : Int) := by omega
          have hin := hcc.out _ (List.getElem_mem hlt)
          have hd : mh.drop k = mh[k] :: mh.drop (k + 1) := List.drop_eq_getElem_cons hlt
          have hf2 := hf.out
          rw [hd, Sp.handS] at hf2
          clear hf hd hrg d0 d1 d2 d3
          generalize mh[k] = h at *
          obtain ⟨hfr, hto, hat, hcl⟩ := h
          simp only [] at D0 D1 D2 D3 hin hf2
          have hf3 := Lib.hid hf2
          clear hf2
          by_cases p0 : hfr < 0
          ·have hR : R = 1 := by rw [← hf3.out, if_pos (by omega)]
           subst hR
           clear hf3
           go_wp2
           go_ret
           exact ⟨rfl, hb.alloc hbz _⟩
          by_cases p1 : hto ≤ hfr
          ·have hR : R = 1 := by rw [← hf3.out, if_pos (by omega)]
           subst hR
           clear hf3
           go_wp2
           go_ret
           exact ⟨rfl, hb.alloc hbz _⟩
          by_cases p2 : (mc.size : Int) < hto
          ·have hR : R = 1 := by rw [← hf3.out, if_pos (by omega)]
           subst hR
           clear hf3
           go_wp2
           go_ret
           exact ⟨rfl, hb.alloc hbz _⟩
          by_cases p3 : hat < 0
          ·have hR : R = 1 := by rw [← hf3.out, if_pos (by omega)]
           subst hR
           clear hf3
           go_wp2
           go_ret
           exact ⟨rfl, hb.alloc hbz _⟩
          by_cases p4 : (mc.size : Int) ≤ hat
          ·have hR : R = 1 := by rw [← hf3.out, if_pos (by omega)]
           subst hR
           clear hf3
           go_wp2
           go_ret
           exact ⟨rfl, hb.alloc hbz _⟩
          have hf4 := Lib.hid hf3.out
          rw [if_neg (by omega)] at hf4
          clear hf3
          have ka := Lib.hid (fun W hr => kt.out hcl hin W hr)
          generalize Sp.taggedS pool hcl 4 = ty at *
          have hbt := hb.alloc hbz (.cells #[.int .i64 hfr, .int .i64 hto, .int .i64 hat, .int .i64 hcl] 239)
          have hKt := Lib.hid (blk_old (o := .cells #[.int .i64 hfr, .int .i64 hto, .int .i64 hat, .int .i64 hcl] 239) hK.out)
          have hLt := Lib.hid (blk_old (o := .cells #[.int .i64 hfr, .int .i64 hto, .int .i64 hat, .int .i64 hcl] 239) hL.out)
          have hbtz := hbt.size
          have hrw := Lib.hid (rdF_below hr0.out (show Below w.heap.size w _ from hbt))
          by_cases hc0 : hcl = 0
          ·have hf5 := Lib.hid (show Sp.handS pool mc.size (mh.drop (k + 1)) = R by rw [← hf4.out, if_neg (by rintro ⟨h, _⟩; exact h hc0)])
           subst hc0
           clear hf4 ka hrw
           go_wp2
           go_roundw
           case rel => exact ⟨k + 1, by go_num, by omega, hbt, hKt, hLt, hf5⟩
           case measure => simp [RowKit.intOf]; omega
          ·have hcb : (hcl != 0) = true := by simp [hc0]
           go_wp2_with fail
           refine (ka.out _ hrw.out).mono ?_
           rintro e w14 ⟨rfl, hb14⟩
           have K14 := Lib.hid (blk_below hKt.out hb14)
           have L14 := Lib.hid (blk_below hLt.out hb14)
           have B14 := below_then hbt hbtz hb14
           clear hK hL hb hb14 ka hrw hbt hKt hLt hbtz c0 c1 c2 c3 c4 c5 c6 D0 D1 D2 D3 e5 e6 hlb hll p0 p1 p2 p3 p4
           cases ty with
           | false =>
            have hR : R = 7 := by rw [← hf4.out, if_pos ⟨hc0, rfl⟩]
            subst hR
            clear hf4
            go_wp2
            go_ret
            exact ⟨rfl, B14⟩
           | true =>
            have hf5 := Lib.hid (show Sp.handS pool mc.size (mh.drop (k + 1)) = R by rw [← hf4.out, if_neg (by rintro ⟨_, h⟩; cases h)])
            clear hf4
            go_wp2
            go_roundw
            case rel => exact ⟨k + 1, by go_num, by omega, B14, K14, L14, hf5⟩
            case measure => simp [RowKit.intOf]; omega
         ·obtain rfl : k = mh.length := by omega
          have hzk : ¬ (mh.length : Int) < (mh.length : Int) := by omega
          have hR : R = 0 := by rw [← hf.out, List.drop_length]; rfl
          subst hR
          clear hf
          go_wp2
          go_ret
          exact ⟨rfl, hb⟩
  ·have hleb : (le != 0) = true := by simp [hle]
   have hR : R = le := by rw [HE1.out, if_pos hle]
   subst hR
   clear HE1 hle
   go_wp2
   go_ret
   exact ⟨rfl, B2⟩
namespace Sp
def poolF (p : List Cn) : List Cn → Int
 | [] => 0
 | c :: l => if constS p c ≠ 0 then constS p c else poolF p l
def partsS (F : Fl) : Int :=
 if 2000 < F.pool.length then 3
 else if poolF F.pool F.pool ≠ 0 then poolF F.pool F.pool
 else if headS F.pool F.flags F.this F.super F.ifaces ≠ 0 then headS F.pool F.flags F.this F.super F.ifaces
 else if memS (fieldM F.pool F.flags) (keyM F.pool false) F.fields ≠ 0 then memS (fieldM F.pool F.flags) (keyM F.pool false) F.fields
 else memS (methodM F.pool F.flags) (keyM F.pool true) F.methods
end Sp
structure FlOk (F : FlP) : Prop where
 flags : In64 F.flags
 this : In64 F.this
 super : In64 F.super
 ifaces : ∀ i ∈ F.ifaces, In64 i
 pool : ∀ c ∈ F.pool, In64 c.tag ∧ In64 c.n ∧ In64 c.a ∧ In64 c.b ∧ In64 c.c ∧ c.text.size ≤ 1099511627776
 fields : ∀ m ∈ F.fields, In64 m.1.flags ∧ In64 m.1.name ∧ In64 m.1.desc
 methods : ∀ m ∈ F.methods, In64 m.1.flags ∧ In64 m.1.name ∧ In64 m.1.desc ∧ In64 m.1.stack ∧ In64 m.1.locals ∧ m.1.code.size ≤ 1099511627776 ∧ ∀ h ∈ m.1.hs, In64 h.fr ∧ In64 h.til ∧ In64 h.at_ ∧ In64 h.cls
theorem FlOk.texts {F : FlP} (h : FlOk F) : ∀ c ∈ F.pool, c.text.size ≤ 1099511627776 := fun c hc => (h.pool c hc).2.2.2.2.2
theorem fields_any (q : Sp.At) (F : FlP) (w : World) (hr : RdF w q F) (hF : FlOk F) (hff : FlagsOk F.flags) (hT : Tabs w) :
  Calls Tryz.prog 219 #[.agg (flC q F), .slice q.X F.fields.length q.e, .func (.func 220) #[] #[], .bool false] w fun e w' => e = .returned (.int .i64 (Sp.memS (Sp.fieldM F.pool F.flags) (Sp.keyM F.pool false) (F.fields.map (·.1)))) ∧ Below w.heap.size w w' :=
 members_any q F F.fields q.X q.e 220 false (Sp.fieldM F.pool F.flags) w hr hr.fields (fun m hm => ⟨(hF.fields m hm).2.1, (hF.fields m hm).2.2⟩) hF.texts (fun _ _ => by kernel_rfl)
  (fun m hm W hb => fieldM_any q F m W (rdF_below hr hb) hff (hF.fields m hm).2.1 (hF.fields m hm).2.2 (hr.fields.2 m hm).1 hF.texts (hT.below hb))
theorem methods_any (q : Sp.At) (F : FlP) (w : World) (hr : RdF w q F) (hF : FlOk F) (hff : FlagsOk F.flags) (hT : Tabs w) :
  Calls Tryz.prog 219 #[.agg (flC q F), .slice q.Y F.methods.length q.g, .func (.func 221) #[] #[], .bool true] w fun e w' => e = .returned (.int .i64 (Sp.memS (Sp.methodM F.pool F.flags) (Sp.keyM F.pool true) (F.methods.map (·.1)))) ∧ Below w.heap.size w w' :=
 members_any q F F.methods q.Y q.g 221 true (Sp.methodM F.pool F.flags) w hr hr.methods (fun m hm => ⟨(hF.methods m hm).2.1, (hF.methods m hm).2.2.1⟩) hF.texts (fun _ _ => by kernel_rfl)
  (fun m hm W hb => methodM_any q F m W (rdF_below hr hb) hff (hF.methods m hm).2.1 (hF.methods m hm).2.2.1 ((rdF_below hr hb).methods.2 m hm) (fun h hh => ((hF.methods m hm).2.2.2.2.2.2 h hh).2.2.2) (hF.methods m hm).2.2.2.2.2.1 hF.texts (hT.below hb))
theorem head_flags (p : List Sp.Cn) (fl th su : Int) (ifs : List Int) (h : Sp.headS p fl th su ifs = 0) : FlagsOk fl := by
 unfold FlagsOk
 unfold Sp.headS at h
 by_cases a : fl = 0 ∨ fl = 2 ∨ fl = 3
 ·exact a
 ·simp only [not_or] at a
  simp [a.1, a.2.1, a.2.2] at h
set_option maxHeartbeats 16000000 in
set_option maxRecDepth 100000 in
theorem parts_any (q : Sp.At) (F : FlP) (w : World) (hr : RdF w q F) (hF : FlOk F) (hT : Tabs w) :
  Calls Tryz.prog 158 #[.agg (flC q F)] w fun e w' => e = .returned (.int .i64 (Sp.partsS F.fl)) ∧ Below w.heap.size w w' := by
 have kc := Lib.hid (fun (c : Sp.Cn) (hc : c ∈ F.pool) W hr hT => constant_any q F c W hr (hF.pool c hc).2.2.1 (hF.pool c hc).2.2.2.1 (hF.pool c hc).2.2.2.2.1 (hF.pool c hc).2.2.2.2.2 hF.texts hT)
 have kh := Lib.hid (fun W hr => head_any q F W hr hF.this hF.super hF.ifaces)
 have kf := Lib.hid (fun hff W hr hT => fields_any q F W hr hF hff hT)
 have km := Lib.hid (fun hff W hr hT => methods_any q F W hr hF hff hT)
 have HE := Lib.hid (show Sp.partsS F.fl = _ by rw [Sp.partsS])
 generalize Sp.partsS F.fl = R at HE ⊢
 unfold FlP.fl at HE
 simp only [] at HE
 have hr0 := Lib.hid hr
 have hT0 := Lib.hid hT
 have hl := hr.pool.1
 have HP := Lib.hid hr.pool.2
 have hK := Lib.hid (blk_new w (.cells (flC q F) 26))
 have hB := (Below.refl w.heap.size w).alloc (Nat.le_refl _) (.cells (flC q F) 26)
 have KK : ∀ X : Array Value, X = flC q F → Hid (∀ c : Sp.Cn, c ∈ F.pool → ∀ W, Below w.heap.size w W → Calls Tryz.prog 217 #[.agg X, .agg #[.int .i64 c.tag, .string c.text, .int .i64 c.n, .int .i64 c.a, .int .i64 c.b, .int .i64 c.c]] W fun e w' => e = .returned (.int .i64 (Sp.constS F.pool c)) ∧ Below W.heap.size W w') ∧ Hid (∀ W, Below w.heap.size w W → Calls Tryz.prog 218 #[.agg X] W fun e w' => e = .returned (.int .i64 (Sp.headS F.pool F.flags F.this F.super F.ifaces)) ∧ Below W.heap.size W w') ∧ Hid (FlagsOk F.flags → ∀ W, Below w.heap.size w W → Calls Tryz.prog 219 #[.agg X, .slice q.X F.fields.length q.e, .func (.func 220) #[] #[], .bool false] W fun e w' => e = .returned (.int .i64 (Sp.memS (Sp.fieldM F.pool F.flags) (Sp.keyM F.pool false) (F.fields.map (·.1)))) ∧ Below W.heap.size W w') ∧ Hid (FlagsOk F.flags → ∀ W, Below w.heap.size w W → Calls Tryz.prog 219 #[.agg X, .slice q.Y F.methods.length q.g, .func (.func 221) #[] #[], .bool true] W fun e w' => e = .returned (.int .i64 (Sp.memS (Sp.methodM F.pool F.flags) (Sp.keyM F.pool true) (F.methods.map (·.1)))) ∧ Below W.heap.size W w') := by
  rintro X rfl
  exact ⟨Lib.hid (fun c hc W hb => kc.out c hc W (rdF_below hr hb) (hT.below hb)), Lib.hid (fun W hb => kh.out W (rdF_below hr hb)), Lib.hid (fun hff W hb => kf.out hff W (rdF_below hr hb) (hT.below hb)), Lib.hid (fun hff W hb => km.out hff W (rdF_below hr hb) (hT.below hb))⟩
 clear hr hF hT kc kh kf km hr0 hT0
 obtain ⟨pool, fl, th, su, ifs, flds, mths⟩ := F
 obtain ⟨qA, qc, qI, qd, qX, qe, qY, qg⟩ := q
 have hfl : flC ⟨qA, qc, qI, qd, qX, qe, qY, qg⟩ ⟨pool, fl, th, su, ifs, flds, mths⟩ = #[.slice qA pool.length qc, .int .i64 fl, .int .i64 th, .int .i64 su, .slice qI ifs.length qd, .slice qX flds.length qe, .slice qY mths.length qg] := rfl
 obtain ⟨kc, kh, kf, km⟩ := KK #[.slice qA pool.length qc, .int .i64 fl, .int .i64 th, .int .i64 su, .slice qI ifs.length qd, .slice qX flds.length qe, .slice qY mths.length qg] rfl
 clear KK
 simp only [] at kc kh kf km HE hl HP
 rw [hfl] at hK hB ⊢
 clear hfl
 by_cases h2000 : 2000 < pool.length
 ·have hR : R = 3 := by rw [HE.out, if_pos h2000]
  have hzz : decide ((2000 : Int) < (pool.length : Int)) = true := decide_eq_true (by omega)
  subst hR
  clear HE kc kh kf km HP
  obtain ⟨c0, f0⟩ := blk_cell hK.out 0 _ rfl
  go_enter Tryz.func158, Tryz.ntmps158
  go_wp2
  go_ret
  exact ⟨rfl, hB⟩
 have hzz : decide ((2000 : Int) < (pool.length : Int)) = false := decide_eq_false (by omega)
 have HE1 := HE.out
 rw [if_neg h2000] at HE1
 have hp0 : Sp.poolF pool (pool.drop 0) = Sp.poolF pool pool := rfl
 generalize Sp.poolF pool pool = P0 at HE1 hp0
 have HE2 := Lib.hid HE1
 have HP0 := Lib.hid hp0
 clear HE HE1 hp0
 have B0 := Lib.hid hB
 have K0 := hK
 clear hB
 obtain ⟨c0, f0⟩ := blk_cell hK.out 0 _ rfl
 clear hK
 have hff := Lib.hid (head_flags pool fl th su ifs)
 generalize Sp.headS pool fl th su ifs = hd at *
 generalize Sp.memS (Sp.fieldM pool fl) (Sp.keyM pool false) (flds.map (·.1)) = fd at *
 generalize Sp.memS (Sp.methodM pool fl) (Sp.keyM pool true) (mths.map (·.1)) = mt at *
 go_enter Tryz.func158, Tryz.ntmps158
 go_wp2
 go_loopw [15] (fun v15 wr => ∃ (k : Nat), v15 = .int .i64 k ∧ k ≤ pool.length ∧ Hid (Below w.heap.size w wr) ∧ Hid (wr.heap[w.heap.size]? = some (.cells #[.slice qA pool.length qc, .int .i64 fl, .int .i64 th, .int .i64 su, .slice qI ifs.length qd, .slice qX flds.length qe, .slice qY mths.length qg] 26 (0, 0))) ∧ Hid (Sp.poolF pool (pool.drop k) = P0)) (fun v15 _ => pool.length - (RowKit.intOf v15).toNat)
 case atStart => exact ⟨0, by go_num, Nat.zero_le _, B0, K0, HP0⟩
 case round =>
  clear B0 K0 HP0 c0 f0
  obtain ⟨k, rfl, hk, HB, hK, hf⟩ := hrel
  have hb := HB.out
  have hbz := hb.size
  have hlb := blk_lt hK.out
  obtain ⟨c0, c1, c2, c3, c4, c5, c6⟩ := flC_box (q := ⟨qA, qc, qI, qd, qX, qe, qY, qg⟩) (F := ⟨pool, fl, th, su, ifs, flds, mths⟩) hK.out
  simp only [] at c0 c1 c2 c3 c4 c5 c6
  by_cases hlt : k < pool.length
  ·obtain ⟨b, o, rfl, hrg⟩ := HP.out (by omega)
   obtain ⟨d0, d1, d2, d3, d4, d5⟩ := cn_cells hrg hlt
   have D0 := cell_below hb d0
   have D1 := cell_below hb d1
   have D2 := cell_below hb d2
   have D3 := cell_below hb d3
   have D4 := cell_below hb d4
   have D5 := cell_below hb d5
   have hzk : (k : Int) < (pool.length : Int) := by omega
   have kc1 := kc.out _ (List.getElem_mem hlt)
   have hf1 := hf.out
   rw [List.drop_eq_getElem_cons hlt, Sp.poolF] at hf1
   clear hf hrg d0 d1 d2 d3 d4 d5
   generalize pool[k] = cq at *
   obtain ⟨ct, cs, cn, ca, cb, cc⟩ := cq
   simp only [] at D0 D1 D2 D3 D4 D5 kc1
   generalize Sp.constS pool ⟨ct, cs, cn, ca, cb, cc⟩ = cv at *
   have hf2 := Lib.hid hf1
   have kc2 := Lib.hid kc1
   have hbt := hb.alloc hbz (.cells #[.int .i64 ct, .string cs, .int .i64 cn, .int .i64 ca, .int .i64 cb, .int .i64 cc] 145)
   have hKt := Lib.hid (blk_old (o := (.cells #[.int .i64 ct, .string cs, .int .i64 cn, .int .i64 ca, .int .i64 cb, .int .i64 cc] 145)) hK.out)
   have hbtz := hbt.size
   clear hf1 kc1
   go_wp2_with fail
   refine (kc2.out _ hbt).mono ?_
   rintro e w2 ⟨rfl, hb2⟩
   have K2 := Lib.hid (blk_below hKt.out hb2)
   have B2 := Lib.hid (below_then hbt hbtz hb2)
   clear hb HB hK hlb hbz c0 c1 c2 c3 c4 c5 c6 D0 D1 D2 D3 D4 D5 kc2 hbt hKt hbtz hb2
   by_cases hcz : cv = 0
   ·subst hcz
    have hf4 := Lib.hid (show Sp.poolF pool (pool.drop (k + 1)) = P0 by have := hf2.out; rwa [if_neg (by simp)] at this)
    clear hf2
    go_wp2
    go_roundw
    case rel => exact ⟨k + 1, by go_num, by omega, B2, K2, hf4⟩
    case measure => simp [RowKit.intOf]; omega
   ·have hcb : (cv != 0) = true := by simp [hcz]
    have hR : R = cv := by
     have := hf2.out
     rw [if_pos hcz] at this
     rw [HE2.out, ← this, if_pos hcz]
    subst hR
    clear hf2 hcz HE2
    go_wp2
    go_ret
    exact ⟨rfl, B2.out⟩
  ·obtain rfl : k = pool.length := by omega
   have hzk : ¬ (pool.length : Int) < (pool.length : Int) := by omega
   have hP0 : P0 = 0 := by have := hf.out; rw [List.drop_length] at this; exact this.symm
   subst hP0
   have HE3' := HE2.out
   rw [if_neg (by simp)] at HE3'
   have HE3 := Lib.hid HE3'
   clear HE3' HE2 hf kc
   go_wp2_with fail
   refine (kh.out _ hb).mono ?_
   rintro e w2 ⟨rfl, hb2⟩
   have K2 := Lib.hid (blk_below hK.out hb2)
   have B2 := below_then hb hbz hb2
   have z2 := B2.size
   clear hb HB hK hlb hbz c0 c1 c2 c3 c4 c5 c6 hb2 kh
   obtain ⟨c0, c1, c2, c3, c4, c5, c6⟩ := flC_box (q := ⟨qA, qc, qI, qd, qX, qe, qY, qg⟩) (F := ⟨pool, fl, th, su, ifs, flds, mths⟩) K2.out
   simp only [] at c0 c1 c2 c3 c4 c5 c6
   by_cases hz1 : hd = 0
   ·subst hz1
    have HE4' := HE3.out
    rw [if_neg (by simp)] at HE4'
    have HE4 := Lib.hid HE4'
    clear HE4' HE3
    go_wp2_with fail
    refine (kf.out (hff.out (by simp)) _ B2).mono ?_
    rintro e w3 ⟨rfl, hb3⟩
    have K3 := Lib.hid (blk_below K2.out hb3)
    have B3 := below_then B2 z2 hb3
    have z3 := B3.size
    clear B2 K2 z2 c0 c1 c2 c3 c4 c5 c6 hb3 kf
    obtain ⟨c0, c1, c2, c3, c4, c5, c6⟩ := flC_box (q := ⟨qA, qc, qI, qd, qX, qe, qY, qg⟩) (F := ⟨pool, fl, th, su, ifs, flds, mths⟩) K3.out
    simp only [] at c0 c1 c2 c3 c4 c5 c6
    by_cases hz2 : fd = 0
    ·subst hz2
     have hR : R = mt := by have := HE4.out; rwa [if_neg (by simp)] at this
     subst hR
     clear HE4
     go_wp2_with fail
     refine (km.out (hff.out (by simp)) _ B3).mono ?_
     rintro e w4 ⟨rfl, hb4⟩
     have B4 := below_then B3 z3 hb4
     clear B3 K3 z3 c0 c1 c2 c3 c4 c5 c6 hb4 km
     go_wp2
     go_ret
     exact ⟨rfl, B4⟩
    ·have hcb : (fd != 0) = true := by simp [hz2]
     have hR : R = fd := by rw [HE4.out, if_pos hz2]
     subst hR
     clear HE4 hz2
     go_wp2
     go_ret
     exact ⟨rfl, B3⟩
   ·have hcb : (hd != 0) = true := by simp [hz1]
    have hR : R = hd := by rw [HE3.out, if_pos hz1]
    subst hR
    clear HE3 hz1
    go_wp2
    go_ret
    exact ⟨rfl, B2⟩
namespace Sp
def textN : List Cn → Nat
 | [] => 0
 | c :: l => c.text.size + textN l
def codeN : List Mb → Nat
 | [] => 0
 | m :: l => (m.code.size + 8 * m.hs.length) + codeN l
def smallS (F : Fl) : Bool := decide (F.pool.length ≤ 3000 ∧ F.ifaces.length ≤ 100 ∧ F.fields.length ≤ 300 ∧ F.methods.length ≤ 300 ∧ textN F.pool + codeN F.methods + codeN F.fields < 100000)
end Sp
set_option maxHeartbeats 8000000 in
set_option maxRecDepth 100000 in
theorem small_any (q : Sp.At) (F : FlP) (w : World) (hr : RdF w q F) (hN : Sp.textN F.pool + Sp.codeN (F.methods.map (·.1)) + Sp.codeN (F.fields.map (·.1)) ≤ 4611686018427387904) :
  Calls Tryz.prog 22 #[.agg (flC q F)] w fun e w' => e = .returned (.bool (Sp.smallS F.fl)) ∧ Below w.heap.size w w' := by
 have HE := Lib.hid (show Sp.smallS F.fl = _ by rw [Sp.smallS])
 generalize Sp.smallS F.fl = R at HE ⊢
 have hK := Lib.hid (blk_new w (.cells (flC q F) 26))
 have hB := (Below.refl w.heap.size w).alloc (Nat.le_refl _) (.cells (flC q F) 26)
 have HP := Lib.hid hr.pool.2
 have HX := Lib.hid hr.fields.1.2
 have HY := Lib.hid hr.methods.1.2
 have hl1 := hr.pool.1
 have hl2 := hr.ifaces.1
 have hl3 := hr.fields.1.1
 have hl4 := hr.methods.1.1
 have hN0 := Lib.hid hN
 clear hr hN
 obtain ⟨pool, fl, th, su, ifs, flds, mths⟩ := F
 obtain ⟨qA, qc, qI, qd, qX, qe, qY, qg⟩ := q
 have hfl : flC ⟨qA, qc, qI, qd, qX, qe, qY, qg⟩ ⟨pool, fl, th, su, ifs, flds, mths⟩ = #[.slice qA pool.length qc, .int .i64 fl, .int .i64 th, .int .i64 su, .slice qI ifs.length qd, .slice qX flds.length qe, .slice qY mths.length qg] := rfl
 rw [hfl] at hK hB ⊢
 clear hfl
 unfold FlP.fl at HE
 simp only [] at HE HP HX HY hl1 hl2 hl3 hl4 hN0
 rw [List.length_map, List.length_map] at HE
 obtain ⟨c0, c1, c2, c3, c4, c5, c6⟩ := flC_box (q := ⟨qA, qc, qI, qd, qX, qe, qY, qg⟩) (F := ⟨pool, fl, th, su, ifs, flds, mths⟩) hK.out
 simp only [] at c0 c1 c2 c3 c4 c5 c6
 by_cases b1 : 3000 < pool.length
 ·have z1 : decide ((3000 : Int) < (pool.length : Int)) = true := decide_eq_true (by omega)
  have hR : R = false := by rw [HE.out]; exact decide_eq_false (by omega)
  subst hR
  clear HE b1
  go_enter Tryz.func22, Tryz.ntmps22
  go_wp2
  go_ret
  exact ⟨rfl, hB⟩
 have z1 : decide ((3000 : Int) < (pool.length : Int)) = false := decide_eq_false (by omega)
 by_cases b2 : 100 < ifs.length
 ·have z2 : decide ((100 : Int) < (ifs.length : Int)) = true := decide_eq_true (by omega)
  have hR : R = false := by rw [HE.out]; exact decide_eq_false (by omega)
  subst hR
  clear HE b2
  go_enter Tryz.func22, Tryz.ntmps22
  go_wp2
  go_ret
  exact ⟨rfl, hB⟩
 have z2 : decide ((100 : Int) < (ifs.length : Int)) = false := decide_eq_false (by omega)
 by_cases b3 : 300 < flds.length
 ·have z3 : decide ((300 : Int) < (flds.length : Int)) = true := decide_eq_true (by omega)
  have hR : R = false := by rw [HE.out]; exact decide_eq_false (by omega)
  subst hR
  clear HE b3
  go_enter Tryz.func22, Tryz.ntmps22
  go_wp2
  go_ret
  exact ⟨rfl, hB⟩
 have z3 : decide ((300 : Int) < (flds.length : Int)) = false := decide_eq_false (by omega)
 by_cases b4 : 300 < mths.length
 ·have z4 : decide ((300 : Int) < (mths.length : Int)) = true := decide_eq_true (by omega)
  have hR : R = false := by rw [HE.out]; exact decide_eq_false (by omega)
  subst hR
  clear HE b4
  go_enter Tryz.func22, Tryz.ntmps22
  go_wp2
  go_ret
  exact ⟨rfl, hB⟩
 have z4 : decide ((300 : Int) < (mths.length : Int)) = false := decide_eq_false (by omega)
 have hR0 : R = decide (Sp.textN pool + Sp.codeN (mths.map (·.1)) + Sp.codeN (flds.map (·.1)) < 100000) := by
  rw [HE.out]
  by_cases q : Sp.textN pool + Sp.codeN (mths.map (·.1)) + Sp.codeN (flds.map (·.1)) < 100000
  ·rw [decide_eq_true q]; exact decide_eq_true (by omega)
  ·rw [decide_eq_false q]; exact decide_eq_false (by omega)
 have HR := Lib.hid hR0
 clear HE hR0 b1 b2 b3 b4
 have B0 := Lib.hid hB
 clear hB
 have n0 : Hid (0 + Sp.textN (pool.drop 0) = Sp.textN pool) := Lib.hid (by simp)
 have qM : Sp.codeN ((mths.map (·.1)).drop 0) = Sp.codeN (mths.map (·.1)) := rfl
 have qX' : Sp.codeN ((flds.map (·.1)).drop 0) = Sp.codeN (flds.map (·.1)) := rfl
 generalize Sp.codeN (mths.map (·.1)) = CM at *
 generalize Sp.codeN (flds.map (·.1)) = CX at *
 have hCM := Lib.hid qM
 have hCX := Lib.hid qX'
 clear qM qX'
 go_enter Tryz.func22, Tryz.ntmps22
 go_wp2
 go_loopw [3, 4] (fun v3 v4 wr => ∃ (n k : Nat), v3 = .int .i64 n ∧ v4 = .int .i64 k ∧ k ≤ pool.length ∧ Hid (n + Sp.textN (pool.drop k) = Sp.textN pool) ∧ Hid (Below w.heap.size w wr) ∧ Hid (wr.heap[w.heap.size]? = some (.cells #[.slice qA pool.length qc, .int .i64 fl, .int .i64 th, .int .i64 su, .slice qI ifs.length qd, .slice qX flds.length qe, .slice qY mths.length qg] 26 (0, 0)))) (fun _ v4 _ => pool.length - (RowKit.intOf v4).toNat)
 case atStart => exact ⟨0, 0, by go_num, by go_num, Nat.zero_le _, n0, B0, hK⟩
 case round =>
  clear B0 hK n0 c0 c1 c2 c3 c4 c5 c6
  obtain ⟨n, k, rfl, rfl, hk, hn, HB, hK⟩ := hrel
  obtain ⟨c0, c1, c2, c3, c4, c5, c6⟩ := flC_box (q := ⟨qA, qc, qI, qd, qX, qe, qY, qg⟩) (F := ⟨pool, fl, th, su, ifs, flds, mths⟩) hK.out
  simp only [] at c0 c1 c2 c3 c4 c5 c6
  by_cases hlt : k < pool.length
  ·obtain ⟨b, o, rfl, hrg⟩ := HP.out (by omega)
   obtain ⟨d0, d1, d2, d3, d4, d5⟩ := cn_cells hrg hlt
   have D1 := cell_below HB.out d1
   have hzk : (k : Int) < (pool.length : Int) := by omega
   have hn1 := hn.out
   rw [List.drop_eq_getElem_cons hlt, Sp.textN] at hn1
   clear hn hrg d0 d1 d2 d3 d4 d5
   generalize pool[k].text = tx at *
   have hwr : IntKind.i64.wrap ((n : Int) + (tx.size : Int)) = (n : Int) + (tx.size : Int) := IntWalk.i64_in _ (by have := hN0.out; omega)
   have hn := Lib.hid hn1
   clear hn1
   go_wp2
   go_roundw
   case rel => exact ⟨n + tx.size, k + 1, by go_num, by go_num, by omega, Lib.hid (by have := hn.out; omega), HB, hK⟩
   case measure => simp [RowKit.intOf]; omega
  ·obtain rfl : k = pool.length := by omega
   have hzk : ¬ (pool.length : Int) < (pool.length : Int) := by omega
   have hn1 : Hid (n = Sp.textN pool) := Lib.hid (by have := hn.out; rw [List.drop_length] at this; simpa [Sp.textN] using this)
   have i1 := Lib.hid (show n + Sp.codeN ((mths.map (·.1)).drop 0) = Sp.textN pool + CM by rw [hn1.out, hCM.out])
   clear hn hn1 hCM HP
   go_wp2
   go_loopw [3, 5] (fun v3 v5 wr => ∃ (n k : Nat), v3 = .int .i64 n ∧ v5 = .int .i64 k ∧ k ≤ mths.length ∧ Hid (n + Sp.codeN ((mths.map (·.1)).drop k) = Sp.textN pool + CM) ∧ Hid (Below w.heap.size w wr) ∧ Hid (wr.heap[w.heap.size]? = some (.cells #[.slice qA pool.length qc, .int .i64 fl, .int .i64 th, .int .i64 su, .slice qI ifs.length qd, .slice qX flds.length qe, .slice qY mths.length qg] 26 (0, 0)))) (fun _ v5 _ => mths.length - (RowKit.intOf v5).toNat)
   case atStart => exact ⟨n, 0, by go_num, by go_num, Nat.zero_le _, i1, HB, hK⟩
   case round =>
    clear i1 HB hK c0 c1 c2 c3 c4 c5 c6
    obtain ⟨n, k, rfl, rfl, hk, hn, HB, hK⟩ := hrel
    obtain ⟨c0, c1, c2, c3, c4, c5, c6⟩ := flC_box (q := ⟨qA, qc, qI, qd, qX, qe, qY, qg⟩) (F := ⟨pool, fl, th, su, ifs, flds, mths⟩) hK.out
    simp only [] at c0 c1 c2 c3 c4 c5 c6
    by_cases hlt : k < mths.length
    ·obtain ⟨b, o, rfl, hrg⟩ := HY.out (by omega)
     obtain ⟨d0, d1, d2, d3, d4, d5, d6⟩ := mb_cells hrg hlt
     have D5 := cell_below HB.out d5
     have D6 := cell_below HB.out d6
     have hzk : (k : Int) < (mths.length : Int) := by omega
     have hn1 := hn.out
     have hd : (mths.map (·.1)).drop k = mths[k].1 :: (mths.map (·.1)).drop (k + 1) := by
      rw [List.drop_eq_getElem_cons (by simpa using hlt), List.getElem_map]
     rw [hd, Sp.codeN] at hn1
     clear hn hd hrg d0 d1 d2 d3 d4 d5 d6
     generalize mths[k] = mq at *
     obtain ⟨⟨mf, mn, md, ms, ml, mc, mh⟩, mA, mcap⟩ := mq
     simp only [] at D5 D6 hn1
     have hbd : n + (mc.size + 8 * mh.length) ≤ 4611686018427387904 := by have := hN0.out; omega
     have hw1 : IntKind.i64.wrap ((n : Int) + (mc.size : Int)) = (n : Int) + (mc.size : Int) := IntWalk.i64_in _ (by omega)
     have hw2 : IntKind.i64.wrap (8 * (mh.length : Int)) = 8 * (mh.length : Int) := IntWalk.i64_in _ (by omega)
     have hw3 : IntKind.i64.wrap ((n : Int) + (mc.size : Int) + 8 * (mh.length : Int)) = (n : Int) + (mc.size : Int) + 8 * (mh.length : Int) := IntWalk.i64_in _ (by omega)
     have hn := Lib.hid hn1
     clear hn1 hbd
     go_wp2
     go_quiet (fail)
     have hB9 : Hid (Below w.heap.size w (wr.drewN nq)) := Lib.hid ⟨HB.out.os, HB.out.tape, HB.out.output, HB.out.size, HB.out.block⟩
     have hK9 : Hid ((wr.drewN nq).heap[w.heap.size]? = _) := Lib.hid hK.out
     go_wp2
     go_roundw
     case rel => exact ⟨n + (mc.size + 8 * mh.length), k + 1, by go_num, by go_num, by omega, Lib.hid (by have := hn.out; omega), hB9, hK9⟩
     case measure => simp [RowKit.intOf]; omega
    ·obtain rfl : k = mths.length := by omega
     have hzk : ¬ (mths.length : Int) < (mths.length : Int) := by omega
     have hn1 := hn.out
     rw [List.drop_eq_nil_of_le (by simp)] at hn1
     simp only [Sp.codeN, Nat.add_zero] at hn1
     have i1 := Lib.hid (show n + Sp.codeN ((flds.map (·.1)).drop 0) = Sp.textN pool + CM + CX by rw [hn1, hCX.out])
     clear hn hn1 hCX HY
     go_wp2
     go_loopw [3, 6] (fun v3 v6 wr => ∃ (n k : Nat), v3 = .int .i64 n ∧ v6 = .int .i64 k ∧ k ≤ flds.length ∧ Hid (n + Sp.codeN ((flds.map (·.1)).drop k) = Sp.textN pool + CM + CX) ∧ Hid (Below w.heap.size w wr) ∧ Hid (wr.heap[w.heap.size]? = some (.cells #[.slice qA pool.length qc, .int .i64 fl, .int .i64 th, .int .i64 su, .slice qI ifs.length qd, .slice qX flds.length qe, .slice qY mths.length qg] 26 (0, 0)))) (fun _ v6 _ => flds.length - (RowKit.intOf v6).toNat)
     case atStart => exact ⟨n, 0, by go_num, by go_num, Nat.zero_le _, i1, HB, hK⟩
     case round =>
      clear i1 HB hK c0 c1 c2 c3 c4 c5 c6
      obtain ⟨n, k, rfl, rfl, hk, hn, HB, hK⟩ := hrel
      obtain ⟨c0, c1, c2, c3, c4, c5, c6⟩ := flC_box (q := ⟨qA, qc, qI, qd, qX, qe, qY, qg⟩) (F := ⟨pool, fl, th, su, ifs, flds, mths⟩) hK.out
      simp only [] at c0 c1 c2 c3 c4 c5 c6
      by_cases hlt : k < flds.length
      ·obtain ⟨b, o, rfl, hrg⟩ := HX.out (by omega)
       obtain ⟨d0, d1, d2, d3, d4, d5, d6⟩ := mb_cells hrg hlt
       have D5 := cell_below HB.out d5
       have D6 := cell_below HB.out d6
       have hzk : (k : Int) < (flds.length : Int) := by omega
       have hn1 := hn.out
       have hd : (flds.map (·.1)).drop k = flds[k].1 :: (flds.map (·.1)).drop (k + 1) := by
        rw [List.drop_eq_getElem_cons (by simpa using hlt), List.getElem_map]
       rw [hd, Sp.codeN] at hn1
       clear hn hd hrg d0 d1 d2 d3 d4 d5 d6
       generalize flds[k] = mq at *
       obtain ⟨⟨mf, mn, md, ms, ml, mc, mh⟩, mA, mcap⟩ := mq
       simp only [] at D5 D6 hn1
       have hbd : n + (mc.size + 8 * mh.length) ≤ 4611686018427387904 := by have := hN0.out; omega
       have hw1 : IntKind.i64.wrap ((n : Int) + (mc.size : Int)) = (n : Int) + (mc.size : Int) := IntWalk.i64_in _ (by omega)
       have hw2 : IntKind.i64.wrap (8 * (mh.length : Int)) = 8 * (mh.length : Int) := IntWalk.i64_in _ (by omega)
       have hw3 : IntKind.i64.wrap ((n : Int) + (mc.size : Int) + 8 * (mh.length : Int)) = (n : Int) + (mc.size : Int) + 8 * (mh.length : Int) := IntWalk.i64_in _ (by omega)
       have hn := Lib.hid hn1
       clear hn1 hbd
       go_wp2
       go_quiet (fail)
       have hB9 : Hid (Below w.heap.size w (wr.drewN nq)) := Lib.hid ⟨HB.out.os, HB.out.tape, HB.out.output, HB.out.size, HB.out.block⟩
       have hK9 : Hid ((wr.drewN nq).heap[w.heap.size]? = _) := Lib.hid hK.out
       go_wp2
       go_roundw
       case rel => exact ⟨n + (mc.size + 8 * mh.length), k + 1, by go_num, by go_num, by omega, Lib.hid (by have := hn.out; omega), hB9, hK9⟩
       case measure => simp [RowKit.intOf]; omega
      ·obtain rfl : k = flds.length := by omega
       have hzk : ¬ (flds.length : Int) < (flds.length : Int) := by omega
       have hn1 := hn.out
       rw [List.drop_eq_nil_of_le (by simp)] at hn1
       simp only [Sp.codeN, Nat.add_zero] at hn1
       have HR2 := HR.out
       rw [← hn1] at HR2
       clear hn hn1
       by_cases q : n < 100000
       ·have hzz : decide ((n : Int) < (100000 : Int)) = true := decide_eq_true (by omega)
        have hR : R = true := by rw [HR2]; exact decide_eq_true q
        subst hR
        clear HR HR2 q
        go_wp2
        go_ret
        exact ⟨rfl, HB.out⟩
       ·have hzz : decide ((n : Int) < (100000 : Int)) = false := decide_eq_false (by omega)
        have hR : R = false := by rw [HR2]; exact decide_eq_false q
        subst hR
        clear HR HR2 q
        go_wp2
        go_ret
        exact ⟨rfl, HB.out⟩
end Go.Proofs.YtjjlcoimaihdoaaGreatDoor
section
set_option linter.unusedVariables false
set_option linter.unusedSimpArgs false
set_option maxRecDepth 100000
namespace Go.Proofs.YtjjlcoimaihdoaaGreatDoor
open Go.ChangeShapes Go.WideShapes Go.RowKit Go.Lib Go.Deep
section
variable {H : Type} {enc : TypeId × Value → H} {W : World} {base : Nat} {sp : Nat → Bool} {held : Bool}
def sumL : List Nat → Nat
 | [] => 0
 | a :: l => a + sumL l
theorem bulk_map {D : Nat → DataW H} : ∀ l : List Nat, Rows.uptoBulkAll (l.map D) = sumL (l.map fun i => Rows.uptoBulk (D i))
 | [] => rfl
 | a :: l => by simp only [List.map_cons, Rows.uptoBulkAll, sumL, bulk_map l]
end
end Go.Proofs.YtjjlcoimaihdoaaGreatDoor
end
section
set_option linter.unusedVariables false
set_option linter.unusedSimpArgs false
set_option maxRecDepth 100000
namespace Go.Proofs.YtjjlcoimaihdoaaGreatDoor
open Go.ChangeShapes Go.WideShapes Go.RowKit Go.Lib Go.Deep
theorem sumL_map {α β : Type} (f : α → β) (g : β → Nat) : ∀ l : List α, sumL ((l.map f).map g) = sumL (l.map fun i => g (f i))
 | [] => rfl
 | a :: l => by simp only [List.map_cons, sumL, sumL_map f g l]
theorem sumL_le {α : Type} (f g : α → Nat) : ∀ l : List α, (∀ x ∈ l, f x ≤ g x) → sumL (l.map f) ≤ sumL (l.map g)
 | [], _ => Nat.le_refl _
 | a :: l, h => by
  have h1 := h a (List.mem_cons_self ..)
  have h2 := sumL_le f g l (fun x hx => h x (List.mem_cons_of_mem _ hx))
  simp only [List.map_cons, sumL]
  omega
theorem sumL_mem {α : Type} (f : α → Nat) : ∀ (l : List α) (x : α), x ∈ l → f x ≤ sumL (l.map f)
 | [], _, h => by cases h
 | a :: l, x, h => by
  simp only [List.map_cons, sumL]
  rcases List.mem_cons.1 h with rfl | h
  ·omega
  ·have := sumL_mem f l x h; omega
section
variable {H : Type} {enc : TypeId × Value → H} {W : World} {base : Nat} {sp : Nat → Bool} {held : Bool}
theorem sl_cells {α : Type} {E : α → List Value} {Q : α → Prop} {m : α → Nat} {n : Nat} (hn : ∀ x, (E x).length = n) (h0n : 0 < n) (a0 : α) {t e : TypeId} (ht : Tryz.prog.underlying t = some (.slice e)) (hC : Tryz.prog.cellsOf e = n)
  (hel : ∀ {fuel : Nat} {cs : List Value} {x : DataW H × List MemPlace}, DataW.trod enc Tryz.prog W base sp held fuel e cs = some x → ∃ a : α, cs = E a ∧ Q a ∧ m a ≤ Rows.uptoBulk x.1)
  {fuel : Nat} {cs : List Value} {x : DataW H × List MemPlace} (h : DataW.trod enc Tryz.prog W base sp held fuel t cs = some x) :
  ∃ (A : Option Addr) (c : Nat) (l : List α), cs = [.slice A l.length c] ∧ RdL E W A l ∧ (∀ a ∈ l, Q a) ∧ sumL (l.map m) ≤ Rows.uptoBulk x.1 ∧ (l.length ≤ c ∧ (A = none → c = 0)) := by
 rcases open_slice ht h with ⟨h1, h2⟩ | ⟨a, len, cap, mm, k, D, Pl, h1, hb, hl, hm, hmm, hx, hi⟩
 ·exact ⟨none, 0, [], h1, rdL_nil _ _ _, by simp, by simp [sumL], by simp⟩
 ·rw [hC] at hi
  have hlm : len ≤ mm := by rw [hmm]; split <;> omega
  have hch : ∀ i, i < len → ∃ y : α, (∀ j v, (E y)[j]? = some v → W.cell? ((a.add (i * n)).add j) = some v) ∧ Q y ∧ m y ≤ Rows.uptoBulk (D i) := by
   intro i hlt
   obtain ⟨cs', hc, ht'⟩ := hi i (by omega)
   obtain ⟨y, e1, e2, e3⟩ := hel ht'
   obtain ⟨_, hcl, hat⟩ := World.cells?_some hc
   subst e1
   refine ⟨y, fun j v hj => ?_, e2, e3⟩
   have hjl := (List.getElem?_eq_some_iff.1 hj).1
   rw [hn] at hjl
   have := hat j (by first | exact hjl | (rw [hn]; exact hjl))
   rw [this]
   simpa using hj
  haveI : Inhabited α := ⟨a0⟩
  obtain ⟨f, hf⟩ := choose_lt (α := α) hch
  have hlen : ((List.range len).map f).length = len := by simp
  refine ⟨some a, cap, (List.range len).map f, by rw [hlen]; exact h1, ⟨by rw [hlen]; unfold maxLen at hm; omega, fun h0 => ?_⟩, ?_, ?_, by rw [hlen]; exact ⟨hl, by simp⟩⟩
  ·rw [hlen] at h0
   obtain ⟨b, off, spot⟩ := a
   have hspot : spot = none := by
    have hv : (E (f 0))[0]? = some ((E (f 0))[0]'(by rw [hn]; exact h0n)) := List.getElem?_eq_getElem _
    have := World.cell?_spot ((hf 0 h0).1 0 _ hv)
    simpa [Addr.add] using this
   subst hspot
   refine ⟨b, off, rfl, fun q v hq => ?_⟩
   have hlenq := (List.getElem?_eq_some_iff.1 hq).1
   rw [flat_length E n hn, hlen] at hlenq
   have hj : q % n < n := Nat.mod_lt _ h0n
   have hi2 : q / n < len := (Nat.div_lt_iff_lt_mul h0n).2 hlenq
   have hqe : q / n * n + q % n = q := by rw [Nat.mul_comm]; exact Nat.div_add_mod q n
   have hg := flat_get E n hn ((List.range len).map f) (q / n) (q % n) (by rw [hlen]; exact hi2) hj
   rw [hqe, hq] at hg
   simp only [List.getElem_map, List.getElem_range] at hg
   have := (hf (q / n) hi2).1 (q % n) v hg.symm
   rw [Addr.add_mid, Addr.add_mid, Nat.add_assoc, hqe] at this
   exact this
  ·intro y hy
   obtain ⟨i, hi1, rfl⟩ := List.mem_map.1 hy
   exact (hf i (List.mem_range.1 hi1)).2.1
  ·rw [hx]
   simp only [Rows.uptoBulk, bulk_map]
   rw [sumL_map]
   have := sumL_le (fun i => m (f i)) (fun i => Rows.uptoBulk (D i)) (List.range len) (fun i hi => (hf i (List.mem_range.1 hi)).2.2)
   omega
def intC (a : Int) : List Value := [.int .i64 a]
theorem rdN_of {W : World} {A : Option Addr} {l : List Int} (h : RdL intC W A l) : RdN .i64 W A l := by
 refine ⟨h.1, fun h0 => ?_⟩
 obtain ⟨b, o, hA, hr⟩ := h.2 h0
 refine ⟨b, o, hA, fun j hj => ?_⟩
 have := rdL_get 1 (fun _ => rfl) hr hj 0 (by decide) rfl
 rw [List.getD_eq_getElem?_getD, List.getElem?_eq_getElem hj]
 simpa using this
theorem ints_cells {fuel : Nat} {cs : List Value} {x : DataW H × List MemPlace} (h : DataW.trod enc Tryz.prog W base sp held fuel 23 cs = some x) :
  ∃ (A : Option Addr) (c : Nat) (l : List Int), cs = [.slice A l.length c] ∧ RdN .i64 W A l ∧ (∀ a ∈ l, In64 a) := by
 obtain ⟨A, c, l, h1, h2, h3, h4, h5⟩ := sl_cells (E := intC) (Q := fun a => In64 a) (m := fun _ => 1) (n := 1) (fun _ => rfl) (by decide) (0 : Int) Tryz.underlying23 (by kernel_rfl) (fun {fuel cs x} hx => by
  obtain ⟨a, e1, e2, e3⟩ := DataW.trod_int Tryz.underlying3 hx
  exact ⟨a, e1, (Lit.wf_int_iff _ _).1 e3, by rw [e2]; exact Nat.le_refl _⟩) h
 exact ⟨A, c, l, h1, rdN_of h2, h3⟩
theorem cn_open {fuel : Nat} {cs : List Value} {x : DataW H × List MemPlace} (h : DataW.trod enc Tryz.prog W base sp held fuel 145 cs = some x) :
  ∃ c : Sp.Cn, cs = Sp.cnC c ∧ (In64 c.tag ∧ In64 c.n ∧ In64 c.a ∧ In64 c.b ∧ In64 c.c) ∧ c.text.size ≤ Rows.uptoBulk x.1 := by
 obtain ⟨xs, n, hn, hx, hl, hlen, hf⟩ := DataW.trod_struct Tryz.underlying145 h
 have hC : Tryz.prog.cellsOf 145 = 6 := by kernel_rfl
 have h3 : Tryz.prog.cellsOf 3 = 1 := by kernel_rfl
 have h9 : Tryz.prog.cellsOf 9 = 1 := by kernel_rfl
 rw [hC] at hl
 match cs, hl with
 | [c0, c1, c2, c3, c4, c5], _ =>
  match xs, hlen with
  | [x0, x1, x2, x3, x4, x5], _ =>
   have f0 : DataW.trod enc Tryz.prog W base sp held n 3 [c0] = some x0 := by simpa [h3] using hf 0 _ rfl
   have f1 : DataW.trod enc Tryz.prog W base sp held n 9 [c1] = some x1 := by simpa [h3, h9] using hf 1 _ rfl
   have f2 : DataW.trod enc Tryz.prog W base sp held n 3 [c2] = some x2 := by simpa [h3, h9] using hf 2 _ rfl
   have f3 : DataW.trod enc Tryz.prog W base sp held n 3 [c3] = some x3 := by simpa [h3, h9] using hf 3 _ rfl
   have f4 : DataW.trod enc Tryz.prog W base sp held n 3 [c4] = some x4 := by simpa [h3, h9] using hf 4 _ rfl
   have f5 : DataW.trod enc Tryz.prog W base sp held n 3 [c5] = some x5 := by simpa [h3, h9] using hf 5 _ rfl
   clear hf h
   obtain ⟨n0, a1, a2, a3⟩ := DataW.trod_int Tryz.underlying3 f0
   obtain ⟨s1, b1, b2, b3⟩ := DataW.trod_string Tryz.underlying9 f1
   obtain ⟨n2, d1, d2, d3⟩ := DataW.trod_int Tryz.underlying3 f2
   obtain ⟨n3, g1, g2, g3⟩ := DataW.trod_int Tryz.underlying3 f3
   obtain ⟨n4, i1, i2, i3⟩ := DataW.trod_int Tryz.underlying3 f4
   obtain ⟨n5, j1, j2, j3⟩ := DataW.trod_int Tryz.underlying3 f5
   simp at a1 b1 d1 g1 i1 j1
   subst a1 b1 d1 g1 i1 j1
   refine ⟨⟨n0, s1, n2, n3, n4, n5⟩, rfl, ⟨(Lit.wf_int_iff _ _).1 a3, (Lit.wf_int_iff _ _).1 d3, (Lit.wf_int_iff _ _).1 g3, (Lit.wf_int_iff _ _).1 i3, (Lit.wf_int_iff _ _).1 j3⟩, ?_⟩
   rw [hx]
   have hz : s1.data.toList.length = s1.size := rfl
   simp only [List.map_cons, List.map_nil, Rows.uptoBulk, Rows.uptoBulkAll, b2, hz]
   omega
theorem cns_cells {fuel : Nat} {cs : List Value} {x : DataW H × List MemPlace} (h : DataW.trod enc Tryz.prog W base sp held fuel 22 cs = some x) :
  ∃ (A : Option Addr) (c : Nat) (l : List Sp.Cn), cs = [.slice A l.length c] ∧ RdL Sp.cnC W A l ∧ (∀ c ∈ l, In64 c.tag ∧ In64 c.n ∧ In64 c.a ∧ In64 c.b ∧ In64 c.c) ∧ sumL (l.map fun c => c.text.size) ≤ Rows.uptoBulk x.1 := by
 obtain ⟨A, c, l, h1, h2, h3, h4, h5⟩ := sl_cells (E := Sp.cnC) (Q := fun c => In64 c.tag ∧ In64 c.n ∧ In64 c.a ∧ In64 c.b ∧ In64 c.c) (m := fun c => c.text.size) (n := 6) Sp.cnC_len (by decide) ⟨0, ⟨#[]⟩, 0, 0, 0, 0⟩ Tryz.underlying22 (by kernel_rfl) (fun {fuel cs x} hx => cn_open hx) h
 exact ⟨A, c, l, h1, h2, h3, h4⟩
theorem hn_open {fuel : Nat} {cs : List Value} {x : DataW H × List MemPlace} (h : DataW.trod enc Tryz.prog W base sp held fuel 239 cs = some x) :
  ∃ c : Sp.Hn, cs = Sp.hnC c ∧ (In64 c.fr ∧ In64 c.til ∧ In64 c.at_ ∧ In64 c.cls) ∧ 1 ≤ Rows.uptoBulk x.1 := by
 obtain ⟨xs, n, hn, hx, hl, hlen, hf⟩ := DataW.trod_struct Tryz.underlying239 h
 have hC : Tryz.prog.cellsOf 239 = 4 := by kernel_rfl
 have h3 : Tryz.prog.cellsOf 3 = 1 := by kernel_rfl
 rw [hC] at hl
 match cs, hl with
 | [c0, c1, c2, c3], _ =>
  match xs, hlen with
  | [x0, x1, x2, x3], _ =>
   have f0 : DataW.trod enc Tryz.prog W base sp held n 3 [c0] = some x0 := by simpa [h3] using hf 0 _ rfl
   have f1 : DataW.trod enc Tryz.prog W base sp held n 3 [c1] = some x1 := by simpa [h3] using hf 1 _ rfl
   have f2 : DataW.trod enc Tryz.prog W base sp held n 3 [c2] = some x2 := by simpa [h3] using hf 2 _ rfl
   have f3 : DataW.trod enc Tryz.prog W base sp held n 3 [c3] = some x3 := by simpa [h3] using hf 3 _ rfl
   clear hf h
   obtain ⟨n0, a1, a2, a3⟩ := DataW.trod_int Tryz.underlying3 f0
   obtain ⟨n1, b1, b2, b3⟩ := DataW.trod_int Tryz.underlying3 f1
   obtain ⟨n2, d1, d2, d3⟩ := DataW.trod_int Tryz.underlying3 f2
   obtain ⟨n3, g1, g2, g3⟩ := DataW.trod_int Tryz.underlying3 f3
   simp at a1 b1 d1 g1
   subst a1 b1 d1 g1
   refine ⟨⟨n0, n1, n2, n3⟩, rfl, ⟨(Lit.wf_int_iff _ _).1 a3, (Lit.wf_int_iff _ _).1 b3, (Lit.wf_int_iff _ _).1 d3, (Lit.wf_int_iff _ _).1 g3⟩, ?_⟩
   rw [hx]
   simp only [Rows.uptoBulk]
   omega
theorem hns_cells {fuel : Nat} {cs : List Value} {x : DataW H × List MemPlace} (h : DataW.trod enc Tryz.prog W base sp held fuel 129 cs = some x) :
  ∃ (A : Option Addr) (c : Nat) (l : List Sp.Hn), cs = [.slice A l.length c] ∧ RdL Sp.hnC W A l ∧ (∀ c ∈ l, In64 c.fr ∧ In64 c.til ∧ In64 c.at_ ∧ In64 c.cls) ∧ l.length ≤ Rows.uptoBulk x.1 := by
 obtain ⟨A, c, l, h1, h2, h3, h4, h5⟩ := sl_cells (E := Sp.hnC) (Q := fun c => In64 c.fr ∧ In64 c.til ∧ In64 c.at_ ∧ In64 c.cls) (m := fun _ => 1) (n := 4) Sp.hnC_len (by decide) ⟨0, 0, 0, 0⟩ Tryz.underlying129 (by kernel_rfl) (fun {fuel cs x} hx => hn_open hx) h
 refine ⟨A, c, l, h1, h2, h3, Nat.le_trans ?_ h4⟩
 clear h1 h2 h3 h4 h5
 induction l with
 | nil => simp
 | cons a l ih => simp only [List.length_cons, List.map_cons, sumL]; omega
def MbOk (W : World) (m : Sp.Mp) : Prop := RdL Sp.hnC W m.2.1 m.1.hs ∧ In64 m.1.flags ∧ In64 m.1.name ∧ In64 m.1.desc ∧ In64 m.1.stack ∧ In64 m.1.locals ∧ ∀ h ∈ m.1.hs, In64 h.fr ∧ In64 h.til ∧ In64 h.at_ ∧ In64 h.cls
theorem mb_open {fuel : Nat} {cs : List Value} {x : DataW H × List MemPlace} (h : DataW.trod enc Tryz.prog W base sp held fuel 131 cs = some x) :
  ∃ m : Sp.Mp, cs = Sp.mbC m ∧ MbOk W m ∧ m.1.code.size + m.1.hs.length ≤ Rows.uptoBulk x.1 := by
 obtain ⟨xs, n, hn, hx, hl, hlen, hf⟩ := DataW.trod_struct Tryz.underlying131 h
 have hC : Tryz.prog.cellsOf 131 = 7 := by kernel_rfl
 have h3 : Tryz.prog.cellsOf 3 = 1 := by kernel_rfl
 have h9 : Tryz.prog.cellsOf 9 = 1 := by kernel_rfl
 have hs : Tryz.prog.cellsOf 129 = 1 := by kernel_rfl
 rw [hC] at hl
 match cs, hl with
 | [c0, c1, c2, c3, c4, c5, c6], _ =>
  match xs, hlen with
  | [x0, x1, x2, x3, x4, x5, x6], _ =>
   have f0 : DataW.trod enc Tryz.prog W base sp held n 3 [c0] = some x0 := by simpa [h3] using hf 0 _ rfl
   have f1 : DataW.trod enc Tryz.prog W base sp held n 3 [c1] = some x1 := by simpa [h3] using hf 1 _ rfl
   have f2 : DataW.trod enc Tryz.prog W base sp held n 3 [c2] = some x2 := by simpa [h3] using hf 2 _ rfl
   have f3 : DataW.trod enc Tryz.prog W base sp held n 3 [c3] = some x3 := by simpa [h3] using hf 3 _ rfl
   have f4 : DataW.trod enc Tryz.prog W base sp held n 3 [c4] = some x4 := by simpa [h3] using hf 4 _ rfl
   have f5 : DataW.trod enc Tryz.prog W base sp held n 9 [c5] = some x5 := by simpa [h3, h9] using hf 5 _ rfl
   have f6 : DataW.trod enc Tryz.prog W base sp held n 129 [c6] = some x6 := by simpa [h3, h9, hs] using hf 6 _ rfl
   clear hf h
   obtain ⟨n0, a1, a2, a3⟩ := DataW.trod_int Tryz.underlying3 f0
   obtain ⟨n1, b1, b2, b3⟩ := DataW.trod_int Tryz.underlying3 f1
   obtain ⟨n2, d1, d2, d3⟩ := DataW.trod_int Tryz.underlying3 f2
   obtain ⟨n3, g1, g2, g3⟩ := DataW.trod_int Tryz.underlying3 f3
   obtain ⟨n4, i1, i2, i3⟩ := DataW.trod_int Tryz.underlying3 f4
   obtain ⟨s5, j1, j2, j3⟩ := DataW.trod_string Tryz.underlying9 f5
   obtain ⟨A, c, l, k1, k2, k3, k4⟩ := hns_cells f6
   simp at a1 b1 d1 g1 i1 j1 k1
   subst a1 b1 d1 g1 i1 j1 k1
   refine ⟨(⟨n0, n1, n2, n3, n4, s5, l⟩, A, c), rfl, ⟨k2, (Lit.wf_int_iff _ _).1 a3, (Lit.wf_int_iff _ _).1 b3, (Lit.wf_int_iff _ _).1 d3, (Lit.wf_int_iff _ _).1 g3, (Lit.wf_int_iff _ _).1 i3, k3⟩, ?_⟩
   rw [hx]
   have hz : s5.data.toList.length = s5.size := rfl
   simp only [List.map_cons, List.map_nil, Rows.uptoBulk, Rows.uptoBulkAll, j2, hz]
   omega
theorem mbs_cells {fuel : Nat} {cs : List Value} {x : DataW H × List MemPlace} (h : DataW.trod enc Tryz.prog W base sp held fuel 24 cs = some x) :
  ∃ (A : Option Addr) (c : Nat) (l : List Sp.Mp), cs = [.slice A l.length c] ∧ RdL Sp.mbC W A l ∧ (∀ m ∈ l, MbOk W m) ∧ sumL (l.map fun m => m.1.code.size + m.1.hs.length) ≤ Rows.uptoBulk x.1 := by
 obtain ⟨A, c, l, h1, h2, h3, h4, h5⟩ := sl_cells (E := Sp.mbC) (Q := MbOk W) (m := fun m => m.1.code.size + m.1.hs.length) (n := 7) Sp.mbC_len (by decide) (⟨0, 0, 0, 0, 0, ⟨#[]⟩, []⟩, none, 0) Tryz.underlying24 (by kernel_rfl) (fun {fuel cs x} hx => mb_open hx) h
 exact ⟨A, c, l, h1, h2, h3, h4⟩
structure FlIn (W : World) (q : Sp.At) (F : FlP) : Prop where
 flags : In64 F.flags
 this : In64 F.this
 super : In64 F.super
 ifs : RdN .i64 W q.I F.ifaces
 ifaces : ∀ i ∈ F.ifaces, In64 i
 cns : RdL Sp.cnC W q.A F.pool
 pool : ∀ c ∈ F.pool, In64 c.tag ∧ In64 c.n ∧ In64 c.a ∧ In64 c.b ∧ In64 c.c
 fls : RdL Sp.mbC W q.X F.fields
 fields : ∀ m ∈ F.fields, MbOk W m
 mts : RdL Sp.mbC W q.Y F.methods
 methods : ∀ m ∈ F.methods, MbOk W m
def FlP.bulk (F : FlP) : Nat := sumL (F.pool.map fun c => c.text.size) + sumL (F.fields.map fun m => m.1.code.size + m.1.hs.length) + sumL (F.methods.map fun m => m.1.code.size + m.1.hs.length)
theorem fl_cells {fuel : Nat} {cs : List Value} {x : DataW H × List MemPlace} (h : DataW.trod enc Tryz.prog W base sp held fuel 26 cs = some x) :
  ∃ (q : Sp.At) (F : FlP), cs = (flC q F).toList ∧ FlIn W q F ∧ F.bulk ≤ Rows.uptoBulk x.1 := by
 obtain ⟨xs, n, hn, hx, hl, hlen, hf⟩ := DataW.trod_struct Tryz.underlying26 h
 have hC : Tryz.prog.cellsOf 26 = 7 := by kernel_rfl
 have h3 : Tryz.prog.cellsOf 3 = 1 := by kernel_rfl
 have ha : Tryz.prog.cellsOf 22 = 1 := by kernel_rfl
 have hb : Tryz.prog.cellsOf 23 = 1 := by kernel_rfl
 have hd : Tryz.prog.cellsOf 24 = 1 := by kernel_rfl
 rw [hC] at hl
 match cs, hl with
 | [c0, c1, c2, c3, c4, c5, c6], _ =>
  match xs, hlen with
  | [x0, x1, x2, x3, x4, x5, x6], _ =>
   have f0 : DataW.trod enc Tryz.prog W base sp held n 22 [c0] = some x0 := by simpa [ha] using hf 0 _ rfl
   have f1 : DataW.trod enc Tryz.prog W base sp held n 3 [c1] = some x1 := by simpa [h3, ha] using hf 1 _ rfl
   have f2 : DataW.trod enc Tryz.prog W base sp held n 3 [c2] = some x2 := by simpa [h3, ha] using hf 2 _ rfl
   have f3 : DataW.trod enc Tryz.prog W base sp held n 3 [c3] = some x3 := by simpa [h3, ha] using hf 3 _ rfl
   have f4 : DataW.trod enc Tryz.prog W base sp held n 23 [c4] = some x4 := by simpa [h3, ha, hb] using hf 4 _ rfl
   have f5 : DataW.trod enc Tryz.prog W base sp held n 24 [c5] = some x5 := by simpa [h3, ha, hb, hd] using hf 5 _ rfl
   have f6 : DataW.trod enc Tryz.prog W base sp held n 24 [c6] = some x6 := by simpa [h3, ha, hb, hd] using hf 6 _ rfl
   clear hf h
   obtain ⟨qA, qc, pool, a1, a2, a3, a4⟩ := cns_cells f0
   obtain ⟨n1, b1, b2, b3⟩ := DataW.trod_int Tryz.underlying3 f1
   obtain ⟨n2, d1, d2, d3⟩ := DataW.trod_int Tryz.underlying3 f2
   obtain ⟨n3, g1, g2, g3⟩ := DataW.trod_int Tryz.underlying3 f3
   obtain ⟨qI, qd, ifs, i1, i2, i3⟩ := ints_cells f4
   obtain ⟨qX, qe, fls, j1, j2, j3, j4⟩ := mbs_cells f5
   obtain ⟨qY, qg, mts, k1, k2, k3, k4⟩ := mbs_cells f6
   simp at a1 b1 d1 g1 i1 j1 k1
   subst a1 b1 d1 g1 i1 j1 k1
   refine ⟨⟨qA, qc, qI, qd, qX, qe, qY, qg⟩, ⟨pool, n1, n2, n3, ifs, fls, mts⟩, rfl, ⟨(Lit.wf_int_iff _ _).1 b3, (Lit.wf_int_iff _ _).1 d3, (Lit.wf_int_iff _ _).1 g3, i2, i3, a2, a3, j2, j3, k2, k3⟩, ?_⟩
   rw [hx]
   simp only [FlP.bulk, List.map_cons, List.map_nil, Rows.uptoBulk, Rows.uptoBulkAll]
   omega
end
theorem FlIn.rd {W : World} {q : Sp.At} {F : FlP} (h : FlIn W q F) : RdF W q F := ⟨h.cns, h.ifs, ⟨h.fls, fun m hm => (h.fields m hm).1⟩, ⟨h.mts, fun m hm => (h.methods m hm).1⟩⟩
theorem FlIn.ok {W : World} {q : Sp.At} {F : FlP} (h : FlIn W q F) (hb : F.bulk ≤ 1048576) : FlOk F := by
 unfold FlP.bulk at hb
 refine ⟨h.flags, h.this, h.super, h.ifaces, fun c hc => ?_, fun m hm => ?_, fun m hm => ?_⟩
 ·obtain ⟨a1, a2, a3, a4, a5⟩ := h.pool c hc
  have := sumL_mem (fun c : Sp.Cn => c.text.size) F.pool c hc
  exact ⟨a1, a2, a3, a4, a5, by omega⟩
 ·obtain ⟨a1, a2, a3, a4, a5, a6⟩ := h.fields m hm
  exact ⟨a2, a3, a4⟩
 ·obtain ⟨a1, a2, a3, a4, a5, a6, a7⟩ := h.methods m hm
  have := sumL_mem (fun m : Sp.Mp => m.1.code.size + m.1.hs.length) F.methods m hm
  exact ⟨a2, a3, a4, a5, a6, by omega, a7⟩
theorem textN_sum (l : List Sp.Cn) : Sp.textN l = sumL (l.map fun c => c.text.size) := by
 induction l with
 | nil => rfl
 | cons c l ih => simp only [Sp.textN, List.map_cons, sumL, ih]
theorem codeN_sum (l : List Sp.Mp) : Sp.codeN (l.map (·.1)) ≤ 8 * sumL (l.map fun m => m.1.code.size + m.1.hs.length) := by
 induction l with
 | nil => simp [Sp.codeN]
 | cons c l ih => simp only [Sp.codeN, List.map_cons, sumL]; omega
theorem FlP.sizes {F : FlP} (hb : F.bulk ≤ 1048576) : Sp.textN F.pool + Sp.codeN (F.methods.map (·.1)) + Sp.codeN (F.fields.map (·.1)) ≤ 4611686018427387904 := by
 unfold FlP.bulk at hb
 have h1 := textN_sum F.pool
 have h2 := codeN_sum F.methods
 have h3 := codeN_sum F.fields
 omega
end Go.Proofs.YtjjlcoimaihdoaaGreatDoor
end
namespace Go.Proofs.YtjjlcoimaihdoaaGreatDoor
open Go.RowKit Go.Lib
namespace Sp
def putL (n : Int) : Nat → List Int
 | 0 => []
 | m + 1 => n / 2 ^ (8 * m) % 256 :: putL n m
theorem putL_length (n : Int) (m : Nat) : (putL n m).length = m := by induction m with | zero => rfl | succ m ih => simp [putL, ih]
def putsL : List Int → List Int
 | [] => []
 | n :: l => putL n 2 ++ putsL l
end Sp
structure Onto (v v' : Value) (w w' : World) : Prop where
 keeps : Keeps (fun i => v.ownBlock = some i) w w'
 at_ : ∀ k, v'.ownBlock = some k → v.ownBlock = some k ∨ w.heap.size ≤ k
theorem Onto.refl (v : Value) (w : World) : Onto v v w w := ⟨Keeps.refl _ _, fun _ h => .inl h⟩
theorem Onto.trans {a b c : Value} {w0 w1 w2 : World} (h : Onto a b w0 w1) (k : Onto b c w1 w2) : Onto a c w0 w2 :=
 ⟨h.keeps.then k.keeps (fun i q => h.at_ i q), fun i q => (k.at_ i q).elim (fun r => h.at_ i r) (fun r => .inr (Nat.le_trans h.keeps.size r))⟩
theorem Onto.below {v v' : Value} {w w' : World} {B : Nat} (h : Onto v v' w w') (hB : B ≤ w.heap.size) (hv : ∀ k, v.ownBlock = some k → B ≤ k) : Below B w w' := h.keeps.below hB hv
def RowG (w : World) (B : Nat) (v : Value) (n : Nat) (xs : List Value) : Prop :=
 w.ownsRow B 5 1 v n xs ∨ (xs.length = n ∧ ∃ g cur fz, v = .slice (some ⟨g, 0, none⟩) n n ∧ B ≤ g ∧ w.heap[g]? = some (.cells cur 5 fz) ∧ cur.toList = xs)
theorem RowG.base {w : World} {B : Nat} {v : Value} {n : Nat} {xs : List Value} (h : RowG w B v n xs) (k : Nat) (hk : v.ownBlock = some k) : B ≤ k := by
 rcases h with h | ⟨_, g, cur, fz, rfl, hb, _⟩
 ·exact own_base h k hk
 ·have : g = k := by simpa [Value.ownBlock] using hk
  omega
theorem RowG.alloc {w : World} {B : Nat} {v : Value} {n : Nat} {xs : List Value} (h : RowG w B v n xs) (o : Obj) : RowG (w.alloc o) B v n xs := by
 rcases h with h | ⟨hl, g, cur, fz, rfl, hb, hg, hx⟩
 ·exact .inl (h.alloc _)
 ·exact .inr ⟨hl, g, cur, fz, rfl, hb, blk_old hg, hx⟩
section
variable {P : Program} (w : World)
theorem run_append_rowG (base : Nat) (t ty : TypeId) (i : TypeInfo) (ht : P.underlying t = some (.slice 5)) (hi : P.info? 5 = some i) (hz : i.zero = some (.int .u8 0))
  (hsize : i.size = 1) (hby : i.bytes = 1) (v : Value) (n : Nat) (xs : List Value) (hown : RowG w base v n xs)
  (a : Addr) (m c : Nat) (news : List Value) (hl : news.length = m * 1) (hm : 0 < m) (hnews : ∀ j u, news[j]? = some u → w.cell? (a.add j) = some u) (h1 : ∀ u ∈ news, u.oneCell' = true)
  (h63 : n + m ≤ maxLen) (hbytes : (n + m) * 1 ≤ 140737488355328) (hbase : base ≤ w.heap.size) :
  ∃ v' w', (Builtin.append_ #[t, t] ty #[v, .slice (some a) m c]).run P w = .ok v' w' ∧ w'.ownsRow base 5 1 v' (n + m) (xs ++ news) ∧ w.grownBy w' v.ownBlock ∧
   (v'.ownBlock = v.ownBlock ∨ v'.ownBlock = some w.heap.size) := by
 rcases hown with hown | ⟨hxl, g, cur, fz, rfl, hbg, hg, hcx⟩
 ·obtain ⟨v', w', r1, r2, r3, _, r5⟩ := run_append_own_at (P := P) w base t ty 5 i (.int .u8 0) 1 1 ht hi hz hsize hby rfl (by decide) v n xs hown a m c news hl hnews h1 h63 hbytes hbase
  exact ⟨v', w', r1, r2, r3, r5⟩
 ·have holds : ∀ j u, xs[j]? = some u → w.cell? ((⟨g, 0, none⟩ : Addr).add j) = some u := by
   intro j u hj
   have e : (⟨g, 0, none⟩ : Addr).add j = ⟨g, j, none⟩ := by rw [Addr.add_mid, Nat.zero_add]
   rw [e, Lib.cell_of_heap hg j, ← hj, ← hcx, Array.getElem?_toList]
  have hlen : (xs ++ news).length = (n + m) * 1 := by rw [List.length_append, hxl, hl]; omega
  have hge := grownCap_ge w (n + m) n 5
  have hcm : grownCap w (n + m) n 5 ≤ maxLen := grownCap_le_maxLen w (n + m) n 5 h63
  have hr := run_append_grow (P := P) w t ty 5 i (.int .u8 0) ht hi hz ⟨g, 0, none⟩ n n xs (by rw [hsize, Nat.mul_one]; exact hxl) holds a m c news (by rw [hsize]; exact hl) hnews (by omega) (by simp only [maxLen] at h63; omega) (by rw [hby]; exact growslice_fits (by omega) hbytes)
  refine ⟨_, _, hr, ⟨hlen, .inr ⟨w.heap.size, _, _, rfl, hbase, heap_alloc_new w.drew _, hge, hcm, ?_, ?_⟩⟩, ⟨rfl, rfl, rfl, by simp, fun k hk _ => Below.heap_alloc w.drew _ k hk⟩, Or.inr rfl⟩
  ·have hz1 : (Value.int IntKind.u8 0).cells.size = 1 := rfl
   simp only [Array.size_append, List.size_toArray, size_zeroCells, hz1, hxl, hl]
   omega
  ·simp only [Array.toList_append, List.append_assoc]
   rw [← List.append_assoc, ← hlen]
   exact List.take_left
theorem wpList_append_rowG {ops : Array Oper} {rest : List Oper} {o : Oper} {a : Act} {Q : Exit → Act → World → Prop} (hgd : o.guard = none) (s x : Operand) (t : TypeId)
  (ho : o.op = .call { callee := .builtin .append, args := #[s, x], argTypes := #[t, t] })
  (base : Nat) (i : TypeInfo) (ht : P.underlying t = some (.slice 5)) (hi : P.info? 5 = some i) (hz : i.zero = some (.int .u8 0)) (hsize : i.size = 1) (hby : i.bytes = 1)
  (v : Value) (n : Nat) (xs : List Value) (hs : a.eval s = v) (hown : RowG w base v n xs)
  (ad : Addr) (m c : Nat) (news : List Value) (hx : a.eval x = .slice (some ad) m c) (hl : news.length = m * 1) (hm : 0 < m) (hnews : ∀ j u, news[j]? = some u → w.cell? (ad.add j) = some u) (h1 : ∀ u ∈ news, u.oneCell' = true)
  (h63 : n + m ≤ maxLen) (hbytes : (n + m) * 1 ≤ 140737488355328) (hbase : base ≤ w.heap.size)
  (h : ∀ v' w', w'.ownsRow base 5 1 v' (n + m) (xs ++ news) → w.grownBy w' v.ownBlock → (v'.ownBlock = v.ownBlock ∨ v'.ownBlock = some w.heap.size) → wpList P ops Q rest (a.put o.dst v') w') :
  wpList P ops Q (o :: rest) a w := by
 refine wpList_plain hgd fun K hK => ?_
 obtain ⟨v', w', hr, h2, h3, h5⟩ := run_append_rowG (P := P) w base t o.type i ht hi hz hsize hby v n xs hown ad m c news hl hm hnews h1 h63 hbytes hbase
 unfold Oper.wp execOp
 simp only [ho, resolve, invoke, builtin, Sem.run_bind, Sem.run_pure, Result.andThen_ok, List.map_toArray, List.map_cons, List.map_nil, hs, hx, hr]
 exact hK _ _ (h v' w' h2 h3 h5)
end
set_option maxHeartbeats 8000000 in
set_option maxRecDepth 100000 in
theorem put_any (B : Nat) (v : Value) (xs : List Int) (n : Int) (m : Nat) (w : World) (hown : RowG w B v xs.length (numc xs)) (hm : m ≤ 8) (hlen : xs.length ≤ 1000000000) (hB : B ≤ w.heap.size) :
  Calls Tryz.prog 160 #[v, .int .i64 n, .int .i64 m] w fun e w' => ∃ v', e = .returned v' ∧ (0 < m → w'.ownsRow B 5 1 v' (xs ++ Sp.putL n m).length (numc (xs ++ Sp.putL n m))) ∧ Onto v v' w w' := by
 obtain ⟨i0, hi, hz0, hz1, hz2⟩ := info_parts infoByte
 have hmz : (m : Int) ≤ 8 := by omega
 have ho := Lib.hid hown
 clear hown
 go_enter Tryz.func160, Tryz.ntmps160
 go_wp2
 go_loopw [0, 2] (fun v0 v2 wr => ∃ (j : Nat) (acc : List Int), v2 = .int .i64 ((j : Int) - 1) ∧ j ≤ m ∧ Hid (acc ++ Sp.putL n j = xs ++ Sp.putL n m) ∧ acc.length + j = xs.length + m ∧ RowG wr B v0 acc.length (numc acc) ∧ Hid (j < m → wr.ownsRow B 5 1 v0 acc.length (numc acc)) ∧ Hid (Onto v v0 w wr)) (fun _ v2 _ => (RowKit.intOf v2 + 1).toNat)
 case atStart => exact ⟨m, xs, rfl, Nat.le_refl _, Lib.hid rfl, rfl, ho.out, Lib.hid (fun q => absurd q (Nat.lt_irrefl _)), Lib.hid (Onto.refl _ _)⟩
 case round =>
  obtain ⟨j, acc, rfl, hj, hacc, hal, hown, hst, hon⟩ := hrel
  cases j with
  | zero =>
   have hf : acc = xs ++ Sp.putL n m := by have := hacc.out; simpa [Sp.putL] using this
   subst hf
   clear hacc ho hal
   go_wp2
   go_ret
   exact ⟨u0, rfl, hst.out, hon.out⟩
  | succ j =>
   have hjz : (0 : Int) ≤ (j : Int) := by omega
   have e1 : (((j + 1 : Nat) : Int) - 1) = (j : Int) := by omega
   rw [e1]
   clear e1
   have hj8 : (j : Int) ≤ 7 := by omega
   go_wp2_with (at_builtin; refine wpList_append_rowG _ rfl _ _ 33 rfl B i0 Tryz.underlying33 hi hz0 hz1 hz2 _ acc.length (numc acc) rfl (hown.alloc _) ⟨wr.heap.size, 0, none⟩ 1 1 (numc [n / 2 ^ (8 * j) % 256]) rfl rfl (by decide) ?x2 ?x3 ?x4 ?x5 ?x6 ?_)
   try case x2 =>
    intro q u hj
    match q, hj with
    | 0, hj => simp [numc] at hj; subst hj; simp [Addr.add]
    | (q + 1), hj => simp [numc] at hj
   try case x3 => first | (intro u hu; simp [numc] at hu; subst hu; rfl) | rfl
   try case x4 => unfold maxLen; omega
   try case x5 => omega
   try case x6 => have := hon.out.keeps.size; first | omega | (simp; omega)
   intro v' w3 hown' hg3 hat3
   have hon3 : Hid (Onto v v' w w3) := Lib.hid (hon.out.trans ⟨((Keeps.refl _ wr).alloc (.cells #[.int .u8 (n / 2 ^ (8 * j) % 256)] 5)).trans (Keeps.of_grown (S := fun i => u0.ownBlock = some i) hg3 (fun k hk => .inl hk)), fun k hk => hat3.elim (fun q => .inl (q ▸ hk)) (fun q => .inr (by rw [hk] at q; injection q with q; (try simp at q); omega))⟩)
   have hacc2 : Hid ((acc ++ [n / 2 ^ (8 * j) % 256]) ++ Sp.putL n j = xs ++ Sp.putL n m) := Lib.hid (by rw [← hacc.out, Sp.putL]; simp)
   rw [← numc_append] at hown'
   have hown2 : Hid (w3.ownsRow B 5 1 v' (acc ++ [n / 2 ^ (8 * j) % 256]).length (numc (acc ++ [n / 2 ^ (8 * j) % 256]))) := Lib.hid (by simpa using hown')
   clear hg3 hat3 hown hacc hown' hst
   go_wp2
   go_roundw
   case rel => exact ⟨j, acc ++ [n / 2 ^ (8 * j) % 256], by first | rfl | go_num, by omega, hacc2, by simp; omega, .inl hown2.out, Lib.hid (fun _ => hown2.out), hon3⟩
   case measure => first | (simp [RowKit.intOf]; done) | (simp [RowKit.intOf]; omega)
set_option maxHeartbeats 8000000 in
set_option maxRecDepth 100000 in
theorem puts_any (B : Nat) (v : Value) (xs : List Int) (A : Option Addr) (c : Nat) (l : List Int) (w : World) (hown : RowG w B v xs.length (numc xs)) (hr : RdN .i64 w A l) (hA : ∀ b o, A = some ⟨b, o, none⟩ → 0 < l.length → v.ownBlock ≠ some b) (hlen : xs.length + 2 * l.length ≤ 1000000000) (hB : B ≤ w.heap.size) :
  Calls Tryz.prog 159 #[v, .slice A l.length c] w fun e w' => ∃ v', e = .returned v' ∧ (w.ownsRow B 5 1 v xs.length (numc xs) ∨ 0 < l.length → w'.ownsRow B 5 1 v' (xs ++ Sp.putsL l).length (numc (xs ++ Sp.putsL l))) ∧ Onto v v' w w' := by
 have ho := Lib.hid hown
 have hr1 := Lib.hid hr
 have hl := hr.1
 have hA1 := Lib.hid hA
 clear hown hr hA
 go_enter Tryz.func159, Tryz.ntmps159
 go_wp2
 go_loopw [0, 9] (fun v0 v9 wr => ∃ (j : Nat) (acc : List Int), v9 = .int .i64 j ∧ j ≤ l.length ∧ Hid (acc ++ Sp.putsL (l.drop j) = xs ++ Sp.putsL l) ∧ acc.length = xs.length + 2 * j ∧ RowG wr B v0 acc.length (numc acc) ∧ Hid (w.ownsRow B 5 1 v xs.length (numc xs) ∨ 0 < j → wr.ownsRow B 5 1 v0 acc.length (numc acc)) ∧ Hid (Onto v v0 w wr)) (fun _ v9 _ => l.length - (RowKit.intOf v9).toNat)
 case atStart => exact ⟨0, xs, by go_num, Nat.zero_le _, Lib.hid (by simp), by simp, ho.out, Lib.hid (fun q => q.elim id (fun r => absurd r (Nat.lt_irrefl _))), Lib.hid (Onto.refl _ _)⟩
 case round =>
  obtain ⟨j, acc, rfl, hj, hacc, hal, hown, hst, hon⟩ := hrel
  have hsz := hon.out.keeps.size
  by_cases hlt : j < l.length
  ·obtain ⟨b, o, rfl, hcell⟩ := hr1.out.2 (by omega)
   have d0 := hon.out.keeps.cell (hcell j hlt) (hA1.out b o rfl (by omega))
   have hd : Hid (Sp.putsL (l.drop j) = Sp.putL (l.getD j 0) 2 ++ Sp.putsL (l.drop (j + 1))) := Lib.hid (by rw [List.drop_eq_getElem_cons hlt, Sp.putsL]; simp [List.getD_eq_getElem?_getD, hlt])
   have hzj : (j : Int) < (l.length : Int) := by omega
   clear hcell
   generalize l.getD j 0 = x at *
   have kp := Lib.hid (put_any B u0 acc x 2 wr hown (by decide) (by omega) (by omega))
   go_wp2_with fail
   refine kp.out.mono ?_
   rintro e w3 ⟨v', rfl, hown0, hon'⟩
   have hown' := Lib.hid (hown0 (by decide))
   have hacc2 : Hid ((acc ++ Sp.putL x 2) ++ Sp.putsL (l.drop (j + 1)) = xs ++ Sp.putsL l) := Lib.hid (by rw [← hacc.out, hd.out]; simp)
   have hon3 := Lib.hid (hon.out.trans hon')
   have hl2 : (acc ++ Sp.putL x 2).length = xs.length + 2 * (j + 1) := by rw [List.length_append, Sp.putL_length]; omega
   clear hown hown0 hst hon hon' hacc hd d0 kp
   go_wp2
   go_roundw
   case rel => exact ⟨j + 1, acc ++ Sp.putL x 2, by go_num, by omega, hacc2, hl2, .inl hown'.out, Lib.hid (fun _ => hown'.out), hon3⟩
   case measure => simp [RowKit.intOf]; omega
  ·obtain rfl : j = l.length := by omega
   have hzj : ¬ (l.length : Int) < (l.length : Int) := by omega
   have hf : acc = xs ++ Sp.putsL l := by have := hacc.out; rw [List.drop_length] at this; simpa [Sp.putsL] using this
   subst hf
   clear hacc ho hal
   go_wp2
   go_ret
   exact ⟨u0, rfl, by first | exact hst.out | exact (fun q => by have := hst.out q; rw [List.length_append] at this; exact this), hon.out⟩
theorem conv_lit (w : World) (l : List Int) (n : Nat) (C : Array Value) (hn : l.length = n) (hC : C = (numc l).toArray) :
  (convert 33 9 (.slice (some ⟨w.heap.size, 0, none⟩) n n)).run Tryz.prog (w.alloc (.cells C 5)) = .ok (.string (Go.strOfNums l)) (w.alloc (.cells C 5)) := by
 subst hC
 refine run_convert_bytes_arg _ 33 5 Tryz.underlying33 Tryz.underlying5 w.heap.size 0 n n l hn (fun i hi => ?_) 9 Tryz.underlying9
 have h1 : (w.alloc (.cells (numc l).toArray 5)).heap[w.heap.size]? = some (.cells (numc l).toArray 5 (0, 0)) := by
  show (w.heap.push _)[w.heap.size]? = _
  simp
 rw [Nat.zero_add]
 refine (Lib.cell_of_heap h1 i).trans ?_
 simp [numc, hn ▸ hi, List.getD_eq_getElem?_getD]
set_option maxHeartbeats 4000000 in
theorem refThree_any (r : Int) (w : World) (h0 : 0 ≤ r) (h1 : r < 65536) :
  Calls Tryz.prog 273 #[.int .i64 r] w fun e w' => e = .returned (.string (Go.strOfNums (Sp.three r))) ∧ Below w.heap.size w w' := by
 have hcv := conv_lit w (Sp.three r) 3 #[.int .u8 (224 + r / 4096), .int .u8 (128 + r / 64 % 64), .int .u8 (128 + r % 64)] rfl (by simp [numc, Sp.three])
 generalize Go.strOfNums (Sp.three r) = R at hcv ⊢
 go_enter Tryz.func273, Tryz.ntmps273
 go_wp2
 go_ret
 exact ⟨rfl, (Below.refl _ _).alloc (Nat.le_refl _) _⟩
theorem strOfNums_append (a b : List Int) : Go.strOfNums a ++ Go.strOfNums b = Go.strOfNums (a ++ b) := by
 apply ByteArray.ext
 apply Array.ext'
 simp [Go.strOfNums]
set_option maxHeartbeats 4000000 in
theorem refBytes_any (r : Int) (w : World) (h0 : 0 ≤ r) (h1 : r ≤ 1114111) :
  Calls Tryz.prog 233 #[.int .i64 r] w fun e w' => e = .returned (.string (Go.strOfNums (Sp.encZ r))) ∧ Below w.heap.size w w' := by
 by_cases c1 : 0 < r ∧ r < 128
 ·have hcv := conv_lit w [r] 1 #[.int .u8 r] rfl (by simp [numc])
  have he : Sp.encZ r = [r] := by rw [Sp.encZ, if_pos c1]
  rw [he]
  clear he
  generalize Go.strOfNums [r] = R at hcv ⊢
  obtain ⟨ca, cb⟩ := c1
  have ca' : 1 ≤ r := by omega
  go_enter Tryz.func233, Tryz.ntmps233
  go_wp2
  go_ret
  exact ⟨rfl, (Below.refl _ _).alloc (Nat.le_refl _) _⟩
 by_cases c2 : r < 2048
 ·have hcv := conv_lit w [192 + r / 64, 128 + r % 64] 2 #[.int .u8 (192 + r / 64), .int .u8 (128 + r % 64)] rfl (by simp [numc])
  have he : Sp.encZ r = [192 + r / 64, 128 + r % 64] := by rw [Sp.encZ, if_neg c1, if_pos c2]
  rw [he]
  clear he
  generalize Go.strOfNums [192 + r / 64, 128 + r % 64] = R at hcv ⊢
  by_cases c0 : 1 ≤ r
  ·have c0b : ¬ r < 128 := by omega
   clear c1
   go_enter Tryz.func233, Tryz.ntmps233
   go_wp2
   go_ret
   exact ⟨rfl, (Below.refl _ _).alloc (Nat.le_refl _) _⟩
  ·clear c1
   go_enter Tryz.func233, Tryz.ntmps233
   go_wp2
   go_ret
   exact ⟨rfl, (Below.refl _ _).alloc (Nat.le_refl _) _⟩
 have d1 : 1 ≤ r := by omega
 have d2 : ¬ r < 128 := by omega
 by_cases c3 : r < 65536
 ·have he : Sp.encZ r = Sp.three r := by rw [Sp.encZ, if_neg c1, if_neg c2, if_pos c3]
  rw [he]
  clear he c1
  have h3 := Lib.hid (refThree_any r w h0 c3)
  generalize Go.strOfNums (Sp.three r) = R at h3 ⊢
  go_enter Tryz.func233, Tryz.ntmps233
  go_wp2_with fail
  refine h3.out.mono ?_
  rintro e w1 ⟨rfl, hb⟩
  go_wp2
  go_ret
  exact ⟨rfl, hb⟩
 ·have he : Sp.encZ r = Sp.three (55296 + (r - 65536) / 1024) ++ Sp.three (56320 + (r - 65536) % 1024) := by rw [Sp.encZ, if_neg c1, if_neg c2, if_neg c3]
  rw [he, ← strOfNums_append]
  clear he c1
  have h3 := Lib.hid (refThree_any (55296 + (r - 65536) / 1024) w (by omega) (by omega))
  have h4 := Lib.hid (fun W => refThree_any (56320 + (r - 65536) % 1024) W (by omega) (by omega))
  have z1 : (Go.strOfNums (Sp.three (55296 + (r - 65536) / 1024))).size = 3 := by rw [strOfNums_size]; rfl
  have z2 : (Go.strOfNums (Sp.three (56320 + (r - 65536) % 1024))).size = 3 := by rw [strOfNums_size]; rfl
  generalize Go.strOfNums (Sp.three (55296 + (r - 65536) / 1024)) = R1 at h3 z1 ⊢
  generalize Go.strOfNums (Sp.three (56320 + (r - 65536) % 1024)) = R2 at h4 z2 ⊢
  have z3 : R1.size ≤ 3 := by omega
  have z4 : R2.size ≤ 3 := by omega
  have z5 : R1.size + R2.size ≤ 9223372036854775807 := by omega
  clear z1 z2
  go_enter Tryz.func233, Tryz.ntmps233
  go_wp2_with fail
  refine h3.out.mono ?_
  rintro e w1 ⟨rfl, hb⟩
  go_wp2_with fail
  refine (h4.out w1).mono ?_
  rintro e w2 ⟨rfl, hb2⟩
  go_wp2
  go_ret
  exact ⟨rfl, below_then hb hb.size hb2⟩
theorem strCells_nums (l : List Int) (h : ∀ x ∈ l, 0 ≤ x ∧ x ≤ 255) : Lib.strCells (Go.strOfNums l) = numc l := by
 unfold Lib.strCells numc Go.strOfNums
 simp only [List.map_map]
 apply List.map_congr_left
 intro x hx
 have := h x hx
 simp only [Function.comp]
 have : x.toNat < 256 := by omega
 have e : (UInt8.ofNat x.toNat).toNat = x.toNat := by simp [UInt8.toNat_ofNat, Nat.mod_eq_of_lt this]
 rw [e]
 congr 1
 omega
theorem encZ_bytes (r : Int) (h0 : 0 ≤ r) (h1 : r ≤ 1114111) : ∀ x ∈ Sp.encZ r, 0 ≤ x ∧ x ≤ 255 := by
 intro x hx
 unfold Sp.encZ Sp.three at hx
 repeat' split at hx
 all_goals simp at hx
 all_goals omega
theorem runes_range (s : ByteArray) : ∀ r ∈ Sp.runes s, 0 ≤ r ∧ r ≤ 1114111 := Sp.rl_max s _ _
theorem infoByte1 : ∃ i0, Tryz.prog.info? 5 = some i0 ∧ i0.zero = some (.int .u8 0) ∧ i0.size = 1 ∧ i0.bytes = 1 := info_parts infoByte
set_option maxHeartbeats 8000000 in
set_option maxRecDepth 100000 in
theorem refEncode_any (s : ByteArray) (w : World) (hs : s.size ≤ 1099511627776) :
  Calls Tryz.prog 179 #[.string s] w fun e w' => e = .returned (.tuple #[.string (Sp.encS s).1, .int .i64 (Sp.encS s).2]) ∧ Below w.heap.size w w' := by
 obtain ⟨i0, hi, hz0, hz1, hz2⟩ := infoByte1
 have hq := Lib.hid (refRunes_any s w hs)
 have hrng := Lib.hid (runes_range s)
 have hlen := runes_le s
 have HE := Lib.hid (show Sp.encS s = _ by rw [Sp.encS])
 generalize Sp.encS s = R at HE ⊢
 rw [Sp.refRunes_eq] at hq
 simp only at hq
 generalize Sp.runes s = l at hq HE hrng hlen
 generalize validD s.data.toList = ok at hq HE
 go_enter Tryz.func179, Tryz.ntmps179
 go_wp2_with fail
 refine hq.out.mono ?_
 rintro e w1 ⟨A, c, rfl, hrd, hb1⟩
 clear hq
 have hml := hrd.1
 have hrd' := Lib.hid hrd
 clear hrd
 have hsz1 := hb1.size
 cases ok with
 | false =>
  have hR : Hid (R = (⟨#[]⟩, 4)) := Lib.hid (by rw [HE.out, if_pos rfl])
  clear HE
  go_wp2
  go_ret2
  exact ⟨by rw [hR.out]; rfl, hb1⟩
 | true =>
  have HR : Hid (R = if 65535 < (Sp.encL l).length then (⟨#[]⟩, 2) else (Go.strOfNums (Sp.encL l), 0)) := Lib.hid (by rw [HE.out, if_neg (by simp)])
  clear HE
  go_wp2
  go_loopw [6, 7] (fun v6 v7 wr => ∃ (k : Nat) (acc : List Int), v7 = .int .i64 k ∧ k ≤ l.length ∧ wr.ownsRow w1.heap.size 5 1 v6 acc.length (numc acc) ∧ Below w1.heap.size w1 wr ∧ Hid (acc ++ Sp.encL (l.drop k) = Sp.encL l) ∧ acc.length ≤ 6 * k) (fun _ v7 _ => l.length - (RowKit.intOf v7).toNat)
  case atStart => exact ⟨0, [], rfl, Nat.zero_le _, ⟨by simp [numc], .inl ⟨rfl, rfl⟩⟩, Below.refl _ _, Lib.hid (by simp), by simp⟩
  case round =>
   obtain ⟨k, acc, rfl, hk, hown, hbw, hacc, hal⟩ := hrel
   have hsz := hbw.size
   by_cases hlt : k < l.length
   ·obtain ⟨b, o, rfl, hcell⟩ := (rdN_below hrd'.out hbw).2 (by omega)
    have hck := hcell k hlt
    clear hcell
    have hd : Hid (l.drop k = l.getD k 0 :: l.drop (k + 1)) := Lib.hid (by rw [List.drop_eq_getElem_cons hlt]; simp [List.getD_eq_getElem?_getD, hlt])
    have hy : 0 ≤ l.getD k 0 ∧ l.getD k 0 ≤ 1114111 := hrng.out _ (by simp [List.getD_eq_getElem?_getD, hlt])
    generalize l.getD k 0 = y at hck hd hy
    have hlz := Sp.encZ_length y
    have hcs := Lib.hid (strCells_nums (Sp.encZ y) (encZ_bytes y hy.1 hy.2))
    have hsl : (Go.strOfNums (Sp.encZ y)).size = (Sp.encZ y).length := strOfNums_size _
    have hB := Lib.hid (refBytes_any y wr hy.1 hy.2)
    have hacc2 := Lib.hid (show (acc ++ Sp.encZ y) ++ Sp.encL (l.drop (k + 1)) = Sp.encL l by rw [← hacc.out, hd.out]; simp [Sp.encL])
    clear hacc hd
    have hsb : (Go.strOfNums (Sp.encZ y)).size ≤ 6 := by omega
    have hsl' := Lib.hid hsl
    clear hsl
    generalize hS : Go.strOfNums (Sp.encZ y) = S at *
    clear hS
    go_wp2_with fail
    refine hB.out.mono ?_
    rintro e w2 ⟨rfl, hb2⟩
    clear hB
    have hown2 := hown.kept (w' := w2) (row := none) ⟨hb2.os, hb2.tape, hb2.output, hb2.size, fun i hi _ => hb2.block i hi⟩ (by cases u6.ownBlock <;> simp)
    have hbw2 := below_then hbw hsz hb2
    have hsz2 := hbw2.size
    clear hown hb2
    go_wp2_with (at_builtin; refine wpList_append_own_string _ rfl _ _ 33 9 rfl w1.heap.size 5 i0 Tryz.underlying33 Tryz.underlying9 hi hz0 hz1 hz2 _ _ _ rfl hown2 S rfl ?c1 ?c2 ?c3 ?_)
    case c1 => unfold maxLen; omega
    case c2 => omega
    case c3 => omega
    intro v' w3 hown' hgrow _
    have hb3 := hbw2.grown hgrow hsz2 (fun q hq => own_base hown2 q hq)
    rw [hcs.out, ← numc_append, hsl'.out] at hown'
    go_wp2
    go_roundw
    case rel => exact ⟨k + 1, acc ++ Sp.encZ y, by go_num, by omega, by rw [List.length_append]; exact hown', hb3, hacc2, by simp; omega⟩
    case measure => simp [RowKit.intOf]; omega
   ·have hfin : Hid (Sp.encL l = acc) := Lib.hid (by rw [← hacc.out, List.drop_eq_nil_of_le (by omega)]; simp [Sp.encL])
    obtain ⟨A2, c2, rfl⟩ := own_slice hown
    have hbf := below_then hb1 hsz1 hbw
    by_cases hlen : 65535 < acc.length
    ·have hR : Hid (R = (⟨#[]⟩, 2)) := Lib.hid (by rw [HR.out, hfin.out, if_pos hlen])
     have hlz : (65535 : Int) < (acc.length : Int) := by omega
     clear HR hfin hacc
     go_wp2
     go_ret2
     exact ⟨by rw [hR.out]; rfl, hbf⟩
    ·have hR : Hid (R = (Go.strOfNums acc, 0)) := Lib.hid (by rw [HR.out, hfin.out, if_neg hlen])
     have hlz : ¬ (65535 : Int) < (acc.length : Int) := by omega
     have hconv := own_string (P := Tryz.prog) (src := 33) (dst := 9) Tryz.underlying33 Tryz.underlying5 Tryz.underlying9 hown
     clear HR hfin hacc
     go_wp2
     go_ret2
     exact ⟨by rw [hR.out]; rfl, hbf⟩
def Scal (r : Int) : Prop := (0 ≤ r ∧ r < 55296) ∨ (57344 ≤ r ∧ r ≤ 1114111)
namespace Sp
instance (r : Int) : Decidable (Scal r) := inferInstanceAs (Decidable (_ ∨ _))
def utfL (l : List Int) : List Int := l.flatMap Lib.encodeRuneZ
def refMakeS (l : List Int) : ByteArray × Bool := if l.all (fun r => decide (Scal r)) then (Go.strOfNums (utfL l), true) else (⟨#[]⟩, false)
end Sp
namespace Sp
def refUnit (s : ByteArray) : Int :=
 if s.size < 3 ∨ ¬ (224 ≤ bt s 0 ∧ bt s 0 < 240) ∨ ¬ (128 ≤ bt s 1 ∧ bt s 1 < 192) ∨ ¬ (128 ≤ bt s 2 ∧ bt s 2 < 192) then -1
 else if (bt s 0 - 224) * 4096 + (bt s 1 - 128) * 64 + bt s 2 - 128 < 2048 then -1
 else (bt s 0 - 224) * 4096 + (bt s 1 - 128) * 64 + bt s 2 - 128
theorem refUnit_range (s : ByteArray) : -1 ≤ refUnit s ∧ refUnit s ≤ 65535 ∧ (0 ≤ refUnit s → 3 ≤ s.size ∧ 224 ≤ bt s 0) := by
 have := bt_range s 0; have := bt_range s 1; have := bt_range s 2
 unfold refUnit
 repeat' split
 all_goals omega
def refStep (b : ByteArray) : Int × Nat :=
 if 1 ≤ bt b 0 ∧ bt b 0 < 128 then (bt b 0, 1)
 else if 192 ≤ bt b 0 ∧ bt b 0 < 224 then
  if 1 < b.size ∧ 128 ≤ bt b 1 ∧ bt b 1 < 192 then
   if 1 ≤ (bt b 0 - 192) * 64 + bt b 1 - 128 ∧ (bt b 0 - 192) * 64 + bt b 1 - 128 < 128 then (-1, 2) else ((bt b 0 - 192) * 64 + bt b 1 - 128, 2)
  else (-1, 1)
 else if 55296 ≤ refUnit b ∧ refUnit b < 56320 then
  if 56320 ≤ refUnit (b.extract 3 b.size) ∧ refUnit (b.extract 3 b.size) < 57344 then (65536 + (refUnit b - 55296) * 1024 + refUnit (b.extract 3 b.size) - 56320, 6) else (-1, 1)
 else if 0 ≤ refUnit b ∧ (refUnit b < 56320 ∨ 57344 ≤ refUnit b) then (refUnit b, 3)
 else (-1, 1)
def refDecG : Nat → ByteArray → List Int → Option (List Int)
 | 0, _, _ => none
 | f + 1, b, acc =>
  if b.size = 0 then some acc
  else if (refStep b).1 < 0 then none
  else refDecG f (b.extract (refStep b).2 b.size) (acc ++ [(refStep b).1])
def refDecS (b : ByteArray) : ByteArray × Int :=
 if 65535 < b.size then (⟨#[]⟩, 2)
 else match refDecG (b.size + 1) b [] with
  | none => (⟨#[]⟩, 4)
  | some l => ((refMakeS l).1, 0)
end Sp
theorem refStep_range (b : ByteArray) (h : 0 < b.size) : (0 ≤ (Sp.refStep b).1 → (Sp.refStep b).2 ≤ b.size) ∧ 1 ≤ (Sp.refStep b).2 ∧ (Sp.refStep b).1 ≤ 2000000 ∧ -1 ≤ (Sp.refStep b).1 := by
 have := Sp.bt_range b 0; have := Sp.bt_range b 1
 have hu := Sp.refUnit_range b
 have hv := Sp.refUnit_range (b.extract 3 b.size)
 have hx : (b.extract 3 b.size).size = b.size - 3 := by simp
 unfold Sp.refStep
 repeat' split
 all_goals simp only []
 all_goals omega
end Go.Proofs.YtjjlcoimaihdoaaGreatDoor
