/-
  Texts of the proof, joined: each says at its head what it proves.
-/
import Derived.Test.YtfjplmbknegidaaGreatDoorJk11
import Derived.Test.YtfjplmbknegidaaGreatDoorJk9
import Derived.Deep.DeepCutAuto
import Derived.Outline
import Derived.Test.YtfjplmbknegidaaGreatDoorJk10
section
/-
  Walk of chapter 3's method.
-/
set_option linter.unusedVariables false
set_option linter.unusedSimpArgs false
namespace Go.Proofs.YtfjplmbknegidaaGreatDoor
open Go.RowKit Go.Lib

theorem initL : Sp.initB.toList = [60, 105, 110, 105, 116, 62] := by decide +kernel
theorem clinitL : Sp.clinitB.toList = [60, 99, 108, 105, 110, 105, 116, 62] := by decide +kernel
theorem voidL : Sp.voidB.toList = [40, 41, 86] := by decide +kernel

set_option maxHeartbeats 16000000 in
set_option maxRecDepth 100000 in
theorem methodM_any (q : Sp.At) (F : FlP) (m : Sp.Mp) (w : World) (hr : RdF w q F) (hff : FlagsOk F.flags) (h1 : In64 m.1.name) (h2 : In64 m.1.desc) (hh : RdL Sp.hnC w m.2.1 m.1.hs) (hc : ∀ h ∈ m.1.hs, In64 h.cls) (hcz : m.1.code.size ≤ 1099511627776)
    (hz : ∀ c ∈ F.pool, c.text.size ≤ 1099511627776) (hT : Tabs w) :
    Calls Tryz.prog 106 #[.agg (flC q F), Sp.mbV m] w fun e w' => e = .returned (.int .i64 (Sp.methodM F.pool F.flags m.1)) ∧ Below w.heap.size w w' := by
  obtain ⟨pool, fl, th, su, ifs, flds, mths⟩ := F
  obtain ⟨qA, qc, qI, qd, qX, qe, qY, qg⟩ := q
  obtain ⟨⟨mf, mn, md, ms, ml, mc, mh⟩, mA, mcap⟩ := m
  simp only [] at hff h1 h2 hh hc hcz hz ⊢
  have T0 := Lib.hid hT
  clear hT
  have hr0 := Lib.hid hr
  clear hr
  have hhl := hh.1
  have HH := Lib.hid hh.2
  clear hh
  have HE := Lib.hid (show Sp.methodM pool fl ⟨mf, mn, md, ms, ml, mc, mh⟩ = _ by rw [Sp.methodM])
  have hdz := Sp.cname_size pool hz md
  have ki := Lib.hid (fun W => interface_any ⟨qA, qc, qI, qd, qX, qe, qY, qg⟩ ⟨pool, fl, th, su, ifs, flds, mths⟩ W hff)
  have kl := Lib.hid (fun W hr hT => link_any ⟨qA, qc, qI, qd, qX, qe, qY, qg⟩ ⟨pool, fl, th, su, ifs, flds, mths⟩ mn md true W hr h1 h2 hz hT)
  have kn := Lib.hid (fun W hr => cname_any ⟨qA, qc, qI, qd, qX, qe, qY, qg⟩ ⟨pool, fl, th, su, ifs, flds, mths⟩ mn W hr h1)
  have kd := Lib.hid (fun W hr => cname_any ⟨qA, qc, qI, qd, qX, qe, qY, qg⟩ ⟨pool, fl, th, su, ifs, flds, mths⟩ md W hr h2)
  have km := Lib.hid (fun W hT => method_any (Sp.cnameS pool md).1 W hdz hT)
  have kb := Lib.hid (fun W => bare_any (⟨mf, mn, md, ms, ml, mc, mh⟩, mA, mcap) W hhl)
  have kt := Lib.hid (fun i (hi : In64 i) W hr => tagged_any ⟨qA, qc, qI, qd, qX, qe, qY, qg⟩ ⟨pool, fl, th, su, ifs, flds, mths⟩ i 4 W hr hi)
  have hcc := Lib.hid hc
  clear hc hz hdz
  have HC := Lib.hid (show Sp.codedS pool ⟨mf, mn, md, ms, ml, mc, mh⟩ = _ by rw [Sp.codedS])
  have HO := Lib.hid (show Sp.oddS (Sp.cnameS pool mn).1 (Sp.cnameS pool md).1 mf = _ by rw [Sp.oddS])
  generalize Sp.methodM pool fl ⟨mf, mn, md, ms, ml, mc, mh⟩ = R at HE ⊢
  have HE0 := Lib.hid HE.out
  clear HE
  have hbare : Sp.bareS ⟨mf, mn, md, ms, ml, mc, mh⟩ = (decide (ms = 0) && decide (ml = 0) && decide (mc.size = 0) && decide (mh.length = 0)) := rfl
  rw [hbare] at HE0
  clear hbare
  simp only [] at HE0 HC ki kl kn kd km kb kt
  generalize Sp.codedS pool ⟨mf, mn, md, ms, ml, mc, mh⟩ = cd at *
  generalize Sp.oddS (Sp.cnameS pool mn).1 (Sp.cnameS pool md).1 mf = od at *
  generalize (decide (ms = 0) && decide (ml = 0) && decide (mc.size = 0) && decide (mh.length = 0)) = br at *
  generalize Sp.linkS pool mn md true = le at *
  generalize Sp.cnameS pool mn = N at *
  generalize Sp.cnameS pool md = D at *
  obtain ⟨na, nb⟩ := N
  obtain ⟨da, db⟩ := D
  simp only [] at HE0 HO kn kd km
  generalize Sp.methodS da = M at *
  obtain ⟨⟨sl, ⟨sd, sn⟩, sv⟩, se⟩ := M
  unfold Sp.sigV at km
  simp only [] at HE0 HO km
  have hB := ((Below.refl w.heap.size w).alloc (Nat.le_refl _) (.cells (flC ⟨qA, qc, qI, qd, qX, qe, qY, qg⟩ ⟨pool, fl, th, su, ifs, flds, mths⟩) 63)).alloc (by simp) (.cells #[.int .i64 mf, .int .i64 mn, .int .i64 md, .int .i64 ms, .int .i64 ml, .string mc, .slice mA mh.length mcap] 105)
  have hK := Lib.hid (blk_old (o := .cells #[.int .i64 mf, .int .i64 mn, .int .i64 md, .int .i64 ms, .int .i64 ml, .string mc, .slice mA mh.length mcap] 105) (blk_new w (.cells (flC ⟨qA, qc, qI, qd, qX, qe, qY, qg⟩ ⟨pool, fl, th, su, ifs, flds, mths⟩) 63)))
  have hL := Lib.hid (blk_new (w.alloc (.cells (flC ⟨qA, qc, qI, qd, qX, qe, qY, qg⟩ ⟨pool, fl, th, su, ifs, flds, mths⟩) 63)) (.cells #[.int .i64 mf, .int .i64 mn, .int .i64 md, .int .i64 ms, .int .i64 ml, .string mc, .slice mA mh.length mcap] 105))
  rw [show (w.alloc (.cells (flC ⟨qA, qc, qI, qd, qX, qe, qY, qg⟩ ⟨pool, fl, th, su, ifs, flds, mths⟩) 63)).heap.size = w.heap.size + 1 by simp] at hL
  have hS := hB.size
  unfold flC at ki kl kn kd kt
  unfold Sp.mbV at kb ⊢
  have hfl : flC ⟨qA, qc, qI, qd, qX, qe, qY, qg⟩ ⟨pool, fl, th, su, ifs, flds, mths⟩ = #[.slice qA pool.length qc, .int .i64 fl, .int .i64 th, .int .i64 su, .slice qI ifs.length qd, .slice qX flds.length qe, .slice qY mths.length qg] := rfl
  rw [hfl] at hB hS ⊢
  clear hfl
  simp only [] at ki kl kn kd kb kt ⊢
  by_cases u0 : mf < 0
  · have hR : R = 10 := by rw [HE0.out, if_pos (by omega)]
    subst hR
    clear HE0
    go_enter Tryz.func106, Tryz.ntmps106
    go_wp2
    go_ret
    exact ⟨rfl, hB⟩
  by_cases u1 : 2 < mf
  · have hR : R = 10 := by rw [HE0.out, if_pos (by omega)]
    subst hR
    clear HE0
    go_enter Tryz.func106, Tryz.ntmps106
    go_wp2
    go_ret
    exact ⟨rfl, hB⟩
  go_enter Tryz.func106, Tryz.ntmps106
  go_upto_region 1 with fail
  go_cut [30] (fun s30 wx => ∃ b : Bool, s30 = .bool b ∧ Hid (Below w.heap.size w wx) ∧ Hid (wx.heap[w.heap.size]? = some (.cells (flC ⟨qA, qc, qI, qd, qX, qe, qY, qg⟩ ⟨pool, fl, th, su, ifs, flds, mths⟩) 63 (0, 0))) ∧ Hid (wx.heap[w.heap.size + 1]? = some (.cells #[.int .i64 mf, .int .i64 mn, .int .i64 md, .int .i64 ms, .int .i64 ml, .string mc, .slice mA mh.length mcap] 105 (0, 0))) ∧ Hid (R = if b = true then 10 else if le ≠ 0 then le else if od = true then 10 else if mf = 2 then (if br = true then 0 else 1) else cd))
  case first =>
    by_cases m0 : mf = 0
    · subst m0
      go_wp2_with fail
      refine (ki.out _).mono ?_
      rintro e w1 ⟨rfl, hb1⟩
      have K1 := Lib.hid (blk_below hK.out hb1)
      have L1 := Lib.hid (blk_below hL.out hb1)
      have B1 := Lib.hid (below_then hB hS hb1)
      clear hK hL hB hS hb1 ki
      have hi : (fl = 3 ∧ decide (fl = 3) = true) ∨ (¬ fl = 3 ∧ decide (fl = 3) = false) := by
        by_cases q : fl = 3
        · exact .inl ⟨q, by simp [q]⟩
        · exact .inr ⟨q, by simp [q]⟩
      rcases hi with ⟨hi, hid⟩ | ⟨hi, hid⟩
      · have HE1 := Lib.hid (show R = if true = true then 10 else if le ≠ 0 then le else if od = true then 10 else if (0 : Int) = 2 then (if br = true then 0 else 1) else cd by rw [HE0.out, if_pos (by simp [hi]), if_pos rfl])
        rw [hid]
        clear HE0 hid hi
        go_wp2_with fail
        go_meet
        exact ⟨true, rfl, B1, K1, L1, HE1⟩
      · have HE1 := Lib.hid (show R = if false = true then 10 else if le ≠ 0 then le else if od = true then 10 else if (0 : Int) = 2 then (if br = true then 0 else 1) else cd by rw [HE0.out, if_neg (by simp [hi])]; simp)
        rw [hid]
        clear HE0 hid hi
        go_wp2_with fail
        go_meet
        exact ⟨false, rfl, B1, K1, L1, HE1⟩
    · have m0b : (mf == 0) = false := by rw [beq_eq_false_iff_ne]; exact m0
      have HE1 := Lib.hid (show R = if false = true then 10 else if le ≠ 0 then le else if od = true then 10 else if mf = 2 then (if br = true then 0 else 1) else cd by rw [HE0.out, if_neg (by omega)]; simp)
      have B1 := Lib.hid hB
      clear hB hS HE0
      go_wp2_with fail
      go_meet
      exact ⟨false, rfl, B1, hK, hL, HE1⟩
  case rest =>
    clear hB hS hK hL HE0 ki
    obtain ⟨b, rfl, HB1, K1, L1, HE0⟩ := hcut
    have B1 := HB1.out
    have S1 := B1.size
    clear HB1
    cases b with
    | true =>
      have hR : R = 10 := by rw [HE0.out, if_pos rfl]
      subst hR
      clear HE0
      go_wp2
      go_ret
      exact ⟨rfl, B1⟩
    | false =>
    have HE1 := Lib.hid (show R = if le ≠ 0 then le else if od = true then 10 else if mf = 2 then (if br = true then 0 else 1) else cd by rw [HE0.out, if_neg (by decide)])
    clear HE0
    obtain ⟨c0, c1, c2, c3, c4, c5, c6⟩ := flC_box K1.out
    have e0 := (blk_cell L1.out 0 (.int .i64 mf) rfl).1
    have e1 := (blk_cell L1.out 1 (.int .i64 mn) rfl).1
    have e2 := (blk_cell L1.out 2 (.int .i64 md) rfl).1
    have e3 := (blk_cell L1.out 3 (.int .i64 ms) rfl).1
    have e4 := (blk_cell L1.out 4 (.int .i64 ml) rfl).1
    have e5 := (blk_cell L1.out 5 (.string mc) rfl).1
    have e6 := (blk_cell L1.out 6 (.slice mA mh.length mcap) rfl).1
    go_wp2_with fail
    refine (kl.out _ (rdF_below hr0.out B1) (T0.out.below B1)).mono ?_
    rintro e w2 ⟨rfl, hb2⟩
    have K2 := Lib.hid (blk_below K1.out hb2)
    have L2 := Lib.hid (blk_below L1.out hb2)
    have B2 := below_then B1 S1 hb2
    have S2 := B2.size
    clear K1 L1 B1 S1 hb2 kl c0 c1 c2 c3 c4 c5 c6 e0 e1 e2 e3 e4 e5 e6
    obtain ⟨c0, c1, c2, c3, c4, c5, c6⟩ := flC_box K2.out
    have e0 := (blk_cell L2.out 0 (.int .i64 mf) rfl).1
    have e1 := (blk_cell L2.out 1 (.int .i64 mn) rfl).1
    have e2 := (blk_cell L2.out 2 (.int .i64 md) rfl).1
    have e3 := (blk_cell L2.out 3 (.int .i64 ms) rfl).1
    have e4 := (blk_cell L2.out 4 (.int .i64 ml) rfl).1
    have e5 := (blk_cell L2.out 5 (.string mc) rfl).1
    have e6 := (blk_cell L2.out 6 (.slice mA mh.length mcap) rfl).1
    by_cases hle : le = 0
    · subst hle
      have HE2 := Lib.hid HE1.out
      rw [if_neg (by simp)] at HE2
      clear HE1
      go_wp2_with fail
      refine (kn.out _ (rdF_below hr0.out B2)).mono ?_
      rintro e w3 ⟨rfl, hb3⟩
      have K3 := Lib.hid (blk_below K2.out hb3)
      have L3 := Lib.hid (blk_below L2.out hb3)
      have B3 := below_then B2 S2 hb3
      have S3 := B3.size
      clear K2 L2 B2 S2 hb3 kn c0 c1 c2 c3 c4 c5 c6 e0 e1 e2 e3 e4 e5 e6
      obtain ⟨c0, c1, c2, c3, c4, c5, c6⟩ := flC_box K3.out
      have e0 := (blk_cell L3.out 0 (.int .i64 mf) rfl).1
      have e1 := (blk_cell L3.out 1 (.int .i64 mn) rfl).1
      have e2 := (blk_cell L3.out 2 (.int .i64 md) rfl).1
      have e3 := (blk_cell L3.out 3 (.int .i64 ms) rfl).1
      have e4 := (blk_cell L3.out 4 (.int .i64 ml) rfl).1
      have e5 := (blk_cell L3.out 5 (.string mc) rfl).1
      have e6 := (blk_cell L3.out 6 (.slice mA mh.length mcap) rfl).1
      go_wp2_with fail
      refine (kd.out _ (rdF_below hr0.out B3)).mono ?_
      rintro e w4 ⟨rfl, hb4⟩
      have K4 := Lib.hid (blk_below K3.out hb4)
      have L4 := Lib.hid (blk_below L3.out hb4)
      have B4 := below_then B3 S3 hb4
      have S4 := B4.size
      clear K3 L3 B3 S3 hb4 kd c0 c1 c2 c3 c4 c5 c6 e0 e1 e2 e3 e4 e5 e6
      obtain ⟨c0, c1, c2, c3, c4, c5, c6⟩ := flC_box K4.out
      have e0 := (blk_cell L4.out 0 (.int .i64 mf) rfl).1
      have e1 := (blk_cell L4.out 1 (.int .i64 mn) rfl).1
      have e2 := (blk_cell L4.out 2 (.int .i64 md) rfl).1
      have e3 := (blk_cell L4.out 3 (.int .i64 ms) rfl).1
      have e4 := (blk_cell L4.out 4 (.int .i64 ml) rfl).1
      have e5 := (blk_cell L4.out 5 (.string mc) rfl).1
      have e6 := (blk_cell L4.out 6 (.slice mA mh.length mcap) rfl).1
      go_wp2_with fail
      refine (km.out _ (T0.out.below B4)).mono ?_
      rintro e w5 ⟨A5, x5, rfl, _, hb5⟩
      have K5 := Lib.hid (blk_below K4.out hb5)
      have L5 := Lib.hid (blk_below L4.out hb5)
      have B5 := below_then B4 S4 hb5
      have S5 := B5.size
      clear K4 L4 B4 S4 hb5 km c0 c1 c2 c3 c4 c5 c6 e0 e1 e2 e3 e4 e5 e6
      obtain ⟨c0, c1, c2, c3, c4, c5, c6⟩ := flC_box K5.out
      have e0 := (blk_cell L5.out 0 (.int .i64 mf) rfl).1
      have e1 := (blk_cell L5.out 1 (.int .i64 mn) rfl).1
      have e2 := (blk_cell L5.out 2 (.int .i64 md) rfl).1
      have e3 := (blk_cell L5.out 3 (.int .i64 ms) rfl).1
      have e4 := (blk_cell L5.out 4 (.int .i64 ml) rfl).1
      have e5 := (blk_cell L5.out 5 (.string mc) rfl).1
      have e6 := (blk_cell L5.out 6 (.slice mA mh.length mcap) rfl).1
      have hlk := blk_lt K5.out
      have hll := blk_lt L5.out
      have KZ := Lib.hid (blk_old (o := .cells #[.slice A5 sl.length x5, .int .i64 sd, .string sn, .bool sv] 173) K5.out)
      have LZ := Lib.hid (blk_old (o := .cells #[.slice A5 sl.length x5, .int .i64 sd, .string sn, .bool sv] 173) L5.out)
      have BZ := B5.alloc S5 (.cells #[.slice A5 sl.length x5, .int .i64 sd, .string sn, .bool sv] 173)
      have SZ := Lib.hid BZ.size
      have q1 : decide (na = Sp.initB) = (na.toList == [60, 105, 110, 105, 116, 62]) := by rw [← initL, bytes_eqb]
      have q2 : decide (na = Sp.clinitB) = (na.toList == [60, 99, 108, 105, 110, 105, 116, 62]) := by rw [← clinitL, bytes_eqb]
      have q3 : decide (da = Sp.voidB) = (da.toList == [40, 41, 86]) := by rw [← voidL, bytes_eqb]
      have hic : (na.toList == [60, 105, 110, 105, 116, 62]) = true → (na.toList == [60, 99, 108, 105, 110, 105, 116, 62]) = false := by
        intro hA
        rw [Bool.eq_false_iff]
        intro r
        rw [beq_iff_eq] at hA r
        rw [hA] at r
        exact absurd r (by decide)
      have HO2 : Hid (od = (((na.toList == [60, 105, 110, 105, 116, 62]) && (decide (mf ≠ 0) || !sv)) || ((na.toList == [60, 99, 108, 105, 110, 105, 116, 62]) && (decide (mf ≠ 1) || !(da.toList == [40, 41, 86]))))) := Lib.hid (by
        rw [HO.out, q1, q2, ← q3]
        simp only [decide_not])
      have hmm : (mf = 0 ∧ (mf != 0) = false ∧ (mf != 1) = true) ∨ (mf = 1 ∧ (mf != 0) = true ∧ (mf != 1) = false) ∨ (mf = 2 ∧ (mf != 0) = true ∧ (mf != 1) = true) := by
        have : mf = 0 ∨ mf = 1 ∨ mf = 2 := by omega
        rcases this with rfl | rfl | rfl <;> simp
      have hic2 := Lib.hid hic
      clear hic q1 q2 q3 HO K5 L5
      have TZ := Lib.hid (blk_new w5 (.cells #[.slice A5 sl.length x5, .int .i64 sd, .string sn, .bool sv] 173))
      obtain ⟨s0, s1, s2, s3⟩ := (blk4 TZ.out).1
      go_upto_region 9 with fail
      go_cut [59] (fun s59 wx => s59 = .bool ((na.toList == [60, 105, 110, 105, 116, 62]) && (decide (mf ≠ 0) || !sv)) ∧ wx = w5.alloc (.cells #[.slice A5 sl.length x5, .int .i64 sd, .string sn, .bool sv] 173))
      case first =>
        cases hA : (na.toList == [60, 105, 110, 105, 116, 62]) with
        | false =>
          go_wp2_with fail
          go_meet
          exact ⟨by simp [hA], rfl⟩
        | true =>
          by_cases m0 : mf = 0
          · subst m0
            cases sv with
            | true =>
              go_wp2_with fail
              go_meet
              exact ⟨by simp [hA], rfl⟩
            | false =>
              go_wp2_with fail
              go_meet
              exact ⟨by simp [hA], rfl⟩
          · have m0b : (mf != 0) = true := by simp [m0]
            go_wp2_with fail
            go_meet
            exact ⟨by simp [hA, m0], rfl⟩
      case rest =>
        obtain ⟨rfl, rfl⟩ := hcut
        generalize hc1 : ((na.toList == [60, 105, 110, 105, 116, 62]) && (decide (mf ≠ 0) || !sv)) = t1 at *
        cases t1 with
        | true =>
          have hR : R = 10 := by rw [HE2.out, if_pos (by rw [HO2.out]; rfl)]
          subst hR
          clear HE2
          go_wp2_with fail
          go_ret
          exact ⟨rfl, BZ⟩
        | false =>
          have HO3 : Hid (od = ((na.toList == [60, 99, 108, 105, 110, 105, 116, 62]) && (decide (mf ≠ 1) || !(da.toList == [40, 41, 86])))) := Lib.hid (by rw [HO2.out]; simp)
          clear HO2 hc1 hic2
          go_upto_region 10 with fail
          go_cut [59] (fun s59 wx => s59 = .bool ((na.toList == [60, 99, 108, 105, 110, 105, 116, 62]) && (decide (mf ≠ 1) || !(da.toList == [40, 41, 86]))) ∧ wx = w5.alloc (.cells #[.slice A5 sl.length x5, .int .i64 sd, .string sn, .bool sv] 173))
          case first =>
            cases hA : (na.toList == [60, 99, 108, 105, 110, 105, 116, 62]) with
            | false =>
              go_wp2_with fail
              go_meet
              exact ⟨by simp [hA], rfl⟩
            | true =>
              by_cases m1 : mf = 1
              · subst m1
                cases hC : (da.toList == [40, 41, 86]) with
                | true =>
                  go_wp2_with fail
                  go_meet
                  exact ⟨by simp [hA, hC], rfl⟩
                | false =>
                  go_wp2_with fail
                  go_meet
                  exact ⟨by simp [hA, hC], rfl⟩
              · have m1b : (mf != 1) = true := by simp [m1]
                go_wp2_with fail
                go_meet
                exact ⟨by simp [hA, m1], rfl⟩
          case rest =>
            obtain ⟨rfl, rfl⟩ := hcut
            generalize hc1 : ((na.toList == [60, 99, 108, 105, 110, 105, 116, 62]) && (decide (mf ≠ 1) || !(da.toList == [40, 41, 86]))) = t2 at *
            cases t2 with
            | true =>
              have hR : R = 10 := by rw [HE2.out, if_pos HO3.out]
              subst hR
              clear HE2
              go_wp2_with fail
              go_ret
              exact ⟨rfl, BZ⟩
            | false =>
              have HE3 := Lib.hid (show R = if mf = 2 then (if br = true then 0 else 1) else cd by rw [HE2.out, if_neg (by rw [HO3.out]; decide)])
              clear HE2 HO3 hc1 s0 s1 s2 s3
              by_cases m2 : mf = 2
              · subst m2
                have HT := Lib.hid (show R = (if br = true then 0 else 1) by rw [HE3.out, if_pos rfl])
                clear HE3
                go_wp2_with fail
                refine (kb.out _).mono ?_
                rintro e w6 ⟨rfl, hb6⟩
                have B6 := below_then BZ SZ.out hb6
                have L6 := Lib.hid (blk_below LZ.out hb6)
                clear c0 c1 c2 c3 c4 c5 c6 e0 e1 e2 e3 e4 e5 e6
                have e0 := (blk_cell L6.out 0 (.int .i64 2) rfl).1
                cases br with
                | false =>
                  have hR : R = 1 := HT.out
                  subst hR
                  clear HT
                  go_wp2_with fail
                  go_ret
                  exact ⟨rfl, B6⟩
                | true =>
                  have hR : R = 0 := HT.out
                  subst hR
                  clear HT
                  go_wp2_with fail
                  go_ret
                  exact ⟨rfl, B6⟩
              · have m2b : (mf == 2) = false := by rw [beq_eq_false_iff_ne]; exact m2
                have HT := Lib.hid (show R = _ by rw [HE3.out, if_neg m2, HC.out])
                (try simp only [] at HT)
                clear HE3 HC kb
                by_cases g0 : ms < 0
                · clear HH kt hcc
                  have hR : R = 26 := by rw [HT.out, if_pos (by omega)]
                  subst hR
                  clear HT
                  go_wp2
                  go_ret
                  exact ⟨rfl, BZ⟩
                by_cases g1 : 64 < ms
                · clear HH kt hcc
                  have hR : R = 26 := by rw [HT.out, if_pos (by omega)]
                  subst hR
                  clear HT
                  go_wp2
                  go_ret
                  exact ⟨rfl, BZ⟩
                by_cases g2 : ml < 0
                · clear HH kt hcc
                  have hR : R = 26 := by rw [HT.out, if_pos (by omega)]
                  subst hR
                  clear HT
                  go_wp2
                  go_ret
                  exact ⟨rfl, BZ⟩
                by_cases g3 : 64 < ml
                · clear HH kt hcc
                  have hR : R = 26 := by rw [HT.out, if_pos (by omega)]
                  subst hR
                  clear HT
                  go_wp2
                  go_ret
                  exact ⟨rfl, BZ⟩
                have HE2 := Lib.hid HT.out
                rw [if_neg (by omega)] at HE2
                clear HT
                have HT := HE2
                clear HE2
                by_cases g4 : mc.size = 0
                · obtain rfl := str_empty mc g4
                  clear HH kt hcc
                  have hR : R = 5 := by rw [HT.out, if_pos g4]
                  subst hR
                  clear HT
                  go_wp2
                  go_ret
                  exact ⟨rfl, BZ⟩
                have hne : (mc.toList == []) = false := by
                  rw [Bool.eq_false_iff]
                  intro r
                  have := (bytes_beq_iff mc ⟨#[]⟩).1 (by simpa using r)
                  rw [this] at g4
                  exact g4 rfl
                by_cases g5 : 4096 < mc.size
                · have hz : (4096 : Int) < (mc.size : Int) := by omega
                  clear HH kt hcc
                  have hR : R = 2 := by rw [HT.out, if_neg g4, if_pos g5]
                  subst hR
                  clear HT
                  go_wp2
                  go_ret
                  exact ⟨rfl, BZ⟩
                have hz5 : ¬ (4096 : Int) < (mc.size : Int) := by omega
                by_cases g6 : 32 < mh.length
                · have hz : (32 : Int) < (mh.length : Int) := by omega
                  clear HH kt hcc
                  have hR : R = 3 := by rw [HT.out, if_neg g4, if_neg g5, if_pos g6]
                  subst hR
                  clear HT
                  go_wp2
                  go_ret
                  exact ⟨rfl, BZ⟩
                have hz6 : ¬ (32 : Int) < (mh.length : Int) := by omega
                have HF := Lib.hid (show Sp.handS pool mc.size mh = R by rw [HT.out, if_neg g4, if_neg g5, if_neg g6])
                clear HT g4 g5 g6
                go_wp2
                clear c0 c1 c2 c3 c4 c5 c6 e0 e1 e2 e3 e4 e5 e6
                go_loopw [131] (fun vk wr => ∃ k : Nat, vk = .int .i64 k ∧ k ≤ mh.length ∧ Below w.heap.size w wr ∧ Hid (wr.heap[w.heap.size]? = some (.cells (flC ⟨qA, qc, qI, qd, qX, qe, qY, qg⟩ ⟨pool, fl, th, su, ifs, flds, mths⟩) 63 (0, 0))) ∧ Hid (wr.heap[w.heap.size + 1]? = some (.cells #[.int .i64 mf, .int .i64 mn, .int .i64 md, .int .i64 ms, .int .i64 ml, .string mc, .slice mA mh.length mcap] 105 (0, 0))) ∧ Hid (Sp.handS pool mc.size (mh.drop k) = R)) (fun vk _ => mh.length - (RowKit.intOf vk).toNat)
                case atStart => exact ⟨0, by go_num, Nat.zero_le _, BZ, KZ, LZ, HF⟩
                case round =>
                  clear BZ KZ LZ HF
                  obtain ⟨k, rfl, hk, hb, hK, hL, hf⟩ := hrel
                  have hbz := hb.size
                  have hlb := blk_lt hK.out
                  have hll := blk_lt hL.out
                  obtain ⟨c0, c1, c2, c3, c4, c5, c6⟩ := flC_box hK.out
                  have e5 := (blk_cell hL.out 5 (.string mc) rfl).1
                  have e6 := (blk_cell hL.out 6 (.slice mA mh.length mcap) rfl).1
                  by_cases hlt : k < mh.length
                  · obtain ⟨b, o, rfl, hrg⟩ := HH.out (by omega)
                    obtain ⟨d0, d1, d2, d3⟩ := hn_cells hrg hlt
                    have D0 := cell_below hb d0
                    have D1 := cell_below hb d1
                    have D2 := cell_below hb d2
                    have D3 := cell_below hb d3
                    have hzk : (k : Int) < (mh.length : Int) := by omega
                    have hin := hcc.out _ (List.getElem_mem hlt)
                    have hd : mh.drop k = mh[k] :: mh.drop (k + 1) := List.drop_eq_getElem_cons hlt
                    have hf2 := hf.out
                    rw [hd, Sp.handS] at hf2
                    clear hf hd hrg d0 d1 d2 d3
                    generalize mh[k] = h at *
                    obtain ⟨hfr, hto, hat, hcl⟩ := h
                    simp only [] at D0 D1 D2 D3 hin hf2
                    have hf3 := Lib.hid hf2
                    clear hf2
                    by_cases p0 : hfr < 0
                    · have hR : R = 1 := by rw [← hf3.out, if_pos (by omega)]
                      subst hR
                      clear hf3
                      go_wp2
                      go_ret
                      exact ⟨rfl, hb.alloc hbz _⟩
                    by_cases p1 : hto ≤ hfr
                    · have hR : R = 1 := by rw [← hf3.out, if_pos (by omega)]
                      subst hR
                      clear hf3
                      go_wp2
                      go_ret
                      exact ⟨rfl, hb.alloc hbz _⟩
                    by_cases p2 : (mc.size : Int) < hto
                    · have hR : R = 1 := by rw [← hf3.out, if_pos (by omega)]
                      subst hR
                      clear hf3
                      go_wp2
                      go_ret
                      exact ⟨rfl, hb.alloc hbz _⟩
                    by_cases p3 : hat < 0
                    · have hR : R = 1 := by rw [← hf3.out, if_pos (by omega)]
                      subst hR
                      clear hf3
                      go_wp2
                      go_ret
                      exact ⟨rfl, hb.alloc hbz _⟩
                    by_cases p4 : (mc.size : Int) ≤ hat
                    · have hR : R = 1 := by rw [← hf3.out, if_pos (by omega)]
                      subst hR
                      clear hf3
                      go_wp2
                      go_ret
                      exact ⟨rfl, hb.alloc hbz _⟩
                    have hf4 := Lib.hid hf3.out
                    rw [if_neg (by omega)] at hf4
                    clear hf3
                    have ka := Lib.hid (fun W hr => kt.out hcl hin W hr)
                    generalize Sp.taggedS pool hcl 4 = ty at *
                    have hbt := hb.alloc hbz (.cells #[.int .i64 hfr, .int .i64 hto, .int .i64 hat, .int .i64 hcl] 119)
                    have hKt := Lib.hid (blk_old (o := .cells #[.int .i64 hfr, .int .i64 hto, .int .i64 hat, .int .i64 hcl] 119) hK.out)
                    have hLt := Lib.hid (blk_old (o := .cells #[.int .i64 hfr, .int .i64 hto, .int .i64 hat, .int .i64 hcl] 119) hL.out)
                    have hbtz := hbt.size
                    have hrw := Lib.hid (rdF_below hr0.out (show Below w.heap.size w _ from hbt))
                    by_cases hc0 : hcl = 0
                    · have hf5 := Lib.hid (show Sp.handS pool mc.size (mh.drop (k + 1)) = R by rw [← hf4.out, if_neg (by rintro ⟨h, _⟩; exact h hc0)])
                      subst hc0
                      clear hf4 ka hrw
                      go_wp2
                      go_roundw
                      case rel => exact ⟨k + 1, by go_num, by omega, hbt, hKt, hLt, hf5⟩
                      case measure => simp [RowKit.intOf]; omega
                    · have hcb : (hcl != 0) = true := by simp [hc0]
                      go_wp2_with fail
                      refine (ka.out _ hrw.out).mono ?_
                      rintro e w14 ⟨rfl, hb14⟩
                      have K14 := Lib.hid (blk_below hKt.out hb14)
                      have L14 := Lib.hid (blk_below hLt.out hb14)
                      have B14 := below_then hbt hbtz hb14
                      clear hK hL hb hb14 ka hrw hbt hKt hLt hbtz c0 c1 c2 c3 c4 c5 c6 D0 D1 D2 D3 e5 e6 hlb hll p0 p1 p2 p3 p4
                      cases ty with
                      | false =>
                        have hR : R = 7 := by rw [← hf4.out, if_pos ⟨hc0, rfl⟩]
                        subst hR
                        clear hf4
                        go_wp2
                        go_ret
                        exact ⟨rfl, B14⟩
                      | true =>
                        have hf5 := Lib.hid (show Sp.handS pool mc.size (mh.drop (k + 1)) = R by rw [← hf4.out, if_neg (by rintro ⟨_, h⟩; cases h)])
                        clear hf4
                        go_wp2
                        go_roundw
                        case rel => exact ⟨k + 1, by go_num, by omega, B14, K14, L14, hf5⟩
                        case measure => simp [RowKit.intOf]; omega
                  · obtain rfl : k = mh.length := by omega
                    have hzk : ¬ (mh.length : Int) < (mh.length : Int) := by omega
                    have hR : R = 0 := by rw [← hf.out, List.drop_length]; rfl
                    subst hR
                    clear hf
                    go_wp2
                    go_ret
                    exact ⟨rfl, hb⟩
    · have hleb : (le != 0) = true := by simp [hle]
      have hR : R = le := by rw [HE1.out, if_pos hle]
      subst hR
      clear HE1 hle
      go_wp2
      go_ret
      exact ⟨rfl, B2⟩
end Go.Proofs.YtfjplmbknegidaaGreatDoor
end
section
/-
  Walk of chapter 3's parts.
-/
set_option linter.unusedVariables false
set_option linter.unusedSimpArgs false
namespace Go.Proofs.YtfjplmbknegidaaGreatDoor
open Go.RowKit Go.Lib

namespace Sp
/-- The first error of constants. -/
def poolF (p : List Cn) : List Cn → Int
  | [] => 0
  | c :: l => if constS p c ≠ 0 then constS p c else poolF p l
def partsS (F : Fl) : Int :=
  if 2000 < F.pool.length then 3
  else if poolF F.pool F.pool ≠ 0 then poolF F.pool F.pool
  else if headS F.pool F.flags F.this F.super F.ifaces ≠ 0 then headS F.pool F.flags F.this F.super F.ifaces
  else if memS (fieldM F.pool F.flags) (keyM F.pool false) F.fields ≠ 0 then memS (fieldM F.pool F.flags) (keyM F.pool false) F.fields
  else memS (methodM F.pool F.flags) (keyM F.pool true) F.methods
end Sp

/-- What a class's numbers and texts are, as far as the model's types tell, and how long its texts are. -/
structure FlOk (F : FlP) : Prop where
  flags : In64 F.flags
  this : In64 F.this
  super : In64 F.super
  ifaces : ∀ i ∈ F.ifaces, In64 i
  pool : ∀ c ∈ F.pool, In64 c.tag ∧ In64 c.n ∧ In64 c.a ∧ In64 c.b ∧ In64 c.c ∧ c.text.size ≤ 1099511627776
  fields : ∀ m ∈ F.fields, In64 m.1.flags ∧ In64 m.1.name ∧ In64 m.1.desc
  methods : ∀ m ∈ F.methods, In64 m.1.flags ∧ In64 m.1.name ∧ In64 m.1.desc ∧ In64 m.1.stack ∧ In64 m.1.locals ∧ m.1.code.size ≤ 1099511627776 ∧ ∀ h ∈ m.1.hs, In64 h.fr ∧ In64 h.til ∧ In64 h.at_ ∧ In64 h.cls

theorem FlOk.texts {F : FlP} (h : FlOk F) : ∀ c ∈ F.pool, c.text.size ≤ 1099511627776 := fun c hc => (h.pool c hc).2.2.2.2.2

theorem fields_any (q : Sp.At) (F : FlP) (w : World) (hr : RdF w q F) (hF : FlOk F) (hff : FlagsOk F.flags) (hT : Tabs w) :
    Calls Tryz.prog 104 #[.agg (flC q F), .slice q.X F.fields.length q.e, .func (.func 105) #[] #[], .bool false] w fun e w' => e = .returned (.int .i64 (Sp.memS (Sp.fieldM F.pool F.flags) (Sp.keyM F.pool false) (F.fields.map (·.1)))) ∧ Below w.heap.size w w' :=
  members_any q F F.fields q.X q.e 105 false (Sp.fieldM F.pool F.flags) w hr hr.fields (fun m hm => ⟨(hF.fields m hm).2.1, (hF.fields m hm).2.2⟩) hF.texts (fun _ _ => by kernel_rfl)
    (fun m hm W hb => fieldM_any q F m W (rdF_below hr hb) hff (hF.fields m hm).2.1 (hF.fields m hm).2.2 (hr.fields.2 m hm).1 hF.texts (hT.below hb))
theorem methods_any (q : Sp.At) (F : FlP) (w : World) (hr : RdF w q F) (hF : FlOk F) (hff : FlagsOk F.flags) (hT : Tabs w) :
    Calls Tryz.prog 104 #[.agg (flC q F), .slice q.Y F.methods.length q.g, .func (.func 106) #[] #[], .bool true] w fun e w' => e = .returned (.int .i64 (Sp.memS (Sp.methodM F.pool F.flags) (Sp.keyM F.pool true) (F.methods.map (·.1)))) ∧ Below w.heap.size w w' :=
  members_any q F F.methods q.Y q.g 106 true (Sp.methodM F.pool F.flags) w hr hr.methods (fun m hm => ⟨(hF.methods m hm).2.1, (hF.methods m hm).2.2.1⟩) hF.texts (fun _ _ => by kernel_rfl)
    (fun m hm W hb => methodM_any q F m W (rdF_below hr hb) hff (hF.methods m hm).2.1 (hF.methods m hm).2.2.1 ((rdF_below hr hb).methods.2 m hm) (fun h hh => ((hF.methods m hm).2.2.2.2.2.2 h hh).2.2.2) (hF.methods m hm).2.2.2.2.2.1 hF.texts (hT.below hb))

theorem head_flags (p : List Sp.Cn) (fl th su : Int) (ifs : List Int) (h : Sp.headS p fl th su ifs = 0) : FlagsOk fl := by
  unfold FlagsOk
  unfold Sp.headS at h
  by_cases a : fl = 0 ∨ fl = 2 ∨ fl = 3
  · exact a
  · simp only [not_or] at a
    simp [a.1, a.2.1, a.2.2] at h

set_option maxHeartbeats 16000000 in
set_option maxRecDepth 100000 in
theorem parts_any (q : Sp.At) (F : FlP) (w : World) (hr : RdF w q F) (hF : FlOk F) (hT : Tabs w) :
    Calls Tryz.prog 78 #[.agg (flC q F)] w fun e w' => e = .returned (.int .i64 (Sp.partsS F.fl)) ∧ Below w.heap.size w w' := by
  have kc := Lib.hid (fun (c : Sp.Cn) (hc : c ∈ F.pool) W hr hT => constant_any q F c W hr (hF.pool c hc).2.2.1 (hF.pool c hc).2.2.2.1 (hF.pool c hc).2.2.2.2.1 (hF.pool c hc).2.2.2.2.2 hF.texts hT)
  have kh := Lib.hid (fun W hr => head_any q F W hr hF.this hF.super hF.ifaces)
  have kf := Lib.hid (fun hff W hr hT => fields_any q F W hr hF hff hT)
  have km := Lib.hid (fun hff W hr hT => methods_any q F W hr hF hff hT)
  have HE := Lib.hid (show Sp.partsS F.fl = _ by rw [Sp.partsS])
  generalize Sp.partsS F.fl = R at HE ⊢
  unfold FlP.fl at HE
  simp only [] at HE
  have hr0 := Lib.hid hr
  have hT0 := Lib.hid hT
  have hl := hr.pool.1
  have HP := Lib.hid hr.pool.2
  have hK := Lib.hid (blk_new w (.cells (flC q F) 63))
  have hB := (Below.refl w.heap.size w).alloc (Nat.le_refl _) (.cells (flC q F) 63)
  have KK : ∀ X : Array Value, X = flC q F → Hid (∀ c : Sp.Cn, c ∈ F.pool → ∀ W, Below w.heap.size w W → Calls Tryz.prog 102 #[.agg X, .agg #[.int .i64 c.tag, .string c.text, .int .i64 c.n, .int .i64 c.a, .int .i64 c.b, .int .i64 c.c]] W fun e w' => e = .returned (.int .i64 (Sp.constS F.pool c)) ∧ Below W.heap.size W w') ∧ Hid (∀ W, Below w.heap.size w W → Calls Tryz.prog 103 #[.agg X] W fun e w' => e = .returned (.int .i64 (Sp.headS F.pool F.flags F.this F.super F.ifaces)) ∧ Below W.heap.size W w') ∧ Hid (FlagsOk F.flags → ∀ W, Below w.heap.size w W → Calls Tryz.prog 104 #[.agg X, .slice q.X F.fields.length q.e, .func (.func 105) #[] #[], .bool false] W fun e w' => e = .returned (.int .i64 (Sp.memS (Sp.fieldM F.pool F.flags) (Sp.keyM F.pool false) (F.fields.map (·.1)))) ∧ Below W.heap.size W w') ∧ Hid (FlagsOk F.flags → ∀ W, Below w.heap.size w W → Calls Tryz.prog 104 #[.agg X, .slice q.Y F.methods.length q.g, .func (.func 106) #[] #[], .bool true] W fun e w' => e = .returned (.int .i64 (Sp.memS (Sp.methodM F.pool F.flags) (Sp.keyM F.pool true) (F.methods.map (·.1)))) ∧ Below W.heap.size W w') := by
    rintro X rfl
    exact ⟨Lib.hid (fun c hc W hb => kc.out c hc W (rdF_below hr hb) (hT.below hb)), Lib.hid (fun W hb => kh.out W (rdF_below hr hb)), Lib.hid (fun hff W hb => kf.out hff W (rdF_below hr hb) (hT.below hb)), Lib.hid (fun hff W hb => km.out hff W (rdF_below hr hb) (hT.below hb))⟩
  clear hr hF hT kc kh kf km hr0 hT0
  obtain ⟨pool, fl, th, su, ifs, flds, mths⟩ := F
  obtain ⟨qA, qc, qI, qd, qX, qe, qY, qg⟩ := q
  have hfl : flC ⟨qA, qc, qI, qd, qX, qe, qY, qg⟩ ⟨pool, fl, th, su, ifs, flds, mths⟩ = #[.slice qA pool.length qc, .int .i64 fl, .int .i64 th, .int .i64 su, .slice qI ifs.length qd, .slice qX flds.length qe, .slice qY mths.length qg] := rfl
  obtain ⟨kc, kh, kf, km⟩ := KK #[.slice qA pool.length qc, .int .i64 fl, .int .i64 th, .int .i64 su, .slice qI ifs.length qd, .slice qX flds.length qe, .slice qY mths.length qg] rfl
  clear KK
  simp only [] at kc kh kf km HE hl HP
  rw [hfl] at hK hB ⊢
  clear hfl
  by_cases h2000 : 2000 < pool.length
  · have hR : R = 3 := by rw [HE.out, if_pos h2000]
    have hzz : decide ((2000 : Int) < (pool.length : Int)) = true := decide_eq_true (by omega)
    subst hR
    clear HE kc kh kf km HP
    obtain ⟨c0, f0⟩ := blk_cell hK.out 0 _ rfl
    go_enter Tryz.func78, Tryz.ntmps78
    go_wp2
    go_ret
    exact ⟨rfl, hB⟩
  have hzz : decide ((2000 : Int) < (pool.length : Int)) = false := decide_eq_false (by omega)
  have HE1 := HE.out
  rw [if_neg h2000] at HE1
  have hp0 : Sp.poolF pool (pool.drop 0) = Sp.poolF pool pool := rfl
  generalize Sp.poolF pool pool = P0 at HE1 hp0
  have HE2 := Lib.hid HE1
  have HP0 := Lib.hid hp0
  clear HE HE1 hp0
  have B0 := Lib.hid hB
  have K0 := hK
  clear hB
  obtain ⟨c0, f0⟩ := blk_cell hK.out 0 _ rfl
  clear hK
  have hff := Lib.hid (head_flags pool fl th su ifs)
  generalize Sp.headS pool fl th su ifs = hd at *
  generalize Sp.memS (Sp.fieldM pool fl) (Sp.keyM pool false) (flds.map (·.1)) = fd at *
  generalize Sp.memS (Sp.methodM pool fl) (Sp.keyM pool true) (mths.map (·.1)) = mt at *
  go_enter Tryz.func78, Tryz.ntmps78
  go_wp2
  go_loopw [15] (fun v15 wr => ∃ (k : Nat), v15 = .int .i64 k ∧ k ≤ pool.length ∧ Hid (Below w.heap.size w wr) ∧ Hid (wr.heap[w.heap.size]? = some (.cells #[.slice qA pool.length qc, .int .i64 fl, .int .i64 th, .int .i64 su, .slice qI ifs.length qd, .slice qX flds.length qe, .slice qY mths.length qg] 63 (0, 0))) ∧ Hid (Sp.poolF pool (pool.drop k) = P0)) (fun v15 _ => pool.length - (RowKit.intOf v15).toNat)
  case atStart => exact ⟨0, by go_num, Nat.zero_le _, B0, K0, HP0⟩
  case round =>
    clear B0 K0 HP0 c0 f0
    obtain ⟨k, rfl, hk, HB, hK, hf⟩ := hrel
    have hb := HB.out
    have hbz := hb.size
    have hlb := blk_lt hK.out
    obtain ⟨c0, c1, c2, c3, c4, c5, c6⟩ := flC_box (q := ⟨qA, qc, qI, qd, qX, qe, qY, qg⟩) (F := ⟨pool, fl, th, su, ifs, flds, mths⟩) hK.out
    simp only [] at c0 c1 c2 c3 c4 c5 c6
    by_cases hlt : k < pool.length
    · obtain ⟨b, o, rfl, hrg⟩ := HP.out (by omega)
      obtain ⟨d0, d1, d2, d3, d4, d5⟩ := cn_cells hrg hlt
      have D0 := cell_below hb d0
      have D1 := cell_below hb d1
      have D2 := cell_below hb d2
      have D3 := cell_below hb d3
      have D4 := cell_below hb d4
      have D5 := cell_below hb d5
      have hzk : (k : Int) < (pool.length : Int) := by omega
      have kc1 := kc.out _ (List.getElem_mem hlt)
      have hf1 := hf.out
      rw [List.drop_eq_getElem_cons hlt, Sp.poolF] at hf1
      clear hf hrg d0 d1 d2 d3 d4 d5
      generalize pool[k] = cq at *
      obtain ⟨ct, cs, cn, ca, cb, cc⟩ := cq
      simp only [] at D0 D1 D2 D3 D4 D5 kc1
      generalize Sp.constS pool ⟨ct, cs, cn, ca, cb, cc⟩ = cv at *
      have hf2 := Lib.hid hf1
      have kc2 := Lib.hid kc1
      have hbt := hb.alloc hbz (.cells #[.int .i64 ct, .string cs, .int .i64 cn, .int .i64 ca, .int .i64 cb, .int .i64 cc] 93)
      have hKt := Lib.hid (blk_old (o := (.cells #[.int .i64 ct, .string cs, .int .i64 cn, .int .i64 ca, .int .i64 cb, .int .i64 cc] 93)) hK.out)
      have hbtz := hbt.size
      clear hf1 kc1
      go_wp2_with fail
      refine (kc2.out _ hbt).mono ?_
      rintro e w2 ⟨rfl, hb2⟩
      have K2 := Lib.hid (blk_below hKt.out hb2)
      have B2 := Lib.hid (below_then hbt hbtz hb2)
      clear hb HB hK hlb hbz c0 c1 c2 c3 c4 c5 c6 D0 D1 D2 D3 D4 D5 kc2 hbt hKt hbtz hb2
      by_cases hcz : cv = 0
      · subst hcz
        have hf4 := Lib.hid (show Sp.poolF pool (pool.drop (k + 1)) = P0 by have := hf2.out; rwa [if_neg (by simp)] at this)
        clear hf2
        go_wp2
        go_roundw
        case rel => exact ⟨k + 1, by go_num, by omega, B2, K2, hf4⟩
        case measure => simp [RowKit.intOf]; omega
      · have hcb : (cv != 0) = true := by simp [hcz]
        have hR : R = cv := by
          have := hf2.out
          rw [if_pos hcz] at this
          rw [HE2.out, ← this, if_pos hcz]
        subst hR
        clear hf2 hcz HE2
        go_wp2
        go_ret
        exact ⟨rfl, B2.out⟩
    · obtain rfl : k = pool.length := by omega
      have hzk : ¬ (pool.length : Int) < (pool.length : Int) := by omega
      have hP0 : P0 = 0 := by have := hf.out; rw [List.drop_length] at this; exact this.symm
      subst hP0
      have HE3' := HE2.out
      rw [if_neg (by simp)] at HE3'
      have HE3 := Lib.hid HE3'
      clear HE3' HE2 hf kc
      go_wp2_with fail
      refine (kh.out _ hb).mono ?_
      rintro e w2 ⟨rfl, hb2⟩
      have K2 := Lib.hid (blk_below hK.out hb2)
      have B2 := below_then hb hbz hb2
      have z2 := B2.size
      clear hb HB hK hlb hbz c0 c1 c2 c3 c4 c5 c6 hb2 kh
      obtain ⟨c0, c1, c2, c3, c4, c5, c6⟩ := flC_box (q := ⟨qA, qc, qI, qd, qX, qe, qY, qg⟩) (F := ⟨pool, fl, th, su, ifs, flds, mths⟩) K2.out
      simp only [] at c0 c1 c2 c3 c4 c5 c6
      by_cases hz1 : hd = 0
      · subst hz1
        have HE4' := HE3.out
        rw [if_neg (by simp)] at HE4'
        have HE4 := Lib.hid HE4'
        clear HE4' HE3
        go_wp2_with fail
        refine (kf.out (hff.out (by simp)) _ B2).mono ?_
        rintro e w3 ⟨rfl, hb3⟩
        have K3 := Lib.hid (blk_below K2.out hb3)
        have B3 := below_then B2 z2 hb3
        have z3 := B3.size
        clear B2 K2 z2 c0 c1 c2 c3 c4 c5 c6 hb3 kf
        obtain ⟨c0, c1, c2, c3, c4, c5, c6⟩ := flC_box (q := ⟨qA, qc, qI, qd, qX, qe, qY, qg⟩) (F := ⟨pool, fl, th, su, ifs, flds, mths⟩) K3.out
        simp only [] at c0 c1 c2 c3 c4 c5 c6
        by_cases hz2 : fd = 0
        · subst hz2
          have hR : R = mt := by have := HE4.out; rwa [if_neg (by simp)] at this
          subst hR
          clear HE4
          go_wp2_with fail
          refine (km.out (hff.out (by simp)) _ B3).mono ?_
          rintro e w4 ⟨rfl, hb4⟩
          have B4 := below_then B3 z3 hb4
          clear B3 K3 z3 c0 c1 c2 c3 c4 c5 c6 hb4 km
          go_wp2
          go_ret
          exact ⟨rfl, B4⟩
        · have hcb : (fd != 0) = true := by simp [hz2]
          have hR : R = fd := by rw [HE4.out, if_pos hz2]
          subst hR
          clear HE4 hz2
          go_wp2
          go_ret
          exact ⟨rfl, B3⟩
      · have hcb : (hd != 0) = true := by simp [hz1]
        have hR : R = hd := by rw [HE3.out, if_pos hz1]
        subst hR
        clear HE3 hz1
        go_wp2
        go_ret
        exact ⟨rfl, B2⟩
end Go.Proofs.YtfjplmbknegidaaGreatDoor
end
