/-
  Texts of the proof, joined: each says at its head what it proves.
-/
import Derived.Test.YthpfknlgfkecpaaDoorJFileNamesx3
import Derived.Deep.RegionWith
section
/-
  Walk of the reference's head. (Printed by gen_refhead.py.)
-/
set_option linter.unusedVariables false
set_option linter.unusedSimpArgs false
namespace Go.Proofs.YthpfknlgfkecpaaDoor
open Go.RowKit Go.Lib

set_option maxHeartbeats 8000000 in
set_option maxRecDepth 100000 in
theorem refHead_any (q : Sp.At) (F : FlP) (w : World) (hr : RdF w q F) (h1 : In64 F.this) (h2 : In64 F.super) (h3 : ∀ i ∈ F.ifaces, In64 i) :
    Calls Tryd.prog 99 #[.agg (flC q F)] w fun e w' => e = .returned (.int .i64 (Sp.headS F.pool F.flags F.this F.super F.ifaces)) ∧ Below w.heap.size w w' := by
  obtain ⟨pool, fl, th, su, ifs, flds, mths⟩ := F
  obtain ⟨qA, qc, qI, qd, qX, qe, qY, qg⟩ := q
  simp only [] at h1 h2 h3 ⊢
  have HE := Lib.hid (show Sp.headS pool fl th su ifs = _ by rw [Sp.headS])
  have hr0 := Lib.hid hr
  have hil := hr.ifaces.1
  have HI := Lib.hid hr.ifaces.2
  clear hr
  have k1 := Lib.hid (fun W hr => refTagged_any ⟨qA, qc, qI, qd, qX, qe, qY, qg⟩ ⟨pool, fl, th, su, ifs, flds, mths⟩ th 4 W hr h1)
  have k2 := Lib.hid (fun W hr => refTagged_any ⟨qA, qc, qI, qd, qX, qe, qY, qg⟩ ⟨pool, fl, th, su, ifs, flds, mths⟩ su 4 W hr h2)
  have k3 := Lib.hid (fun i (hi : i ∈ ifs) W hr => refTagged_any ⟨qA, qc, qI, qd, qX, qe, qY, qg⟩ ⟨pool, fl, th, su, ifs, flds, mths⟩ i 4 W hr (h3 i hi))
  generalize Sp.headS pool fl th su ifs = R at HE ⊢
  simp only [] at k1 k2 k3 hil HI
  generalize Sp.taggedS pool th 4 = T at *
  generalize Sp.taggedS pool su 4 = U at *
  have hB := (Below.refl w.heap.size w).alloc (Nat.le_refl _) (.cells (flC ⟨qA, qc, qI, qd, qX, qe, qY, qg⟩ ⟨pool, fl, th, su, ifs, flds, mths⟩) 53)
  have hK := Lib.hid (blk_new w (.cells (flC ⟨qA, qc, qI, qd, qX, qe, qY, qg⟩ ⟨pool, fl, th, su, ifs, flds, mths⟩) 53))
  have hS := hB.size
  unfold flC at k1 k2 k3
  have hfl : flC ⟨qA, qc, qI, qd, qX, qe, qY, qg⟩ ⟨pool, fl, th, su, ifs, flds, mths⟩ = #[.slice qA pool.length qc, .int .i64 fl, .int .i64 th, .int .i64 su, .slice qI ifs.length qd, .slice qX flds.length qe, .slice qY mths.length qg] := rfl
  rw [hfl] at hB hS ⊢
  clear hfl
  simp only [] at k1 k2 k3
  by_cases hf : fl ≠ 0 ∧ fl ≠ 2 ∧ fl ≠ 3
  · have hR : R = 10 := by rw [HE.out, if_pos hf]
    obtain ⟨g1, g2, g3⟩ := hf
    have b1 : (fl != 0) = true := by simp [g1]
    have b2 : (fl != 2) = true := by simp [g2]
    have b3 : (fl != 3) = true := by simp [g3]
    subst hR
    clear HE g1 g2 g3
    go_enter Tryd.func99, Tryd.ntmps99
    go_wp2
    go_ret
    exact ⟨rfl, hB⟩
  have HE1 := Lib.hid HE.out
  rw [if_neg hf] at HE1
  clear HE
  have hf3 : fl = 0 ∨ fl = 2 ∨ fl = 3 := by omega
  clear hf
  have hU : su = 0 ∨ ¬ su = 0 := by omega
  rcases hf3 with rfl | rfl | rfl
  · go_enter Tryd.func99, Tryd.ntmps99
    go_wp2_with fail
    refine (k1.out _ (rdF_below hr0.out hB)).mono ?_
    rintro e w1 ⟨rfl, hb1⟩
    have K1 := Lib.hid (blk_below hK.out hb1)
    have B1 := below_then hB hS hb1
    have S1 := B1.size
    clear hK hB hS hb1 k1
    obtain ⟨c0, c1, c2, c3, c4, c5, c6⟩ := flC_box K1.out
    go_wp2_with fail
    refine (k2.out _ (rdF_below hr0.out B1)).mono ?_
    rintro e w2 ⟨rfl, hb2⟩
    have K2 := Lib.hid (blk_below K1.out hb2)
    have B2 := below_then B1 S1 hb2
    clear K1 B1 S1 hb2 k2 c0 c1 c2 c3 c4 c5 c6
    obtain ⟨c0, c1, c2, c3, c4, c5, c6⟩ := flC_box K2.out
    cases T with
    | false =>
      have hR : R = 7 := by rw [HE1.out, if_pos (.inl rfl)]
      subst hR
      clear HE1
      go_wp2
      go_ret
      exact ⟨rfl, B2⟩
    | true =>
      rcases hU with rfl | hu
      · have hub : ((0 : Int) != 0) = false := rfl
        have HE2 := Lib.hid (show R = if 16 < ifs.length then 3 else if ifs.all (fun i => Sp.taggedS pool i 4) = true then 0 else 7 by rw [HE1.out, if_neg (by rintro (h | ⟨h, _⟩); cases h; exact h rfl)])
        clear HE1
        by_cases h16 : 16 < ifs.length
        · have hz : (16 : Int) < (ifs.length : Int) := by omega
          have hR : R = 3 := by rw [HE2.out, if_pos h16]
          subst hR
          clear HE2
          go_wp2
          go_ret
          exact ⟨rfl, B2⟩
        · have hz : ¬ (16 : Int) < (ifs.length : Int) := by omega
          have HF := Lib.hid (show R = if ifs.all (fun i => Sp.taggedS pool i 4) = true then 0 else 7 by rw [HE2.out, if_neg h16])
          clear HE2
          go_wp2
          clear c0 c1 c2 c3 c4 c5 c6
          go_loopw [5] (fun v5 wr => ∃ k : Nat, v5 = .int .i64 k ∧ k ≤ ifs.length ∧ Below w.heap.size w wr ∧ Hid (wr.heap[w.heap.size]? = some (.cells (flC ⟨qA, qc, qI, qd, qX, qe, qY, qg⟩ ⟨pool, 0, th, 0, ifs, flds, mths⟩) 53 (0, 0))) ∧ Hid ((ifs.drop k).all (fun i => Sp.taggedS pool i 4) = ifs.all (fun i => Sp.taggedS pool i 4))) (fun v5 _ => ifs.length - (RowKit.intOf v5).toNat)
          case atStart => exact ⟨0, by go_num, Nat.zero_le _, B2, K2, Lib.hid rfl⟩
          case round =>
            clear B2 K2
            obtain ⟨k, rfl, hk, hb, hK, ha⟩ := hrel
            have hbz := hb.size
            have hlb := blk_lt hK.out
            obtain ⟨c0, c1, c2, c3, c4, c5, c6⟩ := flC_box hK.out
            by_cases hlt : k < ifs.length
            · obtain ⟨b, o, rfl, hcell⟩ := HI.out (by omega)
              have ck := cell_below hb (hcell k hlt)
              have hzk : (k : Int) < (ifs.length : Int) := by omega
              have hz0 : (0 : Int) ≤ (k : Int) := by omega
              have hmem : ifs.getD k 0 ∈ ifs := by rw [List.getD_eq_getElem?_getD, List.getElem?_eq_getElem hlt]; exact List.getElem_mem hlt
              have hd : ifs.drop k = ifs.getD k 0 :: ifs.drop (k + 1) := by rw [List.drop_eq_getElem_cons hlt]; simp [List.getD_eq_getElem?_getD, hlt]
              have ha2 := ha.out
              rw [hd, List.all_cons] at ha2
              have ka := Lib.hid (fun W hr => k3.out _ hmem W hr)
              clear ha hd hmem hcell
              generalize ifs.getD k 0 = y at *
              have ha3 := Lib.hid ha2
              clear ha2
              generalize Sp.taggedS pool y 4 = ty at *
              have r1 := Lib.hid (rdF_below hr0.out (show Below w.heap.size w wr from hb))
              have r2 := Lib.hid (rdF_below hr0.out (show Below w.heap.size w wr.drew from hb.drew))
              go_wp2_with fail
              go_region_with (go_at_call 64; refine (ka.out _ (by first | exact r1.out | exact r2.out)).mono ?_; rintro e w4 ⟨rfl, hb4⟩)
              all_goals
                have hK4 : Hid (w4.heap[w.heap.size]? = some (.cells (flC ⟨qA, qc, some ⟨b, o, none⟩, qd, qX, qe, qY, qg⟩ ⟨pool, 0, th, 0, ifs, flds, mths⟩) 53 (0, 0))) := Lib.hid (by first | exact blk_below hK.out hb4 | exact blk_below (blk_drew hK.out) hb4)
                have hb' : Below w.heap.size w w4 := by first | exact below_then hb hbz hb4 | exact below_then hb.drew hbz hb4
                clear hK hb hb4 ka r1 r2 c0 c1 c2 c3 c4 c5 c6
                cases ty with
                | false =>
                  have hR : R = 7 := by rw [HF.out, ← ha3.out]; rfl
                  subst hR
                  clear HF ha3
                  go_wp2
                  go_ret
                  exact ⟨rfl, hb'⟩
                | true =>
                  have ha4 := Lib.hid (show (ifs.drop (k + 1)).all (fun i => Sp.taggedS pool i 4) = ifs.all (fun i => Sp.taggedS pool i 4) by rw [← ha3.out, Bool.true_and])
                  clear ha3
                  go_wp2
                  go_roundw
                  case rel => exact ⟨k + 1, by go_num, by omega, hb', hK4, ha4⟩
                  case measure => simp [RowKit.intOf]; omega
            · obtain rfl : k = ifs.length := by omega
              have hzk : ¬ (ifs.length : Int) < (ifs.length : Int) := by omega
              have hR : R = 0 := by rw [HF.out, ← ha.out, List.drop_length]; rfl
              subst hR
              clear HF ha
              go_wp2
              go_ret
              exact ⟨rfl, hb⟩
      · have hub : (su != 0) = true := by simp [hu]
        cases U with
        | false =>
          have hR : R = 7 := by rw [HE1.out, if_pos (.inr ⟨hu, rfl⟩)]
          subst hR
          clear HE1
          go_wp2
          go_ret
          exact ⟨rfl, B2⟩
        | true =>
          have HE2 := Lib.hid (show R = if 16 < ifs.length then 3 else if ifs.all (fun i => Sp.taggedS pool i 4) = true then 0 else 7 by rw [HE1.out, if_neg (by rintro (h | ⟨_, h⟩) <;> cases h)])
          clear HE1
          by_cases h16 : 16 < ifs.length
          · have hz : (16 : Int) < (ifs.length : Int) := by omega
            have hR : R = 3 := by rw [HE2.out, if_pos h16]
            subst hR
            clear HE2
            go_wp2
            go_ret
            exact ⟨rfl, B2⟩
          · have hz : ¬ (16 : Int) < (ifs.length : Int) := by omega
            have HF := Lib.hid (show R = if ifs.all (fun i => Sp.taggedS pool i 4) = true then 0 else 7 by rw [HE2.out, if_neg h16])
            clear HE2
            go_wp2
            clear c0 c1 c2 c3 c4 c5 c6
            go_loopw [5] (fun v5 wr => ∃ k : Nat, v5 = .int .i64 k ∧ k ≤ ifs.length ∧ Below w.heap.size w wr ∧ Hid (wr.heap[w.heap.size]? = some (.cells (flC ⟨qA, qc, qI, qd, qX, qe, qY, qg⟩ ⟨pool, 0, th, su, ifs, flds, mths⟩) 53 (0, 0))) ∧ Hid ((ifs.drop k).all (fun i => Sp.taggedS pool i 4) = ifs.all (fun i => Sp.taggedS pool i 4))) (fun v5 _ => ifs.length - (RowKit.intOf v5).toNat)
            case atStart => exact ⟨0, by go_num, Nat.zero_le _, B2, K2, Lib.hid rfl⟩
            case round =>
              clear B2 K2
              obtain ⟨k, rfl, hk, hb, hK, ha⟩ := hrel
              have hbz := hb.size
              have hlb := blk_lt hK.out
              obtain ⟨c0, c1, c2, c3, c4, c5, c6⟩ := flC_box hK.out
              by_cases hlt : k < ifs.length
              · obtain ⟨b, o, rfl, hcell⟩ := HI.out (by omega)
                have ck := cell_below hb (hcell k hlt)
                have hzk : (k : Int) < (ifs.length : Int) := by omega
                have hz0 : (0 : Int) ≤ (k : Int) := by omega
                have hmem : ifs.getD k 0 ∈ ifs := by rw [List.getD_eq_getElem?_getD, List.getElem?_eq_getElem hlt]; exact List.getElem_mem hlt
                have hd : ifs.drop k = ifs.getD k 0 :: ifs.drop (k + 1) := by rw [List.drop_eq_getElem_cons hlt]; simp [List.getD_eq_getElem?_getD, hlt]
                have ha2 := ha.out
                rw [hd, List.all_cons] at ha2
                have ka := Lib.hid (fun W hr => k3.out _ hmem W hr)
                clear ha hd hmem hcell
                generalize ifs.getD k 0 = y at *
                have ha3 := Lib.hid ha2
                clear ha2
                generalize Sp.taggedS pool y 4 = ty at *
                have r1 := Lib.hid (rdF_below hr0.out (show Below w.heap.size w wr from hb))
                have r2 := Lib.hid (rdF_below hr0.out (show Below w.heap.size w wr.drew from hb.drew))
                go_wp2_with fail
                go_region_with (go_at_call 64; refine (ka.out _ (by first | exact r1.out | exact r2.out)).mono ?_; rintro e w4 ⟨rfl, hb4⟩)
                all_goals
                  have hK4 : Hid (w4.heap[w.heap.size]? = some (.cells (flC ⟨qA, qc, some ⟨b, o, none⟩, qd, qX, qe, qY, qg⟩ ⟨pool, 0, th, su, ifs, flds, mths⟩) 53 (0, 0))) := Lib.hid (by first | exact blk_below hK.out hb4 | exact blk_below (blk_drew hK.out) hb4)
                  have hb' : Below w.heap.size w w4 := by first | exact below_then hb hbz hb4 | exact below_then hb.drew hbz hb4
                  clear hK hb hb4 ka r1 r2 c0 c1 c2 c3 c4 c5 c6
                  cases ty with
                  | false =>
                    have hR : R = 7 := by rw [HF.out, ← ha3.out]; rfl
                    subst hR
                    clear HF ha3
                    go_wp2
                    go_ret
                    exact ⟨rfl, hb'⟩
                  | true =>
                    have ha4 := Lib.hid (show (ifs.drop (k + 1)).all (fun i => Sp.taggedS pool i 4) = ifs.all (fun i => Sp.taggedS pool i 4) by rw [← ha3.out, Bool.true_and])
                    clear ha3
                    go_wp2
                    go_roundw
                    case rel => exact ⟨k + 1, by go_num, by omega, hb', hK4, ha4⟩
                    case measure => simp [RowKit.intOf]; omega
              · obtain rfl : k = ifs.length := by omega
                have hzk : ¬ (ifs.length : Int) < (ifs.length : Int) := by omega
                have hR : R = 0 := by rw [HF.out, ← ha.out, List.drop_length]; rfl
                subst hR
                clear HF ha
                go_wp2
                go_ret
                exact ⟨rfl, hb⟩
  · go_enter Tryd.func99, Tryd.ntmps99
    go_wp2_with fail
    refine (k1.out _ (rdF_below hr0.out hB)).mono ?_
    rintro e w1 ⟨rfl, hb1⟩
    have K1 := Lib.hid (blk_below hK.out hb1)
    have B1 := below_then hB hS hb1
    have S1 := B1.size
    clear hK hB hS hb1 k1
    obtain ⟨c0, c1, c2, c3, c4, c5, c6⟩ := flC_box K1.out
    go_wp2_with fail
    refine (k2.out _ (rdF_below hr0.out B1)).mono ?_
    rintro e w2 ⟨rfl, hb2⟩
    have K2 := Lib.hid (blk_below K1.out hb2)
    have B2 := below_then B1 S1 hb2
    clear K1 B1 S1 hb2 k2 c0 c1 c2 c3 c4 c5 c6
    obtain ⟨c0, c1, c2, c3, c4, c5, c6⟩ := flC_box K2.out
    cases T with
    | false =>
      have hR : R = 7 := by rw [HE1.out, if_pos (.inl rfl)]
      subst hR
      clear HE1
      go_wp2
      go_ret
      exact ⟨rfl, B2⟩
    | true =>
      rcases hU with rfl | hu
      · have hub : ((0 : Int) != 0) = false := rfl
        have HE2 := Lib.hid (show R = if 16 < ifs.length then 3 else if ifs.all (fun i => Sp.taggedS pool i 4) = true then 0 else 7 by rw [HE1.out, if_neg (by rintro (h | ⟨h, _⟩); cases h; exact h rfl)])
        clear HE1
        by_cases h16 : 16 < ifs.length
        · have hz : (16 : Int) < (ifs.length : Int) := by omega
          have hR : R = 3 := by rw [HE2.out, if_pos h16]
          subst hR
          clear HE2
          go_wp2
          go_ret
          exact ⟨rfl, B2⟩
        · have hz : ¬ (16 : Int) < (ifs.length : Int) := by omega
          have HF := Lib.hid (show R = if ifs.all (fun i => Sp.taggedS pool i 4) = true then 0 else 7 by rw [HE2.out, if_neg h16])
          clear HE2
          go_wp2
          clear c0 c1 c2 c3 c4 c5 c6
          go_loopw [5] (fun v5 wr => ∃ k : Nat, v5 = .int .i64 k ∧ k ≤ ifs.length ∧ Below w.heap.size w wr ∧ Hid (wr.heap[w.heap.size]? = some (.cells (flC ⟨qA, qc, qI, qd, qX, qe, qY, qg⟩ ⟨pool, 2, th, 0, ifs, flds, mths⟩) 53 (0, 0))) ∧ Hid ((ifs.drop k).all (fun i => Sp.taggedS pool i 4) = ifs.all (fun i => Sp.taggedS pool i 4))) (fun v5 _ => ifs.length - (RowKit.intOf v5).toNat)
          case atStart => exact ⟨0, by go_num, Nat.zero_le _, B2, K2, Lib.hid rfl⟩
          case round =>
            clear B2 K2
            obtain ⟨k, rfl, hk, hb, hK, ha⟩ := hrel
            have hbz := hb.size
            have hlb := blk_lt hK.out
            obtain ⟨c0, c1, c2, c3, c4, c5, c6⟩ := flC_box hK.out
            by_cases hlt : k < ifs.length
            · obtain ⟨b, o, rfl, hcell⟩ := HI.out (by omega)
              have ck := cell_below hb (hcell k hlt)
              have hzk : (k : Int) < (ifs.length : Int) := by omega
              have hz0 : (0 : Int) ≤ (k : Int) := by omega
              have hmem : ifs.getD k 0 ∈ ifs := by rw [List.getD_eq_getElem?_getD, List.getElem?_eq_getElem hlt]; exact List.getElem_mem hlt
              have hd : ifs.drop k = ifs.getD k 0 :: ifs.drop (k + 1) := by rw [List.drop_eq_getElem_cons hlt]; simp [List.getD_eq_getElem?_getD, hlt]
              have ha2 := ha.out
              rw [hd, List.all_cons] at ha2
              have ka := Lib.hid (fun W hr => k3.out _ hmem W hr)
              clear ha hd hmem hcell
              generalize ifs.getD k 0 = y at *
              have ha3 := Lib.hid ha2
              clear ha2
              generalize Sp.taggedS pool y 4 = ty at *
              have r1 := Lib.hid (rdF_below hr0.out (show Below w.heap.size w wr from hb))
              have r2 := Lib.hid (rdF_below hr0.out (show Below w.heap.size w wr.drew from hb.drew))
              go_wp2_with fail
              go_region_with (go_at_call 64; refine (ka.out _ (by first | exact r1.out | exact r2.out)).mono ?_; rintro e w4 ⟨rfl, hb4⟩)
              all_goals
                have hK4 : Hid (w4.heap[w.heap.size]? = some (.cells (flC ⟨qA, qc, some ⟨b, o, none⟩, qd, qX, qe, qY, qg⟩ ⟨pool, 2, th, 0, ifs, flds, mths⟩) 53 (0, 0))) := Lib.hid (by first | exact blk_below hK.out hb4 | exact blk_below (blk_drew hK.out) hb4)
                have hb' : Below w.heap.size w w4 := by first | exact below_then hb hbz hb4 | exact below_then hb.drew hbz hb4
                clear hK hb hb4 ka r1 r2 c0 c1 c2 c3 c4 c5 c6
                cases ty with
                | false =>
                  have hR : R = 7 := by rw [HF.out, ← ha3.out]; rfl
                  subst hR
                  clear HF ha3
                  go_wp2
                  go_ret
                  exact ⟨rfl, hb'⟩
                | true =>
                  have ha4 := Lib.hid (show (ifs.drop (k + 1)).all (fun i => Sp.taggedS pool i 4) = ifs.all (fun i => Sp.taggedS pool i 4) by rw [← ha3.out, Bool.true_and])
                  clear ha3
                  go_wp2
                  go_roundw
                  case rel => exact ⟨k + 1, by go_num, by omega, hb', hK4, ha4⟩
                  case measure => simp [RowKit.intOf]; omega
            · obtain rfl : k = ifs.length := by omega
              have hzk : ¬ (ifs.length : Int) < (ifs.length : Int) := by omega
              have hR : R = 0 := by rw [HF.out, ← ha.out, List.drop_length]; rfl
              subst hR
              clear HF ha
              go_wp2
              go_ret
              exact ⟨rfl, hb⟩
      · have hub : (su != 0) = true := by simp [hu]
        cases U with
        | false =>
          have hR : R = 7 := by rw [HE1.out, if_pos (.inr ⟨hu, rfl⟩)]
          subst hR
          clear HE1
          go_wp2
          go_ret
          exact ⟨rfl, B2⟩
        | true =>
          have HE2 := Lib.hid (show R = if 16 < ifs.length then 3 else if ifs.all (fun i => Sp.taggedS pool i 4) = true then 0 else 7 by rw [HE1.out, if_neg (by rintro (h | ⟨_, h⟩) <;> cases h)])
          clear HE1
          by_cases h16 : 16 < ifs.length
          · have hz : (16 : Int) < (ifs.length : Int) := by omega
            have hR : R = 3 := by rw [HE2.out, if_pos h16]
            subst hR
            clear HE2
            go_wp2
            go_ret
            exact ⟨rfl, B2⟩
          · have hz : ¬ (16 : Int) < (ifs.length : Int) := by omega
            have HF := Lib.hid (show R = if ifs.all (fun i => Sp.taggedS pool i 4) = true then 0 else 7 by rw [HE2.out, if_neg h16])
            clear HE2
            go_wp2
            clear c0 c1 c2 c3 c4 c5 c6
            go_loopw [5] (fun v5 wr => ∃ k : Nat, v5 = .int .i64 k ∧ k ≤ ifs.length ∧ Below w.heap.size w wr ∧ Hid (wr.heap[w.heap.size]? = some (.cells (flC ⟨qA, qc, qI, qd, qX, qe, qY, qg⟩ ⟨pool, 2, th, su, ifs, flds, mths⟩) 53 (0, 0))) ∧ Hid ((ifs.drop k).all (fun i => Sp.taggedS pool i 4) = ifs.all (fun i => Sp.taggedS pool i 4))) (fun v5 _ => ifs.length - (RowKit.intOf v5).toNat)
            case atStart => exact ⟨0, by go_num, Nat.zero_le _, B2, K2, Lib.hid rfl⟩
            case round =>
              clear B2 K2
              obtain ⟨k, rfl, hk, hb, hK, ha⟩ := hrel
              have hbz := hb.size
              have hlb := blk_lt hK.out
              obtain ⟨c0, c1, c2, c3, c4, c5, c6⟩ := flC_box hK.out
              by_cases hlt : k < ifs.length
              · obtain ⟨b, o, rfl, hcell⟩ := HI.out (by omega)
                have ck := cell_below hb (hcell k hlt)
                have hzk : (k : Int) < (ifs.length : Int) := by omega
                have hz0 : (0 : Int) ≤ (k : Int) := by omega
                have hmem : ifs.getD k 0 ∈ ifs := by rw [List.getD_eq_getElem?_getD, List.getElem?_eq_getElem hlt]; exact List.getElem_mem hlt
                have hd : ifs.drop k = ifs.getD k 0 :: ifs.drop (k + 1) := by rw [List.drop_eq_getElem_cons hlt]; simp [List.getD_eq_getElem?_getD, hlt]
                have ha2 := ha.out
                rw [hd, List.all_cons] at ha2
                have ka := Lib.hid (fun W hr => k3.out _ hmem W hr)
                clear ha hd hmem hcell
                generalize ifs.getD k 0 = y at *
                have ha3 := Lib.hid ha2
                clear ha2
                generalize Sp.taggedS pool y 4 = ty at *
                have r1 := Lib.hid (rdF_below hr0.out (show Below w.heap.size w wr from hb))
                have r2 := Lib.hid (rdF_below hr0.out (show Below w.heap.size w wr.drew from hb.drew))
                go_wp2_with fail
                go_region_with (go_at_call 64; refine (ka.out _ (by first | exact r1.out | exact r2.out)).mono ?_; rintro e w4 ⟨rfl, hb4⟩)
                all_goals
                  have hK4 : Hid (w4.heap[w.heap.size]? = some (.cells (flC ⟨qA, qc, some ⟨b, o, none⟩, qd, qX, qe, qY, qg⟩ ⟨pool, 2, th, su, ifs, flds, mths⟩) 53 (0, 0))) := Lib.hid (by first | exact blk_below hK.out hb4 | exact blk_below (blk_drew hK.out) hb4)
                  have hb' : Below w.heap.size w w4 := by first | exact below_then hb hbz hb4 | exact below_then hb.drew hbz hb4
                  clear hK hb hb4 ka r1 r2 c0 c1 c2 c3 c4 c5 c6
                  cases ty with
                  | false =>
                    have hR : R = 7 := by rw [HF.out, ← ha3.out]; rfl
                    subst hR
                    clear HF ha3
                    go_wp2
                    go_ret
                    exact ⟨rfl, hb'⟩
                  | true =>
                    have ha4 := Lib.hid (show (ifs.drop (k + 1)).all (fun i => Sp.taggedS pool i 4) = ifs.all (fun i => Sp.taggedS pool i 4) by rw [← ha3.out, Bool.true_and])
                    clear ha3
                    go_wp2
                    go_roundw
                    case rel => exact ⟨k + 1, by go_num, by omega, hb', hK4, ha4⟩
                    case measure => simp [RowKit.intOf]; omega
              · obtain rfl : k = ifs.length := by omega
                have hzk : ¬ (ifs.length : Int) < (ifs.length : Int) := by omega
                have hR : R = 0 := by rw [HF.out, ← ha.out, List.drop_length]; rfl
                subst hR
                clear HF ha
                go_wp2
                go_ret
                exact ⟨rfl, hb⟩
  · go_enter Tryd.func99, Tryd.ntmps99
    go_wp2_with fail
    refine (k1.out _ (rdF_below hr0.out hB)).mono ?_
    rintro e w1 ⟨rfl, hb1⟩
    have K1 := Lib.hid (blk_below hK.out hb1)
    have B1 := below_then hB hS hb1
    have S1 := B1.size
    clear hK hB hS hb1 k1
    obtain ⟨c0, c1, c2, c3, c4, c5, c6⟩ := flC_box K1.out
    go_wp2_with fail
    refine (k2.out _ (rdF_below hr0.out B1)).mono ?_
    rintro e w2 ⟨rfl, hb2⟩
    have K2 := Lib.hid (blk_below K1.out hb2)
    have B2 := below_then B1 S1 hb2
    clear K1 B1 S1 hb2 k2 c0 c1 c2 c3 c4 c5 c6
    obtain ⟨c0, c1, c2, c3, c4, c5, c6⟩ := flC_box K2.out
    cases T with
    | false =>
      have hR : R = 7 := by rw [HE1.out, if_pos (.inl rfl)]
      subst hR
      clear HE1
      go_wp2
      go_ret
      exact ⟨rfl, B2⟩
    | true =>
      rcases hU with rfl | hu
      · have hub : ((0 : Int) != 0) = false := rfl
        have HE2 := Lib.hid (show R = if 16 < ifs.length then 3 else if ifs.all (fun i => Sp.taggedS pool i 4) = true then 0 else 7 by rw [HE1.out, if_neg (by rintro (h | ⟨h, _⟩); cases h; exact h rfl)])
        clear HE1
        by_cases h16 : 16 < ifs.length
        · have hz : (16 : Int) < (ifs.length : Int) := by omega
          have hR : R = 3 := by rw [HE2.out, if_pos h16]
          subst hR
          clear HE2
          go_wp2
          go_ret
          exact ⟨rfl, B2⟩
        · have hz : ¬ (16 : Int) < (ifs.length : Int) := by omega
          have HF := Lib.hid (show R = if ifs.all (fun i => Sp.taggedS pool i 4) = true then 0 else 7 by rw [HE2.out, if_neg h16])
          clear HE2
          go_wp2
          clear c0 c1 c2 c3 c4 c5 c6
          go_loopw [5] (fun v5 wr => ∃ k : Nat, v5 = .int .i64 k ∧ k ≤ ifs.length ∧ Below w.heap.size w wr ∧ Hid (wr.heap[w.heap.size]? = some (.cells (flC ⟨qA, qc, qI, qd, qX, qe, qY, qg⟩ ⟨pool, 3, th, 0, ifs, flds, mths⟩) 53 (0, 0))) ∧ Hid ((ifs.drop k).all (fun i => Sp.taggedS pool i 4) = ifs.all (fun i => Sp.taggedS pool i 4))) (fun v5 _ => ifs.length - (RowKit.intOf v5).toNat)
          case atStart => exact ⟨0, by go_num, Nat.zero_le _, B2, K2, Lib.hid rfl⟩
          case round =>
            clear B2 K2
            obtain ⟨k, rfl, hk, hb, hK, ha⟩ := hrel
            have hbz := hb.size
            have hlb := blk_lt hK.out
            obtain ⟨c0, c1, c2, c3, c4, c5, c6⟩ := flC_box hK.out
            by_cases hlt : k < ifs.length
            · obtain ⟨b, o, rfl, hcell⟩ := HI.out (by omega)
              have ck := cell_below hb (hcell k hlt)
              have hzk : (k : Int) < (ifs.length : Int) := by omega
              have hz0 : (0 : Int) ≤ (k : Int) := by omega
              have hmem : ifs.getD k 0 ∈ ifs := by rw [List.getD_eq_getElem?_getD, List.getElem?_eq_getElem hlt]; exact List.getElem_mem hlt
              have hd : ifs.drop k = ifs.getD k 0 :: ifs.drop (k + 1) := by rw [List.drop_eq_getElem_cons hlt]; simp [List.getD_eq_getElem?_getD, hlt]
              have ha2 := ha.out
              rw [hd, List.all_cons] at ha2
              have ka := Lib.hid (fun W hr => k3.out _ hmem W hr)
              clear ha hd hmem hcell
              generalize ifs.getD k 0 = y at *
              have ha3 := Lib.hid ha2
              clear ha2
              generalize Sp.taggedS pool y 4 = ty at *
              have r1 := Lib.hid (rdF_below hr0.out (show Below w.heap.size w wr from hb))
              have r2 := Lib.hid (rdF_below hr0.out (show Below w.heap.size w wr.drew from hb.drew))
              go_wp2_with fail
              go_region_with (go_at_call 64; refine (ka.out _ (by first | exact r1.out | exact r2.out)).mono ?_; rintro e w4 ⟨rfl, hb4⟩)
              all_goals
                have hK4 : Hid (w4.heap[w.heap.size]? = some (.cells (flC ⟨qA, qc, some ⟨b, o, none⟩, qd, qX, qe, qY, qg⟩ ⟨pool, 3, th, 0, ifs, flds, mths⟩) 53 (0, 0))) := Lib.hid (by first | exact blk_below hK.out hb4 | exact blk_below (blk_drew hK.out) hb4)
                have hb' : Below w.heap.size w w4 := by first | exact below_then hb hbz hb4 | exact below_then hb.drew hbz hb4
                clear hK hb hb4 ka r1 r2 c0 c1 c2 c3 c4 c5 c6
                cases ty with
                | false =>
                  have hR : R = 7 := by rw [HF.out, ← ha3.out]; rfl
                  subst hR
                  clear HF ha3
                  go_wp2
                  go_ret
                  exact ⟨rfl, hb'⟩
                | true =>
                  have ha4 := Lib.hid (show (ifs.drop (k + 1)).all (fun i => Sp.taggedS pool i 4) = ifs.all (fun i => Sp.taggedS pool i 4) by rw [← ha3.out, Bool.true_and])
                  clear ha3
                  go_wp2
                  go_roundw
                  case rel => exact ⟨k + 1, by go_num, by omega, hb', hK4, ha4⟩
                  case measure => simp [RowKit.intOf]; omega
            · obtain rfl : k = ifs.length := by omega
              have hzk : ¬ (ifs.length : Int) < (ifs.length : Int) := by omega
              have hR : R = 0 := by rw [HF.out, ← ha.out, List.drop_length]; rfl
              subst hR
              clear HF ha
              go_wp2
              go_ret
              exact ⟨rfl, hb⟩
      · have hub : (su != 0) = true := by simp [hu]
        cases U with
        | false =>
          have hR : R = 7 := by rw [HE1.out, if_pos (.inr ⟨hu, rfl⟩)]
          subst hR
          clear HE1
          go_wp2
          go_ret
          exact ⟨rfl, B2⟩
        | true =>
          have HE2 := Lib.hid (show R = if 16 < ifs.length then 3 else if ifs.all (fun i => Sp.taggedS pool i 4) = true then 0 else 7 by rw [HE1.out, if_neg (by rintro (h | ⟨_, h⟩) <;> cases h)])
          clear HE1
          by_cases h16 : 16 < ifs.length
          · have hz : (16 : Int) < (ifs.length : Int) := by omega
            have hR : R = 3 := by rw [HE2.out, if_pos h16]
            subst hR
            clear HE2
            go_wp2
            go_ret
            exact ⟨rfl, B2⟩
          · have hz : ¬ (16 : Int) < (ifs.length : Int) := by omega
            have HF := Lib.hid (show R = if ifs.all (fun i => Sp.taggedS pool i 4) = true then 0 else 7 by rw [HE2.out, if_neg h16])
            clear HE2
            go_wp2
            clear c0 c1 c2 c3 c4 c5 c6
            go_loopw [5] (fun v5 wr => ∃ k : Nat, v5 = .int .i64 k ∧ k ≤ ifs.length ∧ Below w.heap.size w wr ∧ Hid (wr.heap[w.heap.size]? = some (.cells (flC ⟨qA, qc, qI, qd, qX, qe, qY, qg⟩ ⟨pool, 3, th, su, ifs, flds, mths⟩) 53 (0, 0))) ∧ Hid ((ifs.drop k).all (fun i => Sp.taggedS pool i 4) = ifs.all (fun i => Sp.taggedS pool i 4))) (fun v5 _ => ifs.length - (RowKit.intOf v5).toNat)
            case atStart => exact ⟨0, by go_num, Nat.zero_le _, B2, K2, Lib.hid rfl⟩
            case round =>
              clear B2 K2
              obtain ⟨k, rfl, hk, hb, hK, ha⟩ := hrel
              have hbz := hb.size
              have hlb := blk_lt hK.out
              obtain ⟨c0, c1, c2, c3, c4, c5, c6⟩ := flC_box hK.out
              by_cases hlt : k < ifs.length
              · obtain ⟨b, o, rfl, hcell⟩ := HI.out (by omega)
                have ck := cell_below hb (hcell k hlt)
                have hzk : (k : Int) < (ifs.length : Int) := by omega
                have hz0 : (0 : Int) ≤ (k : Int) := by omega
                have hmem : ifs.getD k 0 ∈ ifs := by rw [List.getD_eq_getElem?_getD, List.getElem?_eq_getElem hlt]; exact List.getElem_mem hlt
                have hd : ifs.drop k = ifs.getD k 0 :: ifs.drop (k + 1) := by rw [List.drop_eq_getElem_cons hlt]; simp [List.getD_eq_getElem?_getD, hlt]
                have ha2 := ha.out
                rw [hd, List.all_cons] at ha2
                have ka := Lib.hid (fun W hr => k3.out _ hmem W hr)
                clear ha hd hmem hcell
                generalize ifs.getD k 0 = y at *
                have ha3 := Lib.hid ha2
                clear ha2
                generalize Sp.taggedS pool y 4 = ty at *
                have r1 := Lib.hid (rdF_below hr0.out (show Below w.heap.size w wr from hb))
                have r2 := Lib.hid (rdF_below hr0.out (show Below w.heap.size w wr.drew from hb.drew))
                go_wp2_with fail
                go_region_with (go_at_call 64; refine (ka.out _ (by first | exact r1.out | exact r2.out)).mono ?_; rintro e w4 ⟨rfl, hb4⟩)
                all_goals
                  have hK4 : Hid (w4.heap[w.heap.size]? = some (.cells (flC ⟨qA, qc, some ⟨b, o, none⟩, qd, qX, qe, qY, qg⟩ ⟨pool, 3, th, su, ifs, flds, mths⟩) 53 (0, 0))) := Lib.hid (by first | exact blk_below hK.out hb4 | exact blk_below (blk_drew hK.out) hb4)
                  have hb' : Below w.heap.size w w4 := by first | exact below_then hb hbz hb4 | exact below_then hb.drew hbz hb4
                  clear hK hb hb4 ka r1 r2 c0 c1 c2 c3 c4 c5 c6
                  cases ty with
                  | false =>
                    have hR : R = 7 := by rw [HF.out, ← ha3.out]; rfl
                    subst hR
                    clear HF ha3
                    go_wp2
                    go_ret
                    exact ⟨rfl, hb'⟩
                  | true =>
                    have ha4 := Lib.hid (show (ifs.drop (k + 1)).all (fun i => Sp.taggedS pool i 4) = ifs.all (fun i => Sp.taggedS pool i 4) by rw [← ha3.out, Bool.true_and])
                    clear ha3
                    go_wp2
                    go_roundw
                    case rel => exact ⟨k + 1, by go_num, by omega, hb', hK4, ha4⟩
                    case measure => simp [RowKit.intOf]; omega
              · obtain rfl : k = ifs.length := by omega
                have hzk : ¬ (ifs.length : Int) < (ifs.length : Int) := by omega
                have hR : R = 0 := by rw [HF.out, ← ha.out, List.drop_length]; rfl
                subst hR
                clear HF ha
                go_wp2
                go_ret
                exact ⟨rfl, hb⟩
end Go.Proofs.YthpfknlgfkecpaaDoor
end
