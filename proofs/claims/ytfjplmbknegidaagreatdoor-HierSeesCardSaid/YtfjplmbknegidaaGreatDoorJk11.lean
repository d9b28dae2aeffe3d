/-
  Texts of the proof, joined: each says at its head what it proves.
-/
import Derived.Test.YtfjplmbknegidaaGreatDoorJk9
import Derived.Deep.DeepCutAuto
section
/-
  Walks of chapter 3's head and field.
-/
set_option linter.unusedVariables false
set_option linter.unusedSimpArgs false
namespace Go.Proofs.YtfjplmbknegidaaGreatDoor
open Go.RowKit Go.Lib

namespace Sp
def headS (p : List Cn) (flags this super : Int) (ifs : List Int) : Int :=
  if flags ≠ 0 ∧ flags ≠ 2 ∧ flags ≠ 3 then 10
  else if taggedS p this 4 = false ∨ (super ≠ 0 ∧ taggedS p super 4 = false) then 7
  else if 16 < ifs.length then 3
  else if ifs.all (fun i => taggedS p i 4) = true then 0 else 7
def bareS (m : Mb) : Bool := decide (m.stack = 0) && decide (m.locals = 0) && decide (m.code.size = 0) && decide (m.hs.length = 0)
def fieldM (p : List Cn) (ff : Int) (m : Mb) : Int :=
  if (m.flags ≠ 0 ∧ m.flags ≠ 1) ∨ (m.flags = 0 ∧ ff = 3) then 10
  else if linkS p m.name m.desc false = 0 then (if bareS m = true then 0 else 1) else linkS p m.name m.desc false
end Sp

set_option maxHeartbeats 8000000 in
set_option maxRecDepth 100000 in
theorem head_any (q : Sp.At) (F : FlP) (w : World) (hr : RdF w q F) (h1 : In64 F.this) (h2 : In64 F.super) (h3 : ∀ i ∈ F.ifaces, In64 i) :
    Calls Tryz.prog 103 #[.agg (flC q F)] w fun e w' => e = .returned (.int .i64 (Sp.headS F.pool F.flags F.this F.super F.ifaces)) ∧ Below w.heap.size w w' := by
  obtain ⟨pool, fl, th, su, ifs, flds, mths⟩ := F
  obtain ⟨qA, qc, qI, qd, qX, qe, qY, qg⟩ := q
  simp only [] at h1 h2 h3 ⊢
  have HE := Lib.hid (show Sp.headS pool fl th su ifs = _ by rw [Sp.headS])
  have hr0 := Lib.hid hr
  have hil := hr.ifaces.1
  have HI := Lib.hid hr.ifaces.2
  clear hr
  have k1 := Lib.hid (fun W hr => tagged_any ⟨qA, qc, qI, qd, qX, qe, qY, qg⟩ ⟨pool, fl, th, su, ifs, flds, mths⟩ th 4 W hr h1)
  have k2 := Lib.hid (fun W hr => tagged_any ⟨qA, qc, qI, qd, qX, qe, qY, qg⟩ ⟨pool, fl, th, su, ifs, flds, mths⟩ su 4 W hr h2)
  have k3 := Lib.hid (fun i (hi : i ∈ ifs) W hr => tagged_any ⟨qA, qc, qI, qd, qX, qe, qY, qg⟩ ⟨pool, fl, th, su, ifs, flds, mths⟩ i 4 W hr (h3 i hi))
  generalize Sp.headS pool fl th su ifs = R at HE ⊢
  simp only [] at k1 k2 k3 hil HI
  generalize Sp.taggedS pool th 4 = T at *
  generalize Sp.taggedS pool su 4 = U at *
  have hB := (Below.refl w.heap.size w).alloc (Nat.le_refl _) (.cells (flC ⟨qA, qc, qI, qd, qX, qe, qY, qg⟩ ⟨pool, fl, th, su, ifs, flds, mths⟩) 63)
  have hK := Lib.hid (blk_new w (.cells (flC ⟨qA, qc, qI, qd, qX, qe, qY, qg⟩ ⟨pool, fl, th, su, ifs, flds, mths⟩) 63))
  have hS := hB.size
  unfold flC at k1 k2 k3
  have hfl : flC ⟨qA, qc, qI, qd, qX, qe, qY, qg⟩ ⟨pool, fl, th, su, ifs, flds, mths⟩ = #[.slice qA pool.length qc, .int .i64 fl, .int .i64 th, .int .i64 su, .slice qI ifs.length qd, .slice qX flds.length qe, .slice qY mths.length qg] := rfl
  rw [hfl] at hB hS ⊢
  clear hfl
  simp only [] at k1 k2 k3
  by_cases hf : fl ≠ 0 ∧ fl ≠ 2 ∧ fl ≠ 3
  · have hR : R = 10 := by rw [HE.out, if_pos hf]
    obtain ⟨g1, g2, g3⟩ := hf
    have b1 : (fl != 0) = true := by simp [g1]
    have b2 : (fl != 2) = true := by simp [g2]
    have b3 : (fl != 3) = true := by simp [g3]
    subst hR
    clear HE g1 g2 g3
    go_enter Tryz.func103, Tryz.ntmps103
    go_wp2
    go_ret
    exact ⟨rfl, hB⟩
  have HE1 := Lib.hid HE.out
  rw [if_neg hf] at HE1
  clear HE
  have hf3 : fl = 0 ∨ fl = 2 ∨ fl = 3 := by omega
  clear hf
  have hU : su = 0 ∨ ¬ su = 0 := by omega
  rcases hf3 with rfl | rfl | rfl
  · go_enter Tryz.func103, Tryz.ntmps103
    go_wp2_with fail
    refine (k1.out _ (rdF_below hr0.out hB)).mono ?_
    rintro e w1 ⟨rfl, hb1⟩
    have K1 := Lib.hid (blk_below hK.out hb1)
    have B1 := below_then hB hS hb1
    have S1 := B1.size
    clear hK hB hS hb1 k1
    cases T with
    | false =>
      have hR : R = 7 := by rw [HE1.out, if_pos (.inl rfl)]
      subst hR
      clear HE1
      go_wp2
      go_ret
      exact ⟨rfl, B1⟩
    | true =>
      obtain ⟨c0, c1, c2, c3, c4, c5, c6⟩ := flC_box K1.out
      rcases hU with rfl | hu
      · have hub : ((0 : Int) != 0) = false := rfl
        have HE2 := Lib.hid (show R = if 16 < ifs.length then 3 else if ifs.all (fun i => Sp.taggedS pool i 4) = true then 0 else 7 by rw [HE1.out, if_neg (by rintro (h | ⟨h, _⟩); cases h; exact h rfl)])
        clear HE1
        have hno : R = R := rfl
        clear hno
        by_cases h16 : 16 < ifs.length
        · have hz : (16 : Int) < (ifs.length : Int) := by omega
          have hR : R = 3 := by rw [HE2.out, if_pos h16]
          subst hR
          clear HE2
          go_wp2
          go_ret
          exact ⟨rfl, B1⟩
        · have hz : ¬ (16 : Int) < (ifs.length : Int) := by omega
          have HF := Lib.hid (show R = if ifs.all (fun i => Sp.taggedS pool i 4) = true then 0 else 7 by rw [HE2.out, if_neg h16])
          clear HE2
          go_wp2
          clear c0 c1 c2 c3 c4 c5 c6
          go_loopw [4, 45] (fun _ v45 wr => ∃ k : Nat, v45 = .int .i64 k ∧ k ≤ ifs.length ∧ Below w.heap.size w wr ∧ Hid (wr.heap[w.heap.size]? = some (.cells (flC ⟨qA, qc, qI, qd, qX, qe, qY, qg⟩ ⟨pool, 0, th, 0, ifs, flds, mths⟩) 63 (0, 0))) ∧ Hid ((ifs.drop k).all (fun i => Sp.taggedS pool i 4) = ifs.all (fun i => Sp.taggedS pool i 4))) (fun _ v45 _ => ifs.length - (RowKit.intOf v45).toNat)
          case atStart => exact ⟨0, by go_num, Nat.zero_le _, B1, K1, Lib.hid rfl⟩
          case round =>
            clear B1 K1
            obtain ⟨k, rfl, hk, hb, hK, ha⟩ := hrel
            have hbz := hb.size
            obtain ⟨c0, c1, c2, c3, c4, c5, c6⟩ := flC_box hK.out
            by_cases hlt : k < ifs.length
            · obtain ⟨b, o, rfl, hcell⟩ := HI.out (by omega)
              have ck := cell_below hb (hcell k hlt)
              have hzk : (k : Int) < (ifs.length : Int) := by omega
              have hmem : ifs.getD k 0 ∈ ifs := by rw [List.getD_eq_getElem?_getD, List.getElem?_eq_getElem hlt]; exact List.getElem_mem hlt
              have hd : ifs.drop k = ifs.getD k 0 :: ifs.drop (k + 1) := by rw [List.drop_eq_getElem_cons hlt]; simp [List.getD_eq_getElem?_getD, hlt]
              have ha2 := ha.out
              rw [hd, List.all_cons] at ha2
              have ka := Lib.hid (fun W hr => k3.out _ hmem W hr)
              clear ha hd hmem hcell
              generalize ifs.getD k 0 = y at *
              have ha3 := Lib.hid ha2
              clear ha2
              generalize Sp.taggedS pool y 4 = ty at *
              have hrw := Lib.hid (rdF_below hr0.out (show Below w.heap.size w wr from hb))
              go_wp2_with fail
              refine (ka.out _ hrw.out).mono ?_
              rintro e w4 ⟨rfl, hb4⟩
              have hK4 := Lib.hid (blk_below hK.out hb4)
              have hb' := below_then hb hbz hb4
              clear hK hb hb4 ka hrw c0 c1 c2 c3 c4 c5 c6
              cases ty with
              | false =>
                have hR : R = 7 := by rw [HF.out, ← ha3.out]; rfl
                subst hR
                clear HF ha3
                go_wp2
                go_ret
                exact ⟨rfl, hb'⟩
              | true =>
                have ha4 := Lib.hid (show (ifs.drop (k + 1)).all (fun i => Sp.taggedS pool i 4) = ifs.all (fun i => Sp.taggedS pool i 4) by rw [← ha3.out, Bool.true_and])
                clear ha3
                go_wp2
                go_roundw
                case rel => exact ⟨k + 1, by go_num, by omega, hb', hK4, ha4⟩
                case measure => simp [RowKit.intOf]; omega
            · obtain rfl : k = ifs.length := by omega
              have hzk : ¬ (ifs.length : Int) < (ifs.length : Int) := by omega
              have hR : R = 0 := by rw [HF.out, ← ha.out, List.drop_length]; rfl
              subst hR
              clear HF ha
              go_wp2
              go_ret
              exact ⟨rfl, hb⟩
      · have hub : (su != 0) = true := by simp [hu]
        go_wp2_with fail
        refine (k2.out _ (rdF_below hr0.out B1)).mono ?_
        rintro e w2 ⟨rfl, hb2⟩
        have K2 := Lib.hid (blk_below K1.out hb2)
        have B2 := below_then B1 S1 hb2
        clear K1 B1 S1 hb2 k2 c0 c1 c2 c3 c4 c5 c6
        obtain ⟨c0, c1, c2, c3, c4, c5, c6⟩ := flC_box K2.out
        cases U with
        | false =>
          have hR : R = 7 := by rw [HE1.out, if_pos (.inr ⟨hu, rfl⟩)]
          subst hR
          clear HE1
          go_wp2
          go_ret
          exact ⟨rfl, B2⟩
        | true =>
          have HE2 := Lib.hid (show R = if 16 < ifs.length then 3 else if ifs.all (fun i => Sp.taggedS pool i 4) = true then 0 else 7 by rw [HE1.out, if_neg (by rintro (h | ⟨_, h⟩) <;> cases h)])
          clear HE1
          have hno : R = R := rfl
          clear hno
          by_cases h16 : 16 < ifs.length
          · have hz : (16 : Int) < (ifs.length : Int) := by omega
            have hR : R = 3 := by rw [HE2.out, if_pos h16]
            subst hR
            clear HE2
            go_wp2
            go_ret
            exact ⟨rfl, B2⟩
          · have hz : ¬ (16 : Int) < (ifs.length : Int) := by omega
            have HF := Lib.hid (show R = if ifs.all (fun i => Sp.taggedS pool i 4) = true then 0 else 7 by rw [HE2.out, if_neg h16])
            clear HE2
            go_wp2
            clear c0 c1 c2 c3 c4 c5 c6
            go_loopw [4, 45] (fun _ v45 wr => ∃ k : Nat, v45 = .int .i64 k ∧ k ≤ ifs.length ∧ Below w.heap.size w wr ∧ Hid (wr.heap[w.heap.size]? = some (.cells (flC ⟨qA, qc, qI, qd, qX, qe, qY, qg⟩ ⟨pool, 0, th, su, ifs, flds, mths⟩) 63 (0, 0))) ∧ Hid ((ifs.drop k).all (fun i => Sp.taggedS pool i 4) = ifs.all (fun i => Sp.taggedS pool i 4))) (fun _ v45 _ => ifs.length - (RowKit.intOf v45).toNat)
            case atStart => exact ⟨0, by go_num, Nat.zero_le _, B2, K2, Lib.hid rfl⟩
            case round =>
              clear B2 K2
              obtain ⟨k, rfl, hk, hb, hK, ha⟩ := hrel
              have hbz := hb.size
              obtain ⟨c0, c1, c2, c3, c4, c5, c6⟩ := flC_box hK.out
              by_cases hlt : k < ifs.length
              · obtain ⟨b, o, rfl, hcell⟩ := HI.out (by omega)
                have ck := cell_below hb (hcell k hlt)
                have hzk : (k : Int) < (ifs.length : Int) := by omega
                have hmem : ifs.getD k 0 ∈ ifs := by rw [List.getD_eq_getElem?_getD, List.getElem?_eq_getElem hlt]; exact List.getElem_mem hlt
                have hd : ifs.drop k = ifs.getD k 0 :: ifs.drop (k + 1) := by rw [List.drop_eq_getElem_cons hlt]; simp [List.getD_eq_getElem?_getD, hlt]
                have ha2 := ha.out
                rw [hd, List.all_cons] at ha2
                have ka := Lib.hid (fun W hr => k3.out _ hmem W hr)
                clear ha hd hmem hcell
                generalize ifs.getD k 0 = y at *
                have ha3 := Lib.hid ha2
                clear ha2
                generalize Sp.taggedS pool y 4 = ty at *
                have hrw := Lib.hid (rdF_below hr0.out (show Below w.heap.size w wr from hb))
                go_wp2_with fail
                refine (ka.out _ hrw.out).mono ?_
                rintro e w4 ⟨rfl, hb4⟩
                have hK4 := Lib.hid (blk_below hK.out hb4)
                have hb' := below_then hb hbz hb4
                clear hK hb hb4 ka hrw c0 c1 c2 c3 c4 c5 c6
                cases ty with
                | false =>
                  have hR : R = 7 := by rw [HF.out, ← ha3.out]; rfl
                  subst hR
                  clear HF ha3
                  go_wp2
                  go_ret
                  exact ⟨rfl, hb'⟩
                | true =>
                  have ha4 := Lib.hid (show (ifs.drop (k + 1)).all (fun i => Sp.taggedS pool i 4) = ifs.all (fun i => Sp.taggedS pool i 4) by rw [← ha3.out, Bool.true_and])
                  clear ha3
                  go_wp2
                  go_roundw
                  case rel => exact ⟨k + 1, by go_num, by omega, hb', hK4, ha4⟩
                  case measure => simp [RowKit.intOf]; omega
              · obtain rfl : k = ifs.length := by omega
                have hzk : ¬ (ifs.length : Int) < (ifs.length : Int) := by omega
                have hR : R = 0 := by rw [HF.out, ← ha.out, List.drop_length]; rfl
                subst hR
                clear HF ha
                go_wp2
                go_ret
                exact ⟨rfl, hb⟩
  · go_enter Tryz.func103, Tryz.ntmps103
    go_wp2_with fail
    refine (k1.out _ (rdF_below hr0.out hB)).mono ?_
    rintro e w1 ⟨rfl, hb1⟩
    have K1 := Lib.hid (blk_below hK.out hb1)
    have B1 := below_then hB hS hb1
    have S1 := B1.size
    clear hK hB hS hb1 k1
    cases T with
    | false =>
      have hR : R = 7 := by rw [HE1.out, if_pos (.inl rfl)]
      subst hR
      clear HE1
      go_wp2
      go_ret
      exact ⟨rfl, B1⟩
    | true =>
      obtain ⟨c0, c1, c2, c3, c4, c5, c6⟩ := flC_box K1.out
      rcases hU with rfl | hu
      · have hub : ((0 : Int) != 0) = false := rfl
        have HE2 := Lib.hid (show R = if 16 < ifs.length then 3 else if ifs.all (fun i => Sp.taggedS pool i 4) = true then 0 else 7 by rw [HE1.out, if_neg (by rintro (h | ⟨h, _⟩); cases h; exact h rfl)])
        clear HE1
        have hno : R = R := rfl
        clear hno
        by_cases h16 : 16 < ifs.length
        · have hz : (16 : Int) < (ifs.length : Int) := by omega
          have hR : R = 3 := by rw [HE2.out, if_pos h16]
          subst hR
          clear HE2
          go_wp2
          go_ret
          exact ⟨rfl, B1⟩
        · have hz : ¬ (16 : Int) < (ifs.length : Int) := by omega
          have HF := Lib.hid (show R = if ifs.all (fun i => Sp.taggedS pool i 4) = true then 0 else 7 by rw [HE2.out, if_neg h16])
          clear HE2
          go_wp2
          clear c0 c1 c2 c3 c4 c5 c6
          go_loopw [4, 45] (fun _ v45 wr => ∃ k : Nat, v45 = .int .i64 k ∧ k ≤ ifs.length ∧ Below w.heap.size w wr ∧ Hid (wr.heap[w.heap.size]? = some (.cells (flC ⟨qA, qc, qI, qd, qX, qe, qY, qg⟩ ⟨pool, 2, th, 0, ifs, flds, mths⟩) 63 (0, 0))) ∧ Hid ((ifs.drop k).all (fun i => Sp.taggedS pool i 4) = ifs.all (fun i => Sp.taggedS pool i 4))) (fun _ v45 _ => ifs.length - (RowKit.intOf v45).toNat)
          case atStart => exact ⟨0, by go_num, Nat.zero_le _, B1, K1, Lib.hid rfl⟩
          case round =>
            clear B1 K1
            obtain ⟨k, rfl, hk, hb, hK, ha⟩ := hrel
            have hbz := hb.size
            obtain ⟨c0, c1, c2, c3, c4, c5, c6⟩ := flC_box hK.out
            by_cases hlt : k < ifs.length
            · obtain ⟨b, o, rfl, hcell⟩ := HI.out (by omega)
              have ck := cell_below hb (hcell k hlt)
              have hzk : (k : Int) < (ifs.length : Int) := by omega
              have hmem : ifs.getD k 0 ∈ ifs := by rw [List.getD_eq_getElem?_getD, List.getElem?_eq_getElem hlt]; exact List.getElem_mem hlt
              have hd : ifs.drop k = ifs.getD k 0 :: ifs.drop (k + 1) := by rw [List.drop_eq_getElem_cons hlt]; simp [List.getD_eq_getElem?_getD, hlt]
              have ha2 := ha.out
              rw [hd, List.all_cons] at ha2
              have ka := Lib.hid (fun W hr => k3.out _ hmem W hr)
              clear ha hd hmem hcell
              generalize ifs.getD k 0 = y at *
              have ha3 := Lib.hid ha2
              clear ha2
              generalize Sp.taggedS pool y 4 = ty at *
              have hrw := Lib.hid (rdF_below hr0.out (show Below w.heap.size w wr from hb))
              go_wp2_with fail
              refine (ka.out _ hrw.out).mono ?_
              rintro e w4 ⟨rfl, hb4⟩
              have hK4 := Lib.hid (blk_below hK.out hb4)
              have hb' := below_then hb hbz hb4
              clear hK hb hb4 ka hrw c0 c1 c2 c3 c4 c5 c6
              cases ty with
              | false =>
                have hR : R = 7 := by rw [HF.out, ← ha3.out]; rfl
                subst hR
                clear HF ha3
                go_wp2
                go_ret
                exact ⟨rfl, hb'⟩
              | true =>
                have ha4 := Lib.hid (show (ifs.drop (k + 1)).all (fun i => Sp.taggedS pool i 4) = ifs.all (fun i => Sp.taggedS pool i 4) by rw [← ha3.out, Bool.true_and])
                clear ha3
                go_wp2
                go_roundw
                case rel => exact ⟨k + 1, by go_num, by omega, hb', hK4, ha4⟩
                case measure => simp [RowKit.intOf]; omega
            · obtain rfl : k = ifs.length := by omega
              have hzk : ¬ (ifs.length : Int) < (ifs.length : Int) := by omega
              have hR : R = 0 := by rw [HF.out, ← ha.out, List.drop_length]; rfl
              subst hR
              clear HF ha
              go_wp2
              go_ret
              exact ⟨rfl, hb⟩
      · have hub : (su != 0) = true := by simp [hu]
        go_wp2_with fail
        refine (k2.out _ (rdF_below hr0.out B1)).mono ?_
        rintro e w2 ⟨rfl, hb2⟩
        have K2 := Lib.hid (blk_below K1.out hb2)
        have B2 := below_then B1 S1 hb2
        clear K1 B1 S1 hb2 k2 c0 c1 c2 c3 c4 c5 c6
        obtain ⟨c0, c1, c2, c3, c4, c5, c6⟩ := flC_box K2.out
        cases U with
        | false =>
          have hR : R = 7 := by rw [HE1.out, if_pos (.inr ⟨hu, rfl⟩)]
          subst hR
          clear HE1
          go_wp2
          go_ret
          exact ⟨rfl, B2⟩
        | true =>
          have HE2 := Lib.hid (show R = if 16 < ifs.length then 3 else if ifs.all (fun i => Sp.taggedS pool i 4) = true then 0 else 7 by rw [HE1.out, if_neg (by rintro (h | ⟨_, h⟩) <;> cases h)])
          clear HE1
          have hno : R = R := rfl
          clear hno
          by_cases h16 : 16 < ifs.length
          · have hz : (16 : Int) < (ifs.length : Int) := by omega
            have hR : R = 3 := by rw [HE2.out, if_pos h16]
            subst hR
            clear HE2
            go_wp2
            go_ret
            exact ⟨rfl, B2⟩
          · have hz : ¬ (16 : Int) < (ifs.length : Int) := by omega
            have HF := Lib.hid (show R = if ifs.all (fun i => Sp.taggedS pool i 4) = true then 0 else 7 by rw [HE2.out, if_neg h16])
            clear HE2
            go_wp2
            clear c0 c1 c2 c3 c4 c5 c6
            go_loopw [4, 45] (fun _ v45 wr => ∃ k : Nat, v45 = .int .i64 k ∧ k ≤ ifs.length ∧ Below w.heap.size w wr ∧ Hid (wr.heap[w.heap.size]? = some (.cells (flC ⟨qA, qc, qI, qd, qX, qe, qY, qg⟩ ⟨pool, 2, th, su, ifs, flds, mths⟩) 63 (0, 0))) ∧ Hid ((ifs.drop k).all (fun i => Sp.taggedS pool i 4) = ifs.all (fun i => Sp.taggedS pool i 4))) (fun _ v45 _ => ifs.length - (RowKit.intOf v45).toNat)
            case atStart => exact ⟨0, by go_num, Nat.zero_le _, B2, K2, Lib.hid rfl⟩
            case round =>
              clear B2 K2
              obtain ⟨k, rfl, hk, hb, hK, ha⟩ := hrel
              have hbz := hb.size
              obtain ⟨c0, c1, c2, c3, c4, c5, c6⟩ := flC_box hK.out
              by_cases hlt : k < ifs.length
              · obtain ⟨b, o, rfl, hcell⟩ := HI.out (by omega)
                have ck := cell_below hb (hcell k hlt)
                have hzk : (k : Int) < (ifs.length : Int) := by omega
                have hmem : ifs.getD k 0 ∈ ifs := by rw [List.getD_eq_getElem?_getD, List.getElem?_eq_getElem hlt]; exact List.getElem_mem hlt
                have hd : ifs.drop k = ifs.getD k 0 :: ifs.drop (k + 1) := by rw [List.drop_eq_getElem_cons hlt]; simp [List.getD_eq_getElem?_getD, hlt]
                have ha2 := ha.out
                rw [hd, List.all_cons] at ha2
                have ka := Lib.hid (fun W hr => k3.out _ hmem W hr)
                clear ha hd hmem hcell
                generalize ifs.getD k 0 = y at *
                have ha3 := Lib.hid ha2
                clear ha2
                generalize Sp.taggedS pool y 4 = ty at *
                have hrw := Lib.hid (rdF_below hr0.out (show Below w.heap.size w wr from hb))
                go_wp2_with fail
                refine (ka.out _ hrw.out).mono ?_
                rintro e w4 ⟨rfl, hb4⟩
                have hK4 := Lib.hid (blk_below hK.out hb4)
                have hb' := below_then hb hbz hb4
                clear hK hb hb4 ka hrw c0 c1 c2 c3 c4 c5 c6
                cases ty with
                | false =>
                  have hR : R = 7 := by rw [HF.out, ← ha3.out]; rfl
                  subst hR
                  clear HF ha3
                  go_wp2
                  go_ret
                  exact ⟨rfl, hb'⟩
                | true =>
                  have ha4 := Lib.hid (show (ifs.drop (k + 1)).all (fun i => Sp.taggedS pool i 4) = ifs.all (fun i => Sp.taggedS pool i 4) by rw [← ha3.out, Bool.true_and])
                  clear ha3
                  go_wp2
                  go_roundw
                  case rel => exact ⟨k + 1, by go_num, by omega, hb', hK4, ha4⟩
                  case measure => simp [RowKit.intOf]; omega
              · obtain rfl : k = ifs.length := by omega
                have hzk : ¬ (ifs.length : Int) < (ifs.length : Int) := by omega
                have hR : R = 0 := by rw [HF.out, ← ha.out, List.drop_length]; rfl
                subst hR
                clear HF ha
                go_wp2
                go_ret
                exact ⟨rfl, hb⟩
  · go_enter Tryz.func103, Tryz.ntmps103
    go_wp2_with fail
    refine (k1.out _ (rdF_below hr0.out hB)).mono ?_
    rintro e w1 ⟨rfl, hb1⟩
    have K1 := Lib.hid (blk_below hK.out hb1)
    have B1 := below_then hB hS hb1
    have S1 := B1.size
    clear hK hB hS hb1 k1
    cases T with
    | false =>
      have hR : R = 7 := by rw [HE1.out, if_pos (.inl rfl)]
      subst hR
      clear HE1
      go_wp2
      go_ret
      exact ⟨rfl, B1⟩
    | true =>
      obtain ⟨c0, c1, c2, c3, c4, c5, c6⟩ := flC_box K1.out
      rcases hU with rfl | hu
      · have hub : ((0 : Int) != 0) = false := rfl
        have HE2 := Lib.hid (show R = if 16 < ifs.length then 3 else if ifs.all (fun i => Sp.taggedS pool i 4) = true then 0 else 7 by rw [HE1.out, if_neg (by rintro (h | ⟨h, _⟩); cases h; exact h rfl)])
        clear HE1
        have hno : R = R := rfl
        clear hno
        by_cases h16 : 16 < ifs.length
        · have hz : (16 : Int) < (ifs.length : Int) := by omega
          have hR : R = 3 := by rw [HE2.out, if_pos h16]
          subst hR
          clear HE2
          go_wp2
          go_ret
          exact ⟨rfl, B1⟩
        · have hz : ¬ (16 : Int) < (ifs.length : Int) := by omega
          have HF := Lib.hid (show R = if ifs.all (fun i => Sp.taggedS pool i 4) = true then 0 else 7 by rw [HE2.out, if_neg h16])
          clear HE2
          go_wp2
          clear c0 c1 c2 c3 c4 c5 c6
          go_loopw [4, 45] (fun _ v45 wr => ∃ k : Nat, v45 = .int .i64 k ∧ k ≤ ifs.length ∧ Below w.heap.size w wr ∧ Hid (wr.heap[w.heap.size]? = some (.cells (flC ⟨qA, qc, qI, qd, qX, qe, qY, qg⟩ ⟨pool, 3, th, 0, ifs, flds, mths⟩) 63 (0, 0))) ∧ Hid ((ifs.drop k).all (fun i => Sp.taggedS pool i 4) = ifs.all (fun i => Sp.taggedS pool i 4))) (fun _ v45 _ => ifs.length - (RowKit.intOf v45).toNat)
          case atStart => exact ⟨0, by go_num, Nat.zero_le _, B1, K1, Lib.hid rfl⟩
          case round =>
            clear B1 K1
            obtain ⟨k, rfl, hk, hb, hK, ha⟩ := hrel
            have hbz := hb.size
            obtain ⟨c0, c1, c2, c3, c4, c5, c6⟩ := flC_box hK.out
            by_cases hlt : k < ifs.length
            · obtain ⟨b, o, rfl, hcell⟩ := HI.out (by omega)
              have ck := cell_below hb (hcell k hlt)
              have hzk : (k : Int) < (ifs.length : Int) := by omega
              have hmem : ifs.getD k 0 ∈ ifs := by rw [List.getD_eq_getElem?_getD, List.getElem?_eq_getElem hlt]; exact List.getElem_mem hlt
              have hd : ifs.drop k = ifs.getD k 0 :: ifs.drop (k + 1) := by rw [List.drop_eq_getElem_cons hlt]; simp [List.getD_eq_getElem?_getD, hlt]
              have ha2 := ha.out
              rw [hd, List.all_cons] at ha2
              have ka := Lib.hid (fun W hr => k3.out _ hmem W hr)
              clear ha hd hmem hcell
              generalize ifs.getD k 0 = y at *
              have ha3 := Lib.hid ha2
              clear ha2
              generalize Sp.taggedS pool y 4 = ty at *
              have hrw := Lib.hid (rdF_below hr0.out (show Below w.heap.size w wr from hb))
              go_wp2_with fail
              refine (ka.out _ hrw.out).mono ?_
              rintro e w4 ⟨rfl, hb4⟩
              have hK4 := Lib.hid (blk_below hK.out hb4)
              have hb' := below_then hb hbz hb4
              clear hK hb hb4 ka hrw c0 c1 c2 c3 c4 c5 c6
              cases ty with
              | false =>
                have hR : R = 7 := by rw [HF.out, ← ha3.out]; rfl
                subst hR
                clear HF ha3
                go_wp2
                go_ret
                exact ⟨rfl, hb'⟩
              | true =>
                have ha4 := Lib.hid (show (ifs.drop (k + 1)).all (fun i => Sp.taggedS pool i 4) = ifs.all (fun i => Sp.taggedS pool i 4) by rw [← ha3.out, Bool.true_and])
                clear ha3
                go_wp2
                go_roundw
                case rel => exact ⟨k + 1, by go_num, by omega, hb', hK4, ha4⟩
                case measure => simp [RowKit.intOf]; omega
            · obtain rfl : k = ifs.length := by omega
              have hzk : ¬ (ifs.length : Int) < (ifs.length : Int) := by omega
              have hR : R = 0 := by rw [HF.out, ← ha.out, List.drop_length]; rfl
              subst hR
              clear HF ha
              go_wp2
              go_ret
              exact ⟨rfl, hb⟩
      · have hub : (su != 0) = true := by simp [hu]
        go_wp2_with fail
        refine (k2.out _ (rdF_below hr0.out B1)).mono ?_
        rintro e w2 ⟨rfl, hb2⟩
        have K2 := Lib.hid (blk_below K1.out hb2)
        have B2 := below_then B1 S1 hb2
        clear K1 B1 S1 hb2 k2 c0 c1 c2 c3 c4 c5 c6
        obtain ⟨c0, c1, c2, c3, c4, c5, c6⟩ := flC_box K2.out
        cases U with
        | false =>
          have hR : R = 7 := by rw [HE1.out, if_pos (.inr ⟨hu, rfl⟩)]
          subst hR
          clear HE1
          go_wp2
          go_ret
          exact ⟨rfl, B2⟩
        | true =>
          have HE2 := Lib.hid (show R = if 16 < ifs.length then 3 else if ifs.all (fun i => Sp.taggedS pool i 4) = true then 0 else 7 by rw [HE1.out, if_neg (by rintro (h | ⟨_, h⟩) <;> cases h)])
          clear HE1
          have hno : R = R := rfl
          clear hno
          by_cases h16 : 16 < ifs.length
          · have hz : (16 : Int) < (ifs.length : Int) := by omega
            have hR : R = 3 := by rw [HE2.out, if_pos h16]
            subst hR
            clear HE2
            go_wp2
            go_ret
            exact ⟨rfl, B2⟩
          · have hz : ¬ (16 : Int) < (ifs.length : Int) := by omega
            have HF := Lib.hid (show R = if ifs.all (fun i => Sp.taggedS pool i 4) = true then 0 else 7 by rw [HE2.out, if_neg h16])
            clear HE2
            go_wp2
            clear c0 c1 c2 c3 c4 c5 c6
            go_loopw [4, 45] (fun _ v45 wr => ∃ k : Nat, v45 = .int .i64 k ∧ k ≤ ifs.length ∧ Below w.heap.size w wr ∧ Hid (wr.heap[w.heap.size]? = some (.cells (flC ⟨qA, qc, qI, qd, qX, qe, qY, qg⟩ ⟨pool, 3, th, su, ifs, flds, mths⟩) 63 (0, 0))) ∧ Hid ((ifs.drop k).all (fun i => Sp.taggedS pool i 4) = ifs.all (fun i => Sp.taggedS pool i 4))) (fun _ v45 _ => ifs.length - (RowKit.intOf v45).toNat)
            case atStart => exact ⟨0, by go_num, Nat.zero_le _, B2, K2, Lib.hid rfl⟩
            case round =>
              clear B2 K2
              obtain ⟨k, rfl, hk, hb, hK, ha⟩ := hrel
              have hbz := hb.size
              obtain ⟨c0, c1, c2, c3, c4, c5, c6⟩ := flC_box hK.out
              by_cases hlt : k < ifs.length
              · obtain ⟨b, o, rfl, hcell⟩ := HI.out (by omega)
                have ck := cell_below hb (hcell k hlt)
                have hzk : (k : Int) < (ifs.length : Int) := by omega
                have hmem : ifs.getD k 0 ∈ ifs := by rw [List.getD_eq_getElem?_getD, List.getElem?_eq_getElem hlt]; exact List.getElem_mem hlt
                have hd : ifs.drop k = ifs.getD k 0 :: ifs.drop (k + 1) := by rw [List.drop_eq_getElem_cons hlt]; simp [List.getD_eq_getElem?_getD, hlt]
                have ha2 := ha.out
                rw [hd, List.all_cons] at ha2
                have ka := Lib.hid (fun W hr => k3.out _ hmem W hr)
                clear ha hd hmem hcell
                generalize ifs.getD k 0 = y at *
                have ha3 := Lib.hid ha2
                clear ha2
                generalize Sp.taggedS pool y 4 = ty at *
                have hrw := Lib.hid (rdF_below hr0.out (show Below w.heap.size w wr from hb))
                go_wp2_with fail
                refine (ka.out _ hrw.out).mono ?_
                rintro e w4 ⟨rfl, hb4⟩
                have hK4 := Lib.hid (blk_below hK.out hb4)
                have hb' := below_then hb hbz hb4
                clear hK hb hb4 ka hrw c0 c1 c2 c3 c4 c5 c6
                cases ty with
                | false =>
                  have hR : R = 7 := by rw [HF.out, ← ha3.out]; rfl
                  subst hR
                  clear HF ha3
                  go_wp2
                  go_ret
                  exact ⟨rfl, hb'⟩
                | true =>
                  have ha4 := Lib.hid (show (ifs.drop (k + 1)).all (fun i => Sp.taggedS pool i 4) = ifs.all (fun i => Sp.taggedS pool i 4) by rw [← ha3.out, Bool.true_and])
                  clear ha3
                  go_wp2
                  go_roundw
                  case rel => exact ⟨k + 1, by go_num, by omega, hb', hK4, ha4⟩
                  case measure => simp [RowKit.intOf]; omega
              · obtain rfl : k = ifs.length := by omega
                have hzk : ¬ (ifs.length : Int) < (ifs.length : Int) := by omega
                have hR : R = 0 := by rw [HF.out, ← ha.out, List.drop_length]; rfl
                subst hR
                clear HF ha
                go_wp2
                go_ret
                exact ⟨rfl, hb⟩
end Go.Proofs.YtfjplmbknegidaaGreatDoor
end
section
/-
  Walk of chapter 3's field.
-/
set_option linter.unusedVariables false
set_option linter.unusedSimpArgs false
namespace Go.Proofs.YtfjplmbknegidaaGreatDoor
open Go.RowKit Go.Lib

set_option maxHeartbeats 8000000 in
set_option maxRecDepth 100000 in
theorem fieldM_any (q : Sp.At) (F : FlP) (m : Sp.Mp) (w : World) (hr : RdF w q F) (hf : FlagsOk F.flags) (h1 : In64 m.1.name) (h2 : In64 m.1.desc) (hh : m.1.hs.length ≤ 9223372036854775807)
    (hz : ∀ c ∈ F.pool, c.text.size ≤ 1099511627776) (hT : Tabs w) :
    Calls Tryz.prog 105 #[.agg (flC q F), Sp.mbV m] w fun e w' => e = .returned (.int .i64 (Sp.fieldM F.pool F.flags m.1)) ∧ Below w.heap.size w w' := by
  obtain ⟨pool, fl, th, su, ifs, flds, mths⟩ := F
  obtain ⟨qA, qc, qI, qd, qX, qe, qY, qg⟩ := q
  obtain ⟨⟨mf, mn, md, ms, ml, mc, mh⟩, mA, mcap⟩ := m
  simp only [] at hf h1 h2 hh hz ⊢
  have T0 := Lib.hid hT
  clear hT
  have hr0 := Lib.hid hr
  clear hr
  have HE := Lib.hid (show Sp.fieldM pool fl ⟨mf, mn, md, ms, ml, mc, mh⟩ = _ by rw [Sp.fieldM])
  have k1 := Lib.hid (fun W => interface_any ⟨qA, qc, qI, qd, qX, qe, qY, qg⟩ ⟨pool, fl, th, su, ifs, flds, mths⟩ W hf)
  have k2 := Lib.hid (fun W hr hT => link_any ⟨qA, qc, qI, qd, qX, qe, qY, qg⟩ ⟨pool, fl, th, su, ifs, flds, mths⟩ mn md false W hr h1 h2 hz hT)
  have k3 := Lib.hid (fun W => bare_any (⟨mf, mn, md, ms, ml, mc, mh⟩, mA, mcap) W hh)
  clear hz
  generalize Sp.fieldM pool fl ⟨mf, mn, md, ms, ml, mc, mh⟩ = R at HE ⊢
  have HE' := Lib.hid HE.out
  clear HE
  simp only [] at HE'
  have hbare : Sp.bareS ⟨mf, mn, md, ms, ml, mc, mh⟩ = (decide (ms = 0) && decide (ml = 0) && decide (mc.size = 0) && decide (mh.length = 0)) := rfl
  rw [hbare] at HE'
  clear hbare
  simp only [] at k1 k2 k3
  generalize (decide (ms = 0) && decide (ml = 0) && decide (mc.size = 0) && decide (mh.length = 0)) = br at *
  generalize Sp.linkS pool mn md false = le at *
  have hB := ((Below.refl w.heap.size w).alloc (Nat.le_refl _) (.cells (flC ⟨qA, qc, qI, qd, qX, qe, qY, qg⟩ ⟨pool, fl, th, su, ifs, flds, mths⟩) 63)).alloc (by simp) (.cells #[.int .i64 mf, .int .i64 mn, .int .i64 md, .int .i64 ms, .int .i64 ml, .string mc, .slice mA mh.length mcap] 105)
  have hK := Lib.hid (blk_old (o := .cells #[.int .i64 mf, .int .i64 mn, .int .i64 md, .int .i64 ms, .int .i64 ml, .string mc, .slice mA mh.length mcap] 105) (blk_new w (.cells (flC ⟨qA, qc, qI, qd, qX, qe, qY, qg⟩ ⟨pool, fl, th, su, ifs, flds, mths⟩) 63)))
  have hL := Lib.hid (blk_new (w.alloc (.cells (flC ⟨qA, qc, qI, qd, qX, qe, qY, qg⟩ ⟨pool, fl, th, su, ifs, flds, mths⟩) 63)) (.cells #[.int .i64 mf, .int .i64 mn, .int .i64 md, .int .i64 ms, .int .i64 ml, .string mc, .slice mA mh.length mcap] 105))
  rw [show (w.alloc (.cells (flC ⟨qA, qc, qI, qd, qX, qe, qY, qg⟩ ⟨pool, fl, th, su, ifs, flds, mths⟩) 63)).heap.size = w.heap.size + 1 by simp] at hL
  have hS := hB.size
  unfold flC at k1 k2
  unfold Sp.mbV at k3 ⊢
  have hfl : flC ⟨qA, qc, qI, qd, qX, qe, qY, qg⟩ ⟨pool, fl, th, su, ifs, flds, mths⟩ = #[.slice qA pool.length qc, .int .i64 fl, .int .i64 th, .int .i64 su, .slice qI ifs.length qd, .slice qX flds.length qe, .slice qY mths.length qg] := rfl
  rw [hfl] at hB hS ⊢
  clear hfl
  simp only [] at k1 k2 k3 ⊢
  have hm : (mf ≠ 0 ∧ mf ≠ 1) ∨ mf = 0 ∨ mf = 1 := by omega
  rcases hm with ⟨m0, m1⟩ | rfl | rfl
  · have hR : R = 10 := by rw [HE'.out, if_pos (.inl ⟨m0, m1⟩)]
    have b1 : (mf != 0) = true := by simp [m0]
    have b2 : (mf != 1) = true := by simp [m1]
    subst hR
    clear HE' m0 m1
    go_enter Tryz.func105, Tryz.ntmps105
    go_wp2
    go_ret
    exact ⟨rfl, hB⟩
  · go_enter Tryz.func105, Tryz.ntmps105
    go_wp2_with fail
    refine (k1.out _).mono ?_
    rintro e w1 ⟨rfl, hb1⟩
    have K1 := Lib.hid (blk_below hK.out hb1)
    have L1 := Lib.hid (blk_below hL.out hb1)
    have B1 := below_then hB hS hb1
    have S1 := B1.size
    clear hK hL hB hS hb1 k1
    have hi : (fl = 3 ∧ decide (fl = 3) = true) ∨ (¬ fl = 3 ∧ decide (fl = 3) = false) := by
      by_cases q : fl = 3
      · exact .inl ⟨q, by simp [q]⟩
      · exact .inr ⟨q, by simp [q]⟩
    rcases hi with ⟨hi, hid⟩ | ⟨hi, hid⟩
    · have hR : R = 10 := by rw [HE'.out, if_pos (by simp [hi])]
      rw [hid]
      subst hR
      clear HE' hid
      go_wp2
      go_ret
      exact ⟨rfl, B1⟩
    · have HF := Lib.hid (show R = if le = 0 then (if br = true then 0 else 1) else le by rw [HE'.out, if_neg (by simp [hi])])
      rw [hid]
      clear HE' hid
      obtain ⟨c0, c1, c2, c3, c4, c5, c6⟩ := flC_box K1.out
      have e1 := (blk_cell L1.out 1 (.int .i64 mn) rfl).1
      have e2 := (blk_cell L1.out 2 (.int .i64 md) rfl).1
      go_wp2_with fail
      refine (k2.out _ (rdF_below hr0.out B1) (T0.out.below B1)).mono ?_
      rintro e w2 ⟨rfl, hb2⟩
      have L2 := Lib.hid (blk_below L1.out hb2)
      have B2 := below_then B1 S1 hb2
      have S2 := B2.size
      clear K1 L1 B1 S1 hb2 k2 c0 c1 c2 c3 c4 c5 c6 e1 e2
      by_cases hle : le = 0
      · subst hle
        have d0 := (blk_cell L2.out 0 (.int .i64 0) rfl).1
        have d1 := (blk_cell L2.out 1 (.int .i64 mn) rfl).1
        have d2 := (blk_cell L2.out 2 (.int .i64 md) rfl).1
        have d3 := (blk_cell L2.out 3 (.int .i64 ms) rfl).1
        have d4 := (blk_cell L2.out 4 (.int .i64 ml) rfl).1
        have d5 := (blk_cell L2.out 5 (.string mc) rfl).1
        have d6 := (blk_cell L2.out 6 (.slice mA mh.length mcap) rfl).1
        go_wp2_with fail
        refine (k3.out _).mono ?_
        rintro e w3 ⟨rfl, hb3⟩
        have B3 := below_then B2 S2 hb3
        clear d0 d1 d2 d3 d4 d5 d6
        cases br with
        | false =>
          have hR : R = 1 := HF.out
          subst hR
          clear HF
          go_wp2
          go_ret
          exact ⟨rfl, B3⟩
        | true =>
          have hR : R = 0 := HF.out
          subst hR
          clear HF
          go_wp2
          go_ret
          exact ⟨rfl, B3⟩
      · have hleb : (le != 0) = true := by simp [hle]
        have hR : R = le := by rw [HF.out, if_neg hle]
        subst hR
        clear HF hle
        go_wp2
        go_ret
        exact ⟨rfl, B2⟩
  · have HF := Lib.hid (show R = if le = 0 then (if br = true then 0 else 1) else le by rw [HE'.out, if_neg (by simp)])
    clear HE'
    have K1 := hK
    have L1 := hL
    have B1 := hB
    have S1 := hS
    clear hK hL hB hS
    go_enter Tryz.func105, Tryz.ntmps105
    go_wp2_with fail
    refine (k2.out _ (rdF_below hr0.out B1) (T0.out.below B1)).mono ?_
    rintro e w2 ⟨rfl, hb2⟩
    have L2 := Lib.hid (blk_below L1.out hb2)
    have B2 := below_then B1 S1 hb2
    have S2 := B2.size
    clear K1 L1 B1 S1 hb2 k2
    by_cases hle : le = 0
    · subst hle
      have d0 := (blk_cell L2.out 0 (.int .i64 1) rfl).1
      have d1 := (blk_cell L2.out 1 (.int .i64 mn) rfl).1
      have d2 := (blk_cell L2.out 2 (.int .i64 md) rfl).1
      have d3 := (blk_cell L2.out 3 (.int .i64 ms) rfl).1
      have d4 := (blk_cell L2.out 4 (.int .i64 ml) rfl).1
      have d5 := (blk_cell L2.out 5 (.string mc) rfl).1
      have d6 := (blk_cell L2.out 6 (.slice mA mh.length mcap) rfl).1
      go_wp2_with fail
      refine (k3.out _).mono ?_
      rintro e w3 ⟨rfl, hb3⟩
      have B3 := below_then B2 S2 hb3
      clear d0 d1 d2 d3 d4 d5 d6
      cases br with
      | false =>
        have hR : R = 1 := HF.out
        subst hR
        clear HF
        go_wp2
        go_ret
        exact ⟨rfl, B3⟩
      | true =>
        have hR : R = 0 := HF.out
        subst hR
        clear HF
        go_wp2
        go_ret
        exact ⟨rfl, B3⟩
    · have hleb : (le != 0) = true := by simp [hle]
      have hR : R = le := by rw [HF.out, if_neg hle]
      subst hR
      clear HF hle
      go_wp2
      go_ret
      exact ⟨rfl, B2⟩
end Go.Proofs.YtfjplmbknegidaaGreatDoor
end
section
/-
  Walk of chapter 3's method: plain words; the part that looks at a method's code.
-/
set_option linter.unusedVariables false
set_option linter.unusedSimpArgs false
namespace Go.Proofs.YtfjplmbknegidaaGreatDoor
open Go.RowKit Go.Lib

namespace Sp
/-- The error of the handlers, in order. -/
def handS (p : List Cn) (n : Int) : List Hn → Int
  | [] => 0
  | h :: l => if h.fr < 0 ∨ h.til ≤ h.fr ∨ n < h.til ∨ h.at_ < 0 ∨ n ≤ h.at_ then 1 else if h.cls ≠ 0 ∧ taggedS p h.cls 4 = false then 7 else handS p n l
def codedS (p : List Cn) (m : Mb) : Int :=
  if m.stack < 0 ∨ 64 < m.stack ∨ m.locals < 0 ∨ 64 < m.locals then 26
  else if m.code.size = 0 then 5
  else if 4096 < m.code.size then 2
  else if 32 < m.hs.length then 3
  else handS p m.code.size m.hs
def initB : ByteArray := B [60, 105, 110, 105, 116, 62]
def clinitB : ByteArray := B [60, 99, 108, 105, 110, 105, 116, 62]
def voidB : ByteArray := B [40, 41, 86]
/-- What may not be of a method of that name, flags and descriptor. -/
def oddS (nm s : ByteArray) (fl : Int) : Bool :=
  (decide (nm = initB) && (decide (fl ≠ 0) || !(methodS s).1.2.2)) || (decide (nm = clinitB) && (decide (fl ≠ 1) || decide (s ≠ voidB)))
def methodM (p : List Cn) (ff : Int) (m : Mb) : Int :=
  if m.flags < 0 ∨ 2 < m.flags ∨ (m.flags = 0 ∧ ff = 3) then 10
  else if linkS p m.name m.desc true ≠ 0 then linkS p m.name m.desc true
  else if oddS (cnameS p m.name).1 (cnameS p m.desc).1 m.flags = true then 10
  else if m.flags = 2 then (if bareS m = true then 0 else 1)
  else codedS p m
end Sp
/-- The cells of a handler. -/
theorem hn_cells {w : World} {b o : Nat} {p : List Sp.Hn} (hr : w.rangeAt b o (p.flatMap Sp.hnC)) {k : Nat} (hk : k < p.length) :
    w.cell? ⟨b, o + k * 4, none⟩ = some (.int .i64 p[k].fr) ∧ w.cell? ⟨b, o + k * 4 + 1, none⟩ = some (.int .i64 p[k].til) ∧ w.cell? ⟨b, o + k * 4 + 2, none⟩ = some (.int .i64 p[k].at_) ∧ w.cell? ⟨b, o + k * 4 + 3, none⟩ = some (.int .i64 p[k].cls) :=
  ⟨rdL_get 4 Sp.hnC_len hr hk 0 (by decide) rfl, rdL_get 4 Sp.hnC_len hr hk 1 (by decide) rfl, rdL_get 4 Sp.hnC_len hr hk 2 (by decide) rfl, rdL_get 4 Sp.hnC_len hr hk 3 (by decide) rfl⟩
end Go.Proofs.YtfjplmbknegidaaGreatDoor
end
