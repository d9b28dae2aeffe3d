/-
  Texts of the proof, joined.
-/
import Derived.Test.YtjjlcoimaihdoaaGreatDoorJh4
import Derived.Test.YtjjlcoimaihdoaaGreatDoorJh5
import Derived.Test.YtjjlcoimaihdoaaGreatDoorJh2
import Derived.Deep.RegionHeld3
import Derived.Deep.RegionWith
import Derived.Test.YtjjlcoimaihdoaaGreatDoorJh13
import Derived.Test.YtjjlcoimaihdoaaGreatDoorJh10
set_option linter.unusedVariables false
set_option linter.unusedSimpArgs false
namespace Go.Proofs.YtjjlcoimaihdoaaGreatDoor
open Go.RowKit Go.Lib
set_option maxHeartbeats 16000000 in
set_option maxRecDepth 100000 in
theorem refConst_any (q : Sp.At) (F : FlP) (c : Sp.Cn) (w : World) (hr : RdF w q F) (ha : In64 c.a) (hb : In64 c.b) (hc : In64 c.c) (hs : c.text.size ≤ 1099511627776)
  (hz : ∀ c ∈ F.pool, c.text.size ≤ 1099511627776) :
  Calls Tryz.prog 228 #[.agg (flC q F), Sp.cnV c] w fun e w' => e = .returned (.int .i64 (Sp.constS F.pool c)) ∧ Below w.heap.size w w' := by
 obtain ⟨pool, fl, th, su, ifs, flds, mths⟩ := F
 obtain ⟨qA, qc, qI, qd, qX, qe, qY, qg⟩ := q
 obtain ⟨t, s, n, a, b, c⟩ := c
 simp only [] at ha hb hc hs hz ⊢
 have hr0 := Lib.hid hr
 clear hr
 have k2 := Lib.hid (fun W => refEncode_any s W hs)
 have k3 := Lib.hid (fun W => refRunes_any s W hs)
 rw [Sp.refRunes_eq] at k3
 have k4 := Lib.hid (fun W hr => refTagged_any ⟨qA, qc, qI, qd, qX, qe, qY, qg⟩ ⟨pool, fl, th, su, ifs, flds, mths⟩ a 4 W hr ha)
 have ka := Lib.hid (fun W hr => refTagged_any ⟨qA, qc, qI, qd, qX, qe, qY, qg⟩ ⟨pool, fl, th, su, ifs, flds, mths⟩ a 1 W hr ha)
 have kb := Lib.hid (fun W hr => refTagged_any ⟨qA, qc, qI, qd, qX, qe, qY, qg⟩ ⟨pool, fl, th, su, ifs, flds, mths⟩ b 1 W hr hb)
 have kc := Lib.hid (fun W hr => refTagged_any ⟨qA, qc, qI, qd, qX, qe, qY, qg⟩ ⟨pool, fl, th, su, ifs, flds, mths⟩ c 1 W hr hc)
 have kt := Lib.hid (fun k (hk : k < pool.length) W hr => refText_any ⟨qA, qc, qI, qd, qX, qe, qY, qg⟩ ⟨pool, fl, th, su, ifs, flds, mths⟩ k hk W hr)
 have hz' := Lib.hid (fun k (hk : k < pool.length) => hz _ (List.getElem_mem hk))
 clear hz hs
 have HE := Lib.hid (show Sp.constS pool ⟨t, s, n, a, b, c⟩ = _ by rw [Sp.constS, Sp.textS, Sp.namedS, Sp.linkedS, Sp.linkS])
 have na := Lib.hid (Sp.cname_at pool a)
 have nb := Lib.hid (Sp.cname_at pool b)
 have nc := Lib.hid (Sp.cname_at pool c)
 generalize Sp.constS pool ⟨t, s, n, a, b, c⟩ = R at HE ⊢
 have HE1 := Lib.hid HE.out
 rw [Sp.cname_tag, Sp.cname_tag, Sp.cname_tag] at HE1
 clear HE
 simp only [] at k2 k3 k4 ka kb kc kt HE1
 generalize Sp.encS s = E at *
 generalize Sp.runes s = rn at *
 generalize validD s.data.toList = vd at *
 generalize Sp.taggedS pool a 4 = T4 at *
 generalize Sp.taggedS pool a 1 = T at *
 generalize Sp.taggedS pool b 1 = U at *
 generalize Sp.taggedS pool c 1 = V at *
 obtain ⟨es, ee⟩ := E
 simp only [] at k2 HE1
 have hB := ((Below.refl w.heap.size w).alloc (Nat.le_refl _) (.cells (flC ⟨qA, qc, qI, qd, qX, qe, qY, qg⟩ ⟨pool, fl, th, su, ifs, flds, mths⟩) 26)).alloc (by simp) (.cells #[.int .i64 t, .string s, .int .i64 n, .int .i64 a, .int .i64 b, .int .i64 c] 145)
 have hK := Lib.hid (blk_old (o := .cells #[.int .i64 t, .string s, .int .i64 n, .int .i64 a, .int .i64 b, .int .i64 c] 145) (blk_new w (.cells (flC ⟨qA, qc, qI, qd, qX, qe, qY, qg⟩ ⟨pool, fl, th, su, ifs, flds, mths⟩) 26)))
 have hL := Lib.hid (blk_new (w.alloc (.cells (flC ⟨qA, qc, qI, qd, qX, qe, qY, qg⟩ ⟨pool, fl, th, su, ifs, flds, mths⟩) 26)) (.cells #[.int .i64 t, .string s, .int .i64 n, .int .i64 a, .int .i64 b, .int .i64 c] 145))
 rw [show (w.alloc (.cells (flC ⟨qA, qc, qI, qd, qX, qe, qY, qg⟩ ⟨pool, fl, th, su, ifs, flds, mths⟩) 26)).heap.size = w.heap.size + 1 by simp] at hL
 have hS := hB.size
 unfold flC at k4 ka kb kc kt
 unfold Sp.cnV
 have hfl : flC ⟨qA, qc, qI, qd, qX, qe, qY, qg⟩ ⟨pool, fl, th, su, ifs, flds, mths⟩ = #[.slice qA pool.length qc, .int .i64 fl, .int .i64 th, .int .i64 su, .slice qI ifs.length qd, .slice qX flds.length qe, .slice qY mths.length qg] := rfl
 rw [hfl] at hB hS ⊢
 clear hfl
 simp only [] at k4 ka kb kc kt ⊢
 by_cases t0 : t < 1
 ·have hl : Sp.leanS ⟨t, s, n, a, b, c⟩ = false := by simp only [Sp.leanS, decide_eq_false (show ¬ (1 : Int) ≤ t by omega), Bool.false_and]
  have hR : R = 7 := by rw [HE1.out]; rw [if_pos hl]
  subst hR
  clear HE1 k2 k3 k4 ka kb kc kt na nb nc
  go_enter Tryz.func228, Tryz.ntmps228
  go_wp2
  go_ret
  exact ⟨rfl, hB⟩
 by_cases t7 : 7 < t
 ·have hl : Sp.leanS ⟨t, s, n, a, b, c⟩ = false := by simp only [Sp.leanS, decide_eq_false (show ¬ t ≤ (7 : Int) by omega), Bool.and_false, Bool.false_and]
  have hR : R = 7 := by rw [HE1.out]; rw [if_pos hl]
  subst hR
  clear HE1 k2 k3 k4 ka kb kc kt na nb nc
  go_enter Tryz.func228, Tryz.ntmps228
  go_wp2
  go_ret
  exact ⟨rfl, hB⟩
 have hts : t = 1 ∨ t = 2 ∨ t = 3 ∨ t = 4 ∨ t = 5 ∨ t = 6 ∨ t = 7 := by omega
 clear t0 t7
 rcases hts with rfl | rfl | rfl | rfl | rfl | rfl | rfl
 ·-- tag 1
  by_cases g0 : n = 0
  rotate_left
  ·have e2 : (n != 0) = true := by simp [g0]
   have hl : Sp.leanS ⟨1, s, n, a, b, c⟩ = false := by simp [Sp.leanS, g0]
   have hR : R = 7 := by rw [HE1.out]; rw [if_pos hl]
   subst hR
   clear HE1 k2 k3 k4 ka kb kc kt na nb nc
   go_enter Tryz.func228, Tryz.ntmps228
   go_wp2
   go_ret
   exact ⟨rfl, hB⟩
  subst g0
  by_cases g0 : a = 0
  rotate_left
  ·have e2 : (a != 0) = true := by simp [g0]
   have hl : Sp.leanS ⟨1, s, 0, a, b, c⟩ = false := by simp [Sp.leanS, g0]
   have hR : R = 7 := by rw [HE1.out]; rw [if_pos hl]
   subst hR
   clear HE1 k2 k3 k4 ka kb kc kt na nb nc
   go_enter Tryz.func228, Tryz.ntmps228
   go_wp2
   go_ret
   exact ⟨rfl, hB⟩
  subst g0
  by_cases g0 : b = 0
  rotate_left
  ·have e2 : (b != 0) = true := by simp [g0]
   have hl : Sp.leanS ⟨1, s, 0, 0, b, c⟩ = false := by simp [Sp.leanS, g0]
   have hR : R = 7 := by rw [HE1.out]; rw [if_pos hl]
   subst hR
   clear HE1 k2 k3 k4 ka kb kc kt na nb nc
   go_enter Tryz.func228, Tryz.ntmps228
   go_wp2
   go_ret
   exact ⟨rfl, hB⟩
  subst g0
  by_cases g0 : c = 0
  rotate_left
  ·have e2 : (c != 0) = true := by simp [g0]
   have hl : Sp.leanS ⟨1, s, 0, 0, 0, c⟩ = false := by simp [Sp.leanS, g0]
   have hR : R = 7 := by rw [HE1.out]; rw [if_pos hl]
   subst hR
   clear HE1 k2 k3 k4 ka kb kc kt na nb nc
   go_enter Tryz.func228, Tryz.ntmps228
   go_wp2
   go_ret
   exact ⟨rfl, hB⟩
  subst g0
  have hl : ¬ Sp.leanS ⟨1, s, 0, 0, 0, 0⟩ = false := by simp [Sp.leanS] <;> rfl
  have HE2 := Lib.hid HE1.out
  rw [if_neg hl] at HE2
  clear HE1 hl
  have HE1 := HE2
  clear HE2
  clear k4 ka kb kc kt na nb nc
  rw [if_pos rfl] at HE1
  go_enter Tryz.func228, Tryz.ntmps228
  go_wp2_with fail
  refine (k2.out _).mono ?_
  rintro e w1 ⟨rfl, hb1⟩
  have K1 := Lib.hid (blk_below hK.out hb1)
  have L1 := Lib.hid (blk_below hL.out hb1)
  have B1 := below_then hB hS hb1
  have S1 := B1.size
  clear hK hL hB hS hb1 k2
  obtain ⟨c0, c1, c2, c3, c4, c5, c6⟩ := flC_box (q := ⟨qA, qc, qI, qd, qX, qe, qY, qg⟩) (F := ⟨pool, fl, th, su, ifs, flds, mths⟩) K1.out
  simp only [] at c0 c1 c2 c3 c4 c5 c6
  have d0 := (blk_cell L1.out 0 (.int .i64 1) rfl).1
  have d1 := (blk_cell L1.out 1 (.string s) rfl).1
  have d3 := (blk_cell L1.out 3 (.int .i64 0) rfl).1
  have d4 := (blk_cell L1.out 4 (.int .i64 0) rfl).1
  have d5 := (blk_cell L1.out 5 (.int .i64 0) rfl).1
  by_cases he : ee = 0
  ·subst he
   go_wp2_with fail
   refine (k3.out _).mono ?_
   rintro e w2 ⟨A2, n2, rfl, hrn, hb2⟩
   have hrl := hrn.1
   clear hrn
   have K2 := Lib.hid (blk_below K1.out hb2)
   have L2 := Lib.hid (blk_below L1.out hb2)
   have B2 := below_then B1 S1 hb2
   have S2 := B2.size
   clear K1 L1 B1 S1 hb2 k3 c0 c1 c2 c3 c4 c5 c6 d0 d1 d3 d4 d5
   obtain ⟨c0, c1, c2, c3, c4, c5, c6⟩ := flC_box (q := ⟨qA, qc, qI, qd, qX, qe, qY, qg⟩) (F := ⟨pool, fl, th, su, ifs, flds, mths⟩) K2.out
   simp only [] at c0 c1 c2 c3 c4 c5 c6
   have d0 := (blk_cell L2.out 0 (.int .i64 1) rfl).1
   have d1 := (blk_cell L2.out 1 (.string s) rfl).1
   have d3 := (blk_cell L2.out 3 (.int .i64 0) rfl).1
   have d4 := (blk_cell L2.out 4 (.int .i64 0) rfl).1
   have d5 := (blk_cell L2.out 5 (.int .i64 0) rfl).1
   by_cases h2 : 2000 < rn.length
   ·have hz2 : (2000 : Int) < (rn.length : Int) := by omega
    have hR : R = 2 := by rw [HE1.out]; simp [h2]
    subst hR
    clear HE1
    go_wp2
    go_ret
    exact ⟨rfl, B2⟩
   ·have hz2 : ¬ (2000 : Int) < (rn.length : Int) := by omega
    have hR : R = 0 := by rw [HE1.out]; simp [h2]
    subst hR
    clear HE1
    go_wp2
    go_ret
    exact ⟨rfl, B2⟩
  ·have heb : (ee == 0) = false := by rw [beq_eq_false_iff_ne]; exact he
   have heb2 : (ee != 0) = true := by simp [he]
   have hR : R = ee := by rw [HE1.out]; rw [if_neg he]
   subst hR
   clear HE1
   go_wp2
   go_ret
   exact ⟨rfl, B1⟩
 ·-- tag 2
  by_cases g0 : s.size = 0
  rotate_left
  ·have e1 : (s.toList == []) = false := by
    rw [Bool.eq_false_iff]
    intro r
    have := (bytes_beq_iff s ⟨#[]⟩).1 (by simpa using r)
    rw [this] at g0
    exact g0 rfl
   have e2 : (s.toList != []) = true := by rw [bne, e1]; rfl
   have hl : Sp.leanS ⟨2, s, n, a, b, c⟩ = false := by simp [Sp.leanS, g0]
   have hR : R = 7 := by rw [HE1.out]; rw [if_pos hl]
   subst hR
   clear HE1 k2 k3 k4 ka kb kc kt na nb nc
   go_enter Tryz.func228, Tryz.ntmps228
   go_wp2
   go_ret
   exact ⟨rfl, hB⟩
  obtain rfl := str_empty s g0
  clear g0
  by_cases g0 : a = 0
  rotate_left
  ·have e2 : (a != 0) = true := by simp [g0]
   have hl : Sp.leanS ⟨2, ⟨#[]⟩, n, a, b, c⟩ = false := by simp [Sp.leanS, g0]
   have hR : R = 7 := by rw [HE1.out]; rw [if_pos hl]
   subst hR
   clear HE1 k2 k3 k4 ka kb kc kt na nb nc
   go_enter Tryz.func228, Tryz.ntmps228
   go_wp2
   go_ret
   exact ⟨rfl, hB⟩
  subst g0
  by_cases g0 : b = 0
  rotate_left
  ·have e2 : (b != 0) = true := by simp [g0]
   have hl : Sp.leanS ⟨2, ⟨#[]⟩, n, 0, b, c⟩ = false := by simp [Sp.leanS, g0]
   have hR : R = 7 := by rw [HE1.out]; rw [if_pos hl]
   subst hR
   clear HE1 k2 k3 k4 ka kb kc kt na nb nc
   go_enter Tryz.func228, Tryz.ntmps228
   go_wp2
   go_ret
   exact ⟨rfl, hB⟩
  subst g0
  by_cases g0 : c = 0
  rotate_left
  ·have e2 : (c != 0) = true := by simp [g0]
   have hl : Sp.leanS ⟨2, ⟨#[]⟩, n, 0, 0, c⟩ = false := by simp [Sp.leanS, g0]
   have hR : R = 7 := by rw [HE1.out]; rw [if_pos hl]
   subst hR
   clear HE1 k2 k3 k4 ka kb kc kt na nb nc
   go_enter Tryz.func228, Tryz.ntmps228
   go_wp2
   go_ret
   exact ⟨rfl, hB⟩
  subst g0
  have hl : ¬ Sp.leanS ⟨2, ⟨#[]⟩, n, 0, 0, 0⟩ = false := by simp [Sp.leanS] <;> rfl
  have HE2 := Lib.hid HE1.out
  rw [if_neg hl] at HE2
  clear HE1 hl
  have HE1 := HE2
  clear HE2
  clear k2 k3 k4 ka kb kc kt na nb nc
  have hR : R = 0 := by rw [HE1.out]; rfl
  subst hR
  clear HE1
  go_enter Tryz.func228, Tryz.ntmps228
  go_wp2
  go_ret
  exact ⟨rfl, hB⟩
 ·-- tag 3
  by_cases g0 : s.size = 0
  rotate_left
  ·have e1 : (s.toList == []) = false := by
    rw [Bool.eq_false_iff]
    intro r
    have := (bytes_beq_iff s ⟨#[]⟩).1 (by simpa using r)
    rw [this] at g0
    exact g0 rfl
   have e2 : (s.toList != []) = true := by rw [bne, e1]; rfl
   have hl : Sp.leanS ⟨3, s, n, a, b, c⟩ = false := by simp [Sp.leanS, g0]
   have hR : R = 7 := by rw [HE1.out]; rw [if_pos hl]
   subst hR
   clear HE1 k2 k3 k4 ka kb kc kt na nb nc
   go_enter Tryz.func228, Tryz.ntmps228
   go_wp2
   go_ret
   exact ⟨rfl, hB⟩
  obtain rfl := str_empty s g0
  clear g0
  by_cases g0 : n = 0
  rotate_left
  ·have e2 : (n != 0) = true := by simp [g0]
   have hl : Sp.leanS ⟨3, ⟨#[]⟩, n, a, b, c⟩ = false := by simp [Sp.leanS, g0]
   have hR : R = 7 := by rw [HE1.out]; rw [if_pos hl]
   subst hR
   clear HE1 k2 k3 k4 ka kb kc kt na nb nc
   go_enter Tryz.func228, Tryz.ntmps228
   go_wp2
   go_ret
   exact ⟨rfl, hB⟩
  subst g0
  by_cases g0 : b = 0
  rotate_left
  ·have e2 : (b != 0) = true := by simp [g0]
   have hl : Sp.leanS ⟨3, ⟨#[]⟩, 0, a, b, c⟩ = false := by simp [Sp.leanS, g0]
   have hR : R = 7 := by rw [HE1.out]; rw [if_pos hl]
   subst hR
   clear HE1 k2 k3 k4 ka kb kc kt na nb nc
   go_enter Tryz.func228, Tryz.ntmps228
   go_wp2
   go_ret
   exact ⟨rfl, hB⟩
  subst g0
  by_cases g0 : c = 0
  rotate_left
  ·have e2 : (c != 0) = true := by simp [g0]
   have hl : Sp.leanS ⟨3, ⟨#[]⟩, 0, a, 0, c⟩ = false := by simp [Sp.leanS, g0]
   have hR : R = 7 := by rw [HE1.out]; rw [if_pos hl]
   subst hR
   clear HE1 k2 k3 k4 ka kb kc kt na nb nc
   go_enter Tryz.func228, Tryz.ntmps228
   go_wp2
   go_ret
   exact ⟨rfl, hB⟩
  subst g0
  have hl : ¬ Sp.leanS ⟨3, ⟨#[]⟩, 0, a, 0, 0⟩ = false := by simp [Sp.leanS] <;> rfl
  have HE2 := Lib.hid HE1.out
  rw [if_neg hl] at HE2
  clear HE1 hl
  have HE1 := HE2
  clear HE2
  clear k2 k3 k4 kb kc nb nc
  rw [if_neg (by decide), if_neg (by decide), if_pos (by decide)] at HE1
  go_enter Tryz.func228, Tryz.ntmps228
  go_wp2_with fail
  refine (ka.out _ (rdF_below hr0.out hB)).mono ?_
  rintro e w1 ⟨rfl, hb1⟩
  have K1 := Lib.hid (blk_below hK.out hb1)
  have L1 := Lib.hid (blk_below hL.out hb1)
  have B1 := below_then hB hS hb1
  have S1 := B1.size
  clear hK hL hB hS hb1 ka
  obtain ⟨c0, c1, c2, c3, c4, c5, c6⟩ := flC_box (q := ⟨qA, qc, qI, qd, qX, qe, qY, qg⟩) (F := ⟨pool, fl, th, su, ifs, flds, mths⟩) K1.out
  simp only [] at c0 c1 c2 c3 c4 c5 c6
  have d0 := (blk_cell L1.out 0 (.int .i64 3) rfl).1
  have d1 := (blk_cell L1.out 1 (.string ⟨#[]⟩) rfl).1
  have d3 := (blk_cell L1.out 3 (.int .i64 a) rfl).1
  have d4 := (blk_cell L1.out 4 (.int .i64 0) rfl).1
  have d5 := (blk_cell L1.out 5 (.int .i64 0) rfl).1
  cases T with
  | false =>
   have hR : R = 7 := by rw [HE1.out]; rw [if_pos rfl]
   subst hR
   clear HE1
   go_wp2
   go_ret
   exact ⟨rfl, B1⟩
  | true =>
   obtain ⟨k, hk, rfl, hkn⟩ := na.out rfl
   have hs1 := hz'.out k hk
   have t1 := Lib.hid (fun W hr => kt.out k hk W hr)
   rw [if_neg (by decide), hkn] at HE1
   clear hkn na kt hz'
   generalize pool[k].text = s1 at *
   have k5 := Lib.hid (fun W => refName_any s1 W hs1)
   rw [Sp.refName_eq] at k5
   simp only [Sp.descS] at HE1
   generalize Sp.nameS s1 = nm at *
   go_wp2_with fail
   refine (t1.out _ (rdF_below hr0.out B1)).mono ?_
   rintro e w2 ⟨rfl, hb2⟩
   have K2 := Lib.hid (blk_below K1.out hb2)
   have L2 := Lib.hid (blk_below L1.out hb2)
   have B2 := below_then B1 S1 hb2
   have S2 := B2.size
   clear K1 L1 B1 S1 hb2 t1 c0 c1 c2 c3 c4 c5 c6 d0 d1 d3 d4 d5
   obtain ⟨c0, c1, c2, c3, c4, c5, c6⟩ := flC_box (q := ⟨qA, qc, qI, qd, qX, qe, qY, qg⟩) (F := ⟨pool, fl, th, su, ifs, flds, mths⟩) K2.out
   simp only [] at c0 c1 c2 c3 c4 c5 c6
   have d0 := (blk_cell L2.out 0 (.int .i64 3) rfl).1
   have d1 := (blk_cell L2.out 1 (.string ⟨#[]⟩) rfl).1
   have d3 := (blk_cell L2.out 3 (.int .i64 ((k : Int) + 1)) rfl).1
   have d4 := (blk_cell L2.out 4 (.int .i64 0) rfl).1
   have d5 := (blk_cell L2.out 5 (.int .i64 0) rfl).1
   go_wp2_with fail
   refine (k5.out _).mono ?_
   rintro e w3 ⟨rfl, hb3⟩
   have K3 := Lib.hid (blk_below K2.out hb3)
   have L3 := Lib.hid (blk_below L2.out hb3)
   have B3 := below_then B2 S2 hb3
   have S3 := B3.size
   clear K2 L2 B2 S2 hb3 k5 c0 c1 c2 c3 c4 c5 c6 d0 d1 d3 d4 d5
   obtain ⟨c0, c1, c2, c3, c4, c5, c6⟩ := flC_box (q := ⟨qA, qc, qI, qd, qX, qe, qY, qg⟩) (F := ⟨pool, fl, th, su, ifs, flds, mths⟩) K3.out
   simp only [] at c0 c1 c2 c3 c4 c5 c6
   have d0 := (blk_cell L3.out 0 (.int .i64 3) rfl).1
   have d1 := (blk_cell L3.out 1 (.string ⟨#[]⟩) rfl).1
   have d3 := (blk_cell L3.out 3 (.int .i64 ((k : Int) + 1)) rfl).1
   have d4 := (blk_cell L3.out 4 (.int .i64 0) rfl).1
   have d5 := (blk_cell L3.out 5 (.int .i64 0) rfl).1
   have hR : R = 0 := by rw [HE1.out]; rfl
   subst hR
   clear HE1
   go_wp2
   go_ret
   exact ⟨rfl, B3⟩
 ·-- tag 4
  by_cases g0 : s.size = 0
  rotate_left
  ·have e1 : (s.toList == []) = false := by
    rw [Bool.eq_false_iff]
    intro r
    have := (bytes_beq_iff s ⟨#[]⟩).1 (by simpa using r)
    rw [this] at g0
    exact g0 rfl
   have e2 : (s.toList != []) = true := by rw [bne, e1]; rfl
   have hl : Sp.leanS ⟨4, s, n, a, b, c⟩ = false := by simp [Sp.leanS, g0]
   have hR : R = 7 := by rw [HE1.out]; rw [if_pos hl]
   subst hR
   clear HE1 k2 k3 k4 ka kb kc kt na nb nc
   go_enter Tryz.func228, Tryz.ntmps228
   go_wp2
   go_ret
   exact ⟨rfl, hB⟩
  obtain rfl := str_empty s g0
  clear g0
  by_cases g0 : n = 0
  rotate_left
  ·have e2 : (n != 0) = true := by simp [g0]
   have hl : Sp.leanS ⟨4, ⟨#[]⟩, n, a, b, c⟩ = false := by simp [Sp.leanS, g0]
   have hR : R = 7 := by rw [HE1.out]; rw [if_pos hl]
   subst hR
   clear HE1 k2 k3 k4 ka kb kc kt na nb nc
   go_enter Tryz.func228, Tryz.ntmps228
   go_wp2
   go_ret
   exact ⟨rfl, hB⟩
  subst g0
  by_cases g0 : b = 0
  rotate_left
  ·have e2 : (b != 0) = true := by simp [g0]
   have hl : Sp.leanS ⟨4, ⟨#[]⟩, 0, a, b, c⟩ = false := by simp [Sp.leanS, g0]
   have hR : R = 7 := by rw [HE1.out]; rw [if_pos hl]
   subst hR
   clear HE1 k2 k3 k4 ka kb kc kt na nb nc
   go_enter Tryz.func228, Tryz.ntmps228
   go_wp2
   go_ret
   exact ⟨rfl, hB⟩
  subst g0
  by_cases g0 : c = 0
  rotate_left
  ·have e2 : (c != 0) = true := by simp [g0]
   have hl : Sp.leanS ⟨4, ⟨#[]⟩, 0, a, 0, c⟩ = false := by simp [Sp.leanS, g0]
   have hR : R = 7 := by rw [HE1.out]; rw [if_pos hl]
   subst hR
   clear HE1 k2 k3 k4 ka kb kc kt na nb nc
   go_enter Tryz.func228, Tryz.ntmps228
   go_wp2
   go_ret
   exact ⟨rfl, hB⟩
  subst g0
  have hl : ¬ Sp.leanS ⟨4, ⟨#[]⟩, 0, a, 0, 0⟩ = false := by simp [Sp.leanS] <;> rfl
  have HE2 := Lib.hid HE1.out
  rw [if_neg hl] at HE2
  clear HE1 hl
  have HE1 := HE2
  clear HE2
  clear k2 k3 k4 kb kc nb nc
  rw [if_neg (by decide), if_neg (by decide), if_pos (by decide)] at HE1
  go_enter Tryz.func228, Tryz.ntmps228
  go_wp2_with fail
  refine (ka.out _ (rdF_below hr0.out hB)).mono ?_
  rintro e w1 ⟨rfl, hb1⟩
  have K1 := Lib.hid (blk_below hK.out hb1)
  have L1 := Lib.hid (blk_below hL.out hb1)
  have B1 := below_then hB hS hb1
  have S1 := B1.size
  clear hK hL hB hS hb1 ka
  obtain ⟨c0, c1, c2, c3, c4, c5, c6⟩ := flC_box (q := ⟨qA, qc, qI, qd, qX, qe, qY, qg⟩) (F := ⟨pool, fl, th, su, ifs, flds, mths⟩) K1.out
  simp only [] at c0 c1 c2 c3 c4 c5 c6
  have d0 := (blk_cell L1.out 0 (.int .i64 4) rfl).1
  have d1 := (blk_cell L1.out 1 (.string ⟨#[]⟩) rfl).1
  have d3 := (blk_cell L1.out 3 (.int .i64 a) rfl).1
  have d4 := (blk_cell L1.out 4 (.int .i64 0) rfl).1
  have d5 := (blk_cell L1.out 5 (.int .i64 0) rfl).1
  cases T with
  | false =>
   have hR : R = 7 := by rw [HE1.out]; rw [if_pos rfl]
   subst hR
   clear HE1
   go_wp2
   go_ret
   exact ⟨rfl, B1⟩
  | true =>
   obtain ⟨k, hk, rfl, hkn⟩ := na.out rfl
   have hs1 := hz'.out k hk
   have t1 := Lib.hid (fun W hr => kt.out k hk W hr)
   rw [if_neg (by decide), hkn] at HE1
   clear hkn na kt hz'
   generalize pool[k].text = s1 at *
   have k5 := Lib.hid (fun W => refName_any s1 W hs1)
   rw [Sp.refName_eq] at k5
   simp only [Sp.descS] at HE1
   generalize Sp.nameS s1 = nm at *
   go_wp2_with fail
   refine (t1.out _ (rdF_below hr0.out B1)).mono ?_
   rintro e w2 ⟨rfl, hb2⟩
   have K2 := Lib.hid (blk_below K1.out hb2)
   have L2 := Lib.hid (blk_below L1.out hb2)
   have B2 := below_then B1 S1 hb2
   have S2 := B2.size
   clear K1 L1 B1 S1 hb2 t1 c0 c1 c2 c3 c4 c5 c6 d0 d1 d3 d4 d5
   obtain ⟨c0, c1, c2, c3, c4, c5, c6⟩ := flC_box (q := ⟨qA, qc, qI, qd, qX, qe, qY, qg⟩) (F := ⟨pool, fl, th, su, ifs, flds, mths⟩) K2.out
   simp only [] at c0 c1 c2 c3 c4 c5 c6
   have d0 := (blk_cell L2.out 0 (.int .i64 4) rfl).1
   have d1 := (blk_cell L2.out 1 (.string ⟨#[]⟩) rfl).1
   have d3 := (blk_cell L2.out 3 (.int .i64 ((k : Int) + 1)) rfl).1
   have d4 := (blk_cell L2.out 4 (.int .i64 0) rfl).1
   have d5 := (blk_cell L2.out 5 (.int .i64 0) rfl).1
   go_wp2_with fail
   refine (k5.out _).mono ?_
   rintro e w3 ⟨rfl, hb3⟩
   have K3 := Lib.hid (blk_below K2.out hb3)
   have L3 := Lib.hid (blk_below L2.out hb3)
   have B3 := below_then B2 S2 hb3
   have S3 := B3.size
   clear K2 L2 B2 S2 hb3 k5 c0 c1 c2 c3 c4 c5 c6 d0 d1 d3 d4 d5
   obtain ⟨c0, c1, c2, c3, c4, c5, c6⟩ := flC_box (q := ⟨qA, qc, qI, qd, qX, qe, qY, qg⟩) (F := ⟨pool, fl, th, su, ifs, flds, mths⟩) K3.out
   simp only [] at c0 c1 c2 c3 c4 c5 c6
   have d0 := (blk_cell L3.out 0 (.int .i64 4) rfl).1
   have d1 := (blk_cell L3.out 1 (.string ⟨#[]⟩) rfl).1
   have d3 := (blk_cell L3.out 3 (.int .i64 ((k : Int) + 1)) rfl).1
   have d4 := (blk_cell L3.out 4 (.int .i64 0) rfl).1
   have d5 := (blk_cell L3.out 5 (.int .i64 0) rfl).1
   cases nm with
   | false =>
    have hR : R = 8 := by rw [HE1.out]; rfl
    subst hR
    clear HE1
    go_wp2
    go_ret
    exact ⟨rfl, B3⟩
   | true =>
    have hR : R = 0 := by rw [HE1.out]; rfl
    subst hR
    clear HE1
    go_wp2
    go_ret
    exact ⟨rfl, B3⟩
 ·-- tag 5
  by_cases g0 : s.size = 0
  rotate_left
  ·have e1 : (s.toList == []) = false := by
    rw [Bool.eq_false_iff]
    intro r
    have := (bytes_beq_iff s ⟨#[]⟩).1 (by simpa using r)
    rw [this] at g0
    exact g0 rfl
   have e2 : (s.toList != []) = true := by rw [bne, e1]; rfl
   have hl : Sp.leanS ⟨5, s, n, a, b, c⟩ = false := by simp [Sp.leanS, g0]
   have hR : R = 7 := by rw [HE1.out]; rw [if_pos hl]
   subst hR
   clear HE1 k2 k3 k4 ka kb kc kt na nb nc
   go_enter Tryz.func228, Tryz.ntmps228
   go_wp2
   go_ret
   exact ⟨rfl, hB⟩
  obtain rfl := str_empty s g0
  clear g0
  by_cases g0 : n = 0
  rotate_left
  ·have e2 : (n != 0) = true := by simp [g0]
   have hl : Sp.leanS ⟨5, ⟨#[]⟩, n, a, b, c⟩ = false := by simp [Sp.leanS, g0]
   have hR : R = 7 := by rw [HE1.out]; rw [if_pos hl]
   subst hR
   clear HE1 k2 k3 k4 ka kb kc kt na nb nc
   go_enter Tryz.func228, Tryz.ntmps228
   go_wp2
   go_ret
   exact ⟨rfl, hB⟩
  subst g0
  have hl : ¬ Sp.leanS ⟨5, ⟨#[]⟩, 0, a, b, c⟩ = false := by simp [Sp.leanS] <;> rfl
  have HE2 := Lib.hid HE1.out
  rw [if_neg hl] at HE2
  clear HE1 hl
  have HE1 := HE2
  clear HE2
  clear k2 k3 ka na
  rw [if_neg (by decide), if_pos (by decide)] at HE1
  go_enter Tryz.func228, Tryz.ntmps228
  go_wp2_with fail
  refine (k4.out _ (rdF_below hr0.out hB)).mono ?_
  rintro e w1 ⟨rfl, hb1⟩
  have K1 := Lib.hid (blk_below hK.out hb1)
  have L1 := Lib.hid (blk_below hL.out hb1)
  have B1 := below_then hB hS hb1
  have S1 := B1.size
  clear hK hL hB hS hb1 k4
  obtain ⟨c0, c1, c2, c3, c4, c5, c6⟩ := flC_box (q := ⟨qA, qc, qI, qd, qX, qe, qY, qg⟩) (F := ⟨pool, fl, th, su, ifs, flds, mths⟩) K1.out
  simp only [] at c0 c1 c2 c3 c4 c5 c6
  have d0 := (blk_cell L1.out 0 (.int .i64 5) rfl).1
  have d1 := (blk_cell L1.out 1 (.string ⟨#[]⟩) rfl).1
  have d3 := (blk_cell L1.out 3 (.int .i64 a) rfl).1
  have d4 := (blk_cell L1.out 4 (.int .i64 b) rfl).1
  have d5 := (blk_cell L1.out 5 (.int .i64 c) rfl).1
  go_wp2_with fail
  refine (kb.out _ (rdF_below hr0.out B1)).mono ?_
  rintro e w2 ⟨rfl, hb2⟩
  have K2 := Lib.hid (blk_below K1.out hb2)
  have L2 := Lib.hid (blk_below L1.out hb2)
  have B2 := below_then B1 S1 hb2
  have S2 := B2.size
  clear K1 L1 B1 S1 hb2 kb c0 c1 c2 c3 c4 c5 c6 d0 d1 d3 d4 d5
  obtain ⟨c0, c1, c2, c3, c4, c5, c6⟩ := flC_box (q := ⟨qA, qc, qI, qd, qX, qe, qY, qg⟩) (F := ⟨pool, fl, th, su, ifs, flds, mths⟩) K2.out
  simp only [] at c0 c1 c2 c3 c4 c5 c6
  have d0 := (blk_cell L2.out 0 (.int .i64 5) rfl).1
  have d1 := (blk_cell L2.out 1 (.string ⟨#[]⟩) rfl).1
  have d3 := (blk_cell L2.out 3 (.int .i64 a) rfl).1
  have d4 := (blk_cell L2.out 4 (.int .i64 b) rfl).1
  have d5 := (blk_cell L2.out 5 (.int .i64 c) rfl).1
  go_wp2_with fail
  refine (kc.out _ (rdF_below hr0.out B2)).mono ?_
  rintro e w3 ⟨rfl, hb3⟩
  have K3 := Lib.hid (blk_below K2.out hb3)
  have L3 := Lib.hid (blk_below L2.out hb3)
  have B3 := below_then B2 S2 hb3
  have S3 := B3.size
  clear K2 L2 B2 S2 hb3 kc c0 c1 c2 c3 c4 c5 c6 d0 d1 d3 d4 d5
  obtain ⟨c0, c1, c2, c3, c4, c5, c6⟩ := flC_box (q := ⟨qA, qc, qI, qd, qX, qe, qY, qg⟩) (F := ⟨pool, fl, th, su, ifs, flds, mths⟩) K3.out
  simp only [] at c0 c1 c2 c3 c4 c5 c6
  have d0 := (blk_cell L3.out 0 (.int .i64 5) rfl).1
  have d1 := (blk_cell L3.out 1 (.string ⟨#[]⟩) rfl).1
  have d3 := (blk_cell L3.out 3 (.int .i64 a) rfl).1
  have d4 := (blk_cell L3.out 4 (.int .i64 b) rfl).1
  have d5 := (blk_cell L3.out 5 (.int .i64 c) rfl).1
  cases T4 with
  | false =>
   have hR : R = 7 := by rw [HE1.out]; rw [if_pos rfl]
   subst hR
   clear HE1
   go_wp2
   go_ret
   exact ⟨rfl, B3⟩
  | true =>
   rw [if_neg (by decide)] at HE1
   cases U with
   | false =>
    have hR : R = 7 := by rw [HE1.out]; rw [if_pos (.inl rfl)]
    subst hR
    clear HE1
    go_wp2
    go_ret
    exact ⟨rfl, B3⟩
   | true =>
    cases V with
    | false =>
     have hR : R = 7 := by rw [HE1.out]; rw [if_pos (.inr rfl)]
     subst hR
     clear HE1
     go_wp2
     go_ret
     exact ⟨rfl, B3⟩
    | true =>
     obtain ⟨k, hk, rfl, hkn⟩ := nb.out rfl
     obtain ⟨j, hj, rfl, hjn⟩ := nc.out rfl
     rw [if_neg (by rintro (h | h) <;> cases h), hkn, hjn] at HE1
     have hs1 := hz'.out k hk
     have hs2 := hz'.out j hj
     have t1 := Lib.hid (fun W hr => kt.out k hk W hr)
     have t2 := Lib.hid (fun W hr => kt.out j hj W hr)
     clear hkn hjn nb nc kt hz'
     generalize pool[k].text = s1 at *
     generalize pool[j].text = s2 at *
     have k5 := Lib.hid (fun W => refName_any s1 W hs1)
     have k6 := Lib.hid (fun W => refDescribed_any s2 false W hs2)
     rw [Sp.refName_eq] at k5
     first | rw [show decide ((5 : Int) = 6) = false from rfl] at HE1 | rw [decide_true] at HE1
     simp only [] at HE1
     generalize Sp.nameS s1 = nm at *
     generalize Sp.descS s2 false = db at *
     go_wp2_with fail
     refine (t1.out _ (rdF_below hr0.out B3)).mono ?_
     rintro e w4 ⟨rfl, hb4⟩
     have K4 := Lib.hid (blk_below K3.out hb4)
     have L4 := Lib.hid (blk_below L3.out hb4)
     have B4 := below_then B3 S3 hb4
     have S4 := B4.size
     clear K3 L3 B3 S3 hb4 t1 c0 c1 c2 c3 c4 c5 c6 d0 d1 d3 d4 d5
     obtain ⟨c0, c1, c2, c3, c4, c5, c6⟩ := flC_box (q := ⟨qA, qc, qI, qd, qX, qe, qY, qg⟩) (F := ⟨pool, fl, th, su, ifs, flds, mths⟩) K4.out
     simp only [] at c0 c1 c2 c3 c4 c5 c6
     have d0 := (blk_cell L4.out 0 (.int .i64 5) rfl).1
     have d1 := (blk_cell L4.out 1 (.string ⟨#[]⟩) rfl).1
     have d3 := (blk_cell L4.out 3 (.int .i64 a) rfl).1
     have d4 := (blk_cell L4.out 4 (.int .i64 ((k : Int) + 1)) rfl).1
     have d5 := (blk_cell L4.out 5 (.int .i64 ((j : Int) + 1)) rfl).1
     go_wp2_with fail
     refine (k5.out _).mono ?_
     rintro e w5 ⟨rfl, hb5⟩
     have K5 := Lib.hid (blk_below K4.out hb5)
     have L5 := Lib.hid (blk_below L4.out hb5)
     have B5 := below_then B4 S4 hb5
     have S5 := B5.size
     clear K4 L4 B4 S4 hb5 k5 c0 c1 c2 c3 c4 c5 c6 d0 d1 d3 d4 d5
     obtain ⟨c0, c1, c2, c3, c4, c5, c6⟩ := flC_box (q := ⟨qA, qc, qI, qd, qX, qe, qY, qg⟩) (F := ⟨pool, fl, th, su, ifs, flds, mths⟩) K5.out
     simp only [] at c0 c1 c2 c3 c4 c5 c6
     have d0 := (blk_cell L5.out 0 (.int .i64 5) rfl).1
     have d1 := (blk_cell L5.out 1 (.string ⟨#[]⟩) rfl).1
     have d3 := (blk_cell L5.out 3 (.int .i64 a) rfl).1
     have d4 := (blk_cell L5.out 4 (.int .i64 ((k : Int) + 1)) rfl).1
     have d5 := (blk_cell L5.out 5 (.int .i64 ((j : Int) + 1)) rfl).1
     cases nm with
     | false =>
      have hR : R = 8 := by rw [HE1.out]; rfl
      subst hR
      clear HE1
      go_wp2
      go_ret
      exact ⟨rfl, B5⟩
     | true =>
      have hmk := Lib.hid (show ∀ w', Below w5.heap.size w5 w' → (w'.cell? ⟨w.heap.size, 0, none⟩ = some (.slice qA pool.length qc) ∧ w'.cell? ⟨w.heap.size, 1, none⟩ = some (.int .i64 fl) ∧ w'.cell? ⟨w.heap.size, 2, none⟩ = some (.int .i64 th) ∧ w'.cell? ⟨w.heap.size, 3, none⟩ = some (.int .i64 su) ∧ w'.cell? ⟨w.heap.size, 4, none⟩ = some (.slice qI ifs.length qd) ∧ w'.cell? ⟨w.heap.size, 5, none⟩ = some (.slice qX flds.length qe) ∧ w'.cell? ⟨w.heap.size, 6, none⟩ = some (.slice qY mths.length qg) ∧ w'.cell? ⟨w.heap.size + 1, 0, none⟩ = some (.int .i64 5) ∧ w'.cell? ⟨w.heap.size + 1, 5, none⟩ = some (.int .i64 ((j : Int) + 1))) from fun w' h => ⟨cell_below h c0, cell_below h c1, cell_below h c2, cell_below h c3, cell_below h c4, cell_below h c5, cell_below h c6, cell_below h d0, cell_below h d5⟩)
      have hBd := Lib.hid (Below.refl w5.heap.size w5).drew
      have kA := Lib.hid (fun W (h : Below w5.heap.size w5 W) => (t2.out W (rdF_below hr0.out (below_then B5 S5 h))).mono (fun e W' q => And.intro q.1 (below_then h h.size q.2)))
      have kD := Lib.hid (fun W (h : Below w5.heap.size w5 W) => (k6.out W).mono (fun e W' q => And.intro q.1 (below_then h h.size q.2)))
      (try simp only [] at kA kD)
      have hR : R = db := by rw [HE1.out]; rfl
      subst hR
      clear HE1 t2 k6
      go_wp2_with fail
      go_region_held3 (fun w' => w'.cell? ⟨w.heap.size, 0, none⟩ = some (.slice qA pool.length qc) ∧ w'.cell? ⟨w.heap.size, 1, none⟩ = some (.int .i64 fl) ∧ w'.cell? ⟨w.heap.size, 2, none⟩ = some (.int .i64 th) ∧ w'.cell? ⟨w.heap.size, 3, none⟩ = some (.int .i64 su) ∧ w'.cell? ⟨w.heap.size, 4, none⟩ = some (.slice qI ifs.length qd) ∧ w'.cell? ⟨w.heap.size, 5, none⟩ = some (.slice qX flds.length qe) ∧ w'.cell? ⟨w.heap.size, 6, none⟩ = some (.slice qY mths.length qg) ∧ w'.cell? ⟨w.heap.size + 1, 0, none⟩ = some (.int .i64 5) ∧ w'.cell? ⟨w.heap.size + 1, 5, none⟩ = some (.int .i64 ((j : Int) + 1))) (first | exact hmk.out _ hBd.out | exact hmk.out _ (by with_reducible assumption)) (first | (go_at_call 144; with_reducible refine (kA.out _ hBd.out).mono ?_; rintro e wz ⟨rfl, hz⟩) | (go_at_call 268; with_reducible refine (kD.out _ (by with_reducible assumption)).mono ?_; rintro e wy ⟨rfl, hy⟩))
      go_wp2
      go_ret
      exact ⟨rfl, below_then B5 S5 hy⟩
 ·-- tag 6
  by_cases g0 : s.size = 0
  rotate_left
  ·have e1 : (s.toList == []) = false := by
    rw [Bool.eq_false_iff]
    intro r
    have := (bytes_beq_iff s ⟨#[]⟩).1 (by simpa using r)
    rw [this] at g0
    exact g0 rfl
   have e2 : (s.toList != []) = true := by rw [bne, e1]; rfl
   have hl : Sp.leanS ⟨6, s, n, a, b, c⟩ = false := by simp [Sp.leanS, g0]
   have hR : R = 7 := by rw [HE1.out]; rw [if_pos hl]
   subst hR
   clear HE1 k2 k3 k4 ka kb kc kt na nb nc
   go_enter Tryz.func228, Tryz.ntmps228
   go_wp2
   go_ret
   exact ⟨rfl, hB⟩
  obtain rfl := str_empty s g0
  clear g0
  by_cases g0 : n = 0
  rotate_left
  ·have e2 : (n != 0) = true := by simp [g0]
   have hl : Sp.leanS ⟨6, ⟨#[]⟩, n, a, b, c⟩ = false := by simp [Sp.leanS, g0]
   have hR : R = 7 := by rw [HE1.out]; rw [if_pos hl]
   subst hR
   clear HE1 k2 k3 k4 ka kb kc kt na nb nc
   go_enter Tryz.func228, Tryz.ntmps228
   go_wp2
   go_ret
   exact ⟨rfl, hB⟩
  subst g0
  have hl : ¬ Sp.leanS ⟨6, ⟨#[]⟩, 0, a, b, c⟩ = false := by simp [Sp.leanS] <;> rfl
  have HE2 := Lib.hid HE1.out
  rw [if_neg hl] at HE2
  clear HE1 hl
  have HE1 := HE2
  clear HE2
  clear k2 k3 ka na
  rw [if_neg (by decide), if_pos (by decide)] at HE1
  go_enter Tryz.func228, Tryz.ntmps228
  go_wp2_with fail
  refine (k4.out _ (rdF_below hr0.out hB)).mono ?_
  rintro e w1 ⟨rfl, hb1⟩
  have K1 := Lib.hid (blk_below hK.out hb1)
  have L1 := Lib.hid (blk_below hL.out hb1)
  have B1 := below_then hB hS hb1
  have S1 := B1.size
  clear hK hL hB hS hb1 k4
  obtain ⟨c0, c1, c2, c3, c4, c5, c6⟩ := flC_box (q := ⟨qA, qc, qI, qd, qX, qe, qY, qg⟩) (F := ⟨pool, fl, th, su, ifs, flds, mths⟩) K1.out
  simp only [] at c0 c1 c2 c3 c4 c5 c6
  have d0 := (blk_cell L1.out 0 (.int .i64 6) rfl).1
  have d1 := (blk_cell L1.out 1 (.string ⟨#[]⟩) rfl).1
  have d3 := (blk_cell L1.out 3 (.int .i64 a) rfl).1
  have d4 := (blk_cell L1.out 4 (.int .i64 b) rfl).1
  have d5 := (blk_cell L1.out 5 (.int .i64 c) rfl).1
  go_wp2_with fail
  refine (kb.out _ (rdF_below hr0.out B1)).mono ?_
  rintro e w2 ⟨rfl, hb2⟩
  have K2 := Lib.hid (blk_below K1.out hb2)
  have L2 := Lib.hid (blk_below L1.out hb2)
  have B2 := below_then B1 S1 hb2
  have S2 := B2.size
  clear K1 L1 B1 S1 hb2 kb c0 c1 c2 c3 c4 c5 c6 d0 d1 d3 d4 d5
  obtain ⟨c0, c1, c2, c3, c4, c5, c6⟩ := flC_box (q := ⟨qA, qc, qI, qd, qX, qe, qY, qg⟩) (F := ⟨pool, fl, th, su, ifs, flds, mths⟩) K2.out
  simp only [] at c0 c1 c2 c3 c4 c5 c6
  have d0 := (blk_cell L2.out 0 (.int .i64 6) rfl).1
  have d1 := (blk_cell L2.out 1 (.string ⟨#[]⟩) rfl).1
  have d3 := (blk_cell L2.out 3 (.int .i64 a) rfl).1
  have d4 := (blk_cell L2.out 4 (.int .i64 b) rfl).1
  have d5 := (blk_cell L2.out 5 (.int .i64 c) rfl).1
  go_wp2_with fail
  refine (kc.out _ (rdF_below hr0.out B2)).mono ?_
  rintro e w3 ⟨rfl, hb3⟩
  have K3 := Lib.hid (blk_below K2.out hb3)
  have L3 := Lib.hid (blk_below L2.out hb3)
  have B3 := below_then B2 S2 hb3
  have S3 := B3.size
  clear K2 L2 B2 S2 hb3 kc c0 c1 c2 c3 c4 c5 c6 d0 d1 d3 d4 d5
  obtain ⟨c0, c1, c2, c3, c4, c5, c6⟩ := flC_box (q := ⟨qA, qc, qI, qd, qX, qe, qY, qg⟩) (F := ⟨pool, fl, th, su, ifs, flds, mths⟩) K3.out
  simp only [] at c0 c1 c2 c3 c4 c5 c6
  have d0 := (blk_cell L3.out 0 (.int .i64 6) rfl).1
  have d1 := (blk_cell L3.out 1 (.string ⟨#[]⟩) rfl).1
  have d3 := (blk_cell L3.out 3 (.int .i64 a) rfl).1
  have d4 := (blk_cell L3.out 4 (.int .i64 b) rfl).1
  have d5 := (blk_cell L3.out 5 (.int .i64 c) rfl).1
  cases T4 with
  | false =>
   have hR : R = 7 := by rw [HE1.out]; rw [if_pos rfl]
   subst hR
   clear HE1
   go_wp2
   go_ret
   exact ⟨rfl, B3⟩
  | true =>
   rw [if_neg (by decide)] at HE1
   cases U with
   | false =>
    have hR : R = 7 := by rw [HE1.out]; rw [if_pos (.inl rfl)]
    subst hR
    clear HE1
    go_wp2
    go_ret
    exact ⟨rfl, B3⟩
   | true =>
    cases V with
    | false =>
     have hR : R = 7 := by rw [HE1.out]; rw [if_pos (.inr rfl)]
     subst hR
     clear HE1
     go_wp2
     go_ret
     exact ⟨rfl, B3⟩
    | true =>
     obtain ⟨k, hk, rfl, hkn⟩ := nb.out rfl
     obtain ⟨j, hj, rfl, hjn⟩ := nc.out rfl
     rw [if_neg (by rintro (h | h) <;> cases h), hkn, hjn] at HE1
     have hs1 := hz'.out k hk
     have hs2 := hz'.out j hj
     have t1 := Lib.hid (fun W hr => kt.out k hk W hr)
     have t2 := Lib.hid (fun W hr => kt.out j hj W hr)
     clear hkn hjn nb nc kt hz'
     generalize pool[k].text = s1 at *
     generalize pool[j].text = s2 at *
     have k5 := Lib.hid (fun W => refName_any s1 W hs1)
     have k6 := Lib.hid (fun W => refDescribed_any s2 true W hs2)
     rw [Sp.refName_eq] at k5
     first | rw [show decide ((6 : Int) = 6) = true from rfl] at HE1 | rw [decide_true] at HE1
     simp only [] at HE1
     generalize Sp.nameS s1 = nm at *
     generalize Sp.descS s2 true = db at *
     go_wp2_with fail
     refine (t1.out _ (rdF_below hr0.out B3)).mono ?_
     rintro e w4 ⟨rfl, hb4⟩
     have K4 := Lib.hid (blk_below K3.out hb4)
     have L4 := Lib.hid (blk_below L3.out hb4)
     have B4 := below_then B3 S3 hb4
     have S4 := B4.size
     clear K3 L3 B3 S3 hb4 t1 c0 c1 c2 c3 c4 c5 c6 d0 d1 d3 d4 d5
     obtain ⟨c0, c1, c2, c3, c4, c5, c6⟩ := flC_box (q := ⟨qA, qc, qI, qd, qX, qe, qY, qg⟩) (F := ⟨pool, fl, th, su, ifs, flds, mths⟩) K4.out
     simp only [] at c0 c1 c2 c3 c4 c5 c6
     have d0 := (blk_cell L4.out 0 (.int .i64 6) rfl).1
     have d1 := (blk_cell L4.out 1 (.string ⟨#[]⟩) rfl).1
     have d3 := (blk_cell L4.out 3 (.int .i64 a) rfl).1
     have d4 := (blk_cell L4.out 4 (.int .i64 ((k : Int) + 1)) rfl).1
     have d5 := (blk_cell L4.out 5 (.int .i64 ((j : Int) + 1)) rfl).1
     go_wp2_with fail
     refine (k5.out _).mono ?_
     rintro e w5 ⟨rfl, hb5⟩
     have K5 := Lib.hid (blk_below K4.out hb5)
     have L5 := Lib.hid (blk_below L4.out hb5)
     have B5 := below_then B4 S4 hb5
     have S5 := B5.size
     clear K4 L4 B4 S4 hb5 k5 c0 c1 c2 c3 c4 c5 c6 d0 d1 d3 d4 d5
     obtain ⟨c0, c1, c2, c3, c4, c5, c6⟩ := flC_box (q := ⟨qA, qc, qI, qd, qX, qe, qY, qg⟩) (F := ⟨pool, fl, th, su, ifs, flds, mths⟩) K5.out
     simp only [] at c0 c1 c2 c3 c4 c5 c6
     have d0 := (blk_cell L5.out 0 (.int .i64 6) rfl).1
     have d1 := (blk_cell L5.out 1 (.string ⟨#[]⟩) rfl).1
     have d3 := (blk_cell L5.out 3 (.int .i64 a) rfl).1
     have d4 := (blk_cell L5.out 4 (.int .i64 ((k : Int) + 1)) rfl).1
     have d5 := (blk_cell L5.out 5 (.int .i64 ((j : Int) + 1)) rfl).1
     cases nm with
     | false =>
      have hR : R = 8 := by rw [HE1.out]; rfl
      subst hR
      clear HE1
      go_wp2
      go_ret
      exact ⟨rfl, B5⟩
     | true =>
      have hmk := Lib.hid (show ∀ w', Below w5.heap.size w5 w' → (w'.cell? ⟨w.heap.size, 0, none⟩ = some (.slice qA pool.length qc) ∧ w'.cell? ⟨w.heap.size, 1, none⟩ = some (.int .i64 fl) ∧ w'.cell? ⟨w.heap.size, 2, none⟩ = some (.int .i64 th) ∧ w'.cell? ⟨w.heap.size, 3, none⟩ = some (.int .i64 su) ∧ w'.cell? ⟨w.heap.size, 4, none⟩ = some (.slice qI ifs.length qd) ∧ w'.cell? ⟨w.heap.size, 5, none⟩ = some (.slice qX flds.length qe) ∧ w'.cell? ⟨w.heap.size, 6, none⟩ = some (.slice qY mths.length qg) ∧ w'.cell? ⟨w.heap.size + 1, 0, none⟩ = some (.int .i64 6) ∧ w'.cell? ⟨w.heap.size + 1, 5, none⟩ = some (.int .i64 ((j : Int) + 1))) from fun w' h => ⟨cell_below h c0, cell_below h c1, cell_below h c2, cell_below h c3, cell_below h c4, cell_below h c5, cell_below h c6, cell_below h d0, cell_below h d5⟩)
      have hBd := Lib.hid (Below.refl w5.heap.size w5).drew
      have kA := Lib.hid (fun W (h : Below w5.heap.size w5 W) => (t2.out W (rdF_below hr0.out (below_then B5 S5 h))).mono (fun e W' q => And.intro q.1 (below_then h h.size q.2)))
      have kD := Lib.hid (fun W (h : Below w5.heap.size w5 W) => (k6.out W).mono (fun e W' q => And.intro q.1 (below_then h h.size q.2)))
      (try simp only [] at kA kD)
      have hR : R = db := by rw [HE1.out]; rfl
      subst hR
      clear HE1 t2 k6
      go_wp2_with fail
      go_region_held3 (fun w' => w'.cell? ⟨w.heap.size, 0, none⟩ = some (.slice qA pool.length qc) ∧ w'.cell? ⟨w.heap.size, 1, none⟩ = some (.int .i64 fl) ∧ w'.cell? ⟨w.heap.size, 2, none⟩ = some (.int .i64 th) ∧ w'.cell? ⟨w.heap.size, 3, none⟩ = some (.int .i64 su) ∧ w'.cell? ⟨w.heap.size, 4, none⟩ = some (.slice qI ifs.length qd) ∧ w'.cell? ⟨w.heap.size, 5, none⟩ = some (.slice qX flds.length qe) ∧ w'.cell? ⟨w.heap.size, 6, none⟩ = some (.slice qY mths.length qg) ∧ w'.cell? ⟨w.heap.size + 1, 0, none⟩ = some (.int .i64 6) ∧ w'.cell? ⟨w.heap.size + 1, 5, none⟩ = some (.int .i64 ((j : Int) + 1))) (first | exact hmk.out _ hBd.out | exact hmk.out _ (by with_reducible assumption)) (first | (go_at_call 144; with_reducible refine (kA.out _ hBd.out).mono ?_; rintro e wz ⟨rfl, hz⟩) | (go_at_call 268; with_reducible refine (kD.out _ (by with_reducible assumption)).mono ?_; rintro e wy ⟨rfl, hy⟩))
      go_wp2
      go_ret
      exact ⟨rfl, below_then B5 S5 hy⟩
 ·-- tag 7
  by_cases g0 : s.size = 0
  rotate_left
  ·have e1 : (s.toList == []) = false := by
    rw [Bool.eq_false_iff]
    intro r
    have := (bytes_beq_iff s ⟨#[]⟩).1 (by simpa using r)
    rw [this] at g0
    exact g0 rfl
   have e2 : (s.toList != []) = true := by rw [bne, e1]; rfl
   have hl : Sp.leanS ⟨7, s, n, a, b, c⟩ = false := by simp [Sp.leanS, g0]
   have hR : R = 7 := by rw [HE1.out]; rw [if_pos hl]
   subst hR
   clear HE1 k2 k3 k4 ka kb kc kt na nb nc
   go_enter Tryz.func228, Tryz.ntmps228
   go_wp2
   go_ret
   exact ⟨rfl, hB⟩
  obtain rfl := str_empty s g0
  clear g0
  by_cases g0 : n = 0
  rotate_left
  ·have e2 : (n != 0) = true := by simp [g0]
   have hl : Sp.leanS ⟨7, ⟨#[]⟩, n, a, b, c⟩ = false := by simp [Sp.leanS, g0]
   have hR : R = 7 := by rw [HE1.out]; rw [if_pos hl]
   subst hR
   clear HE1 k2 k3 k4 ka kb kc kt na nb nc
   go_enter Tryz.func228, Tryz.ntmps228
   go_wp2
   go_ret
   exact ⟨rfl, hB⟩
  subst g0
  by_cases g0 : b = 0
  rotate_left
  ·have e2 : (b != 0) = true := by simp [g0]
   have hl : Sp.leanS ⟨7, ⟨#[]⟩, 0, a, b, c⟩ = false := by simp [Sp.leanS, g0]
   have hR : R = 7 := by rw [HE1.out]; rw [if_pos hl]
   subst hR
   clear HE1 k2 k3 k4 ka kb kc kt na nb nc
   go_enter Tryz.func228, Tryz.ntmps228
   go_wp2
   go_ret
   exact ⟨rfl, hB⟩
  subst g0
  by_cases g0 : c = 0
  rotate_left
  ·have e2 : (c != 0) = true := by simp [g0]
   have hl : Sp.leanS ⟨7, ⟨#[]⟩, 0, a, 0, c⟩ = false := by simp [Sp.leanS, g0]
   have hR : R = 7 := by rw [HE1.out]; rw [if_pos hl]
   subst hR
   clear HE1 k2 k3 k4 ka kb kc kt na nb nc
   go_enter Tryz.func228, Tryz.ntmps228
   go_wp2
   go_ret
   exact ⟨rfl, hB⟩
  subst g0
  have hl : ¬ Sp.leanS ⟨7, ⟨#[]⟩, 0, a, 0, 0⟩ = false := by simp [Sp.leanS] <;> rfl
  have HE2 := Lib.hid HE1.out
  rw [if_neg hl] at HE2
  clear HE1 hl
  have HE1 := HE2
  clear HE2
  clear k2 k3 k4 kb kc nb nc
  rw [if_neg (by decide), if_neg (by decide), if_pos (by decide)] at HE1
  go_enter Tryz.func228, Tryz.ntmps228
  go_wp2_with fail
  refine (ka.out _ (rdF_below hr0.out hB)).mono ?_
  rintro e w1 ⟨rfl, hb1⟩
  have K1 := Lib.hid (blk_below hK.out hb1)
  have L1 := Lib.hid (blk_below hL.out hb1)
  have B1 := below_then hB hS hb1
  have S1 := B1.size
  clear hK hL hB hS hb1 ka
  obtain ⟨c0, c1, c2, c3, c4, c5, c6⟩ := flC_box (q := ⟨qA, qc, qI, qd, qX, qe, qY, qg⟩) (F := ⟨pool, fl, th, su, ifs, flds, mths⟩) K1.out
  simp only [] at c0 c1 c2 c3 c4 c5 c6
  have d0 := (blk_cell L1.out 0 (.int .i64 7) rfl).1
  have d1 := (blk_cell L1.out 1 (.string ⟨#[]⟩) rfl).1
  have d3 := (blk_cell L1.out 3 (.int .i64 a) rfl).1
  have d4 := (blk_cell L1.out 4 (.int .i64 0) rfl).1
  have d5 := (blk_cell L1.out 5 (.int .i64 0) rfl).1
  cases T with
  | false =>
   have hR : R = 7 := by rw [HE1.out]; rw [if_pos rfl]
   subst hR
   clear HE1
   go_wp2
   go_ret
   exact ⟨rfl, B1⟩
  | true =>
   obtain ⟨k, hk, rfl, hkn⟩ := na.out rfl
   have hs1 := hz'.out k hk
   have t1 := Lib.hid (fun W hr => kt.out k hk W hr)
   rw [if_neg (by decide), hkn] at HE1
   clear hkn na kt hz'
   generalize pool[k].text = s1 at *
   have k5 := Lib.hid (fun W => refName_any s1 W hs1)
   rw [Sp.refName_eq] at k5
   have k6 := Lib.hid (fun W => refField_any s1 W hs1)
   simp only [Sp.descS] at HE1
   generalize Sp.nameS s1 = nm at *
   generalize Sp.fieldS s1 = fd at *
   obtain ⟨⟨fa, fb⟩, fe⟩ := fd
   unfold Sp.tyV at k6
   simp only [] at k6 HE1
   go_wp2_with fail
   refine (t1.out _ (rdF_below hr0.out B1)).mono ?_
   rintro e w2 ⟨rfl, hb2⟩
   have K2 := Lib.hid (blk_below K1.out hb2)
   have L2 := Lib.hid (blk_below L1.out hb2)
   have B2 := below_then B1 S1 hb2
   have S2 := B2.size
   clear K1 L1 B1 S1 hb2 t1 c0 c1 c2 c3 c4 c5 c6 d0 d1 d3 d4 d5
   obtain ⟨c0, c1, c2, c3, c4, c5, c6⟩ := flC_box (q := ⟨qA, qc, qI, qd, qX, qe, qY, qg⟩) (F := ⟨pool, fl, th, su, ifs, flds, mths⟩) K2.out
   simp only [] at c0 c1 c2 c3 c4 c5 c6
   have d0 := (blk_cell L2.out 0 (.int .i64 7) rfl).1
   have d1 := (blk_cell L2.out 1 (.string ⟨#[]⟩) rfl).1
   have d3 := (blk_cell L2.out 3 (.int .i64 ((k : Int) + 1)) rfl).1
   have d4 := (blk_cell L2.out 4 (.int .i64 0) rfl).1
   have d5 := (blk_cell L2.out 5 (.int .i64 0) rfl).1
   go_wp2_with fail
   refine (k5.out _).mono ?_
   rintro e w3 ⟨rfl, hb3⟩
   have K3 := Lib.hid (blk_below K2.out hb3)
   have L3 := Lib.hid (blk_below L2.out hb3)
   have B3 := below_then B2 S2 hb3
   have S3 := B3.size
   clear K2 L2 B2 S2 hb3 k5 c0 c1 c2 c3 c4 c5 c6 d0 d1 d3 d4 d5
   obtain ⟨c0, c1, c2, c3, c4, c5, c6⟩ := flC_box (q := ⟨qA, qc, qI, qd, qX, qe, qY, qg⟩) (F := ⟨pool, fl, th, su, ifs, flds, mths⟩) K3.out
   simp only [] at c0 c1 c2 c3 c4 c5 c6
   have d0 := (blk_cell L3.out 0 (.int .i64 7) rfl).1
   have d1 := (blk_cell L3.out 1 (.string ⟨#[]⟩) rfl).1
   have d3 := (blk_cell L3.out 3 (.int .i64 ((k : Int) + 1)) rfl).1
   have d4 := (blk_cell L3.out 4 (.int .i64 0) rfl).1
   have d5 := (blk_cell L3.out 5 (.int .i64 0) rfl).1
   go_wp2_with fail
   refine (k6.out _).mono ?_
   rintro e w4 ⟨rfl, hb4⟩
   have K4 := Lib.hid (blk_below K3.out hb4)
   have L4 := Lib.hid (blk_below L3.out hb4)
   have B4 := below_then B3 S3 hb4
   have S4 := B4.size
   clear K3 L3 B3 S3 hb4 k6 c0 c1 c2 c3 c4 c5 c6 d0 d1 d3 d4 d5
   have hR : R = fe := by rw [HE1.out]; rfl
   subst hR
   clear HE1
   go_wp2
   go_ret
   exact ⟨rfl, by (repeat (first | with_reducible assumption | with_reducible exact Below.refl _ _ | (with_reducible refine Below.setCell ?_ (by first | exact Nat.le_refl _ | omega | (simp; done) | (simp; omega)) _) | (with_reducible refine Below.alloc ?_ (by first | exact Nat.le_refl _ | omega | (simp; done) | (simp; omega)) _) | (with_reducible refine Below.drew ?_)))⟩
set_option maxHeartbeats 8000000 in
set_option maxRecDepth 100000 in
theorem refHead_any (q : Sp.At) (F : FlP) (w : World) (hr : RdF w q F) (h1 : In64 F.this) (h2 : In64 F.super) (h3 : ∀ i ∈ F.ifaces, In64 i) :
  Calls Tryz.prog 229 #[.agg (flC q F)] w fun e w' => e = .returned (.int .i64 (Sp.headS F.pool F.flags F.this F.super F.ifaces)) ∧ Below w.heap.size w w' := by
 obtain ⟨pool, fl, th, su, ifs, flds, mths⟩ := F
 obtain ⟨qA, qc, qI, qd, qX, qe, qY, qg⟩ := q
 simp only [] at h1 h2 h3 ⊢
 have HE := Lib.hid (show Sp.headS pool fl th su ifs = _ by rw [Sp.headS])
 have hr0 := Lib.hid hr
 have hil := hr.ifaces.1
 have HI := Lib.hid hr.ifaces.2
 clear hr
 have k1 := Lib.hid (fun W hr => refTagged_any ⟨qA, qc, qI, qd, qX, qe, qY, qg⟩ ⟨pool, fl, th, su, ifs, flds, mths⟩ th 4 W hr h1)
 have k2 := Lib.hid (fun W hr => refTagged_any ⟨qA, qc, qI, qd, qX, qe, qY, qg⟩ ⟨pool, fl, th, su, ifs, flds, mths⟩ su 4 W hr h2)
 have k3 := Lib.hid (fun i (hi : i ∈ ifs) W hr => refTagged_any ⟨qA, qc, qI, qd, qX, qe, qY, qg⟩ ⟨pool, fl, th, su, ifs, flds, mths⟩ i 4 W hr (h3 i hi))
 generalize Sp.headS pool fl th su ifs = R at HE ⊢
 simp only [] at k1 k2 k3 hil HI
 generalize Sp.taggedS pool th 4 = T at *
 generalize Sp.taggedS pool su 4 = U at *
 have hB := (Below.refl w.heap.size w).alloc (Nat.le_refl _) (.cells (flC ⟨qA, qc, qI, qd, qX, qe, qY, qg⟩ ⟨pool, fl, th, su, ifs, flds, mths⟩) 26)
 have hK := Lib.hid (blk_new w (.cells (flC ⟨qA, qc, qI, qd, qX, qe, qY, qg⟩ ⟨pool, fl, th, su, ifs, flds, mths⟩) 26))
 have hS := hB.size
 unfold flC at k1 k2 k3
 have hfl : flC ⟨qA, qc, qI, qd, qX, qe, qY, qg⟩ ⟨pool, fl, th, su, ifs, flds, mths⟩ = #[.slice qA pool.length qc, .int .i64 fl, .int .i64 th, .int .i64 su, .slice qI ifs.length qd, .slice qX flds.length qe, .slice qY mths.length qg] := rfl
 rw [hfl] at hB hS ⊢
 clear hfl
 simp only [] at k1 k2 k3
 by_cases hf : fl ≠ 0 ∧ fl ≠ 2 ∧ fl ≠ 3
 ·have hR : R = 10 := by rw [HE.out, if_pos hf]
  obtain ⟨g1, g2, g3⟩ := hf
  have b1 : (fl != 0) = true := by simp [g1]
  have b2 : (fl != 2) = true := by simp [g2]
  have b3 : (fl != 3) = true := by simp [g3]
  subst hR
  clear HE g1 g2 g3
  go_enter Tryz.func229, Tryz.ntmps229
  go_wp2
  go_ret
  exact ⟨rfl, hB⟩
 have HE1 := Lib.hid HE.out
 rw [if_neg hf] at HE1
 clear HE
 have hf3 : fl = 0 ∨ fl = 2 ∨ fl = 3 := by omega
 clear hf
 have hU : su = 0 ∨ ¬ su = 0 := by omega
 rcases hf3 with rfl | rfl | rfl
 ·go_enter Tryz.func229, Tryz.ntmps229
  go_wp2_with fail
  refine (k1.out _ (rdF_below hr0.out hB)).mono ?_
  rintro e w1 ⟨rfl, hb1⟩
  have K1 := Lib.hid (blk_below hK.out hb1)
  have B1 := below_then hB hS hb1
  have S1 := B1.size
  clear hK hB hS hb1 k1
  obtain ⟨c0, c1, c2, c3, c4, c5, c6⟩ := flC_box K1.out
  go_wp2_with fail
  refine (k2.out _ (rdF_below hr0.out B1)).mono ?_
  rintro e w2 ⟨rfl, hb2⟩
  have K2 := Lib.hid (blk_below K1.out hb2)
  have B2 := below_then B1 S1 hb2
  clear K1 B1 S1 hb2 k2 c0 c1 c2 c3 c4 c5 c6
  obtain ⟨c0, c1, c2, c3, c4, c5, c6⟩ := flC_box K2.out
  cases T with
  | false =>
   have hR : R = 7 := by rw [HE1.out, if_pos (.inl rfl)]
   subst hR
   clear HE1
   go_wp2
   go_ret
   exact ⟨rfl, B2⟩
  | true =>
   rcases hU with rfl | hu
   ·have hub : ((0 : Int) != 0) = false := rfl
    have HE2 := Lib.hid (show R = if 16 < ifs.length then 3 else if ifs.all (fun i => Sp.taggedS pool i 4) = true then 0 else 7 by rw [HE1.out, if_neg (by rintro (h | ⟨h, _⟩); cases h; exact h rfl)])
    clear HE1
    by_cases h16 : 16 < ifs.length
    ·have hz : (16 : Int) < (ifs.length : Int) := by omega
     have hR : R = 3 := by rw [HE2.out, if_pos h16]
     subst hR
     clear HE2
     go_wp2
     go_ret
     exact ⟨rfl, B2⟩
    ·have hz : ¬ (16 : Int) < (ifs.length : Int) := by omega
     have HF := Lib.hid (show R = if ifs.all (fun i => Sp.taggedS pool i 4) = true then 0 else 7 by rw [HE2.out, if_neg h16])
     clear HE2
     go_wp2
     clear c0 c1 c2 c3 c4 c5 c6
     go_loopw [5] (fun v5 wr => ∃ k : Nat, v5 = .int .i64 k ∧ k ≤ ifs.length ∧ Below w.heap.size w wr ∧ Hid (wr.heap[w.heap.size]? = some (.cells (flC ⟨qA, qc, qI, qd, qX, qe, qY, qg⟩ ⟨pool, 0, th, 0, ifs, flds, mths⟩) 26 (0, 0))) ∧ Hid ((ifs.drop k).all (fun i => Sp.taggedS pool i 4) = ifs.all (fun i => Sp.taggedS pool i 4))) (fun v5 _ => ifs.length - (RowKit.intOf v5).toNat)
     case atStart => exact ⟨0, by go_num, Nat.zero_le _, B2, K2, Lib.hid rfl⟩
     case round =>
      clear B2 K2
      obtain ⟨k, rfl, hk, hb, hK, ha⟩ := hrel
      have hbz := hb.size
      have hlb := blk_lt hK.out
      obtain ⟨c0, c1, c2, c3, c4, c5, c6⟩ := flC_box hK.out
      by_cases hlt : k < ifs.length
      ·obtain ⟨b, o, rfl, hcell⟩ := HI.out (by omega)
       have ck := cell_below hb (hcell k hlt)
       have hzk : (k : Int) < (ifs.length : Int) := by omega
       have hz0 : (0 : Int) ≤ (k : Int) := by omega
       have hmem : ifs.getD k 0 ∈ ifs := by rw [List.getD_eq_getElem?_getD, List.getElem?_eq_getElem hlt]; exact List.getElem_mem hlt
       have hd : ifs.drop k = ifs.getD k 0 :: ifs.drop (k + 1) := by rw [List.drop_eq_getElem_cons hlt]; simp [List.getD_eq_getElem?_getD, hlt]
       have ha2 := ha.out
       rw [hd, List.all_cons] at ha2
       have ka := Lib.hid (fun W hr => k3.out _ hmem W hr)
       clear ha hd hmem hcell
       generalize ifs.getD k 0 = y at *
       have ha3 := Lib.hid ha2
       clear ha2
       generalize Sp.taggedS pool y 4 = ty at *
       have r1 := Lib.hid (rdF_below hr0.out (show Below w.heap.size w wr from hb))
       have r2 := Lib.hid (rdF_below hr0.out (show Below w.heap.size w wr.drew from hb.drew))
       go_wp2_with fail
       go_region_with (go_at_call 143; refine (ka.out _ (by first | exact r1.out | exact r2.out)).mono ?_; rintro e w4 ⟨rfl, hb4⟩)
       all_goals
        have hK4 : Hid (w4.heap[w.heap.size]? = some (.cells (flC ⟨qA, qc, some ⟨b, o, none⟩, qd, qX, qe, qY, qg⟩ ⟨pool, 0, th, 0, ifs, flds, mths⟩) 26 (0, 0))) := Lib.hid (by first | exact blk_below hK.out hb4 | exact blk_below (blk_drew hK.out) hb4)
        have hb' : Below w.heap.size w w4 := by first | exact below_then hb hbz hb4 | exact below_then hb.drew hbz hb4
        clear hK hb hb4 ka r1 r2 c0 c1 c2 c3 c4 c5 c6
        cases ty with
        | false =>
         have hR : R = 7 := by rw [HF.out, ← ha3.out]; rfl
         subst hR
         clear HF ha3
         go_wp2
         go_ret
         exact ⟨rfl, hb'⟩
        | true =>
         have ha4 := Lib.hid (show (ifs.drop (k + 1)).all (fun i => Sp.taggedS pool i 4) = ifs.all (fun i => Sp.taggedS pool i 4) by rw [← ha3.out, Bool.true_and])
         clear ha3
         go_wp2
         go_roundw
         case rel => exact ⟨k + 1, by go_num, by omega, hb', hK4, ha4⟩
         case measure => simp [RowKit.intOf]; omega
      ·obtain rfl : k = ifs.length := by omega
       have hzk : ¬ (ifs.length : Int) < (ifs.length : Int) := by omega
       have hR : R = 0 := by rw [HF.out, ← ha.out, List.drop_length]; rfl
       subst hR
       clear HF ha
       go_wp2
       go_ret
       exact ⟨rfl, hb⟩
   ·have hub : (su != 0) = true := by simp [hu]
    cases U with
    | false =>
     have hR : R = 7 := by rw [HE1.out, if_pos (.inr ⟨hu, rfl⟩)]
     subst hR
     clear HE1
     go_wp2
     go_ret
     exact ⟨rfl, B2⟩
    | true =>
     have HE2 := Lib.hid (show R = if 16 < ifs.length then 3 else if ifs.all (fun i => Sp.taggedS pool i 4) = true then 0 else 7 by rw [HE1.out, if_neg (by rintro (h | ⟨_, h⟩) <;> cases h)])
     clear HE1
     by_cases h16 : 16 < ifs.length
     ·have hz : (16 : Int) < (ifs.length : Int) := by omega
      have hR : R = 3 := by rw [HE2.out, if_pos h16]
      subst hR
      clear HE2
      go_wp2
      go_ret
      exact ⟨rfl, B2⟩
     ·have hz : ¬ (16 : Int) < (ifs.length : Int) := by omega
      have HF := Lib.hid (show R = if ifs.all (fun i => Sp.taggedS pool i 4) = true then 0 else 7 by rw [HE2.out, if_neg h16])
      clear HE2
      go_wp2
      clear c0 c1 c2 c3 c4 c5 c6
      go_loopw [5] (fun v5 wr => ∃ k : Nat, v5 = .int .i64 k ∧ k ≤ ifs.length ∧ Below w.heap.size w wr ∧ Hid (wr.heap[w.heap.size]? = some (.cells (flC ⟨qA, qc, qI, qd, qX, qe, qY, qg⟩ ⟨pool, 0, th, su, ifs, flds, mths⟩) 26 (0, 0))) ∧ Hid ((ifs.drop k).all (fun i => Sp.taggedS pool i 4) = ifs.all (fun i => Sp.taggedS pool i 4))) (fun v5 _ => ifs.length - (RowKit.intOf v5).toNat)
      case atStart => exact ⟨0, by go_num, Nat.zero_le _, B2, K2, Lib.hid rfl⟩
      case round =>
       clear B2 K2
       obtain ⟨k, rfl, hk, hb, hK, ha⟩ := hrel
       have hbz := hb.size
       have hlb := blk_lt hK.out
       obtain ⟨c0, c1, c2, c3, c4, c5, c6⟩ := flC_box hK.out
       by_cases hlt : k < ifs.length
       ·obtain ⟨b, o, rfl, hcell⟩ := HI.out (by omega)
        have ck := cell_below hb (hcell k hlt)
        have hzk : (k : Int) < (ifs.length : Int) := by omega
        have hz0 : (0 : Int) ≤ (k : Int) := by omega
        have hmem : ifs.getD k 0 ∈ ifs := by rw [List.getD_eq_getElem?_getD, List.getElem?_eq_getElem hlt]; exact List.getElem_mem hlt
        have hd : ifs.drop k = ifs.getD k 0 :: ifs.drop (k + 1) := by rw [List.drop_eq_getElem_cons hlt]; simp [List.getD_eq_getElem?_getD, hlt]
        have ha2 := ha.out
        rw [hd, List.all_cons] at ha2
        have ka := Lib.hid (fun W hr => k3.out _ hmem W hr)
        clear ha hd hmem hcell
        generalize ifs.getD k 0 = y at *
        have ha3 := Lib.hid ha2
        clear ha2
        generalize Sp.taggedS pool y 4 = ty at *
        have r1 := Lib.hid (rdF_below hr0.out (show Below w.heap.size w wr from hb))
        have r2 := Lib.hid (rdF_below hr0.out (show Below w.heap.size w wr.drew from hb.drew))
        go_wp2_with fail
        go_region_with (go_at_call 143; refine (ka.out _ (by first | exact r1.out | exact r2.out)).mono ?_; rintro e w4 ⟨rfl, hb4⟩)
        all_goals
         have hK4 : Hid (w4.heap[w.heap.size]? = some (.cells (flC ⟨qA, qc, some ⟨b, o, none⟩, qd, qX, qe, qY, qg⟩ ⟨pool, 0, th, su, ifs, flds, mths⟩) 26 (0, 0))) := Lib.hid (by first | exact blk_below hK.out hb4 | exact blk_below (blk_drew hK.out) hb4)
         have hb' : Below w.heap.size w w4 := by first | exact below_then hb hbz hb4 | exact below_then hb.drew hbz hb4
         clear hK hb hb4 ka r1 r2 c0 c1 c2 c3 c4 c5 c6
         cases ty with
         | false =>
          have hR : R = 7 := by rw [HF.out, ← ha3.out]; rfl
          subst hR
          clear HF ha3
          go_wp2
          go_ret
          exact ⟨rfl, hb'⟩
         | true =>
          have ha4 := Lib.hid (show (ifs.drop (k + 1)).all (fun i => Sp.taggedS pool i 4) = ifs.all (fun i => Sp.taggedS pool i 4) by rw [← ha3.out, Bool.true_and])
          clear ha3
          go_wp2
          go_roundw
          case rel => exact ⟨k + 1, by go_num, by omega, hb', hK4, ha4⟩
          case measure => simp [RowKit.intOf]; omega
       ·obtain rfl : k = ifs.length := by omega
        have hzk : ¬ (ifs.length : Int) < (ifs.length : Int) := by omega
        have hR : R = 0 := by rw [HF.out, ← ha.out, List.drop_length]; rfl
        subst hR
        clear HF ha
        go_wp2
        go_ret
        exact ⟨rfl, hb⟩
 ·go_enter Tryz.func229, Tryz.ntmps229
  go_wp2_with fail
  refine (k1.out _ (rdF_below hr0.out hB)).mono ?_
  rintro e w1 ⟨rfl, hb1⟩
  have K1 := Lib.hid (blk_below hK.out hb1)
  have B1 := below_then hB hS hb1
  have S1 := B1.size
  clear hK hB hS hb1 k1
  obtain ⟨c0, c1, c2, c3, c4, c5, c6⟩ := flC_box K1.out
  go_wp2_with fail
  refine (k2.out _ (rdF_below hr0.out B1)).mono ?_
  rintro e w2 ⟨rfl, hb2⟩
  have K2 := Lib.hid (blk_below K1.out hb2)
  have B2 := below_then B1 S1 hb2
  clear K1 B1 S1 hb2 k2 c0 c1 c2 c3 c4 c5 c6
  obtain ⟨c0, c1, c2, c3, c4, c5, c6⟩ := flC_box K2.out
  cases T with
  | false =>
   have hR : R = 7 := by rw [HE1.out, if_pos (.inl rfl)]
   subst hR
   clear HE1
   go_wp2
   go_ret
   exact ⟨rfl, B2⟩
  | true =>
   rcases hU with rfl | hu
   ·have hub : ((0 : Int) != 0) = false := rfl
    have HE2 := Lib.hid (show R = if 16 < ifs.length then 3 else if ifs.all (fun i => Sp.taggedS pool i 4) = true then 0 else 7 by rw [HE1.out, if_neg (by rintro (h | ⟨h, _⟩); cases h; exact h rfl)])
    clear HE1
    by_cases h16 : 16 < ifs.length
    ·have hz : (16 : Int) < (ifs.length : Int) := by omega
     have hR : R = 3 := by rw [HE2.out, if_pos h16]
     subst hR
     clear HE2
     go_wp2
     go_ret
     exact ⟨rfl, B2⟩
    ·have hz : ¬ (16 : Int) < (ifs.length : Int) := by omega
     have HF := Lib.hid (show R = if ifs.all (fun i => Sp.taggedS pool i 4) = true then 0 else 7 by rw [HE2.out, if_neg h16])
     clear HE2
     go_wp2
     clear c0 c1 c2 c3 c4 c5 c6
     go_loopw [5] (fun v5 wr => ∃ k : Nat, v5 = .int .i64 k ∧ k ≤ ifs.length ∧ Below w.heap.size w wr ∧ Hid (wr.heap[w.heap.size]? = some (.cells (flC ⟨qA, qc, qI, qd, qX, qe, qY, qg⟩ ⟨pool, 2, th, 0, ifs, flds, mths⟩) 26 (0, 0))) ∧ Hid ((ifs.drop k).all (fun i => Sp.taggedS pool i 4) = ifs.all (fun i => Sp.taggedS pool i 4))) (fun v5 _ => ifs.length - (RowKit.intOf v5).toNat)
     case atStart => exact ⟨0, by go_num, Nat.zero_le _, B2, K2, Lib.hid rfl⟩
     case round =>
      clear B2 K2
      obtain ⟨k, rfl, hk, hb, hK, ha⟩ := hrel
      have hbz := hb.size
      have hlb := blk_lt hK.out
      obtain ⟨c0, c1, c2, c3, c4, c5, c6⟩ := flC_box hK.out
      by_cases hlt : k < ifs.length
      ·obtain ⟨b, o, rfl, hcell⟩ := HI.out (by omega)
       have ck := cell_below hb (hcell k hlt)
       have hzk : (k : Int) < (ifs.length : Int) := by omega
       have hz0 : (0 : Int) ≤ (k : Int) := by omega
       have hmem : ifs.getD k 0 ∈ ifs := by rw [List.getD_eq_getElem?_getD, List.getElem?_eq_getElem hlt]; exact List.getElem_mem hlt
       have hd : ifs.drop k = ifs.getD k 0 :: ifs.drop (k + 1) := by rw [List.drop_eq_getElem_cons hlt]; simp [List.getD_eq_getElem?_getD, hlt]
       have ha2 := ha.out
       rw [hd, List.all_cons] at ha2
       have ka := Lib.hid (fun W hr => k3.out _ hmem W hr)
       clear ha hd hmem hcell
       generalize ifs.getD k 0 = y at *
       have ha3 := Lib.hid ha2
       clear ha2
       generalize Sp.taggedS pool y 4 = ty at *
       have r1 := Lib.hid (rdF_below hr0.out (show Below w.heap.size w wr from hb))
       have r2 := Lib.hid (rdF_below hr0.out (show Below w.heap.size w wr.drew from hb.drew))
       go_wp2_with fail
       go_region_with (go_at_call 143; refine (ka.out _ (by first | exact r1.out | exact r2.out)).mono ?_; rintro e w4 ⟨rfl, hb4⟩)
       all_goals
        have hK4 : Hid (w4.heap[w.heap.size]? = some (.cells (flC ⟨qA, qc, some ⟨b, o, none⟩, qd, qX, qe, qY, qg⟩ ⟨pool, 2, th, 0, ifs, flds, mths⟩) 26 (0, 0))) := Lib.hid (by first | exact blk_below hK.out hb4 | exact blk_below (blk_drew hK.out) hb4)
        have hb' : Below w.heap.size w w4 := by first | exact below_then hb hbz hb4 | exact below_then hb.drew hbz hb4
        clear hK hb hb4 ka r1 r2 c0 c1 c2 c3 c4 c5 c6
        cases ty with
        | false =>
         have hR : R = 7 := by rw [HF.out, ← ha3.out]; rfl
         subst hR
         clear HF ha3
         go_wp2
         go_ret
         exact ⟨rfl, hb'⟩
        | true =>
         have ha4 := Lib.hid (show (ifs.drop (k + 1)).all (fun i => Sp.taggedS pool i 4) = ifs.all (fun i => Sp.taggedS pool i 4) by rw [← ha3.out, Bool.true_and])
         clear ha3
         go_wp2
         go_roundw
         case rel => exact ⟨k + 1, by go_num, by omega, hb', hK4, ha4⟩
         case measure => simp [RowKit.intOf]; omega
      ·obtain rfl : k = ifs.length := by omega
       have hzk : ¬ (ifs.length : Int) < (ifs.length : Int) := by omega
       have hR : R = 0 := by rw [HF.out, ← ha.out, List.drop_length]; rfl
       subst hR
       clear HF ha
       go_wp2
       go_ret
       exact ⟨rfl, hb⟩
   ·have hub : (su != 0) = true := by simp [hu]
    cases U with
    | false =>
     have hR : R = 7 := by rw [HE1.out, if_pos (.inr ⟨hu, rfl⟩)]
     subst hR
     clear HE1
     go_wp2
     go_ret
     exact ⟨rfl, B2⟩
    | true =>
     have HE2 := Lib.hid (show R = if 16 < ifs.length then 3 else if ifs.all (fun i => Sp.taggedS pool i 4) = true then 0 else 7 by rw [HE1.out, if_neg (by rintro (h | ⟨_, h⟩) <;> cases h)])
     clear HE1
     by_cases h16 : 16 < ifs.length
     ·have hz : (16 : Int) < (ifs.length : Int) := by omega
      have hR : R = 3 := by rw [HE2.out, if_pos h16]
      subst hR
      clear HE2
      go_wp2
      go_ret
      exact ⟨rfl, B2⟩
     ·have hz : ¬ (16 : Int) < (ifs.length : Int) := by omega
      have HF := Lib.hid (show R = if ifs.all (fun i => Sp.taggedS pool i 4) = true then 0 else 7 by rw [HE2.out, if_neg h16])
      clear HE2
      go_wp2
      clear c0 c1 c2 c3 c4 c5 c6
      go_loopw [5] (fun v5 wr => ∃ k : Nat, v5 = .int .i64 k ∧ k ≤ ifs.length ∧ Below w.heap.size w wr ∧ Hid (wr.heap[w.heap.size]? = some (.cells (flC ⟨qA, qc, qI, qd, qX, qe, qY, qg⟩ ⟨pool, 2, th, su, ifs, flds, mths⟩) 26 (0, 0))) ∧ Hid ((ifs.drop k).all (fun i => Sp.taggedS pool i 4) = ifs.all (fun i => Sp.taggedS pool i 4))) (fun v5 _ => ifs.length - (RowKit.intOf v5).toNat)
      case atStart => exact ⟨0, by go_num, Nat.zero_le _, B2, K2, Lib.hid rfl⟩
      case round =>
       clear B2 K2
       obtain ⟨k, rfl, hk, hb, hK, ha⟩ := hrel
       have hbz := hb.size
       have hlb := blk_lt hK.out
       obtain ⟨c0, c1, c2, c3, c4, c5, c6⟩ := flC_box hK.out
       by_cases hlt : k < ifs.length
       ·obtain ⟨b, o, rfl, hcell⟩ := HI.out (by omega)
        have ck := cell_below hb (hcell k hlt)
        have hzk : (k : Int) < (ifs.length : Int) := by omega
        have hz0 : (0 : Int) ≤ (k : Int) := by omega
        have hmem : ifs.getD k 0 ∈ ifs := by rw [List.getD_eq_getElem?_getD, List.getElem?_eq_getElem hlt]; exact List.getElem_mem hlt
        have hd : ifs.drop k = ifs.getD k 0 :: ifs.drop (k + 1) := by rw [List.drop_eq_getElem_cons hlt]; simp [List.getD_eq_getElem?_getD, hlt]
        have ha2 := ha.out
        rw [hd, List.all_cons] at ha2
        have ka := Lib.hid (fun W hr => k3.out _ hmem W hr)
        clear ha hd hmem hcell
        generalize ifs.getD k 0 = y at *
        have ha3 := Lib.hid ha2
        clear ha2
        generalize Sp.taggedS pool y 4 = ty at *
        have r1 := Lib.hid (rdF_below hr0.out (show Below w.heap.size w wr from hb))
        have r2 := Lib.hid (rdF_below hr0.out (show Below w.heap.size w wr.drew from hb.drew))
        go_wp2_with fail
        go_region_with (go_at_call 143; refine (ka.out _ (by first | exact r1.out | exact r2.out)).mono ?_; rintro e w4 ⟨rfl, hb4⟩)
        all_goals
         have hK4 : Hid (w4.heap[w.heap.size]? = some (.cells (flC ⟨qA, qc, some ⟨b, o, none⟩, qd, qX, qe, qY, qg⟩ ⟨pool, 2, th, su, ifs, flds, mths⟩) 26 (0, 0))) := Lib.hid (by first | exact blk_below hK.out hb4 | exact blk_below (blk_drew hK.out) hb4)
         have hb' : Below w.heap.size w w4 := by first | exact below_then hb hbz hb4 | exact below_then hb.drew hbz hb4
         clear hK hb hb4 ka r1 r2 c0 c1 c2 c3 c4 c5 c6
         cases ty with
         | false =>
          have hR : R = 7 := by rw [HF.out, ← ha3.out]; rfl
          subst hR
          clear HF ha3
          go_wp2
          go_ret
          exact ⟨rfl, hb'⟩
         | true =>
          have ha4 := Lib.hid (show (ifs.drop (k + 1)).all (fun i => Sp.taggedS pool i 4) = ifs.all (fun i => Sp.taggedS pool i 4) by rw [← ha3.out, Bool.true_and])
          clear ha3
          go_wp2
          go_roundw
          case rel => exact ⟨k + 1, by go_num, by omega, hb', hK4, ha4⟩
          case measure => simp [RowKit.intOf]; omega
       ·obtain rfl : k = ifs.length := by omega
        have hzk : ¬ (ifs.length : Int) < (ifs.length : Int) := by omega
        have hR : R = 0 := by rw [HF.out, ← ha.out, List.drop_length]; rfl
        subst hR
        clear HF ha
        go_wp2
        go_ret
        exact ⟨rfl, hb⟩
 ·go_enter Tryz.func229, Tryz.ntmps229
  go_wp2_with fail
  refine (k1.out _ (rdF_below hr0.out hB)).mono ?_
  rintro e w1 ⟨rfl, hb1⟩
  have K1 := Lib.hid (blk_below hK.out hb1)
  have B1 := below_then hB hS hb1
  have S1 := B1.size
  clear hK hB hS hb1 k1
  obtain ⟨c0, c1, c2, c3, c4, c5, c6⟩ := flC_box K1.out
  go_wp2_with fail
  refine (k2.out _ (rdF_below hr0.out B1)).mono ?_
  rintro e w2 ⟨rfl, hb2⟩
  have K2 := Lib.hid (blk_below K1.out hb2)
  have B2 := below_then B1 S1 hb2
  clear K1 B1 S1 hb2 k2 c0 c1 c2 c3 c4 c5 c6
  obtain ⟨c0, c1, c2, c3, c4, c5, c6⟩ := flC_box K2.out
  cases T with
  | false =>
   have hR : R = 7 := by rw [HE1.out, if_pos (.inl rfl)]
   subst hR
   clear HE1
   go_wp2
   go_ret
   exact ⟨rfl, B2⟩
  | true =>
   rcases hU with rfl | hu
   ·have hub : ((0 : Int) != 0) = false := rfl
    have HE2 := Lib.hid (show R = if 16 < ifs.length then 3 else if ifs.all (fun i => Sp.taggedS pool i 4) = true then 0 else 7 by rw [HE1.out, if_neg (by rintro (h | ⟨h, _⟩); cases h; exact h rfl)])
    clear HE1
    by_cases h16 : 16 < ifs.length
    ·have hz : (16 : Int) < (ifs.length : Int) := by omega
     have hR : R = 3 := by rw [HE2.out, if_pos h16]
     subst hR
     clear HE2
     go_wp2
     go_ret
     exact ⟨rfl, B2⟩
    ·have hz : ¬ (16 : Int) < (ifs.length : Int) := by omega
     have HF := Lib.hid (show R = if ifs.all (fun i => Sp.taggedS pool i 4) = true then 0 else 7 by rw [HE2.out, if_neg h16])
     clear HE2
     go_wp2
     clear c0 c1 c2 c3 c4 c5 c6
     go_loopw [5] (fun v5 wr => ∃ k : Nat, v5 = .int .i64 k ∧ k ≤ ifs.length ∧ Below w.heap.size w wr ∧ Hid (wr.heap[w.heap.size]? = some (.cells (flC ⟨qA, qc, qI, qd, qX, qe, qY, qg⟩ ⟨pool, 3, th, 0, ifs, flds, mths⟩) 26 (0, 0))) ∧ Hid ((ifs.drop k).all (fun i => Sp.taggedS pool i 4) = ifs.all (fun i => Sp.taggedS pool i 4))) (fun v5 _ => ifs.length - (RowKit.intOf v5).toNat)
     case atStart => exact ⟨0, by go_num, Nat.zero_le _, B2, K2, Lib.hid rfl⟩
     case round =>
      clear B2 K2
      obtain ⟨k, rfl, hk, hb, hK, ha⟩ := hrel
      have hbz := hb.size
      have hlb := blk_lt hK.out
      obtain ⟨c0, c1, c2, c3, c4, c5, c6⟩ := flC_box hK.out
      by_cases hlt : k < ifs.length
      ·obtain ⟨b, o, rfl, hcell⟩ := HI.out (by omega)
       have ck := cell_below hb (hcell k hlt)
       have hzk : (k : Int) < (ifs.length : Int) := by omega
       have hz0 : (0 : Int) ≤ (k : Int) := by omega
       have hmem : ifs.getD k 0 ∈ ifs := by rw [List.getD_eq_getElem?_getD, List.getElem?_eq_getElem hlt]; exact List.getElem_mem hlt
       have hd : ifs.drop k = ifs.getD k 0 :: ifs.drop (k + 1) := by rw [List.drop_eq_getElem_cons hlt]; simp [List.getD_eq_getElem?_getD, hlt]
       have ha2 := ha.out
       rw [hd, List.all_cons] at ha2
       have ka := Lib.hid (fun W hr => k3.out _ hmem W hr)
       clear ha hd hmem hcell
       generalize ifs.getD k 0 = y at *
       have ha3 := Lib.hid ha2
       clear ha2
       generalize Sp.taggedS pool y 4 = ty at *
       have r1 := Lib.hid (rdF_below hr0.out (show Below w.heap.size w wr from hb))
       have r2 := Lib.hid (rdF_below hr0.out (show Below w.heap.size w wr.drew from hb.drew))
       go_wp2_with fail
       go_region_with (go_at_call 143; refine (ka.out _ (by first | exact r1.out | exact r2.out)).mono ?_; rintro e w4 ⟨rfl, hb4⟩)
       all_goals
        have hK4 : Hid (w4.heap[w.heap.size]? = some (.cells (flC ⟨qA, qc, some ⟨b, o, none⟩, qd, qX, qe, qY, qg⟩ ⟨pool, 3, th, 0, ifs, flds, mths⟩) 26 (0, 0))) := Lib.hid (by first | exact blk_below hK.out hb4 | exact blk_below (blk_drew hK.out) hb4)
        have hb' : Below w.heap.size w w4 := by first | exact below_then hb hbz hb4 | exact below_then hb.drew hbz hb4
        clear hK hb hb4 ka r1 r2 c0 c1 c2 c3 c4 c5 c6
        cases ty with
        | false =>
         have hR : R = 7 := by rw [HF.out, ← ha3.out]; rfl
         subst hR
         clear HF ha3
         go_wp2
         go_ret
         exact ⟨rfl, hb'⟩
        | true =>
         have ha4 := Lib.hid (show (ifs.drop (k + 1)).all (fun i => Sp.taggedS pool i 4) = ifs.all (fun i => Sp.taggedS pool i 4) by rw [← ha3.out, Bool.true_and])
         clear ha3
         go_wp2
         go_roundw
         case rel => exact ⟨k + 1, by go_num, by omega, hb', hK4, ha4⟩
         case measure => simp [RowKit.intOf]; omega
      ·obtain rfl : k = ifs.length := by omega
       have hzk : ¬ (ifs.length : Int) < (ifs.length : Int) := by omega
       have hR : R = 0 := by rw [HF.out, ← ha.out, List.drop_length]; rfl
       subst hR
       clear HF ha
       go_wp2
       go_ret
       exact ⟨rfl, hb⟩
   ·have hub : (su != 0) = true := by simp [hu]
    cases U with
    | false =>
     have hR : R = 7 := by rw [HE1.out, if_pos (.inr ⟨hu, rfl⟩)]
     subst hR
     clear HE1
     go_wp2
     go_ret
     exact ⟨rfl, B2⟩
    | true =>
     have HE2 := Lib.hid (show R = if 16 < ifs.length then 3 else if ifs.all (fun i => Sp.taggedS pool i 4) = true then 0 else 7 by rw [HE1.out, if_neg (by rintro (h | ⟨_, h⟩) <;> cases h)])
     clear HE1
     by_cases h16 : 16 < ifs.length
     ·have hz : (16 : Int) < (ifs.length : Int) := by omega
      have hR : R = 3 := by rw [HE2.out, if_pos h16]
      subst hR
      clear HE2
      go_wp2
      go_ret
      exact ⟨rfl, B2⟩
     ·have hz : ¬ (16 : Int) < (ifs.length : Int) := by omega
      have HF := Lib.hid (show R = if ifs.all (fun i => Sp.taggedS pool i 4) = true then 0 else 7 by rw [HE2.out, if_neg h16])
      clear HE2
      go_wp2
      clear c0 c1 c2 c3 c4 c5 c6
      go_loopw [5] (fun v5 wr => ∃ k : Nat, v5 = .int .i64 k ∧ k ≤ ifs.length ∧ Below w.heap.size w wr ∧ Hid (wr.heap[w.heap.size]? = some (.cells (flC ⟨qA, qc, qI, qd, qX, qe, qY, qg⟩ ⟨pool, 3, th, su, ifs, flds, mths⟩) 26 (0, 0))) ∧ Hid ((ifs.drop k).all (fun i => Sp.taggedS pool i 4) = ifs.all (fun i => Sp.taggedS pool i 4))) (fun v5 _ => ifs.length - (RowKit.intOf v5).toNat)
      case atStart => exact ⟨0, by go_num, Nat.zero_le _, B2, K2, Lib.hid rfl⟩
      case round =>
       clear B2 K2
       obtain ⟨k, rfl, hk, hb, hK, ha⟩ := hrel
       have hbz := hb.size
       have hlb := blk_lt hK.out
       obtain ⟨c0, c1, c2, c3, c4, c5, c6⟩ := flC_box hK.out
       by_cases hlt : k < ifs.length
       ·obtain ⟨b, o, rfl, hcell⟩ := HI.out (by omega)
        have ck := cell_below hb (hcell k hlt)
        have hzk : (k : Int) < (ifs.length : Int) := by omega
        have hz0 : (0 : Int) ≤ (k : Int) := by omega
        have hmem : ifs.getD k 0 ∈ ifs := by rw [List.getD_eq_getElem?_getD, List.getElem?_eq_getElem hlt]; exact List.getElem_mem hlt
        have hd : ifs.drop k = ifs.getD k 0 :: ifs.drop (k + 1) := by rw [List.drop_eq_getElem_cons hlt]; simp [List.getD_eq_getElem?_getD, hlt]
        have ha2 := ha.out
        rw [hd, List.all_cons] at ha2
        have ka := Lib.hid (fun W hr => k3.out _ hmem W hr)
        clear ha hd hmem hcell
        generalize ifs.getD k 0 = y at *
        have ha3 := Lib.hid ha2
        clear ha2
        generalize Sp.taggedS pool y 4 = ty at *
        have r1 := Lib.hid (rdF_below hr0.out (show Below w.heap.size w wr from hb))
        have r2 := Lib.hid (rdF_below hr0.out (show Below w.heap.size w wr.drew from hb.drew))
        go_wp2_with fail
        go_region_with (go_at_call 143; refine (ka.out _ (by first | exact r1.out | exact r2.out)).mono ?_; rintro e w4 ⟨rfl, hb4⟩)
        all_goals
         have hK4 : Hid (w4.heap[w.heap.size]? = some (.cells (flC ⟨qA, qc, some ⟨b, o, none⟩, qd, qX, qe, qY, qg⟩ ⟨pool, 3, th, su, ifs, flds, mths⟩) 26 (0, 0))) := Lib.hid (by first | exact blk_below hK.out hb4 | exact blk_below (blk_drew hK.out) hb4)
         have hb' : Below w.heap.size w w4 := by first | exact below_then hb hbz hb4 | exact below_then hb.drew hbz hb4
         clear hK hb hb4 ka r1 r2 c0 c1 c2 c3 c4 c5 c6
         cases ty with
         | false =>
          have hR : R = 7 := by rw [HF.out, ← ha3.out]; rfl
          subst hR
          clear HF ha3
          go_wp2
          go_ret
          exact ⟨rfl, hb'⟩
         | true =>
          have ha4 := Lib.hid (show (ifs.drop (k + 1)).all (fun i => Sp.taggedS pool i 4) = ifs.all (fun i => Sp.taggedS pool i 4) by rw [← ha3.out, Bool.true_and])
          clear ha3
          go_wp2
          go_roundw
          case rel => exact ⟨k + 1, by go_num, by omega, hb', hK4, ha4⟩
          case measure => simp [RowKit.intOf]; omega
       ·obtain rfl : k = ifs.length := by omega
        have hzk : ¬ (ifs.length : Int) < (ifs.length : Int) := by omega
        have hR : R = 0 := by rw [HF.out, ← ha.out, List.drop_length]; rfl
        subst hR
        clear HF ha
        go_wp2
        go_ret
        exact ⟨rfl, hb⟩
namespace Sp
def hadL (key : Mb → ByteArray × ByteArray) (l : List Mb) (k : Nat) : List (ByteArray × ByteArray) := ((l.take k).map key).reverse
theorem had_succ (key : Mb → ByteArray × ByteArray) (l : List Mb) (k : Nat) (hk : k < l.length) : hadL key l (k + 1) = key l[k] :: hadL key l k := by
 unfold hadL
 rw [← List.take_append_getElem hk, List.map_append, List.reverse_append]
 rfl
theorem inS_had (p : List Cn) (me : Bool) (l : List Mb) (k : Nat) (m : Mb) : inS (hadL (keyM p me) l k) (keyM p me m) = (l.take k).any (sameK p me m) := by
 unfold inS hadL
 rw [List.any_reverse, List.any_map]
 congr 1
 funext x
 cases me <;> simp [keyM, sameK]
theorem memF_at (p : List Cn) (chk : Mb → Int) (me : Bool) (l : List Mb) (k : Nat) (hk : k < l.length) : memF chk (keyM p me) (hadL (keyM p me) l k) (l.drop k) = if atM p chk me l k l[k] ≠ 0 then atM p chk me l k l[k] else memF chk (keyM p me) (hadL (keyM p me) l (k + 1)) (l.drop (k + 1)) := by
 rw [List.drop_eq_getElem_cons hk, memF, inS_had, had_succ _ _ _ hk]
 unfold atM
 generalize (l.take k).any (sameK p me l[k]) = A
 generalize chk l[k] = C
 generalize memF chk (keyM p me) (keyM p me l[k] :: hadL (keyM p me) l k) (l.drop (k + 1)) = M
 by_cases h : C = 0
 ·subst h
  cases A <;> simp
 ·simp [h]
theorem atM_chk {p : List Cn} {chk : Mb → Int} {me : Bool} {l : List Mb} {k : Nat} {m : Mb} (h : atM p chk me l k m = 0) : chk m = 0 := by
 unfold atM at h
 by_cases g : chk m = 0
 ·exact g
 ·rw [if_pos g] at h; exact h
theorem field_named {p : List Cn} {ff : Int} {m : Mb} (h : fieldM p ff m = 0) : taggedS p m.name 1 = true := by
 unfold fieldM at h
 split at h
 ·cases h
 ·split at h
  ·rename_i hl0
   unfold linkS at hl0
   split at hl0
   ·cases hl0
   ·rename_i q
    simp only [not_or, Bool.not_eq_false] at q
    rw [← cname_tag]
    exact q.1
  ·rename_i hl
   exact absurd h hl
theorem take_all {α : Type} {P : α → Prop} {l : List α} {k : Nat} (h : ∀ m ∈ l.take k, P m) (hk : k ≤ l.length) (j : Nat) (hj : j < k) : P (l[j]'(by omega)) := by
 have hl : j < (l.take k).length := by rw [List.length_take]; omega
 have := h _ (List.getElem_mem hl)
 rwa [List.getElem_take] at this
theorem take_more {α : Type} {P : α → Prop} {l : List α} {k : Nat} (h : ∀ m ∈ l.take k, P m) (hk : k < l.length) (hx : P l[k]) : ∀ m ∈ l.take (k + 1), P m := by
 intro m hm
 rw [← List.take_append_getElem hk] at hm
 rcases List.mem_append.1 hm with q | q
 ·exact h m q
 ·rw [List.mem_singleton.1 q]; exact hx
theorem map_atM (p : List Cn) (chk : Mb → Int) (me : Bool) (l : List Mp) (k : Nat) (hk : k < l.length) : atM p chk me (l.map (·.1)) k ((l.map (·.1))[k]'(by simpa using hk)) = atM p chk me (l.map (·.1)) k l[k].1 := by
 rw [List.getElem_map]
end Sp
set_option maxHeartbeats 16000000 in
set_option maxRecDepth 100000 in
theorem refParts_any (q : Sp.At) (F : FlP) (w : World) (hr : RdF w q F) (hF : FlOk F) :
  Calls Tryz.prog 177 #[.agg (flC q F)] w fun e w' => e = .returned (.int .i64 (Sp.partsS F.fl)) ∧ Below w.heap.size w w' := by
 have HE := Lib.hid (show Sp.partsS F.fl = _ by rw [Sp.partsS, Sp.memS, Sp.memS])
 generalize Sp.partsS F.fl = R at HE ⊢
 unfold FlP.fl at HE
 have HE0 := Lib.hid HE.out
 clear HE
 simp only [List.length_map] at HE0
 have hl := hr.pool.1
 have HP := Lib.hid hr.pool.2
 have hK := Lib.hid (blk_new w (.cells (flC q F) 26))
 have hB := (Below.refl w.heap.size w).alloc (Nat.le_refl _) (.cells (flC q F) 26)
 have KK : ∀ X : Array Value, X = flC q F →
   Hid (∀ c : Sp.Cn, c ∈ F.pool → ∀ W, Below w.heap.size w W → Calls Tryz.prog 228 #[.agg X, .agg #[.int .i64 c.tag, .string c.text, .int .i64 c.n, .int .i64 c.a, .int .i64 c.b, .int .i64 c.c]] W fun e w' => e = .returned (.int .i64 (Sp.constS F.pool c)) ∧ Below W.heap.size W w') ∧
   Hid (∀ W, Below w.heap.size w W → Calls Tryz.prog 229 #[.agg X] W fun e w' => e = .returned (.int .i64 (Sp.headS F.pool F.flags F.this F.super F.ifaces)) ∧ Below W.heap.size W w') ∧
   Hid (∀ (k : Nat) (hk : k < F.fields.length) W, Below w.heap.size w W → (∀ m ∈ F.fields.take k, Sp.fieldM F.pool F.flags m.1 = 0) → Calls Tryz.prog 230 #[.agg X, .int .i64 k] W fun e w' => e = .returned (.int .i64 (Sp.atM F.pool (Sp.fieldM F.pool F.flags) false (F.fields.map (·.1)) k F.fields[k].1)) ∧ Below W.heap.size W w') ∧
   Hid (∀ (k : Nat) (hk : k < F.methods.length) W, Below w.heap.size w W → (∀ m ∈ F.methods.take k, Sp.methodM F.pool F.flags m.1 = 0) → Calls Tryz.prog 231 #[.agg X, .int .i64 k] W fun e w' => e = .returned (.int .i64 (Sp.atM F.pool (Sp.methodM F.pool F.flags) true (F.methods.map (·.1)) k F.methods[k].1)) ∧ Below W.heap.size W w') := by
  rintro X rfl
  refine ⟨Lib.hid (fun c hc W hb => ?_), Lib.hid (fun W hb => ?_), Lib.hid (fun k hk W hb hP => ?_), Lib.hid (fun k hk W hb hP => ?_)⟩
  ·exact refConst_any q F c W (rdF_below hr hb) (hF.pool c hc).2.2.1 (hF.pool c hc).2.2.2.1 (hF.pool c hc).2.2.2.2.1 (hF.pool c hc).2.2.2.2.2 hF.texts
  ·exact refHead_any q F W (rdF_below hr hb) hF.this hF.super hF.ifaces
  ·exact refFieldM_any q F k hk W (rdF_below hr hb) (fun m hm => ⟨(hF.fields m hm).2.1, (hF.fields m hm).2.2⟩) hF.texts (fun j hj => Sp.field_named (Sp.take_all hP (Nat.le_of_lt hk) j hj))
  ·exact refMethodM_any q F k hk W (rdF_below hr hb) (fun m hm => ⟨(hF.methods m hm).2.1, (hF.methods m hm).2.2.1, fun h hh => ((hF.methods m hm).2.2.2.2.2.2 h hh).2.2.2, (hF.methods m hm).2.2.2.2.2.1⟩) hF.texts (fun j hj => by
    have := Sp.method_named (Sp.take_all hP (Nat.le_of_lt hk) j hj)
    rw [Sp.cname_tag, Sp.cname_tag] at this
    exact this)
 clear hr hF
 obtain ⟨pool, fl, th, su, ifs, flds, mths⟩ := F
 obtain ⟨qA, qc, qI, qd, qX, qe, qY, qg⟩ := q
 have hfl : flC ⟨qA, qc, qI, qd, qX, qe, qY, qg⟩ ⟨pool, fl, th, su, ifs, flds, mths⟩ = #[.slice qA pool.length qc, .int .i64 fl, .int .i64 th, .int .i64 su, .slice qI ifs.length qd, .slice qX flds.length qe, .slice qY mths.length qg] := rfl
 obtain ⟨kc, kh, kf, km⟩ := KK #[.slice qA pool.length qc, .int .i64 fl, .int .i64 th, .int .i64 su, .slice qI ifs.length qd, .slice qX flds.length qe, .slice qY mths.length qg] rfl
 clear KK
 simp only [] at kc kh kf km HE0 hl HP
 rw [hfl] at hK hB ⊢
 clear hfl
 by_cases h2000 : 2000 < pool.length
 ·have hR : R = 3 := by rw [HE0.out, if_pos h2000]
  have hzz : decide ((2000 : Int) < (pool.length : Int)) = true := decide_eq_true (by omega)
  subst hR
  clear HE0 kc kh kf km HP
  go_enter Tryz.func177, Tryz.ntmps177
  go_wp2
  go_ret
  exact ⟨rfl, hB⟩
 have hzz : decide ((2000 : Int) < (pool.length : Int)) = false := decide_eq_false (by omega)
 have HE1 := HE0.out
 rw [if_neg h2000] at HE1
 have hp0 : Sp.poolF pool (pool.drop 0) = Sp.poolF pool pool := rfl
 generalize Sp.poolF pool pool = P0 at HE1 hp0
 have HE2 := Lib.hid HE1
 have HP0 := Lib.hid hp0
 clear HE0 HE1 hp0 h2000
 have hf0 : Sp.memF (Sp.fieldM pool fl) (Sp.keyM pool false) (Sp.hadL (Sp.keyM pool false) (flds.map (·.1)) 0) ((flds.map (·.1)).drop 0) = Sp.memF (Sp.fieldM pool fl) (Sp.keyM pool false) [] (flds.map (·.1)) := rfl
 have hm0 : Sp.memF (Sp.methodM pool fl) (Sp.keyM pool true) (Sp.hadL (Sp.keyM pool true) (mths.map (·.1)) 0) ((mths.map (·.1)).drop 0) = Sp.memF (Sp.methodM pool fl) (Sp.keyM pool true) [] (mths.map (·.1)) := rfl
 generalize Sp.memF (Sp.fieldM pool fl) (Sp.keyM pool false) [] (flds.map (·.1)) = F0 at *
 generalize Sp.memF (Sp.methodM pool fl) (Sp.keyM pool true) [] (mths.map (·.1)) = M0 at *
 generalize Sp.headS pool fl th su ifs = hd at *
 have HF0 := Lib.hid hf0
 have HM0 := Lib.hid hm0
 clear hf0 hm0
 have B0 := Lib.hid hB
 have K0 := hK
 clear hB hK
 go_enter Tryz.func177, Tryz.ntmps177
 go_wp2
 go_loopw [3] (fun vk wr => ∃ (k : Nat), vk = .int .i64 k ∧ k ≤ pool.length ∧ Hid (Below w.heap.size w wr) ∧ Hid (wr.heap[w.heap.size]? = some (.cells #[.slice qA pool.length qc, .int .i64 fl, .int .i64 th, .int .i64 su, .slice qI ifs.length qd, .slice qX flds.length qe, .slice qY mths.length qg] 26 (0, 0))) ∧ Hid (Sp.poolF pool (pool.drop k) = P0)) (fun vk _ => pool.length - (RowKit.intOf vk).toNat)
 case atStart => exact ⟨0, by go_num, Nat.zero_le _, B0, K0, HP0⟩
 case round =>
  clear B0 K0 HP0
  obtain ⟨k, rfl, hk, HB, hK, hf⟩ := hrel
  have hb := HB.out
  have hbz := hb.size
  have hlb := blk_lt hK.out
  obtain ⟨c0, c1, c2, c3, c4, c5, c6⟩ := flC_box (q := ⟨qA, qc, qI, qd, qX, qe, qY, qg⟩) (F := ⟨pool, fl, th, su, ifs, flds, mths⟩) hK.out
  simp only [] at c0 c1 c2 c3 c4 c5 c6
  by_cases hlt : k < pool.length
  ·obtain ⟨b, o, rfl, hrg⟩ := HP.out (by omega)
   obtain ⟨d0, d1, d2, d3, d4, d5⟩ := cn_cells hrg hlt
   have D0 := cell_below hb d0
   have D1 := cell_below hb d1
   have D2 := cell_below hb d2
   have D3 := cell_below hb d3
   have D4 := cell_below hb d4
   have D5 := cell_below hb d5
   have hzk : (k : Int) < (pool.length : Int) := by omega
   have kc1 := kc.out _ (List.getElem_mem hlt)
   have hf1 := hf.out
   rw [List.drop_eq_getElem_cons hlt, Sp.poolF] at hf1
   clear hf hrg d0 d1 d2 d3 d4 d5
   generalize pool[k] = cq at *
   obtain ⟨ct, cs, cn, ca, cb, cc⟩ := cq
   simp only [] at D0 D1 D2 D3 D4 D5 kc1
   generalize Sp.constS pool ⟨ct, cs, cn, ca, cb, cc⟩ = cv at *
   have hf2 := Lib.hid hf1
   have kc2 := Lib.hid kc1
   clear hf1 kc1
   have hmk := Lib.hid (show ∀ w', Below wr.heap.size wr w' → (w'.cell? ⟨w.heap.size, 0, none⟩ = some (.slice (some ⟨b, o, none⟩) pool.length qc) ∧ w'.cell? ⟨w.heap.size, 1, none⟩ = some (.int .i64 fl) ∧ w'.cell? ⟨w.heap.size, 2, none⟩ = some (.int .i64 th) ∧ w'.cell? ⟨w.heap.size, 3, none⟩ = some (.int .i64 su) ∧ w'.cell? ⟨w.heap.size, 4, none⟩ = some (.slice qI ifs.length qd) ∧ w'.cell? ⟨w.heap.size, 5, none⟩ = some (.slice qX flds.length qe) ∧ w'.cell? ⟨w.heap.size, 6, none⟩ = some (.slice qY mths.length qg) ∧ w'.cell? ⟨b, o + k * 6, none⟩ = some (.int .i64 ct) ∧ w'.cell? ⟨b, o + k * 6 + 1, none⟩ = some (.string cs) ∧ w'.cell? ⟨b, o + k * 6 + 2, none⟩ = some (.int .i64 cn) ∧ w'.cell? ⟨b, o + k * 6 + 3, none⟩ = some (.int .i64 ca) ∧ w'.cell? ⟨b, o + k * 6 + 4, none⟩ = some (.int .i64 cb) ∧ w'.cell? ⟨b, o + k * 6 + 5, none⟩ = some (.int .i64 cc)) from fun w' h => ⟨cell_below h c0, cell_below h c1, cell_below h c2, cell_below h c3, cell_below h c4, cell_below h c5, cell_below h c6, cell_below h D0, cell_below h D1, cell_below h D2, cell_below h D3, cell_below h D4, cell_below h D5⟩)
   have hBd := Lib.hid (Below.refl wr.heap.size wr).drew
   have kD := Lib.hid (fun W (h : Below wr.heap.size wr W) => (kc2.out W (below_then hb hbz h)).mono (fun e W' q => And.intro q.1 (below_then h h.size q.2)))
   go_wp2_with fail
   go_region_held3 (fun w' => w'.cell? ⟨w.heap.size, 0, none⟩ = some (.slice (some ⟨b, o, none⟩) pool.length qc) ∧ w'.cell? ⟨w.heap.size, 1, none⟩ = some (.int .i64 fl) ∧ w'.cell? ⟨w.heap.size, 2, none⟩ = some (.int .i64 th) ∧ w'.cell? ⟨w.heap.size, 3, none⟩ = some (.int .i64 su) ∧ w'.cell? ⟨w.heap.size, 4, none⟩ = some (.slice qI ifs.length qd) ∧ w'.cell? ⟨w.heap.size, 5, none⟩ = some (.slice qX flds.length qe) ∧ w'.cell? ⟨w.heap.size, 6, none⟩ = some (.slice qY mths.length qg) ∧ w'.cell? ⟨b, o + k * 6, none⟩ = some (.int .i64 ct) ∧ w'.cell? ⟨b, o + k * 6 + 1, none⟩ = some (.string cs) ∧ w'.cell? ⟨b, o + k * 6 + 2, none⟩ = some (.int .i64 cn) ∧ w'.cell? ⟨b, o + k * 6 + 3, none⟩ = some (.int .i64 ca) ∧ w'.cell? ⟨b, o + k * 6 + 4, none⟩ = some (.int .i64 cb) ∧ w'.cell? ⟨b, o + k * 6 + 5, none⟩ = some (.int .i64 cc)) (first | exact hmk.out _ hBd.out | exact hmk.out _ (by with_reducible assumption)) (first | (go_at_call 228; with_reducible refine (kD.out _ hBd.out).mono ?_; rintro e w2 ⟨rfl, hb2⟩))
   clear hmk hBd kD
   have K2 := Lib.hid (blk_below hK.out hb2)
   have B2 := Lib.hid (below_then hb hbz hb2)
   clear hb HB hK hlb hbz c0 c1 c2 c3 c4 c5 c6 D0 D1 D2 D3 D4 D5 kc2 hb2
   by_cases hcz : cv = 0
   ·subst hcz
    have hf4 := Lib.hid (show Sp.poolF pool (pool.drop (k + 1)) = P0 by have := hf2.out; rwa [if_neg (by simp)] at this)
    clear hf2
    go_wp2
    go_roundw
    case rel => exact ⟨k + 1, by go_num, by omega, B2, K2, hf4⟩
    case measure => simp [RowKit.intOf]; omega
   ·have hcb : (cv != 0) = true := by simp [hcz]
    have hR : R = cv := by
     have := hf2.out
     rw [if_pos hcz] at this
     rw [HE2.out, ← this, if_pos hcz]
    subst hR
    clear hf2 hcz HE2
    go_wp2
    go_ret
    exact ⟨rfl, B2.out⟩
  ·obtain rfl : k = pool.length := by omega
   have hzk : ¬ (pool.length : Int) < (pool.length : Int) := by omega
   have hP0 : P0 = 0 := by have := hf.out; rw [List.drop_length] at this; exact this.symm
   subst hP0
   have HE3' := HE2.out
   rw [if_neg (by simp)] at HE3'
   have HE3 := Lib.hid HE3'
   clear HE3' HE2 hf kc
   go_wp2_with fail
   refine (kh.out _ hb).mono ?_
   rintro e w2 ⟨rfl, hb2⟩
   have K2 := Lib.hid (blk_below hK.out hb2)
   have B2 := below_then hb hbz hb2
   have z2 := B2.size
   clear hb HB hK hlb hbz c0 c1 c2 c3 c4 c5 c6 hb2 kh
   by_cases hz1 : hd = 0
   rotate_left
   ·have hcb : (hd != 0) = true := by simp [hz1]
    have hR : R = hd := by rw [HE3.out, if_pos hz1]
    subst hR
    clear HE3 hz1
    go_wp2
    go_ret
    exact ⟨rfl, B2⟩
   subst hz1
   have HE4' := HE3.out
   rw [if_neg (by simp)] at HE4'
   have HE4 := Lib.hid HE4'
   clear HE4' HE3
   have BB2 := Lib.hid B2
   clear B2 z2 hzk
   obtain ⟨c0, c1, c2, c3, c4, c5, c6⟩ := flC_box (q := ⟨qA, qc, qI, qd, qX, qe, qY, qg⟩) (F := ⟨pool, fl, th, su, ifs, flds, mths⟩) K2.out
   simp only [] at c0 c1 c2 c3 c4 c5 c6
   by_cases h200 : 200 < flds.length
   ·have hzz : decide ((200 : Int) < (flds.length : Int)) = true := decide_eq_true (by omega)
    have hR : R = 3 := by rw [HE4.out, if_pos (by rw [if_pos h200]; decide), if_pos h200]
    subst hR
    have B2 := BB2.out
    clear HE4
    go_wp2
    go_ret
    exact ⟨rfl, B2⟩
   have hzz2 : decide ((200 : Int) < (flds.length : Int)) = false := decide_eq_false (by omega)
   have hlmX : flds.length ≤ 9223372036854775807 := by omega
   have HM1 := HE4.out
   rw [if_neg h200] at HM1
   have HE5 := Lib.hid HM1
   clear HM1 HE4 h200
   go_wp2
   go_loopw [5, 6] (fun ve vk wr => ∃ (k : Nat), vk = .int .i64 k ∧ ve = .int .i64 0 ∧ k ≤ flds.length ∧ Hid (Below w.heap.size w wr) ∧ Hid (wr.heap[w.heap.size]? = some (.cells #[.slice qA pool.length qc, .int .i64 fl, .int .i64 th, .int .i64 su, .slice qI ifs.length qd, .slice qX flds.length qe, .slice qY mths.length qg] 26 (0, 0))) ∧ Hid (∀ m ∈ flds.take k, Sp.fieldM pool fl m.1 = 0) ∧ Hid (Sp.memF (Sp.fieldM pool fl) (Sp.keyM pool false) (Sp.hadL (Sp.keyM pool false) (flds.map (·.1)) k) ((flds.map (·.1)).drop k) = F0)) (fun ve vk _ => flds.length - (RowKit.intOf vk).toNat)
   case atStart => exact ⟨0, by go_num, rfl, Nat.zero_le _, BB2, K2, Lib.hid (by simp), HF0⟩
   case round =>
    clear BB2 K2 HF0 c0 c1 c2 c3 c4 c5 c6
    obtain ⟨k, rfl, rfl, hk, HB, hK, hA, hf⟩ := hrel
    have hb := HB.out
    have hbz := hb.size
    have hlb := blk_lt hK.out
    obtain ⟨c0, c1, c2, c3, c4, c5, c6⟩ := flC_box (q := ⟨qA, qc, qI, qd, qX, qe, qY, qg⟩) (F := ⟨pool, fl, th, su, ifs, flds, mths⟩) hK.out
    simp only [] at c0 c1 c2 c3 c4 c5 c6
    by_cases hlt : k < flds.length
    ·have hzk : (k : Int) < (flds.length : Int) := by omega
     have kc1 := kf.out k hlt _ hb hA.out
     have hf1 := hf.out
     rw [Sp.memF_at _ _ _ _ _ (by simpa using hlt), Sp.map_atM _ _ _ _ _ hlt] at hf1
     have hA2 := Lib.hid (fun h => Sp.take_more hA.out hlt (Sp.atM_chk (p := pool) (chk := Sp.fieldM pool fl) (me := false) (l := flds.map (·.1)) (k := k) h))
     generalize Sp.atM pool (Sp.fieldM pool fl) false (flds.map (·.1)) k flds[k].1 = cv at *
     have hf2 := Lib.hid hf1
     clear hf hf1 hA
     have kc2 := Lib.hid kc1
     clear kc1
     go_wp2_with fail
     refine kc2.out.mono ?_
     rintro e w2 ⟨rfl, hb2⟩
     have K2 := Lib.hid (blk_below hK.out hb2)
     have B2 := Lib.hid (below_then hb hbz hb2)
     clear hb HB hK hlb hbz c0 c1 c2 c3 c4 c5 c6 kc2 hb2
     by_cases hcz : cv = 0
     ·subst hcz
      have hf4 := Lib.hid (show Sp.memF (Sp.fieldM pool fl) (Sp.keyM pool false) (Sp.hadL (Sp.keyM pool false) (flds.map (·.1)) (k + 1)) ((flds.map (·.1)).drop (k + 1)) = F0 by have := hf2.out; rwa [if_neg (by simp)] at this)
      have hA3 := Lib.hid (hA2.out rfl)
      clear hf2 hA2
      go_wp2
      go_roundw
      case rel => exact ⟨k + 1, by go_num, rfl, by omega, B2, K2, hA3, hf4⟩
      case measure => simp [RowKit.intOf]; omega
     ·have hcb : (cv != 0) = true := by simp [hcz]
      have hX : F0 = cv := by
       have := hf2.out
       rw [if_pos hcz] at this
       exact this.symm
      have hR : R = cv := by rw [HE5.out, hX, if_pos hcz]
      subst hR
      clear hf2 hcz HE5
      go_wp2
      go_ret
      exact ⟨rfl, B2.out⟩
    ·obtain rfl : k = flds.length := by omega
     have hzk : ¬ (flds.length : Int) < (flds.length : Int) := by omega
     have hX : F0 = 0 := by rw [← hf.out, List.drop_eq_nil_of_le (by simp)]; rfl
     subst hX
     have HN := HE5.out
     rw [if_neg (by simp)] at HN
     have HE6 := Lib.hid HN
     have BB3 := HB
     have K3 := hK
     clear HN HE5 hf hA hb HB hK hlb hbz c0 c1 c2 c3 c4 c5 c6 hzk hk hzz2
     obtain ⟨c0, c1, c2, c3, c4, c5, c6⟩ := flC_box (q := ⟨qA, qc, qI, qd, qX, qe, qY, qg⟩) (F := ⟨pool, fl, th, su, ifs, flds, mths⟩) K3.out
     simp only [] at c0 c1 c2 c3 c4 c5 c6
     by_cases h200 : 200 < mths.length
     ·have hzz : decide ((200 : Int) < (mths.length : Int)) = true := decide_eq_true (by omega)
      have hR : R = 3 := by rw [HE6.out, if_pos h200]
      subst hR
      have B2 := BB3.out
      clear HE6
      go_wp2
      go_ret
      exact ⟨rfl, B2⟩
     have hzz2 : decide ((200 : Int) < (mths.length : Int)) = false := decide_eq_false (by omega)
     have hlmX : mths.length ≤ 9223372036854775807 := by omega
     have HM1 := HE6.out
     rw [if_neg h200] at HM1
     have HE7 := Lib.hid HM1
     clear HM1 HE6 h200
     go_wp2
     go_loopw [5, 7] (fun ve vk wr => ∃ (k : Nat), vk = .int .i64 k ∧ ve = .int .i64 0 ∧ k ≤ mths.length ∧ Hid (Below w.heap.size w wr) ∧ Hid (wr.heap[w.heap.size]? = some (.cells #[.slice qA pool.length qc, .int .i64 fl, .int .i64 th, .int .i64 su, .slice qI ifs.length qd, .slice qX flds.length qe, .slice qY mths.length qg] 26 (0, 0))) ∧ Hid (∀ m ∈ mths.take k, Sp.methodM pool fl m.1 = 0) ∧ Hid (Sp.memF (Sp.methodM pool fl) (Sp.keyM pool true) (Sp.hadL (Sp.keyM pool true) (mths.map (·.1)) k) ((mths.map (·.1)).drop k) = M0)) (fun ve vk _ => mths.length - (RowKit.intOf vk).toNat)
     case atStart => exact ⟨0, by go_num, rfl, Nat.zero_le _, BB3, K3, Lib.hid (by simp), HM0⟩
     case round =>
      clear BB3 K3 HM0 c0 c1 c2 c3 c4 c5 c6
      obtain ⟨k, rfl, rfl, hk, HB, hK, hA, hf⟩ := hrel
      have hb := HB.out
      have hbz := hb.size
      have hlb := blk_lt hK.out
      obtain ⟨c0, c1, c2, c3, c4, c5, c6⟩ := flC_box (q := ⟨qA, qc, qI, qd, qX, qe, qY, qg⟩) (F := ⟨pool, fl, th, su, ifs, flds, mths⟩) hK.out
      simp only [] at c0 c1 c2 c3 c4 c5 c6
      by_cases hlt : k < mths.length
      ·have hzk : (k : Int) < (mths.length : Int) := by omega
       have kc1 := km.out k hlt _ hb hA.out
       have hf1 := hf.out
       rw [Sp.memF_at _ _ _ _ _ (by simpa using hlt), Sp.map_atM _ _ _ _ _ hlt] at hf1
       have hA2 := Lib.hid (fun h => Sp.take_more hA.out hlt (Sp.atM_chk (p := pool) (chk := Sp.methodM pool fl) (me := true) (l := mths.map (·.1)) (k := k) h))
       generalize Sp.atM pool (Sp.methodM pool fl) true (mths.map (·.1)) k mths[k].1 = cv at *
       have hf2 := Lib.hid hf1
       clear hf hf1 hA
       have kc2 := Lib.hid kc1
       clear kc1
       go_wp2_with fail
       refine kc2.out.mono ?_
       rintro e w2 ⟨rfl, hb2⟩
       have K2 := Lib.hid (blk_below hK.out hb2)
       have B2 := Lib.hid (below_then hb hbz hb2)
       clear hb HB hK hlb hbz c0 c1 c2 c3 c4 c5 c6 kc2 hb2
       by_cases hcz : cv = 0
       ·subst hcz
        have hf4 := Lib.hid (show Sp.memF (Sp.methodM pool fl) (Sp.keyM pool true) (Sp.hadL (Sp.keyM pool true) (mths.map (·.1)) (k + 1)) ((mths.map (·.1)).drop (k + 1)) = M0 by have := hf2.out; rwa [if_neg (by simp)] at this)
        have hA3 := Lib.hid (hA2.out rfl)
        clear hf2 hA2
        go_wp2
        go_roundw
        case rel => exact ⟨k + 1, by go_num, rfl, by omega, B2, K2, hA3, hf4⟩
        case measure => simp [RowKit.intOf]; omega
       ·have hcb : (cv != 0) = true := by simp [hcz]
        have hX : M0 = cv := by
         have := hf2.out
         rw [if_pos hcz] at this
         exact this.symm
        have hR : R = cv := by rw [HE7.out, hX]
        subst hR
        clear hf2 hcz HE7
        go_wp2
        go_ret
        exact ⟨rfl, B2.out⟩
      ·obtain rfl : k = mths.length := by omega
       have hzk : ¬ (mths.length : Int) < (mths.length : Int) := by omega
       have hX : M0 = 0 := by rw [← hf.out, List.drop_eq_nil_of_le (by simp)]; rfl
       subst hX
       have hR : R = 0 := HE7.out
       subst hR
       clear HE7 hf hA
       go_wp2
       go_ret
       exact ⟨rfl, hb⟩
end Go.Proofs.YtjjlcoimaihdoaaGreatDoor
