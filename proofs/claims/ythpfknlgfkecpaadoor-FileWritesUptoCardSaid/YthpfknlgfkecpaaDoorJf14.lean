/-
  Texts of the proof, joined: each says at its head what it proves.
-/
import Derived.Test.YthpfknlgfkecpaaDoorJFileNamesx2
import Derived.Test.YthpfknlgfkecpaaDoorJFileNamesx3
import Derived.Test.YthpfknlgfkecpaaDoorJFileNamesx1
import Derived.Deep.RegionHeld3
import Derived.Deep.RegionWith
section
/-
  Walk of the reference's constant. (Printed by gen_rconst.py.)
-/
set_option linter.unusedVariables false
set_option linter.unusedSimpArgs false
namespace Go.Proofs.YthpfknlgfkecpaaDoor
open Go.RowKit Go.Lib

set_option maxHeartbeats 16000000 in
set_option maxRecDepth 100000 in
theorem refConst_any (q : Sp.At) (F : FlP) (c : Sp.Cn) (w : World) (hr : RdF w q F) (ha : In64 c.a) (hb : In64 c.b) (hc : In64 c.c) (hs : c.text.size ≤ 1099511627776)
    (hz : ∀ c ∈ F.pool, c.text.size ≤ 1099511627776) :
    Calls Tryd.prog 98 #[.agg (flC q F), Sp.cnV c] w fun e w' => e = .returned (.int .i64 (Sp.constS F.pool c)) ∧ Below w.heap.size w w' := by
  obtain ⟨pool, fl, th, su, ifs, flds, mths⟩ := F
  obtain ⟨qA, qc, qI, qd, qX, qe, qY, qg⟩ := q
  obtain ⟨t, s, n, a, b, c⟩ := c
  simp only [] at ha hb hc hs hz ⊢
  have hr0 := Lib.hid hr
  clear hr
  have k2 := Lib.hid (fun W => refEncode_any s W hs)
  have k3 := Lib.hid (fun W => refRunes_any s W hs)
  rw [Sp.refRunes_eq] at k3
  have k4 := Lib.hid (fun W hr => refTagged_any ⟨qA, qc, qI, qd, qX, qe, qY, qg⟩ ⟨pool, fl, th, su, ifs, flds, mths⟩ a 4 W hr ha)
  have ka := Lib.hid (fun W hr => refTagged_any ⟨qA, qc, qI, qd, qX, qe, qY, qg⟩ ⟨pool, fl, th, su, ifs, flds, mths⟩ a 1 W hr ha)
  have kb := Lib.hid (fun W hr => refTagged_any ⟨qA, qc, qI, qd, qX, qe, qY, qg⟩ ⟨pool, fl, th, su, ifs, flds, mths⟩ b 1 W hr hb)
  have kc := Lib.hid (fun W hr => refTagged_any ⟨qA, qc, qI, qd, qX, qe, qY, qg⟩ ⟨pool, fl, th, su, ifs, flds, mths⟩ c 1 W hr hc)
  have kt := Lib.hid (fun k (hk : k < pool.length) W hr => refText_any ⟨qA, qc, qI, qd, qX, qe, qY, qg⟩ ⟨pool, fl, th, su, ifs, flds, mths⟩ k hk W hr)
  have hz' := Lib.hid (fun k (hk : k < pool.length) => hz _ (List.getElem_mem hk))
  clear hz hs
  have HE := Lib.hid (show Sp.constS pool ⟨t, s, n, a, b, c⟩ = _ by rw [Sp.constS, Sp.textS, Sp.namedS, Sp.linkedS, Sp.linkS])
  have na := Lib.hid (Sp.cname_at pool a)
  have nb := Lib.hid (Sp.cname_at pool b)
  have nc := Lib.hid (Sp.cname_at pool c)
  generalize Sp.constS pool ⟨t, s, n, a, b, c⟩ = R at HE ⊢
  have HE1 := Lib.hid HE.out
  rw [Sp.cname_tag, Sp.cname_tag, Sp.cname_tag] at HE1
  clear HE
  simp only [] at k2 k3 k4 ka kb kc kt HE1
  generalize Sp.encS s = E at *
  generalize Sp.runes s = rn at *
  generalize validD s.data.toList = vd at *
  generalize Sp.taggedS pool a 4 = T4 at *
  generalize Sp.taggedS pool a 1 = T at *
  generalize Sp.taggedS pool b 1 = U at *
  generalize Sp.taggedS pool c 1 = V at *
  obtain ⟨es, ee⟩ := E
  simp only [] at k2 HE1
  have hB := ((Below.refl w.heap.size w).alloc (Nat.le_refl _) (.cells (flC ⟨qA, qc, qI, qd, qX, qe, qY, qg⟩ ⟨pool, fl, th, su, ifs, flds, mths⟩) 53)).alloc (by simp) (.cells #[.int .i64 t, .string s, .int .i64 n, .int .i64 a, .int .i64 b, .int .i64 c] 58)
  have hK := Lib.hid (blk_old (o := .cells #[.int .i64 t, .string s, .int .i64 n, .int .i64 a, .int .i64 b, .int .i64 c] 58) (blk_new w (.cells (flC ⟨qA, qc, qI, qd, qX, qe, qY, qg⟩ ⟨pool, fl, th, su, ifs, flds, mths⟩) 53)))
  have hL := Lib.hid (blk_new (w.alloc (.cells (flC ⟨qA, qc, qI, qd, qX, qe, qY, qg⟩ ⟨pool, fl, th, su, ifs, flds, mths⟩) 53)) (.cells #[.int .i64 t, .string s, .int .i64 n, .int .i64 a, .int .i64 b, .int .i64 c] 58))
  rw [show (w.alloc (.cells (flC ⟨qA, qc, qI, qd, qX, qe, qY, qg⟩ ⟨pool, fl, th, su, ifs, flds, mths⟩) 53)).heap.size = w.heap.size + 1 by simp] at hL
  have hS := hB.size
  unfold flC at k4 ka kb kc kt
  unfold Sp.cnV
  have hfl : flC ⟨qA, qc, qI, qd, qX, qe, qY, qg⟩ ⟨pool, fl, th, su, ifs, flds, mths⟩ = #[.slice qA pool.length qc, .int .i64 fl, .int .i64 th, .int .i64 su, .slice qI ifs.length qd, .slice qX flds.length qe, .slice qY mths.length qg] := rfl
  rw [hfl] at hB hS ⊢
  clear hfl
  simp only [] at k4 ka kb kc kt ⊢
  by_cases t0 : t < 1
  · have hl : Sp.leanS ⟨t, s, n, a, b, c⟩ = false := by simp only [Sp.leanS, decide_eq_false (show ¬ (1 : Int) ≤ t by omega), Bool.false_and]
    have hR : R = 7 := by rw [HE1.out]; rw [if_pos hl]
    subst hR
    clear HE1 k2 k3 k4 ka kb kc kt na nb nc
    go_enter Tryd.func98, Tryd.ntmps98
    go_wp2
    go_ret
    exact ⟨rfl, hB⟩
  by_cases t7 : 7 < t
  · have hl : Sp.leanS ⟨t, s, n, a, b, c⟩ = false := by simp only [Sp.leanS, decide_eq_false (show ¬ t ≤ (7 : Int) by omega), Bool.and_false, Bool.false_and]
    have hR : R = 7 := by rw [HE1.out]; rw [if_pos hl]
    subst hR
    clear HE1 k2 k3 k4 ka kb kc kt na nb nc
    go_enter Tryd.func98, Tryd.ntmps98
    go_wp2
    go_ret
    exact ⟨rfl, hB⟩
  have hts : t = 1 ∨ t = 2 ∨ t = 3 ∨ t = 4 ∨ t = 5 ∨ t = 6 ∨ t = 7 := by omega
  clear t0 t7
  rcases hts with rfl | rfl | rfl | rfl | rfl | rfl | rfl
  · -- tag 1
    by_cases g0 : n = 0
    rotate_left
    · have e2 : (n != 0) = true := by simp [g0]
      have hl : Sp.leanS ⟨1, s, n, a, b, c⟩ = false := by simp [Sp.leanS, g0]
      have hR : R = 7 := by rw [HE1.out]; rw [if_pos hl]
      subst hR
      clear HE1 k2 k3 k4 ka kb kc kt na nb nc
      go_enter Tryd.func98, Tryd.ntmps98
      go_wp2
      go_ret
      exact ⟨rfl, hB⟩
    subst g0
    by_cases g0 : a = 0
    rotate_left
    · have e2 : (a != 0) = true := by simp [g0]
      have hl : Sp.leanS ⟨1, s, 0, a, b, c⟩ = false := by simp [Sp.leanS, g0]
      have hR : R = 7 := by rw [HE1.out]; rw [if_pos hl]
      subst hR
      clear HE1 k2 k3 k4 ka kb kc kt na nb nc
      go_enter Tryd.func98, Tryd.ntmps98
      go_wp2
      go_ret
      exact ⟨rfl, hB⟩
    subst g0
    by_cases g0 : b = 0
    rotate_left
    · have e2 : (b != 0) = true := by simp [g0]
      have hl : Sp.leanS ⟨1, s, 0, 0, b, c⟩ = false := by simp [Sp.leanS, g0]
      have hR : R = 7 := by rw [HE1.out]; rw [if_pos hl]
      subst hR
      clear HE1 k2 k3 k4 ka kb kc kt na nb nc
      go_enter Tryd.func98, Tryd.ntmps98
      go_wp2
      go_ret
      exact ⟨rfl, hB⟩
    subst g0
    by_cases g0 : c = 0
    rotate_left
    · have e2 : (c != 0) = true := by simp [g0]
      have hl : Sp.leanS ⟨1, s, 0, 0, 0, c⟩ = false := by simp [Sp.leanS, g0]
      have hR : R = 7 := by rw [HE1.out]; rw [if_pos hl]
      subst hR
      clear HE1 k2 k3 k4 ka kb kc kt na nb nc
      go_enter Tryd.func98, Tryd.ntmps98
      go_wp2
      go_ret
      exact ⟨rfl, hB⟩
    subst g0
    have hl : ¬ Sp.leanS ⟨1, s, 0, 0, 0, 0⟩ = false := by simp [Sp.leanS] <;> rfl
    have HE2 := Lib.hid HE1.out
    rw [if_neg hl] at HE2
    clear HE1 hl
    have HE1 := HE2
    clear HE2
    clear k4 ka kb kc kt na nb nc
    rw [if_pos rfl] at HE1
    go_enter Tryd.func98, Tryd.ntmps98
    go_wp2_with fail
    refine (k2.out _).mono ?_
    rintro e w1 ⟨rfl, hb1⟩
    have K1 := Lib.hid (blk_below hK.out hb1)
    have L1 := Lib.hid (blk_below hL.out hb1)
    have B1 := below_then hB hS hb1
    have S1 := B1.size
    clear hK hL hB hS hb1 k2
    obtain ⟨c0, c1, c2, c3, c4, c5, c6⟩ := flC_box (q := ⟨qA, qc, qI, qd, qX, qe, qY, qg⟩) (F := ⟨pool, fl, th, su, ifs, flds, mths⟩) K1.out
    simp only [] at c0 c1 c2 c3 c4 c5 c6
    have d0 := (blk_cell L1.out 0 (.int .i64 1) rfl).1
    have d1 := (blk_cell L1.out 1 (.string s) rfl).1
    have d3 := (blk_cell L1.out 3 (.int .i64 0) rfl).1
    have d4 := (blk_cell L1.out 4 (.int .i64 0) rfl).1
    have d5 := (blk_cell L1.out 5 (.int .i64 0) rfl).1
    by_cases he : ee = 0
    · subst he
      go_wp2_with fail
      refine (k3.out _).mono ?_
      rintro e w2 ⟨A2, n2, rfl, hrn, hb2⟩
      have hrl := hrn.1
      clear hrn
      have K2 := Lib.hid (blk_below K1.out hb2)
      have L2 := Lib.hid (blk_below L1.out hb2)
      have B2 := below_then B1 S1 hb2
      have S2 := B2.size
      clear K1 L1 B1 S1 hb2 k3 c0 c1 c2 c3 c4 c5 c6 d0 d1 d3 d4 d5
      obtain ⟨c0, c1, c2, c3, c4, c5, c6⟩ := flC_box (q := ⟨qA, qc, qI, qd, qX, qe, qY, qg⟩) (F := ⟨pool, fl, th, su, ifs, flds, mths⟩) K2.out
      simp only [] at c0 c1 c2 c3 c4 c5 c6
      have d0 := (blk_cell L2.out 0 (.int .i64 1) rfl).1
      have d1 := (blk_cell L2.out 1 (.string s) rfl).1
      have d3 := (blk_cell L2.out 3 (.int .i64 0) rfl).1
      have d4 := (blk_cell L2.out 4 (.int .i64 0) rfl).1
      have d5 := (blk_cell L2.out 5 (.int .i64 0) rfl).1
      by_cases h2 : 2000 < rn.length
      · have hz2 : (2000 : Int) < (rn.length : Int) := by omega
        have hR : R = 2 := by rw [HE1.out]; simp [h2]
        subst hR
        clear HE1
        go_wp2
        go_ret
        exact ⟨rfl, B2⟩
      · have hz2 : ¬ (2000 : Int) < (rn.length : Int) := by omega
        have hR : R = 0 := by rw [HE1.out]; simp [h2]
        subst hR
        clear HE1
        go_wp2
        go_ret
        exact ⟨rfl, B2⟩
    · have heb : (ee == 0) = false := by rw [beq_eq_false_iff_ne]; exact he
      have heb2 : (ee != 0) = true := by simp [he]
      have hR : R = ee := by rw [HE1.out]; rw [if_neg he]
      subst hR
      clear HE1
      go_wp2
      go_ret
      exact ⟨rfl, B1⟩
  · -- tag 2
    by_cases g0 : s.size = 0
    rotate_left
    · have e1 : (s.toList == []) = false := by
        rw [Bool.eq_false_iff]
        intro r
        have := (bytes_beq_iff s ⟨#[]⟩).1 (by simpa using r)
        rw [this] at g0
        exact g0 rfl
      have e2 : (s.toList != []) = true := by rw [bne, e1]; rfl
      have hl : Sp.leanS ⟨2, s, n, a, b, c⟩ = false := by simp [Sp.leanS, g0]
      have hR : R = 7 := by rw [HE1.out]; rw [if_pos hl]
      subst hR
      clear HE1 k2 k3 k4 ka kb kc kt na nb nc
      go_enter Tryd.func98, Tryd.ntmps98
      go_wp2
      go_ret
      exact ⟨rfl, hB⟩
    obtain rfl := str_empty s g0
    clear g0
    by_cases g0 : a = 0
    rotate_left
    · have e2 : (a != 0) = true := by simp [g0]
      have hl : Sp.leanS ⟨2, ⟨#[]⟩, n, a, b, c⟩ = false := by simp [Sp.leanS, g0]
      have hR : R = 7 := by rw [HE1.out]; rw [if_pos hl]
      subst hR
      clear HE1 k2 k3 k4 ka kb kc kt na nb nc
      go_enter Tryd.func98, Tryd.ntmps98
      go_wp2
      go_ret
      exact ⟨rfl, hB⟩
    subst g0
    by_cases g0 : b = 0
    rotate_left
    · have e2 : (b != 0) = true := by simp [g0]
      have hl : Sp.leanS ⟨2, ⟨#[]⟩, n, 0, b, c⟩ = false := by simp [Sp.leanS, g0]
      have hR : R = 7 := by rw [HE1.out]; rw [if_pos hl]
      subst hR
      clear HE1 k2 k3 k4 ka kb kc kt na nb nc
      go_enter Tryd.func98, Tryd.ntmps98
      go_wp2
      go_ret
      exact ⟨rfl, hB⟩
    subst g0
    by_cases g0 : c = 0
    rotate_left
    · have e2 : (c != 0) = true := by simp [g0]
      have hl : Sp.leanS ⟨2, ⟨#[]⟩, n, 0, 0, c⟩ = false := by simp [Sp.leanS, g0]
      have hR : R = 7 := by rw [HE1.out]; rw [if_pos hl]
      subst hR
      clear HE1 k2 k3 k4 ka kb kc kt na nb nc
      go_enter Tryd.func98, Tryd.ntmps98
      go_wp2
      go_ret
      exact ⟨rfl, hB⟩
    subst g0
    have hl : ¬ Sp.leanS ⟨2, ⟨#[]⟩, n, 0, 0, 0⟩ = false := by simp [Sp.leanS] <;> rfl
    have HE2 := Lib.hid HE1.out
    rw [if_neg hl] at HE2
    clear HE1 hl
    have HE1 := HE2
    clear HE2
    clear k2 k3 k4 ka kb kc kt na nb nc
    have hR : R = 0 := by rw [HE1.out]; rfl
    subst hR
    clear HE1
    go_enter Tryd.func98, Tryd.ntmps98
    go_wp2
    go_ret
    exact ⟨rfl, hB⟩
  · -- tag 3
    by_cases g0 : s.size = 0
    rotate_left
    · have e1 : (s.toList == []) = false := by
        rw [Bool.eq_false_iff]
        intro r
        have := (bytes_beq_iff s ⟨#[]⟩).1 (by simpa using r)
        rw [this] at g0
        exact g0 rfl
      have e2 : (s.toList != []) = true := by rw [bne, e1]; rfl
      have hl : Sp.leanS ⟨3, s, n, a, b, c⟩ = false := by simp [Sp.leanS, g0]
      have hR : R = 7 := by rw [HE1.out]; rw [if_pos hl]
      subst hR
      clear HE1 k2 k3 k4 ka kb kc kt na nb nc
      go_enter Tryd.func98, Tryd.ntmps98
      go_wp2
      go_ret
      exact ⟨rfl, hB⟩
    obtain rfl := str_empty s g0
    clear g0
    by_cases g0 : n = 0
    rotate_left
    · have e2 : (n != 0) = true := by simp [g0]
      have hl : Sp.leanS ⟨3, ⟨#[]⟩, n, a, b, c⟩ = false := by simp [Sp.leanS, g0]
      have hR : R = 7 := by rw [HE1.out]; rw [if_pos hl]
      subst hR
      clear HE1 k2 k3 k4 ka kb kc kt na nb nc
      go_enter Tryd.func98, Tryd.ntmps98
      go_wp2
      go_ret
      exact ⟨rfl, hB⟩
    subst g0
    by_cases g0 : b = 0
    rotate_left
    · have e2 : (b != 0) = true := by simp [g0]
      have hl : Sp.leanS ⟨3, ⟨#[]⟩, 0, a, b, c⟩ = false := by simp [Sp.leanS, g0]
      have hR : R = 7 := by rw [HE1.out]; rw [if_pos hl]
      subst hR
      clear HE1 k2 k3 k4 ka kb kc kt na nb nc
      go_enter Tryd.func98, Tryd.ntmps98
      go_wp2
      go_ret
      exact ⟨rfl, hB⟩
    subst g0
    by_cases g0 : c = 0
    rotate_left
    · have e2 : (c != 0) = true := by simp [g0]
      have hl : Sp.leanS ⟨3, ⟨#[]⟩, 0, a, 0, c⟩ = false := by simp [Sp.leanS, g0]
      have hR : R = 7 := by rw [HE1.out]; rw [if_pos hl]
      subst hR
      clear HE1 k2 k3 k4 ka kb kc kt na nb nc
      go_enter Tryd.func98, Tryd.ntmps98
      go_wp2
      go_ret
      exact ⟨rfl, hB⟩
    subst g0
    have hl : ¬ Sp.leanS ⟨3, ⟨#[]⟩, 0, a, 0, 0⟩ = false := by simp [Sp.leanS] <;> rfl
    have HE2 := Lib.hid HE1.out
    rw [if_neg hl] at HE2
    clear HE1 hl
    have HE1 := HE2
    clear HE2
    clear k2 k3 k4 kb kc nb nc
    rw [if_neg (by decide), if_neg (by decide), if_pos (by decide)] at HE1
    go_enter Tryd.func98, Tryd.ntmps98
    go_wp2_with fail
    refine (ka.out _ (rdF_below hr0.out hB)).mono ?_
    rintro e w1 ⟨rfl, hb1⟩
    have K1 := Lib.hid (blk_below hK.out hb1)
    have L1 := Lib.hid (blk_below hL.out hb1)
    have B1 := below_then hB hS hb1
    have S1 := B1.size
    clear hK hL hB hS hb1 ka
    obtain ⟨c0, c1, c2, c3, c4, c5, c6⟩ := flC_box (q := ⟨qA, qc, qI, qd, qX, qe, qY, qg⟩) (F := ⟨pool, fl, th, su, ifs, flds, mths⟩) K1.out
    simp only [] at c0 c1 c2 c3 c4 c5 c6
    have d0 := (blk_cell L1.out 0 (.int .i64 3) rfl).1
    have d1 := (blk_cell L1.out 1 (.string ⟨#[]⟩) rfl).1
    have d3 := (blk_cell L1.out 3 (.int .i64 a) rfl).1
    have d4 := (blk_cell L1.out 4 (.int .i64 0) rfl).1
    have d5 := (blk_cell L1.out 5 (.int .i64 0) rfl).1
    cases T with
    | false =>
      have hR : R = 7 := by rw [HE1.out]; rw [if_pos rfl]
      subst hR
      clear HE1
      go_wp2
      go_ret
      exact ⟨rfl, B1⟩
    | true =>
      obtain ⟨k, hk, rfl, hkn⟩ := na.out rfl
      have hs1 := hz'.out k hk
      have t1 := Lib.hid (fun W hr => kt.out k hk W hr)
      rw [if_neg (by decide), hkn] at HE1
      clear hkn na kt hz'
      generalize pool[k].text = s1 at *
      have k5 := Lib.hid (fun W => refName_any s1 W hs1)
      rw [Sp.refName_eq] at k5
      simp only [Sp.descS] at HE1
      generalize Sp.nameS s1 = nm at *
      go_wp2_with fail
      refine (t1.out _ (rdF_below hr0.out B1)).mono ?_
      rintro e w2 ⟨rfl, hb2⟩
      have K2 := Lib.hid (blk_below K1.out hb2)
      have L2 := Lib.hid (blk_below L1.out hb2)
      have B2 := below_then B1 S1 hb2
      have S2 := B2.size
      clear K1 L1 B1 S1 hb2 t1 c0 c1 c2 c3 c4 c5 c6 d0 d1 d3 d4 d5
      obtain ⟨c0, c1, c2, c3, c4, c5, c6⟩ := flC_box (q := ⟨qA, qc, qI, qd, qX, qe, qY, qg⟩) (F := ⟨pool, fl, th, su, ifs, flds, mths⟩) K2.out
      simp only [] at c0 c1 c2 c3 c4 c5 c6
      have d0 := (blk_cell L2.out 0 (.int .i64 3) rfl).1
      have d1 := (blk_cell L2.out 1 (.string ⟨#[]⟩) rfl).1
      have d3 := (blk_cell L2.out 3 (.int .i64 ((k : Int) + 1)) rfl).1
      have d4 := (blk_cell L2.out 4 (.int .i64 0) rfl).1
      have d5 := (blk_cell L2.out 5 (.int .i64 0) rfl).1
      go_wp2_with fail
      refine (k5.out _).mono ?_
      rintro e w3 ⟨rfl, hb3⟩
      have K3 := Lib.hid (blk_below K2.out hb3)
      have L3 := Lib.hid (blk_below L2.out hb3)
      have B3 := below_then B2 S2 hb3
      have S3 := B3.size
      clear K2 L2 B2 S2 hb3 k5 c0 c1 c2 c3 c4 c5 c6 d0 d1 d3 d4 d5
      obtain ⟨c0, c1, c2, c3, c4, c5, c6⟩ := flC_box (q := ⟨qA, qc, qI, qd, qX, qe, qY, qg⟩) (F := ⟨pool, fl, th, su, ifs, flds, mths⟩) K3.out
      simp only [] at c0 c1 c2 c3 c4 c5 c6
      have d0 := (blk_cell L3.out 0 (.int .i64 3) rfl).1
      have d1 := (blk_cell L3.out 1 (.string ⟨#[]⟩) rfl).1
      have d3 := (blk_cell L3.out 3 (.int .i64 ((k : Int) + 1)) rfl).1
      have d4 := (blk_cell L3.out 4 (.int .i64 0) rfl).1
      have d5 := (blk_cell L3.out 5 (.int .i64 0) rfl).1
      have hR : R = 0 := by rw [HE1.out]; rfl
      subst hR
      clear HE1
      go_wp2
      go_ret
      exact ⟨rfl, B3⟩
  · -- tag 4
    by_cases g0 : s.size = 0
    rotate_left
    · have e1 : (s.toList == []) = false := by
        rw [Bool.eq_false_iff]
        intro r
        have := (bytes_beq_iff s ⟨#[]⟩).1 (by simpa using r)
        rw [this] at g0
        exact g0 rfl
      have e2 : (s.toList != []) = true := by rw [bne, e1]; rfl
      have hl : Sp.leanS ⟨4, s, n, a, b, c⟩ = false := by simp [Sp.leanS, g0]
      have hR : R = 7 := by rw [HE1.out]; rw [if_pos hl]
      subst hR
      clear HE1 k2 k3 k4 ka kb kc kt na nb nc
      go_enter Tryd.func98, Tryd.ntmps98
      go_wp2
      go_ret
      exact ⟨rfl, hB⟩
    obtain rfl := str_empty s g0
    clear g0
    by_cases g0 : n = 0
    rotate_left
    · have e2 : (n != 0) = true := by simp [g0]
      have hl : Sp.leanS ⟨4, ⟨#[]⟩, n, a, b, c⟩ = false := by simp [Sp.leanS, g0]
      have hR : R = 7 := by rw [HE1.out]; rw [if_pos hl]
      subst hR
      clear HE1 k2 k3 k4 ka kb kc kt na nb nc
      go_enter Tryd.func98, Tryd.ntmps98
      go_wp2
      go_ret
      exact ⟨rfl, hB⟩
    subst g0
    by_cases g0 : b = 0
    rotate_left
    · have e2 : (b != 0) = true := by simp [g0]
      have hl : Sp.leanS ⟨4, ⟨#[]⟩, 0, a, b, c⟩ = false := by simp [Sp.leanS, g0]
      have hR : R = 7 := by rw [HE1.out]; rw [if_pos hl]
      subst hR
      clear HE1 k2 k3 k4 ka kb kc kt na nb nc
      go_enter Tryd.func98, Tryd.ntmps98
      go_wp2
      go_ret
      exact ⟨rfl, hB⟩
    subst g0
    by_cases g0 : c = 0
    rotate_left
    · have e2 : (c != 0) = true := by simp [g0]
      have hl : Sp.leanS ⟨4, ⟨#[]⟩, 0, a, 0, c⟩ = false := by simp [Sp.leanS, g0]
      have hR : R = 7 := by rw [HE1.out]; rw [if_pos hl]
      subst hR
      clear HE1 k2 k3 k4 ka kb kc kt na nb nc
      go_enter Tryd.func98, Tryd.ntmps98
      go_wp2
      go_ret
      exact ⟨rfl, hB⟩
    subst g0
    have hl : ¬ Sp.leanS ⟨4, ⟨#[]⟩, 0, a, 0, 0⟩ = false := by simp [Sp.leanS] <;> rfl
    have HE2 := Lib.hid HE1.out
    rw [if_neg hl] at HE2
    clear HE1 hl
    have HE1 := HE2
    clear HE2
    clear k2 k3 k4 kb kc nb nc
    rw [if_neg (by decide), if_neg (by decide), if_pos (by decide)] at HE1
    go_enter Tryd.func98, Tryd.ntmps98
    go_wp2_with fail
    refine (ka.out _ (rdF_below hr0.out hB)).mono ?_
    rintro e w1 ⟨rfl, hb1⟩
    have K1 := Lib.hid (blk_below hK.out hb1)
    have L1 := Lib.hid (blk_below hL.out hb1)
    have B1 := below_then hB hS hb1
    have S1 := B1.size
    clear hK hL hB hS hb1 ka
    obtain ⟨c0, c1, c2, c3, c4, c5, c6⟩ := flC_box (q := ⟨qA, qc, qI, qd, qX, qe, qY, qg⟩) (F := ⟨pool, fl, th, su, ifs, flds, mths⟩) K1.out
    simp only [] at c0 c1 c2 c3 c4 c5 c6
    have d0 := (blk_cell L1.out 0 (.int .i64 4) rfl).1
    have d1 := (blk_cell L1.out 1 (.string ⟨#[]⟩) rfl).1
    have d3 := (blk_cell L1.out 3 (.int .i64 a) rfl).1
    have d4 := (blk_cell L1.out 4 (.int .i64 0) rfl).1
    have d5 := (blk_cell L1.out 5 (.int .i64 0) rfl).1
    cases T with
    | false =>
      have hR : R = 7 := by rw [HE1.out]; rw [if_pos rfl]
      subst hR
      clear HE1
      go_wp2
      go_ret
      exact ⟨rfl, B1⟩
    | true =>
      obtain ⟨k, hk, rfl, hkn⟩ := na.out rfl
      have hs1 := hz'.out k hk
      have t1 := Lib.hid (fun W hr => kt.out k hk W hr)
      rw [if_neg (by decide), hkn] at HE1
      clear hkn na kt hz'
      generalize pool[k].text = s1 at *
      have k5 := Lib.hid (fun W => refName_any s1 W hs1)
      rw [Sp.refName_eq] at k5
      simp only [Sp.descS] at HE1
      generalize Sp.nameS s1 = nm at *
      go_wp2_with fail
      refine (t1.out _ (rdF_below hr0.out B1)).mono ?_
      rintro e w2 ⟨rfl, hb2⟩
      have K2 := Lib.hid (blk_below K1.out hb2)
      have L2 := Lib.hid (blk_below L1.out hb2)
      have B2 := below_then B1 S1 hb2
      have S2 := B2.size
      clear K1 L1 B1 S1 hb2 t1 c0 c1 c2 c3 c4 c5 c6 d0 d1 d3 d4 d5
      obtain ⟨c0, c1, c2, c3, c4, c5, c6⟩ := flC_box (q := ⟨qA, qc, qI, qd, qX, qe, qY, qg⟩) (F := ⟨pool, fl, th, su, ifs, flds, mths⟩) K2.out
      simp only [] at c0 c1 c2 c3 c4 c5 c6
      have d0 := (blk_cell L2.out 0 (.int .i64 4) rfl).1
      have d1 := (blk_cell L2.out 1 (.string ⟨#[]⟩) rfl).1
      have d3 := (blk_cell L2.out 3 (.int .i64 ((k : Int) + 1)) rfl).1
      have d4 := (blk_cell L2.out 4 (.int .i64 0) rfl).1
      have d5 := (blk_cell L2.out 5 (.int .i64 0) rfl).1
      go_wp2_with fail
      refine (k5.out _).mono ?_
      rintro e w3 ⟨rfl, hb3⟩
      have K3 := Lib.hid (blk_below K2.out hb3)
      have L3 := Lib.hid (blk_below L2.out hb3)
      have B3 := below_then B2 S2 hb3
      have S3 := B3.size
      clear K2 L2 B2 S2 hb3 k5 c0 c1 c2 c3 c4 c5 c6 d0 d1 d3 d4 d5
      obtain ⟨c0, c1, c2, c3, c4, c5, c6⟩ := flC_box (q := ⟨qA, qc, qI, qd, qX, qe, qY, qg⟩) (F := ⟨pool, fl, th, su, ifs, flds, mths⟩) K3.out
      simp only [] at c0 c1 c2 c3 c4 c5 c6
      have d0 := (blk_cell L3.out 0 (.int .i64 4) rfl).1
      have d1 := (blk_cell L3.out 1 (.string ⟨#[]⟩) rfl).1
      have d3 := (blk_cell L3.out 3 (.int .i64 ((k : Int) + 1)) rfl).1
      have d4 := (blk_cell L3.out 4 (.int .i64 0) rfl).1
      have d5 := (blk_cell L3.out 5 (.int .i64 0) rfl).1
      cases nm with
      | false =>
        have hR : R = 8 := by rw [HE1.out]; rfl
        subst hR
        clear HE1
        go_wp2
        go_ret
        exact ⟨rfl, B3⟩
      | true =>
        have hR : R = 0 := by rw [HE1.out]; rfl
        subst hR
        clear HE1
        go_wp2
        go_ret
        exact ⟨rfl, B3⟩
  · -- tag 5
    by_cases g0 : s.size = 0
    rotate_left
    · have e1 : (s.toList == []) = false := by
        rw [Bool.eq_false_iff]
        intro r
        have := (bytes_beq_iff s ⟨#[]⟩).1 (by simpa using r)
        rw [this] at g0
        exact g0 rfl
      have e2 : (s.toList != []) = true := by rw [bne, e1]; rfl
      have hl : Sp.leanS ⟨5, s, n, a, b, c⟩ = false := by simp [Sp.leanS, g0]
      have hR : R = 7 := by rw [HE1.out]; rw [if_pos hl]
      subst hR
      clear HE1 k2 k3 k4 ka kb kc kt na nb nc
      go_enter Tryd.func98, Tryd.ntmps98
      go_wp2
      go_ret
      exact ⟨rfl, hB⟩
    obtain rfl := str_empty s g0
    clear g0
    by_cases g0 : n = 0
    rotate_left
    · have e2 : (n != 0) = true := by simp [g0]
      have hl : Sp.leanS ⟨5, ⟨#[]⟩, n, a, b, c⟩ = false := by simp [Sp.leanS, g0]
      have hR : R = 7 := by rw [HE1.out]; rw [if_pos hl]
      subst hR
      clear HE1 k2 k3 k4 ka kb kc kt na nb nc
      go_enter Tryd.func98, Tryd.ntmps98
      go_wp2
      go_ret
      exact ⟨rfl, hB⟩
    subst g0
    have hl : ¬ Sp.leanS ⟨5, ⟨#[]⟩, 0, a, b, c⟩ = false := by simp [Sp.leanS] <;> rfl
    have HE2 := Lib.hid HE1.out
    rw [if_neg hl] at HE2
    clear HE1 hl
    have HE1 := HE2
    clear HE2
    clear k2 k3 ka na
    rw [if_neg (by decide), if_pos (by decide)] at HE1
    go_enter Tryd.func98, Tryd.ntmps98
    go_wp2_with fail
    refine (k4.out _ (rdF_below hr0.out hB)).mono ?_
    rintro e w1 ⟨rfl, hb1⟩
    have K1 := Lib.hid (blk_below hK.out hb1)
    have L1 := Lib.hid (blk_below hL.out hb1)
    have B1 := below_then hB hS hb1
    have S1 := B1.size
    clear hK hL hB hS hb1 k4
    obtain ⟨c0, c1, c2, c3, c4, c5, c6⟩ := flC_box (q := ⟨qA, qc, qI, qd, qX, qe, qY, qg⟩) (F := ⟨pool, fl, th, su, ifs, flds, mths⟩) K1.out
    simp only [] at c0 c1 c2 c3 c4 c5 c6
    have d0 := (blk_cell L1.out 0 (.int .i64 5) rfl).1
    have d1 := (blk_cell L1.out 1 (.string ⟨#[]⟩) rfl).1
    have d3 := (blk_cell L1.out 3 (.int .i64 a) rfl).1
    have d4 := (blk_cell L1.out 4 (.int .i64 b) rfl).1
    have d5 := (blk_cell L1.out 5 (.int .i64 c) rfl).1
    go_wp2_with fail
    refine (kb.out _ (rdF_below hr0.out B1)).mono ?_
    rintro e w2 ⟨rfl, hb2⟩
    have K2 := Lib.hid (blk_below K1.out hb2)
    have L2 := Lib.hid (blk_below L1.out hb2)
    have B2 := below_then B1 S1 hb2
    have S2 := B2.size
    clear K1 L1 B1 S1 hb2 kb c0 c1 c2 c3 c4 c5 c6 d0 d1 d3 d4 d5
    obtain ⟨c0, c1, c2, c3, c4, c5, c6⟩ := flC_box (q := ⟨qA, qc, qI, qd, qX, qe, qY, qg⟩) (F := ⟨pool, fl, th, su, ifs, flds, mths⟩) K2.out
    simp only [] at c0 c1 c2 c3 c4 c5 c6
    have d0 := (blk_cell L2.out 0 (.int .i64 5) rfl).1
    have d1 := (blk_cell L2.out 1 (.string ⟨#[]⟩) rfl).1
    have d3 := (blk_cell L2.out 3 (.int .i64 a) rfl).1
    have d4 := (blk_cell L2.out 4 (.int .i64 b) rfl).1
    have d5 := (blk_cell L2.out 5 (.int .i64 c) rfl).1
    go_wp2_with fail
    refine (kc.out _ (rdF_below hr0.out B2)).mono ?_
    rintro e w3 ⟨rfl, hb3⟩
    have K3 := Lib.hid (blk_below K2.out hb3)
    have L3 := Lib.hid (blk_below L2.out hb3)
    have B3 := below_then B2 S2 hb3
    have S3 := B3.size
    clear K2 L2 B2 S2 hb3 kc c0 c1 c2 c3 c4 c5 c6 d0 d1 d3 d4 d5
    obtain ⟨c0, c1, c2, c3, c4, c5, c6⟩ := flC_box (q := ⟨qA, qc, qI, qd, qX, qe, qY, qg⟩) (F := ⟨pool, fl, th, su, ifs, flds, mths⟩) K3.out
    simp only [] at c0 c1 c2 c3 c4 c5 c6
    have d0 := (blk_cell L3.out 0 (.int .i64 5) rfl).1
    have d1 := (blk_cell L3.out 1 (.string ⟨#[]⟩) rfl).1
    have d3 := (blk_cell L3.out 3 (.int .i64 a) rfl).1
    have d4 := (blk_cell L3.out 4 (.int .i64 b) rfl).1
    have d5 := (blk_cell L3.out 5 (.int .i64 c) rfl).1
    cases T4 with
    | false =>
      have hR : R = 7 := by rw [HE1.out]; rw [if_pos rfl]
      subst hR
      clear HE1
      go_wp2
      go_ret
      exact ⟨rfl, B3⟩
    | true =>
      rw [if_neg (by decide)] at HE1
      cases U with
      | false =>
        have hR : R = 7 := by rw [HE1.out]; rw [if_pos (.inl rfl)]
        subst hR
        clear HE1
        go_wp2
        go_ret
        exact ⟨rfl, B3⟩
      | true =>
        cases V with
        | false =>
          have hR : R = 7 := by rw [HE1.out]; rw [if_pos (.inr rfl)]
          subst hR
          clear HE1
          go_wp2
          go_ret
          exact ⟨rfl, B3⟩
        | true =>
          obtain ⟨k, hk, rfl, hkn⟩ := nb.out rfl
          obtain ⟨j, hj, rfl, hjn⟩ := nc.out rfl
          rw [if_neg (by rintro (h | h) <;> cases h), hkn, hjn] at HE1
          have hs1 := hz'.out k hk
          have hs2 := hz'.out j hj
          have t1 := Lib.hid (fun W hr => kt.out k hk W hr)
          have t2 := Lib.hid (fun W hr => kt.out j hj W hr)
          clear hkn hjn nb nc kt hz'
          generalize pool[k].text = s1 at *
          generalize pool[j].text = s2 at *
          have k5 := Lib.hid (fun W => refName_any s1 W hs1)
          have k6 := Lib.hid (fun W => refDescribed_any s2 false W hs2)
          rw [Sp.refName_eq] at k5
          first | rw [show decide ((5 : Int) = 6) = false from rfl] at HE1 | rw [decide_true] at HE1
          simp only [] at HE1
          generalize Sp.nameS s1 = nm at *
          generalize Sp.descS s2 false = db at *
          go_wp2_with fail
          refine (t1.out _ (rdF_below hr0.out B3)).mono ?_
          rintro e w4 ⟨rfl, hb4⟩
          have K4 := Lib.hid (blk_below K3.out hb4)
          have L4 := Lib.hid (blk_below L3.out hb4)
          have B4 := below_then B3 S3 hb4
          have S4 := B4.size
          clear K3 L3 B3 S3 hb4 t1 c0 c1 c2 c3 c4 c5 c6 d0 d1 d3 d4 d5
          obtain ⟨c0, c1, c2, c3, c4, c5, c6⟩ := flC_box (q := ⟨qA, qc, qI, qd, qX, qe, qY, qg⟩) (F := ⟨pool, fl, th, su, ifs, flds, mths⟩) K4.out
          simp only [] at c0 c1 c2 c3 c4 c5 c6
          have d0 := (blk_cell L4.out 0 (.int .i64 5) rfl).1
          have d1 := (blk_cell L4.out 1 (.string ⟨#[]⟩) rfl).1
          have d3 := (blk_cell L4.out 3 (.int .i64 a) rfl).1
          have d4 := (blk_cell L4.out 4 (.int .i64 ((k : Int) + 1)) rfl).1
          have d5 := (blk_cell L4.out 5 (.int .i64 ((j : Int) + 1)) rfl).1
          go_wp2_with fail
          refine (k5.out _).mono ?_
          rintro e w5 ⟨rfl, hb5⟩
          have K5 := Lib.hid (blk_below K4.out hb5)
          have L5 := Lib.hid (blk_below L4.out hb5)
          have B5 := below_then B4 S4 hb5
          have S5 := B5.size
          clear K4 L4 B4 S4 hb5 k5 c0 c1 c2 c3 c4 c5 c6 d0 d1 d3 d4 d5
          obtain ⟨c0, c1, c2, c3, c4, c5, c6⟩ := flC_box (q := ⟨qA, qc, qI, qd, qX, qe, qY, qg⟩) (F := ⟨pool, fl, th, su, ifs, flds, mths⟩) K5.out
          simp only [] at c0 c1 c2 c3 c4 c5 c6
          have d0 := (blk_cell L5.out 0 (.int .i64 5) rfl).1
          have d1 := (blk_cell L5.out 1 (.string ⟨#[]⟩) rfl).1
          have d3 := (blk_cell L5.out 3 (.int .i64 a) rfl).1
          have d4 := (blk_cell L5.out 4 (.int .i64 ((k : Int) + 1)) rfl).1
          have d5 := (blk_cell L5.out 5 (.int .i64 ((j : Int) + 1)) rfl).1
          cases nm with
          | false =>
            have hR : R = 8 := by rw [HE1.out]; rfl
            subst hR
            clear HE1
            go_wp2
            go_ret
            exact ⟨rfl, B5⟩
          | true =>
            have hmk := Lib.hid (show ∀ w', Below w5.heap.size w5 w' → (w'.cell? ⟨w.heap.size, 0, none⟩ = some (.slice qA pool.length qc) ∧ w'.cell? ⟨w.heap.size, 1, none⟩ = some (.int .i64 fl) ∧ w'.cell? ⟨w.heap.size, 2, none⟩ = some (.int .i64 th) ∧ w'.cell? ⟨w.heap.size, 3, none⟩ = some (.int .i64 su) ∧ w'.cell? ⟨w.heap.size, 4, none⟩ = some (.slice qI ifs.length qd) ∧ w'.cell? ⟨w.heap.size, 5, none⟩ = some (.slice qX flds.length qe) ∧ w'.cell? ⟨w.heap.size, 6, none⟩ = some (.slice qY mths.length qg) ∧ w'.cell? ⟨w.heap.size + 1, 0, none⟩ = some (.int .i64 5) ∧ w'.cell? ⟨w.heap.size + 1, 5, none⟩ = some (.int .i64 ((j : Int) + 1))) from fun w' h => ⟨cell_below h c0, cell_below h c1, cell_below h c2, cell_below h c3, cell_below h c4, cell_below h c5, cell_below h c6, cell_below h d0, cell_below h d5⟩)
            have hBd := Lib.hid (Below.refl w5.heap.size w5).drew
            have kA := Lib.hid (fun W (h : Below w5.heap.size w5 W) => (t2.out W (rdF_below hr0.out (below_then B5 S5 h))).mono (fun e W' q => And.intro q.1 (below_then h h.size q.2)))
            have kD := Lib.hid (fun W (h : Below w5.heap.size w5 W) => (k6.out W).mono (fun e W' q => And.intro q.1 (below_then h h.size q.2)))
            (try simp only [] at kA kD)
            have hR : R = db := by rw [HE1.out]; rfl
            subst hR
            clear HE1 t2 k6
            go_wp2_with fail
            go_region_held3 (fun w' => w'.cell? ⟨w.heap.size, 0, none⟩ = some (.slice qA pool.length qc) ∧ w'.cell? ⟨w.heap.size, 1, none⟩ = some (.int .i64 fl) ∧ w'.cell? ⟨w.heap.size, 2, none⟩ = some (.int .i64 th) ∧ w'.cell? ⟨w.heap.size, 3, none⟩ = some (.int .i64 su) ∧ w'.cell? ⟨w.heap.size, 4, none⟩ = some (.slice qI ifs.length qd) ∧ w'.cell? ⟨w.heap.size, 5, none⟩ = some (.slice qX flds.length qe) ∧ w'.cell? ⟨w.heap.size, 6, none⟩ = some (.slice qY mths.length qg) ∧ w'.cell? ⟨w.heap.size + 1, 0, none⟩ = some (.int .i64 5) ∧ w'.cell? ⟨w.heap.size + 1, 5, none⟩ = some (.int .i64 ((j : Int) + 1))) (first | exact hmk.out _ hBd.out | exact hmk.out _ (by with_reducible assumption)) (first | (go_at_call 65; with_reducible refine (kA.out _ hBd.out).mono ?_; rintro e wz ⟨rfl, hz⟩) | (go_at_call 124; with_reducible refine (kD.out _ (by with_reducible assumption)).mono ?_; rintro e wy ⟨rfl, hy⟩))
            go_wp2
            go_ret
            exact ⟨rfl, below_then B5 S5 hy⟩
  · -- tag 6
    by_cases g0 : s.size = 0
    rotate_left
    · have e1 : (s.toList == []) = false := by
        rw [Bool.eq_false_iff]
        intro r
        have := (bytes_beq_iff s ⟨#[]⟩).1 (by simpa using r)
        rw [this] at g0
        exact g0 rfl
      have e2 : (s.toList != []) = true := by rw [bne, e1]; rfl
      have hl : Sp.leanS ⟨6, s, n, a, b, c⟩ = false := by simp [Sp.leanS, g0]
      have hR : R = 7 := by rw [HE1.out]; rw [if_pos hl]
      subst hR
      clear HE1 k2 k3 k4 ka kb kc kt na nb nc
      go_enter Tryd.func98, Tryd.ntmps98
      go_wp2
      go_ret
      exact ⟨rfl, hB⟩
    obtain rfl := str_empty s g0
    clear g0
    by_cases g0 : n = 0
    rotate_left
    · have e2 : (n != 0) = true := by simp [g0]
      have hl : Sp.leanS ⟨6, ⟨#[]⟩, n, a, b, c⟩ = false := by simp [Sp.leanS, g0]
      have hR : R = 7 := by rw [HE1.out]; rw [if_pos hl]
      subst hR
      clear HE1 k2 k3 k4 ka kb kc kt na nb nc
      go_enter Tryd.func98, Tryd.ntmps98
      go_wp2
      go_ret
      exact ⟨rfl, hB⟩
    subst g0
    have hl : ¬ Sp.leanS ⟨6, ⟨#[]⟩, 0, a, b, c⟩ = false := by simp [Sp.leanS] <;> rfl
    have HE2 := Lib.hid HE1.out
    rw [if_neg hl] at HE2
    clear HE1 hl
    have HE1 := HE2
    clear HE2
    clear k2 k3 ka na
    rw [if_neg (by decide), if_pos (by decide)] at HE1
    go_enter Tryd.func98, Tryd.ntmps98
    go_wp2_with fail
    refine (k4.out _ (rdF_below hr0.out hB)).mono ?_
    rintro e w1 ⟨rfl, hb1⟩
    have K1 := Lib.hid (blk_below hK.out hb1)
    have L1 := Lib.hid (blk_below hL.out hb1)
    have B1 := below_then hB hS hb1
    have S1 := B1.size
    clear hK hL hB hS hb1 k4
    obtain ⟨c0, c1, c2, c3, c4, c5, c6⟩ := flC_box (q := ⟨qA, qc, qI, qd, qX, qe, qY, qg⟩) (F := ⟨pool, fl, th, su, ifs, flds, mths⟩) K1.out
    simp only [] at c0 c1 c2 c3 c4 c5 c6
    have d0 := (blk_cell L1.out 0 (.int .i64 6) rfl).1
    have d1 := (blk_cell L1.out 1 (.string ⟨#[]⟩) rfl).1
    have d3 := (blk_cell L1.out 3 (.int .i64 a) rfl).1
    have d4 := (blk_cell L1.out 4 (.int .i64 b) rfl).1
    have d5 := (blk_cell L1.out 5 (.int .i64 c) rfl).1
    go_wp2_with fail
    refine (kb.out _ (rdF_below hr0.out B1)).mono ?_
    rintro e w2 ⟨rfl, hb2⟩
    have K2 := Lib.hid (blk_below K1.out hb2)
    have L2 := Lib.hid (blk_below L1.out hb2)
    have B2 := below_then B1 S1 hb2
    have S2 := B2.size
    clear K1 L1 B1 S1 hb2 kb c0 c1 c2 c3 c4 c5 c6 d0 d1 d3 d4 d5
    obtain ⟨c0, c1, c2, c3, c4, c5, c6⟩ := flC_box (q := ⟨qA, qc, qI, qd, qX, qe, qY, qg⟩) (F := ⟨pool, fl, th, su, ifs, flds, mths⟩) K2.out
    simp only [] at c0 c1 c2 c3 c4 c5 c6
    have d0 := (blk_cell L2.out 0 (.int .i64 6) rfl).1
    have d1 := (blk_cell L2.out 1 (.string ⟨#[]⟩) rfl).1
    have d3 := (blk_cell L2.out 3 (.int .i64 a) rfl).1
    have d4 := (blk_cell L2.out 4 (.int .i64 b) rfl).1
    have d5 := (blk_cell L2.out 5 (.int .i64 c) rfl).1
    go_wp2_with fail
    refine (kc.out _ (rdF_below hr0.out B2)).mono ?_
    rintro e w3 ⟨rfl, hb3⟩
    have K3 := Lib.hid (blk_below K2.out hb3)
    have L3 := Lib.hid (blk_below L2.out hb3)
    have B3 := below_then B2 S2 hb3
    have S3 := B3.size
    clear K2 L2 B2 S2 hb3 kc c0 c1 c2 c3 c4 c5 c6 d0 d1 d3 d4 d5
    obtain ⟨c0, c1, c2, c3, c4, c5, c6⟩ := flC_box (q := ⟨qA, qc, qI, qd, qX, qe, qY, qg⟩) (F := ⟨pool, fl, th, su, ifs, flds, mths⟩) K3.out
    simp only [] at c0 c1 c2 c3 c4 c5 c6
    have d0 := (blk_cell L3.out 0 (.int .i64 6) rfl).1
    have d1 := (blk_cell L3.out 1 (.string ⟨#[]⟩) rfl).1
    have d3 := (blk_cell L3.out 3 (.int .i64 a) rfl).1
    have d4 := (blk_cell L3.out 4 (.int .i64 b) rfl).1
    have d5 := (blk_cell L3.out 5 (.int .i64 c) rfl).1
    cases T4 with
    | false =>
      have hR : R = 7 := by rw [HE1.out]; rw [if_pos rfl]
      subst hR
      clear HE1
      go_wp2
      go_ret
      exact ⟨rfl, B3⟩
    | true =>
      rw [if_neg (by decide)] at HE1
      cases U with
      | false =>
        have hR : R = 7 := by rw [HE1.out]; rw [if_pos (.inl rfl)]
        subst hR
        clear HE1
        go_wp2
        go_ret
        exact ⟨rfl, B3⟩
      | true =>
        cases V with
        | false =>
          have hR : R = 7 := by rw [HE1.out]; rw [if_pos (.inr rfl)]
          subst hR
          clear HE1
          go_wp2
          go_ret
          exact ⟨rfl, B3⟩
        | true =>
          obtain ⟨k, hk, rfl, hkn⟩ := nb.out rfl
          obtain ⟨j, hj, rfl, hjn⟩ := nc.out rfl
          rw [if_neg (by rintro (h | h) <;> cases h), hkn, hjn] at HE1
          have hs1 := hz'.out k hk
          have hs2 := hz'.out j hj
          have t1 := Lib.hid (fun W hr => kt.out k hk W hr)
          have t2 := Lib.hid (fun W hr => kt.out j hj W hr)
          clear hkn hjn nb nc kt hz'
          generalize pool[k].text = s1 at *
          generalize pool[j].text = s2 at *
          have k5 := Lib.hid (fun W => refName_any s1 W hs1)
          have k6 := Lib.hid (fun W => refDescribed_any s2 true W hs2)
          rw [Sp.refName_eq] at k5
          first | rw [show decide ((6 : Int) = 6) = true from rfl] at HE1 | rw [decide_true] at HE1
          simp only [] at HE1
          generalize Sp.nameS s1 = nm at *
          generalize Sp.descS s2 true = db at *
          go_wp2_with fail
          refine (t1.out _ (rdF_below hr0.out B3)).mono ?_
          rintro e w4 ⟨rfl, hb4⟩
          have K4 := Lib.hid (blk_below K3.out hb4)
          have L4 := Lib.hid (blk_below L3.out hb4)
          have B4 := below_then B3 S3 hb4
          have S4 := B4.size
          clear K3 L3 B3 S3 hb4 t1 c0 c1 c2 c3 c4 c5 c6 d0 d1 d3 d4 d5
          obtain ⟨c0, c1, c2, c3, c4, c5, c6⟩ := flC_box (q := ⟨qA, qc, qI, qd, qX, qe, qY, qg⟩) (F := ⟨pool, fl, th, su, ifs, flds, mths⟩) K4.out
          simp only [] at c0 c1 c2 c3 c4 c5 c6
          have d0 := (blk_cell L4.out 0 (.int .i64 6) rfl).1
          have d1 := (blk_cell L4.out 1 (.string ⟨#[]⟩) rfl).1
          have d3 := (blk_cell L4.out 3 (.int .i64 a) rfl).1
          have d4 := (blk_cell L4.out 4 (.int .i64 ((k : Int) + 1)) rfl).1
          have d5 := (blk_cell L4.out 5 (.int .i64 ((j : Int) + 1)) rfl).1
          go_wp2_with fail
          refine (k5.out _).mono ?_
          rintro e w5 ⟨rfl, hb5⟩
          have K5 := Lib.hid (blk_below K4.out hb5)
          have L5 := Lib.hid (blk_below L4.out hb5)
          have B5 := below_then B4 S4 hb5
          have S5 := B5.size
          clear K4 L4 B4 S4 hb5 k5 c0 c1 c2 c3 c4 c5 c6 d0 d1 d3 d4 d5
          obtain ⟨c0, c1, c2, c3, c4, c5, c6⟩ := flC_box (q := ⟨qA, qc, qI, qd, qX, qe, qY, qg⟩) (F := ⟨pool, fl, th, su, ifs, flds, mths⟩) K5.out
          simp only [] at c0 c1 c2 c3 c4 c5 c6
          have d0 := (blk_cell L5.out 0 (.int .i64 6) rfl).1
          have d1 := (blk_cell L5.out 1 (.string ⟨#[]⟩) rfl).1
          have d3 := (blk_cell L5.out 3 (.int .i64 a) rfl).1
          have d4 := (blk_cell L5.out 4 (.int .i64 ((k : Int) + 1)) rfl).1
          have d5 := (blk_cell L5.out 5 (.int .i64 ((j : Int) + 1)) rfl).1
          cases nm with
          | false =>
            have hR : R = 8 := by rw [HE1.out]; rfl
            subst hR
            clear HE1
            go_wp2
            go_ret
            exact ⟨rfl, B5⟩
          | true =>
            have hmk := Lib.hid (show ∀ w', Below w5.heap.size w5 w' → (w'.cell? ⟨w.heap.size, 0, none⟩ = some (.slice qA pool.length qc) ∧ w'.cell? ⟨w.heap.size, 1, none⟩ = some (.int .i64 fl) ∧ w'.cell? ⟨w.heap.size, 2, none⟩ = some (.int .i64 th) ∧ w'.cell? ⟨w.heap.size, 3, none⟩ = some (.int .i64 su) ∧ w'.cell? ⟨w.heap.size, 4, none⟩ = some (.slice qI ifs.length qd) ∧ w'.cell? ⟨w.heap.size, 5, none⟩ = some (.slice qX flds.length qe) ∧ w'.cell? ⟨w.heap.size, 6, none⟩ = some (.slice qY mths.length qg) ∧ w'.cell? ⟨w.heap.size + 1, 0, none⟩ = some (.int .i64 6) ∧ w'.cell? ⟨w.heap.size + 1, 5, none⟩ = some (.int .i64 ((j : Int) + 1))) from fun w' h => ⟨cell_below h c0, cell_below h c1, cell_below h c2, cell_below h c3, cell_below h c4, cell_below h c5, cell_below h c6, cell_below h d0, cell_below h d5⟩)
            have hBd := Lib.hid (Below.refl w5.heap.size w5).drew
            have kA := Lib.hid (fun W (h : Below w5.heap.size w5 W) => (t2.out W (rdF_below hr0.out (below_then B5 S5 h))).mono (fun e W' q => And.intro q.1 (below_then h h.size q.2)))
            have kD := Lib.hid (fun W (h : Below w5.heap.size w5 W) => (k6.out W).mono (fun e W' q => And.intro q.1 (below_then h h.size q.2)))
            (try simp only [] at kA kD)
            have hR : R = db := by rw [HE1.out]; rfl
            subst hR
            clear HE1 t2 k6
            go_wp2_with fail
            go_region_held3 (fun w' => w'.cell? ⟨w.heap.size, 0, none⟩ = some (.slice qA pool.length qc) ∧ w'.cell? ⟨w.heap.size, 1, none⟩ = some (.int .i64 fl) ∧ w'.cell? ⟨w.heap.size, 2, none⟩ = some (.int .i64 th) ∧ w'.cell? ⟨w.heap.size, 3, none⟩ = some (.int .i64 su) ∧ w'.cell? ⟨w.heap.size, 4, none⟩ = some (.slice qI ifs.length qd) ∧ w'.cell? ⟨w.heap.size, 5, none⟩ = some (.slice qX flds.length qe) ∧ w'.cell? ⟨w.heap.size, 6, none⟩ = some (.slice qY mths.length qg) ∧ w'.cell? ⟨w.heap.size + 1, 0, none⟩ = some (.int .i64 6) ∧ w'.cell? ⟨w.heap.size + 1, 5, none⟩ = some (.int .i64 ((j : Int) + 1))) (first | exact hmk.out _ hBd.out | exact hmk.out _ (by with_reducible assumption)) (first | (go_at_call 65; with_reducible refine (kA.out _ hBd.out).mono ?_; rintro e wz ⟨rfl, hz⟩) | (go_at_call 124; with_reducible refine (kD.out _ (by with_reducible assumption)).mono ?_; rintro e wy ⟨rfl, hy⟩))
            go_wp2
            go_ret
            exact ⟨rfl, below_then B5 S5 hy⟩
  · -- tag 7
    by_cases g0 : s.size = 0
    rotate_left
    · have e1 : (s.toList == []) = false := by
        rw [Bool.eq_false_iff]
        intro r
        have := (bytes_beq_iff s ⟨#[]⟩).1 (by simpa using r)
        rw [this] at g0
        exact g0 rfl
      have e2 : (s.toList != []) = true := by rw [bne, e1]; rfl
      have hl : Sp.leanS ⟨7, s, n, a, b, c⟩ = false := by simp [Sp.leanS, g0]
      have hR : R = 7 := by rw [HE1.out]; rw [if_pos hl]
      subst hR
      clear HE1 k2 k3 k4 ka kb kc kt na nb nc
      go_enter Tryd.func98, Tryd.ntmps98
      go_wp2
      go_ret
      exact ⟨rfl, hB⟩
    obtain rfl := str_empty s g0
    clear g0
    by_cases g0 : n = 0
    rotate_left
    · have e2 : (n != 0) = true := by simp [g0]
      have hl : Sp.leanS ⟨7, ⟨#[]⟩, n, a, b, c⟩ = false := by simp [Sp.leanS, g0]
      have hR : R = 7 := by rw [HE1.out]; rw [if_pos hl]
      subst hR
      clear HE1 k2 k3 k4 ka kb kc kt na nb nc
      go_enter Tryd.func98, Tryd.ntmps98
      go_wp2
      go_ret
      exact ⟨rfl, hB⟩
    subst g0
    by_cases g0 : b = 0
    rotate_left
    · have e2 : (b != 0) = true := by simp [g0]
      have hl : Sp.leanS ⟨7, ⟨#[]⟩, 0, a, b, c⟩ = false := by simp [Sp.leanS, g0]
      have hR : R = 7 := by rw [HE1.out]; rw [if_pos hl]
      subst hR
      clear HE1 k2 k3 k4 ka kb kc kt na nb nc
      go_enter Tryd.func98, Tryd.ntmps98
      go_wp2
      go_ret
      exact ⟨rfl, hB⟩
    subst g0
    by_cases g0 : c = 0
    rotate_left
    · have e2 : (c != 0) = true := by simp [g0]
      have hl : Sp.leanS ⟨7, ⟨#[]⟩, 0, a, 0, c⟩ = false := by simp [Sp.leanS, g0]
      have hR : R = 7 := by rw [HE1.out]; rw [if_pos hl]
      subst hR
      clear HE1 k2 k3 k4 ka kb kc kt na nb nc
      go_enter Tryd.func98, Tryd.ntmps98
      go_wp2
      go_ret
      exact ⟨rfl, hB⟩
    subst g0
    have hl : ¬ Sp.leanS ⟨7, ⟨#[]⟩, 0, a, 0, 0⟩ = false := by simp [Sp.leanS] <;> rfl
    have HE2 := Lib.hid HE1.out
    rw [if_neg hl] at HE2
    clear HE1 hl
    have HE1 := HE2
    clear HE2
    clear k2 k3 k4 kb kc nb nc
    rw [if_neg (by decide), if_neg (by decide), if_pos (by decide)] at HE1
    go_enter Tryd.func98, Tryd.ntmps98
    go_wp2_with fail
    refine (ka.out _ (rdF_below hr0.out hB)).mono ?_
    rintro e w1 ⟨rfl, hb1⟩
    have K1 := Lib.hid (blk_below hK.out hb1)
    have L1 := Lib.hid (blk_below hL.out hb1)
    have B1 := below_then hB hS hb1
    have S1 := B1.size
    clear hK hL hB hS hb1 ka
    obtain ⟨c0, c1, c2, c3, c4, c5, c6⟩ := flC_box (q := ⟨qA, qc, qI, qd, qX, qe, qY, qg⟩) (F := ⟨pool, fl, th, su, ifs, flds, mths⟩) K1.out
    simp only [] at c0 c1 c2 c3 c4 c5 c6
    have d0 := (blk_cell L1.out 0 (.int .i64 7) rfl).1
    have d1 := (blk_cell L1.out 1 (.string ⟨#[]⟩) rfl).1
    have d3 := (blk_cell L1.out 3 (.int .i64 a) rfl).1
    have d4 := (blk_cell L1.out 4 (.int .i64 0) rfl).1
    have d5 := (blk_cell L1.out 5 (.int .i64 0) rfl).1
    cases T with
    | false =>
      have hR : R = 7 := by rw [HE1.out]; rw [if_pos rfl]
      subst hR
      clear HE1
      go_wp2
      go_ret
      exact ⟨rfl, B1⟩
    | true =>
      obtain ⟨k, hk, rfl, hkn⟩ := na.out rfl
      have hs1 := hz'.out k hk
      have t1 := Lib.hid (fun W hr => kt.out k hk W hr)
      rw [if_neg (by decide), hkn] at HE1
      clear hkn na kt hz'
      generalize pool[k].text = s1 at *
      have k5 := Lib.hid (fun W => refName_any s1 W hs1)
      rw [Sp.refName_eq] at k5
      have k6 := Lib.hid (fun W => refField_any s1 W hs1)
      simp only [Sp.descS] at HE1
      generalize Sp.nameS s1 = nm at *
      generalize Sp.fieldS s1 = fd at *
      obtain ⟨⟨fa, fb⟩, fe⟩ := fd
      unfold Sp.tyV at k6
      simp only [] at k6 HE1
      go_wp2_with fail
      refine (t1.out _ (rdF_below hr0.out B1)).mono ?_
      rintro e w2 ⟨rfl, hb2⟩
      have K2 := Lib.hid (blk_below K1.out hb2)
      have L2 := Lib.hid (blk_below L1.out hb2)
      have B2 := below_then B1 S1 hb2
      have S2 := B2.size
      clear K1 L1 B1 S1 hb2 t1 c0 c1 c2 c3 c4 c5 c6 d0 d1 d3 d4 d5
      obtain ⟨c0, c1, c2, c3, c4, c5, c6⟩ := flC_box (q := ⟨qA, qc, qI, qd, qX, qe, qY, qg⟩) (F := ⟨pool, fl, th, su, ifs, flds, mths⟩) K2.out
      simp only [] at c0 c1 c2 c3 c4 c5 c6
      have d0 := (blk_cell L2.out 0 (.int .i64 7) rfl).1
      have d1 := (blk_cell L2.out 1 (.string ⟨#[]⟩) rfl).1
      have d3 := (blk_cell L2.out 3 (.int .i64 ((k : Int) + 1)) rfl).1
      have d4 := (blk_cell L2.out 4 (.int .i64 0) rfl).1
      have d5 := (blk_cell L2.out 5 (.int .i64 0) rfl).1
      go_wp2_with fail
      refine (k5.out _).mono ?_
      rintro e w3 ⟨rfl, hb3⟩
      have K3 := Lib.hid (blk_below K2.out hb3)
      have L3 := Lib.hid (blk_below L2.out hb3)
      have B3 := below_then B2 S2 hb3
      have S3 := B3.size
      clear K2 L2 B2 S2 hb3 k5 c0 c1 c2 c3 c4 c5 c6 d0 d1 d3 d4 d5
      obtain ⟨c0, c1, c2, c3, c4, c5, c6⟩ := flC_box (q := ⟨qA, qc, qI, qd, qX, qe, qY, qg⟩) (F := ⟨pool, fl, th, su, ifs, flds, mths⟩) K3.out
      simp only [] at c0 c1 c2 c3 c4 c5 c6
      have d0 := (blk_cell L3.out 0 (.int .i64 7) rfl).1
      have d1 := (blk_cell L3.out 1 (.string ⟨#[]⟩) rfl).1
      have d3 := (blk_cell L3.out 3 (.int .i64 ((k : Int) + 1)) rfl).1
      have d4 := (blk_cell L3.out 4 (.int .i64 0) rfl).1
      have d5 := (blk_cell L3.out 5 (.int .i64 0) rfl).1
      go_wp2_with fail
      refine (k6.out _).mono ?_
      rintro e w4 ⟨rfl, hb4⟩
      have K4 := Lib.hid (blk_below K3.out hb4)
      have L4 := Lib.hid (blk_below L3.out hb4)
      have B4 := below_then B3 S3 hb4
      have S4 := B4.size
      clear K3 L3 B3 S3 hb4 k6 c0 c1 c2 c3 c4 c5 c6 d0 d1 d3 d4 d5
      have hR : R = fe := by rw [HE1.out]; rfl
      subst hR
      clear HE1
      go_wp2
      go_ret
      exact ⟨rfl, by (repeat (first | with_reducible assumption | with_reducible exact Below.refl _ _ | (with_reducible refine Below.setCell ?_ (by first | exact Nat.le_refl _ | omega | (simp; done) | (simp; omega)) _) | (with_reducible refine Below.alloc ?_ (by first | exact Nat.le_refl _ | omega | (simp; done) | (simp; omega)) _) | (with_reducible refine Below.drew ?_)))⟩
end Go.Proofs.YthpfknlgfkecpaaDoor
end
