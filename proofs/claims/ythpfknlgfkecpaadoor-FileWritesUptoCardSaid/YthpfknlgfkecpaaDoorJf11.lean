/-
  Texts of the proof, joined: each says at its head what it proves.
-/
import Derived.Test.YthpfknlgfkecpaaDoorJFileNamesx3
import Derived.Test.YthpfknlgfkecpaaDoorJFileNamesx2
section
/-
  Walk of the reference's coded. (Printed by gen_coded.py.)
-/
set_option linter.unusedVariables false
set_option linter.unusedSimpArgs false
namespace Go.Proofs.YthpfknlgfkecpaaDoor
open Go.RowKit Go.Lib

set_option maxHeartbeats 8000000 in
set_option maxRecDepth 100000 in
theorem refCoded_any (q : Sp.At) (F : FlP) (m : Sp.Mp) (w : World) (hr : RdF w q F) (hh : RdL Sp.hnC w m.2.1 m.1.hs) (hc : ∀ h ∈ m.1.hs, In64 h.cls) (hcz : m.1.code.size ≤ 1099511627776) :
    Calls Tryd.prog 127 #[.agg (flC q F), Sp.mbV m] w fun e w' => e = .returned (.int .i64 (Sp.codedS F.pool m.1)) ∧ Below w.heap.size w w' := by
  obtain ⟨pool, fl, th, su, ifs, flds, mths⟩ := F
  obtain ⟨qA, qc, qI, qd, qX, qe, qY, qg⟩ := q
  obtain ⟨⟨mf, mn, md, ms, ml, mc, mh⟩, mA, mcap⟩ := m
  simp only [] at hh hc hcz ⊢
  have hr0 := Lib.hid hr
  clear hr
  have hhl := hh.1
  have HH := Lib.hid hh.2
  clear hh
  have HE := Lib.hid (show Sp.codedS pool ⟨mf, mn, md, ms, ml, mc, mh⟩ = _ by rw [Sp.codedS])
  have kt := Lib.hid (fun i (hi : In64 i) W hr => refTagged_any ⟨qA, qc, qI, qd, qX, qe, qY, qg⟩ ⟨pool, fl, th, su, ifs, flds, mths⟩ i 4 W hr hi)
  have hcc := Lib.hid hc
  clear hc
  generalize Sp.codedS pool ⟨mf, mn, md, ms, ml, mc, mh⟩ = R at HE ⊢
  have HE1 := Lib.hid HE.out
  clear HE
  simp only [] at HE1 kt
  have hB := ((Below.refl w.heap.size w).alloc (Nat.le_refl _) (.cells (flC ⟨qA, qc, qI, qd, qX, qe, qY, qg⟩ ⟨pool, fl, th, su, ifs, flds, mths⟩) 53)).alloc (by simp) (.cells #[.int .i64 mf, .int .i64 mn, .int .i64 md, .int .i64 ms, .int .i64 ml, .string mc, .slice mA mh.length mcap] 65)
  have hK := Lib.hid (blk_old (o := .cells #[.int .i64 mf, .int .i64 mn, .int .i64 md, .int .i64 ms, .int .i64 ml, .string mc, .slice mA mh.length mcap] 65) (blk_new w (.cells (flC ⟨qA, qc, qI, qd, qX, qe, qY, qg⟩ ⟨pool, fl, th, su, ifs, flds, mths⟩) 53)))
  have hL := Lib.hid (blk_new (w.alloc (.cells (flC ⟨qA, qc, qI, qd, qX, qe, qY, qg⟩ ⟨pool, fl, th, su, ifs, flds, mths⟩) 53)) (.cells #[.int .i64 mf, .int .i64 mn, .int .i64 md, .int .i64 ms, .int .i64 ml, .string mc, .slice mA mh.length mcap] 65))
  rw [show (w.alloc (.cells (flC ⟨qA, qc, qI, qd, qX, qe, qY, qg⟩ ⟨pool, fl, th, su, ifs, flds, mths⟩) 53)).heap.size = w.heap.size + 1 by simp] at hL
  unfold flC at kt
  unfold Sp.mbV
  have hfl : flC ⟨qA, qc, qI, qd, qX, qe, qY, qg⟩ ⟨pool, fl, th, su, ifs, flds, mths⟩ = #[.slice qA pool.length qc, .int .i64 fl, .int .i64 th, .int .i64 su, .slice qI ifs.length qd, .slice qX flds.length qe, .slice qY mths.length qg] := rfl
  rw [hfl] at hB ⊢
  clear hfl
  simp only [] at kt ⊢
  by_cases g0 : ms < 0
  · clear HH kt hcc
    have hR : R = 26 := by rw [HE1.out, if_pos (by omega)]
    subst hR
    clear HE1
    go_enter Tryd.func127, Tryd.ntmps127
    go_wp2
    go_ret
    exact ⟨rfl, hB⟩
  by_cases g1 : 64 < ms
  · clear HH kt hcc
    have hR : R = 26 := by rw [HE1.out, if_pos (by omega)]
    subst hR
    clear HE1
    go_enter Tryd.func127, Tryd.ntmps127
    go_wp2
    go_ret
    exact ⟨rfl, hB⟩
  by_cases g2 : ml < 0
  · clear HH kt hcc
    have hR : R = 26 := by rw [HE1.out, if_pos (by omega)]
    subst hR
    clear HE1
    go_enter Tryd.func127, Tryd.ntmps127
    go_wp2
    go_ret
    exact ⟨rfl, hB⟩
  by_cases g3 : 64 < ml
  · clear HH kt hcc
    have hR : R = 26 := by rw [HE1.out, if_pos (by omega)]
    subst hR
    clear HE1
    go_enter Tryd.func127, Tryd.ntmps127
    go_wp2
    go_ret
    exact ⟨rfl, hB⟩
  have HE2 := Lib.hid HE1.out
  rw [if_neg (by omega)] at HE2
  clear HE1
  have HE1 := HE2
  clear HE2
  by_cases g4 : mc.size = 0
  · obtain rfl := str_empty mc g4
    clear HH kt hcc
    have hR : R = 5 := by rw [HE1.out, if_pos g4]
    subst hR
    clear HE1
    go_enter Tryd.func127, Tryd.ntmps127
    go_wp2
    go_ret
    exact ⟨rfl, hB⟩
  have hne : (mc.toList == []) = false := by
    rw [Bool.eq_false_iff]
    intro r
    have := (bytes_beq_iff mc ⟨#[]⟩).1 (by simpa using r)
    rw [this] at g4
    exact g4 rfl
  by_cases g5 : 4096 < mc.size
  · have hz : (4096 : Int) < (mc.size : Int) := by omega
    clear HH kt hcc
    have hR : R = 2 := by rw [HE1.out, if_neg g4, if_pos g5]
    subst hR
    clear HE1
    go_enter Tryd.func127, Tryd.ntmps127
    go_wp2
    go_ret
    exact ⟨rfl, hB⟩
  have hz5 : ¬ (4096 : Int) < (mc.size : Int) := by omega
  by_cases g6 : 32 < mh.length
  · have hz : (32 : Int) < (mh.length : Int) := by omega
    clear HH kt hcc
    have hR : R = 3 := by rw [HE1.out, if_neg g4, if_neg g5, if_pos g6]
    subst hR
    clear HE1
    go_enter Tryd.func127, Tryd.ntmps127
    go_wp2
    go_ret
    exact ⟨rfl, hB⟩
  have hz6 : ¬ (32 : Int) < (mh.length : Int) := by omega
  have HF := Lib.hid (show Sp.handS pool mc.size mh = R by rw [HE1.out, if_neg g4, if_neg g5, if_neg g6])
  clear HE1 g4 g5 g6
  go_enter Tryd.func127, Tryd.ntmps127
  go_wp2
  go_loopw [5] (fun v5 wr => ∃ k : Nat, v5 = .int .i64 k ∧ k ≤ mh.length ∧ Below w.heap.size w wr ∧ Hid (wr.heap[w.heap.size]? = some (.cells (flC ⟨qA, qc, qI, qd, qX, qe, qY, qg⟩ ⟨pool, fl, th, su, ifs, flds, mths⟩) 53 (0, 0))) ∧ Hid (wr.heap[w.heap.size + 1]? = some (.cells #[.int .i64 mf, .int .i64 mn, .int .i64 md, .int .i64 ms, .int .i64 ml, .string mc, .slice mA mh.length mcap] 65 (0, 0))) ∧ Hid (Sp.handS pool mc.size (mh.drop k) = R)) (fun v5 _ => mh.length - (RowKit.intOf v5).toNat)
  case atStart => exact ⟨0, by go_num, Nat.zero_le _, hB, hK, hL, HF⟩
  case round =>
    clear hB hK hL HF
    obtain ⟨k, rfl, hk, hb, hK, hL, hf⟩ := hrel
    have hbz := hb.size
    have hlb := blk_lt hK.out
    have hll := blk_lt hL.out
    obtain ⟨c0, c1, c2, c3, c4, c5, c6⟩ := flC_box hK.out
    have e5 := (blk_cell hL.out 5 (.string mc) rfl).1
    have e6 := (blk_cell hL.out 6 (.slice mA mh.length mcap) rfl).1
    by_cases hlt : k < mh.length
    · obtain ⟨b, o, rfl, hrg⟩ := HH.out (by omega)
      obtain ⟨d0, d1, d2, d3⟩ := hn_cells hrg hlt
      have D0 := cell_below hb d0
      have D1 := cell_below hb d1
      have D2 := cell_below hb d2
      have D3 := cell_below hb d3
      have hzk : (k : Int) < (mh.length : Int) := by omega
      have hin := hcc.out _ (List.getElem_mem hlt)
      have hd : mh.drop k = mh[k] :: mh.drop (k + 1) := List.drop_eq_getElem_cons hlt
      have hf2 := hf.out
      rw [hd, Sp.handS] at hf2
      clear hf hd hrg d0 d1 d2 d3
      generalize mh[k] = h at *
      obtain ⟨hfr, hto, hat, hcl⟩ := h
      simp only [] at D0 D1 D2 D3 hin hf2
      have hf3 := Lib.hid hf2
      clear hf2
      by_cases p0 : hfr < 0
      · have hR : R = 1 := by rw [← hf3.out, if_pos (by omega)]
        subst hR
        clear hf3
        go_wp2
        go_ret
        exact ⟨rfl, hb.alloc hbz _⟩
      by_cases p1 : hto ≤ hfr
      · have hR : R = 1 := by rw [← hf3.out, if_pos (by omega)]
        subst hR
        clear hf3
        go_wp2
        go_ret
        exact ⟨rfl, hb.alloc hbz _⟩
      by_cases p2 : (mc.size : Int) < hto
      · have hR : R = 1 := by rw [← hf3.out, if_pos (by omega)]
        subst hR
        clear hf3
        go_wp2
        go_ret
        exact ⟨rfl, hb.alloc hbz _⟩
      by_cases p3 : hat < 0
      · have hR : R = 1 := by rw [← hf3.out, if_pos (by omega)]
        subst hR
        clear hf3
        go_wp2
        go_ret
        exact ⟨rfl, hb.alloc hbz _⟩
      by_cases p4 : (mc.size : Int) ≤ hat
      · have hR : R = 1 := by rw [← hf3.out, if_pos (by omega)]
        subst hR
        clear hf3
        go_wp2
        go_ret
        exact ⟨rfl, hb.alloc hbz _⟩
      have hf4 := Lib.hid hf3.out
      rw [if_neg (by omega)] at hf4
      clear hf3
      have ka := Lib.hid (fun W hr => kt.out hcl hin W hr)
      generalize Sp.taggedS pool hcl 4 = ty at *
      have hbt := hb.alloc hbz (.cells #[.int .i64 hfr, .int .i64 hto, .int .i64 hat, .int .i64 hcl] 97)
      have hKt := Lib.hid (blk_old (o := .cells #[.int .i64 hfr, .int .i64 hto, .int .i64 hat, .int .i64 hcl] 97) hK.out)
      have hLt := Lib.hid (blk_old (o := .cells #[.int .i64 hfr, .int .i64 hto, .int .i64 hat, .int .i64 hcl] 97) hL.out)
      have hTt := Lib.hid (blk_new wr (.cells #[.int .i64 hfr, .int .i64 hto, .int .i64 hat, .int .i64 hcl] 97))
      have hbtz := hbt.size
      have hrw := Lib.hid (rdF_below hr0.out (show Below w.heap.size w _ from hbt))
      go_wp2_with fail
      refine (ka.out _ hrw.out).mono ?_
      rintro e w4 ⟨rfl, hb4⟩
      have K4 := Lib.hid (blk_below hKt.out hb4)
      have L4 := Lib.hid (blk_below hLt.out hb4)
      have T4 := Lib.hid (blk_below hTt.out hb4)
      have B4 := below_then hbt hbtz hb4
      clear hK hL hb hb4 ka hrw hbt hKt hLt hTt hbtz c0 c1 c2 c3 c4 c5 c6 D0 D1 D2 D3 e5 e6 hlb hll p0 p1 p2 p3 p4
      have t3 := (blk_cell T4.out 3 (.int .i64 hcl) rfl).1
      by_cases hc0 : hcl = 0
      · have hf5 := Lib.hid (show Sp.handS pool mc.size (mh.drop (k + 1)) = R by rw [← hf4.out, if_neg (by rintro ⟨h, _⟩; exact h hc0)])
        subst hc0
        clear hf4
        go_wp2
        go_roundw
        case rel => exact ⟨k + 1, by go_num, by omega, B4, K4, L4, hf5⟩
        case measure => simp [RowKit.intOf]; omega
      · have hcb : (hcl != 0) = true := by simp [hc0]
        cases ty with
        | false =>
          have hR : R = 7 := by rw [← hf4.out, if_pos ⟨hc0, rfl⟩]
          subst hR
          clear hf4
          go_wp2
          go_ret
          exact ⟨rfl, B4⟩
        | true =>
          have hf5 := Lib.hid (show Sp.handS pool mc.size (mh.drop (k + 1)) = R by rw [← hf4.out, if_neg (by rintro ⟨_, h⟩; cases h)])
          clear hf4
          go_wp2
          go_roundw
          case rel => exact ⟨k + 1, by go_num, by omega, B4, K4, L4, hf5⟩
          case measure => simp [RowKit.intOf]; omega
    · obtain rfl : k = mh.length := by omega
      have hzk : ¬ (mh.length : Int) < (mh.length : Int) := by omega
      have hR : R = 0 := by rw [← hf.out, List.drop_length]; rfl
      subst hR
      clear hf
      go_wp2
      go_ret
      exact ⟨rfl, hb⟩
end Go.Proofs.YthpfknlgfkecpaaDoor
end
