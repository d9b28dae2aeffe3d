/-
  Texts of the proof, joined.
-/
import Derived.Test.YtjjlcoimaihdoaaGreatDoorJh4
import Derived.Test.YtjjlcoimaihdoaaGreatDoorJh5
import Derived.Deep.QuietTactic
import Derived.BigQuiet
import Derived.Test.YtjjlcoimaihdoaaGreatDoorJh10
import Derived.Test.YtjjlcoimaihdoaaGreatDoorJh8
import Derived.Test.YtjjlcoimaihdoaaGreatDoorJh15
import Derived.Test.YtjjlcoimaihdoaaGreatDoorJh7
import Derived.Deep.RegionHeld3
import Derived.Deep.RegionWith
import Derived.Test.YtjjlcoimaihdoaaGreatDoorJh1
import Derived.StillTailTactics
import Derived.Test.YtjjlcoimaihdoaaGreatDoorCards
import Derived.Test.YtjjlcoimaihdoaaGreatDoorTie
import Derived.Lib.LaidIn
import Derived.Lib.LaidU8T
import Derived.PinnedBridge
import Derived.Deep.DeepHandedRow
import Derived.Deep.DeepWitnessRowRef
import Derived.ProofKit
import Derived.OpenShut
import Derived.ShutString
import Derived.ChangeOld
import Derived.DataShut
set_option linter.unusedVariables false
set_option linter.unusedSimpArgs false
namespace Go.Proofs.YtjjlcoimaihdoaaGreatDoor
open Go.RowKit Go.Lib
theorem cells7s {W : World} {x : Nat} {c0 c1 c2 c3 c4 c5 c6 : Value} {T : TypeId} (h : W.heap[x]? = some (.cells #[c0, c1, c2, c3, c4, c5, c6] T (0, 0))) : W.cell? ⟨x, 0, none⟩ = some c0 ∧ W.cell? ⟨x, 1, none⟩ = some c1 ∧ W.cell? ⟨x, 2, none⟩ = some c2 ∧ W.cell? ⟨x, 3, none⟩ = some c3 ∧ W.cell? ⟨x, 4, none⟩ = some c4 ∧ W.cell? ⟨x, 5, none⟩ = some c5 ∧ W.cell? ⟨x, 6, none⟩ = some c6 :=
 ⟨(blk_cell h 0 _ rfl).1, (blk_cell h 1 _ rfl).1, (blk_cell h 2 _ rfl).1, (blk_cell h 3 _ rfl).1, (blk_cell h 4 _ rfl).1, (blk_cell h 5 _ rfl).1, (blk_cell h 6 _ rfl).1⟩
noncomputable def Sp.sameL (L M : List Sp.Mb) : Bool := @decide (L = M) (Classical.propDecidable _)
theorem Sp.same_true {L M : List Sp.Mb} (h : L = M) : Sp.sameL L M = true := @decide_eq_true _ (Classical.propDecidable _) h
theorem Sp.same_false {L M : List Sp.Mb} (h : ¬ L = M) : Sp.sameL L M = false := @decide_eq_false _ (Classical.propDecidable _) h
theorem map_fst_get (L : List Sp.Mp) (k : Nat) (h : k < L.length) : (L.map (·.1))[k]? = some L[k].1 := by rw [List.getElem?_map, List.getElem?_eq_getElem h]; rfl
theorem list_same {α : Type} {l m : List α} (hl : l.length = m.length) (h : ∀ j, j < l.length → l[j]? = m[j]?) : l = m := by
 apply List.ext_getElem? fun j => ?_
 by_cases hj : j < l.length
 ·exact h j hj
 ·rw [List.getElem?_eq_none (by omega), List.getElem?_eq_none (by omega)]
set_option maxHeartbeats 16000000 in
set_option maxRecDepth 100000 in
theorem sameMembers_any (A B : Option Addr) (c d : Nat) (L M : List Sp.Mp) (w : World) (hA : RdM w A L) (hB : RdM w B M) :
  Calls Tryz.prog 176 #[.slice A L.length c, .slice B M.length d] w fun e w' => e = .returned (.bool (Sp.sameL (L.map (·.1)) (M.map (·.1)))) ∧ Below w.heap.size w w' := by
 by_cases hlen : L.length = M.length
 ·have hbf : ((L.length : Int) != (M.length : Int)) = false := by simp [hlen]
  have HA := Lib.hid hA
  have HB := Lib.hid hB
  have hl1 := hA.1.1
  have hlen1 := Lib.hid hlen
  clear hA hB
  rw [← hlen] at hbf ⊢
  clear hlen
  go_enter Tryz.func176, Tryz.ntmps176
  go_wp2
  go_loopw [5] (fun v5 wr => ∃ k : Nat, v5 = .int .i64 k ∧ k ≤ L.length ∧ Hid (∀ j, j < k → (L.map (·.1))[j]? = (M.map (·.1))[j]?) ∧ Hid (Below w.heap.size w wr)) (fun v5 _ => L.length - (RowKit.intOf v5).toNat)
  case atStart => exact ⟨0, by go_num, Nat.zero_le _, Lib.hid (fun j hj => by omega), Lib.hid (Below.refl _ _)⟩
  case round =>
   obtain ⟨k, rfl, hk, hq, hb⟩ := hrel
   by_cases hlt : k < L.length
   ·have hzk : (k : Int) < (L.length : Int) := by omega
    have hz0 : (0 : Int) ≤ (k : Int) := by omega
    have hlt2 : k < M.length := by have := hlen1.out; omega
    obtain ⟨b, o, rfl, hrg⟩ := HA.out.1.2 (by omega)
    obtain ⟨b', o', rfl, hrg'⟩ := HB.out.1.2 (by omega)
    obtain ⟨d0, d1, d2, d3, d4, d5, d6⟩ := mb_cells hrg hlt
    obtain ⟨e0, e1, e2, e3, e4, e5, e6⟩ := mb_cells hrg' hlt2
    have D0 := cell_below hb.out d0
    have D1 := cell_below hb.out d1
    have D2 := cell_below hb.out d2
    have D3 := cell_below hb.out d3
    have D4 := cell_below hb.out d4
    have D5 := cell_below hb.out d5
    have D6 := cell_below hb.out d6
    have E0 := cell_below hb.out e0
    have E1 := cell_below hb.out e1
    have E2 := cell_below hb.out e2
    have E3 := cell_below hb.out e3
    have E4 := cell_below hb.out e4
    have E5 := cell_below hb.out e5
    have E6 := cell_below hb.out e6
    have hX := Lib.hid (HA.out.2 _ (List.getElem_mem hlt))
    have hY := Lib.hid (HB.out.2 _ (List.getElem_mem hlt2))
    have hnot : Hid (¬ L[k].1 = M[k].1 → ¬ L.map (·.1) = M.map (·.1)) := Lib.hid (fun q r => q (by have := congrArg (fun z => z[k]?) r; simp only [map_fst_get L k hlt, map_fst_get M k hlt2] at this; injection this))
    have hstep : Hid (L[k].1 = M[k].1 → ∀ j, j < k + 1 → (L.map (·.1))[j]? = (M.map (·.1))[j]?) := Lib.hid (fun q j hj => by
     by_cases hjk : j = k
     ·subst hjk; rw [map_fst_get L _ hlt, map_fst_get M _ hlt2, q]
     ·exact hq.out j (by omega))
    clear d0 d1 d2 d3 d4 d5 d6 e0 e1 e2 e3 e4 e5 e6 hrg hrg' hq
    generalize L[k] = m at *
    generalize M[k] = m' at *
    obtain ⟨⟨xf, xn, xd, xs, xl, xc, xh⟩, xA, xe⟩ := m
    obtain ⟨⟨yf, yn, yd, ys, yl, yc, yh⟩, yA, ye⟩ := m'
    simp only [] at D0 D1 D2 D3 D4 D5 D6 E0 E1 E2 E3 E4 E5 E6 hX hY hnot hstep
    have hX1 := Lib.hid (blk_old (o := .cells #[.int .i64 yf, .int .i64 yn, .int .i64 yd, .int .i64 ys, .int .i64 yl, .string yc, .slice yA yh.length ye] 131) (blk_new wr (.cells #[.int .i64 xf, .int .i64 xn, .int .i64 xd, .int .i64 xs, .int .i64 xl, .string xc, .slice xA xh.length xe] 131)))
    have hY1 := Lib.hid (blk_new (wr.alloc (.cells #[.int .i64 xf, .int .i64 xn, .int .i64 xd, .int .i64 xs, .int .i64 xl, .string xc, .slice xA xh.length xe] 131)) (.cells #[.int .i64 yf, .int .i64 yn, .int .i64 yd, .int .i64 ys, .int .i64 yl, .string yc, .slice yA yh.length ye] 131))
    rw [show (wr.alloc (.cells #[.int .i64 xf, .int .i64 xn, .int .i64 xd, .int .i64 xs, .int .i64 xl, .string xc, .slice xA xh.length xe] 131)).heap.size = wr.heap.size + 1 by simp] at hY1
    have hb1 := Lib.hid ((hb.out.alloc hb.out.size (.cells #[.int .i64 xf, .int .i64 xn, .int .i64 xd, .int .i64 xs, .int .i64 xl, .string xc, .slice xA xh.length xe] 131)).alloc (by simp; have := hb.out.size; omega) (.cells #[.int .i64 yf, .int .i64 yn, .int .i64 yd, .int .i64 ys, .int .i64 yl, .string yc, .slice yA yh.length ye] 131))
    have E0 := cell_alloc wr (.cells #[.int .i64 xf, .int .i64 xn, .int .i64 xd, .int .i64 xs, .int .i64 xl, .string xc, .slice xA xh.length xe] 131) E0
    have E1 := cell_alloc wr (.cells #[.int .i64 xf, .int .i64 xn, .int .i64 xd, .int .i64 xs, .int .i64 xl, .string xc, .slice xA xh.length xe] 131) E1
    have E2 := cell_alloc wr (.cells #[.int .i64 xf, .int .i64 xn, .int .i64 xd, .int .i64 xs, .int .i64 xl, .string xc, .slice xA xh.length xe] 131) E2
    have E3 := cell_alloc wr (.cells #[.int .i64 xf, .int .i64 xn, .int .i64 xd, .int .i64 xs, .int .i64 xl, .string xc, .slice xA xh.length xe] 131) E3
    have E4 := cell_alloc wr (.cells #[.int .i64 xf, .int .i64 xn, .int .i64 xd, .int .i64 xs, .int .i64 xl, .string xc, .slice xA xh.length xe] 131) E4
    have E5 := cell_alloc wr (.cells #[.int .i64 xf, .int .i64 xn, .int .i64 xd, .int .i64 xs, .int .i64 xl, .string xc, .slice xA xh.length xe] 131) E5
    have E6 := cell_alloc wr (.cells #[.int .i64 xf, .int .i64 xn, .int .i64 xd, .int .i64 xs, .int .i64 xl, .string xc, .slice xA xh.length xe] 131) E6
    go_upto_region 8 with fail
    clear D0 D1 D2 D3 D4 D5 D6 E0 E1 E2 E3 E4 E5 E6 hb
    generalize (wr.alloc (.cells #[.int .i64 xf, .int .i64 xn, .int .i64 xd, .int .i64 xs, .int .i64 xl, .string xc, .slice xA xh.length xe] 131)).alloc (.cells #[.int .i64 yf, .int .i64 yn, .int .i64 yd, .int .i64 ys, .int .i64 yl, .string yc, .slice yA yh.length ye] 131) = W2 at *
    generalize wr.heap.size = xb at *
    obtain ⟨c0, c1, c2, c3, c4, c5, c6⟩ := cells7s hX1.out
    obtain ⟨p0, p1, p2, p3, p4, p5, p6⟩ := cells7s hY1.out
    have hlx := blk_lt hX1.out
    have hly := blk_lt hY1.out
    by_cases q0 : xf = yf
    rotate_left
    ·have t0 : (xf != yf) = true := by simpa using q0
     have hnn := Lib.hid (hnot.out (fun e => q0 (congrArg Sp.Mb.flags e)))
     go_wp2
     go_ret
     exact ⟨by rw [Sp.same_false hnn.out]; rfl, hb1.out⟩
    subst q0
    have t0 : (xf != xf) = false := by simp
    by_cases q1 : xn = yn
    rotate_left
    ·have t1 : (xn != yn) = true := by simpa using q1
     have hnn := Lib.hid (hnot.out (fun e => q1 (congrArg Sp.Mb.name e)))
     go_wp2
     go_ret
     exact ⟨by rw [Sp.same_false hnn.out]; rfl, hb1.out⟩
    subst q1
    have t1 : (xn != xn) = false := by simp
    by_cases q2 : xd = yd
    rotate_left
    ·have t2 : (xd != yd) = true := by simpa using q2
     have hnn := Lib.hid (hnot.out (fun e => q2 (congrArg Sp.Mb.desc e)))
     go_wp2
     go_ret
     exact ⟨by rw [Sp.same_false hnn.out]; rfl, hb1.out⟩
    subst q2
    have t2 : (xd != xd) = false := by simp
    by_cases q3 : xs = ys
    rotate_left
    ·have t3 : (xs != ys) = true := by simpa using q3
     have hnn := Lib.hid (hnot.out (fun e => q3 (congrArg Sp.Mb.stack e)))
     go_wp2
     go_ret
     exact ⟨by rw [Sp.same_false hnn.out]; rfl, hb1.out⟩
    subst q3
    have t3 : (xs != xs) = false := by simp
    by_cases q4 : xl = yl
    rotate_left
    ·have t4 : (xl != yl) = true := by simpa using q4
     have hnn := Lib.hid (hnot.out (fun e => q4 (congrArg Sp.Mb.locals e)))
     go_wp2
     go_ret
     exact ⟨by rw [Sp.same_false hnn.out]; rfl, hb1.out⟩
    subst q4
    have t4 : (xl != xl) = false := by simp
    by_cases q5 : xc = yc
    rotate_left
    ·have t5 : (xc.toList == yc.toList) = false := by rw [bytes_eqb]; exact decide_eq_false q5
     have hnn := Lib.hid (hnot.out (fun e => q5 (congrArg Sp.Mb.code e)))
     go_wp2
     go_ret
     exact ⟨by rw [Sp.same_false hnn.out]; rfl, hb1.out⟩
    subst q5
    have t5 : (xc.toList == xc.toList) = true := by simp
    by_cases q6 : xh.length = yh.length
    rotate_left
    ·have t6 : ((xh.length : Int) != (yh.length : Int)) = true := by simp; omega
     have hnn := Lib.hid (hnot.out (fun e => q6 (congrArg (fun z => z.hs.length) e)))
     go_wp2
     go_ret
     exact ⟨by rw [Sp.same_false hnn.out]; rfl, hb1.out⟩
    have t6 : ((xh.length : Int) != (yh.length : Int)) = false := by simp [q6]
    have hq6 := Lib.hid q6
    clear q6
    go_wp2
    clear c0 c1 c2 c3 c4 c5 c6 p0 p1 p2 p3 p4 p5 p6 hlx hly t0 t1 t2 t3 t4 t5 t6
    go_loopw [8] (fun v8 wi => ∃ k2 : Nat, v8 = .int .i64 k2 ∧ k2 ≤ xh.length ∧ Hid (∀ j, j < k2 → xh[j]? = yh[j]?) ∧ Hid (Below w.heap.size w wi) ∧ Hid (wi.heap[xb]? = some (.cells #[.int .i64 xf, .int .i64 xn, .int .i64 xd, .int .i64 xs, .int .i64 xl, .string xc, .slice xA xh.length xe] 131 (0, 0))) ∧ Hid (wi.heap[xb + 1]? = some (.cells #[.int .i64 xf, .int .i64 xn, .int .i64 xd, .int .i64 xs, .int .i64 xl, .string xc, .slice yA yh.length ye] 131 (0, 0)))) (fun v8 _ => xh.length - (RowKit.intOf v8).toNat)
    case atStart => exact ⟨0, by go_num, Nat.zero_le _, Lib.hid (fun j hj => by omega), hb1, hX1, hY1⟩
    case round =>
     clear hb1 hX1 hY1
     obtain ⟨k2, rfl, hk2, hq2, hb2, hX2, hY2⟩ := hrel
     obtain ⟨c0, c1, c2, c3, c4, c5, c6⟩ := cells7s hX2.out
     obtain ⟨p0, p1, p2, p3, p4, p5, p6⟩ := cells7s hY2.out
     have hlx := blk_lt hX2.out
     have hly := blk_lt hY2.out
     have hxl := hX.out.1
     by_cases hlt3 : k2 < xh.length
     ·have hzk2 : (k2 : Int) < (xh.length : Int) := by omega
      have hzk3 : (k2 : Int) < (yh.length : Int) := by have := hq6.out; omega
      have hz2 : (0 : Int) ≤ (k2 : Int) := by omega
      have hlt4 : k2 < yh.length := by have := hq6.out; omega
      obtain ⟨g, go, rfl, hrh⟩ := hX.out.2 (by omega)
      obtain ⟨g', go', rfl, hrh'⟩ := hY.out.2 (by omega)
      obtain ⟨d0, d1, d2, d3⟩ := hn_cells hrh hlt3
      obtain ⟨e0, e1, e2, e3⟩ := hn_cells hrh' hlt4
      have D0 := cell_below hb2.out d0
      have D1 := cell_below hb2.out d1
      have D2 := cell_below hb2.out d2
      have D3 := cell_below hb2.out d3
      have E0 := cell_below hb2.out e0
      have E1 := cell_below hb2.out e1
      have E2 := cell_below hb2.out e2
      have E3 := cell_below hb2.out e3
      have hn2 : Hid (¬ xh[k2] = yh[k2] → ¬ L.map (·.1) = M.map (·.1)) := Lib.hid (fun q => hnot.out (fun e => q (by
       have h1 : xh = yh := congrArg Sp.Mb.hs e
       subst h1
       rfl)))
      have hs2 : Hid (xh[k2] = yh[k2] → ∀ j, j < k2 + 1 → xh[j]? = yh[j]?) := Lib.hid (fun q j hj => by
       by_cases hjk : j = k2
       ·subst hjk; rw [List.getElem?_eq_getElem hlt3, List.getElem?_eq_getElem hlt4, q]
       ·exact hq2.out j (by omega))
      clear d0 d1 d2 d3 e0 e1 e2 e3 hrh hrh'
      have hbd := Lib.hid hb2
      generalize xh[k2] = h1 at *
      generalize yh[k2] = h2 at *
      obtain ⟨a1, a2, a3, a4⟩ := h1
      obtain ⟨b1, b2, b3, b4⟩ := h2
      simp only [] at D0 D1 D2 D3 E0 E1 E2 E3
      by_cases u1 : a1 = b1
      rotate_left
      ·have hnn := Lib.hid (hn2.out (fun e => u1 (congrArg Sp.Hn.fr e)))
       have uu : (a1 == b1) = false := by simp [u1]
       go_wp2
       go_quiet (fail)
       have hB9 : Hid (Below w.heap.size w (wr.drewN nq)) := Lib.hid ⟨hb2.out.os, hb2.out.tape, hb2.out.output, hb2.out.size, hb2.out.block⟩
       go_wp2
       go_ret
       exact ⟨by rw [Sp.same_false hnn.out]; rfl, hB9.out⟩
      subst u1
      by_cases u2 : a2 = b2
      rotate_left
      ·have hnn := Lib.hid (hn2.out (fun e => u2 (congrArg Sp.Hn.til e)))
       have uu : (a2 == b2) = false := by simp [u2]
       go_wp2
       go_quiet (fail)
       have hB9 : Hid (Below w.heap.size w (wr.drewN nq)) := Lib.hid ⟨hb2.out.os, hb2.out.tape, hb2.out.output, hb2.out.size, hb2.out.block⟩
       go_wp2
       go_ret
       exact ⟨by rw [Sp.same_false hnn.out]; rfl, hB9.out⟩
      subst u2
      by_cases u3 : a3 = b3
      rotate_left
      ·have hnn := Lib.hid (hn2.out (fun e => u3 (congrArg Sp.Hn.at_ e)))
       have uu : (a3 == b3) = false := by simp [u3]
       go_wp2
       go_quiet (fail)
       have hB9 : Hid (Below w.heap.size w (wr.drewN nq)) := Lib.hid ⟨hb2.out.os, hb2.out.tape, hb2.out.output, hb2.out.size, hb2.out.block⟩
       go_wp2
       go_ret
       exact ⟨by rw [Sp.same_false hnn.out]; rfl, hB9.out⟩
      subst u3
      by_cases u4 : a4 = b4
      rotate_left
      ·have hnn := Lib.hid (hn2.out (fun e => u4 (congrArg Sp.Hn.cls e)))
       have uu : (a4 == b4) = false := by simp [u4]
       go_wp2
       go_quiet (fail)
       have hB9 : Hid (Below w.heap.size w (wr.drewN nq)) := Lib.hid ⟨hb2.out.os, hb2.out.tape, hb2.out.output, hb2.out.size, hb2.out.block⟩
       go_wp2
       go_ret
       exact ⟨by rw [Sp.same_false hnn.out]; rfl, hB9.out⟩
      subst u4
      have hs3 := Lib.hid (hs2.out rfl)
      clear hn2
      go_wp2
      go_quiet (fail)
      have hB9 : Hid (Below w.heap.size w (wr.drewN nq)) := Lib.hid ⟨hb2.out.os, hb2.out.tape, hb2.out.output, hb2.out.size, hb2.out.block⟩
      have hX9 : Hid ((wr.drewN nq).heap[xb]? = _) := Lib.hid hX2.out
      have hY9 : Hid ((wr.drewN nq).heap[xb + 1]? = _) := Lib.hid hY2.out
      go_wp2
      go_roundw
      case rel => exact ⟨k2 + 1, by go_num, by omega, hs3, hB9, hX9, hY9⟩
      case measure => simp [RowKit.intOf]; omega
     ·obtain rfl : k2 = xh.length := by omega
      have hzk2 : ¬ (xh.length : Int) < (xh.length : Int) := by omega
      have hfin := Lib.hid (hstep.out (by rw [list_same hq6.out (fun j hj => hq2.out j hj)]))
      go_wp2
      go_roundw
      case rel => exact ⟨k + 1, by go_num, by omega, hfin, hb2⟩
      case measure => simp [RowKit.intOf]; omega
   ·obtain rfl : k = L.length := by omega
    have hzk : ¬ (L.length : Int) < (L.length : Int) := by omega
    go_wp2
    go_ret
    exact ⟨by rw [Sp.same_true (list_same (by simpa using hlen1.out) (fun j hj => hq.out j (by simpa using hj)))]; rfl, hb.out⟩
 ·have hbf : ((L.length : Int) != (M.length : Int)) = true := by simp; omega
  go_enter Tryz.func176, Tryz.ntmps176
  go_wp2
  go_ret
  exact ⟨by rw [Sp.same_false (fun q => absurd (by simpa using congrArg List.length q) hlen)]; rfl, Below.refl _ _⟩
noncomputable def Sp.sameF (F G : Sp.Fl) : Bool := @decide (F = G) (Classical.propDecidable _)
theorem Sp.sameF_true {F G : Sp.Fl} (h : F = G) : Sp.sameF F G = true := @decide_eq_true _ (Classical.propDecidable _) h
theorem Sp.sameF_false {F G : Sp.Fl} (h : ¬ F = G) : Sp.sameF F G = false := @decide_eq_false _ (Classical.propDecidable _) h
theorem Sp.sameF_members (p : List Sp.Cn) (f t s : Int) (i : List Int) (x x' y y' : List Sp.Mb) : Sp.sameF ⟨p, f, t, s, i, x, y⟩ ⟨p, f, t, s, i, x', y'⟩ = (Sp.sameL x x' && Sp.sameL y y') := by
 by_cases hx : x = x'
 ·by_cases hy : y = y'
  ·rw [Sp.same_true hx, Sp.same_true hy, Sp.sameF_true (by rw [hx, hy])]
   rfl
  ·rw [Sp.same_false hy, Sp.sameF_false (fun e => hy (congrArg Sp.Fl.methods e)), Bool.and_false]
 ·rw [Sp.same_false hx, Sp.sameF_false (fun e => hx (congrArg Sp.Fl.fields e)), Bool.false_and]
set_option maxHeartbeats 16000000 in
set_option maxRecDepth 100000 in
theorem sameFile_any (q q' : Sp.At) (F G : FlP) (w : World) (hr : RdF w q F) (hs : RdF w q' G) :
  Calls Tryz.prog 93 #[.agg (flC q F), .agg (flC q' G)] w fun e w' => e = .returned (.bool (Sp.sameF F.fl G.fl)) ∧ Below w.heap.size w w' := by
 have kf := Lib.hid (fun W (hb : Below w.heap.size w W) => sameMembers_any q.X q'.X q.e q'.e F.fields G.fields W (rdM_below hr.fields hb) (rdM_below hs.fields hb))
 have km := Lib.hid (fun W (hb : Below w.heap.size w W) => sameMembers_any q.Y q'.Y q.g q'.g F.methods G.methods W (rdM_below hr.methods hb) (rdM_below hs.methods hb))
 have HP := Lib.hid hr.pool
 have HP' := Lib.hid hs.pool
 have HI := Lib.hid hr.ifaces
 have HI' := Lib.hid hs.ifaces
 have hX1 := Lib.hid (blk_old (o := .cells (flC q' G) 26) (blk_new w (.cells (flC q F) 26)))
 have hY1 := Lib.hid (blk_new (w.alloc (.cells (flC q F) 26)) (.cells (flC q' G) 26))
 rw [show (w.alloc (.cells (flC q F) 26)).heap.size = w.heap.size + 1 by simp] at hY1
 have hb1 := Lib.hid (((Below.refl w.heap.size w).alloc (Nat.le_refl _) (.cells (flC q F) 26)).alloc (by simp) (.cells (flC q' G) 26))
 clear hr hs
 obtain ⟨pool, fl, th, su, ifs, flds, mths⟩ := F
 obtain ⟨qA, qc, qI, qd, qX, qe, qY, qg⟩ := q
 obtain ⟨pool', fl', th', su', ifs', flds', mths'⟩ := G
 obtain ⟨rA, rc, rI, rd, rX, re, rY, rg⟩ := q'
 simp only [] at kf km HP HP' HI HI'
 rw [show flC ⟨qA, qc, qI, qd, qX, qe, qY, qg⟩ ⟨pool, fl, th, su, ifs, flds, mths⟩ = #[.slice qA pool.length qc, .int .i64 fl, .int .i64 th, .int .i64 su, .slice qI ifs.length qd, .slice qX flds.length qe, .slice qY mths.length qg] from rfl, show flC ⟨rA, rc, rI, rd, rX, re, rY, rg⟩ ⟨pool', fl', th', su', ifs', flds', mths'⟩ = #[.slice rA pool'.length rc, .int .i64 fl', .int .i64 th', .int .i64 su', .slice rI ifs'.length rd, .slice rX flds'.length re, .slice rY mths'.length rg] from rfl] at hX1 hY1 hb1 ⊢
 unfold FlP.fl
 simp only []
 have hNo : Hid (¬ (⟨pool, fl, th, su, ifs, flds.map (·.1), mths.map (·.1)⟩ : Sp.Fl) = ⟨pool', fl', th', su', ifs', flds'.map (·.1), mths'.map (·.1)⟩ → Sp.sameF ⟨pool, fl, th, su, ifs, flds.map (·.1), mths.map (·.1)⟩ ⟨pool', fl', th', su', ifs', flds'.map (·.1), mths'.map (·.1)⟩ = false) := Lib.hid Sp.sameF_false
 have hYes : Hid (fl = fl' → th = th' → su = su' → pool = pool' → ifs = ifs' → Sp.sameF ⟨pool, fl, th, su, ifs, flds.map (·.1), mths.map (·.1)⟩ ⟨pool', fl', th', su', ifs', flds'.map (·.1), mths'.map (·.1)⟩ = (Sp.sameL (flds.map (·.1)) (flds'.map (·.1)) && Sp.sameL (mths.map (·.1)) (mths'.map (·.1)))) := Lib.hid (by
  rintro rfl rfl rfl rfl rfl
  exact Sp.sameF_members _ _ _ _ _ _ _ _ _)
 generalize Sp.sameF ⟨pool, fl, th, su, ifs, flds.map (·.1), mths.map (·.1)⟩ ⟨pool', fl', th', su', ifs', flds'.map (·.1), mths'.map (·.1)⟩ = R at *
 generalize Sp.sameL (flds.map (·.1)) (flds'.map (·.1)) = R1 at *
 generalize Sp.sameL (mths.map (·.1)) (mths'.map (·.1)) = R2 at *
 go_enter Tryz.func93, Tryz.ntmps93
 go_upto_region 1 with fail
 generalize (w.alloc (.cells #[.slice qA pool.length qc, .int .i64 fl, .int .i64 th, .int .i64 su, .slice qI ifs.length qd, .slice qX flds.length qe, .slice qY mths.length qg] 26)).alloc (.cells #[.slice rA pool'.length rc, .int .i64 fl', .int .i64 th', .int .i64 su', .slice rI ifs'.length rd, .slice rX flds'.length re, .slice rY mths'.length rg] 26) = W2 at *
 have hzl : w.heap.size ≤ w.heap.size := Nat.le_refl _
 generalize hxb : w.heap.size = xb at hX1 hY1 ⊢ hzl
 obtain ⟨c0, c1, c2, c3, c4, c5, c6⟩ := cells7s hX1.out
 obtain ⟨p0, p1, p2, p3, p4, p5, p6⟩ := cells7s hY1.out
 have hlx := blk_lt hX1.out
 have hly := blk_lt hY1.out
 by_cases q_fl : fl = fl'
 rotate_left
 ·have tt : (fl != fl') = true := by simpa using q_fl
  have hnn := hNo.out (fun e => q_fl (congrArg Sp.Fl.flags e))
  subst hnn
  go_wp2
  go_ret
  exact ⟨rfl, by rw [← hxb]; exact hb1.out⟩
 subst q_fl
 have t_fl : (fl != fl) = false := by simp
 by_cases q_th : th = th'
 rotate_left
 ·have tt : (th != th') = true := by simpa using q_th
  have hnn := hNo.out (fun e => q_th (congrArg Sp.Fl.this e))
  subst hnn
  go_wp2
  go_ret
  exact ⟨rfl, by rw [← hxb]; exact hb1.out⟩
 subst q_th
 have t_th : (th != th) = false := by simp
 by_cases q_su : su = su'
 rotate_left
 ·have tt : (su != su') = true := by simpa using q_su
  have hnn := hNo.out (fun e => q_su (congrArg Sp.Fl.super e))
  subst hnn
  go_wp2
  go_ret
  exact ⟨rfl, by rw [← hxb]; exact hb1.out⟩
 subst q_su
 have t_su : (su != su) = false := by simp
 by_cases q_pool : pool.length = pool'.length
 rotate_left
 ·have tt : ((pool.length : Int) != (pool'.length : Int)) = true := by simp; omega
  have hnn := hNo.out (fun e => q_pool (congrArg (fun z => z.pool.length) e))
  subst hnn
  go_wp2
  go_ret
  exact ⟨rfl, by rw [← hxb]; exact hb1.out⟩
 have t_pool : ((pool.length : Int) != (pool'.length : Int)) = false := by simp [q_pool]
 have hq_pool := Lib.hid q_pool
 clear q_pool
 by_cases q_ifs : ifs.length = ifs'.length
 rotate_left
 ·have tt : ((ifs.length : Int) != (ifs'.length : Int)) = true := by simp; omega
  have hnn := hNo.out (fun e => q_ifs (congrArg (fun z => z.ifaces.length) e))
  subst hnn
  go_wp2
  go_ret
  exact ⟨rfl, by rw [← hxb]; exact hb1.out⟩
 have t_ifs : ((ifs.length : Int) != (ifs'.length : Int)) = false := by simp [q_ifs]
 have hq_ifs := Lib.hid q_ifs
 clear q_ifs
 go_wp2
 clear c0 c1 c2 c3 c4 c5 c6 p0 p1 p2 p3 p4 p5 p6 hlx hly t_fl t_th t_su t_pool t_ifs
 have hpl := HP.out.1
 have hpl' := HP'.out.1
 have hil := HI.out.1
 have hil' := HI'.out.1
 go_loopw [5] (fun v5 wr => ∃ k : Nat, v5 = .int .i64 k ∧ k ≤ pool.length ∧ Hid (∀ j, j < k → pool[j]? = pool'[j]?) ∧ Hid (Below w.heap.size w wr) ∧ Hid (wr.heap[xb]? = some (.cells #[.slice qA pool.length qc, .int .i64 fl, .int .i64 th, .int .i64 su, .slice qI ifs.length qd, .slice qX flds.length qe, .slice qY mths.length qg] 26 (0, 0))) ∧ Hid (wr.heap[xb + 1]? = some (.cells #[.slice rA pool'.length rc, .int .i64 fl, .int .i64 th, .int .i64 su, .slice rI ifs'.length rd, .slice rX flds'.length re, .slice rY mths'.length rg] 26 (0, 0)))) (fun v5 _ => pool.length - (RowKit.intOf v5).toNat)
 case atStart => exact ⟨0, by go_num, Nat.zero_le _, Lib.hid (fun j hj => by omega), hb1, hX1, hY1⟩
 case round =>
  clear hb1 hX1 hY1
  obtain ⟨k, rfl, hk, hq, hb, hX, hY⟩ := hrel
  obtain ⟨c0, c1, c2, c3, c4, c5, c6⟩ := cells7s hX.out
  obtain ⟨p0, p1, p2, p3, p4, p5, p6⟩ := cells7s hY.out
  have hlx := blk_lt hX.out
  have hly := blk_lt hY.out
  by_cases hlt : k < pool.length
  ·have hlt2 : k < pool'.length := by have := hq_pool.out; omega
   have hzk : (k : Int) < (pool.length : Int) := by omega
   have hzk2 : (k : Int) < (pool'.length : Int) := by omega
   have hz0 : (0 : Int) ≤ (k : Int) := by omega
   obtain ⟨b, o, rfl, hrg⟩ := HP.out.2 (by omega)
   obtain ⟨b', o', rfl, hrg'⟩ := HP'.out.2 (by omega)
   obtain ⟨d0, d1, d2, d3, d4, d5⟩ := cn_cells hrg hlt
   obtain ⟨e0, e1, e2, e3, e4, e5⟩ := cn_cells hrg' hlt2
   have D0 := cell_below hb.out d0
   have D1 := cell_below hb.out d1
   have D2 := cell_below hb.out d2
   have D3 := cell_below hb.out d3
   have D4 := cell_below hb.out d4
   have D5 := cell_below hb.out d5
   have E0 := cell_below hb.out e0
   have E1 := cell_below hb.out e1
   have E2 := cell_below hb.out e2
   have E3 := cell_below hb.out e3
   have E4 := cell_below hb.out e4
   have E5 := cell_below hb.out e5
   have hn2 : Hid (¬ pool[k] = pool'[k] → R = false) := Lib.hid (fun q => hNo.out (fun e => q (by
    have h1 : pool = pool' := congrArg Sp.Fl.pool e
    subst h1
    rfl)))
   have hs2 : Hid (pool[k] = pool'[k] → ∀ j, j < k + 1 → pool[j]? = pool'[j]?) := Lib.hid (fun q j hj => by
    by_cases hjk : j = k
    ·subst hjk; rw [List.getElem?_eq_getElem hlt, List.getElem?_eq_getElem hlt2, q]
    ·exact hq.out j (by omega))
   clear d0 d1 d2 d3 d4 d5 e0 e1 e2 e3 e4 e5 hrg hrg'
   generalize pool[k] = h1 at *
   generalize pool'[k] = h2 at *
   obtain ⟨a1, a2, a3, a4, a5, a6⟩ := h1
   obtain ⟨b1, b2, b3, b4, b5, b6⟩ := h2
   simp only [] at D0 D1 D2 D3 D4 D5 E0 E1 E2 E3 E4 E5
   by_cases u1 : a1 = b1
   rotate_left
   ·have hnn := hn2.out (fun e => u1 (congrArg Sp.Cn.tag e))
    subst hnn
    have uu : (a1 == b1) = false := by simp [u1]
    go_wp2
    go_quiet (fail)
    have hB9 : Hid (Below w.heap.size w (wr.drewN nq)) := Lib.hid ⟨hb.out.os, hb.out.tape, hb.out.output, hb.out.size, hb.out.block⟩
    go_wp2
    go_ret
    exact ⟨rfl, hB9.out⟩
   subst u1
   by_cases u2 : a2 = b2
   rotate_left
   ·have hnn := hn2.out (fun e => u2 (congrArg Sp.Cn.text e))
    subst hnn
    have uu : (a2.toList == b2.toList) = false := by rw [bytes_eqb]; exact decide_eq_false u2
    go_wp2
    go_quiet (fail)
    have hB9 : Hid (Below w.heap.size w (wr.drewN nq)) := Lib.hid ⟨hb.out.os, hb.out.tape, hb.out.output, hb.out.size, hb.out.block⟩
    go_wp2
    go_ret
    exact ⟨rfl, hB9.out⟩
   subst u2
   by_cases u3 : a3 = b3
   rotate_left
   ·have hnn := hn2.out (fun e => u3 (congrArg Sp.Cn.n e))
    subst hnn
    have uu : (a3 == b3) = false := by simp [u3]
    go_wp2
    go_quiet (fail)
    have hB9 : Hid (Below w.heap.size w (wr.drewN nq)) := Lib.hid ⟨hb.out.os, hb.out.tape, hb.out.output, hb.out.size, hb.out.block⟩
    go_wp2
    go_ret
    exact ⟨rfl, hB9.out⟩
   subst u3
   by_cases u4 : a4 = b4
   rotate_left
   ·have hnn := hn2.out (fun e => u4 (congrArg Sp.Cn.a e))
    subst hnn
    have uu : (a4 == b4) = false := by simp [u4]
    go_wp2
    go_quiet (fail)
    have hB9 : Hid (Below w.heap.size w (wr.drewN nq)) := Lib.hid ⟨hb.out.os, hb.out.tape, hb.out.output, hb.out.size, hb.out.block⟩
    go_wp2
    go_ret
    exact ⟨rfl, hB9.out⟩
   subst u4
   by_cases u5 : a5 = b5
   rotate_left
   ·have hnn := hn2.out (fun e => u5 (congrArg Sp.Cn.b e))
    subst hnn
    have uu : (a5 == b5) = false := by simp [u5]
    go_wp2
    go_quiet (fail)
    have hB9 : Hid (Below w.heap.size w (wr.drewN nq)) := Lib.hid ⟨hb.out.os, hb.out.tape, hb.out.output, hb.out.size, hb.out.block⟩
    go_wp2
    go_ret
    exact ⟨rfl, hB9.out⟩
   subst u5
   by_cases u6 : a6 = b6
   rotate_left
   ·have hnn := hn2.out (fun e => u6 (congrArg Sp.Cn.c e))
    subst hnn
    have uu : (a6 == b6) = false := by simp [u6]
    go_wp2
    go_quiet (fail)
    have hB9 : Hid (Below w.heap.size w (wr.drewN nq)) := Lib.hid ⟨hb.out.os, hb.out.tape, hb.out.output, hb.out.size, hb.out.block⟩
    go_wp2
    go_ret
    exact ⟨rfl, hB9.out⟩
   subst u6
   have t2 : (a2.toList == a2.toList) = true := by simp
   have hs3 := Lib.hid (hs2.out rfl)
   clear hn2
   go_wp2
   go_quiet (fail)
   have hB9 : Hid (Below w.heap.size w (wr.drewN nq)) := Lib.hid ⟨hb.out.os, hb.out.tape, hb.out.output, hb.out.size, hb.out.block⟩
   have hX9 : Hid ((wr.drewN nq).heap[xb]? = _) := Lib.hid hX.out
   have hY9 : Hid ((wr.drewN nq).heap[xb + 1]? = _) := Lib.hid hY.out
   go_wp2
   go_roundw
   case rel => exact ⟨k + 1, by go_num, by omega, hs3, hB9, hX9, hY9⟩
   case measure => simp [RowKit.intOf]; omega
  ·obtain rfl : k = pool.length := by omega
   have hzk : ¬ (pool.length : Int) < (pool.length : Int) := by omega
   have hpe := Lib.hid (list_same hq_pool.out (fun j hj => hq.out j hj))
   clear hq HP HP'
   go_wp2
   clear c0 c1 c2 c3 c4 c5 c6 p0 p1 p2 p3 p4 p5 p6 hlx hly
   have hbo := hb
   have hXo := hX
   have hYo := hY
   clear hb hX hY
   go_loopw [6] (fun v6 wr => ∃ k : Nat, v6 = .int .i64 k ∧ k ≤ ifs.length ∧ Hid (∀ j, j < k → ifs[j]? = ifs'[j]?) ∧ Hid (Below w.heap.size w wr) ∧ Hid (wr.heap[xb]? = some (.cells #[.slice qA pool.length qc, .int .i64 fl, .int .i64 th, .int .i64 su, .slice qI ifs.length qd, .slice qX flds.length qe, .slice qY mths.length qg] 26 (0, 0))) ∧ Hid (wr.heap[xb + 1]? = some (.cells #[.slice rA pool'.length rc, .int .i64 fl, .int .i64 th, .int .i64 su, .slice rI ifs'.length rd, .slice rX flds'.length re, .slice rY mths'.length rg] 26 (0, 0)))) (fun v6 _ => ifs.length - (RowKit.intOf v6).toNat)
   case atStart => exact ⟨0, by go_num, Nat.zero_le _, Lib.hid (fun j hj => by omega), hbo, hXo, hYo⟩
   case round =>
    clear hbo hXo hYo
    obtain ⟨k, rfl, hk, hq, hb, hX, hY⟩ := hrel
    obtain ⟨c0, c1, c2, c3, c4, c5, c6⟩ := cells7s hX.out
    obtain ⟨p0, p1, p2, p3, p4, p5, p6⟩ := cells7s hY.out
    have hlx := blk_lt hX.out
    have hly := blk_lt hY.out
    by_cases hlt : k < ifs.length
    ·have hlt2 : k < ifs'.length := by have := hq_ifs.out; omega
     have hzk : (k : Int) < (ifs.length : Int) := by omega
     have hzk2 : (k : Int) < (ifs'.length : Int) := by omega
     have hz0 : (0 : Int) ≤ (k : Int) := by omega
     obtain ⟨b, o, rfl, hrg⟩ := HI.out.2 (by omega)
     obtain ⟨b', o', rfl, hrg'⟩ := HI'.out.2 (by omega)
     have D0 := cell_below hb.out (hrg k hlt)
     have E0 := cell_below hb.out (hrg' k hlt2)
     have hn2 : Hid (¬ ifs.getD k 0 = ifs'.getD k 0 → R = false) := Lib.hid (fun q => hNo.out (fun e => q (by
      have h1 : ifs = ifs' := congrArg Sp.Fl.ifaces e
      subst h1
      rfl)))
     have hs2 : Hid (ifs.getD k 0 = ifs'.getD k 0 → ∀ j, j < k + 1 → ifs[j]? = ifs'[j]?) := Lib.hid (fun q j hj => by
      by_cases hjk : j = k
      ·subst hjk
       rw [List.getD_eq_getElem?_getD, List.getD_eq_getElem?_getD, List.getElem?_eq_getElem hlt, List.getElem?_eq_getElem hlt2] at q
       rw [List.getElem?_eq_getElem hlt, List.getElem?_eq_getElem hlt2]
       exact congrArg some q
      ·exact hq.out j (by omega))
     clear hrg hrg'
     generalize ifs.getD k 0 = a1 at *
     generalize ifs'.getD k 0 = b1 at *
     by_cases u1 : a1 = b1
     rotate_left
     ·have hnn := hn2.out u1
      subst hnn
      have uu : (a1 != b1) = true := by simp [u1]
      go_wp2
      go_quiet (fail)
      have hB9 : Hid (Below w.heap.size w (wr.drewN nq)) := Lib.hid ⟨hb.out.os, hb.out.tape, hb.out.output, hb.out.size, hb.out.block⟩
      go_wp2
      go_ret
      exact ⟨rfl, hB9.out⟩
     subst u1
     have uu : (a1 != a1) = false := by simp
     have hs3 := Lib.hid (hs2.out rfl)
     clear hn2
     go_wp2
     go_quiet (fail)
     have hB9 : Hid (Below w.heap.size w (wr.drewN nq)) := Lib.hid ⟨hb.out.os, hb.out.tape, hb.out.output, hb.out.size, hb.out.block⟩
     have hX9 : Hid ((wr.drewN nq).heap[xb]? = _) := Lib.hid hX.out
     have hY9 : Hid ((wr.drewN nq).heap[xb + 1]? = _) := Lib.hid hY.out
     go_wp2
     go_roundw
     case rel => exact ⟨k + 1, by go_num, by omega, hs3, hB9, hX9, hY9⟩
     case measure => simp [RowKit.intOf]; omega
    ·obtain rfl : k = ifs.length := by omega
     have hzk : ¬ (ifs.length : Int) < (ifs.length : Int) := by omega
     have hie := list_same hq_ifs.out (fun j hj => hq.out j hj)
     have hRR := Lib.hid (hYes.out (by first | rfl | trivial) (by first | rfl | trivial) (by first | rfl | trivial) hpe.out hie)
     clear hq HI HI' hie hpe hYes hNo
     go_wp2_with fail
     refine (kf.out _ hb.out).mono ?_
     rintro e w5 ⟨rfl, hb5⟩
     have B5 := Lib.hid (below_then hb.out hb.out.size hb5)
     have X5 := blk_below hX.out hb5
     have Y5 := blk_below hY.out hb5
     clear c0 c1 c2 c3 c4 c5 c6 p0 p1 p2 p3 p4 p5 p6 hlx hly hb hX hY hb5 kf
     obtain ⟨c0, c1, c2, c3, c4, c5, c6⟩ := cells7s X5
     obtain ⟨p0, p1, p2, p3, p4, p5, p6⟩ := cells7s Y5
     have hlx := blk_lt X5
     have hly := blk_lt Y5
     go_wp2_with fail
     refine (km.out _ B5.out).mono ?_
     rintro e w6 ⟨rfl, hb6⟩
     have B6 := Lib.hid (below_then B5.out B5.out.size hb6)
     clear c0 c1 c2 c3 c4 c5 c6 p0 p1 p2 p3 p4 p5 p6 hlx hly hb6 km
     have hR9 := hRR.out
     subst hR9
     cases R1 with
     | false =>
      go_wp2
      go_ret
      exact ⟨rfl, B6.out⟩
     | true =>
      cases R2 with
      | false =>
       go_wp2
       go_ret
       exact ⟨rfl, B6.out⟩
      | true =>
       go_wp2
       go_ret
       exact ⟨rfl, B6.out⟩
namespace Sp
end Sp
namespace Sp
end Sp
namespace Sp
end Sp
namespace Sp
theorem nums_nth (s : ByteArray) (k : Nat) (h : k < s.size) : (nums s).getD k 0 = ((s.data.toList.getD k 0).toNat : Int) := by
 rw [List.getD_eq_getElem?_getD, nums_get s k h]
 rfl
end Sp
def BytesAt (w : World) (b : Nat) (l : List Int) : Prop := ∃ C fr, w.heap[b]? = some (.cells C 5 (fr, fr + 1)) ∧ l.length ≤ fr ∧ ∀ j, j < l.length → C[j]? = some (.int .u8 (l.getD j 0))
theorem bytesAt_new (w : World) (s : ByteArray) : BytesAt (bytesWorld w 5 s) w.heap.size (Sp.nums s) := by
 refine ⟨_, _, bytesWorld_at_new w 5 s, ?_, fun j hj => ?_⟩
 ·rw [nums_length]
  simp [bytesCells, Array.size_append]
 ·rw [nums_length] at hj
  have h1 := bytesWorld_cell w 5 s j hj
  rw [cell_of_heap (bytesWorld_at_new w 5 s) j] at h1
  rw [h1, Sp.nums_nth s j hj]
theorem BytesAt.cell {w : World} {b : Nat} {l : List Int} (h : BytesAt w b l) (j : Nat) (hj : j < l.length) : w.cell? ⟨b, j, none⟩ = some (.int .u8 (l.getD j 0)) := by
 obtain ⟨C, fr, h1, h2, h3⟩ := h
 exact (cell_of_heap h1 j).trans (h3 j hj)
theorem BytesAt.frozen {w : World} {b : Nat} {l : List Int} (h : BytesAt w b l) (j : Nat) (hj : j < l.length) : w.frozen? ⟨b, j, none⟩ = false := by
 obtain ⟨C, fr, h1, h2, h3⟩ := h
 simp only [World.frozen?, h1]
 simp
 omega
theorem BytesAt.lt {w : World} {b : Nat} {l : List Int} (h : BytesAt w b l) : b < w.heap.size := by
 obtain ⟨C, fr, h1, h2, h3⟩ := h
 exact blk_lt h1
theorem BytesAt.set {w : World} {b : Nat} {l : List Int} (h : BytesAt w b l) (k : Nat) (hk : k < l.length) (v : Int) : BytesAt (w.setCell ⟨b, k, none⟩ (.int .u8 v)) b (l.set k v) := by
 obtain ⟨C, fr, h1, h2, h3⟩ := h
 have hCk := h3 k hk
 have hkC : k < C.size := by
  obtain ⟨q, _⟩ := Array.getElem?_eq_some_iff.1 hCk
  exact q
 refine ⟨_, _, blk_set (i := k) h1 _, by rw [List.length_set]; exact h2, fun j hj => ?_⟩
 rw [List.length_set] at hj
 rw [Array.getElem?_setIfInBounds]
 by_cases hjk : k = j
 ·subst hjk
  rw [if_pos rfl, if_pos hkC, List.getD_eq_getElem?_getD, List.getElem?_set_self hk]
  rfl
 ·rw [if_neg hjk, h3 j hj, List.getD_eq_getElem?_getD, List.getD_eq_getElem?_getD, List.getElem?_set_ne hjk]
theorem BytesAt.below {w w' : World} {b : Nat} {l : List Int} (h : BytesAt w b l) (hb : Below w.heap.size w w') : BytesAt w' b l := by
 obtain ⟨C, fr, h1, h2, h3⟩ := h
 exact ⟨C, fr, blk_below h1 hb, h2, h3⟩
theorem BytesAt.alloc {w : World} {b : Nat} {l : List Int} (h : BytesAt w b l) (o : Obj) : BytesAt (w.alloc o) b l := by
 obtain ⟨C, fr, h1, h2, h3⟩ := h
 exact ⟨C, fr, blk_old h1, h2, h3⟩
theorem BytesAt.conv {w : World} {b : Nat} {l : List Int} (h : BytesAt w b l) (n cap : Nat) (hn : l.length = n) : (convert 33 9 (.slice (some ⟨b, 0, none⟩) n cap)).run Tryz.prog w = .ok (.string (Go.strOfNums l)) w :=
 run_convert_bytes_arg w 33 5 Tryz.underlying33 Tryz.underlying5 b 0 n cap l hn (fun i hi => by rw [Nat.zero_add]; exact h.cell i (by omega)) 9 Tryz.underlying9
theorem Sp.enc_size (F : Sp.Fl) : (Sp.encodeF F).1.size ≤ 65536 := by
 unfold Sp.encodeF
 split
 ·exact Nat.zero_le _
 ·split
  ·exact Nat.zero_le _
  ·simp only []
   rw [Sp.size_nums]
   omega
set_option maxHeartbeats 8000000 in
set_option maxRecDepth 100000 in
theorem readsB_any (b : ByteArray) (w : World) (hb : b.size ≤ 1099511627776) (hT : Tabs w) :
  Calls Tryz.prog 21 #[.string b] w fun e w' => e = .returned (.bool true) ∧ Below w.heap.size w w' := by
 have kp := Lib.hid (fparse_any b w hT hb)
 have kq := Lib.hid (fun W => qparse_any b W hb)
 clear hT
 generalize Sp.parseS b = P at *
 obtain ⟨f, er⟩ := P
 simp only [] at kp kq
 go_enter Tryz.func21, Tryz.ntmps21
 go_wp2_with fail
 refine kp.out.mono ?_
 rintro x w1 ⟨q, F, hF, rfl, hr, hb1⟩
 have hF := Lib.hid hF
 have hr1 := Lib.hid hr
 clear hr kp
 obtain ⟨pool, fl, th, su, ifs, flds, mths⟩ := F
 obtain ⟨qA, qc, qI, qd, qX, qe, qY, qg⟩ := q
 have hfl : flC ⟨qA, qc, qI, qd, qX, qe, qY, qg⟩ ⟨pool, fl, th, su, ifs, flds, mths⟩ = #[.slice qA pool.length qc, .int .i64 fl, .int .i64 th, .int .i64 su, .slice qI ifs.length qd, .slice qX flds.length qe, .slice qY mths.length qg] := rfl
 have ks := Lib.hid (fun q' G W (hb : Below w1.heap.size w1 W) (hrG : RdF W q' G) => sameFile_any ⟨qA, qc, qI, qd, qX, qe, qY, qg⟩ q' ⟨pool, fl, th, su, ifs, flds, mths⟩ G W (rdF_below hr1.out hb) hrG)
 rw [hfl] at ks ⊢
 clear hfl
 have K1 := Lib.hid (blk_new w1 (.cells #[.slice qA pool.length qc, .int .i64 fl, .int .i64 th, .int .i64 su, .slice qI ifs.length qd, .slice qX flds.length qe, .slice qY mths.length qg] 26))
 have B1 := Lib.hid ((Below.refl w1.heap.size w1).alloc (Nat.le_refl _) (.cells #[.slice qA pool.length qc, .int .i64 fl, .int .i64 th, .int .i64 su, .slice qI ifs.length qd, .slice qX flds.length qe, .slice qY mths.length qg] 26))
 have kq1 := Lib.hid (kq.out (w1.alloc (.cells #[.slice qA pool.length qc, .int .i64 fl, .int .i64 th, .int .i64 su, .slice qI ifs.length qd, .slice qX flds.length qe, .slice qY mths.length qg] 26)))
 clear kq hr1
 go_wp2_with fail
 refine kq1.out.mono ?_
 rintro x w2 ⟨q', G, hG, rfl, hr2, hb2⟩
 have hG := Lib.hid hG
 have hr2 := Lib.hid hr2
 have K2 := Lib.hid (blk_below K1.out hb2)
 have B2 := Lib.hid (below_then B1.out B1.out.size hb2)
 clear kq1 K1 B1 hb2
 have k3 := Lib.hid (fun W h1 h2 => ks.out q' G W h1 h2)
 have hs : Hid (Sp.sameF (FlP.fl ⟨pool, fl, th, su, ifs, flds, mths⟩) G.fl = true) := Lib.hid (Sp.sameF_true (by rw [hF.out, hG.out]))
 clear hF hG ks
 rw [hs.out] at k3
 clear hs
 obtain ⟨pool', fl', th', su', ifs', flds', mths'⟩ := G
 obtain ⟨rA, rc, rI, rd, rX, re, rY, rg⟩ := q'
 have hfl : flC ⟨rA, rc, rI, rd, rX, re, rY, rg⟩ ⟨pool', fl', th', su', ifs', flds', mths'⟩ = #[.slice rA pool'.length rc, .int .i64 fl', .int .i64 th', .int .i64 su', .slice rI ifs'.length rd, .slice rX flds'.length re, .slice rY mths'.length rg] := rfl
 rw [hfl] at k3 ⊢
 clear hfl
 have hb3 := (Below.refl w2.heap.size w2).alloc (Nat.le_refl _) (.cells #[.slice rA pool'.length rc, .int .i64 fl', .int .i64 th', .int .i64 su', .slice rI ifs'.length rd, .slice rX flds'.length re, .slice rY mths'.length rg] 26)
 have K3 := Lib.hid (blk_old (o := .cells #[.slice rA pool'.length rc, .int .i64 fl', .int .i64 th', .int .i64 su', .slice rI ifs'.length rd, .slice rX flds'.length re, .slice rY mths'.length rg] 26) K2.out)
 have G3 := Lib.hid (blk_new w2 (.cells #[.slice rA pool'.length rc, .int .i64 fl', .int .i64 th', .int .i64 su', .slice rI ifs'.length rd, .slice rX flds'.length re, .slice rY mths'.length rg] 26))
 have B3 := Lib.hid (below_then B2.out B2.out.size hb3)
 have R3 := Lib.hid (rdF_below hr2.out hb3)
 clear hb3 hr2 K2 B2
 go_upto_region 3 with fail
 generalize w2.alloc (.cells #[.slice rA pool'.length rc, .int .i64 fl', .int .i64 th', .int .i64 su', .slice rI ifs'.length rd, .slice rX flds'.length re, .slice rY mths'.length rg] 26) = W3 at *
 obtain ⟨c0, c1, c2, c3, c4, c5, c6⟩ := cells7m K3.out
 obtain ⟨d0, d1, d2, d3, d4, d5, d6⟩ := cells7m G3.out
 have hlk := blk_lt K3.out
 have hlg := blk_lt G3.out
 have te : (er == er) = true := by simp
 go_wp2_with fail
 refine (k3.out W3 B3.out R3.out).mono ?_
 rintro e w4 ⟨rfl, hb4⟩
 have B4 := Lib.hid (below_then hb1 hb1.size (below_then B3.out B3.out.size hb4))
 clear c0 c1 c2 c3 c4 c5 c6 d0 d1 d2 d3 d4 d5 d6 hlk hlg K3 G3 B3 R3 k3 hb4 hb1
 go_wp2
 go_ret
 exact ⟨rfl, B4.out⟩
def Sp.pickI (c n : Int) : Int := if c < 0 then -(c + 1).tmod n else c % n
theorem Sp.pickI_range (c n : Int) (hn : 0 < n) (h : -9223372036854775808 ≤ c) : 0 ≤ Sp.pickI c n ∧ Sp.pickI c n < n := by
 unfold Sp.pickI
 split
 ·have hm1 : 0 ≤ -(c + 1).tmod n := by rw [← Int.neg_tmod]; exact Int.tmod_nonneg _ (by omega)
  have hm2 : -(c + 1).tmod n < n := by rw [← Int.neg_tmod]; exact Int.tmod_lt_of_pos _ hn
  exact ⟨hm1, hm2⟩
 ·exact ⟨Int.emod_nonneg _ (by omega), Int.emod_lt_of_pos _ hn⟩
set_option maxHeartbeats 4000000 in
set_option maxRecDepth 100000 in
theorem pick3v_any (c n : Int) (w : World) (h : In64 c) (hn : 0 < n) (hn2 : n ≤ 9223372036854775807) :
  Calls Tryz.prog 24 #[.int .i64 c, .int .i64 n] w fun e w' => e = .returned (.int .i64 (Sp.pickI c n)) ∧ w' = w := by
 obtain ⟨h0, h1⟩ := h
 have hd : n ≠ 0 := by omega
 have HP := Lib.hid (show Sp.pickI c n = _ by rw [Sp.pickI])
 generalize Sp.pickI c n = R at *
 by_cases hc : c < 0
 ·have hm1 : 0 ≤ -(c + 1).tmod n := by rw [← Int.neg_tmod]; exact Int.tmod_nonneg _ (by omega)
  have hm2 : -(c + 1).tmod n < n := by rw [← Int.neg_tmod]; exact Int.tmod_lt_of_pos _ hn
  go_enter Tryz.func24, Tryz.ntmps24
  go_wp2
  go_ret
  exact ⟨by first | (rw [HP.out, if_pos hc]; done) | simp [HP.out, hc], rfl⟩
 ·have hm1 : 0 ≤ c % n := Int.emod_nonneg _ hd
  have hm2 : c % n < n := Int.emod_lt_of_pos _ hn
  go_enter Tryz.func24, Tryz.ntmps24
  go_wp2
  go_ret
  exact ⟨by rw [HP.out, if_neg (by omega)]; rfl, rfl⟩
set_option maxHeartbeats 8000000 in
set_option maxRecDepth 100000 in
theorem fileReads_any (b : ByteArray) (q : Sp.At) (F : FlP) (A1 A2 : Option Addr) (c1 c2 : Nat) (at_ to_ : List Int) (cut : Int) (w : World) (hr : RdF w q F) (hF : FlOk F) (hT : Tabs w) (hN : Sp.textN F.pool + Sp.codeN (F.methods.map (·.1)) + Sp.codeN (F.fields.map (·.1)) ≤ 4611686018427387904)
  (ha : RdN .i64 w A1 at_) (ht : RdN .i64 w A2 to_) (hai : ∀ i ∈ at_, In64 i) (hti : ∀ i ∈ to_, In64 i) (hct : In64 cut) :
  Calls Tryz.prog 3 #[.string b, .agg (flC q F), .slice A1 at_.length c1, .slice A2 to_.length c2, .int .i64 cut] w fun e w' => e = .returned (.bool true) ∧ Below w.heap.size w w' := by
 have hK := Lib.hid (blk_new w (.cells (flC q F) 26))
 have hB := (Below.refl w.heap.size w).alloc (Nat.le_refl _) (.cells (flC q F) 26)
 have KS : ∀ X : Array Value, X = flC q F →
   Hid (∀ W, Below w.heap.size w W → Calls Tryz.prog 22 #[.agg X] W fun e w' => e = .returned (.bool (Sp.smallS F.fl)) ∧ Below W.heap.size W w') ∧
   Hid (Sp.smallS F.fl = true → ∀ W, Below w.heap.size w W → Calls Tryz.prog 23 #[.agg X] W fun e w' => e = .returned (.tuple #[.string (Sp.encodeF F.fl).1, .int .i64 (Sp.encodeF F.fl).2]) ∧ Below W.heap.size W w') := by
  rintro X rfl
  exact ⟨Lib.hid (fun W hb => small_any q F W (rdF_below hr hb) hN), Lib.hid (fun hs W hb => refFenc_any q F W (rdF_below hr hb) hF (Sp.small_bytes hs))⟩
 have hsh := Lib.hid (fun W (hb : Below w.heap.size w W) => fileShown_any W (hT.below hb))
 have krd := Lib.hid (fun (s : ByteArray) (W : World) (hb : Below w.heap.size w W) (hs : s.size ≤ 1099511627776) => readsB_any s W hs (hT.below hb))
 have hesz := Sp.enc_size F.fl
 clear hr hF hT hN
 obtain ⟨pool, fl, th, su, ifs, flds, mths⟩ := F
 obtain ⟨qA, qc, qI, qd, qX, qe, qY, qg⟩ := q
 obtain ⟨ks, ke⟩ := KS #[.slice qA pool.length qc, .int .i64 fl, .int .i64 th, .int .i64 su, .slice qI ifs.length qd, .slice qX flds.length qe, .slice qY mths.length qg] rfl
 clear KS
 have hfl : flC ⟨qA, qc, qI, qd, qX, qe, qY, qg⟩ ⟨pool, fl, th, su, ifs, flds, mths⟩ = #[.slice qA pool.length qc, .int .i64 fl, .int .i64 th, .int .i64 su, .slice qI ifs.length qd, .slice qX flds.length qe, .slice qY mths.length qg] := rfl
 rw [hfl] at hK hB ⊢
 clear hfl
 generalize hFl : FlP.fl ⟨pool, fl, th, su, ifs, flds, mths⟩ = FL at *
 clear hFl
 generalize Sp.smallS FL = sm at *
 generalize Sp.encodeF FL = EF at *
 obtain ⟨eb, er⟩ := EF
 simp only [] at ke hesz
 have hal := ha.1
 have htl := ht.1
 have HA := Lib.hid ha.2
 have HT := Lib.hid ht.2
 have HAI := Lib.hid hai
 have HTI := Lib.hid hti
 clear ha ht hai hti
 go_enter Tryz.func3, Tryz.ntmps3
 go_wp2_with fail
 refine (hsh.out _ hB).mono ?_
 rintro e w1 ⟨rfl, hb1⟩
 have B1 := below_then hB hB.size hb1
 have K1 := Lib.hid (blk_below hK.out hb1)
 have z1 := B1.size
 clear hB hK hb1 hsh
 by_cases hlong : (70000 : Int) < (b.size : Int)
 ·clear ks ke krd HA HT HAI HTI
  go_wp2
  go_ret
  exact ⟨rfl, B1⟩
 have krb := Lib.hid (krd.out b w1 B1 (by omega))
 go_wp2_with fail
 refine krb.out.mono ?_
 rintro e w2 ⟨rfl, hb2⟩
 have B2 := below_then B1 z1 hb2
 have K2 := Lib.hid (blk_below K1.out hb2)
 have z2 := B2.size
 clear B1 K1 z1 hb2 krb
 obtain ⟨c0', c1', c2', c3', c4', c5', c6'⟩ := cells7m K2.out
 go_wp2_with fail
 refine (ks.out _ B2).mono ?_
 rintro e w3 ⟨rfl, hb3⟩
 have B3 := below_then B2 z2 hb3
 have K3 := Lib.hid (blk_below K2.out hb3)
 have z3 := B3.size
 clear B2 K2 z2 hb3 ks c0' c1' c2' c3' c4' c5' c6'
 cases sm with
 | false =>
  clear ke krd HA HT HAI HTI
  go_wp2
  go_ret
  exact ⟨rfl, B3⟩
 | true =>
  obtain ⟨c0', c1', c2', c3', c4', c5', c6'⟩ := cells7m K3.out
  go_wp2_with fail
  refine (ke.out (by simp) _ B3).mono ?_
  rintro e w4 ⟨rfl, hb4⟩
  have B4 := below_then B3 z3 hb4
  have K4 := Lib.hid (blk_below K3.out hb4)
  have z4 := B4.size
  clear B3 K3 z3 hb4 ke c0' c1' c2' c3' c4' c5' c6'
  have hcv := Lib.run_convert_string_bytes (P := Tryz.prog) w4 9 33 5 eb Tryz.underlying9 Tryz.underlying33 Tryz.underlying5
  have hA5 := Lib.hid (bytesAt_new w4 eb)
  have hb5 : Below w4.heap.size w4 (bytesWorld w4 5 eb) := below_conv w4 _ eb (Nat.le_refl _)
  have B5 := Lib.hid (below_then B4 z4 hb5)
  clear hb5
  go_upto_region 12 with fail
  clear hcv
  have hcw : w.heap.size ≤ w4.heap.size := z4
  generalize bytesWorld w4 5 eb = W5 at *
  generalize grownCap w4 eb.size 0 5 = cap at *
  generalize w4.heap.size = cb at *
  have hL0 := Lib.hid (nums_length eb)
  generalize Sp.nums eb = L0 at *
  clear B4 z4 K4
  go_wp2
  go_loopw [17] (fun vi wr => ∃ (k : Nat) (L : List Int), vi = .int .i64 k ∧ k ≤ 4 ∧ Hid (L.length = eb.size) ∧ Hid (BytesAt wr cb L) ∧ Hid (Below w.heap.size w wr)) (fun vi _ => 4 - (RowKit.intOf vi).toNat)
  case atStart => exact ⟨0, L0, by go_num, Nat.zero_le _, hL0, hA5, B5⟩
  case round =>
   clear hL0 hA5 B5
   obtain ⟨k, L, rfl, hk, hL, hA, hB⟩ := hrel
   have hkk : k ≤ at_.length ∨ at_.length < k := by omega
   go_upto_region 13 with fail
   go_cut [63] (fun xt wx => xt = .bool (decide (k < at_.length ∧ k < to_.length ∧ k < 4 ∧ 0 < eb.size)) ∧ wx = wr)
   case first =>
    by_cases h1 : k < at_.length
    ·have z1 : (k : Int) < (at_.length : Int) := by omega
     by_cases h2 : k < to_.length
     ·have z2 : (k : Int) < (to_.length : Int) := by omega
      by_cases h3 : k < 4
      ·have z3 : (k : Int) < 4 := by omega
       by_cases h4 : 0 < eb.size
       ·have z4 : (0 : Int) < (eb.size : Int) := by omega
        go_wp2
        go_meet
        exact ⟨by simp [h1, h2, h3, h4], rfl⟩
       ·have z4 : ¬ (0 : Int) < (eb.size : Int) := by omega
        go_wp2
        go_meet
        exact ⟨by simp [h4], rfl⟩
      ·have z3 : ¬ (k : Int) < 4 := by omega
       go_wp2
       go_meet
       exact ⟨by simp [h3], rfl⟩
     ·have z2 : ¬ (k : Int) < (to_.length : Int) := by omega
      go_wp2
      go_meet
      exact ⟨by simp [h2], rfl⟩
    ·have z1 : ¬ (k : Int) < (at_.length : Int) := by omega
     go_wp2
     go_meet
     exact ⟨by simp [h1], rfl⟩
   case rest =>
    obtain ⟨rfl, rfl⟩ := hcut
    clear hkk
    by_cases hlt : k < at_.length ∧ k < to_.length ∧ k < 4 ∧ 0 < eb.size
    ·rw [decide_eq_true hlt]
     obtain ⟨h1, h2, h3, h4⟩ := hlt
     obtain ⟨b1, o1, rfl, e1⟩ := HA.out (by omega)
     obtain ⟨b2, o2, rfl, e2⟩ := HT.out (by omega)
     have z1 : (k : Int) < (at_.length : Int) := by omega
     have z2 : (k : Int) < (to_.length : Int) := by omega
     have d1 := cell_below hB.out (e1 k h1)
     have d2 := cell_below hB.out (e2 k h2)
     have i1 : In64 (at_.getD k 0) := by
      rw [List.getD_eq_getElem?_getD, List.getElem?_eq_getElem h1]
      exact HAI.out _ (List.getElem_mem h1)
     have i2 : In64 (to_.getD k 0) := by
      rw [List.getD_eq_getElem?_getD, List.getElem?_eq_getElem h2]
      exact HTI.out _ (List.getElem_mem h2)
     clear e1 e2
     generalize at_.getD k 0 = x1 at *
     generalize to_.getD k 0 = x2 at *
     obtain ⟨p0, p1⟩ := Sp.pickI_range x1 eb.size (by omega) i1.1
     obtain ⟨p2, p3⟩ := Sp.pickI_range x2 256 (by omega) i2.1
     have kp1 := Lib.hid (fun W => pick3v_any x1 eb.size W i1 (by omega) (by omega))
     have kp2 := Lib.hid (fun W => pick3v_any x2 256 W i2 (by omega) (by omega))
     generalize Sp.pickI x1 eb.size = j at *
     generalize Sp.pickI x2 256 = v at *
     clear i1 i2
     obtain ⟨jn, rfl⟩ := Int.eq_ofNat_of_zero_le p0
     have hj : jn < eb.size := by omega
     have hjL : jn < L.length := by rw [hL.out]; exact hj
     have cj := hA.out.cell jn hjL
     have fj := hA.out.frozen jn hjL
     have hlb := hA.out.lt
     have hset := Lib.hid (fun v => hA.out.set jn hjL v)
     go_upto_region 15 with fail
     go_still_tail 15, (by kernel_rfl)
     still_call (kp1.out _)
     repeat still_step
     still_call (kp2.out _)
     repeat still_step
     refine wpStill_nil ?_
     change wpList _ _ _ _ _ wc.drew
     have cjd : wc.drew.cell? ⟨cb, jn, none⟩ = some (.int .u8 (L.getD jn 0)) := cj
     have fjd : wc.drew.frozen? ⟨cb, jn, none⟩ = false := fj
     have hB2 := Lib.hid (Below.drew (Below.setCell (p := ⟨cb, jn, none⟩) hB.out hcw (.int .u8 v)))
     have hA2 := Lib.hid (show BytesAt (World.drew (World.setCell wc ⟨cb, jn, none⟩ (.int .u8 v))) cb (L.set jn v) from hset.out v)
     have hL2 := Lib.hid (show (L.set jn v).length = eb.size by rw [List.length_set]; exact hL.out)
     clear cj fj hA hB hL hset kp1 kp2 d1 d2
     go_wp2
     go_roundw
     case rel => exact ⟨k + 1, L.set jn v, by go_num, by omega, hL2, hA2, hB2⟩
     case measure => simp [RowKit.intOf]; omega
    ·rw [decide_eq_false hlt]
     clear hlt
     have hcvb := Lib.hid (hA.out.conv eb.size cap hL.out)
     have hSz : (Go.strOfNums L).size ≤ 1099511627776 := by rw [Sp.size_nums, hL.out]; omega
     generalize Go.strOfNums L = S at *
     have k5 := Lib.hid (krd.out S wc hB.out hSz)
     have hcv5 := hcvb.out
     clear HA HT HAI HTI hA hL
     go_wp2_with fail
     refine k5.out.mono ?_
     rintro e w5 ⟨rfl, hb5⟩
     have B5 := Lib.hid (below_then hB.out hB.out.size hb5)
     clear hB hb5 k5 hcv5 hcvb
     obtain ⟨p0, p1⟩ := Sp.pickI_range cut ((eb.size : Int) + 1) (by omega) hct.1
     have kp := Lib.hid (fun W => pick3v_any cut ((eb.size : Int) + 1) W hct (by omega) (by omega))
     generalize Sp.pickI cut ((eb.size : Int) + 1) = j at *
     obtain ⟨jn, rfl⟩ := Int.eq_ofNat_of_zero_le p0
     have hj : (jn : Int) ≤ (eb.size : Int) := by omega
     have k6 := Lib.hid (krd.out (eb.extract 0 jn) w5 B5.out (by rw [ByteArray.size_extract]; omega))
     clear hct
     go_wp2_with fail
     refine (kp.out _).mono ?_
     rintro e w5' ⟨rfl, rfl⟩
     go_wp2_with fail
     refine k6.out.mono ?_
     rintro e w6 ⟨rfl, hb6⟩
     have B6 := Lib.hid (below_then B5.out B5.out.size hb6)
     clear B5 hb6 k6 kp
     have hz0 : (⟨#[0]⟩ : ByteArray).size = 1 := rfl
     have hcc : ¬ 9223372036854775807 < eb.size + (⟨#[0]⟩ : ByteArray).size := by rw [hz0]; omega
     have k7 := Lib.hid (krd.out (eb ++ ⟨#[0]⟩) w6 B6.out (by rw [ByteArray.size_append, hz0]; omega))
     clear hz0 krd
     go_wp2_with fail
     refine k7.out.mono ?_
     rintro e w7 ⟨rfl, hb7⟩
     have B7 := Lib.hid (below_then B6.out B6.out.size hb7)
     clear B6 hb7 k7 hcc
     go_wp2
     go_ret
     exact ⟨rfl, B7.out⟩
theorem walkFileReads (b : ByteArray) (q : Sp.At) (F : FlP) (A1 : Option Addr) (l1 c1 : Nat) (z1 : List Int) (A2 : Option Addr) (l2 c2 : Nat) (z2 : List Int) (cut : Int) (w : World) (hb : b.size ≤ maxLen) (h : FlIn w q F) (r1 : IsRow .i64 w A1 l1 c1 z1) (r2 : IsRow .i64 w A2 l2 c2 z2)
  (h1 : -9223372036854775808 ≤ cut) (h2 : cut ≤ 9223372036854775807) (hT : Tabs w) (hb0 : b.data.toList.length ≤ 1048576) (hbk : F.bulk ≤ 1048576) :
  Calls Tryz.prog 3 #[.string b, .agg (flC q F), .slice A1 l1 c1, .slice A2 l2 c2, .int .i64 cut] w fun e w' => e = .returned (.bool true) ∧ Below w.heap.size w w' := by
 obtain ⟨at_, rfl, ra, ia⟩ := isRow_rd r1
 obtain ⟨to_, rfl, rt, it⟩ := isRow_rd r2
 exact fileReads_any b q F A1 A2 c1 c2 at_ to_ cut w h.rd (h.ok hbk) hT (FlP.sizes hbk) ra rt ia it ⟨h1, h2⟩
end Go.Proofs.YtjjlcoimaihdoaaGreatDoor
section
set_option linter.unusedVariables false
set_option linter.unusedSimpArgs false
namespace Go.Proofs.YtjjlcoimaihdoaaGreatDoor.fileReadsU
open Go.ChangeShapes Go.WideShapes Go.ChangeAt Go.RowKit Go.Shelf Go.Lib
open Go.ChangeMaps (open_string shut_string)
set_option maxRecDepth 100000
theorem own : ownKnob Tryz.prog.godebug = none := by kernel_rfl
theorem laidOut : laidOutB Tryz.prog = true := by kernel_rfl
theorem accept_eq : Rows.laid_unicode_utf8_acceptRanges (H := Unit) = Lib.acceptData := by kernel_rfl
theorem first_eq : Rows.laid_unicode_utf8_first = Lib.firstData := Pinned.utf8First_eq
theorem tabs {W : World} (hL : laidMetH Tryz.prog Rows.fileReadsUptoRow.laid W) : Tabs W :=
 utf8Tabs_of_readsT (U8Types.of196 Tryz.lays196) ⟨by kernel_rfl, by kernel_rfl, by kernel_rfl, by kernel_rfl, by kernel_rfl, by kernel_rfl, by kernel_rfl⟩
  (by rw [← first_eq]; exact Lib.laidMet.reads hL (.tail _ (.head _))) (by rw [← accept_eq]; exact Lib.laidMet.reads hL (.head _))
noncomputable def laidWorld (os : Os) : World :=
 let w0 := World.holding Tryz.prog os ⟨#[], #[], []⟩
 let put (h : Array Obj) (g : Nat) (cs : Array Value) : Array Obj := h.modify g fun
  | .cells _ t frozen => .cells cs t frozen
  | o => o
 let h1 := put w0.heap 1 (Lib.firstTab.map fun z => Value.int .u8 z).toArray
 let h2 := put h1 2 ((List.range 16).flatMap fun i => [Value.int .u8 (Lib.accLo i), Value.int .u8 (Lib.accHi i)]).toArray
 { w0 with heap := h2 }
theorem laid_met (os : Os) : laidMet Tryz.prog Rows.fileReadsUptoRow.laid ((laidWorld os).forCall (fun _ _ => 0) ⟨#[], #[.string ⟨#[]⟩, .agg #[.slice none 0 0, .int .i64 0, .int .i64 0, .int .i64 0, .slice none 0 0, .slice none 0 0, .slice none 0 0], .slice none 0 0, .slice none 0 0, .int .i64 0], []⟩).memory :=
 (LaidIn.of_run (l := Rows.fileReadsUptoRow.laid) [1, 2] 8 (by kernel_rfl) (by kernel_rfl) (by kernel_rfl) (by kernel_rfl)).met
theorem reads (os : Os) {H : Type} (enc : TypeId × Value → H) : ∃ places, DataW.whole enc Tryz.prog ((laidWorld os).forCall (fun _ _ => 0) ⟨#[], #[.string ⟨#[]⟩, .agg #[.slice none 0 0, .int .i64 0, .int .i64 0, .int .i64 0, .slice none 0 0, .slice none 0 0, .slice none 0 0], .slice none 0 0, .slice none 0 0, .int .i64 0], []⟩).memory Tryz.f3.params.toList (Rows.fileReadsSpec).vars false #[Value.string ⟨#[]⟩, Value.agg #[.slice none 0 0, .int .i64 0, .int .i64 0, .int .i64 0, .slice none 0 0, .slice none 0 0, .slice none 0 0], Value.slice none 0 0, Value.slice none 0 0, Value.int .i64 0].toList 8 = some ([.lit (.string []), .agg [.nil, .lit (.int .i64 0), .lit (.int .i64 0), .lit (.int .i64 0), .nil, .nil, .nil], .nil, .nil, .lit (.int .i64 0)], [], places) := by
 have hw : (DataW.whole enc Tryz.prog ((laidWorld os).forCall (fun _ _ => 0) ⟨#[], #[.string ⟨#[]⟩, .agg #[.slice none 0 0, .int .i64 0, .int .i64 0, .int .i64 0, .slice none 0 0, .slice none 0 0, .slice none 0 0], .slice none 0 0, .slice none 0 0, .int .i64 0], []⟩).memory Tryz.f3.params.toList (Rows.fileReadsSpec).vars false #[Value.string ⟨#[]⟩, Value.agg #[.slice none 0 0, .int .i64 0, .int .i64 0, .int .i64 0, .slice none 0 0, .slice none 0 0, .slice none 0 0], Value.slice none 0 0, Value.slice none 0 0, Value.int .i64 0].toList 8).map (fun x => (x.1, x.2.1)) = some ([.lit (.string []), .agg [.nil, .lit (.int .i64 0), .lit (.int .i64 0), .lit (.int .i64 0), .nil, .nil, .nil], .nil, .nil, .lit (.int .i64 0)], []) := by kernel_rfl
 obtain ⟨⟨x1, x2, x3⟩, hx, hx1⟩ := Option.map_eq_some_iff.1 hw
 simp only [Prod.mk.injEq] at hx1
 obtain ⟨rfl, rfl⟩ := hx1
 exact ⟨x3, hx⟩
theorem contract (H : Type) (enc : TypeId × Value → H) (W : World) (base : Nat) (args : Array Value) (ds gs : List (DataW H)) (before : List MemPlace)
  (hval : ∀ (j : Nat) t v, Tryz.f3.params[j]? = some t → args[j]? = some v → Value.okWide Tryz.prog W .any base t v)
  (hW : DataW.Whole enc Tryz.prog Tryz.f3.params.toList Rows.fileReadsSpec.vars false W args.toList ds gs before) (hL : laidMetH Tryz.prog Rows.fileReadsUptoRow.laid W) (hbulk : Rows.uptoBulkAll (ds ++ gs) ≤ 1048576) :
  Calls Tryz.prog 3 args W fun e W' => ∃ v, e = .returned v ∧ Rows.fileReadsSpec.post enc Tryz.prog Tryz.f3 false true false false W args v W' := by
 have hW' := hW
 obtain ⟨p, q, hA0, hV, rfl, hfz, hnd⟩ := hW
 have hA : DataW.TrodAll enc Tryz.prog W 0 (fun _ => true) true Tryz.f3.params.toList args.toList ds p := hA0
 rw [Tryz.params3] at hA hval
 obtain ⟨v0, vs0, d0, ds0, p0, q0, hargs, rfl, rfl, h0, r0⟩ := trodAll_cons hA
 obtain ⟨v1, vs1, d1, ds1, p1, q1, rfl, rfl, rfl, h1, r1⟩ := trodAll_cons r0
 obtain ⟨v2, vs2, d2, ds2, p2, q2, rfl, rfl, rfl, h2, r2⟩ := trodAll_cons r1
 obtain ⟨v3, vs3, d3, ds3, p3, q3, rfl, rfl, rfl, h3, r3⟩ := trodAll_cons r2
 obtain ⟨v4, vs4, d4, ds4, p4, q4, rfl, rfl, rfl, h4, r4⟩ := trodAll_cons r3
 obtain ⟨rfl, rfl, rfl⟩ := trodAll_nil r4
 obtain rfl : args = #[v0, v1, v2, v3, v4] := by cases args; simp_all
 obtain ⟨rfl, rfl⟩ := trodVars_none hV
 obtain ⟨a0, rfl, rfl, rfl, w0⟩ := open_string Tryz.underlying9 (hval 0 9 v0 rfl rfl) h0
 obtain ⟨cs1, rfl, hz1⟩ := okWide_struct Tryz.underlying26 (hval 1 26 v1 rfl rfl)
 have k1 := h1
 have lt1 : ∀ x ∈ p1, x.block < W.heap.size := by obtain ⟨m, hm⟩ := k1; exact DataW.trod_lt m _ _ _ hm
 obtain ⟨fu1, hf1⟩ := h1
 obtain ⟨Q1, F1, e1, b1, n1⟩ := fl_cells hf1
 obtain rfl : cs1 = flC Q1 F1 := by apply Array.ext'; simpa [Value.cells] using e1
 replace n1 : _ ≤ Rows.uptoBulk d1 := n1
 obtain ⟨a2, len2, cap2, rfl⟩ := okWide_slice Tryz.underlying23 (hval 2 23 v2 rfl rfl)
 have k2 := h2
 have lt2 : ∀ x ∈ p2, x.block < W.heap.size := by obtain ⟨m, hm⟩ := k2; exact DataW.trod_lt m _ _ _ hm
 obtain ⟨z2, w2⟩ : ∃ zs, IsRow .i64 W a2 len2 cap2 zs := by
  obtain ⟨fuel, hf⟩ := h2
  rcases open_ints Tryz.underlying23 Tryz.underlying3 (by kernel_rfl) hf with ⟨hcs, _⟩ | ⟨x, l, c, zs, hcs, _, hl, hm, hz, _, hcell, hwz⟩
  ·simp [Value.cells] at hcs
   obtain ⟨rfl, rfl, rfl⟩ := hcs
   exact ⟨[], .inl ⟨rfl, rfl, rfl, rfl⟩⟩
  ·simp [Value.cells] at hcs
   obtain ⟨rfl, rfl, rfl⟩ := hcs
   exact ⟨zs, .inr ⟨_, rfl, hl, hm, by simpa using hz, hcell, hwz⟩⟩
 obtain ⟨a3, len3, cap3, rfl⟩ := okWide_slice Tryz.underlying23 (hval 3 23 v3 rfl rfl)
 have k3 := h3
 have lt3 : ∀ x ∈ p3, x.block < W.heap.size := by obtain ⟨m, hm⟩ := k3; exact DataW.trod_lt m _ _ _ hm
 obtain ⟨z3, w3⟩ : ∃ zs, IsRow .i64 W a3 len3 cap3 zs := by
  obtain ⟨fuel, hf⟩ := h3
  rcases open_ints Tryz.underlying23 Tryz.underlying3 (by kernel_rfl) hf with ⟨hcs, _⟩ | ⟨x, l, c, zs, hcs, _, hl, hm, hz, _, hcell, hwz⟩
  ·simp [Value.cells] at hcs
   obtain ⟨rfl, rfl, rfl⟩ := hcs
   exact ⟨[], .inl ⟨rfl, rfl, rfl, rfl⟩⟩
  ·simp [Value.cells] at hcs
   obtain ⟨rfl, rfl, rfl⟩ := hcs
   exact ⟨zs, .inr ⟨_, rfl, hl, hm, by simpa using hz, hcell, hwz⟩⟩
 obtain ⟨a4, rfl, rfl, rfl, w4⟩ := open_int Tryz.underlying3 (hval 4 3 v4 rfl rfl) h4
 clear hA0
 refine (walkFileReads a0 Q1 F1 a2 len2 cap2 z2 a3 len3 cap3 z3 a4 W w0 b1 w2 w3 ((Lit.wf_int_iff _ _).1 w4).1 ((Lit.wf_int_iff _ _).1 w4).2 (tabs hL) (by have hb := hbulk; simp only [List.append_nil, List.cons_append, List.nil_append, Rows.uptoBulkAll, Rows.uptoBulk] at hb; omega) (by have hb := hbulk; simp only [List.append_nil, List.cons_append, List.nil_append, Rows.uptoBulkAll, Rows.uptoBulk] at hb; omega)).mono fun e W' ⟨he, bel⟩ => ?_
 subst he
 exact ⟨_, rfl, _, _, _, [], _, [], hW', trodAll_mk1 (shut_bool Tryz.underlying4 _), (trodAll_cons_mk (shut_string Tryz.underlying9 w0) (trodAll_cons_mk (Below.trod laidOut (by kernel_rfl) (of_decide_eq_true (by kernel_rfl)) k1 bel lt1) (trodAll_cons_mk (Below.trod laidOut (by kernel_rfl) (of_decide_eq_true (by kernel_rfl)) k2 bel lt2) (trodAll_cons_mk (Below.trod laidOut (by kernel_rfl) (of_decide_eq_true (by kernel_rfl)) k3 bel lt3) (trodAll_cons_mk (shut_int Tryz.underlying3 w4) trodAll_mk0))))), rfl, bel.frame _, fun h => by cases h⟩
theorem lifted (os : Os) (started : os.Started) (H : Type) (enc : TypeId × Value → H) (F : Stop.Interp) :
  ReturnsInHanded {} Tryz.checked os 3 .any ((Rows.OpenSpec.upto Rows.fileReadsSpec).preRow enc Tryz.prog Tryz.f3 Rows.fileReadsUptoRow.domain false Rows.fileReadsUptoRow.laid) (((Rows.OpenSpec.upto Rows.fileReadsSpec).at F).post enc Tryz.prog Tryz.f3 false true false false) := by
 obtain ⟨places, hx⟩ := reads os enc
 refine returnsInHanded_of_row (C := Tryz.checked) (s := (Rows.OpenSpec.upto Rows.fileReadsSpec)) own started (by kernel_rfl) Tryz.func3
  (witness_row_at (enc := enc) (C := Tryz.checked) false (laidWorld os) #[.string ⟨#[]⟩, .agg #[.slice none 0 0, .int .i64 0, .int .i64 0, .int .i64 0, .slice none 0 0, .slice none 0 0, .slice none 0 0], .slice none 0 0, .slice none 0 0, .int .i64 0] rfl (by kernel_rfl) (by kernel_rfl) (by kernel_rfl)
   (OpenSpec.preRow_of_cond 8 hx (by kernel_rfl) (fun k hk => by cases hk; kernel_rfl) (by kernel_rfl) (laid_met os))) ?_
 intro W base args ds gs before hval hW _ hcond _ hL _ _
 exact contract H enc W base args ds gs before hval hW hL (of_decide_eq_true (hcond _ rfl))
end Go.Proofs.YtjjlcoimaihdoaaGreatDoor.fileReadsU
end
