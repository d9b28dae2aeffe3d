/-
  Texts of the proof, joined: each says at its head what it proves.
-/
import Derived.Test.YthpfknlgfkecpaaDoorJFileNamesx2
import Derived.Test.YthpfknlgfkecpaaDoorJFileNamesx3
import Derived.Deep.QuietTactic
import Derived.BigQuiet
section
/-
  Walks of the reference's sameMembers and SameFile: classes are the same.
-/
set_option linter.unusedVariables false
set_option linter.unusedSimpArgs false
namespace Go.Proofs.YthpfknlgfkecpaaDoor
open Go.RowKit Go.Lib

theorem cells7s {W : World} {x : Nat} {c0 c1 c2 c3 c4 c5 c6 : Value} {T : TypeId} (h : W.heap[x]? = some (.cells #[c0, c1, c2, c3, c4, c5, c6] T (0, 0))) : W.cell? ⟨x, 0, none⟩ = some c0 ∧ W.cell? ⟨x, 1, none⟩ = some c1 ∧ W.cell? ⟨x, 2, none⟩ = some c2 ∧ W.cell? ⟨x, 3, none⟩ = some c3 ∧ W.cell? ⟨x, 4, none⟩ = some c4 ∧ W.cell? ⟨x, 5, none⟩ = some c5 ∧ W.cell? ⟨x, 6, none⟩ = some c6 :=
  ⟨(blk_cell h 0 _ rfl).1, (blk_cell h 1 _ rfl).1, (blk_cell h 2 _ rfl).1, (blk_cell h 3 _ rfl).1, (blk_cell h 4 _ rfl).1, (blk_cell h 5 _ rfl).1, (blk_cell h 6 _ rfl).1⟩
/-- Are members the same? -/
noncomputable def Sp.sameL (L M : List Sp.Mb) : Bool := @decide (L = M) (Classical.propDecidable _)
theorem Sp.same_true {L M : List Sp.Mb} (h : L = M) : Sp.sameL L M = true := @decide_eq_true _ (Classical.propDecidable _) h
theorem Sp.same_false {L M : List Sp.Mb} (h : ¬ L = M) : Sp.sameL L M = false := @decide_eq_false _ (Classical.propDecidable _) h
theorem map_fst_get (L : List Sp.Mp) (k : Nat) (h : k < L.length) : (L.map (·.1))[k]? = some L[k].1 := by rw [List.getElem?_map, List.getElem?_eq_getElem h]; rfl
theorem list_same {α : Type} {l m : List α} (hl : l.length = m.length) (h : ∀ j, j < l.length → l[j]? = m[j]?) : l = m := by
  apply List.ext_getElem? fun j => ?_
  by_cases hj : j < l.length
  · exact h j hj
  · rw [List.getElem?_eq_none (by omega), List.getElem?_eq_none (by omega)]

set_option maxHeartbeats 16000000 in
set_option maxRecDepth 100000 in
theorem sameMembers_any (A B : Option Addr) (c d : Nat) (L M : List Sp.Mp) (w : World) (hA : RdM w A L) (hB : RdM w B M) :
    Calls Tryd.prog 76 #[.slice A L.length c, .slice B M.length d] w fun e w' => e = .returned (.bool (Sp.sameL (L.map (·.1)) (M.map (·.1)))) ∧ Below w.heap.size w w' := by
  by_cases hlen : L.length = M.length
  · have hbf : ((L.length : Int) != (M.length : Int)) = false := by simp [hlen]
    have HA := Lib.hid hA
    have HB := Lib.hid hB
    have hl1 := hA.1.1
    have hlen1 := Lib.hid hlen
    clear hA hB
    rw [← hlen] at hbf ⊢
    clear hlen
    go_enter Tryd.func76, Tryd.ntmps76
    go_wp2
    go_loopw [5] (fun v5 wr => ∃ k : Nat, v5 = .int .i64 k ∧ k ≤ L.length ∧ Hid (∀ j, j < k → (L.map (·.1))[j]? = (M.map (·.1))[j]?) ∧ Hid (Below w.heap.size w wr)) (fun v5 _ => L.length - (RowKit.intOf v5).toNat)
    case atStart => exact ⟨0, by go_num, Nat.zero_le _, Lib.hid (fun j hj => by omega), Lib.hid (Below.refl _ _)⟩
    case round =>
      obtain ⟨k, rfl, hk, hq, hb⟩ := hrel
      by_cases hlt : k < L.length
      · have hzk : (k : Int) < (L.length : Int) := by omega
        have hz0 : (0 : Int) ≤ (k : Int) := by omega
        have hlt2 : k < M.length := by have := hlen1.out; omega
        obtain ⟨b, o, rfl, hrg⟩ := HA.out.1.2 (by omega)
        obtain ⟨b', o', rfl, hrg'⟩ := HB.out.1.2 (by omega)
        obtain ⟨d0, d1, d2, d3, d4, d5, d6⟩ := mb_cells hrg hlt
        obtain ⟨e0, e1, e2, e3, e4, e5, e6⟩ := mb_cells hrg' hlt2
        have D0 := cell_below hb.out d0
        have D1 := cell_below hb.out d1
        have D2 := cell_below hb.out d2
        have D3 := cell_below hb.out d3
        have D4 := cell_below hb.out d4
        have D5 := cell_below hb.out d5
        have D6 := cell_below hb.out d6
        have E0 := cell_below hb.out e0
        have E1 := cell_below hb.out e1
        have E2 := cell_below hb.out e2
        have E3 := cell_below hb.out e3
        have E4 := cell_below hb.out e4
        have E5 := cell_below hb.out e5
        have E6 := cell_below hb.out e6
        have hX := Lib.hid (HA.out.2 _ (List.getElem_mem hlt))
        have hY := Lib.hid (HB.out.2 _ (List.getElem_mem hlt2))
        have hnot : Hid (¬ L[k].1 = M[k].1 → ¬ L.map (·.1) = M.map (·.1)) := Lib.hid (fun q r => q (by have := congrArg (fun z => z[k]?) r; simp only [map_fst_get L k hlt, map_fst_get M k hlt2] at this; injection this))
        have hstep : Hid (L[k].1 = M[k].1 → ∀ j, j < k + 1 → (L.map (·.1))[j]? = (M.map (·.1))[j]?) := Lib.hid (fun q j hj => by
          by_cases hjk : j = k
          · subst hjk; rw [map_fst_get L _ hlt, map_fst_get M _ hlt2, q]
          · exact hq.out j (by omega))
        clear d0 d1 d2 d3 d4 d5 d6 e0 e1 e2 e3 e4 e5 e6 hrg hrg' hq
        generalize L[k] = m at *
        generalize M[k] = m' at *
        obtain ⟨⟨xf, xn, xd, xs, xl, xc, xh⟩, xA, xe⟩ := m
        obtain ⟨⟨yf, yn, yd, ys, yl, yc, yh⟩, yA, ye⟩ := m'
        simp only [] at D0 D1 D2 D3 D4 D5 D6 E0 E1 E2 E3 E4 E5 E6 hX hY hnot hstep
        have hX1 := Lib.hid (blk_old (o := .cells #[.int .i64 yf, .int .i64 yn, .int .i64 yd, .int .i64 ys, .int .i64 yl, .string yc, .slice yA yh.length ye] 65) (blk_new wr (.cells #[.int .i64 xf, .int .i64 xn, .int .i64 xd, .int .i64 xs, .int .i64 xl, .string xc, .slice xA xh.length xe] 65)))
        have hY1 := Lib.hid (blk_new (wr.alloc (.cells #[.int .i64 xf, .int .i64 xn, .int .i64 xd, .int .i64 xs, .int .i64 xl, .string xc, .slice xA xh.length xe] 65)) (.cells #[.int .i64 yf, .int .i64 yn, .int .i64 yd, .int .i64 ys, .int .i64 yl, .string yc, .slice yA yh.length ye] 65))
        rw [show (wr.alloc (.cells #[.int .i64 xf, .int .i64 xn, .int .i64 xd, .int .i64 xs, .int .i64 xl, .string xc, .slice xA xh.length xe] 65)).heap.size = wr.heap.size + 1 by simp] at hY1
        have hb1 := Lib.hid ((hb.out.alloc hb.out.size (.cells #[.int .i64 xf, .int .i64 xn, .int .i64 xd, .int .i64 xs, .int .i64 xl, .string xc, .slice xA xh.length xe] 65)).alloc (by simp; have := hb.out.size; omega) (.cells #[.int .i64 yf, .int .i64 yn, .int .i64 yd, .int .i64 ys, .int .i64 yl, .string yc, .slice yA yh.length ye] 65))
        have E0 := cell_alloc wr (.cells #[.int .i64 xf, .int .i64 xn, .int .i64 xd, .int .i64 xs, .int .i64 xl, .string xc, .slice xA xh.length xe] 65) E0
        have E1 := cell_alloc wr (.cells #[.int .i64 xf, .int .i64 xn, .int .i64 xd, .int .i64 xs, .int .i64 xl, .string xc, .slice xA xh.length xe] 65) E1
        have E2 := cell_alloc wr (.cells #[.int .i64 xf, .int .i64 xn, .int .i64 xd, .int .i64 xs, .int .i64 xl, .string xc, .slice xA xh.length xe] 65) E2
        have E3 := cell_alloc wr (.cells #[.int .i64 xf, .int .i64 xn, .int .i64 xd, .int .i64 xs, .int .i64 xl, .string xc, .slice xA xh.length xe] 65) E3
        have E4 := cell_alloc wr (.cells #[.int .i64 xf, .int .i64 xn, .int .i64 xd, .int .i64 xs, .int .i64 xl, .string xc, .slice xA xh.length xe] 65) E4
        have E5 := cell_alloc wr (.cells #[.int .i64 xf, .int .i64 xn, .int .i64 xd, .int .i64 xs, .int .i64 xl, .string xc, .slice xA xh.length xe] 65) E5
        have E6 := cell_alloc wr (.cells #[.int .i64 xf, .int .i64 xn, .int .i64 xd, .int .i64 xs, .int .i64 xl, .string xc, .slice xA xh.length xe] 65) E6
        go_upto_region 8 with fail
        clear D0 D1 D2 D3 D4 D5 D6 E0 E1 E2 E3 E4 E5 E6 hb
        generalize (wr.alloc (.cells #[.int .i64 xf, .int .i64 xn, .int .i64 xd, .int .i64 xs, .int .i64 xl, .string xc, .slice xA xh.length xe] 65)).alloc (.cells #[.int .i64 yf, .int .i64 yn, .int .i64 yd, .int .i64 ys, .int .i64 yl, .string yc, .slice yA yh.length ye] 65) = W2 at *
        generalize wr.heap.size = xb at *
        obtain ⟨c0, c1, c2, c3, c4, c5, c6⟩ := cells7s hX1.out
        obtain ⟨p0, p1, p2, p3, p4, p5, p6⟩ := cells7s hY1.out
        have hlx := blk_lt hX1.out
        have hly := blk_lt hY1.out
        by_cases q0 : xf = yf
        rotate_left
        · have t0 : (xf != yf) = true := by simpa using q0
          have hnn := Lib.hid (hnot.out (fun e => q0 (congrArg Sp.Mb.flags e)))
          go_wp2
          go_ret
          exact ⟨by rw [Sp.same_false hnn.out]; rfl, hb1.out⟩
        subst q0
        have t0 : (xf != xf) = false := by simp
        by_cases q1 : xn = yn
        rotate_left
        · have t1 : (xn != yn) = true := by simpa using q1
          have hnn := Lib.hid (hnot.out (fun e => q1 (congrArg Sp.Mb.name e)))
          go_wp2
          go_ret
          exact ⟨by rw [Sp.same_false hnn.out]; rfl, hb1.out⟩
        subst q1
        have t1 : (xn != xn) = false := by simp
        by_cases q2 : xd = yd
        rotate_left
        · have t2 : (xd != yd) = true := by simpa using q2
          have hnn := Lib.hid (hnot.out (fun e => q2 (congrArg Sp.Mb.desc e)))
          go_wp2
          go_ret
          exact ⟨by rw [Sp.same_false hnn.out]; rfl, hb1.out⟩
        subst q2
        have t2 : (xd != xd) = false := by simp
        by_cases q3 : xs = ys
        rotate_left
        · have t3 : (xs != ys) = true := by simpa using q3
          have hnn := Lib.hid (hnot.out (fun e => q3 (congrArg Sp.Mb.stack e)))
          go_wp2
          go_ret
          exact ⟨by rw [Sp.same_false hnn.out]; rfl, hb1.out⟩
        subst q3
        have t3 : (xs != xs) = false := by simp
        by_cases q4 : xl = yl
        rotate_left
        · have t4 : (xl != yl) = true := by simpa using q4
          have hnn := Lib.hid (hnot.out (fun e => q4 (congrArg Sp.Mb.locals e)))
          go_wp2
          go_ret
          exact ⟨by rw [Sp.same_false hnn.out]; rfl, hb1.out⟩
        subst q4
        have t4 : (xl != xl) = false := by simp
        by_cases q5 : xc = yc
        rotate_left
        · have t5 : (xc.toList == yc.toList) = false := by rw [bytes_eqb]; exact decide_eq_false q5
          have hnn := Lib.hid (hnot.out (fun e => q5 (congrArg Sp.Mb.code e)))
          go_wp2
          go_ret
          exact ⟨by rw [Sp.same_false hnn.out]; rfl, hb1.out⟩
        subst q5
        have t5 : (xc.toList == xc.toList) = true := by simp
        by_cases q6 : xh.length = yh.length
        rotate_left
        · have t6 : ((xh.length : Int) != (yh.length : Int)) = true := by simp; omega
          have hnn := Lib.hid (hnot.out (fun e => q6 (congrArg (fun z => z.hs.length) e)))
          go_wp2
          go_ret
          exact ⟨by rw [Sp.same_false hnn.out]; rfl, hb1.out⟩
        have t6 : ((xh.length : Int) != (yh.length : Int)) = false := by simp [q6]
        have hq6 := Lib.hid q6
        clear q6
        go_wp2
        clear c0 c1 c2 c3 c4 c5 c6 p0 p1 p2 p3 p4 p5 p6 hlx hly t0 t1 t2 t3 t4 t5 t6
        go_loopw [8] (fun v8 wi => ∃ k2 : Nat, v8 = .int .i64 k2 ∧ k2 ≤ xh.length ∧ Hid (∀ j, j < k2 → xh[j]? = yh[j]?) ∧ Hid (Below w.heap.size w wi) ∧ Hid (wi.heap[xb]? = some (.cells #[.int .i64 xf, .int .i64 xn, .int .i64 xd, .int .i64 xs, .int .i64 xl, .string xc, .slice xA xh.length xe] 65 (0, 0))) ∧ Hid (wi.heap[xb + 1]? = some (.cells #[.int .i64 xf, .int .i64 xn, .int .i64 xd, .int .i64 xs, .int .i64 xl, .string xc, .slice yA yh.length ye] 65 (0, 0)))) (fun v8 _ => xh.length - (RowKit.intOf v8).toNat)
        case atStart => exact ⟨0, by go_num, Nat.zero_le _, Lib.hid (fun j hj => by omega), hb1, hX1, hY1⟩
        case round =>
          clear hb1 hX1 hY1
          obtain ⟨k2, rfl, hk2, hq2, hb2, hX2, hY2⟩ := hrel
          obtain ⟨c0, c1, c2, c3, c4, c5, c6⟩ := cells7s hX2.out
          obtain ⟨p0, p1, p2, p3, p4, p5, p6⟩ := cells7s hY2.out
          have hlx := blk_lt hX2.out
          have hly := blk_lt hY2.out
          have hxl := hX.out.1
          by_cases hlt3 : k2 < xh.length
          · have hzk2 : (k2 : Int) < (xh.length : Int) := by omega
            have hzk3 : (k2 : Int) < (yh.length : Int) := by have := hq6.out; omega
            have hz2 : (0 : Int) ≤ (k2 : Int) := by omega
            have hlt4 : k2 < yh.length := by have := hq6.out; omega
            obtain ⟨g, go, rfl, hrh⟩ := hX.out.2 (by omega)
            obtain ⟨g', go', rfl, hrh'⟩ := hY.out.2 (by omega)
            obtain ⟨d0, d1, d2, d3⟩ := hn_cells hrh hlt3
            obtain ⟨e0, e1, e2, e3⟩ := hn_cells hrh' hlt4
            have D0 := cell_below hb2.out d0
            have D1 := cell_below hb2.out d1
            have D2 := cell_below hb2.out d2
            have D3 := cell_below hb2.out d3
            have E0 := cell_below hb2.out e0
            have E1 := cell_below hb2.out e1
            have E2 := cell_below hb2.out e2
            have E3 := cell_below hb2.out e3
            have hn2 : Hid (¬ xh[k2] = yh[k2] → ¬ L.map (·.1) = M.map (·.1)) := Lib.hid (fun q => hnot.out (fun e => q (by
              have h1 : xh = yh := congrArg Sp.Mb.hs e
              subst h1
              rfl)))
            have hs2 : Hid (xh[k2] = yh[k2] → ∀ j, j < k2 + 1 → xh[j]? = yh[j]?) := Lib.hid (fun q j hj => by
              by_cases hjk : j = k2
              · subst hjk; rw [List.getElem?_eq_getElem hlt3, List.getElem?_eq_getElem hlt4, q]
              · exact hq2.out j (by omega))
            clear d0 d1 d2 d3 e0 e1 e2 e3 hrh hrh'
            have hbd := Lib.hid hb2
            generalize xh[k2] = h1 at *
            generalize yh[k2] = h2 at *
            obtain ⟨a1, a2, a3, a4⟩ := h1
            obtain ⟨b1, b2, b3, b4⟩ := h2
            simp only [] at D0 D1 D2 D3 E0 E1 E2 E3
            by_cases u1 : a1 = b1
            rotate_left
            · have hnn := Lib.hid (hn2.out (fun e => u1 (congrArg Sp.Hn.fr e)))
              have uu : (a1 == b1) = false := by simp [u1]
              go_wp2
              go_quiet (fail)
              have hB9 : Hid (Below w.heap.size w (wr.drewN nq)) := Lib.hid ⟨hb2.out.os, hb2.out.tape, hb2.out.output, hb2.out.size, hb2.out.block⟩
              go_wp2
              go_ret
              exact ⟨by rw [Sp.same_false hnn.out]; rfl, hB9.out⟩
            subst u1
            by_cases u2 : a2 = b2
            rotate_left
            · have hnn := Lib.hid (hn2.out (fun e => u2 (congrArg Sp.Hn.til e)))
              have uu : (a2 == b2) = false := by simp [u2]
              go_wp2
              go_quiet (fail)
              have hB9 : Hid (Below w.heap.size w (wr.drewN nq)) := Lib.hid ⟨hb2.out.os, hb2.out.tape, hb2.out.output, hb2.out.size, hb2.out.block⟩
              go_wp2
              go_ret
              exact ⟨by rw [Sp.same_false hnn.out]; rfl, hB9.out⟩
            subst u2
            by_cases u3 : a3 = b3
            rotate_left
            · have hnn := Lib.hid (hn2.out (fun e => u3 (congrArg Sp.Hn.at_ e)))
              have uu : (a3 == b3) = false := by simp [u3]
              go_wp2
              go_quiet (fail)
              have hB9 : Hid (Below w.heap.size w (wr.drewN nq)) := Lib.hid ⟨hb2.out.os, hb2.out.tape, hb2.out.output, hb2.out.size, hb2.out.block⟩
              go_wp2
              go_ret
              exact ⟨by rw [Sp.same_false hnn.out]; rfl, hB9.out⟩
            subst u3
            by_cases u4 : a4 = b4
            rotate_left
            · have hnn := Lib.hid (hn2.out (fun e => u4 (congrArg Sp.Hn.cls e)))
              have uu : (a4 == b4) = false := by simp [u4]
              go_wp2
              go_quiet (fail)
              have hB9 : Hid (Below w.heap.size w (wr.drewN nq)) := Lib.hid ⟨hb2.out.os, hb2.out.tape, hb2.out.output, hb2.out.size, hb2.out.block⟩
              go_wp2
              go_ret
              exact ⟨by rw [Sp.same_false hnn.out]; rfl, hB9.out⟩
            subst u4
            have hs3 := Lib.hid (hs2.out rfl)
            clear hn2
            go_wp2
            go_quiet (fail)
            have hB9 : Hid (Below w.heap.size w (wr.drewN nq)) := Lib.hid ⟨hb2.out.os, hb2.out.tape, hb2.out.output, hb2.out.size, hb2.out.block⟩
            have hX9 : Hid ((wr.drewN nq).heap[xb]? = _) := Lib.hid hX2.out
            have hY9 : Hid ((wr.drewN nq).heap[xb + 1]? = _) := Lib.hid hY2.out
            go_wp2
            go_roundw
            case rel => exact ⟨k2 + 1, by go_num, by omega, hs3, hB9, hX9, hY9⟩
            case measure => simp [RowKit.intOf]; omega
          · obtain rfl : k2 = xh.length := by omega
            have hzk2 : ¬ (xh.length : Int) < (xh.length : Int) := by omega
            have hfin := Lib.hid (hstep.out (by rw [list_same hq6.out (fun j hj => hq2.out j hj)]))
            go_wp2
            go_roundw
            case rel => exact ⟨k + 1, by go_num, by omega, hfin, hb2⟩
            case measure => simp [RowKit.intOf]; omega
      · obtain rfl : k = L.length := by omega
        have hzk : ¬ (L.length : Int) < (L.length : Int) := by omega
        go_wp2
        go_ret
        exact ⟨by rw [Sp.same_true (list_same (by simpa using hlen1.out) (fun j hj => hq.out j (by simpa using hj)))]; rfl, hb.out⟩
  · have hbf : ((L.length : Int) != (M.length : Int)) = true := by simp; omega
    go_enter Tryd.func76, Tryd.ntmps76
    go_wp2
    go_ret
    exact ⟨by rw [Sp.same_false (fun q => absurd (by simpa using congrArg List.length q) hlen)]; rfl, Below.refl _ _⟩

/-- Are classes the same? -/
noncomputable def Sp.sameF (F G : Sp.Fl) : Bool := @decide (F = G) (Classical.propDecidable _)
theorem Sp.sameF_true {F G : Sp.Fl} (h : F = G) : Sp.sameF F G = true := @decide_eq_true _ (Classical.propDecidable _) h
theorem Sp.sameF_false {F G : Sp.Fl} (h : ¬ F = G) : Sp.sameF F G = false := @decide_eq_false _ (Classical.propDecidable _) h
end Go.Proofs.YthpfknlgfkecpaaDoor
end
