/-
  Texts of the proof, joined: each says at its head what it proves.
-/
import Derived.Test.YthpfknlgfkecpaaDoorJg25
import Derived.Test.YthpfknlgfkecpaaDoorJg20
section
/-
  Walk of the reference's SameFile: classes are the same.
-/
set_option linter.unusedVariables false
set_option linter.unusedSimpArgs false
namespace Go.Proofs.YthpfknlgfkecpaaDoor
open Go.RowKit Go.Lib

theorem Sp.sameF_members (p : List Sp.Cn) (f t s : Int) (i : List Int) (x x' y y' : List Sp.Mb) : Sp.sameF ⟨p, f, t, s, i, x, y⟩ ⟨p, f, t, s, i, x', y'⟩ = (Sp.sameL x x' && Sp.sameL y y') := by
  by_cases hx : x = x'
  · by_cases hy : y = y'
    · rw [Sp.same_true hx, Sp.same_true hy, Sp.sameF_true (by rw [hx, hy])]
      rfl
    · rw [Sp.same_false hy, Sp.sameF_false (fun e => hy (congrArg Sp.Fl.methods e)), Bool.and_false]
  · rw [Sp.same_false hx, Sp.sameF_false (fun e => hx (congrArg Sp.Fl.fields e)), Bool.false_and]

set_option maxHeartbeats 16000000 in
set_option maxRecDepth 100000 in
theorem sameFile_any (q q' : Sp.At) (F G : FlP) (w : World) (hr : RdF w q F) (hs : RdF w q' G) :
    Calls Tryd.prog 46 #[.agg (flC q F), .agg (flC q' G)] w fun e w' => e = .returned (.bool (Sp.sameF F.fl G.fl)) ∧ Below w.heap.size w w' := by
  have kf := Lib.hid (fun W (hb : Below w.heap.size w W) => sameMembers_any q.X q'.X q.e q'.e F.fields G.fields W (rdM_below hr.fields hb) (rdM_below hs.fields hb))
  have km := Lib.hid (fun W (hb : Below w.heap.size w W) => sameMembers_any q.Y q'.Y q.g q'.g F.methods G.methods W (rdM_below hr.methods hb) (rdM_below hs.methods hb))
  have HP := Lib.hid hr.pool
  have HP' := Lib.hid hs.pool
  have HI := Lib.hid hr.ifaces
  have HI' := Lib.hid hs.ifaces
  have hX1 := Lib.hid (blk_old (o := .cells (flC q' G) 53) (blk_new w (.cells (flC q F) 53)))
  have hY1 := Lib.hid (blk_new (w.alloc (.cells (flC q F) 53)) (.cells (flC q' G) 53))
  rw [show (w.alloc (.cells (flC q F) 53)).heap.size = w.heap.size + 1 by simp] at hY1
  have hb1 := Lib.hid (((Below.refl w.heap.size w).alloc (Nat.le_refl _) (.cells (flC q F) 53)).alloc (by simp) (.cells (flC q' G) 53))
  clear hr hs
  obtain ⟨pool, fl, th, su, ifs, flds, mths⟩ := F
  obtain ⟨qA, qc, qI, qd, qX, qe, qY, qg⟩ := q
  obtain ⟨pool', fl', th', su', ifs', flds', mths'⟩ := G
  obtain ⟨rA, rc, rI, rd, rX, re, rY, rg⟩ := q'
  simp only [] at kf km HP HP' HI HI'
  rw [show flC ⟨qA, qc, qI, qd, qX, qe, qY, qg⟩ ⟨pool, fl, th, su, ifs, flds, mths⟩ = #[.slice qA pool.length qc, .int .i64 fl, .int .i64 th, .int .i64 su, .slice qI ifs.length qd, .slice qX flds.length qe, .slice qY mths.length qg] from rfl, show flC ⟨rA, rc, rI, rd, rX, re, rY, rg⟩ ⟨pool', fl', th', su', ifs', flds', mths'⟩ = #[.slice rA pool'.length rc, .int .i64 fl', .int .i64 th', .int .i64 su', .slice rI ifs'.length rd, .slice rX flds'.length re, .slice rY mths'.length rg] from rfl] at hX1 hY1 hb1 ⊢
  unfold FlP.fl
  simp only []
  have hNo : Hid (¬ (⟨pool, fl, th, su, ifs, flds.map (·.1), mths.map (·.1)⟩ : Sp.Fl) = ⟨pool', fl', th', su', ifs', flds'.map (·.1), mths'.map (·.1)⟩ → Sp.sameF ⟨pool, fl, th, su, ifs, flds.map (·.1), mths.map (·.1)⟩ ⟨pool', fl', th', su', ifs', flds'.map (·.1), mths'.map (·.1)⟩ = false) := Lib.hid Sp.sameF_false
  have hYes : Hid (fl = fl' → th = th' → su = su' → pool = pool' → ifs = ifs' → Sp.sameF ⟨pool, fl, th, su, ifs, flds.map (·.1), mths.map (·.1)⟩ ⟨pool', fl', th', su', ifs', flds'.map (·.1), mths'.map (·.1)⟩ = (Sp.sameL (flds.map (·.1)) (flds'.map (·.1)) && Sp.sameL (mths.map (·.1)) (mths'.map (·.1)))) := Lib.hid (by
    rintro rfl rfl rfl rfl rfl
    exact Sp.sameF_members _ _ _ _ _ _ _ _ _)
  generalize Sp.sameF ⟨pool, fl, th, su, ifs, flds.map (·.1), mths.map (·.1)⟩ ⟨pool', fl', th', su', ifs', flds'.map (·.1), mths'.map (·.1)⟩ = R at *
  generalize Sp.sameL (flds.map (·.1)) (flds'.map (·.1)) = R1 at *
  generalize Sp.sameL (mths.map (·.1)) (mths'.map (·.1)) = R2 at *
  go_enter Tryd.func46, Tryd.ntmps46
  go_upto_region 1 with fail
  generalize (w.alloc (.cells #[.slice qA pool.length qc, .int .i64 fl, .int .i64 th, .int .i64 su, .slice qI ifs.length qd, .slice qX flds.length qe, .slice qY mths.length qg] 53)).alloc (.cells #[.slice rA pool'.length rc, .int .i64 fl', .int .i64 th', .int .i64 su', .slice rI ifs'.length rd, .slice rX flds'.length re, .slice rY mths'.length rg] 53) = W2 at *
  have hzl : w.heap.size ≤ w.heap.size := Nat.le_refl _
  generalize hxb : w.heap.size = xb at hX1 hY1 ⊢ hzl
  obtain ⟨c0, c1, c2, c3, c4, c5, c6⟩ := cells7s hX1.out
  obtain ⟨p0, p1, p2, p3, p4, p5, p6⟩ := cells7s hY1.out
  have hlx := blk_lt hX1.out
  have hly := blk_lt hY1.out
  by_cases q_fl : fl = fl'
  rotate_left
  · have tt : (fl != fl') = true := by simpa using q_fl
    have hnn := hNo.out (fun e => q_fl (congrArg Sp.Fl.flags e))
    subst hnn
    go_wp2
    go_ret
    exact ⟨rfl, by rw [← hxb]; exact hb1.out⟩
  subst q_fl
  have t_fl : (fl != fl) = false := by simp
  by_cases q_th : th = th'
  rotate_left
  · have tt : (th != th') = true := by simpa using q_th
    have hnn := hNo.out (fun e => q_th (congrArg Sp.Fl.this e))
    subst hnn
    go_wp2
    go_ret
    exact ⟨rfl, by rw [← hxb]; exact hb1.out⟩
  subst q_th
  have t_th : (th != th) = false := by simp
  by_cases q_su : su = su'
  rotate_left
  · have tt : (su != su') = true := by simpa using q_su
    have hnn := hNo.out (fun e => q_su (congrArg Sp.Fl.super e))
    subst hnn
    go_wp2
    go_ret
    exact ⟨rfl, by rw [← hxb]; exact hb1.out⟩
  subst q_su
  have t_su : (su != su) = false := by simp
  by_cases q_pool : pool.length = pool'.length
  rotate_left
  · have tt : ((pool.length : Int) != (pool'.length : Int)) = true := by simp; omega
    have hnn := hNo.out (fun e => q_pool (congrArg (fun z => z.pool.length) e))
    subst hnn
    go_wp2
    go_ret
    exact ⟨rfl, by rw [← hxb]; exact hb1.out⟩
  have t_pool : ((pool.length : Int) != (pool'.length : Int)) = false := by simp [q_pool]
  have hq_pool := Lib.hid q_pool
  clear q_pool
  by_cases q_ifs : ifs.length = ifs'.length
  rotate_left
  · have tt : ((ifs.length : Int) != (ifs'.length : Int)) = true := by simp; omega
    have hnn := hNo.out (fun e => q_ifs (congrArg (fun z => z.ifaces.length) e))
    subst hnn
    go_wp2
    go_ret
    exact ⟨rfl, by rw [← hxb]; exact hb1.out⟩
  have t_ifs : ((ifs.length : Int) != (ifs'.length : Int)) = false := by simp [q_ifs]
  have hq_ifs := Lib.hid q_ifs
  clear q_ifs
  go_wp2
  clear c0 c1 c2 c3 c4 c5 c6 p0 p1 p2 p3 p4 p5 p6 hlx hly t_fl t_th t_su t_pool t_ifs
  have hpl := HP.out.1
  have hpl' := HP'.out.1
  have hil := HI.out.1
  have hil' := HI'.out.1
  go_loopw [5] (fun v5 wr => ∃ k : Nat, v5 = .int .i64 k ∧ k ≤ pool.length ∧ Hid (∀ j, j < k → pool[j]? = pool'[j]?) ∧ Hid (Below w.heap.size w wr) ∧ Hid (wr.heap[xb]? = some (.cells #[.slice qA pool.length qc, .int .i64 fl, .int .i64 th, .int .i64 su, .slice qI ifs.length qd, .slice qX flds.length qe, .slice qY mths.length qg] 53 (0, 0))) ∧ Hid (wr.heap[xb + 1]? = some (.cells #[.slice rA pool'.length rc, .int .i64 fl, .int .i64 th, .int .i64 su, .slice rI ifs'.length rd, .slice rX flds'.length re, .slice rY mths'.length rg] 53 (0, 0)))) (fun v5 _ => pool.length - (RowKit.intOf v5).toNat)
  case atStart => exact ⟨0, by go_num, Nat.zero_le _, Lib.hid (fun j hj => by omega), hb1, hX1, hY1⟩
  case round =>
    clear hb1 hX1 hY1
    obtain ⟨k, rfl, hk, hq, hb, hX, hY⟩ := hrel
    obtain ⟨c0, c1, c2, c3, c4, c5, c6⟩ := cells7s hX.out
    obtain ⟨p0, p1, p2, p3, p4, p5, p6⟩ := cells7s hY.out
    have hlx := blk_lt hX.out
    have hly := blk_lt hY.out
    by_cases hlt : k < pool.length
    · have hlt2 : k < pool'.length := by have := hq_pool.out; omega
      have hzk : (k : Int) < (pool.length : Int) := by omega
      have hzk2 : (k : Int) < (pool'.length : Int) := by omega
      have hz0 : (0 : Int) ≤ (k : Int) := by omega
      obtain ⟨b, o, rfl, hrg⟩ := HP.out.2 (by omega)
      obtain ⟨b', o', rfl, hrg'⟩ := HP'.out.2 (by omega)
      obtain ⟨d0, d1, d2, d3, d4, d5⟩ := cn_cells hrg hlt
      obtain ⟨e0, e1, e2, e3, e4, e5⟩ := cn_cells hrg' hlt2
      have D0 := cell_below hb.out d0
      have D1 := cell_below hb.out d1
      have D2 := cell_below hb.out d2
      have D3 := cell_below hb.out d3
      have D4 := cell_below hb.out d4
      have D5 := cell_below hb.out d5
      have E0 := cell_below hb.out e0
      have E1 := cell_below hb.out e1
      have E2 := cell_below hb.out e2
      have E3 := cell_below hb.out e3
      have E4 := cell_below hb.out e4
      have E5 := cell_below hb.out e5
      have hn2 : Hid (¬ pool[k] = pool'[k] → R = false) := Lib.hid (fun q => hNo.out (fun e => q (by
        have h1 : pool = pool' := congrArg Sp.Fl.pool e
        subst h1
        rfl)))
      have hs2 : Hid (pool[k] = pool'[k] → ∀ j, j < k + 1 → pool[j]? = pool'[j]?) := Lib.hid (fun q j hj => by
        by_cases hjk : j = k
        · subst hjk; rw [List.getElem?_eq_getElem hlt, List.getElem?_eq_getElem hlt2, q]
        · exact hq.out j (by omega))
      clear d0 d1 d2 d3 d4 d5 e0 e1 e2 e3 e4 e5 hrg hrg'
      generalize pool[k] = h1 at *
      generalize pool'[k] = h2 at *
      obtain ⟨a1, a2, a3, a4, a5, a6⟩ := h1
      obtain ⟨b1, b2, b3, b4, b5, b6⟩ := h2
      simp only [] at D0 D1 D2 D3 D4 D5 E0 E1 E2 E3 E4 E5
      by_cases u1 : a1 = b1
      rotate_left
      · have hnn := hn2.out (fun e => u1 (congrArg Sp.Cn.tag e))
        subst hnn
        have uu : (a1 == b1) = false := by simp [u1]
        go_wp2
        go_quiet (fail)
        have hB9 : Hid (Below w.heap.size w (wr.drewN nq)) := Lib.hid ⟨hb.out.os, hb.out.tape, hb.out.output, hb.out.size, hb.out.block⟩
        go_wp2
        go_ret
        exact ⟨rfl, hB9.out⟩
      subst u1
      by_cases u2 : a2 = b2
      rotate_left
      · have hnn := hn2.out (fun e => u2 (congrArg Sp.Cn.text e))
        subst hnn
        have uu : (a2.toList == b2.toList) = false := by rw [bytes_eqb]; exact decide_eq_false u2
        go_wp2
        go_quiet (fail)
        have hB9 : Hid (Below w.heap.size w (wr.drewN nq)) := Lib.hid ⟨hb.out.os, hb.out.tape, hb.out.output, hb.out.size, hb.out.block⟩
        go_wp2
        go_ret
        exact ⟨rfl, hB9.out⟩
      subst u2
      by_cases u3 : a3 = b3
      rotate_left
      · have hnn := hn2.out (fun e => u3 (congrArg Sp.Cn.n e))
        subst hnn
        have uu : (a3 == b3) = false := by simp [u3]
        go_wp2
        go_quiet (fail)
        have hB9 : Hid (Below w.heap.size w (wr.drewN nq)) := Lib.hid ⟨hb.out.os, hb.out.tape, hb.out.output, hb.out.size, hb.out.block⟩
        go_wp2
        go_ret
        exact ⟨rfl, hB9.out⟩
      subst u3
      by_cases u4 : a4 = b4
      rotate_left
      · have hnn := hn2.out (fun e => u4 (congrArg Sp.Cn.a e))
        subst hnn
        have uu : (a4 == b4) = false := by simp [u4]
        go_wp2
        go_quiet (fail)
        have hB9 : Hid (Below w.heap.size w (wr.drewN nq)) := Lib.hid ⟨hb.out.os, hb.out.tape, hb.out.output, hb.out.size, hb.out.block⟩
        go_wp2
        go_ret
        exact ⟨rfl, hB9.out⟩
      subst u4
      by_cases u5 : a5 = b5
      rotate_left
      · have hnn := hn2.out (fun e => u5 (congrArg Sp.Cn.b e))
        subst hnn
        have uu : (a5 == b5) = false := by simp [u5]
        go_wp2
        go_quiet (fail)
        have hB9 : Hid (Below w.heap.size w (wr.drewN nq)) := Lib.hid ⟨hb.out.os, hb.out.tape, hb.out.output, hb.out.size, hb.out.block⟩
        go_wp2
        go_ret
        exact ⟨rfl, hB9.out⟩
      subst u5
      by_cases u6 : a6 = b6
      rotate_left
      · have hnn := hn2.out (fun e => u6 (congrArg Sp.Cn.c e))
        subst hnn
        have uu : (a6 == b6) = false := by simp [u6]
        go_wp2
        go_quiet (fail)
        have hB9 : Hid (Below w.heap.size w (wr.drewN nq)) := Lib.hid ⟨hb.out.os, hb.out.tape, hb.out.output, hb.out.size, hb.out.block⟩
        go_wp2
        go_ret
        exact ⟨rfl, hB9.out⟩
      subst u6
      have t2 : (a2.toList == a2.toList) = true := by simp
      have hs3 := Lib.hid (hs2.out rfl)
      clear hn2
      go_wp2
      go_quiet (fail)
      have hB9 : Hid (Below w.heap.size w (wr.drewN nq)) := Lib.hid ⟨hb.out.os, hb.out.tape, hb.out.output, hb.out.size, hb.out.block⟩
      have hX9 : Hid ((wr.drewN nq).heap[xb]? = _) := Lib.hid hX.out
      have hY9 : Hid ((wr.drewN nq).heap[xb + 1]? = _) := Lib.hid hY.out
      go_wp2
      go_roundw
      case rel => exact ⟨k + 1, by go_num, by omega, hs3, hB9, hX9, hY9⟩
      case measure => simp [RowKit.intOf]; omega
    · obtain rfl : k = pool.length := by omega
      have hzk : ¬ (pool.length : Int) < (pool.length : Int) := by omega
      have hpe := Lib.hid (list_same hq_pool.out (fun j hj => hq.out j hj))
      clear hq HP HP'
      go_wp2
      clear c0 c1 c2 c3 c4 c5 c6 p0 p1 p2 p3 p4 p5 p6 hlx hly
      have hbo := hb
      have hXo := hX
      have hYo := hY
      clear hb hX hY
      go_loopw [6] (fun v6 wr => ∃ k : Nat, v6 = .int .i64 k ∧ k ≤ ifs.length ∧ Hid (∀ j, j < k → ifs[j]? = ifs'[j]?) ∧ Hid (Below w.heap.size w wr) ∧ Hid (wr.heap[xb]? = some (.cells #[.slice qA pool.length qc, .int .i64 fl, .int .i64 th, .int .i64 su, .slice qI ifs.length qd, .slice qX flds.length qe, .slice qY mths.length qg] 53 (0, 0))) ∧ Hid (wr.heap[xb + 1]? = some (.cells #[.slice rA pool'.length rc, .int .i64 fl, .int .i64 th, .int .i64 su, .slice rI ifs'.length rd, .slice rX flds'.length re, .slice rY mths'.length rg] 53 (0, 0)))) (fun v6 _ => ifs.length - (RowKit.intOf v6).toNat)
      case atStart => exact ⟨0, by go_num, Nat.zero_le _, Lib.hid (fun j hj => by omega), hbo, hXo, hYo⟩
      case round =>
        clear hbo hXo hYo
        obtain ⟨k, rfl, hk, hq, hb, hX, hY⟩ := hrel
        obtain ⟨c0, c1, c2, c3, c4, c5, c6⟩ := cells7s hX.out
        obtain ⟨p0, p1, p2, p3, p4, p5, p6⟩ := cells7s hY.out
        have hlx := blk_lt hX.out
        have hly := blk_lt hY.out
        by_cases hlt : k < ifs.length
        · have hlt2 : k < ifs'.length := by have := hq_ifs.out; omega
          have hzk : (k : Int) < (ifs.length : Int) := by omega
          have hzk2 : (k : Int) < (ifs'.length : Int) := by omega
          have hz0 : (0 : Int) ≤ (k : Int) := by omega
          obtain ⟨b, o, rfl, hrg⟩ := HI.out.2 (by omega)
          obtain ⟨b', o', rfl, hrg'⟩ := HI'.out.2 (by omega)
          have D0 := cell_below hb.out (hrg k hlt)
          have E0 := cell_below hb.out (hrg' k hlt2)
          have hn2 : Hid (¬ ifs.getD k 0 = ifs'.getD k 0 → R = false) := Lib.hid (fun q => hNo.out (fun e => q (by
            have h1 : ifs = ifs' := congrArg Sp.Fl.ifaces e
            subst h1
            rfl)))
          have hs2 : Hid (ifs.getD k 0 = ifs'.getD k 0 → ∀ j, j < k + 1 → ifs[j]? = ifs'[j]?) := Lib.hid (fun q j hj => by
            by_cases hjk : j = k
            · subst hjk
              rw [List.getD_eq_getElem?_getD, List.getD_eq_getElem?_getD, List.getElem?_eq_getElem hlt, List.getElem?_eq_getElem hlt2] at q
              rw [List.getElem?_eq_getElem hlt, List.getElem?_eq_getElem hlt2]
              exact congrArg some q
            · exact hq.out j (by omega))
          clear hrg hrg'
          generalize ifs.getD k 0 = a1 at *
          generalize ifs'.getD k 0 = b1 at *
          by_cases u1 : a1 = b1
          rotate_left
          · have hnn := hn2.out u1
            subst hnn
            have uu : (a1 != b1) = true := by simp [u1]
            go_wp2
            go_quiet (fail)
            have hB9 : Hid (Below w.heap.size w (wr.drewN nq)) := Lib.hid ⟨hb.out.os, hb.out.tape, hb.out.output, hb.out.size, hb.out.block⟩
            go_wp2
            go_ret
            exact ⟨rfl, hB9.out⟩
          subst u1
          have uu : (a1 != a1) = false := by simp
          have hs3 := Lib.hid (hs2.out rfl)
          clear hn2
          go_wp2
          go_quiet (fail)
          have hB9 : Hid (Below w.heap.size w (wr.drewN nq)) := Lib.hid ⟨hb.out.os, hb.out.tape, hb.out.output, hb.out.size, hb.out.block⟩
          have hX9 : Hid ((wr.drewN nq).heap[xb]? = _) := Lib.hid hX.out
          have hY9 : Hid ((wr.drewN nq).heap[xb + 1]? = _) := Lib.hid hY.out
          go_wp2
          go_roundw
          case rel => exact ⟨k + 1, by go_num, by omega, hs3, hB9, hX9, hY9⟩
          case measure => simp [RowKit.intOf]; omega
        · obtain rfl : k = ifs.length := by omega
          have hzk : ¬ (ifs.length : Int) < (ifs.length : Int) := by omega
          have hie := list_same hq_ifs.out (fun j hj => hq.out j hj)
          have hRR := Lib.hid (hYes.out (by first | rfl | trivial) (by first | rfl | trivial) (by first | rfl | trivial) hpe.out hie)
          clear hq HI HI' hie hpe hYes hNo
          go_wp2_with fail
          refine (kf.out _ hb.out).mono ?_
          rintro e w5 ⟨rfl, hb5⟩
          have B5 := Lib.hid (below_then hb.out hb.out.size hb5)
          have X5 := blk_below hX.out hb5
          have Y5 := blk_below hY.out hb5
          clear c0 c1 c2 c3 c4 c5 c6 p0 p1 p2 p3 p4 p5 p6 hlx hly hb hX hY hb5 kf
          obtain ⟨c0, c1, c2, c3, c4, c5, c6⟩ := cells7s X5
          obtain ⟨p0, p1, p2, p3, p4, p5, p6⟩ := cells7s Y5
          have hlx := blk_lt X5
          have hly := blk_lt Y5
          go_wp2_with fail
          refine (km.out _ B5.out).mono ?_
          rintro e w6 ⟨rfl, hb6⟩
          have B6 := Lib.hid (below_then B5.out B5.out.size hb6)
          clear c0 c1 c2 c3 c4 c5 c6 p0 p1 p2 p3 p4 p5 p6 hlx hly hb6 km
          have hR9 := hRR.out
          subst hR9
          cases R1 with
          | false =>
            go_wp2
            go_ret
            exact ⟨rfl, B6.out⟩
          | true =>
            cases R2 with
            | false =>
              go_wp2
              go_ret
              exact ⟨rfl, B6.out⟩
            | true =>
              go_wp2
              go_ret
              exact ⟨rfl, B6.out⟩
end Go.Proofs.YthpfknlgfkecpaaDoor
end
