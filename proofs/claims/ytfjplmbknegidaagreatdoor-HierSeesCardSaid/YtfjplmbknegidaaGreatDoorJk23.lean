/-
  Texts of the proof, joined: each says at its head what it proves.
-/
import Derived.Test.YtfjplmbknegidaaGreatDoorJk21
import Derived.Test.YtfjplmbknegidaaGreatDoorJk12
import Derived.Deep.RegionHeld3
import Derived.Deep.CutRange
import Derived.RegionTactic
import Derived.Lib.SlBytesConst
import Derived.Deep.DeepCutAuto
section
/-
  Walk of chapter 3's Encode. (Printed by gen_enc.py.)
-/
set_option linter.unusedVariables false
set_option linter.unusedSimpArgs false
namespace Go.Proofs.YtfjplmbknegidaaGreatDoor
open Go.RowKit Go.Lib

theorem Sp.putsL_length (l : List Int) : (Sp.putsL l).length = 2 * l.length := by
  induction l with
  | nil => rfl
  | cons n l ih => rw [Sp.putsL, List.length_append, Sp.putL_length, ih, List.length_cons]; omega
theorem Em.below {w W W' : World} {X : Array Value} {v : Value} {xs : List Int} (h : Em w X W v xs) (hb : Below W.heap.size W W') : Em w X W' v xs := ⟨own_below h.own hb, below_then h.bel (by have := h.lt; omega) hb, blk_below h.box hb⟩
theorem Tm.below {W W' : World} {v : Value} {tb : Nat} {o : Obj} (h : Tm W v tb o) (hb : Below W.heap.size W W') : Tm W' v tb o := ⟨blk_below h.1 hb, h.2⟩
theorem Em.str {w W W' : World} {X : Array Value} {v v' : Value} {xs : List Int} (h : Em w X W v xs) (s : ByteArray) (ho : W'.ownsRow (w.heap.size + 1) 5 1 v' (xs.length + s.size) (numc xs ++ Lib.strCells s)) (hg : W.grownBy W' v.ownBlock) : Em w X W' v' (xs ++ Sp.nums s) := by
  refine ⟨?_, h.bel.grown hg (by have := h.lt; omega) (fun q hq => by have := own_base h.own q hq; omega), blk_grown h.box hg (fun q => by have := own_base h.own _ q.symm; omega)⟩
  rw [List.length_append, nums_length, numc_append, ← strCells_numc]
  exact ho
theorem Tm.str {w W W' : World} {X : Array Value} {v v' : Value} {ys : List Int} {tb : Nat} {C : Array Value} {T : TypeId} (h : Tm W v tb (.cells C T (0, 0))) (hT : T ≠ 5) (he : Em w X W' v' ys) (hg : W.grownBy W' v.ownBlock) : Tm W' v' tb (.cells C T (0, 0)) := by
  have h1 := blk_grown h.1 hg (fun q => h.2 q.symm)
  refine ⟨h1, fun q => ?_⟩
  rcases he.own.2 with ⟨rfl, _⟩ | ⟨g, cap, cur, rfl, _, hgb, _⟩
  · simp [Value.ownBlock] at q
  · have : g = tb := by simpa [Value.ownBlock] using q
    subst this
    rw [h1] at hgb
    injection hgb with hgb
    injection hgb with _ e _
    exact hT e
theorem tm012 {W : World} {v : Value} {tb : Nat} {a b c d e f g : Value} {T : TypeId} (h : Tm W v tb (.cells #[a, b, c, d, e, f, g] T (0, 0))) : W.cell? ⟨tb, 0, none⟩ = some a ∧ W.cell? ⟨tb, 1, none⟩ = some b ∧ W.cell? ⟨tb, 2, none⟩ = some c := ⟨(blk_cell h.1 0 _ rfl).1, (blk_cell h.1 1 _ rfl).1, (blk_cell h.1 2 _ rfl).1⟩
theorem tm345 {W : World} {v : Value} {tb : Nat} {a b c d e f g : Value} {T : TypeId} (h : Tm W v tb (.cells #[a, b, c, d, e, f, g] T (0, 0))) : W.cell? ⟨tb, 3, none⟩ = some d ∧ W.cell? ⟨tb, 4, none⟩ = some e ∧ W.cell? ⟨tb, 5, none⟩ = some f := ⟨(blk_cell h.1 3 _ rfl).1, (blk_cell h.1 4 _ rfl).1, (blk_cell h.1 5 _ rfl).1⟩
theorem tm56 {W : World} {v : Value} {tb : Nat} {a b c d e f g : Value} {T : TypeId} (h : Tm W v tb (.cells #[a, b, c, d, e, f, g] T (0, 0))) : W.cell? ⟨tb, 5, none⟩ = some f ∧ W.cell? ⟨tb, 6, none⟩ = some g := ⟨(blk_cell h.1 5 _ rfl).1, (blk_cell h.1 6 _ rfl).1⟩
theorem em123 {w W : World} {v : Value} {xs : List Int} {a b c d e f g : Value} (h : Em w #[a, b, c, d, e, f, g] W v xs) : W.cell? ⟨w.heap.size, 1, none⟩ = some b ∧ W.cell? ⟨w.heap.size, 2, none⟩ = some c ∧ W.cell? ⟨w.heap.size, 3, none⟩ = some d := ⟨(blk_cell h.box 1 _ rfl).1, (blk_cell h.box 2 _ rfl).1, (blk_cell h.box 3 _ rfl).1⟩
theorem em4 {w W : World} {v : Value} {xs : List Int} {a b c d e f g : Value} (h : Em w #[a, b, c, d, e, f, g] W v xs) : W.cell? ⟨w.heap.size, 4, none⟩ = some e := (blk_cell h.box 4 _ rfl).1
theorem step_append_run {P : Program} (w : World) {ops : Array Oper} {o : Oper} {a : Act} {K : Act → World → Prop} {Q : Exit → Act → World → Prop} {E : Prop} (hgd : o.guard = none) (s x : Operand) (t u : TypeId)
    (ho : o.op = .call { callee := .builtin .append, args := #[s, x], argTypes := #[t, u] }) (v y : Value) (hs : a.eval s = v) (hx : a.eval x = y) (v' : Value) (w' : World)
    (hr : (Builtin.append_ #[t, u] o.type #[v, y]).run P w = .ok v' w') (h : K (a.put o.dst v') w') : if Region.wanted o (yielded ops a.tmps) = true then Oper.wp P o a w K Q else E := by
  have hw : Region.wanted o (yielded ops a.tmps) = true := by simp [Region.wanted, hgd]
  rw [if_pos hw]
  unfold Oper.wp execOp
  simp only [ho, resolve, invoke, builtin, Sem.run_bind, Sem.run_pure, Result.andThen_ok, List.map_toArray, List.map_cons, List.map_nil, hs, hx, hr]
  exact h
theorem encS_size (s : ByteArray) : (Sp.encS s).1.size ≤ 65535 := by
  rw [Sp.encS]
  split
  · exact by decide
  · split
    · exact by decide
    · rw [Sp.size_nums]; omega
theorem drop_flat {α β : Type} (f : α → List β) (l : List α) (k : Nat) (hk : k < l.length) : (l.drop k).flatMap f = f l[k] ++ (l.drop (k + 1)).flatMap f := by rw [List.drop_eq_getElem_cons hk, List.flatMap_cons]

set_option maxHeartbeats 40000000 in
set_option maxRecDepth 100000 in
theorem fileEnc_any (q : Sp.At) (F : FlP) (w : World) (hr : RdF w q F) (hF : FlOk F) (hT : Tabs w) (hlen : (Sp.bytesS F.fl).length ≤ 900000000) :
    Calls Tryz.prog 64 #[.agg (flC q F)] w fun e w' => e = .returned (.tuple #[.string (Sp.encodeF F.fl).1, .int .i64 (Sp.encodeF F.fl).2]) ∧ Below w.heap.size w w' := by
  obtain ⟨i0, hi, hz0, hz1, hz2⟩ := info_parts infoByte
  have HE := Lib.hid (show Sp.encodeF F.fl = _ by rw [Sp.encodeF])
  generalize Sp.encodeF F.fl = R at HE ⊢
  have hK := Lib.hid (blk_new w (.cells (flC q F) 63))
  have hB := (Below.refl w.heap.size w).alloc (Nat.le_refl _) (.cells (flC q F) 63)
  have KP : ∀ X : Array Value, X = flC q F → Hid (∀ W, Below w.heap.size w W → Calls Tryz.prog 78 #[.agg X] W fun e w' => e = .returned (.int .i64 (Sp.partsS F.fl)) ∧ Below W.heap.size W w') := by
    rintro X rfl
    exact Lib.hid (fun W hb => parts_any q F W (rdF_below hr hb) hF (hT.below hb))
  have KE := Lib.hid (fun (c : Sp.Cn) (hc : c ∈ F.pool) W hb => encode_any c.text W (by have := hF.texts c hc; omega) (hT.below hb))
  have HP := Lib.hid hr.pool.2
  have HX := Lib.hid hr.fields.1.2
  have HY := Lib.hid hr.methods.1.2
  have HH := Lib.hid hr.methods.2
  have HI := Lib.hid hr.ifaces
  have hl1 := hr.pool.1
  have hl2 := hr.ifaces.1
  have hl3 := hr.fields.1.1
  have hl4 := hr.methods.1.1
  generalize Sp.partsS F.fl = pt at *
  have hlen1 := hlen
  unfold Sp.bytesS at HE hlen1
  clear hr hF hT hlen
  obtain ⟨pool, fl, th, su, ifs, flds, mths⟩ := F
  obtain ⟨qA, qc, qI, qd, qX, qe, qY, qg⟩ := q
  have kp := KP #[.slice qA pool.length qc, .int .i64 fl, .int .i64 th, .int .i64 su, .slice qI ifs.length qd, .slice qX flds.length qe, .slice qY mths.length qg] rfl
  clear KP
  have hfl : flC ⟨qA, qc, qI, qd, qX, qe, qY, qg⟩ ⟨pool, fl, th, su, ifs, flds, mths⟩ = #[.slice qA pool.length qc, .int .i64 fl, .int .i64 th, .int .i64 su, .slice qI ifs.length qd, .slice qX flds.length qe, .slice qY mths.length qg] := rfl
  rw [hfl] at hK hB ⊢
  clear hfl
  unfold FlP.fl at HE hlen1
  simp only [] at HE hlen1 KE HP HX HY HH HI hl1 hl2 hl3 hl4
  have hmF : (mths.map (·.1)).flatMap Sp.methodB = mths.flatMap (fun m => Sp.methodB m.1) := by rw [List.flatMap_map]
  have hfF : (flds.map (·.1)).flatMap Sp.fieldB = flds.flatMap (fun m => Sp.fieldB m.1) := by rw [List.flatMap_map]
  rw [hmF, hfF, List.length_map, List.length_map] at HE hlen1
  clear hmF hfF
  have hL := Lib.hid hlen1
  clear hlen1
  have c0 := (blk_cell hK.out 0 _ rfl).1
  have c1 := (blk_cell hK.out 1 _ rfl).1
  have c2 := (blk_cell hK.out 2 _ rfl).1
  have c3 := (blk_cell hK.out 3 _ rfl).1
  have c4 := (blk_cell hK.out 4 _ rfl).1
  have c5 := (blk_cell hK.out 5 _ rfl).1
  have c6 := (blk_cell hK.out 6 _ rfl).1
  go_enter Tryz.func64, Tryz.ntmps64
  go_wp2_with fail
  refine (kp.out _ hB).mono ?_
  rintro e w1 ⟨rfl, hb1⟩
  have hK1 := Lib.hid (blk_below hK.out hb1)
  have hB1 := below_then hB hB.size hb1
  have hz1' := hB1.size
  clear hK hB hb1 kp c0 c1 c2 c3 c4 c5 c6
  by_cases hp : pt = 0
  · subst hp
    have HE1 := HE.out
    rw [if_neg (by simp)] at HE1
    have HE2 := Lib.hid HE1
    clear HE HE1
    obtain ⟨c0, c1, c2, c3, c4, c5, c6⟩ := flC_box (q := ⟨qA, qc, qI, qd, qX, qe, qY, qg⟩) (F := ⟨pool, fl, th, su, ifs, flds, mths⟩) hK1.out
    simp only [] at c0 c1 c2 c3 c4 c5 c6
    have hlk1 := blk_lt hK1.out
    have hcv := Lib.run_convert_bytes_const (P := Tryz.prog) w1 114 5 #[.int .u8 67, .int .u8 82, .int .u8 85, .int .u8 88] 4 4 Tryz.underlying114 Tryz.underlying5
    have hG0 := Lib.hid (row_four (w.heap.size + 1) w1 67 82 85 88 (4, 5) (by omega))
    have hBa := Lib.hid (hB1.alloc hz1' (.cells #[.int .u8 67, .int .u8 82, .int .u8 85, .int .u8 88] 5 (4, 5)))
    have hKa := Lib.hid (blk_old (o := .cells #[.int .u8 67, .int .u8 82, .int .u8 85, .int .u8 88] 5 (4, 5)) hK1.out)
    have hBz := hBa.out.size
    have hnb : ((w1.alloc (.cells #[.int .u8 67, .int .u8 82, .int .u8 85, .int .u8 88] 5 (4, 5))).alloc (.cells #[.int .i64 pool.length] 3)).heap[w1.heap.size + 1]? = some (.cells #[.int .i64 pool.length] 3 (0, 0)) := by
      rw [show w1.heap.size + 1 = (w1.alloc (.cells #[.int .u8 67, .int .u8 82, .int .u8 85, .int .u8 88] 5 (4, 5))).heap.size by simp]
      exact blk_new _ _
    have kf := Lib.hid (puts_first (w := w) (W := (w1.alloc (.cells #[.int .u8 67, .int .u8 82, .int .u8 85, .int .u8 88] 5 (4, 5))).alloc (.cells #[.int .i64 pool.length] 3)) (X := #[.slice qA pool.length qc, .int .i64 fl, .int .i64 th, .int .i64 su, .slice qI ifs.length qd, .slice qX flds.length qe, .slice qY mths.length qg]) (v := .slice (some ⟨w1.heap.size, 0, none⟩) 4 4) (xs := [67, 82, 85, 88]) (hG0.out.alloc _) (hBa.out.alloc hBz _) (blk_old hKa.out) (a := w1.heap.size + 1) ⟨hnb, by simp [Value.ownBlock]⟩ [(pool.length : Int)] (by simp) rfl 1 1 rfl (by simp))
    clear hnb
    go_wp2_with fail
    refine kf.out.mono ?_
    rintro e w2 ⟨v2, rfl, hE2, _⟩
    clear kf hG0 hBa hKa hBz hcv hK1 hB1 hz1' hlk1 c0 c1 c2 c3 c4 c5 c6
    have HX1 := Lib.hid (show ([67, 82, 85, 88] ++ Sp.putsL [(pool.length : Int)]) ++ (pool.drop 0).flatMap Sp.constB = [67, 82, 85, 88] ++ Sp.putsL [(pool.length : Int)] ++ pool.flatMap Sp.constB from rfl)
    have hE2' := Lib.hid hE2
    obtain ⟨c0, c1, c2, c3, c4, c5, c6⟩ := flC_box (q := ⟨qA, qc, qI, qd, qX, qe, qY, qg⟩) (F := ⟨pool, fl, th, su, ifs, flds, mths⟩) hE2.box
    simp only [] at c0 c1 c2 c3 c4 c5 c6
    clear hE2
    go_wp2
    go_loopw [5, 31] (fun v5 v31 wr => ∃ (k : Nat) (xs : List Int), v31 = .int .i64 k ∧ k ≤ pool.length ∧ Hid (Em w #[.slice qA pool.length qc, .int .i64 fl, .int .i64 th, .int .i64 su, .slice qI ifs.length qd, .slice qX flds.length qe, .slice qY mths.length qg] wr v5 xs) ∧ Hid (xs ++ (pool.drop k).flatMap Sp.constB = [67, 82, 85, 88] ++ Sp.putsL [(pool.length : Int)] ++ pool.flatMap Sp.constB)) (fun _ v31 _ => pool.length - (RowKit.intOf v31).toNat)
    case atStart => exact ⟨0, _, by go_num, Nat.zero_le _, hE2', HX1⟩
    case round =>
      clear hE2' HX1 c0 c1 c2 c3 c4 c5 c6
      obtain ⟨k, xs, rfl, hk, hE, hx⟩ := hrel
      have hlx : Hid (xs.length ≤ 900000000) := Lib.hid (by
        have h1 := congrArg List.length hx.out
        have h2 := hL.out
        simp only [List.length_append] at h1 h2
        omega)
      by_cases hlt : k < pool.length
      · obtain ⟨b, o, rfl, hrg⟩ := HP.out (by omega)
        obtain ⟨d0, d1, d2, d3, d4, d5⟩ := cn_cells hrg hlt
        have D0 := cell_below hE.out.bel d0
        have D1 := cell_below hE.out.bel d1
        have D2 := cell_below hE.out.bel d2
        have D3 := cell_below hE.out.bel d3
        have D4 := cell_below hE.out.bel d4
        have D5 := cell_below hE.out.bel d5
        have hzk : (k : Int) < (pool.length : Int) := by omega
        have ke1 := KE.out _ (List.getElem_mem hlt)
        have hx1 := hx.out
        rw [drop_flat _ _ _ hlt] at hx1
        clear hx hrg d0 d1 d2 d3 d4 d5
        generalize pool[k] = cq at *
        obtain ⟨ct, cs, cn, ca, cb, cc⟩ := cq
        simp only [] at D0 D1 D2 D3 D4 D5 ke1
        have ke := Lib.hid ke1
        have hx := Lib.hid hx1
        clear ke1 hx1
        have hEa := hE.out.alloc (.cells #[.int .i64 ct, .string cs, .int .i64 cn, .int .i64 ca, .int .i64 cb, .int .i64 cc] 93)
        have hTa := Tm.new hE.out (.cells #[.int .i64 ct, .string cs, .int .i64 cn, .int .i64 ca, .int .i64 cb, .int .i64 cc] 93)
        go_wp2_with fail
        refine (put_em hEa ct 1 (by decide) (by decide) (by have := hlx.out; omega)).mono ?_
        rintro e w3 ⟨v3, rfl, hE3, hO3⟩
        have hT3 := hTa.onto hO3
        clear hEa hTa hO3 hE D0 D1 D2 D3 D4 D5
        have d0 := (blk_cell hT3.1 0 _ rfl).1
        have hE3' := Lib.hid hE3
        have hT3' := Lib.hid hT3
        by_cases t1 : ct = 1
        · subst t1
          have d1 := (blk_cell hT3.1 1 _ rfl).1
          clear hE3 hT3
          go_wp2_with fail
          refine (ke.out _ hE3'.out.bel).mono ?_
          rintro e w4 ⟨rfl, hb4⟩
          have hE4 := hE3'.out.below hb4
          have hx2 := hx.out
          rw [Sp.constB, if_pos rfl] at hx2
          simp only [] at hx2
          have hsz : Hid ((Sp.encS cs).1.size ≤ 65535) := Lib.hid (encS_size cs)
          generalize Sp.encS cs = en at *
          obtain ⟨es, ee⟩ := en
          simp only [] at hx2 hsz
          have hx := Lib.hid hx2
          clear hb4 hE3' hT3' d0 d1 ke hx2
          go_wp2_with fail
          refine (puts_blk (hE4.alloc _) (Tm.new hE4 _) [(es.size : Int)] rfl 1 1 rfl (by have := hlx.out; simp [Sp.putL_length]; omega)).mono ?_
          rintro e w5 ⟨v5, rfl, hE5, _⟩
          clear hE4
          have hE5' := Lib.hid hE5
          have hs5 := hE5.max
          go_wp2_with (at_builtin; refine wpList_append_own_string _ rfl _ _ 114 9 rfl (w.heap.size + 1) 5 i0 Tryz.underlying114 Tryz.underlying9 hi hz0 hz1 hz2 _ _ _ rfl hE5.own es rfl ?c1 ?c2 ?c3 ?_)
          case c1 => have := hlx.out; have := hsz.out; unfold maxLen; simp [Sp.putL_length, Sp.putsL_length]; omega
          case c2 => have := hlx.out; have := hsz.out; simp [Sp.putL_length, Sp.putsL_length]; omega
          case c3 => have := hE5.lt; omega
          intro v6 w6 ho6 hg6 _
          have hE6 := Lib.hid (hE5'.out.str es (by have := ho6; simp only [List.length_append, List.append_assoc, Nat.add_assoc] at this ⊢; exact this) hg6)
          have hx6 := Lib.hid (show (((xs ++ Sp.putL 1 1) ++ Sp.putsL [(es.size : Int)]) ++ Sp.nums es) ++ (pool.drop (k + 1)).flatMap Sp.constB = _ by have := hx.out; simpa only [List.append_assoc] using this)
          clear ho6 hg6 hE5 hE5' hs5 hx
          go_wp2
          go_roundw
          case rel => exact ⟨k + 1, _, by go_num, by omega, hE6, Lib.hid (by have := hx6.out; simpa only [List.append_assoc] using this)⟩
          case measure => simp [RowKit.intOf]; omega
        · have t1b : (ct == 1) = false := by simp [t1]
          by_cases t2 : ct = 2
          · subst t2
            have d2 := (blk_cell hT3.1 2 _ rfl).1
            have hx2 := hx.out
            rw [Sp.constB, if_neg (by simp), if_pos rfl] at hx2
            simp only [] at hx2
            have hx := Lib.hid hx2
            clear hT3 hx2 ke t1
            go_wp2_with fail
            refine (put_em hE3 cn 8 (by decide) (by decide) (by have := hlx.out; simp [Sp.putL_length]; omega)).mono ?_
            rintro e w4 ⟨v4, rfl, hE4, _⟩
            have hE4' := Lib.hid hE4
            clear hE3 hE3' hT3' d0 d2 hE4
            go_wp2
            go_roundw
            case rel => exact ⟨k + 1, _, by go_num, by omega, hE4', Lib.hid (by have := hx.out; simpa only [List.append_assoc] using this)⟩
            case measure => simp [RowKit.intOf]; omega
          · have t2b : (ct == 2) = false := by simp [t2]
            by_cases t5 : ct = 5 ∨ ct = 6
            · have d3 := (blk_cell hT3.1 3 _ rfl).1
              have d4 := (blk_cell hT3.1 4 _ rfl).1
              have d5 := (blk_cell hT3.1 5 _ rfl).1
              have hx2 := hx.out
              rw [Sp.constB, if_neg t1, if_neg t2, if_pos t5] at hx2
              simp only [] at hx2
              have hx := Lib.hid hx2
              clear hT3 hx2 ke
              rcases t5 with rfl | rfl
              all_goals
                clear t1 t2
                go_wp2_with fail
                refine (puts_blk (hE3.alloc _) (Tm.new hE3 _) [ca, cb, cc] rfl 3 3 rfl (by have := hlx.out; simp [Sp.putL_length]; omega)).mono ?_
                rintro e w4 ⟨v4, rfl, hE4, _⟩
                have hE4' := Lib.hid hE4
                clear hE3 hE3' hT3' d0 d3 d4 d5 hE4
                go_wp2
                go_roundw
                case rel => exact ⟨k + 1, _, by go_num, by omega, hE4', Lib.hid (by have := hx.out; simpa only [List.append_assoc] using this)⟩
                case measure => simp [RowKit.intOf]; omega
            · have t5b : (ct == 5) = false := by simp; intro q; exact t5 (.inl q)
              have t6b : (ct == 6) = false := by simp; intro q; exact t5 (.inr q)
              have d3 := (blk_cell hT3.1 3 _ rfl).1
              have hx2 := hx.out
              rw [Sp.constB, if_neg t1, if_neg t2, if_neg t5] at hx2
              simp only [] at hx2
              have hx := Lib.hid hx2
              clear hT3 hx2 ke t1 t2 t5
              go_wp2_with fail
              refine (puts_blk (hE3.alloc _) (Tm.new hE3 _) [ca] rfl 1 1 rfl (by have := hlx.out; simp [Sp.putL_length]; omega)).mono ?_
              rintro e w4 ⟨v4, rfl, hE4, _⟩
              have hE4' := Lib.hid hE4
              clear hE3 hE3' hT3' d0 d3 hE4
              go_wp2
              go_roundw
              case rel => exact ⟨k + 1, _, by go_num, by omega, hE4', Lib.hid (by have := hx.out; simpa only [List.append_assoc] using this)⟩
              case measure => simp [RowKit.intOf]; omega
      · obtain rfl : k = pool.length := by omega
        have hzk : ¬ (pool.length : Int) < (pool.length : Int) := by omega
        have hx1 := hx.out
        rw [List.drop_length, List.flatMap_nil, List.append_nil] at hx1
        subst hx1
        clear hx KE HP
        generalize [67, 82, 85, 88] ++ Sp.putsL [(pool.length : Int)] ++ pool.flatMap Sp.constB = P1 at *
        have hLn := hL.out
        simp only [List.length_append, Sp.putL_length, Sp.putsL_length, List.length_cons, List.length_nil] at hLn
        clear hL
        have hL := Lib.hid hLn
        clear hLn
        go_upto_region 20 with fail
        go_cut [5] (fun s5 wx => Hid (Em w #[.slice qA pool.length qc, .int .i64 fl, .int .i64 th, .int .i64 su, .slice qI ifs.length qd, .slice qX flds.length qe, .slice qY mths.length qg] wx s5 (P1 ++ (Sp.putL fl 1 ++ Sp.putsL [th, su]))))
        case first =>
          have hEd := Lib.hid hE.out.drew
          have hEe := Lib.hid ((hE.out.alloc (.cells #[.int .i64 th, .int .i64 su] 3)).drew)
          have hTe := Lib.hid ((Tm.new hE.out (.cells #[.int .i64 th, .int .i64 su] 3)).drew)
          have kA := Lib.hid (show Calls Tryz.prog 80 #[u5, .int .i64 fl, .int .i64 1] wr.drew (fun e W' => ∃ v', e = .returned v' ∧ Em w #[.slice qA pool.length qc, .int .i64 fl, .int .i64 th, .int .i64 su, .slice qI ifs.length qd, .slice qX flds.length qe, .slice qY mths.length qg] W' v' (P1 ++ Sp.putL fl 1) ∧ Onto u5 v' wr.drew W') from put_em hEd.out fl 1 (by decide) (by decide) (by have := hlx.out; omega))
          have kB := Lib.hid (show Calls Tryz.prog 80 #[u5, .int .i64 fl, .int .i64 1] (wr.alloc (.cells #[.int .i64 th, .int .i64 su] 3)).drew (fun e W' => ∃ v', e = .returned v' ∧ Em w #[.slice qA pool.length qc, .int .i64 fl, .int .i64 th, .int .i64 su, .slice qI ifs.length qd, .slice qX flds.length qe, .slice qY mths.length qg] W' v' (P1 ++ Sp.putL fl 1) ∧ Onto u5 v' (wr.alloc (.cells #[.int .i64 th, .int .i64 su] 3)).drew W') from put_em hEe.out fl 1 (by decide) (by decide) (by have := hlx.out; omega))
          go_region_held3 (fun w' => w'.cell? ⟨w.heap.size, 1, none⟩ = some (.int .i64 fl) ∧ w'.cell? ⟨w.heap.size, 2, none⟩ = some (.int .i64 th) ∧ w'.cell? ⟨w.heap.size, 3, none⟩ = some (.int .i64 su)) (first | with_reducible exact em123 hEd.out | with_reducible exact em123 hEe.out | with_reducible exact em123 (by with_reducible assumption) | with_reducible exact em123 (Em.alloc (by with_reducible assumption) _)) (first | (go_at_call 80; (first | with_reducible refine kA.out.mono ?_ | with_reducible refine kB.out.mono ?_); rintro e w3 ⟨v3, rfl, hE3, hO3⟩) | (go_at_call 79; (first | (have kC : Calls Tryz.prog 79 #[v3, .slice (some ⟨w3.heap.size, 0, none⟩) 2 2] (w3.alloc (.cells #[.int .i64 th, .int .i64 su] 3)) (fun e W' => ∃ v', e = .returned v' ∧ Em w #[.slice qA pool.length qc, .int .i64 fl, .int .i64 th, .int .i64 su, .slice qI ifs.length qd, .slice qX flds.length qe, .slice qY mths.length qg] W' v' (P1 ++ Sp.putL fl 1 ++ Sp.putsL [th, su]) ∧ Onto v3 v' (w3.alloc (.cells #[.int .i64 th, .int .i64 su] 3)) W') := puts_blk (hE3.alloc _) (Tm.new hE3 _) [th, su] rfl 2 2 rfl (by have := hlx.out; simp [Sp.putL_length]; omega); with_reducible refine kC.mono ?_) | (have kD : Calls Tryz.prog 79 #[v3, .slice (some ⟨wr.heap.size, 0, none⟩) 2 2] w3 (fun e W' => ∃ v', e = .returned v' ∧ Em w #[.slice qA pool.length qc, .int .i64 fl, .int .i64 th, .int .i64 su, .slice qI ifs.length qd, .slice qX flds.length qe, .slice qY mths.length qg] W' v' (P1 ++ Sp.putL fl 1 ++ Sp.putsL [th, su]) ∧ Onto v3 v' w3 W') := puts_blk hE3 (hTe.out.onto hO3) [th, su] rfl 2 2 rfl (by have := hlx.out; simp [Sp.putL_length]; omega); with_reducible refine kD.mono ?_)); rintro e w4 ⟨v4, rfl, hE4, hO4⟩))
          all_goals
            go_wp2
            go_meet
            exact Lib.hid (by have h := hE4; rw [List.append_assoc] at h; exact h)
        case rest =>
          have hE := Lib.hid hcut.out
          clear hcut hlx
          have hEd := Lib.hid hE.out.drew
          have kA := Lib.hid (show Calls Tryz.prog 80 #[u5, .int .i64 (ifs.length : Int), .int .i64 1] wc.drew (fun e W' => ∃ v', e = .returned v' ∧ Em w #[.slice qA pool.length qc, .int .i64 fl, .int .i64 th, .int .i64 su, .slice qI ifs.length qd, .slice qX flds.length qe, .slice qY mths.length qg] W' v' ((P1 ++ (Sp.putL fl 1 ++ Sp.putsL [th, su])) ++ Sp.putL (ifs.length : Int) 1) ∧ Onto u5 v' wc.drew W') from put_em hEd.out (ifs.length : Int) 1 (by decide) (by decide) (by have := hL.out; simp only [List.length_append, Sp.putL_length, Sp.putsL_length, List.length_cons, List.length_nil]; omega))
          go_wp2_with fail
          go_region_held3 (fun w' => w'.cell? ⟨w.heap.size, 4, none⟩ = some (.slice qI ifs.length qd)) (first | with_reducible exact em4 hEd.out | with_reducible exact em4 (by with_reducible assumption)) (first | (go_at_call 80; with_reducible refine kA.out.mono ?_; rintro e w3 ⟨v3, rfl, hE3, hO3⟩) | (go_at_call 79; refine (puts_old hE3 qI qd ifs HI.out (by have := hL.out; simp only [List.length_append, Sp.putL_length, Sp.putsL_length, List.length_cons, List.length_nil]; omega)).mono ?_; rintro e w4 ⟨v4, rfl, hE4, hO4⟩))
          have hEx := hE4
          rw [List.append_assoc] at hEx
          have hE5 := Lib.hid hEx
          clear hEx hE4 hO4 hE3 hO3 hE hEd kA
          have hE := hE5
          clear hE5
          obtain ⟨c0, c1, c2, c3, c4, c5, c6⟩ := flC_box (q := ⟨qA, qc, qI, qd, qX, qe, qY, qg⟩) (F := ⟨pool, fl, th, su, ifs, flds, mths⟩) hE.out.box
          simp only [] at c0 c1 c2 c3 c4 c5 c6
          go_wp2_with fail
          refine (put_em hE.out (flds.length : Int) 1 (by decide) (by decide) (by have := hL.out; simp only [List.length_append, Sp.putL_length, Sp.putsL_length, List.length_cons, List.length_nil]; omega)).mono ?_
          rintro e w5 ⟨v5, rfl, hE5, _⟩
          clear hE c0 c1 c2 c3 c4 c5 c6
          have hE5' := Lib.hid hE5
          obtain ⟨c0, c1, c2, c3, c4, c5, c6⟩ := flC_box (q := ⟨qA, qc, qI, qd, qX, qe, qY, qg⟩) (F := ⟨pool, fl, th, su, ifs, flds, mths⟩) hE5'.out.box
          simp only [] at c0 c1 c2 c3 c4 c5 c6
          clear hE5
          generalize hP4 : P1 ++ (Sp.putL fl 1 ++ Sp.putsL [th, su]) ++ (Sp.putL (ifs.length : Int) 1 ++ Sp.putsL ifs) ++ Sp.putL (flds.length : Int) 1 = P4 at *
          have hl4' : P4.length = P1.length + 7 + 2 * ifs.length := by rw [← hP4]; simp only [List.length_append, Sp.putL_length, Sp.putsL_length, List.length_cons, List.length_nil]; omega
          have hl4 := Lib.hid hl4'
          clear hP4 hl4'
          have HX1 := Lib.hid (show P4 ++ (flds.drop 0).flatMap (fun m => Sp.fieldB m.1) = P4 ++ flds.flatMap (fun m => Sp.fieldB m.1) from rfl)
          go_wp2

          go_loopw [5, 106] (fun v5 v106 wr => ∃ (k : Nat) (xs : List Int), v106 = .int .i64 k ∧ k ≤ flds.length ∧ Hid (Em w #[.slice qA pool.length qc, .int .i64 fl, .int .i64 th, .int .i64 su, .slice qI ifs.length qd, .slice qX flds.length qe, .slice qY mths.length qg] wr v5 xs) ∧ Hid (xs ++ (flds.drop k).flatMap (fun m => Sp.fieldB m.1) = P4 ++ flds.flatMap (fun m => Sp.fieldB m.1))) (fun _ v106 _ => flds.length - (RowKit.intOf v106).toNat)
          case atStart => exact ⟨0, _, by go_num, Nat.zero_le _, hE5', HX1⟩
          case round =>
            clear hE5' HX1 c0 c1 c2 c3 c4 c5 c6
            obtain ⟨k, xs, rfl, hk, hE, hx⟩ := hrel
            by_cases hlt : k < flds.length
            · obtain ⟨b, o, rfl, hrg⟩ := HX.out (by omega)
              obtain ⟨d0, d1, d2, d3, d4, d5, d6⟩ := mb_cells hrg hlt
              have D0 := cell_below hE.out.bel d0
              have D1 := cell_below hE.out.bel d1
              have D2 := cell_below hE.out.bel d2
              have D3 := cell_below hE.out.bel d3
              have D4 := cell_below hE.out.bel d4
              have D5 := cell_below hE.out.bel d5
              have D6 := cell_below hE.out.bel d6
              have hzk : (k : Int) < (flds.length : Int) := by omega
              have hx1 := hx.out
              rw [drop_flat _ _ _ hlt] at hx1
              have hlx : Hid (xs.length + (Sp.fieldB flds[k].1).length ≤ 900000000) := Lib.hid (by
                have h1 := congrArg List.length hx1
                have h2 := hL.out
                have h3 := hl4.out
                simp only [List.length_append, Sp.putL_length, Sp.putsL_length, List.length_cons, List.length_nil] at h1 h2
                omega)
              clear hx hrg d0 d1 d2 d3 d4 d5 d6
              generalize flds[k] = mq at *
              obtain ⟨⟨mf, mn, md, ms, ml, mc, mh⟩, mA, mcap⟩ := mq
              simp only [] at D0 D1 D2 D3 D4 D5 D6 hx1 hlx
              have hx := Lib.hid hx1
              clear hx1
              have hEa := Lib.hid (hE.out.alloc (.cells #[.int .i64 mf, .int .i64 mn, .int .i64 md, .int .i64 ms, .int .i64 ml, .string mc, .slice mA mh.length mcap] 105))
              have hTa := Lib.hid (Tm.new hE.out (.cells #[.int .i64 mf, .int .i64 mn, .int .i64 md, .int .i64 ms, .int .i64 ml, .string mc, .slice mA mh.length mcap] 105))
              go_upto_region 26 with fail
              clear D0 D1 D2 D3 D4 D5 D6 hE
              generalize wr.alloc (.cells #[.int .i64 mf, .int .i64 mn, .int .i64 md, .int .i64 ms, .int .i64 ml, .string mc, .slice mA mh.length mcap] 105) = W at *
              generalize wr.heap.size = tb at *
              have hE := hEa
              have hT := hTa
              clear hEa hTa
              have hEd := Lib.hid hE.out.drew
              have hEe := Lib.hid ((hE.out.alloc (.cells #[.int .i64 mn, .int .i64 md] 3)).drew)
              have hTd := Lib.hid hT.out.drew
              have hTe := Lib.hid ((Tm.new hE.out (.cells #[.int .i64 mn, .int .i64 md] 3)).drew)
              have hTf := Lib.hid ((hT.out.alloc (.cells #[.int .i64 mn, .int .i64 md] 3)).drew)
              have kA := Lib.hid (show Calls Tryz.prog 80 #[u5, .int .i64 mf, .int .i64 1] W.drew (fun e W' => ∃ v', e = .returned v' ∧ Em w #[.slice qA pool.length qc, .int .i64 fl, .int .i64 th, .int .i64 su, .slice qI ifs.length qd, .slice (some ⟨b, o, none⟩) flds.length qe, .slice qY mths.length qg] W' v' (xs ++ Sp.putL mf 1) ∧ Onto u5 v' W.drew W') from put_em hEd.out mf 1 (by decide) (by decide) (by have := hlx.out; (try simp only [List.length_append, Sp.putL_length, Sp.putsL_length, List.length_cons, List.length_nil]); omega))
              have kB := Lib.hid (show Calls Tryz.prog 80 #[u5, .int .i64 mf, .int .i64 1] (W.alloc (.cells #[.int .i64 mn, .int .i64 md] 3)).drew (fun e W' => ∃ v', e = .returned v' ∧ Em w #[.slice qA pool.length qc, .int .i64 fl, .int .i64 th, .int .i64 su, .slice qI ifs.length qd, .slice (some ⟨b, o, none⟩) flds.length qe, .slice qY mths.length qg] W' v' (xs ++ Sp.putL mf 1) ∧ Onto u5 v' (W.alloc (.cells #[.int .i64 mn, .int .i64 md] 3)).drew W') from put_em hEe.out mf 1 (by decide) (by decide) (by have := hlx.out; (try simp only [List.length_append, Sp.putL_length, Sp.putsL_length, List.length_cons, List.length_nil]); omega))
              go_region_held3 (fun w' => w'.cell? ⟨tb, 0, none⟩ = some (.int .i64 mf) ∧ w'.cell? ⟨tb, 1, none⟩ = some (.int .i64 mn) ∧ w'.cell? ⟨tb, 2, none⟩ = some (.int .i64 md)) (first | with_reducible exact tm012 hTd.out | with_reducible exact tm012 hTf.out | with_reducible exact tm012 (by with_reducible assumption) | with_reducible exact tm012 (Tm.alloc (by with_reducible assumption) _)) (first | (go_at_call 80; (first | with_reducible refine kA.out.mono ?_ | with_reducible refine kB.out.mono ?_); rintro e w3 ⟨v3, rfl, hE3, hO3⟩; have hT3 : Tm w3 v3 tb (.cells #[.int .i64 mf, .int .i64 mn, .int .i64 md, .int .i64 ms, .int .i64 ml, .string mc, .slice mA mh.length mcap] 105) := by first | with_reducible exact hTd.out.onto hO3 | with_reducible exact hTf.out.onto hO3) | (go_at_call 79; (first | (have kC : Calls Tryz.prog 79 #[v3, .slice (some ⟨w3.heap.size, 0, none⟩) 2 2] (w3.alloc (.cells #[.int .i64 mn, .int .i64 md] 3)) (fun e W' => ∃ v', e = .returned v' ∧ Em w #[.slice qA pool.length qc, .int .i64 fl, .int .i64 th, .int .i64 su, .slice qI ifs.length qd, .slice (some ⟨b, o, none⟩) flds.length qe, .slice qY mths.length qg] W' v' (xs ++ Sp.putL mf 1 ++ Sp.putsL [mn, md]) ∧ Onto v3 v' (w3.alloc (.cells #[.int .i64 mn, .int .i64 md] 3)) W') := puts_blk (hE3.alloc _) (Tm.new hE3 _) [mn, md] rfl 2 2 rfl (by have := hlx.out; (try simp only [List.length_append, Sp.putL_length, Sp.putsL_length, List.length_cons, List.length_nil]); omega); with_reducible refine kC.mono ?_) | (have kD : Calls Tryz.prog 79 #[v3, .slice (some ⟨W.heap.size, 0, none⟩) 2 2] w3 (fun e W' => ∃ v', e = .returned v' ∧ Em w #[.slice qA pool.length qc, .int .i64 fl, .int .i64 th, .int .i64 su, .slice qI ifs.length qd, .slice (some ⟨b, o, none⟩) flds.length qe, .slice qY mths.length qg] W' v' (xs ++ Sp.putL mf 1 ++ Sp.putsL [mn, md]) ∧ Onto v3 v' w3 W') := puts_blk hE3 (hTe.out.onto hO3) [mn, md] rfl 2 2 rfl (by have := hlx.out; (try simp only [List.length_append, Sp.putL_length, Sp.putsL_length, List.length_cons, List.length_nil]); omega); with_reducible refine kD.mono ?_)); rintro e w4 ⟨v4, rfl, hE4, hO4⟩; have hT4 : Tm w4 v4 tb (.cells #[.int .i64 mf, .int .i64 mn, .int .i64 md, .int .i64 ms, .int .i64 ml, .string mc, .slice mA mh.length mcap] 105) := by first | with_reducible exact (hT3.alloc _).onto hO4 | with_reducible exact hT3.onto hO4))
              all_goals
                have hx4 := hx.out
                rw [Sp.fieldB] at hx4
                simp only [] at hx4
                have hx' := Lib.hid hx4
                have hE4' := Lib.hid hE4
                clear hx4 hE4 hx
                go_wp2
                go_roundw
                case rel => exact ⟨k + 1, _, by go_num, by omega, hE4', Lib.hid (by have := hx'.out; simpa only [List.append_assoc] using this)⟩
                case measure => simp [RowKit.intOf]; omega
            · obtain rfl : k = flds.length := by omega
              have hzk : ¬ (flds.length : Int) < (flds.length : Int) := by omega
              have hx1 := hx.out
              rw [List.drop_length, List.flatMap_nil, List.append_nil] at hx1
              subst hx1
              clear hx
              obtain ⟨c0, c1, c2, c3, c4, c5, c6⟩ := flC_box (q := ⟨qA, qc, qI, qd, qX, qe, qY, qg⟩) (F := ⟨pool, fl, th, su, ifs, flds, mths⟩) hE.out.box
              simp only [] at c0 c1 c2 c3 c4 c5 c6
              go_wp2_with fail
              refine (put_em hE.out (mths.length : Int) 1 (by decide) (by decide) (by have := hL.out; have := hl4.out; simp only [List.length_append, Sp.putL_length, Sp.putsL_length, List.length_cons, List.length_nil]; omega)).mono ?_
              rintro e w6 ⟨v6, rfl, hE6, _⟩
              clear hE c0 c1 c2 c3 c4 c5 c6
              have hE5' := Lib.hid hE6
              obtain ⟨c0, c1, c2, c3, c4, c5, c6⟩ := flC_box (q := ⟨qA, qc, qI, qd, qX, qe, qY, qg⟩) (F := ⟨pool, fl, th, su, ifs, flds, mths⟩) hE5'.out.box
              simp only [] at c0 c1 c2 c3 c4 c5 c6
              clear hE6
              have hl5' : (P4 ++ flds.flatMap (fun m => Sp.fieldB m.1) ++ Sp.putL (mths.length : Int) 1).length + (mths.flatMap (fun m => Sp.methodB m.1)).length ≤ 900000000 := by
                have h1 := hL.out
                have h2 := hl4.out
                simp only [List.length_append, Sp.putL_length, Sp.putsL_length, List.length_cons, List.length_nil]
                omega
              generalize P4 ++ flds.flatMap (fun m => Sp.fieldB m.1) ++ Sp.putL (mths.length : Int) 1 = P5 at *
              have hl5 := Lib.hid hl5'
              clear hl5' hl4 hL
              have HX1 := Lib.hid (show P5 ++ (mths.drop 0).flatMap (fun m => Sp.methodB m.1) = P5 ++ mths.flatMap (fun m => Sp.methodB m.1) from rfl)
              go_wp2
              go_loopw [5, 129] (fun v5 v129 wr => ∃ (k : Nat) (xs : List Int), v129 = .int .i64 k ∧ k ≤ mths.length ∧ Hid (Em w #[.slice qA pool.length qc, .int .i64 fl, .int .i64 th, .int .i64 su, .slice qI ifs.length qd, .slice qX flds.length qe, .slice qY mths.length qg] wr v5 xs) ∧ Hid (xs ++ (mths.drop k).flatMap (fun m => Sp.methodB m.1) = P5 ++ mths.flatMap (fun m => Sp.methodB m.1))) (fun _ v129 _ => mths.length - (RowKit.intOf v129).toNat)
              case atStart => exact ⟨0, _, by go_num, Nat.zero_le _, hE5', HX1⟩
              case round =>
                clear hE5' HX1 c0 c1 c2 c3 c4 c5 c6
                obtain ⟨k, xs, rfl, hk, hE, hx⟩ := hrel
                by_cases hlt : k < mths.length
                · obtain ⟨b, o, rfl, hrg⟩ := HY.out (by omega)
                  obtain ⟨d0, d1, d2, d3, d4, d5, d6⟩ := mb_cells hrg hlt
                  have D0 := cell_below hE.out.bel d0
                  have D1 := cell_below hE.out.bel d1
                  have D2 := cell_below hE.out.bel d2
                  have D3 := cell_below hE.out.bel d3
                  have D4 := cell_below hE.out.bel d4
                  have D5 := cell_below hE.out.bel d5
                  have D6 := cell_below hE.out.bel d6
                  have hzk : (k : Int) < (mths.length : Int) := by omega
                  have hx1 := hx.out
                  rw [drop_flat _ _ _ hlt] at hx1
                  have hlx : Hid (xs.length + (Sp.methodB mths[k].1).length ≤ 900000000) := Lib.hid (by
                    have h1 := congrArg List.length hx1
                    have h2 := hl5.out
                    simp only [List.length_append, Sp.putL_length, Sp.putsL_length, List.length_cons, List.length_nil] at h1 h2
                    omega)
                  have hh1 := HH.out _ (List.getElem_mem hlt)
                  clear hx hrg d0 d1 d2 d3 d4 d5 d6
                  generalize mths[k] = mq at *
                  obtain ⟨⟨mf, mn, md, ms, ml, mc, mh⟩, mA, mcap⟩ := mq
                  simp only [] at D0 D1 D2 D3 D4 D5 D6 hx1 hlx hh1
                  have hx := Lib.hid hx1
                  clear hx1
                  have hEa := Lib.hid (hE.out.alloc (.cells #[.int .i64 mf, .int .i64 mn, .int .i64 md, .int .i64 ms, .int .i64 ml, .string mc, .slice mA mh.length mcap] 105))
                  have hTa := Lib.hid (Tm.new hE.out (.cells #[.int .i64 mf, .int .i64 mn, .int .i64 md, .int .i64 ms, .int .i64 ml, .string mc, .slice mA mh.length mcap] 105))
                  have hh := Lib.hid hh1
                  clear hh1
                  go_upto_region 32 with fail
                  clear D0 D1 D2 D3 D4 D5 D6 hE
                  generalize wr.alloc (.cells #[.int .i64 mf, .int .i64 mn, .int .i64 md, .int .i64 ms, .int .i64 ml, .string mc, .slice mA mh.length mcap] 105) = W at *
                  generalize wr.heap.size = tb at *
                  have hE := hEa
                  have hT := hTa
                  clear hEa hTa
                  go_cut [5] (fun s5 wx => Hid (Em w #[.slice qA pool.length qc, .int .i64 fl, .int .i64 th, .int .i64 su, .slice qI ifs.length qd, .slice qX flds.length qe, .slice (some ⟨b, o, none⟩) mths.length qg] wx s5 (xs ++ Sp.putL mf 1 ++ Sp.putsL [mn, md])) ∧ Hid (Tm wx s5 tb (.cells #[.int .i64 mf, .int .i64 mn, .int .i64 md, .int .i64 ms, .int .i64 ml, .string mc, .slice mA mh.length mcap] 105)))
                  case first =>
                    have hEd := Lib.hid hE.out.drew
                    have hEe := Lib.hid ((hE.out.alloc (.cells #[.int .i64 mn, .int .i64 md] 3)).drew)
                    have hTd := Lib.hid hT.out.drew
                    have hTe := Lib.hid ((Tm.new hE.out (.cells #[.int .i64 mn, .int .i64 md] 3)).drew)
                    have hTf := Lib.hid ((hT.out.alloc (.cells #[.int .i64 mn, .int .i64 md] 3)).drew)
                    have kA := Lib.hid (show Calls Tryz.prog 80 #[u5, .int .i64 mf, .int .i64 1] W.drew (fun e W' => ∃ v', e = .returned v' ∧ Em w #[.slice qA pool.length qc, .int .i64 fl, .int .i64 th, .int .i64 su, .slice qI ifs.length qd, .slice qX flds.length qe, .slice (some ⟨b, o, none⟩) mths.length qg] W' v' (xs ++ Sp.putL mf 1) ∧ Onto u5 v' W.drew W') from put_em hEd.out mf 1 (by decide) (by decide) (by have := hlx.out; (try simp only [List.length_append, Sp.putL_length, Sp.putsL_length, List.length_cons, List.length_nil]); omega))
                    have kB := Lib.hid (show Calls Tryz.prog 80 #[u5, .int .i64 mf, .int .i64 1] (W.alloc (.cells #[.int .i64 mn, .int .i64 md] 3)).drew (fun e W' => ∃ v', e = .returned v' ∧ Em w #[.slice qA pool.length qc, .int .i64 fl, .int .i64 th, .int .i64 su, .slice qI ifs.length qd, .slice qX flds.length qe, .slice (some ⟨b, o, none⟩) mths.length qg] W' v' (xs ++ Sp.putL mf 1) ∧ Onto u5 v' (W.alloc (.cells #[.int .i64 mn, .int .i64 md] 3)).drew W') from put_em hEe.out mf 1 (by decide) (by decide) (by have := hlx.out; (try simp only [List.length_append, Sp.putL_length, Sp.putsL_length, List.length_cons, List.length_nil]); omega))
                    go_region_held3 (fun w' => w'.cell? ⟨tb, 0, none⟩ = some (.int .i64 mf) ∧ w'.cell? ⟨tb, 1, none⟩ = some (.int .i64 mn) ∧ w'.cell? ⟨tb, 2, none⟩ = some (.int .i64 md)) (first | with_reducible exact tm012 hTd.out | with_reducible exact tm012 hTf.out | with_reducible exact tm012 (by with_reducible assumption) | with_reducible exact tm012 (Tm.alloc (by with_reducible assumption) _)) (first | (go_at_call 80; (first | with_reducible refine kA.out.mono ?_ | with_reducible refine kB.out.mono ?_); rintro e w3 ⟨v3, rfl, hE3, hO3⟩; have hT3 : Tm w3 v3 tb (.cells #[.int .i64 mf, .int .i64 mn, .int .i64 md, .int .i64 ms, .int .i64 ml, .string mc, .slice mA mh.length mcap] 105) := by first | with_reducible exact hTd.out.onto hO3 | with_reducible exact hTf.out.onto hO3) | (go_at_call 79; (first | (have kC : Calls Tryz.prog 79 #[v3, .slice (some ⟨w3.heap.size, 0, none⟩) 2 2] (w3.alloc (.cells #[.int .i64 mn, .int .i64 md] 3)) (fun e W' => ∃ v', e = .returned v' ∧ Em w #[.slice qA pool.length qc, .int .i64 fl, .int .i64 th, .int .i64 su, .slice qI ifs.length qd, .slice qX flds.length qe, .slice (some ⟨b, o, none⟩) mths.length qg] W' v' (xs ++ Sp.putL mf 1 ++ Sp.putsL [mn, md]) ∧ Onto v3 v' (w3.alloc (.cells #[.int .i64 mn, .int .i64 md] 3)) W') := puts_blk (hE3.alloc _) (Tm.new hE3 _) [mn, md] rfl 2 2 rfl (by have := hlx.out; (try simp only [List.length_append, Sp.putL_length, Sp.putsL_length, List.length_cons, List.length_nil]); omega); with_reducible refine kC.mono ?_) | (have kD : Calls Tryz.prog 79 #[v3, .slice (some ⟨W.heap.size, 0, none⟩) 2 2] w3 (fun e W' => ∃ v', e = .returned v' ∧ Em w #[.slice qA pool.length qc, .int .i64 fl, .int .i64 th, .int .i64 su, .slice qI ifs.length qd, .slice qX flds.length qe, .slice (some ⟨b, o, none⟩) mths.length qg] W' v' (xs ++ Sp.putL mf 1 ++ Sp.putsL [mn, md]) ∧ Onto v3 v' w3 W') := puts_blk hE3 (hTe.out.onto hO3) [mn, md] rfl 2 2 rfl (by have := hlx.out; (try simp only [List.length_append, Sp.putL_length, Sp.putsL_length, List.length_cons, List.length_nil]); omega); with_reducible refine kD.mono ?_)); rintro e w4 ⟨v4, rfl, hE4, hO4⟩; have hT4 : Tm w4 v4 tb (.cells #[.int .i64 mf, .int .i64 mn, .int .i64 md, .int .i64 ms, .int .i64 ml, .string mc, .slice mA mh.length mcap] 105) := by first | with_reducible exact (hT3.alloc _).onto hO4 | with_reducible exact hT3.onto hO4))
                    all_goals
                      go_wp2
                      go_meet
                      exact ⟨Lib.hid hE4, Lib.hid hT4⟩
                  case rest =>
                    clear hE hT
                    obtain ⟨hE, hT⟩ := hcut
                    have e0 := (blk_cell hT.out.1 0 _ rfl).1
                    have hx4 := hx.out
                    rw [Sp.methodB] at hx4
                    simp only [] at hx4
                    by_cases m2 : mf = 2
                    · subst m2
                      rw [if_pos rfl] at hx4
                      have hx' := Lib.hid hx4
                      clear hx4 hx hT hh
                      go_wp2
                      go_roundw
                      case rel => exact ⟨k + 1, _, by go_num, by omega, hE, Lib.hid (by have := hx'.out; simpa only [List.append_assoc, List.append_nil, List.nil_append] using this)⟩
                      case measure => simp [RowKit.intOf]; omega
                    · have m2b : (mf == 2) = false := by simp [m2]
                      rw [if_neg m2, Sp.codeB] at hx4
                      simp only [] at hx4
                      have hx' := Lib.hid hx4
                      have hlx2 := hlx.out
                      rw [Sp.methodB, Sp.codeB] at hlx2
                      simp only [] at hlx2
                      rw [if_neg m2] at hlx2
                      simp only [List.length_append, Sp.putL_length, Sp.putsL_length, List.length_cons, List.length_nil, nums_length] at hlx2
                      clear hx4 hx hlx
                      have hlx := Lib.hid hlx2
                      clear hlx2
                      go_upto_region 34 with fail
                      clear e0
                      go_cut [5] (fun s5 wx => Hid (Em w #[.slice qA pool.length qc, .int .i64 fl, .int .i64 th, .int .i64 su, .slice qI ifs.length qd, .slice qX flds.length qe, .slice (some ⟨b, o, none⟩) mths.length qg] wx s5 (xs ++ Sp.putL mf 1 ++ Sp.putsL [mn, md] ++ Sp.putL ms 1 ++ Sp.putL ml 1 ++ Sp.putsL [(mc.size : Int)])) ∧ Hid (Tm wx s5 tb (.cells #[.int .i64 mf, .int .i64 mn, .int .i64 md, .int .i64 ms, .int .i64 ml, .string mc, .slice mA mh.length mcap] 105)))
                      case first =>
                        have hEd := Lib.hid hE.out.drew
                        have hEe := Lib.hid ((hE.out.alloc (.cells #[.int .i64 mc.size] 3)).drew)
                        have hTd := Lib.hid hT.out.drew
                        have hTe := Lib.hid ((Tm.new hE.out (.cells #[.int .i64 mc.size] 3)).drew)
                        have hTf := Lib.hid ((hT.out.alloc (.cells #[.int .i64 mc.size] 3)).drew)
                        have kA := Lib.hid (show Calls Tryz.prog 80 #[u5, .int .i64 ms, .int .i64 1] wc.drew (fun e W' => ∃ v', e = .returned v' ∧ Em w #[.slice qA pool.length qc, .int .i64 fl, .int .i64 th, .int .i64 su, .slice qI ifs.length qd, .slice qX flds.length qe, .slice (some ⟨b, o, none⟩) mths.length qg] W' v' ((xs ++ Sp.putL mf 1 ++ Sp.putsL [mn, md]) ++ Sp.putL ms 1) ∧ Onto u5 v' wc.drew W') from put_em hEd.out ms 1 (by decide) (by decide) (by have := hlx.out; (try simp only [List.length_append, Sp.putL_length, Sp.putsL_length, List.length_cons, List.length_nil]); omega))
                        have kB := Lib.hid (show Calls Tryz.prog 80 #[u5, .int .i64 ms, .int .i64 1] (wc.alloc (.cells #[.int .i64 mc.size] 3)).drew (fun e W' => ∃ v', e = .returned v' ∧ Em w #[.slice qA pool.length qc, .int .i64 fl, .int .i64 th, .int .i64 su, .slice qI ifs.length qd, .slice qX flds.length qe, .slice (some ⟨b, o, none⟩) mths.length qg] W' v' ((xs ++ Sp.putL mf 1 ++ Sp.putsL [mn, md]) ++ Sp.putL ms 1) ∧ Onto u5 v' (wc.alloc (.cells #[.int .i64 mc.size] 3)).drew W') from put_em hEe.out ms 1 (by decide) (by decide) (by have := hlx.out; (try simp only [List.length_append, Sp.putL_length, Sp.putsL_length, List.length_cons, List.length_nil]); omega))
                        go_region_held3 (fun w' => w'.cell? ⟨tb, 3, none⟩ = some (.int .i64 ms) ∧ w'.cell? ⟨tb, 4, none⟩ = some (.int .i64 ml) ∧ w'.cell? ⟨tb, 5, none⟩ = some (.string mc)) (first | with_reducible exact tm345 hTd.out | with_reducible exact tm345 hTf.out | with_reducible exact tm345 (by with_reducible assumption) | with_reducible exact tm345 (Tm.alloc (by with_reducible assumption) _)) (first | (go_at_call 80; (first | with_reducible refine kA.out.mono ?_ | with_reducible refine kB.out.mono ?_); rintro e w3 ⟨v3, rfl, hE3, hO3⟩; have hT3 : Tm w3 v3 tb (.cells #[.int .i64 mf, .int .i64 mn, .int .i64 md, .int .i64 ms, .int .i64 ml, .string mc, .slice mA mh.length mcap] 105) := by first | with_reducible exact hTd.out.onto hO3 | with_reducible exact hTf.out.onto hO3) | (go_at_call 80; (first | (have kA2 : Calls Tryz.prog 80 #[v3, .int .i64 ml, .int .i64 1] w3 (fun e W' => ∃ v', e = .returned v' ∧ Em w #[.slice qA pool.length qc, .int .i64 fl, .int .i64 th, .int .i64 su, .slice qI ifs.length qd, .slice qX flds.length qe, .slice (some ⟨b, o, none⟩) mths.length qg] W' v' ((xs ++ Sp.putL mf 1 ++ Sp.putsL [mn, md]) ++ Sp.putL ms 1 ++ Sp.putL ml 1) ∧ Onto v3 v' w3 W') := put_em hE3 ml 1 (by decide) (by decide) (by have := hlx.out; (try simp only [List.length_append, Sp.putL_length, Sp.putsL_length, List.length_cons, List.length_nil]); omega); with_reducible refine kA2.mono ?_) | (have kB2 : Calls Tryz.prog 80 #[v3, .int .i64 ml, .int .i64 1] (w3.alloc (.cells #[.int .i64 mc.size] 3)) (fun e W' => ∃ v', e = .returned v' ∧ Em w #[.slice qA pool.length qc, .int .i64 fl, .int .i64 th, .int .i64 su, .slice qI ifs.length qd, .slice qX flds.length qe, .slice (some ⟨b, o, none⟩) mths.length qg] W' v' ((xs ++ Sp.putL mf 1 ++ Sp.putsL [mn, md]) ++ Sp.putL ms 1 ++ Sp.putL ml 1) ∧ Onto v3 v' (w3.alloc (.cells #[.int .i64 mc.size] 3)) W') := put_em (hE3.alloc _) ml 1 (by decide) (by decide) (by have := hlx.out; (try simp only [List.length_append, Sp.putL_length, Sp.putsL_length, List.length_cons, List.length_nil]); omega); with_reducible refine kB2.mono ?_)); rintro e w4 ⟨v4, rfl, hE4, hO4⟩; have hT4 : Tm w4 v4 tb (.cells #[.int .i64 mf, .int .i64 mn, .int .i64 md, .int .i64 ms, .int .i64 ml, .string mc, .slice mA mh.length mcap] 105) := by first | with_reducible exact hT3.onto hO4 | with_reducible exact (hT3.alloc _).onto hO4) | (go_at_call 79; (first | (have kC : Calls Tryz.prog 79 #[v4, .slice (some ⟨w4.heap.size, 0, none⟩) 1 1] (w4.alloc (.cells #[.int .i64 mc.size] 3)) (fun e W' => ∃ v', e = .returned v' ∧ Em w #[.slice qA pool.length qc, .int .i64 fl, .int .i64 th, .int .i64 su, .slice qI ifs.length qd, .slice qX flds.length qe, .slice (some ⟨b, o, none⟩) mths.length qg] W' v' ((xs ++ Sp.putL mf 1 ++ Sp.putsL [mn, md]) ++ Sp.putL ms 1 ++ Sp.putL ml 1 ++ Sp.putsL [(mc.size : Int)]) ∧ Onto v4 v' (w4.alloc (.cells #[.int .i64 mc.size] 3)) W') := puts_blk (hE4.alloc _) (Tm.new hE4 _) [(mc.size : Int)] rfl 1 1 rfl (by have := hlx.out; (try simp only [List.length_append, Sp.putL_length, Sp.putsL_length, List.length_cons, List.length_nil]); omega); with_reducible refine kC.mono ?_) | (have kD : Calls Tryz.prog 79 #[v4, .slice (some ⟨w3.heap.size, 0, none⟩) 1 1] w4 (fun e W' => ∃ v', e = .returned v' ∧ Em w #[.slice qA pool.length qc, .int .i64 fl, .int .i64 th, .int .i64 su, .slice qI ifs.length qd, .slice qX flds.length qe, .slice (some ⟨b, o, none⟩) mths.length qg] W' v' ((xs ++ Sp.putL mf 1 ++ Sp.putsL [mn, md]) ++ Sp.putL ms 1 ++ Sp.putL ml 1 ++ Sp.putsL [(mc.size : Int)]) ∧ Onto v4 v' w4 W') := puts_blk hE4 ((Tm.new hE3 (.cells #[.int .i64 mc.size] 3)).onto hO4) [(mc.size : Int)] rfl 1 1 rfl (by have := hlx.out; (try simp only [List.length_append, Sp.putL_length, Sp.putsL_length, List.length_cons, List.length_nil]); omega); with_reducible refine kD.mono ?_) | (have kE : Calls Tryz.prog 79 #[v4, .slice (some ⟨wc.heap.size, 0, none⟩) 1 1] w4 (fun e W' => ∃ v', e = .returned v' ∧ Em w #[.slice qA pool.length qc, .int .i64 fl, .int .i64 th, .int .i64 su, .slice qI ifs.length qd, .slice qX flds.length qe, .slice (some ⟨b, o, none⟩) mths.length qg] W' v' ((xs ++ Sp.putL mf 1 ++ Sp.putsL [mn, md]) ++ Sp.putL ms 1 ++ Sp.putL ml 1 ++ Sp.putsL [(mc.size : Int)]) ∧ Onto v4 v' w4 W') := puts_blk hE4 ((hTe.out.onto hO3).onto hO4) [(mc.size : Int)] rfl 1 1 rfl (by have := hlx.out; (try simp only [List.length_append, Sp.putL_length, Sp.putsL_length, List.length_cons, List.length_nil]); omega); with_reducible refine kE.mono ?_)); rintro e w5 ⟨v5, rfl, hE5, hO5⟩; have hT5 : Tm w5 v5 tb (.cells #[.int .i64 mf, .int .i64 mn, .int .i64 md, .int .i64 ms, .int .i64 ml, .string mc, .slice mA mh.length mcap] 105) := by first | with_reducible exact (hT4.alloc _).onto hO5 | with_reducible exact hT4.onto hO5))
                        all_goals
                          go_wp2
                          go_meet
                          exact ⟨Lib.hid hE5, Lib.hid hT5⟩
                      case rest =>
                        clear hE hT
                        obtain ⟨hE, hT⟩ := hcut
                        obtain ⟨va, wa, hra, oa, ga, _⟩ := run_append_own_string (P := Tryz.prog) wc.drew (w.heap.size + 1) 114 9 114 5 i0 Tryz.underlying114 Tryz.underlying9 hi hz0 hz1 hz2 u5 _ _ hE.out.drew.own mc (by have := hlx.out; unfold maxLen; simp only [List.length_append, Sp.putL_length, Sp.putsL_length, List.length_cons, List.length_nil]; omega) (by have := hlx.out; (try simp only [List.length_append, Sp.putL_length, Sp.putsL_length, List.length_cons, List.length_nil]); omega) (by have := hE.out.drew.lt; omega)
                        have hEd := Lib.hid (hE.out.drew.str mc oa ga)
                        have hTc := Lib.hid hT.out.drew
                        have hne : (105 : TypeId) ≠ 5 := by decide
                        have hTx : Tm wa va tb (.cells #[.int .i64 mf, .int .i64 mn, .int .i64 md, .int .i64 ms, .int .i64 ml, .string mc, .slice mA mh.length mcap] 105) := Tm.str hTc.out hne hEd.out ga
                        have hTd := Lib.hid hTx
                        clear hTx hne
                        clear oa ga
                        have kA := Lib.hid (show Calls Tryz.prog 80 #[va, .int .i64 (mh.length : Int), .int .i64 1] wa (fun e W' => ∃ v', e = .returned v' ∧ Em w #[.slice qA pool.length qc, .int .i64 fl, .int .i64 th, .int .i64 su, .slice qI ifs.length qd, .slice qX flds.length qe, .slice (some ⟨b, o, none⟩) mths.length qg] W' v' ((xs ++ Sp.putL mf 1 ++ Sp.putsL [mn, md] ++ Sp.putL ms 1 ++ Sp.putL ml 1 ++ Sp.putsL [(mc.size : Int)]) ++ Sp.nums mc ++ Sp.putL (mh.length : Int) 1) ∧ Onto va v' wa W') from put_em hEd.out (mh.length : Int) 1 (by decide) (by decide) (by have := hlx.out; (try simp only [List.length_append, Sp.putL_length, Sp.putsL_length, nums_length, List.length_cons, List.length_nil]); omega))
                        go_upto_region 35 with fail
                        go_region_held3 (fun w' => w'.cell? ⟨tb, 5, none⟩ = some (.string mc) ∧ w'.cell? ⟨tb, 6, none⟩ = some (.slice mA mh.length mcap)) (first | with_reducible exact tm56 hTc.out | with_reducible exact tm56 hTd.out | with_reducible exact tm56 (by with_reducible assumption)) (first | (refine step_append_run _ rfl _ _ _ _ rfl u5 (.string mc) rfl rfl va wa hra ?_) | (go_at_call 80; with_reducible refine kA.out.mono ?_; rintro e w3 ⟨v3, rfl, hE3, hO3⟩; have hT3 : Tm w3 v3 tb (.cells #[.int .i64 mf, .int .i64 mn, .int .i64 md, .int .i64 ms, .int .i64 ml, .string mc, .slice mA mh.length mcap] 105) := hTd.out.onto hO3))
                        have hEe := Lib.hid hE3
                        have e6 := (blk_cell hT3.1 6 _ rfl).1
                        have hhl := hh.out.1
                        clear hE hT hra hEd hTd hTc kA hE3 hO3
                        have hE := hEe
                        clear hEe
                        have HX2 := Lib.hid (show (xs ++ Sp.putL mf 1 ++ Sp.putsL [mn, md] ++ Sp.putL ms 1 ++ Sp.putL ml 1 ++ Sp.putsL [(mc.size : Int)] ++ Sp.nums mc ++ Sp.putL (mh.length : Int) 1) ++ (mh.drop 0).flatMap Sp.handB = (xs ++ Sp.putL mf 1 ++ Sp.putsL [mn, md] ++ Sp.putL ms 1 ++ Sp.putL ml 1 ++ Sp.putsL [(mc.size : Int)] ++ Sp.nums mc ++ Sp.putL (mh.length : Int) 1) ++ mh.flatMap Sp.handB from rfl)
                        go_wp2
                        clear hT3 e6
                        go_loopw [5, 169] (fun v5 v169 wr => ∃ (j : Nat) (ys : List Int), v169 = .int .i64 j ∧ j ≤ mh.length ∧ Hid (Em w #[.slice qA pool.length qc, .int .i64 fl, .int .i64 th, .int .i64 su, .slice qI ifs.length qd, .slice qX flds.length qe, .slice (some ⟨b, o, none⟩) mths.length qg] wr v5 ys) ∧ Hid (ys ++ (mh.drop j).flatMap Sp.handB = (xs ++ Sp.putL mf 1 ++ Sp.putsL [mn, md] ++ Sp.putL ms 1 ++ Sp.putL ml 1 ++ Sp.putsL [(mc.size : Int)] ++ Sp.nums mc ++ Sp.putL (mh.length : Int) 1) ++ mh.flatMap Sp.handB)) (fun _ v169 _ => mh.length - (RowKit.intOf v169).toNat)
                        case atStart => exact ⟨0, _, by go_num, Nat.zero_le _, hE, HX2⟩
                        case round =>
                          clear hE HX2
                          obtain ⟨j, ys, rfl, hj, hE, hy⟩ := hrel
                          by_cases hlj : j < mh.length
                          · obtain ⟨b2, o2, rfl, hrg⟩ := hh.out.2 (by omega)
                            obtain ⟨d0, d1, d2, d3⟩ := hn_cells hrg hlj
                            have D0 := cell_below hE.out.bel d0
                            have D1 := cell_below hE.out.bel d1
                            have D2 := cell_below hE.out.bel d2
                            have D3 := cell_below hE.out.bel d3
                            have hzj : (j : Int) < (mh.length : Int) := by omega
                            have hy1 := hy.out
                            rw [drop_flat _ _ _ hlj] at hy1
                            have hly : Hid (ys.length + 8 ≤ 900000100) := Lib.hid (by
                              have h1 := congrArg List.length hy1
                              have h2 := hlx.out
                              simp only [List.length_append, Sp.putL_length, Sp.putsL_length, List.length_cons, List.length_nil, nums_length] at h1
                              omega)
                            clear hy hrg d0 d1 d2 d3
                            generalize mh[j] = hq at *
                            obtain ⟨hf, ht, ha, hc⟩ := hq
                            simp only [] at D0 D1 D2 D3 hy1
                            rw [Sp.handB] at hy1
                            simp only [] at hy1
                            have hy := Lib.hid hy1
                            clear hy1
                            have hEa := Lib.hid (hE.out.alloc (.cells #[.int .i64 hf, .int .i64 ht, .int .i64 ha, .int .i64 hc] 119))
                            have hTa := Lib.hid (Tm.new hE.out (.cells #[.int .i64 hf, .int .i64 ht, .int .i64 ha, .int .i64 hc] 119))
                            go_upto_region 39 with fail
                            clear D0 D1 D2 D3 hE
                            generalize wr.alloc (.cells #[.int .i64 hf, .int .i64 ht, .int .i64 ha, .int .i64 hc] 119) = W at *
                            generalize wr.heap.size = tq at *
                            have t0 := (blk_cell hTa.out.1 0 _ rfl).1
                            have t1 := (blk_cell hTa.out.1 1 _ rfl).1
                            have t2 := (blk_cell hTa.out.1 2 _ rfl).1
                            have t3 := (blk_cell hTa.out.1 3 _ rfl).1
                            clear hTa
                            go_wp2_with fail
                            refine (puts_blk (hEa.out.alloc _) (Tm.new hEa.out _) [hf, ht, ha, hc] rfl 4 4 rfl (by have := hly.out; simp only [List.length_cons, List.length_nil]; omega)).mono ?_
                            rintro e w4 ⟨v4, rfl, hE4, _⟩
                            have hE4' := Lib.hid hE4
                            clear hE4 hEa t0 t1 t2 t3
                            go_wp2
                            go_roundw
                            case rel => exact ⟨j + 1, _, by go_num, by omega, hE4', Lib.hid (by have := hy.out; simpa only [List.append_assoc] using this)⟩
                            case measure => simp [RowKit.intOf]; omega
                          · obtain rfl : j = mh.length := by omega
                            have hzj : ¬ (mh.length : Int) < (mh.length : Int) := by omega
                            have hy1 := hy.out
                            rw [List.drop_length, List.flatMap_nil, List.append_nil] at hy1
                            have hz1 := Lib.hid (show ys ++ (mths.drop (k + 1)).flatMap (fun m => Sp.methodB m.1) = P5 ++ mths.flatMap (fun m => Sp.methodB m.1) by rw [hy1]; have := hx'.out; simpa only [List.append_assoc] using this)
                            clear hy hy1
                            go_wp2
                            go_roundw
                            case rel => exact ⟨k + 1, _, by go_num, by omega, hE, hz1⟩
                            case measure => simp [RowKit.intOf]; omega
                · obtain rfl : k = mths.length := by omega
                  have hzk : ¬ (mths.length : Int) < (mths.length : Int) := by omega
                  have hx1 := hx.out
                  rw [List.drop_length, List.flatMap_nil, List.append_nil] at hx1
                  subst hx1
                  clear hx hl5 HH HY
                  generalize P5 ++ mths.flatMap (fun m => Sp.methodB m.1) = TOT at *
                  obtain ⟨A9, c9, rfl⟩ := own_sl hE.out.own
                  have hcs := own_string (P := Tryz.prog) (src := 114) (dst := 9) (e := 5) Tryz.underlying114 Tryz.underlying5 Tryz.underlying9 hE.out.own
                  have hbel := Lib.hid hE.out.bel
                  have hm9 := hE.out.max
                  clear hE
                  by_cases h64 : 65536 < TOT.length
                  · have hzz : decide ((65536 : Int) < (TOT.length : Int)) = true := decide_eq_true (by omega)
                    have hR : R = (⟨#[]⟩, 2) := by have := HE2.out; rwa [if_pos h64] at this
                    subst hR
                    clear HE2
                    go_wp2
                    first | go_ret2 | go_ret
                    exact ⟨rfl, hbel.out⟩
                  · have hzz : decide ((65536 : Int) < (TOT.length : Int)) = false := decide_eq_false (by omega)
                    have hR : R = (Go.strOfNums TOT, 0) := by have := HE2.out; rwa [if_neg h64] at this
                    subst hR
                    clear HE2
                    go_wp2
                    first | go_ret2 | go_ret
                    exact ⟨rfl, hbel.out⟩
  · have hcb : (pt != 0) = true := by simp [hp]
    have hR : R = (⟨#[]⟩, pt) := by rw [HE.out, if_pos hp]
    subst hR
    clear HE hp hK1
    go_wp2
    first | go_ret2 | go_ret
    exact ⟨rfl, hB1⟩
end Go.Proofs.YtfjplmbknegidaaGreatDoor
end
