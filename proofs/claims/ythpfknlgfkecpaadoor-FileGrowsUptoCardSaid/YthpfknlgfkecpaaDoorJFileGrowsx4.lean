/-
  Texts of the proof, joined: each says at its head what it proves.
-/
import Derived.Test.YthpfknlgfkecpaaDoorJFileGrowsx3
import Derived.Deep.RegionHeld3
import Derived.Deep.CutRange
import Derived.RegionTactic
import Derived.Lib.SlBytesConst
import Derived.Deep.DeepCutAuto
import Derived.Test.YthpfknlgfkecpaaDoorJFileGrowsx1
import Derived.Test.YthpfknlgfkecpaaDoorJFileGrowsx2
import Derived.Maps.AppendAt
section
/-
  Walk of chapter 3's Encode. (Printed by gen_enc.py.)
-/
set_option linter.unusedVariables false
set_option linter.unusedSimpArgs false
namespace Go.Proofs.YthpfknlgfkecpaaDoor
open Go.RowKit Go.Lib

theorem Sp.putsL_length (l : List Int) : (Sp.putsL l).length = 2 * l.length := by
  induction l with
  | nil => rfl
  | cons n l ih => rw [Sp.putsL, List.length_append, Sp.putL_length, ih, List.length_cons]; omega
theorem Em.below {w W W' : World} {X : Array Value} {v : Value} {xs : List Int} (h : Em w X W v xs) (hb : Below W.heap.size W W') : Em w X W' v xs := ⟨own_below h.own hb, below_then h.bel (by have := h.lt; omega) hb, blk_below h.box hb⟩
theorem Tm.below {W W' : World} {v : Value} {tb : Nat} {o : Obj} (h : Tm W v tb o) (hb : Below W.heap.size W W') : Tm W' v tb o := ⟨blk_below h.1 hb, h.2⟩
theorem Em.str {w W W' : World} {X : Array Value} {v v' : Value} {xs : List Int} (h : Em w X W v xs) (s : ByteArray) (ho : W'.ownsRow (w.heap.size + 1) 5 1 v' (xs.length + s.size) (numc xs ++ Lib.strCells s)) (hg : W.grownBy W' v.ownBlock) : Em w X W' v' (xs ++ Sp.nums s) := by
  refine ⟨?_, h.bel.grown hg (by have := h.lt; omega) (fun q hq => by have := own_base h.own q hq; omega), blk_grown h.box hg (fun q => by have := own_base h.own _ q.symm; omega)⟩
  rw [List.length_append, nums_length, numc_append, ← strCells_numc]
  exact ho
theorem Tm.str {w W W' : World} {X : Array Value} {v v' : Value} {ys : List Int} {tb : Nat} {C : Array Value} {T : TypeId} (h : Tm W v tb (.cells C T (0, 0))) (hT : T ≠ 5) (he : Em w X W' v' ys) (hg : W.grownBy W' v.ownBlock) : Tm W' v' tb (.cells C T (0, 0)) := by
  have h1 := blk_grown h.1 hg (fun q => h.2 q.symm)
  refine ⟨h1, fun q => ?_⟩
  rcases he.own.2 with ⟨rfl, _⟩ | ⟨g, cap, cur, rfl, _, hgb, _⟩
  · simp [Value.ownBlock] at q
  · have : g = tb := by simpa [Value.ownBlock] using q
    subst this
    rw [h1] at hgb
    injection hgb with hgb
    injection hgb with _ e _
    exact hT e
theorem tm012 {W : World} {v : Value} {tb : Nat} {a b c d e f g : Value} {T : TypeId} (h : Tm W v tb (.cells #[a, b, c, d, e, f, g] T (0, 0))) : W.cell? ⟨tb, 0, none⟩ = some a ∧ W.cell? ⟨tb, 1, none⟩ = some b ∧ W.cell? ⟨tb, 2, none⟩ = some c := ⟨(blk_cell h.1 0 _ rfl).1, (blk_cell h.1 1 _ rfl).1, (blk_cell h.1 2 _ rfl).1⟩
theorem tm345 {W : World} {v : Value} {tb : Nat} {a b c d e f g : Value} {T : TypeId} (h : Tm W v tb (.cells #[a, b, c, d, e, f, g] T (0, 0))) : W.cell? ⟨tb, 3, none⟩ = some d ∧ W.cell? ⟨tb, 4, none⟩ = some e ∧ W.cell? ⟨tb, 5, none⟩ = some f := ⟨(blk_cell h.1 3 _ rfl).1, (blk_cell h.1 4 _ rfl).1, (blk_cell h.1 5 _ rfl).1⟩
theorem tm56 {W : World} {v : Value} {tb : Nat} {a b c d e f g : Value} {T : TypeId} (h : Tm W v tb (.cells #[a, b, c, d, e, f, g] T (0, 0))) : W.cell? ⟨tb, 5, none⟩ = some f ∧ W.cell? ⟨tb, 6, none⟩ = some g := ⟨(blk_cell h.1 5 _ rfl).1, (blk_cell h.1 6 _ rfl).1⟩
theorem em123 {w W : World} {v : Value} {xs : List Int} {a b c d e f g : Value} (h : Em w #[a, b, c, d, e, f, g] W v xs) : W.cell? ⟨w.heap.size, 1, none⟩ = some b ∧ W.cell? ⟨w.heap.size, 2, none⟩ = some c ∧ W.cell? ⟨w.heap.size, 3, none⟩ = some d := ⟨(blk_cell h.box 1 _ rfl).1, (blk_cell h.box 2 _ rfl).1, (blk_cell h.box 3 _ rfl).1⟩
theorem em4 {w W : World} {v : Value} {xs : List Int} {a b c d e f g : Value} (h : Em w #[a, b, c, d, e, f, g] W v xs) : W.cell? ⟨w.heap.size, 4, none⟩ = some e := (blk_cell h.box 4 _ rfl).1
theorem step_append_run {P : Program} (w : World) {ops : Array Oper} {o : Oper} {a : Act} {K : Act → World → Prop} {Q : Exit → Act → World → Prop} {E : Prop} (hgd : o.guard = none) (s x : Operand) (t u : TypeId)
    (ho : o.op = .call { callee := .builtin .append, args := #[s, x], argTypes := #[t, u] }) (v y : Value) (hs : a.eval s = v) (hx : a.eval x = y) (v' : Value) (w' : World)
    (hr : (Builtin.append_ #[t, u] o.type #[v, y]).run P w = .ok v' w') (h : K (a.put o.dst v') w') : if Region.wanted o (yielded ops a.tmps) = true then Oper.wp P o a w K Q else E := by
  have hw : Region.wanted o (yielded ops a.tmps) = true := by simp [Region.wanted, hgd]
  rw [if_pos hw]
  unfold Oper.wp execOp
  simp only [ho, resolve, invoke, builtin, Sem.run_bind, Sem.run_pure, Result.andThen_ok, List.map_toArray, List.map_cons, List.map_nil, hs, hx, hr]
  exact h
theorem encS_size (s : ByteArray) : (Sp.encS s).1.size ≤ 65535 := by
  rw [Sp.encS]
  split
  · exact by decide
  · split
    · exact by decide
    · rw [Sp.size_nums]; omega
theorem drop_flat {α β : Type} (f : α → List β) (l : List α) (k : Nat) (hk : k < l.length) : (l.drop k).flatMap f = f l[k] ++ (l.drop (k + 1)).flatMap f := by rw [List.drop_eq_getElem_cons hk, List.flatMap_cons]

set_option maxHeartbeats 40000000 in
set_option maxRecDepth 100000 in
theorem fileEnc_any (q : Sp.At) (F : FlP) (w : World) (hr : RdF w q F) (hF : FlOk F) (hT : Tabs w) (hlen : (Sp.bytesS F.fl).length ≤ 900000000) :
    Calls Tryd.prog 34 #[.agg (flC q F)] w fun e w' => e = .returned (.tuple #[.string (Sp.encodeF F.fl).1, .int .i64 (Sp.encodeF F.fl).2]) ∧ Below w.heap.size w w' := by
  obtain ⟨i0, hi, hz0, hz1, hz2⟩ := info_parts infoByte
  have HE := Lib.hid (show Sp.encodeF F.fl = _ by rw [Sp.encodeF])
  generalize Sp.encodeF F.fl = R at HE ⊢
  have hK := Lib.hid (blk_new w (.cells (flC q F) 53))
  have hB := (Below.refl w.heap.size w).alloc (Nat.le_refl _) (.cells (flC q F) 53)
  have KP : ∀ X : Array Value, X = flC q F → Hid (∀ W, Below w.heap.size w W → Calls Tryd.prog 57 #[.agg X] W fun e w' => e = .returned (.int .i64 (Sp.partsS F.fl)) ∧ Below W.heap.size W w') := by
    rintro X rfl
    exact Lib.hid (fun W hb => parts_any q F W (rdF_below hr hb) hF (hT.below hb))
  have KE := Lib.hid (fun (c : Sp.Cn) (hc : c ∈ F.pool) W hb => encode_any c.text W (by have := hF.texts c hc; omega) (hT.below hb))
  have HP := Lib.hid hr.pool.2
  have HX := Lib.hid hr.fields.1.2
  have HY := Lib.hid hr.methods.1.2
  have HH := Lib.hid hr.methods.2
  have HI := Lib.hid hr.ifaces
  have hl1 := hr.pool.1
  have hl2 := hr.ifaces.1
  have hl3 := hr.fields.1.1
  have hl4 := hr.methods.1.1
  generalize Sp.partsS F.fl = pt at *
  have hlen1 := hlen
  unfold Sp.bytesS at HE hlen1
  clear hr hF hT hlen
  obtain ⟨pool, fl, th, su, ifs, flds, mths⟩ := F
  obtain ⟨qA, qc, qI, qd, qX, qe, qY, qg⟩ := q
  have kp := KP #[.slice qA pool.length qc, .int .i64 fl, .int .i64 th, .int .i64 su, .slice qI ifs.length qd, .slice qX flds.length qe, .slice qY mths.length qg] rfl
  clear KP
  have hfl : flC ⟨qA, qc, qI, qd, qX, qe, qY, qg⟩ ⟨pool, fl, th, su, ifs, flds, mths⟩ = #[.slice qA pool.length qc, .int .i64 fl, .int .i64 th, .int .i64 su, .slice qI ifs.length qd, .slice qX flds.length qe, .slice qY mths.length qg] := rfl
  rw [hfl] at hK hB ⊢
  clear hfl
  unfold FlP.fl at HE hlen1
  simp only [] at HE hlen1 KE HP HX HY HH HI hl1 hl2 hl3 hl4
  have hmF : (mths.map (·.1)).flatMap Sp.methodB = mths.flatMap (fun m => Sp.methodB m.1) := by rw [List.flatMap_map]
  have hfF : (flds.map (·.1)).flatMap Sp.fieldB = flds.flatMap (fun m => Sp.fieldB m.1) := by rw [List.flatMap_map]
  rw [hmF, hfF, List.length_map, List.length_map] at HE hlen1
  clear hmF hfF
  have hL := Lib.hid hlen1
  clear hlen1
  have c0 := (blk_cell hK.out 0 _ rfl).1
  have c1 := (blk_cell hK.out 1 _ rfl).1
  have c2 := (blk_cell hK.out 2 _ rfl).1
  have c3 := (blk_cell hK.out 3 _ rfl).1
  have c4 := (blk_cell hK.out 4 _ rfl).1
  have c5 := (blk_cell hK.out 5 _ rfl).1
  have c6 := (blk_cell hK.out 6 _ rfl).1
  go_enter Tryd.func34, Tryd.ntmps34
  go_wp2_with fail
  refine (kp.out _ hB).mono ?_
  rintro e w1 ⟨rfl, hb1⟩
  have hK1 := Lib.hid (blk_below hK.out hb1)
  have hB1 := below_then hB hB.size hb1
  have hz1' := hB1.size
  clear hK hB hb1 kp c0 c1 c2 c3 c4 c5 c6
  by_cases hp : pt = 0
  · subst hp
    have HE1 := HE.out
    rw [if_neg (by simp)] at HE1
    have HE2 := Lib.hid HE1
    clear HE HE1
    obtain ⟨c0, c1, c2, c3, c4, c5, c6⟩ := flC_box (q := ⟨qA, qc, qI, qd, qX, qe, qY, qg⟩) (F := ⟨pool, fl, th, su, ifs, flds, mths⟩) hK1.out
    simp only [] at c0 c1 c2 c3 c4 c5 c6
    have hlk1 := blk_lt hK1.out
    have hcv := Lib.run_convert_bytes_const (P := Tryd.prog) w1 74 5 #[.int .u8 67, .int .u8 82, .int .u8 85, .int .u8 88] 4 4 Tryd.underlying74 Tryd.underlying5
    have hG0 := Lib.hid (row_four (w.heap.size + 1) w1 67 82 85 88 (4, 5) (by omega))
    have hBa := Lib.hid (hB1.alloc hz1' (.cells #[.int .u8 67, .int .u8 82, .int .u8 85, .int .u8 88] 5 (4, 5)))
    have hKa := Lib.hid (blk_old (o := .cells #[.int .u8 67, .int .u8 82, .int .u8 85, .int .u8 88] 5 (4, 5)) hK1.out)
    have hBz := hBa.out.size
    have hnb : ((w1.alloc (.cells #[.int .u8 67, .int .u8 82, .int .u8 85, .int .u8 88] 5 (4, 5))).alloc (.cells #[.int .i64 pool.length] 3)).heap[w1.heap.size + 1]? = some (.cells #[.int .i64 pool.length] 3 (0, 0)) := by
      rw [show w1.heap.size + 1 = (w1.alloc (.cells #[.int .u8 67, .int .u8 82, .int .u8 85, .int .u8 88] 5 (4, 5))).heap.size by simp]
      exact blk_new _ _
    have kf := Lib.hid (puts_first (w := w) (W := (w1.alloc (.cells #[.int .u8 67, .int .u8 82, .int .u8 85, .int .u8 88] 5 (4, 5))).alloc (.cells #[.int .i64 pool.length] 3)) (X := #[.slice qA pool.length qc, .int .i64 fl, .int .i64 th, .int .i64 su, .slice qI ifs.length qd, .slice qX flds.length qe, .slice qY mths.length qg]) (v := .slice (some ⟨w1.heap.size, 0, none⟩) 4 4) (xs := [67, 82, 85, 88]) (hG0.out.alloc _) (hBa.out.alloc hBz _) (blk_old hKa.out) (a := w1.heap.size + 1) ⟨hnb, by simp [Value.ownBlock]⟩ [(pool.length : Int)] (by simp) rfl 1 1 rfl (by simp))
    clear hnb
    go_wp2_with fail
    refine kf.out.mono ?_
    rintro e w2 ⟨v2, rfl, hE2, _⟩
    clear kf hG0 hBa hKa hBz hcv hK1 hB1 hz1' hlk1 c0 c1 c2 c3 c4 c5 c6
    have HX1 := Lib.hid (show ([67, 82, 85, 88] ++ Sp.putsL [(pool.length : Int)]) ++ (pool.drop 0).flatMap Sp.constB = [67, 82, 85, 88] ++ Sp.putsL [(pool.length : Int)] ++ pool.flatMap Sp.constB from rfl)
    have hE2' := Lib.hid hE2
    obtain ⟨c0, c1, c2, c3, c4, c5, c6⟩ := flC_box (q := ⟨qA, qc, qI, qd, qX, qe, qY, qg⟩) (F := ⟨pool, fl, th, su, ifs, flds, mths⟩) hE2.box
    simp only [] at c0 c1 c2 c3 c4 c5 c6
    clear hE2
    go_wp2
    go_loopw [5, 31] (fun v5 v31 wr => ∃ (k : Nat) (xs : List Int), v31 = .int .i64 k ∧ k ≤ pool.length ∧ Hid (Em w #[.slice qA pool.length qc, .int .i64 fl, .int .i64 th, .int .i64 su, .slice qI ifs.length qd, .slice qX flds.length qe, .slice qY mths.length qg] wr v5 xs) ∧ Hid (xs ++ (pool.drop k).flatMap Sp.constB = [67, 82, 85, 88] ++ Sp.putsL [(pool.length : Int)] ++ pool.flatMap Sp.constB)) (fun _ v31 _ => pool.length - (RowKit.intOf v31).toNat)
    case atStart => exact ⟨0, _, by go_num, Nat.zero_le _, hE2', HX1⟩
    case round =>
      clear hE2' HX1 c0 c1 c2 c3 c4 c5 c6
      obtain ⟨k, xs, rfl, hk, hE, hx⟩ := hrel
      have hlx : Hid (xs.length ≤ 900000000) := Lib.hid (by
        have h1 := congrArg List.length hx.out
        have h2 := hL.out
        simp only [List.length_append] at h1 h2
        omega)
      by_cases hlt : k < pool.length
      · obtain ⟨b, o, rfl, hrg⟩ := HP.out (by omega)
        obtain ⟨d0, d1, d2, d3, d4, d5⟩ := cn_cells hrg hlt
        have D0 := cell_below hE.out.bel d0
        have D1 := cell_below hE.out.bel d1
        have D2 := cell_below hE.out.bel d2
        have D3 := cell_below hE.out.bel d3
        have D4 := cell_below hE.out.bel d4
        have D5 := cell_below hE.out.bel d5
        have hzk : (k : Int) < (pool.length : Int) := by omega
        have ke1 := KE.out _ (List.getElem_mem hlt)
        have hx1 := hx.out
        rw [drop_flat _ _ _ hlt] at hx1
        clear hx hrg d0 d1 d2 d3 d4 d5
        generalize pool[k] = cq at *
        obtain ⟨ct, cs, cn, ca, cb, cc⟩ := cq
        simp only [] at D0 D1 D2 D3 D4 D5 ke1
        have ke := Lib.hid ke1
        have hx := Lib.hid hx1
        clear ke1 hx1
        have hEa := hE.out.alloc (.cells #[.int .i64 ct, .string cs, .int .i64 cn, .int .i64 ca, .int .i64 cb, .int .i64 cc] 58)
        have hTa := Tm.new hE.out (.cells #[.int .i64 ct, .string cs, .int .i64 cn, .int .i64 ca, .int .i64 cb, .int .i64 cc] 58)
        go_wp2_with fail
        refine (put_em hEa ct 1 (by decide) (by decide) (by have := hlx.out; omega)).mono ?_
        rintro e w3 ⟨v3, rfl, hE3, hO3⟩
        have hT3 := hTa.onto hO3
        clear hEa hTa hO3 hE D0 D1 D2 D3 D4 D5
        have d0 := (blk_cell hT3.1 0 _ rfl).1
        have hE3' := Lib.hid hE3
        have hT3' := Lib.hid hT3
        by_cases t1 : ct = 1
        · subst t1
          have d1 := (blk_cell hT3.1 1 _ rfl).1
          clear hE3 hT3
          go_wp2_with fail
          refine (ke.out _ hE3'.out.bel).mono ?_
          rintro e w4 ⟨rfl, hb4⟩
          have hE4 := hE3'.out.below hb4
          have hx2 := hx.out
          rw [Sp.constB, if_pos rfl] at hx2
          simp only [] at hx2
          have hsz : Hid ((Sp.encS cs).1.size ≤ 65535) := Lib.hid (encS_size cs)
          generalize Sp.encS cs = en at *
          obtain ⟨es, ee⟩ := en
          simp only [] at hx2 hsz
          have hx := Lib.hid hx2
          clear hb4 hE3' hT3' d0 d1 ke hx2
          go_wp2_with fail
          refine (puts_blk (hE4.alloc _) (Tm.new hE4 _) [(es.size : Int)] rfl 1 1 rfl (by have := hlx.out; simp [Sp.putL_length]; omega)).mono ?_
          rintro e w5 ⟨v5, rfl, hE5, _⟩
          clear hE4
          have hE5' := Lib.hid hE5
          have hs5 := hE5.max
          go_wp2_with (at_builtin; refine wpList_append_own_string _ rfl _ _ 74 9 rfl (w.heap.size + 1) 5 i0 Tryd.underlying74 Tryd.underlying9 hi hz0 hz1 hz2 _ _ _ rfl hE5.own es rfl ?c1 ?c2 ?c3 ?_)
          case c1 => have := hlx.out; have := hsz.out; unfold maxLen; simp [Sp.putL_length, Sp.putsL_length]; omega
          case c2 => have := hlx.out; have := hsz.out; simp [Sp.putL_length, Sp.putsL_length]; omega
          case c3 => have := hE5.lt; omega
          intro v6 w6 ho6 hg6 _
          have hE6 := Lib.hid (hE5'.out.str es (by have := ho6; simp only [List.length_append, List.append_assoc, Nat.add_assoc] at this ⊢; exact this) hg6)
          have hx6 := Lib.hid (show (((xs ++ Sp.putL 1 1) ++ Sp.putsL [(es.size : Int)]) ++ Sp.nums es) ++ (pool.drop (k + 1)).flatMap Sp.constB = _ by have := hx.out; simpa only [List.append_assoc] using this)
          clear ho6 hg6 hE5 hE5' hs5 hx
          go_wp2
          go_roundw
          case rel => exact ⟨k + 1, _, by go_num, by omega, hE6, Lib.hid (by have := hx6.out; simpa only [List.append_assoc] using this)⟩
          case measure => simp [RowKit.intOf]; omega
        · have t1b : (ct == 1) = false := by simp [t1]
          by_cases t2 : ct = 2
          · subst t2
            have d2 := (blk_cell hT3.1 2 _ rfl).1
            have hx2 := hx.out
            rw [Sp.constB, if_neg (by simp), if_pos rfl] at hx2
            simp only [] at hx2
            have hx := Lib.hid hx2
            clear hT3 hx2 ke t1
            go_wp2_with fail
            refine (put_em hE3 cn 8 (by decide) (by decide) (by have := hlx.out; simp [Sp.putL_length]; omega)).mono ?_
            rintro e w4 ⟨v4, rfl, hE4, _⟩
            have hE4' := Lib.hid hE4
            clear hE3 hE3' hT3' d0 d2 hE4
            go_wp2
            go_roundw
            case rel => exact ⟨k + 1, _, by go_num, by omega, hE4', Lib.hid (by have := hx.out; simpa only [List.append_assoc] using this)⟩
            case measure => simp [RowKit.intOf]; omega
          · have t2b : (ct == 2) = false := by simp [t2]
            by_cases t5 : ct = 5 ∨ ct = 6
            · have d3 := (blk_cell hT3.1 3 _ rfl).1
              have d4 := (blk_cell hT3.1 4 _ rfl).1
              have d5 := (blk_cell hT3.1 5 _ rfl).1
              have hx2 := hx.out
              rw [Sp.constB, if_neg t1, if_neg t2, if_pos t5] at hx2
              simp only [] at hx2
              have hx := Lib.hid hx2
              clear hT3 hx2 ke
              rcases t5 with rfl | rfl
              all_goals
                clear t1 t2
                go_wp2_with fail
                refine (puts_blk (hE3.alloc _) (Tm.new hE3 _) [ca, cb, cc] rfl 3 3 rfl (by have := hlx.out; simp [Sp.putL_length]; omega)).mono ?_
                rintro e w4 ⟨v4, rfl, hE4, _⟩
                have hE4' := Lib.hid hE4
                clear hE3 hE3' hT3' d0 d3 d4 d5 hE4
                go_wp2
                go_roundw
                case rel => exact ⟨k + 1, _, by go_num, by omega, hE4', Lib.hid (by have := hx.out; simpa only [List.append_assoc] using this)⟩
                case measure => simp [RowKit.intOf]; omega
            · have t5b : (ct == 5) = false := by simp; intro q; exact t5 (.inl q)
              have t6b : (ct == 6) = false := by simp; intro q; exact t5 (.inr q)
              have d3 := (blk_cell hT3.1 3 _ rfl).1
              have hx2 := hx.out
              rw [Sp.constB, if_neg t1, if_neg t2, if_neg t5] at hx2
              simp only [] at hx2
              have hx := Lib.hid hx2
              clear hT3 hx2 ke t1 t2 t5
              go_wp2_with fail
              refine (puts_blk (hE3.alloc _) (Tm.new hE3 _) [ca] rfl 1 1 rfl (by have := hlx.out; simp [Sp.putL_length]; omega)).mono ?_
              rintro e w4 ⟨v4, rfl, hE4, _⟩
              have hE4' := Lib.hid hE4
              clear hE3 hE3' hT3' d0 d3 hE4
              go_wp2
              go_roundw
              case rel => exact ⟨k + 1, _, by go_num, by omega, hE4', Lib.hid (by have := hx.out; simpa only [List.append_assoc] using this)⟩
              case measure => simp [RowKit.intOf]; omega
      · obtain rfl : k = pool.length := by omega
        have hzk : ¬ (pool.length : Int) < (pool.length : Int) := by omega
        have hx1 := hx.out
        rw [List.drop_length, List.flatMap_nil, List.append_nil] at hx1
        subst hx1
        clear hx KE HP
        generalize [67, 82, 85, 88] ++ Sp.putsL [(pool.length : Int)] ++ pool.flatMap Sp.constB = P1 at *
        have hLn := hL.out
        simp only [List.length_append, Sp.putL_length, Sp.putsL_length, List.length_cons, List.length_nil] at hLn
        clear hL
        have hL := Lib.hid hLn
        clear hLn
        go_upto_region 20 with fail
        go_cut [5] (fun s5 wx => Hid (Em w #[.slice qA pool.length qc, .int .i64 fl, .int .i64 th, .int .i64 su, .slice qI ifs.length qd, .slice qX flds.length qe, .slice qY mths.length qg] wx s5 (P1 ++ (Sp.putL fl 1 ++ Sp.putsL [th, su]))))
        case first =>
          have hEd := Lib.hid hE.out.drew
          have hEe := Lib.hid ((hE.out.alloc (.cells #[.int .i64 th, .int .i64 su] 3)).drew)
          have hTe := Lib.hid ((Tm.new hE.out (.cells #[.int .i64 th, .int .i64 su] 3)).drew)
          have kA := Lib.hid (show Calls Tryd.prog 59 #[u5, .int .i64 fl, .int .i64 1] wr.drew (fun e W' => ∃ v', e = .returned v' ∧ Em w #[.slice qA pool.length qc, .int .i64 fl, .int .i64 th, .int .i64 su, .slice qI ifs.length qd, .slice qX flds.length qe, .slice qY mths.length qg] W' v' (P1 ++ Sp.putL fl 1) ∧ Onto u5 v' wr.drew W') from put_em hEd.out fl 1 (by decide) (by decide) (by have := hlx.out; omega))
          have kB := Lib.hid (show Calls Tryd.prog 59 #[u5, .int .i64 fl, .int .i64 1] (wr.alloc (.cells #[.int .i64 th, .int .i64 su] 3)).drew (fun e W' => ∃ v', e = .returned v' ∧ Em w #[.slice qA pool.length qc, .int .i64 fl, .int .i64 th, .int .i64 su, .slice qI ifs.length qd, .slice qX flds.length qe, .slice qY mths.length qg] W' v' (P1 ++ Sp.putL fl 1) ∧ Onto u5 v' (wr.alloc (.cells #[.int .i64 th, .int .i64 su] 3)).drew W') from put_em hEe.out fl 1 (by decide) (by decide) (by have := hlx.out; omega))
          go_region_held3 (fun w' => w'.cell? ⟨w.heap.size, 1, none⟩ = some (.int .i64 fl) ∧ w'.cell? ⟨w.heap.size, 2, none⟩ = some (.int .i64 th) ∧ w'.cell? ⟨w.heap.size, 3, none⟩ = some (.int .i64 su)) (first | with_reducible exact em123 hEd.out | with_reducible exact em123 hEe.out | with_reducible exact em123 (by with_reducible assumption) | with_reducible exact em123 (Em.alloc (by with_reducible assumption) _)) (first | (go_at_call 59; (first | with_reducible refine kA.out.mono ?_ | with_reducible refine kB.out.mono ?_); rintro e w3 ⟨v3, rfl, hE3, hO3⟩) | (go_at_call 58; (first | (have kC : Calls Tryd.prog 58 #[v3, .slice (some ⟨w3.heap.size, 0, none⟩) 2 2] (w3.alloc (.cells #[.int .i64 th, .int .i64 su] 3)) (fun e W' => ∃ v', e = .returned v' ∧ Em w #[.slice qA pool.length qc, .int .i64 fl, .int .i64 th, .int .i64 su, .slice qI ifs.length qd, .slice qX flds.length qe, .slice qY mths.length qg] W' v' (P1 ++ Sp.putL fl 1 ++ Sp.putsL [th, su]) ∧ Onto v3 v' (w3.alloc (.cells #[.int .i64 th, .int .i64 su] 3)) W') := puts_blk (hE3.alloc _) (Tm.new hE3 _) [th, su] rfl 2 2 rfl (by have := hlx.out; simp [Sp.putL_length]; omega); with_reducible refine kC.mono ?_) | (have kD : Calls Tryd.prog 58 #[v3, .slice (some ⟨wr.heap.size, 0, none⟩) 2 2] w3 (fun e W' => ∃ v', e = .returned v' ∧ Em w #[.slice qA pool.length qc, .int .i64 fl, .int .i64 th, .int .i64 su, .slice qI ifs.length qd, .slice qX flds.length qe, .slice qY mths.length qg] W' v' (P1 ++ Sp.putL fl 1 ++ Sp.putsL [th, su]) ∧ Onto v3 v' w3 W') := puts_blk hE3 (hTe.out.onto hO3) [th, su] rfl 2 2 rfl (by have := hlx.out; simp [Sp.putL_length]; omega); with_reducible refine kD.mono ?_)); rintro e w4 ⟨v4, rfl, hE4, hO4⟩))
          all_goals
            go_wp2
            go_meet
            exact Lib.hid (by have h := hE4; rw [List.append_assoc] at h; exact h)
        case rest =>
          have hE := Lib.hid hcut.out
          clear hcut hlx
          have hEd := Lib.hid hE.out.drew
          have kA := Lib.hid (show Calls Tryd.prog 59 #[u5, .int .i64 (ifs.length : Int), .int .i64 1] wc.drew (fun e W' => ∃ v', e = .returned v' ∧ Em w #[.slice qA pool.length qc, .int .i64 fl, .int .i64 th, .int .i64 su, .slice qI ifs.length qd, .slice qX flds.length qe, .slice qY mths.length qg] W' v' ((P1 ++ (Sp.putL fl 1 ++ Sp.putsL [th, su])) ++ Sp.putL (ifs.length : Int) 1) ∧ Onto u5 v' wc.drew W') from put_em hEd.out (ifs.length : Int) 1 (by decide) (by decide) (by have := hL.out; simp only [List.length_append, Sp.putL_length, Sp.putsL_length, List.length_cons, List.length_nil]; omega))
          go_wp2_with fail
          go_region_held3 (fun w' => w'.cell? ⟨w.heap.size, 4, none⟩ = some (.slice qI ifs.length qd)) (first | with_reducible exact em4 hEd.out | with_reducible exact em4 (by with_reducible assumption)) (first | (go_at_call 59; with_reducible refine kA.out.mono ?_; rintro e w3 ⟨v3, rfl, hE3, hO3⟩) | (go_at_call 58; refine (puts_old hE3 qI qd ifs HI.out (by have := hL.out; simp only [List.length_append, Sp.putL_length, Sp.putsL_length, List.length_cons, List.length_nil]; omega)).mono ?_; rintro e w4 ⟨v4, rfl, hE4, hO4⟩))
          have hEx := hE4
          rw [List.append_assoc] at hEx
          have hE5 := Lib.hid hEx
          clear hEx hE4 hO4 hE3 hO3 hE hEd kA
          have hE := hE5
          clear hE5
          obtain ⟨c0, c1, c2, c3, c4, c5, c6⟩ := flC_box (q := ⟨qA, qc, qI, qd, qX, qe, qY, qg⟩) (F := ⟨pool, fl, th, su, ifs, flds, mths⟩) hE.out.box
          simp only [] at c0 c1 c2 c3 c4 c5 c6
          go_wp2_with fail
          refine (put_em hE.out (flds.length : Int) 1 (by decide) (by decide) (by have := hL.out; simp only [List.length_append, Sp.putL_length, Sp.putsL_length, List.length_cons, List.length_nil]; omega)).mono ?_
          rintro e w5 ⟨v5, rfl, hE5, _⟩
          clear hE c0 c1 c2 c3 c4 c5 c6
          have hE5' := Lib.hid hE5
          obtain ⟨c0, c1, c2, c3, c4, c5, c6⟩ := flC_box (q := ⟨qA, qc, qI, qd, qX, qe, qY, qg⟩) (F := ⟨pool, fl, th, su, ifs, flds, mths⟩) hE5'.out.box
          simp only [] at c0 c1 c2 c3 c4 c5 c6
          clear hE5
          generalize hP4 : P1 ++ (Sp.putL fl 1 ++ Sp.putsL [th, su]) ++ (Sp.putL (ifs.length : Int) 1 ++ Sp.putsL ifs) ++ Sp.putL (flds.length : Int) 1 = P4 at *
          have hl4' : P4.length = P1.length + 7 + 2 * ifs.length := by rw [← hP4]; simp only [List.length_append, Sp.putL_length, Sp.putsL_length, List.length_cons, List.length_nil]; omega
          have hl4 := Lib.hid hl4'
          clear hP4 hl4'
          have HX1 := Lib.hid (show P4 ++ (flds.drop 0).flatMap (fun m => Sp.fieldB m.1) = P4 ++ flds.flatMap (fun m => Sp.fieldB m.1) from rfl)
          go_wp2

          go_loopw [5, 106] (fun v5 v106 wr => ∃ (k : Nat) (xs : List Int), v106 = .int .i64 k ∧ k ≤ flds.length ∧ Hid (Em w #[.slice qA pool.length qc, .int .i64 fl, .int .i64 th, .int .i64 su, .slice qI ifs.length qd, .slice qX flds.length qe, .slice qY mths.length qg] wr v5 xs) ∧ Hid (xs ++ (flds.drop k).flatMap (fun m => Sp.fieldB m.1) = P4 ++ flds.flatMap (fun m => Sp.fieldB m.1))) (fun _ v106 _ => flds.length - (RowKit.intOf v106).toNat)
          case atStart => exact ⟨0, _, by go_num, Nat.zero_le _, hE5', HX1⟩
          case round =>
            clear hE5' HX1 c0 c1 c2 c3 c4 c5 c6
            obtain ⟨k, xs, rfl, hk, hE, hx⟩ := hrel
            by_cases hlt : k < flds.length
            · obtain ⟨b, o, rfl, hrg⟩ := HX.out (by omega)
              obtain ⟨d0, d1, d2, d3, d4, d5, d6⟩ := mb_cells hrg hlt
              have D0 := cell_below hE.out.bel d0
              have D1 := cell_below hE.out.bel d1
              have D2 := cell_below hE.out.bel d2
              have D3 := cell_below hE.out.bel d3
              have D4 := cell_below hE.out.bel d4
              have D5 := cell_below hE.out.bel d5
              have D6 := cell_below hE.out.bel d6
              have hzk : (k : Int) < (flds.length : Int) := by omega
              have hx1 := hx.out
              rw [drop_flat _ _ _ hlt] at hx1
              have hlx : Hid (xs.length + (Sp.fieldB flds[k].1).length ≤ 900000000) := Lib.hid (by
                have h1 := congrArg List.length hx1
                have h2 := hL.out
                have h3 := hl4.out
                simp only [List.length_append, Sp.putL_length, Sp.putsL_length, List.length_cons, List.length_nil] at h1 h2
                omega)
              clear hx hrg d0 d1 d2 d3 d4 d5 d6
              generalize flds[k] = mq at *
              obtain ⟨⟨mf, mn, md, ms, ml, mc, mh⟩, mA, mcap⟩ := mq
              simp only [] at D0 D1 D2 D3 D4 D5 D6 hx1 hlx
              have hx := Lib.hid hx1
              clear hx1
              have hEa := Lib.hid (hE.out.alloc (.cells #[.int .i64 mf, .int .i64 mn, .int .i64 md, .int .i64 ms, .int .i64 ml, .string mc, .slice mA mh.length mcap] 65))
              have hTa := Lib.hid (Tm.new hE.out (.cells #[.int .i64 mf, .int .i64 mn, .int .i64 md, .int .i64 ms, .int .i64 ml, .string mc, .slice mA mh.length mcap] 65))
              go_upto_region 26 with fail
              clear D0 D1 D2 D3 D4 D5 D6 hE
              generalize wr.alloc (.cells #[.int .i64 mf, .int .i64 mn, .int .i64 md, .int .i64 ms, .int .i64 ml, .string mc, .slice mA mh.length mcap] 65) = W at *
              generalize wr.heap.size = tb at *
              have hE := hEa
              have hT := hTa
              clear hEa hTa
              have hEd := Lib.hid hE.out.drew
              have hEe := Lib.hid ((hE.out.alloc (.cells #[.int .i64 mn, .int .i64 md] 3)).drew)
              have hTd := Lib.hid hT.out.drew
              have hTe := Lib.hid ((Tm.new hE.out (.cells #[.int .i64 mn, .int .i64 md] 3)).drew)
              have hTf := Lib.hid ((hT.out.alloc (.cells #[.int .i64 mn, .int .i64 md] 3)).drew)
              have kA := Lib.hid (show Calls Tryd.prog 59 #[u5, .int .i64 mf, .int .i64 1] W.drew (fun e W' => ∃ v', e = .returned v' ∧ Em w #[.slice qA pool.length qc, .int .i64 fl, .int .i64 th, .int .i64 su, .slice qI ifs.length qd, .slice (some ⟨b, o, none⟩) flds.length qe, .slice qY mths.length qg] W' v' (xs ++ Sp.putL mf 1) ∧ Onto u5 v' W.drew W') from put_em hEd.out mf 1 (by decide) (by decide) (by have := hlx.out; (try simp only [List.length_append, Sp.putL_length, Sp.putsL_length, List.length_cons, List.length_nil]); omega))
              have kB := Lib.hid (show Calls Tryd.prog 59 #[u5, .int .i64 mf, .int .i64 1] (W.alloc (.cells #[.int .i64 mn, .int .i64 md] 3)).drew (fun e W' => ∃ v', e = .returned v' ∧ Em w #[.slice qA pool.length qc, .int .i64 fl, .int .i64 th, .int .i64 su, .slice qI ifs.length qd, .slice (some ⟨b, o, none⟩) flds.length qe, .slice qY mths.length qg] W' v' (xs ++ Sp.putL mf 1) ∧ Onto u5 v' (W.alloc (.cells #[.int .i64 mn, .int .i64 md] 3)).drew W') from put_em hEe.out mf 1 (by decide) (by decide) (by have := hlx.out; (try simp only [List.length_append, Sp.putL_length, Sp.putsL_length, List.length_cons, List.length_nil]); omega))
              go_region_held3 (fun w' => w'.cell? ⟨tb, 0, none⟩ = some (.int .i64 mf) ∧ w'.cell? ⟨tb, 1, none⟩ = some (.int .i64 mn) ∧ w'.cell? ⟨tb, 2, none⟩ = some (.int .i64 md)) (first | with_reducible exact tm012 hTd.out | with_reducible exact tm012 hTf.out | with_reducible exact tm012 (by with_reducible assumption) | with_reducible exact tm012 (Tm.alloc (by with_reducible assumption) _)) (first | (go_at_call 59; (first | with_reducible refine kA.out.mono ?_ | with_reducible refine kB.out.mono ?_); rintro e w3 ⟨v3, rfl, hE3, hO3⟩; have hT3 : Tm w3 v3 tb (.cells #[.int .i64 mf, .int .i64 mn, .int .i64 md, .int .i64 ms, .int .i64 ml, .string mc, .slice mA mh.length mcap] 65) := by first | with_reducible exact hTd.out.onto hO3 | with_reducible exact hTf.out.onto hO3) | (go_at_call 58; (first | (have kC : Calls Tryd.prog 58 #[v3, .slice (some ⟨w3.heap.size, 0, none⟩) 2 2] (w3.alloc (.cells #[.int .i64 mn, .int .i64 md] 3)) (fun e W' => ∃ v', e = .returned v' ∧ Em w #[.slice qA pool.length qc, .int .i64 fl, .int .i64 th, .int .i64 su, .slice qI ifs.length qd, .slice (some ⟨b, o, none⟩) flds.length qe, .slice qY mths.length qg] W' v' (xs ++ Sp.putL mf 1 ++ Sp.putsL [mn, md]) ∧ Onto v3 v' (w3.alloc (.cells #[.int .i64 mn, .int .i64 md] 3)) W') := puts_blk (hE3.alloc _) (Tm.new hE3 _) [mn, md] rfl 2 2 rfl (by have := hlx.out; (try simp only [List.length_append, Sp.putL_length, Sp.putsL_length, List.length_cons, List.length_nil]); omega); with_reducible refine kC.mono ?_) | (have kD : Calls Tryd.prog 58 #[v3, .slice (some ⟨W.heap.size, 0, none⟩) 2 2] w3 (fun e W' => ∃ v', e = .returned v' ∧ Em w #[.slice qA pool.length qc, .int .i64 fl, .int .i64 th, .int .i64 su, .slice qI ifs.length qd, .slice (some ⟨b, o, none⟩) flds.length qe, .slice qY mths.length qg] W' v' (xs ++ Sp.putL mf 1 ++ Sp.putsL [mn, md]) ∧ Onto v3 v' w3 W') := puts_blk hE3 (hTe.out.onto hO3) [mn, md] rfl 2 2 rfl (by have := hlx.out; (try simp only [List.length_append, Sp.putL_length, Sp.putsL_length, List.length_cons, List.length_nil]); omega); with_reducible refine kD.mono ?_)); rintro e w4 ⟨v4, rfl, hE4, hO4⟩; have hT4 : Tm w4 v4 tb (.cells #[.int .i64 mf, .int .i64 mn, .int .i64 md, .int .i64 ms, .int .i64 ml, .string mc, .slice mA mh.length mcap] 65) := by first | with_reducible exact (hT3.alloc _).onto hO4 | with_reducible exact hT3.onto hO4))
              all_goals
                have hx4 := hx.out
                rw [Sp.fieldB] at hx4
                simp only [] at hx4
                have hx' := Lib.hid hx4
                have hE4' := Lib.hid hE4
                clear hx4 hE4 hx
                go_wp2
                go_roundw
                case rel => exact ⟨k + 1, _, by go_num, by omega, hE4', Lib.hid (by have := hx'.out; simpa only [List.append_assoc] using this)⟩
                case measure => simp [RowKit.intOf]; omega
            · obtain rfl : k = flds.length := by omega
              have hzk : ¬ (flds.length : Int) < (flds.length : Int) := by omega
              have hx1 := hx.out
              rw [List.drop_length, List.flatMap_nil, List.append_nil] at hx1
              subst hx1
              clear hx
              obtain ⟨c0, c1, c2, c3, c4, c5, c6⟩ := flC_box (q := ⟨qA, qc, qI, qd, qX, qe, qY, qg⟩) (F := ⟨pool, fl, th, su, ifs, flds, mths⟩) hE.out.box
              simp only [] at c0 c1 c2 c3 c4 c5 c6
              go_wp2_with fail
              refine (put_em hE.out (mths.length : Int) 1 (by decide) (by decide) (by have := hL.out; have := hl4.out; simp only [List.length_append, Sp.putL_length, Sp.putsL_length, List.length_cons, List.length_nil]; omega)).mono ?_
              rintro e w6 ⟨v6, rfl, hE6, _⟩
              clear hE c0 c1 c2 c3 c4 c5 c6
              have hE5' := Lib.hid hE6
              obtain ⟨c0, c1, c2, c3, c4, c5, c6⟩ := flC_box (q := ⟨qA, qc, qI, qd, qX, qe, qY, qg⟩) (F := ⟨pool, fl, th, su, ifs, flds, mths⟩) hE5'.out.box
              simp only [] at c0 c1 c2 c3 c4 c5 c6
              clear hE6
              have hl5' : (P4 ++ flds.flatMap (fun m => Sp.fieldB m.1) ++ Sp.putL (mths.length : Int) 1).length + (mths.flatMap (fun m => Sp.methodB m.1)).length ≤ 900000000 := by
                have h1 := hL.out
                have h2 := hl4.out
                simp only [List.length_append, Sp.putL_length, Sp.putsL_length, List.length_cons, List.length_nil]
                omega
              generalize P4 ++ flds.flatMap (fun m => Sp.fieldB m.1) ++ Sp.putL (mths.length : Int) 1 = P5 at *
              have hl5 := Lib.hid hl5'
              clear hl5' hl4 hL
              have HX1 := Lib.hid (show P5 ++ (mths.drop 0).flatMap (fun m => Sp.methodB m.1) = P5 ++ mths.flatMap (fun m => Sp.methodB m.1) from rfl)
              go_wp2
              go_loopw [5, 129] (fun v5 v129 wr => ∃ (k : Nat) (xs : List Int), v129 = .int .i64 k ∧ k ≤ mths.length ∧ Hid (Em w #[.slice qA pool.length qc, .int .i64 fl, .int .i64 th, .int .i64 su, .slice qI ifs.length qd, .slice qX flds.length qe, .slice qY mths.length qg] wr v5 xs) ∧ Hid (xs ++ (mths.drop k).flatMap (fun m => Sp.methodB m.1) = P5 ++ mths.flatMap (fun m => Sp.methodB m.1))) (fun _ v129 _ => mths.length - (RowKit.intOf v129).toNat)
              case atStart => exact ⟨0, _, by go_num, Nat.zero_le _, hE5', HX1⟩
              case round =>
                clear hE5' HX1 c0 c1 c2 c3 c4 c5 c6
                obtain ⟨k, xs, rfl, hk, hE, hx⟩ := hrel
                by_cases hlt : k < mths.length
                · obtain ⟨b, o, rfl, hrg⟩ := HY.out (by omega)
                  obtain ⟨d0, d1, d2, d3, d4, d5, d6⟩ := mb_cells hrg hlt
                  have D0 := cell_below hE.out.bel d0
                  have D1 := cell_below hE.out.bel d1
                  have D2 := cell_below hE.out.bel d2
                  have D3 := cell_below hE.out.bel d3
                  have D4 := cell_below hE.out.bel d4
                  have D5 := cell_below hE.out.bel d5
                  have D6 := cell_below hE.out.bel d6
                  have hzk : (k : Int) < (mths.length : Int) := by omega
                  have hx1 := hx.out
                  rw [drop_flat _ _ _ hlt] at hx1
                  have hlx : Hid (xs.length + (Sp.methodB mths[k].1).length ≤ 900000000) := Lib.hid (by
                    have h1 := congrArg List.length hx1
                    have h2 := hl5.out
                    simp only [List.length_append, Sp.putL_length, Sp.putsL_length, List.length_cons, List.length_nil] at h1 h2
                    omega)
                  have hh1 := HH.out _ (List.getElem_mem hlt)
                  clear hx hrg d0 d1 d2 d3 d4 d5 d6
                  generalize mths[k] = mq at *
                  obtain ⟨⟨mf, mn, md, ms, ml, mc, mh⟩, mA, mcap⟩ := mq
                  simp only [] at D0 D1 D2 D3 D4 D5 D6 hx1 hlx hh1
                  have hx := Lib.hid hx1
                  clear hx1
                  have hEa := Lib.hid (hE.out.alloc (.cells #[.int .i64 mf, .int .i64 mn, .int .i64 md, .int .i64 ms, .int .i64 ml, .string mc, .slice mA mh.length mcap] 65))
                  have hTa := Lib.hid (Tm.new hE.out (.cells #[.int .i64 mf, .int .i64 mn, .int .i64 md, .int .i64 ms, .int .i64 ml, .string mc, .slice mA mh.length mcap] 65))
                  have hh := Lib.hid hh1
                  clear hh1
                  go_upto_region 32 with fail
                  clear D0 D1 D2 D3 D4 D5 D6 hE
                  generalize wr.alloc (.cells #[.int .i64 mf, .int .i64 mn, .int .i64 md, .int .i64 ms, .int .i64 ml, .string mc, .slice mA mh.length mcap] 65) = W at *
                  generalize wr.heap.size = tb at *
                  have hE := hEa
                  have hT := hTa
                  clear hEa hTa
                  go_cut [5] (fun s5 wx => Hid (Em w #[.slice qA pool.length qc, .int .i64 fl, .int .i64 th, .int .i64 su, .slice qI ifs.length qd, .slice qX flds.length qe, .slice (some ⟨b, o, none⟩) mths.length qg] wx s5 (xs ++ Sp.putL mf 1 ++ Sp.putsL [mn, md])) ∧ Hid (Tm wx s5 tb (.cells #[.int .i64 mf, .int .i64 mn, .int .i64 md, .int .i64 ms, .int .i64 ml, .string mc, .slice mA mh.length mcap] 65)))
                  case first =>
                    have hEd := Lib.hid hE.out.drew
                    have hEe := Lib.hid ((hE.out.alloc (.cells #[.int .i64 mn, .int .i64 md] 3)).drew)
                    have hTd := Lib.hid hT.out.drew
                    have hTe := Lib.hid ((Tm.new hE.out (.cells #[.int .i64 mn, .int .i64 md] 3)).drew)
                    have hTf := Lib.hid ((hT.out.alloc (.cells #[.int .i64 mn, .int .i64 md] 3)).drew)
                    have kA := Lib.hid (show Calls Tryd.prog 59 #[u5, .int .i64 mf, .int .i64 1] W.drew (fun e W' => ∃ v', e = .returned v' ∧ Em w #[.slice qA pool.length qc, .int .i64 fl, .int .i64 th, .int .i64 su, .slice qI ifs.length qd, .slice qX flds.length qe, .slice (some ⟨b, o, none⟩) mths.length qg] W' v' (xs ++ Sp.putL mf 1) ∧ Onto u5 v' W.drew W') from put_em hEd.out mf 1 (by decide) (by decide) (by have := hlx.out; (try simp only [List.length_append, Sp.putL_length, Sp.putsL_length, List.length_cons, List.length_nil]); omega))
                    have kB := Lib.hid (show Calls Tryd.prog 59 #[u5, .int .i64 mf, .int .i64 1] (W.alloc (.cells #[.int .i64 mn, .int .i64 md] 3)).drew (fun e W' => ∃ v', e = .returned v' ∧ Em w #[.slice qA pool.length qc, .int .i64 fl, .int .i64 th, .int .i64 su, .slice qI ifs.length qd, .slice qX flds.length qe, .slice (some ⟨b, o, none⟩) mths.length qg] W' v' (xs ++ Sp.putL mf 1) ∧ Onto u5 v' (W.alloc (.cells #[.int .i64 mn, .int .i64 md] 3)).drew W') from put_em hEe.out mf 1 (by decide) (by decide) (by have := hlx.out; (try simp only [List.length_append, Sp.putL_length, Sp.putsL_length, List.length_cons, List.length_nil]); omega))
                    go_region_held3 (fun w' => w'.cell? ⟨tb, 0, none⟩ = some (.int .i64 mf) ∧ w'.cell? ⟨tb, 1, none⟩ = some (.int .i64 mn) ∧ w'.cell? ⟨tb, 2, none⟩ = some (.int .i64 md)) (first | with_reducible exact tm012 hTd.out | with_reducible exact tm012 hTf.out | with_reducible exact tm012 (by with_reducible assumption) | with_reducible exact tm012 (Tm.alloc (by with_reducible assumption) _)) (first | (go_at_call 59; (first | with_reducible refine kA.out.mono ?_ | with_reducible refine kB.out.mono ?_); rintro e w3 ⟨v3, rfl, hE3, hO3⟩; have hT3 : Tm w3 v3 tb (.cells #[.int .i64 mf, .int .i64 mn, .int .i64 md, .int .i64 ms, .int .i64 ml, .string mc, .slice mA mh.length mcap] 65) := by first | with_reducible exact hTd.out.onto hO3 | with_reducible exact hTf.out.onto hO3) | (go_at_call 58; (first | (have kC : Calls Tryd.prog 58 #[v3, .slice (some ⟨w3.heap.size, 0, none⟩) 2 2] (w3.alloc (.cells #[.int .i64 mn, .int .i64 md] 3)) (fun e W' => ∃ v', e = .returned v' ∧ Em w #[.slice qA pool.length qc, .int .i64 fl, .int .i64 th, .int .i64 su, .slice qI ifs.length qd, .slice qX flds.length qe, .slice (some ⟨b, o, none⟩) mths.length qg] W' v' (xs ++ Sp.putL mf 1 ++ Sp.putsL [mn, md]) ∧ Onto v3 v' (w3.alloc (.cells #[.int .i64 mn, .int .i64 md] 3)) W') := puts_blk (hE3.alloc _) (Tm.new hE3 _) [mn, md] rfl 2 2 rfl (by have := hlx.out; (try simp only [List.length_append, Sp.putL_length, Sp.putsL_length, List.length_cons, List.length_nil]); omega); with_reducible refine kC.mono ?_) | (have kD : Calls Tryd.prog 58 #[v3, .slice (some ⟨W.heap.size, 0, none⟩) 2 2] w3 (fun e W' => ∃ v', e = .returned v' ∧ Em w #[.slice qA pool.length qc, .int .i64 fl, .int .i64 th, .int .i64 su, .slice qI ifs.length qd, .slice qX flds.length qe, .slice (some ⟨b, o, none⟩) mths.length qg] W' v' (xs ++ Sp.putL mf 1 ++ Sp.putsL [mn, md]) ∧ Onto v3 v' w3 W') := puts_blk hE3 (hTe.out.onto hO3) [mn, md] rfl 2 2 rfl (by have := hlx.out; (try simp only [List.length_append, Sp.putL_length, Sp.putsL_length, List.length_cons, List.length_nil]); omega); with_reducible refine kD.mono ?_)); rintro e w4 ⟨v4, rfl, hE4, hO4⟩; have hT4 : Tm w4 v4 tb (.cells #[.int .i64 mf, .int .i64 mn, .int .i64 md, .int .i64 ms, .int .i64 ml, .string mc, .slice mA mh.length mcap] 65) := by first | with_reducible exact (hT3.alloc _).onto hO4 | with_reducible exact hT3.onto hO4))
                    all_goals
                      go_wp2
                      go_meet
                      exact ⟨Lib.hid hE4, Lib.hid hT4⟩
                  case rest =>
                    clear hE hT
                    obtain ⟨hE, hT⟩ := hcut
                    have e0 := (blk_cell hT.out.1 0 _ rfl).1
                    have hx4 := hx.out
                    rw [Sp.methodB] at hx4
                    simp only [] at hx4
                    by_cases m2 : mf = 2
                    · subst m2
                      rw [if_pos rfl] at hx4
                      have hx' := Lib.hid hx4
                      clear hx4 hx hT hh
                      go_wp2
                      go_roundw
                      case rel => exact ⟨k + 1, _, by go_num, by omega, hE, Lib.hid (by have := hx'.out; simpa only [List.append_assoc, List.append_nil, List.nil_append] using this)⟩
                      case measure => simp [RowKit.intOf]; omega
                    · have m2b : (mf == 2) = false := by simp [m2]
                      rw [if_neg m2, Sp.codeB] at hx4
                      simp only [] at hx4
                      have hx' := Lib.hid hx4
                      have hlx2 := hlx.out
                      rw [Sp.methodB, Sp.codeB] at hlx2
                      simp only [] at hlx2
                      rw [if_neg m2] at hlx2
                      simp only [List.length_append, Sp.putL_length, Sp.putsL_length, List.length_cons, List.length_nil, nums_length] at hlx2
                      clear hx4 hx hlx
                      have hlx := Lib.hid hlx2
                      clear hlx2
                      go_upto_region 34 with fail
                      clear e0
                      go_cut [5] (fun s5 wx => Hid (Em w #[.slice qA pool.length qc, .int .i64 fl, .int .i64 th, .int .i64 su, .slice qI ifs.length qd, .slice qX flds.length qe, .slice (some ⟨b, o, none⟩) mths.length qg] wx s5 (xs ++ Sp.putL mf 1 ++ Sp.putsL [mn, md] ++ Sp.putL ms 1 ++ Sp.putL ml 1 ++ Sp.putsL [(mc.size : Int)])) ∧ Hid (Tm wx s5 tb (.cells #[.int .i64 mf, .int .i64 mn, .int .i64 md, .int .i64 ms, .int .i64 ml, .string mc, .slice mA mh.length mcap] 65)))
                      case first =>
                        have hEd := Lib.hid hE.out.drew
                        have hEe := Lib.hid ((hE.out.alloc (.cells #[.int .i64 mc.size] 3)).drew)
                        have hTd := Lib.hid hT.out.drew
                        have hTe := Lib.hid ((Tm.new hE.out (.cells #[.int .i64 mc.size] 3)).drew)
                        have hTf := Lib.hid ((hT.out.alloc (.cells #[.int .i64 mc.size] 3)).drew)
                        have kA := Lib.hid (show Calls Tryd.prog 59 #[u5, .int .i64 ms, .int .i64 1] wc.drew (fun e W' => ∃ v', e = .returned v' ∧ Em w #[.slice qA pool.length qc, .int .i64 fl, .int .i64 th, .int .i64 su, .slice qI ifs.length qd, .slice qX flds.length qe, .slice (some ⟨b, o, none⟩) mths.length qg] W' v' ((xs ++ Sp.putL mf 1 ++ Sp.putsL [mn, md]) ++ Sp.putL ms 1) ∧ Onto u5 v' wc.drew W') from put_em hEd.out ms 1 (by decide) (by decide) (by have := hlx.out; (try simp only [List.length_append, Sp.putL_length, Sp.putsL_length, List.length_cons, List.length_nil]); omega))
                        have kB := Lib.hid (show Calls Tryd.prog 59 #[u5, .int .i64 ms, .int .i64 1] (wc.alloc (.cells #[.int .i64 mc.size] 3)).drew (fun e W' => ∃ v', e = .returned v' ∧ Em w #[.slice qA pool.length qc, .int .i64 fl, .int .i64 th, .int .i64 su, .slice qI ifs.length qd, .slice qX flds.length qe, .slice (some ⟨b, o, none⟩) mths.length qg] W' v' ((xs ++ Sp.putL mf 1 ++ Sp.putsL [mn, md]) ++ Sp.putL ms 1) ∧ Onto u5 v' (wc.alloc (.cells #[.int .i64 mc.size] 3)).drew W') from put_em hEe.out ms 1 (by decide) (by decide) (by have := hlx.out; (try simp only [List.length_append, Sp.putL_length, Sp.putsL_length, List.length_cons, List.length_nil]); omega))
                        go_region_held3 (fun w' => w'.cell? ⟨tb, 3, none⟩ = some (.int .i64 ms) ∧ w'.cell? ⟨tb, 4, none⟩ = some (.int .i64 ml) ∧ w'.cell? ⟨tb, 5, none⟩ = some (.string mc)) (first | with_reducible exact tm345 hTd.out | with_reducible exact tm345 hTf.out | with_reducible exact tm345 (by with_reducible assumption) | with_reducible exact tm345 (Tm.alloc (by with_reducible assumption) _)) (first | (go_at_call 59; (first | with_reducible refine kA.out.mono ?_ | with_reducible refine kB.out.mono ?_); rintro e w3 ⟨v3, rfl, hE3, hO3⟩; have hT3 : Tm w3 v3 tb (.cells #[.int .i64 mf, .int .i64 mn, .int .i64 md, .int .i64 ms, .int .i64 ml, .string mc, .slice mA mh.length mcap] 65) := by first | with_reducible exact hTd.out.onto hO3 | with_reducible exact hTf.out.onto hO3) | (go_at_call 59; (first | (have kA2 : Calls Tryd.prog 59 #[v3, .int .i64 ml, .int .i64 1] w3 (fun e W' => ∃ v', e = .returned v' ∧ Em w #[.slice qA pool.length qc, .int .i64 fl, .int .i64 th, .int .i64 su, .slice qI ifs.length qd, .slice qX flds.length qe, .slice (some ⟨b, o, none⟩) mths.length qg] W' v' ((xs ++ Sp.putL mf 1 ++ Sp.putsL [mn, md]) ++ Sp.putL ms 1 ++ Sp.putL ml 1) ∧ Onto v3 v' w3 W') := put_em hE3 ml 1 (by decide) (by decide) (by have := hlx.out; (try simp only [List.length_append, Sp.putL_length, Sp.putsL_length, List.length_cons, List.length_nil]); omega); with_reducible refine kA2.mono ?_) | (have kB2 : Calls Tryd.prog 59 #[v3, .int .i64 ml, .int .i64 1] (w3.alloc (.cells #[.int .i64 mc.size] 3)) (fun e W' => ∃ v', e = .returned v' ∧ Em w #[.slice qA pool.length qc, .int .i64 fl, .int .i64 th, .int .i64 su, .slice qI ifs.length qd, .slice qX flds.length qe, .slice (some ⟨b, o, none⟩) mths.length qg] W' v' ((xs ++ Sp.putL mf 1 ++ Sp.putsL [mn, md]) ++ Sp.putL ms 1 ++ Sp.putL ml 1) ∧ Onto v3 v' (w3.alloc (.cells #[.int .i64 mc.size] 3)) W') := put_em (hE3.alloc _) ml 1 (by decide) (by decide) (by have := hlx.out; (try simp only [List.length_append, Sp.putL_length, Sp.putsL_length, List.length_cons, List.length_nil]); omega); with_reducible refine kB2.mono ?_)); rintro e w4 ⟨v4, rfl, hE4, hO4⟩; have hT4 : Tm w4 v4 tb (.cells #[.int .i64 mf, .int .i64 mn, .int .i64 md, .int .i64 ms, .int .i64 ml, .string mc, .slice mA mh.length mcap] 65) := by first | with_reducible exact hT3.onto hO4 | with_reducible exact (hT3.alloc _).onto hO4) | (go_at_call 58; (first | (have kC : Calls Tryd.prog 58 #[v4, .slice (some ⟨w4.heap.size, 0, none⟩) 1 1] (w4.alloc (.cells #[.int .i64 mc.size] 3)) (fun e W' => ∃ v', e = .returned v' ∧ Em w #[.slice qA pool.length qc, .int .i64 fl, .int .i64 th, .int .i64 su, .slice qI ifs.length qd, .slice qX flds.length qe, .slice (some ⟨b, o, none⟩) mths.length qg] W' v' ((xs ++ Sp.putL mf 1 ++ Sp.putsL [mn, md]) ++ Sp.putL ms 1 ++ Sp.putL ml 1 ++ Sp.putsL [(mc.size : Int)]) ∧ Onto v4 v' (w4.alloc (.cells #[.int .i64 mc.size] 3)) W') := puts_blk (hE4.alloc _) (Tm.new hE4 _) [(mc.size : Int)] rfl 1 1 rfl (by have := hlx.out; (try simp only [List.length_append, Sp.putL_length, Sp.putsL_length, List.length_cons, List.length_nil]); omega); with_reducible refine kC.mono ?_) | (have kD : Calls Tryd.prog 58 #[v4, .slice (some ⟨w3.heap.size, 0, none⟩) 1 1] w4 (fun e W' => ∃ v', e = .returned v' ∧ Em w #[.slice qA pool.length qc, .int .i64 fl, .int .i64 th, .int .i64 su, .slice qI ifs.length qd, .slice qX flds.length qe, .slice (some ⟨b, o, none⟩) mths.length qg] W' v' ((xs ++ Sp.putL mf 1 ++ Sp.putsL [mn, md]) ++ Sp.putL ms 1 ++ Sp.putL ml 1 ++ Sp.putsL [(mc.size : Int)]) ∧ Onto v4 v' w4 W') := puts_blk hE4 ((Tm.new hE3 (.cells #[.int .i64 mc.size] 3)).onto hO4) [(mc.size : Int)] rfl 1 1 rfl (by have := hlx.out; (try simp only [List.length_append, Sp.putL_length, Sp.putsL_length, List.length_cons, List.length_nil]); omega); with_reducible refine kD.mono ?_) | (have kE : Calls Tryd.prog 58 #[v4, .slice (some ⟨wc.heap.size, 0, none⟩) 1 1] w4 (fun e W' => ∃ v', e = .returned v' ∧ Em w #[.slice qA pool.length qc, .int .i64 fl, .int .i64 th, .int .i64 su, .slice qI ifs.length qd, .slice qX flds.length qe, .slice (some ⟨b, o, none⟩) mths.length qg] W' v' ((xs ++ Sp.putL mf 1 ++ Sp.putsL [mn, md]) ++ Sp.putL ms 1 ++ Sp.putL ml 1 ++ Sp.putsL [(mc.size : Int)]) ∧ Onto v4 v' w4 W') := puts_blk hE4 ((hTe.out.onto hO3).onto hO4) [(mc.size : Int)] rfl 1 1 rfl (by have := hlx.out; (try simp only [List.length_append, Sp.putL_length, Sp.putsL_length, List.length_cons, List.length_nil]); omega); with_reducible refine kE.mono ?_)); rintro e w5 ⟨v5, rfl, hE5, hO5⟩; have hT5 : Tm w5 v5 tb (.cells #[.int .i64 mf, .int .i64 mn, .int .i64 md, .int .i64 ms, .int .i64 ml, .string mc, .slice mA mh.length mcap] 65) := by first | with_reducible exact (hT4.alloc _).onto hO5 | with_reducible exact hT4.onto hO5))
                        all_goals
                          go_wp2
                          go_meet
                          exact ⟨Lib.hid hE5, Lib.hid hT5⟩
                      case rest =>
                        clear hE hT
                        obtain ⟨hE, hT⟩ := hcut
                        obtain ⟨va, wa, hra, oa, ga, _⟩ := run_append_own_string (P := Tryd.prog) wc.drew (w.heap.size + 1) 74 9 74 5 i0 Tryd.underlying74 Tryd.underlying9 hi hz0 hz1 hz2 u5 _ _ hE.out.drew.own mc (by have := hlx.out; unfold maxLen; simp only [List.length_append, Sp.putL_length, Sp.putsL_length, List.length_cons, List.length_nil]; omega) (by have := hlx.out; (try simp only [List.length_append, Sp.putL_length, Sp.putsL_length, List.length_cons, List.length_nil]); omega) (by have := hE.out.drew.lt; omega)
                        have hEd := Lib.hid (hE.out.drew.str mc oa ga)
                        have hTc := Lib.hid hT.out.drew
                        have hne : (65 : TypeId) ≠ 5 := by decide
                        have hTx : Tm wa va tb (.cells #[.int .i64 mf, .int .i64 mn, .int .i64 md, .int .i64 ms, .int .i64 ml, .string mc, .slice mA mh.length mcap] 65) := Tm.str hTc.out hne hEd.out ga
                        have hTd := Lib.hid hTx
                        clear hTx hne
                        clear oa ga
                        have kA := Lib.hid (show Calls Tryd.prog 59 #[va, .int .i64 (mh.length : Int), .int .i64 1] wa (fun e W' => ∃ v', e = .returned v' ∧ Em w #[.slice qA pool.length qc, .int .i64 fl, .int .i64 th, .int .i64 su, .slice qI ifs.length qd, .slice qX flds.length qe, .slice (some ⟨b, o, none⟩) mths.length qg] W' v' ((xs ++ Sp.putL mf 1 ++ Sp.putsL [mn, md] ++ Sp.putL ms 1 ++ Sp.putL ml 1 ++ Sp.putsL [(mc.size : Int)]) ++ Sp.nums mc ++ Sp.putL (mh.length : Int) 1) ∧ Onto va v' wa W') from put_em hEd.out (mh.length : Int) 1 (by decide) (by decide) (by have := hlx.out; (try simp only [List.length_append, Sp.putL_length, Sp.putsL_length, nums_length, List.length_cons, List.length_nil]); omega))
                        go_upto_region 35 with fail
                        go_region_held3 (fun w' => w'.cell? ⟨tb, 5, none⟩ = some (.string mc) ∧ w'.cell? ⟨tb, 6, none⟩ = some (.slice mA mh.length mcap)) (first | with_reducible exact tm56 hTc.out | with_reducible exact tm56 hTd.out | with_reducible exact tm56 (by with_reducible assumption)) (first | (refine step_append_run _ rfl _ _ _ _ rfl u5 (.string mc) rfl rfl va wa hra ?_) | (go_at_call 59; with_reducible refine kA.out.mono ?_; rintro e w3 ⟨v3, rfl, hE3, hO3⟩; have hT3 : Tm w3 v3 tb (.cells #[.int .i64 mf, .int .i64 mn, .int .i64 md, .int .i64 ms, .int .i64 ml, .string mc, .slice mA mh.length mcap] 65) := hTd.out.onto hO3))
                        have hEe := Lib.hid hE3
                        have e6 := (blk_cell hT3.1 6 _ rfl).1
                        have hhl := hh.out.1
                        clear hE hT hra hEd hTd hTc kA hE3 hO3
                        have hE := hEe
                        clear hEe
                        have HX2 := Lib.hid (show (xs ++ Sp.putL mf 1 ++ Sp.putsL [mn, md] ++ Sp.putL ms 1 ++ Sp.putL ml 1 ++ Sp.putsL [(mc.size : Int)] ++ Sp.nums mc ++ Sp.putL (mh.length : Int) 1) ++ (mh.drop 0).flatMap Sp.handB = (xs ++ Sp.putL mf 1 ++ Sp.putsL [mn, md] ++ Sp.putL ms 1 ++ Sp.putL ml 1 ++ Sp.putsL [(mc.size : Int)] ++ Sp.nums mc ++ Sp.putL (mh.length : Int) 1) ++ mh.flatMap Sp.handB from rfl)
                        go_wp2
                        clear hT3 e6
                        go_loopw [5, 169] (fun v5 v169 wr => ∃ (j : Nat) (ys : List Int), v169 = .int .i64 j ∧ j ≤ mh.length ∧ Hid (Em w #[.slice qA pool.length qc, .int .i64 fl, .int .i64 th, .int .i64 su, .slice qI ifs.length qd, .slice qX flds.length qe, .slice (some ⟨b, o, none⟩) mths.length qg] wr v5 ys) ∧ Hid (ys ++ (mh.drop j).flatMap Sp.handB = (xs ++ Sp.putL mf 1 ++ Sp.putsL [mn, md] ++ Sp.putL ms 1 ++ Sp.putL ml 1 ++ Sp.putsL [(mc.size : Int)] ++ Sp.nums mc ++ Sp.putL (mh.length : Int) 1) ++ mh.flatMap Sp.handB)) (fun _ v169 _ => mh.length - (RowKit.intOf v169).toNat)
                        case atStart => exact ⟨0, _, by go_num, Nat.zero_le _, hE, HX2⟩
                        case round =>
                          clear hE HX2
                          obtain ⟨j, ys, rfl, hj, hE, hy⟩ := hrel
                          by_cases hlj : j < mh.length
                          · obtain ⟨b2, o2, rfl, hrg⟩ := hh.out.2 (by omega)
                            obtain ⟨d0, d1, d2, d3⟩ := hn_cells hrg hlj
                            have D0 := cell_below hE.out.bel d0
                            have D1 := cell_below hE.out.bel d1
                            have D2 := cell_below hE.out.bel d2
                            have D3 := cell_below hE.out.bel d3
                            have hzj : (j : Int) < (mh.length : Int) := by omega
                            have hy1 := hy.out
                            rw [drop_flat _ _ _ hlj] at hy1
                            have hly : Hid (ys.length + 8 ≤ 900000100) := Lib.hid (by
                              have h1 := congrArg List.length hy1
                              have h2 := hlx.out
                              simp only [List.length_append, Sp.putL_length, Sp.putsL_length, List.length_cons, List.length_nil, nums_length] at h1
                              omega)
                            clear hy hrg d0 d1 d2 d3
                            generalize mh[j] = hq at *
                            obtain ⟨hf, ht, ha, hc⟩ := hq
                            simp only [] at D0 D1 D2 D3 hy1
                            rw [Sp.handB] at hy1
                            simp only [] at hy1
                            have hy := Lib.hid hy1
                            clear hy1
                            have hEa := Lib.hid (hE.out.alloc (.cells #[.int .i64 hf, .int .i64 ht, .int .i64 ha, .int .i64 hc] 97))
                            have hTa := Lib.hid (Tm.new hE.out (.cells #[.int .i64 hf, .int .i64 ht, .int .i64 ha, .int .i64 hc] 97))
                            go_upto_region 39 with fail
                            clear D0 D1 D2 D3 hE
                            generalize wr.alloc (.cells #[.int .i64 hf, .int .i64 ht, .int .i64 ha, .int .i64 hc] 97) = W at *
                            generalize wr.heap.size = tq at *
                            have t0 := (blk_cell hTa.out.1 0 _ rfl).1
                            have t1 := (blk_cell hTa.out.1 1 _ rfl).1
                            have t2 := (blk_cell hTa.out.1 2 _ rfl).1
                            have t3 := (blk_cell hTa.out.1 3 _ rfl).1
                            clear hTa
                            go_wp2_with fail
                            refine (puts_blk (hEa.out.alloc _) (Tm.new hEa.out _) [hf, ht, ha, hc] rfl 4 4 rfl (by have := hly.out; simp only [List.length_cons, List.length_nil]; omega)).mono ?_
                            rintro e w4 ⟨v4, rfl, hE4, _⟩
                            have hE4' := Lib.hid hE4
                            clear hE4 hEa t0 t1 t2 t3
                            go_wp2
                            go_roundw
                            case rel => exact ⟨j + 1, _, by go_num, by omega, hE4', Lib.hid (by have := hy.out; simpa only [List.append_assoc] using this)⟩
                            case measure => simp [RowKit.intOf]; omega
                          · obtain rfl : j = mh.length := by omega
                            have hzj : ¬ (mh.length : Int) < (mh.length : Int) := by omega
                            have hy1 := hy.out
                            rw [List.drop_length, List.flatMap_nil, List.append_nil] at hy1
                            have hz1 := Lib.hid (show ys ++ (mths.drop (k + 1)).flatMap (fun m => Sp.methodB m.1) = P5 ++ mths.flatMap (fun m => Sp.methodB m.1) by rw [hy1]; have := hx'.out; simpa only [List.append_assoc] using this)
                            clear hy hy1
                            go_wp2
                            go_roundw
                            case rel => exact ⟨k + 1, _, by go_num, by omega, hE, hz1⟩
                            case measure => simp [RowKit.intOf]; omega
                · obtain rfl : k = mths.length := by omega
                  have hzk : ¬ (mths.length : Int) < (mths.length : Int) := by omega
                  have hx1 := hx.out
                  rw [List.drop_length, List.flatMap_nil, List.append_nil] at hx1
                  subst hx1
                  clear hx hl5 HH HY
                  generalize P5 ++ mths.flatMap (fun m => Sp.methodB m.1) = TOT at *
                  obtain ⟨A9, c9, rfl⟩ := own_sl hE.out.own
                  have hcs := own_string (P := Tryd.prog) (src := 74) (dst := 9) (e := 5) Tryd.underlying74 Tryd.underlying5 Tryd.underlying9 hE.out.own
                  have hbel := Lib.hid hE.out.bel
                  have hm9 := hE.out.max
                  clear hE
                  by_cases h64 : 65536 < TOT.length
                  · have hzz : decide ((65536 : Int) < (TOT.length : Int)) = true := decide_eq_true (by omega)
                    have hR : R = (⟨#[]⟩, 2) := by have := HE2.out; rwa [if_pos h64] at this
                    subst hR
                    clear HE2
                    go_wp2
                    first | go_ret2 | go_ret
                    exact ⟨rfl, hbel.out⟩
                  · have hzz : decide ((65536 : Int) < (TOT.length : Int)) = false := decide_eq_false (by omega)
                    have hR : R = (Go.strOfNums TOT, 0) := by have := HE2.out; rwa [if_neg h64] at this
                    subst hR
                    clear HE2
                    go_wp2
                    first | go_ret2 | go_ret
                    exact ⟨rfl, hbel.out⟩
  · have hcb : (pt != 0) = true := by simp [hp]
    have hR : R = (⟨#[]⟩, pt) := by rw [HE.out, if_pos hp]
    subst hR
    clear HE hp hK1
    go_wp2
    first | go_ret2 | go_ret
    exact ⟨rfl, hB1⟩
end Go.Proofs.YthpfknlgfkecpaaDoor
end
section
/-
  Walk of chapter 3's Right.
-/
set_option linter.unusedVariables false
set_option linter.unusedSimpArgs false
namespace Go.Proofs.YthpfknlgfkecpaaDoor
open Go.RowKit Go.Lib

set_option maxHeartbeats 4000000 in
set_option maxRecDepth 100000 in
theorem fileRight_any (q : Sp.At) (F : FlP) (w : World) (hr : RdF w q F) (hF : FlOk F) (hT : Tabs w) (hlen : (Sp.bytesS F.fl).length ≤ 900000000) :
    Calls Tryd.prog 36 #[.agg (flC q F)] w fun e w' => e = .returned (.int .i64 (Sp.encodeF F.fl).2) ∧ Below w.heap.size w w' := by
  have hK := Lib.hid (blk_new w (.cells (flC q F) 53))
  have hB := (Below.refl w.heap.size w).alloc (Nat.le_refl _) (.cells (flC q F) 53)
  have KE : ∀ X : Array Value, X = flC q F → Hid (∀ W, Below w.heap.size w W → Calls Tryd.prog 34 #[.agg X] W fun e w' => e = .returned (.tuple #[.string (Sp.encodeF F.fl).1, .int .i64 (Sp.encodeF F.fl).2]) ∧ Below W.heap.size W w') := by
    rintro X rfl
    exact Lib.hid (fun W hb => fileEnc_any q F W (rdF_below hr hb) hF (hT.below hb) hlen)
  generalize Sp.encodeF F.fl = R at KE ⊢
  clear hr hF hT hlen
  obtain ⟨r1, r2⟩ := R
  obtain ⟨pool, fl, th, su, ifs, flds, mths⟩ := F
  obtain ⟨qA, qc, qI, qd, qX, qe, qY, qg⟩ := q
  have ke := KE #[.slice qA pool.length qc, .int .i64 fl, .int .i64 th, .int .i64 su, .slice qI ifs.length qd, .slice qX flds.length qe, .slice qY mths.length qg] rfl
  clear KE
  have hfl : flC ⟨qA, qc, qI, qd, qX, qe, qY, qg⟩ ⟨pool, fl, th, su, ifs, flds, mths⟩ = #[.slice qA pool.length qc, .int .i64 fl, .int .i64 th, .int .i64 su, .slice qI ifs.length qd, .slice qX flds.length qe, .slice qY mths.length qg] := rfl
  rw [hfl] at hK hB ⊢
  clear hfl
  simp only [] at ke
  obtain ⟨c0, c1, c2, c3, c4, c5, c6⟩ := flC_box (q := ⟨qA, qc, qI, qd, qX, qe, qY, qg⟩) (F := ⟨pool, fl, th, su, ifs, flds, mths⟩) hK.out
  simp only [] at c0 c1 c2 c3 c4 c5 c6
  go_enter Tryd.func36, Tryd.ntmps36
  go_wp2_with fail
  refine (ke.out _ hB).mono ?_
  rintro e w1 ⟨rfl, hb1⟩
  have B1 := below_then hB hB.size hb1
  clear hB hK hb1 ke c0 c1 c2 c3 c4 c5 c6
  go_wp2
  go_ret
  exact ⟨rfl, B1⟩
end Go.Proofs.YthpfknlgfkecpaaDoor
end
section
/-
  Walk of chapter 3's small file.
-/
set_option linter.unusedVariables false
set_option linter.unusedSimpArgs false
namespace Go.Proofs.YthpfknlgfkecpaaDoor
open Go.RowKit Go.Lib

theorem fl_load {w : World} {b : Nat} {c0 c1 c2 c3 c4 c5 c6 : Value} {T : TypeId} (h : w.heap[b]? = some (.cells #[c0, c1, c2, c3, c4, c5, c6] T (0, 0))) : (loadVar 53 ⟨b, 0, none⟩).run Tryd.prog w = .ok (.agg #[c0, c1, c2, c3, c4, c5, c6]) w :=
  run_loadVar_mid w b 0 53 [c0, c1, c2, c3, c4, c5, c6] _ (fun j v hj => by rw [Nat.zero_add]; exact (blk_cell h j v (by rw [← Array.getElem?_toList]; exact hj)).1) Tryd.underlying53 rfl (by kernel_rfl)

namespace Sp
def smallP : List Cn := [⟨1, ⟨#[65]⟩, 0, 0, 0, 0⟩, ⟨4, ⟨#[]⟩, 0, 1, 0, 0⟩, ⟨1, ⟨#[79, 98, 106, 101, 99, 116]⟩, 0, 0, 0, 0⟩, ⟨4, ⟨#[]⟩, 0, 3, 0, 0⟩]
end Sp
def smallF : FlP := ⟨Sp.smallP, 0, 2, 4, [], [], []⟩
def smallQ (b : Nat) : Sp.At := ⟨some ⟨b, 0, none⟩, 4, none, 0, none, 0, none, 0⟩
theorem range_blk {w : World} {b : Nat} {C : Array Value} {T : TypeId} (h : w.heap[b]? = some (.cells C T (0, 0))) : w.rangeAt b 0 C.toList := fun j v hj => by
  rw [Nat.zero_add]
  exact (blk_cell h j v (by rw [← Array.getElem?_toList]; exact hj)).1
theorem rdL_blk {α : Type} {enc : α → List Value} {w : World} {b : Nat} {C : Array Value} {T : TypeId} {l : List α} (h : w.heap[b]? = some (.cells C T (0, 0))) (hC : C.toList = l.flatMap enc) (hl : l.length ≤ 9223372036854775807) : RdL enc w (some ⟨b, 0, none⟩) l :=
  ⟨hl, fun _ => ⟨b, 0, rfl, by rw [← hC]; exact range_blk h⟩⟩
theorem rdN_nil (k : IntKind) (w : World) (A : Option Addr) : RdN k w A [] := ⟨by simp, fun h => by simp at h⟩

set_option maxHeartbeats 4000000 in
set_option maxRecDepth 100000 in
theorem lawSmall_any (w : World) :
    Calls Tryd.prog 56 #[] w fun e w' => ∃ b, e = .returned (.agg (flC (smallQ b) smallF)) ∧ w.heap.size ≤ b ∧ w'.heap[b]? = some (.cells (Sp.smallP.flatMap Sp.cnC).toArray 58 (0, 0)) ∧ Below w.heap.size w w' := by
  go_enter Tryd.func56, Tryd.ntmps56
  go_wp2
  refine bodyPost_ret (results_c rfl _ _ _ rfl (fl_load (blk_old (blk_new w _)))) rfl ?_
  refine ⟨w.heap.size + 1, rfl, by omega, ?_, ((Below.refl w.heap.size w).alloc (Nat.le_refl _) _).alloc (by simp) _⟩
  generalize hW : w.alloc _ = W
  have : w.heap.size + 1 = W.heap.size := by rw [← hW]; simp
  rw [this]
  exact blk_new _ _
theorem rdF_small {w : World} {b : Nat} (h : w.heap[b]? = some (.cells (Sp.smallP.flatMap Sp.cnC).toArray 58 (0, 0))) : RdF w (smallQ b) smallF :=
  ⟨rdL_blk h rfl (by decide), rdN_nil _ _ _, ⟨rdL_nil _ _ _, fun m hm => by cases hm⟩, ⟨rdL_nil _ _ _, fun m hm => by cases hm⟩⟩
end Go.Proofs.YthpfknlgfkecpaaDoor
end
section
/-
  Plain: chapter 3's examples.
-/
set_option linter.unusedVariables false
set_option linter.unusedSimpArgs false
namespace Go.Proofs.YthpfknlgfkecpaaDoor
open Go.RowKit Go.Lib
set_option maxRecDepth 100000
def exThis : FlP := ⟨Sp.smallP, 0, 1, 4, [], [], []⟩
def exFlags : FlP := ⟨Sp.smallP, 1, 2, 4, [], [], []⟩
def exPool : FlP := ⟨Sp.smallP ++ [⟨4, ⟨#[]⟩, 0, 9, 0, 0⟩], 0, 2, 4, [], [], []⟩
def exMb : Sp.Mb := ⟨0, 1, 1, 0, 0, ⟨#[]⟩, []⟩
def exField (A : Option Addr) (c : Nat) : FlP := ⟨Sp.smallP, 0, 2, 4, [], [(exMb, A, c)], []⟩
theorem ex1 : Sp.partsS smallF.fl = 0 := by kernel_rfl
theorem ex2 : (Sp.bytesS smallF.fl).take 13 = [67, 82, 85, 88, 0, 4, 1, 0, 1, 65, 4, 0, 1] := by kernel_rfl
theorem ex3 : (Sp.bytesS smallF.fl).length = 33 := by kernel_rfl
theorem ex4 : (Sp.encodeF exThis.fl).2 = 7 := by kernel_rfl
theorem ex5 : (Sp.encodeF exFlags.fl).2 = 10 := by kernel_rfl
theorem ex6 : (Sp.encodeF exPool.fl).2 = 7 := by kernel_rfl
theorem ex7 (A : Option Addr) (c : Nat) : (Sp.encodeF (exField A c).fl).2 = 9 := by
  show (Sp.encodeF ⟨Sp.smallP, 0, 2, 4, [], [exMb], []⟩).2 = 9
  kernel_rfl
theorem len4 : (Sp.bytesS exThis.fl).length = 33 := by kernel_rfl
theorem len5 : (Sp.bytesS exFlags.fl).length = 33 := by kernel_rfl
theorem len6 : (Sp.bytesS exPool.fl).length = 36 := by kernel_rfl
theorem len7 (A : Option Addr) (c : Nat) : (Sp.bytesS (exField A c).fl).length = 38 := by
  show (Sp.bytesS ⟨Sp.smallP, 0, 2, 4, [], [exMb], []⟩).length = 38
  kernel_rfl
theorem encS1 : Sp.encodeF smallF.fl = (Go.strOfNums (Sp.bytesS smallF.fl), 0) := by
  rw [Sp.encodeF, ex1, if_neg (by simp), if_neg (by rw [ex3]; omega)]
def In64b (i : Int) : Bool := decide (-9223372036854775808 ≤ i) && decide (i ≤ 9223372036854775807)
theorem in64_b {i : Int} (h : In64b i = true) : In64 i := by
  simp [In64b] at h
  exact h
theorem pool_ok (p : List Sp.Cn) (h : p.all (fun c => In64b c.tag && In64b c.n && In64b c.a && In64b c.b && In64b c.c && decide (c.text.size ≤ 1099511627776)) = true) : ∀ c ∈ p, In64 c.tag ∧ In64 c.n ∧ In64 c.a ∧ In64 c.b ∧ In64 c.c ∧ c.text.size ≤ 1099511627776 := fun c hc => by
  have := List.all_eq_true.1 h c hc
  simp only [Bool.and_eq_true, decide_eq_true_eq] at this
  obtain ⟨⟨⟨⟨⟨a, b⟩, c⟩, d⟩, e⟩, f⟩ := this
  exact ⟨in64_b a, in64_b b, in64_b c, in64_b d, in64_b e, f⟩
theorem okSmall : FlOk smallF := ⟨in64_b (by decide), by unfold In64; decide, by unfold In64; decide, fun i h => (by cases h), pool_ok _ (by kernel_rfl), fun i h => (by cases h), fun i h => (by cases h)⟩
theorem okThis : FlOk exThis := ⟨in64_b (by decide), by unfold In64; decide, by unfold In64; decide, fun i h => (by cases h), pool_ok _ (by kernel_rfl), fun i h => (by cases h), fun i h => (by cases h)⟩
theorem okFlags : FlOk exFlags := ⟨in64_b (by decide), by unfold In64; decide, by unfold In64; decide, fun i h => (by cases h), pool_ok _ (by kernel_rfl), fun i h => (by cases h), fun i h => (by cases h)⟩
theorem okPool : FlOk exPool := ⟨in64_b (by decide), by unfold In64; decide, by unfold In64; decide, fun i h => (by cases h), pool_ok _ (by kernel_rfl), fun i h => (by cases h), fun i h => (by cases h)⟩
theorem okField (A : Option Addr) (c : Nat) : FlOk (exField A c) := ⟨in64_b (i := 0) (by decide), in64_b (i := 2) (by decide), in64_b (i := 4) (by decide), fun i h => (by cases h), pool_ok Sp.smallP (by kernel_rfl), fun i h => (by simp [exField] at h; subst h; exact ⟨in64_b (i := 0) (by decide), in64_b (i := 1) (by decide), in64_b (i := 1) (by decide)⟩), fun i h => (by cases h)⟩
end Go.Proofs.YthpfknlgfkecpaaDoor
end
section
/-
  Walk of chapter 3's examples. (Printed by gen_fshown.py.)
-/
set_option linter.unusedVariables false
set_option linter.unusedSimpArgs false
namespace Go.Proofs.YthpfknlgfkecpaaDoor
open Go.RowKit Go.Lib

theorem lawSmall_lit (w : World) :
    Calls Tryd.prog 56 #[] w fun e w' => ∃ b, e = .returned (.agg #[.slice (some ⟨b, 0, none⟩) 4 4, .int .i64 0, .int .i64 2, .int .i64 4, .slice none 0 0, .slice none 0 0, .slice none 0 0]) ∧ w.heap.size ≤ b ∧ w'.heap[b]? = some (.cells (Sp.smallP.flatMap Sp.cnC).toArray 58 (0, 0)) ∧ Below w.heap.size w w' := lawSmall_any w
/-- A class of the examples: its box and its pool. -/
structure Bx (W : World) (x b : Nat) (C P : Array Value) : Prop where
  box : W.heap[x]? = some (.cells C 53 (0, 0))
  pool : W.heap[b]? = some (.cells P 58 (0, 0))
section
variable {W W' : World} {x b : Nat} {C P : Array Value}
theorem Bx.below (h : Bx W x b C P) (hb : Below W.heap.size W W') : Bx W' x b C P := ⟨blk_below h.box hb, blk_below h.pool hb⟩
theorem Bx.alloc (h : Bx W x b C P) (o : Obj) : Bx (W.alloc o) x b C P := ⟨blk_old h.box, blk_old h.pool⟩
theorem Bx.other (h : Bx W x b C P) (a : Addr) (v : Value) (h1 : x ≠ a.block) (h2 : b ≠ a.block) : Bx (W.setCell a v) x b C P := ⟨blk_other h.box a v h1, blk_other h.pool a v h2⟩
theorem bx7 {c0 c1 c2 c3 c4 c5 c6 : Value} (h : Bx W x b #[c0, c1, c2, c3, c4, c5, c6] P) : W.cell? ⟨x, 0, none⟩ = some c0 ∧ W.cell? ⟨x, 1, none⟩ = some c1 ∧ W.cell? ⟨x, 2, none⟩ = some c2 ∧ W.cell? ⟨x, 3, none⟩ = some c3 ∧ W.cell? ⟨x, 4, none⟩ = some c4 ∧ W.cell? ⟨x, 5, none⟩ = some c5 ∧ W.cell? ⟨x, 6, none⟩ = some c6 :=
  ⟨(blk_cell h.box 0 _ rfl).1, (blk_cell h.box 1 _ rfl).1, (blk_cell h.box 2 _ rfl).1, (blk_cell h.box 3 _ rfl).1, (blk_cell h.box 4 _ rfl).1, (blk_cell h.box 5 _ rfl).1, (blk_cell h.box 6 _ rfl).1⟩
theorem Bx.lt (h : Bx W x b C P) : x < W.heap.size ∧ b < W.heap.size := ⟨blk_lt h.box, blk_lt h.pool⟩
end

theorem own_rdL {α : Type} {enc : α → List Value} {n : Nat} (hn : ∀ x, (enc x).length = n) (h0 : 0 < n) {w : World} {base m c : Nat} {e : TypeId} {A : Option Addr} {l : List α} (h : w.ownsRow base e n (.slice A m c) m (l.flatMap enc)) : m = l.length ∧ RdL enc w A l := by
  have hl : (l.flatMap enc).length = m * n := h.1
  rw [flat_length enc n hn] at hl
  have hm : m = l.length := (Nat.eq_of_mul_eq_mul_right h0 hl).symm
  have hx : m ≤ 9223372036854775807 := by
    rcases h.2 with ⟨_, h0⟩ | ⟨g, cap, cur, hv, h1, h2, h3, h4, h5⟩
    · omega
    · have := h4; unfold maxLen at this; omega
  refine ⟨hm, by omega, fun h0 => ?_⟩
  obtain ⟨g, hA⟩ : ∃ g, A = some ⟨g, 0, none⟩ := by
    rcases h.2 with ⟨_, h1⟩ | ⟨g, cap, cur, hv, _⟩
    · omega
    · exact ⟨g, by injection hv⟩
  subst hA
  refine ⟨g, 0, rfl, fun j v hj => ?_⟩
  have hc := h.cells (g := g) rfl j v hj
  rw [show (⟨g, 0, none⟩ : Addr).add j = ⟨g, 0 + j, none⟩ by unfold Addr.add; split <;> simp_all] at hc
  exact hc
theorem infoCn : (Tryd.prog.info? 58).map (fun i => (i.zero, i.size, i.bytes)) = some (some (.agg #[.int .i64 0, .string ⟨#[]⟩, .int .i64 0, .int .i64 0, .int .i64 0, .int .i64 0]), 6, 56) := by kernel_rfl
theorem own_ne_box {w : World} {base n size x : Nat} {e T : TypeId} {v : Value} {xs : List Value} {C : Array Value} {fr : Nat × Nat} (h : w.ownsRow base e size v n xs) (hb : w.heap[x]? = some (.cells C T fr)) (hT : T ≠ e) : v.ownBlock ≠ some x := fun q => by
  rcases h.2 with ⟨rfl, _⟩ | ⟨g, cap, cur, rfl, _, hgb, _⟩
  · simp [Value.ownBlock] at q
  · have : g = x := by simpa [Value.ownBlock] using q
    subst this
    rw [hb] at hgb
    injection hgb with hgb
    injection hgb with _ e _
    exact hT e

set_option maxHeartbeats 16000000 in
set_option maxRecDepth 100000 in
theorem fileShown_any (w : World) (hT : Tabs w) :
    Calls Tryd.prog 32 #[] w fun e w' => e = .returned (.bool true) ∧ Below w.heap.size w w' := by
  have T0 := Lib.hid hT
  clear hT
  go_enter Tryd.func32, Tryd.ntmps32
  go_wp2_with fail
  refine (lawSmall_lit w).mono ?_
  rintro e w1 ⟨b1, rfl, hb1, hP1, B1⟩
  have A1 := Lib.hid (B1.alloc B1.size (.cells #[.slice (some ⟨b1, 0, none⟩) 4 4, .int .i64 0, .int .i64 2, .int .i64 4, .slice none 0 0, .slice none 0 0, .slice none 0 0] 53))
  have X1 := Lib.hid (show Bx (w1.alloc (.cells #[.slice (some ⟨b1, 0, none⟩) 4 4, .int .i64 0, .int .i64 2, .int .i64 4, .slice none 0 0, .slice none 0 0, .slice none 0 0] 53)) w1.heap.size b1 #[.slice (some ⟨b1, 0, none⟩) 4 4, .int .i64 0, .int .i64 2, .int .i64 4, .slice none 0 0, .slice none 0 0, .slice none 0 0] (Sp.smallP.flatMap Sp.cnC).toArray from ⟨blk_new _ _, blk_old hP1⟩)
  clear hP1 B1
  have S1 := A1.out.size
  go_upto_region 2 with fail
  generalize w1.alloc (.cells #[.slice (some ⟨b1, 0, none⟩) 4 4, .int .i64 0, .int .i64 2, .int .i64 4, .slice none 0 0, .slice none 0 0, .slice none 0 0] 53) = W1 at *
  generalize w1.heap.size = x1 at *
  obtain ⟨c0, c1, c2, c3, c4, c5, c6⟩ := bx7 X1.out
  have ke := Lib.hid (show Calls Tryd.prog 34 #[.agg #[.slice (some ⟨b1, 0, none⟩) 4 4, .int .i64 0, .int .i64 2, .int .i64 4, .slice none 0 0, .slice none 0 0, .slice none 0 0]] W1 (fun e w' => e = .returned (.tuple #[.string (Sp.encodeF smallF.fl).1, .int .i64 (Sp.encodeF smallF.fl).2]) ∧ Below W1.heap.size W1 w') from fileEnc_any (smallQ b1) smallF W1 (rdF_small X1.out.pool) okSmall (T0.out.below A1.out) (by rw [ex3]; omega))
  rw [encS1] at ke
  simp only [] at ke
  have hS := Lib.hid (show (Go.strOfNums (Sp.bytesS smallF.fl)).size = 33 by rw [Sp.size_nums, ex3])
  have hS2 := Lib.hid (show (Go.strOfNums (Sp.bytesS smallF.fl)).extract 0 13 = ⟨#[67, 82, 85, 88, 0, 4, 1, 0, 1, 65, 4, 0, 1]⟩ by kernel_rfl)
  generalize Go.strOfNums (Sp.bytesS smallF.fl) = S at *
  go_wp2_with fail
  refine ke.out.mono ?_
  rintro e w2 ⟨rfl, hb2⟩
  have A2 := Lib.hid (below_then A1.out S1 hb2)
  have X2 := Lib.hid (X1.out.below hb2)
  have S2 := A2.out.size
  clear hb2 ke X1 A1 S1 c0 c1 c2 c3 c4 c5 c6

  go_wp2_with fail
  refine (lawSmall_lit w2).mono ?_
  rintro e w3 ⟨b3, rfl, hb3, hP3, B3⟩
  have D3 := Lib.hid (B3.alloc B3.size (.cells #[.slice (some ⟨b3, 0, none⟩) 4 4, .int .i64 0, .int .i64 2, .int .i64 4, .slice none 0 0, .slice none 0 0, .slice none 0 0] 53))
  have Y3 := Lib.hid (show Bx (w3.alloc (.cells #[.slice (some ⟨b3, 0, none⟩) 4 4, .int .i64 0, .int .i64 2, .int .i64 4, .slice none 0 0, .slice none 0 0, .slice none 0 0] 53)) w3.heap.size b3 #[.slice (some ⟨b3, 0, none⟩) 4 4, .int .i64 0, .int .i64 2, .int .i64 4, .slice none 0 0, .slice none 0 0, .slice none 0 0] (Sp.smallP.flatMap Sp.cnC).toArray from ⟨blk_new _ _, blk_old hP3⟩)
  have hbx3 : b3 < w3.heap.size := blk_lt hP3
  have hsx3 : w2.heap.size ≤ w3.heap.size := B3.size
  clear hP3 B3
  go_upto_region 4 with fail
  generalize w3.alloc (.cells #[.slice (some ⟨b3, 0, none⟩) 4 4, .int .i64 0, .int .i64 2, .int .i64 4, .slice none 0 0, .slice none 0 0, .slice none 0 0] 53) = W3 at *
  generalize w3.heap.size = x3 at *
  obtain ⟨e0, g0⟩ := blk_cell Y3.out.box 2 _ rfl
  have E3 := Lib.hid (D3.out.setCell (p := ⟨x3, 2, none⟩) hsx3 (.int .i64 1))
  have X3 := Lib.hid (show Bx (W3.setCell ⟨x3, 2, none⟩ (.int .i64 1)) x3 b3 #[.slice (some ⟨b3, 0, none⟩) 4 4, .int .i64 0, .int .i64 1, .int .i64 4, .slice none 0 0, .slice none 0 0, .slice none 0 0] (Sp.smallP.flatMap Sp.cnC).toArray from ⟨blk_set Y3.out.box _, blk_other Y3.out.pool _ _ (by simp; omega)⟩)
  clear D3 Y3
  go_upto_region 5 with fail
  clear e0 g0
  generalize W3.setCell ⟨x3, 2, none⟩ (.int .i64 1) = V3 at *
  have A3 := Lib.hid (below_then A2.out S2 E3.out)
  have S3 := A3.out.size
  have Z2 := Lib.hid (X2.out.below E3.out)
  clear X2
  have X2 := Z2
  clear Z2
  clear E3 A2 S2

  go_wp2_with fail
  refine (lawSmall_lit V3).mono ?_
  rintro e w4 ⟨b4, rfl, hb4, hP4, B4⟩
  have D4 := Lib.hid (B4.alloc B4.size (.cells #[.slice (some ⟨b4, 0, none⟩) 4 4, .int .i64 0, .int .i64 2, .int .i64 4, .slice none 0 0, .slice none 0 0, .slice none 0 0] 53))
  have Y4 := Lib.hid (show Bx (w4.alloc (.cells #[.slice (some ⟨b4, 0, none⟩) 4 4, .int .i64 0, .int .i64 2, .int .i64 4, .slice none 0 0, .slice none 0 0, .slice none 0 0] 53)) w4.heap.size b4 #[.slice (some ⟨b4, 0, none⟩) 4 4, .int .i64 0, .int .i64 2, .int .i64 4, .slice none 0 0, .slice none 0 0, .slice none 0 0] (Sp.smallP.flatMap Sp.cnC).toArray from ⟨blk_new _ _, blk_old hP4⟩)
  have hbx4 : b4 < w4.heap.size := blk_lt hP4
  have hsx4 : V3.heap.size ≤ w4.heap.size := B4.size
  clear hP4 B4
  go_upto_region 6 with fail
  generalize w4.alloc (.cells #[.slice (some ⟨b4, 0, none⟩) 4 4, .int .i64 0, .int .i64 2, .int .i64 4, .slice none 0 0, .slice none 0 0, .slice none 0 0] 53) = W4 at *
  generalize w4.heap.size = x4 at *
  obtain ⟨e0, g0⟩ := blk_cell Y4.out.box 1 _ rfl
  have E4 := Lib.hid (D4.out.setCell (p := ⟨x4, 1, none⟩) hsx4 (.int .i64 1))
  have X4 := Lib.hid (show Bx (W4.setCell ⟨x4, 1, none⟩ (.int .i64 1)) x4 b4 #[.slice (some ⟨b4, 0, none⟩) 4 4, .int .i64 1, .int .i64 2, .int .i64 4, .slice none 0 0, .slice none 0 0, .slice none 0 0] (Sp.smallP.flatMap Sp.cnC).toArray from ⟨blk_set Y4.out.box _, blk_other Y4.out.pool _ _ (by simp; omega)⟩)
  clear D4 Y4
  go_upto_region 7 with fail
  clear e0 g0
  generalize W4.setCell ⟨x4, 1, none⟩ (.int .i64 1) = V4 at *
  have A4 := Lib.hid (below_then A3.out S3 E4.out)
  have S4 := A4.out.size
  have Z2 := Lib.hid (X2.out.below E4.out)
  clear X2
  have X2 := Z2
  clear Z2
  have Z3 := Lib.hid (X3.out.below E4.out)
  clear X3
  have X3 := Z3
  clear Z3
  clear E4 A3 S3

  go_wp2_with fail
  refine (lawSmall_lit V4).mono ?_
  rintro e w5 ⟨b5, rfl, hb5, hP5, B5⟩
  have D5 := Lib.hid (B5.alloc B5.size (.cells #[.slice (some ⟨b5, 0, none⟩) 4 4, .int .i64 0, .int .i64 2, .int .i64 4, .slice none 0 0, .slice none 0 0, .slice none 0 0] 53))
  have Y5 := Lib.hid (show Bx (w5.alloc (.cells #[.slice (some ⟨b5, 0, none⟩) 4 4, .int .i64 0, .int .i64 2, .int .i64 4, .slice none 0 0, .slice none 0 0, .slice none 0 0] 53)) w5.heap.size b5 #[.slice (some ⟨b5, 0, none⟩) 4 4, .int .i64 0, .int .i64 2, .int .i64 4, .slice none 0 0, .slice none 0 0, .slice none 0 0] (Sp.smallP.flatMap Sp.cnC).toArray from ⟨blk_new _ _, blk_old hP5⟩)
  have hbx5 : b5 < w5.heap.size := blk_lt hP5
  have hsx5 : V4.heap.size ≤ w5.heap.size := B5.size
  clear hP5 B5
  go_upto_region 8 with fail
  generalize w5.alloc (.cells #[.slice (some ⟨b5, 0, none⟩) 4 4, .int .i64 0, .int .i64 2, .int .i64 4, .slice none 0 0, .slice none 0 0, .slice none 0 0] 53) = W5 at *
  generalize w5.heap.size = x5 at *
  obtain ⟨e0, g0⟩ := blk_cell Y5.out.box 0 _ rfl
  obtain ⟨i0, hi, hz0, hz1, hz2⟩ := info_parts infoCn
  have hsz5 := D5.out.size
  have hlx5 := Y5.out.lt.1
  have hown : Hid (W5.ownsRow V4.heap.size 58 6 (.slice (some ⟨b5, 0, none⟩) 4 4) 4 (Sp.smallP.flatMap Sp.cnC)) := Lib.hid ⟨rfl, .inr ⟨b5, 4, _, rfl, hb5, Y5.out.pool, Nat.le_refl _, by unfold maxLen; omega, rfl, rfl⟩⟩
  go_wp2_with (at_builtin; refine wpList_append_own _ rfl _ _ 49 rfl V4.heap.size 58 i0 (.agg #[.int .i64 0, .string ⟨#[]⟩, .int .i64 0, .int .i64 0, .int .i64 0, .int .i64 0]) 6 56 Tryd.underlying49 hi hz0 hz1 hz2 rfl (by decide) _ 4 _ rfl (hown.out.alloc _) ⟨W5.heap.size, 0, none⟩ 1 1 [.int .i64 4, .string ⟨#[]⟩, .int .i64 0, .int .i64 9, .int .i64 0, .int .i64 0] rfl rfl ?x2 ?x3 ?x4 ?x5 ?x6 ?_)
  case x2 =>
    intro j u hj
    match j, hj with
    | 0, hj => simp at hj; subst hj; simp [Addr.add]
    | 1, hj => simp at hj; subst hj; simp [Addr.add]
    | 2, hj => simp at hj; subst hj; simp [Addr.add]
    | 3, hj => simp at hj; subst hj; simp [Addr.add]
    | 4, hj => simp at hj; subst hj; simp [Addr.add]
    | 5, hj => simp at hj; subst hj; simp [Addr.add]
    | (j + 6), hj => simp at hj
  case x3 => intro u hu; simp at hu; rcases hu with rfl | rfl | rfl | rfl | rfl | rfl <;> rfl
  case x4 => unfold maxLen; omega
  case x5 => omega
  case x6 => simp; omega
  intro v' w6 hown' hg6 _
  obtain ⟨A6, k6, rfl⟩ := own_sl hown'
  have D6 := Lib.hid ((D5.out.alloc hsz5 _).grown hg6 (by simp; omega) (fun q hq => by simp [Value.ownBlock] at hq; omega))
  have K6 := Lib.hid (blk_grown (blk_old Y5.out.box) hg6 (by simp [Value.ownBlock]; omega))
  have S6 := D6.out.size
  clear e0 g0 D5 Y5 hown hg6 hi hz0 hz1 hz2
  obtain ⟨e0, g0⟩ := blk_cell K6.out 0 _ rfl
  have E6 := Lib.hid (D6.out.setCell (p := ⟨x5, 0, none⟩) hsx5 (.slice A6 (4 + 1) k6))
  have K7 := Lib.hid (show (w6.setCell ⟨x5, 0, none⟩ (.slice A6 (4 + 1) k6)).heap[x5]? = some (.cells #[.slice A6 5 k6, .int .i64 0, .int .i64 2, .int .i64 4, .slice none 0 0, .slice none 0 0, .slice none 0 0] 53 (0, 0)) from blk_set K6.out _)
  have hrow := (Keeps.refl (fun i => i = x5) w6).setCell (a := ⟨x5, 0, none⟩) (.inl rfl) (.slice A6 (4 + 1) k6) |>.row hown' (fun k hk e => own_ne_box hown' K6.out (by decide) (e ▸ hk))
  have R6 := Lib.hid (show RdL Sp.cnC (w6.setCell ⟨x5, 0, none⟩ (.slice A6 (4 + 1) k6)) A6 exPool.pool from (own_rdL Sp.cnC_len (by decide) (l := exPool.pool) hrow).2)
  clear hown' hrow K6 D6
  go_upto_region 9 with fail
  clear e0 g0
  generalize w6.setCell ⟨x5, 0, none⟩ (.slice A6 (4 + 1) k6) = V6 at *
  have A6' := Lib.hid (below_then A4.out S4 E6.out)
  have S6' := A6'.out.size
  have Z2 := Lib.hid (X2.out.below E6.out)
  have Z3 := Lib.hid (X3.out.below E6.out)
  have Z4 := Lib.hid (X4.out.below E6.out)
  clear X2 X3 X4 E6 A4 S4 S6
  have X2 := Z2
  have X3 := Z3
  have X4 := Z4
  clear Z2 Z3 Z4
  go_wp2_with fail
  refine (lawSmall_lit V6).mono ?_
  rintro e w7 ⟨b7, rfl, hb7, hP7, B7⟩
  have D7 := Lib.hid (B7.alloc B7.size (.cells #[.slice (some ⟨b7, 0, none⟩) 4 4, .int .i64 0, .int .i64 2, .int .i64 4, .slice none 0 0, .slice none 0 0, .slice none 0 0] 53))
  have Y7 := Lib.hid (show Bx (w7.alloc (.cells #[.slice (some ⟨b7, 0, none⟩) 4 4, .int .i64 0, .int .i64 2, .int .i64 4, .slice none 0 0, .slice none 0 0, .slice none 0 0] 53)) w7.heap.size b7 #[.slice (some ⟨b7, 0, none⟩) 4 4, .int .i64 0, .int .i64 2, .int .i64 4, .slice none 0 0, .slice none 0 0, .slice none 0 0] (Sp.smallP.flatMap Sp.cnC).toArray from ⟨blk_new _ _, blk_old hP7⟩)
  have hbx7 : b7 < w7.heap.size := blk_lt hP7
  have hsx7 : V6.heap.size ≤ w7.heap.size := B7.size
  clear hP7 B7
  go_upto_region 10 with fail
  generalize w7.alloc (.cells #[.slice (some ⟨b7, 0, none⟩) 4 4, .int .i64 0, .int .i64 2, .int .i64 4, .slice none 0 0, .slice none 0 0, .slice none 0 0] 53) = W7 at *
  generalize w7.heap.size = x7 at *
  obtain ⟨e0, g0⟩ := blk_cell Y7.out.box 5 _ rfl
  have hlx7 := Y7.out.lt.1
  have D8 := Lib.hid ((D7.out.setCell (p := ⟨x7, 5, none⟩) hsx7 (.slice (some ⟨W7.heap.size, 0, none⟩) 1 1)).alloc (by have := D7.out.size; simpa using this) (.cells #[.int .i64 0, .int .i64 1, .int .i64 1, .int .i64 0, .int .i64 0, .string ⟨#[]⟩, .slice none 0 0] 65))
  have K8 := Lib.hid (show ((W7.setCell ⟨x7, 5, none⟩ (.slice (some ⟨W7.heap.size, 0, none⟩) 1 1)).alloc (.cells #[.int .i64 0, .int .i64 1, .int .i64 1, .int .i64 0, .int .i64 0, .string ⟨#[]⟩, .slice none 0 0] 65)).heap[x7]? = some (.cells #[.slice (some ⟨b7, 0, none⟩) 4 4, .int .i64 0, .int .i64 2, .int .i64 4, .slice none 0 0, .slice (some ⟨W7.heap.size, 0, none⟩) 1 1, .slice none 0 0] 53 (0, 0)) from blk_old (blk_set Y7.out.box _))
  have P8 := Lib.hid (blk_old (o := (.cells #[.int .i64 0, .int .i64 1, .int .i64 1, .int .i64 0, .int .i64 0, .string ⟨#[]⟩, .slice none 0 0] 65)) (blk_other Y7.out.pool ⟨x7, 5, none⟩ (.slice (some ⟨W7.heap.size, 0, none⟩) 1 1) (by simp; omega)))
  have M8 : Hid (((W7.setCell ⟨x7, 5, none⟩ (.slice (some ⟨W7.heap.size, 0, none⟩) 1 1)).alloc (.cells #[.int .i64 0, .int .i64 1, .int .i64 1, .int .i64 0, .int .i64 0, .string ⟨#[]⟩, .slice none 0 0] 65)).heap[W7.heap.size]? = some (.cells #[.int .i64 0, .int .i64 1, .int .i64 1, .int .i64 0, .int .i64 0, .string ⟨#[]⟩, .slice none 0 0] 65)) := Lib.hid (by have := blk_new (W7.setCell ⟨x7, 5, none⟩ (.slice (some ⟨W7.heap.size, 0, none⟩) 1 1)) (.cells #[.int .i64 0, .int .i64 1, .int .i64 1, .int .i64 0, .int .i64 0, .string ⟨#[]⟩, .slice none 0 0] 65); simpa using this)
  go_upto_region 11 with fail
  clear e0 g0 D7 Y7
  generalize (W7.setCell ⟨x7, 5, none⟩ (.slice (some ⟨W7.heap.size, 0, none⟩) 1 1)).alloc (.cells #[.int .i64 0, .int .i64 1, .int .i64 1, .int .i64 0, .int .i64 0, .string ⟨#[]⟩, .slice none 0 0] 65) = V7 at *
  clear hbx5 hsx5 hsz5 hlx5 hbx7 hsx7 hlx7 hbx3 hsx3 hbx4 hsx4
  have A8 := Lib.hid (below_then A6'.out S6' D8.out)
  have S8 := A8.out.size
  have X2 := Lib.hid (X2.out.below D8.out)
  have X3 := Lib.hid (X3.out.below D8.out)
  have X4 := Lib.hid (X4.out.below D8.out)
  have K7 := Lib.hid (blk_below K7.out D8.out)
  have R6 := Lib.hid (rdL_below R6.out D8.out)
  generalize W7.heap.size = m7 at *
  have TT := Lib.hid (fun W (hb : Below V7.heap.size V7 W) => T0.out.below (below_then A8.out S8 hb))
  have r1 := Lib.hid (fun W (hb : Below V7.heap.size V7 W) => show Calls Tryd.prog 36 #[.agg #[.slice (some ⟨b1, 0, none⟩) 4 4, .int .i64 0, .int .i64 2, .int .i64 4, .slice none 0 0, .slice none 0 0, .slice none 0 0]] W (fun e w' => e = .returned (.int .i64 (Sp.encodeF smallF.fl).2) ∧ Below W.heap.size W w') from fileRight_any (smallQ b1) smallF W (rdF_small (X2.out.below hb).pool) okSmall (TT.out W hb) (by rw [ex3]; omega))
  have r3 := Lib.hid (fun W (hb : Below V7.heap.size V7 W) => show Calls Tryd.prog 36 #[.agg #[.slice (some ⟨b3, 0, none⟩) 4 4, .int .i64 0, .int .i64 1, .int .i64 4, .slice none 0 0, .slice none 0 0, .slice none 0 0]] W (fun e w' => e = .returned (.int .i64 (Sp.encodeF exThis.fl).2) ∧ Below W.heap.size W w') from fileRight_any (smallQ b3) exThis W ⟨(rdF_small (X3.out.below hb).pool).pool, rdN_nil _ _ _, ⟨rdL_nil _ _ _, fun m hm => by cases hm⟩, ⟨rdL_nil _ _ _, fun m hm => by cases hm⟩⟩ okThis (TT.out W hb) (by rw [len4]; omega))
  have r4 := Lib.hid (fun W (hb : Below V7.heap.size V7 W) => show Calls Tryd.prog 36 #[.agg #[.slice (some ⟨b4, 0, none⟩) 4 4, .int .i64 1, .int .i64 2, .int .i64 4, .slice none 0 0, .slice none 0 0, .slice none 0 0]] W (fun e w' => e = .returned (.int .i64 (Sp.encodeF exFlags.fl).2) ∧ Below W.heap.size W w') from fileRight_any (smallQ b4) exFlags W ⟨(rdF_small (X4.out.below hb).pool).pool, rdN_nil _ _ _, ⟨rdL_nil _ _ _, fun m hm => by cases hm⟩, ⟨rdL_nil _ _ _, fun m hm => by cases hm⟩⟩ okFlags (TT.out W hb) (by rw [len5]; omega))
  have r5 := Lib.hid (fun W (hb : Below V7.heap.size V7 W) => show Calls Tryd.prog 36 #[.agg #[.slice A6 5 k6, .int .i64 0, .int .i64 2, .int .i64 4, .slice none 0 0, .slice none 0 0, .slice none 0 0]] W (fun e w' => e = .returned (.int .i64 (Sp.encodeF exPool.fl).2) ∧ Below W.heap.size W w') from fileRight_any ⟨A6, k6, none, 0, none, 0, none, 0⟩ exPool W ⟨rdL_below R6.out hb, rdN_nil _ _ _, ⟨rdL_nil _ _ _, fun m hm => by cases hm⟩, ⟨rdL_nil _ _ _, fun m hm => by cases hm⟩⟩ okPool (TT.out W hb) (by rw [len6]; omega))
  have r7 := Lib.hid (fun W (hb : Below V7.heap.size V7 W) => show Calls Tryd.prog 36 #[.agg #[.slice (some ⟨b7, 0, none⟩) 4 4, .int .i64 0, .int .i64 2, .int .i64 4, .slice none 0 0, .slice (some ⟨m7, 0, none⟩) 1 1, .slice none 0 0]] W (fun e w' => e = .returned (.int .i64 (Sp.encodeF (exField none 0).fl).2) ∧ Below W.heap.size W w') from fileRight_any ⟨some ⟨b7, 0, none⟩, 4, none, 0, some ⟨m7, 0, none⟩, 1, none, 0⟩ (exField none 0) W ⟨rdL_blk (blk_below P8.out hb) rfl (by decide), rdN_nil _ _ _, ⟨rdL_blk (blk_below M8.out hb) rfl (by decide), fun m hm => by simp [exField] at hm; subst hm; exact rdL_nil _ _ _⟩, ⟨rdL_nil _ _ _, fun m hm => by cases hm⟩⟩ (okField none 0) (TT.out W hb) (by rw [len7]; omega))
  rw [encS1] at r1
  rw [ex4] at r3
  rw [ex5] at r4
  rw [ex6] at r5
  rw [ex7] at r7
  simp only [] at r1
  have X5 := Lib.hid (show Bx V7 x5 b7 _ _ from ⟨K7.out, P8.out⟩)
  have X7 := Lib.hid (show Bx V7 x7 b7 _ _ from ⟨K8.out, P8.out⟩)
  clear K7 K8 P8 M8 R6 D8 A6' S6' TT
  have s1 := hS.out
  have s2 := hS2.out
  have s3 : decide ((13 : Int) < (S.size : Int)) = true := decide_eq_true (by omega)
  clear hS hS2
  have H0 := Lib.hid (Below.refl V7.heap.size V7)
  have C2 := bx7 X2.out
  obtain ⟨c0, c1, c2, c3, c4, c5, c6⟩ := C2
  go_wp2_with fail
  refine (r1.out _ H0.out).mono ?_
  rintro e u1 ⟨rfl, h1⟩
  clear c0 c1 c2 c3 c4 c5 c6
  obtain ⟨c0, c1, c2, c3, c4, c5, c6⟩ := bx7 (X3.out.below h1)
  have G1 := Lib.hid h1
  go_wp2_with fail
  refine (r3.out _ G1.out).mono ?_
  rintro e u2 ⟨rfl, h2⟩
  have G2 := Lib.hid (below_then G1.out G1.out.size h2)
  clear c0 c1 c2 c3 c4 c5 c6 h2
  obtain ⟨c0, c1, c2, c3, c4, c5, c6⟩ := bx7 (X4.out.below G2.out)
  go_wp2_with fail
  refine (r4.out _ G2.out).mono ?_
  rintro e u3 ⟨rfl, h3⟩
  have G3 := Lib.hid (below_then G2.out G2.out.size h3)
  clear c0 c1 c2 c3 c4 c5 c6 h3
  obtain ⟨c0, c1, c2, c3, c4, c5, c6⟩ := bx7 (X5.out.below G3.out)
  go_wp2_with fail
  refine (r5.out _ G3.out).mono ?_
  rintro e u4 ⟨rfl, h4⟩
  have G4 := Lib.hid (below_then G3.out G3.out.size h4)
  clear c0 c1 c2 c3 c4 c5 c6 h4
  obtain ⟨c0, c1, c2, c3, c4, c5, c6⟩ := bx7 (X7.out.below G4.out)
  go_wp2_with fail
  refine (r7.out _ G4.out).mono ?_
  rintro e u5 ⟨rfl, h5⟩
  have G5 := Lib.hid (below_then G4.out G4.out.size h5)
  clear c0 c1 c2 c3 c4 c5 c6 h5
  go_wp2
  go_ret
  exact ⟨by first | rfl | simp, below_then A8.out S8 G5.out⟩
  all_goals exfalso
  all_goals first | omega | (rename_i hq; exact hq (by rw [s2]; first | rfl | decide | kernel_rfl)) | (rename_i hq; rw [s2] at hq; simp at hq; done)
end Go.Proofs.YthpfknlgfkecpaaDoor
end
section
/-
  Plain: a small class's bytes are not many.
-/
set_option linter.unusedVariables false
set_option linter.unusedSimpArgs false
namespace Go.Proofs.YthpfknlgfkecpaaDoor.Sp
open Go.Lib

theorem constB_len (c : Cn) : (constB c).length ≤ 65538 := by
  unfold constB
  have h := encS_size c.text
  rw [List.length_append, putL_length]
  split
  · rw [List.length_append, putsL_length, nums_length]; simp only [List.length_cons, List.length_nil]; omega
  · split
    · rw [putL_length]; omega
    · split
      · rw [putsL_length]; simp only [List.length_cons, List.length_nil]; omega
      · rw [putsL_length]; simp only [List.length_cons, List.length_nil]; omega
theorem constB_all : ∀ l : List Cn, (l.flatMap constB).length ≤ l.length * 65538
  | [] => by simp
  | c :: l => by
    have h1 := constB_len c
    have h2 := constB_all l
    rw [List.flatMap_cons, List.length_append, List.length_cons]
    omega
theorem handB_all (l : List Hn) : (l.flatMap handB).length = 8 * l.length := by
  induction l with
  | nil => rfl
  | cons h l ih =>
    rw [List.flatMap_cons, List.length_append, ih, handB, putsL_length]
    simp only [List.length_cons, List.length_nil]
    omega
theorem fieldB_all (l : List Mb) : (l.flatMap fieldB).length = 5 * l.length := by
  induction l with
  | nil => rfl
  | cons h l ih =>
    rw [List.flatMap_cons, List.length_append, ih, fieldB, List.length_append, putL_length, putsL_length]
    simp only [List.length_cons, List.length_nil]
    omega
theorem methodB_all (l : List Mb) : (l.flatMap methodB).length ≤ 10 * l.length + codeN l := by
  induction l with
  | nil => simp
  | cons m l ih =>
    rw [List.flatMap_cons, List.length_append, codeN, List.length_cons]
    have : (methodB m).length ≤ 10 + (m.code.size + 8 * m.hs.length) := by
      unfold methodB
      rw [List.length_append, List.length_append, putL_length, putsL_length]
      simp only [List.length_cons, List.length_nil]
      split
      · simp only [List.length_nil]; omega
      · unfold codeB
        simp only [List.length_append, putL_length, putsL_length, List.length_cons, List.length_nil, nums_length, handB_all]
        omega
    omega
theorem small_bytes {F : Fl} (h : smallS F = true) : (bytesS F).length ≤ 900000000 := by
  unfold smallS at h
  obtain ⟨h1, h2, h3, h4, h5⟩ := of_decide_eq_true h
  have a1 := constB_all F.pool
  have a2 := fieldB_all F.fields
  have a3 := methodB_all F.methods
  unfold bytesS
  simp only [List.length_append, putL_length, putsL_length, List.length_cons, List.length_nil]
  omega
end Go.Proofs.YthpfknlgfkecpaaDoor.Sp
end
section
/-
  Plain: a right class's methods have names, and no two the same; the first that hits is found.
-/
set_option linter.unusedVariables false
set_option linter.unusedSimpArgs false
namespace Go.Proofs.YthpfknlgfkecpaaDoor.Sp
open Go.Lib

theorem memF_all {chk : Mb → Int} {key : Mb → ByteArray × ByteArray} : ∀ {l : List Mb} {had : List (ByteArray × ByteArray)}, memF chk key had l = 0 → (∀ m ∈ l, chk m = 0) ∧ (∀ m ∈ l, key m ∉ had) ∧ (l.map key).Nodup
  | [], had, _ => ⟨by simp, by simp, by simp⟩
  | m :: l, had, h => by
    rw [memF] at h
    by_cases hc : chk m = 0
    · rw [if_neg (by simp [hc])] at h
      by_cases hi : inS had (key m) = true
      · rw [if_pos hi] at h
        cases h
      · rw [if_neg hi] at h
        obtain ⟨h1, h2, h3⟩ := memF_all h
        have hk : key m ∉ had := fun q => hi ((inS_iff _ _ _).2 q)
        refine ⟨fun x hx => ?_, fun x hx => ?_, ?_⟩
        · rcases List.mem_cons.1 hx with rfl | hx
          · exact hc
          · exact h1 x hx
        · rcases List.mem_cons.1 hx with rfl | hx
          · exact hk
          · exact fun q => h2 x hx (List.mem_cons_of_mem _ q)
        · rw [List.map_cons, List.nodup_cons]
          refine ⟨fun q => ?_, h3⟩
          obtain ⟨x, hx, he⟩ := List.mem_map.1 q
          exact h2 x hx (by rw [he]; exact List.mem_cons_self ..)
    · rw [if_pos hc] at h
      exact absurd h hc
theorem method_named {p : List Cn} {ff : Int} {m : Mb} (h : methodM p ff m = 0) : (cnameS p m.name).2 = true ∧ (cnameS p m.desc).2 = true := by
  unfold methodM at h
  split at h
  · cases h
  · split at h
    · rename_i hl
      exact absurd h hl
    · rename_i hl
      have hl0 : linkS p m.name m.desc true = 0 := by simpa using hl
      unfold linkS at hl0
      split at hl0
      · cases hl0
      · rename_i q
        simp only [not_or, Bool.not_eq_false] at q
        exact q
/-- What a class that is right has. -/
theorem right_methods {F : Fl} (h : (encodeF F).2 = 0) : (∀ m ∈ F.methods, (cnameS F.pool m.name).2 = true ∧ (cnameS F.pool m.desc).2 = true) ∧ (F.methods.map (keyM F.pool true)).Nodup := by
  have hp : partsS F = 0 := by
    unfold encodeF at h
    split at h
    · exact h
    · rename_i q
      simpa using q
  have hm : memS (methodM F.pool F.flags) (keyM F.pool true) F.methods = 0 := by
    unfold partsS at hp
    split at hp
    · cases hp
    split at hp
    · rename_i q; exact absurd hp q
    split at hp
    · rename_i q; exact absurd hp q
    split at hp
    · rename_i q; exact absurd hp q
    exact hp
  unfold memS at hm
  split at hm
  · cases hm
  obtain ⟨h1, _, h3⟩ := memF_all hm
  exact ⟨fun m hm => method_named (h1 m hm), h3⟩
theorem findF_range (p : List Cn) (a b : ByteArray) : ∀ (l : List Mb) (k : Nat), findF p a b l k = -1 ∨ ∃ j, ∃ h : j < l.length, findF p a b l k = ((k + j : Nat) : Int) ∧ hitS p l[j] a b = true
  | [], _ => .inl rfl
  | m :: l, k => by
    rw [findF]
    by_cases h : hitS p m a b = true
    · rw [if_pos h]
      exact .inr ⟨0, by simp, by simp, h⟩
    · rw [if_neg h]
      rcases findF_range p a b l (k + 1) with q | ⟨j, hj, q, r⟩
      · exact .inl q
      · exact .inr ⟨j + 1, by simpa using hj, by rw [q]; congr 1; omega, by simpa using r⟩
theorem findF_own (p : List Cn) : ∀ (l : List Mb) (k i : Nat) (hi : i < l.length), (∀ m ∈ l, (cnameS p m.name).2 = true ∧ (cnameS p m.desc).2 = true) → (l.map (keyM p true)).Nodup → findF p (cnameS p l[i].name).1 (cnameS p l[i].desc).1 l k = ((k + i : Nat) : Int)
  | [], _, _, hi, _, _ => by simp at hi
  | m :: l, k, 0, _, h1, _ => by
    have := h1 m (List.mem_cons_self ..)
    rw [findF, if_pos]
    · simp
    · simp [hitS, this.1, this.2]
  | m :: l, k, i + 1, hi, h1, h2 => by
    have hil : i < l.length := by simpa using hi
    rw [List.map_cons, List.nodup_cons] at h2
    rw [findF, if_neg]
    · have := findF_own p l (k + 1) i hil (fun x hx => h1 x (List.mem_cons_of_mem _ hx)) h2.2
      simp only [List.getElem_cons_succ]
      rw [this]
      congr 1
      omega
    · intro q
      simp only [hitS, List.getElem_cons_succ, Bool.and_eq_true, decide_eq_true_eq] at q
      refine h2.1 (List.mem_map.2 ⟨l[i], List.getElem_mem hil, ?_⟩)
      unfold keyM
      rw [if_pos rfl, if_pos rfl, ← q.1.2, ← q.2]
end Go.Proofs.YthpfknlgfkecpaaDoor.Sp
end
section
/-
  Plain: a number constant behind all others changes nothing of a class but its length.
-/
set_option linter.unusedVariables false
set_option linter.unusedSimpArgs false
namespace Go.Proofs.YthpfknlgfkecpaaDoor.Sp
open Go.Lib

/-- A number constant. -/
def newC (n : Int) : Cn := ⟨2, ⟨#[]⟩, n, 0, 0, 0⟩
theorem get_grow (p : List Cn) (x : Cn) (i : Int) : get (p ++ [x]) i = if i = (p.length : Int) + 1 then some x else get p i := by
  unfold get
  by_cases h : 1 ≤ i
  · rw [if_pos h, if_pos h]
    by_cases h2 : i = (p.length : Int) + 1
    · subst h2
      rw [if_pos rfl, show ((p.length : Int) + 1 - 1).toNat = p.length by omega]
      simp
    · rw [if_neg h2]
      by_cases h3 : (i - 1).toNat < p.length
      · rw [List.getElem?_append_left h3]
      · rw [List.getElem?_append_right (by omega), List.getElem?_eq_none (l := p) (by omega)]
        exact List.getElem?_eq_none (by simp; omega)
  · rw [if_neg h, if_neg h, if_neg (by omega)]
theorem get_out (p : List Cn) : get p ((p.length : Int) + 1) = none := by
  unfold get
  rw [if_pos (by omega)]
  exact List.getElem?_eq_none (by omega)
theorem tagged_grow (p : List Cn) (n : Int) (i t : Int) (ht : t ≠ 2) : taggedS (p ++ [newC n]) i t = taggedS p i t := by
  unfold taggedS
  rw [get_grow]
  by_cases h : i = (p.length : Int) + 1
  · subst h
    rw [if_pos rfl, get_out]
    simp only [newC]
    exact decide_eq_false (fun q => ht q.symm)
  · rw [if_neg h]
theorem cname_grow (p : List Cn) (n : Int) (i : Int) : cnameS (p ++ [newC n]) i = cnameS p i := by
  unfold cnameS
  rw [get_grow]
  by_cases h : i = (p.length : Int) + 1
  · subst h
    rw [if_pos rfl, get_out]
    show (if (newC n).tag = 1 then ((newC n).text, true) else (⟨#[]⟩, false)) = (⟨#[]⟩, false)
    exact if_neg (show ¬ (2 : Int) = 1 by decide)
  · rw [if_neg h]
theorem link_grow (p : List Cn) (n : Int) (a b : Int) (m : Bool) : linkS (p ++ [newC n]) a b m = linkS p a b m := by
  unfold linkS
  rw [cname_grow, cname_grow]
theorem const_grow (p : List Cn) (n : Int) (c : Cn) : constS (p ++ [newC n]) c = constS p c := by
  unfold constS linkedS namedS
  rw [cname_grow, link_grow, tagged_grow _ _ _ _ (by decide)]
theorem const_new (p : List Cn) (n : Int) : constS p (newC n) = 0 := by
  unfold constS
  rw [if_neg (by simp [leanS, newC]; rfl), if_neg (by simp [newC]), if_neg (by simp [newC]), if_neg (by simp [newC])]
theorem head_grow (p : List Cn) (n : Int) (f t s : Int) (ifs : List Int) : headS (p ++ [newC n]) f t s ifs = headS p f t s ifs := by
  unfold headS
  rw [tagged_grow _ _ _ _ (by decide), tagged_grow _ _ _ _ (by decide)]
  simp only [tagged_grow _ _ _ _ (show (4 : Int) ≠ 2 by decide)]
theorem key_grow (p : List Cn) (n : Int) (m : Bool) : keyM (p ++ [newC n]) m = keyM p m := by
  funext b
  unfold keyM
  rw [cname_grow, cname_grow]
theorem fieldM_grow (p : List Cn) (n : Int) (ff : Int) : fieldM (p ++ [newC n]) ff = fieldM p ff := by
  funext b
  unfold fieldM
  rw [link_grow]
theorem hand_grow (p : List Cn) (n : Int) (z : Int) : ∀ l : List Hn, handS (p ++ [newC n]) z l = handS p z l
  | [] => rfl
  | h :: l => by
    rw [handS, handS, tagged_grow _ _ _ _ (by decide), hand_grow p n z l]
theorem methodM_grow (p : List Cn) (n : Int) (ff : Int) : methodM (p ++ [newC n]) ff = methodM p ff := by
  funext b
  unfold methodM codedS
  rw [link_grow, cname_grow, cname_grow, hand_grow]
theorem pool_grow (p : List Cn) (n : Int) : ∀ l : List Cn, poolF (p ++ [newC n]) (l ++ [newC n]) = poolF p l
  | [] => by
    show poolF (p ++ [newC n]) [newC n] = 0
    rw [poolF, if_neg (by rw [const_new]; simp)]
    rfl
  | c :: l => by
    rw [List.cons_append, poolF, poolF, const_grow, pool_grow p n l]

/-- The class with one more constant. -/
def growF (F : Fl) (n : Int) : Fl := { F with pool := F.pool ++ [newC n] }
theorem parts_grow (F : Fl) (n : Int) (h : partsS F = 0) (hp : F.pool.length ≠ 2000) : partsS (growF F n) = 0 := by
  unfold partsS at h ⊢
  unfold growF
  simp only [List.length_append, List.length_cons, List.length_nil]
  rw [pool_grow, head_grow, key_grow, key_grow, fieldM_grow, methodM_grow]
  by_cases h2 : 2000 < F.pool.length
  · rw [if_pos h2] at h; cases h
  · rw [if_neg h2] at h
    rw [if_neg (by omega)]
    exact h
theorem parts_many (F : Fl) (n : Int) (hp : F.pool.length = 2000) : partsS (growF F n) = 3 := by
  unfold partsS growF
  simp only [List.length_append, List.length_cons, List.length_nil]
  rw [if_pos (by omega)]
theorem bytes_grow (F : Fl) (n : Int) : (bytesS (growF F n)).length = (bytesS F).length + 9 := by
  unfold bytesS growF
  have h9 : (constB (newC n)).length = 9 := by
    unfold constB newC
    simp only [List.length_append, putL_length]
    rw [if_neg (by decide), if_pos trivial, putL_length]
  simp only [List.flatMap_append, List.flatMap_cons, List.flatMap_nil, List.append_nil, List.length_append, putL_length, putsL_length, List.length_cons, List.length_nil, h9]
  omega
theorem encode_ok {F : Fl} (h : (encodeF F).2 = 0) : partsS F = 0 ∧ (bytesS F).length ≤ 65536 ∧ (encodeF F).1.size = (bytesS F).length := by
  unfold encodeF at h ⊢
  by_cases hp : partsS F = 0
  · rw [if_neg (by simp [hp])] at h ⊢
    by_cases hb : 65536 < (bytesS F).length
    · rw [if_pos hb] at h; cases h
    · rw [if_neg hb]
      exact ⟨hp, by omega, Go.strOfNums_size _⟩
  · rw [if_pos hp] at h
    exact absurd h hp
/-- What comes of a class that may be, with a number constant more. -/
theorem encode_grow {F : Fl} (n : Int) (h : (encodeF F).2 = 0) :
    (encodeF F).1.size = (bytesS F).length ∧ (bytesS F).length ≤ 65536 ∧ F.pool.length ≤ 2000 ∧ (F.pool.length = 2000 → (encodeF (growF F n)).2 = 3) ∧ (F.pool.length ≠ 2000 →
      (65536 < (bytesS F).length + 9 → (encodeF (growF F n)).2 = 2) ∧ ((bytesS F).length + 9 ≤ 65536 → (encodeF (growF F n)).2 = 0 ∧ (encodeF (growF F n)).1.size = (encodeF F).1.size + 9)) := by
  obtain ⟨h1, h2, h3⟩ := encode_ok h
  refine ⟨h3, h2, ?_, fun hp => ?_, fun hp => ⟨fun hb => ?_, fun hb => ?_⟩⟩
  · unfold partsS at h1
    by_cases h2 : 2000 < F.pool.length
    · rw [if_pos h2] at h1; cases h1
    · omega
  · unfold encodeF
    rw [parts_many F n hp]
    rfl
  · unfold encodeF
    rw [parts_grow F n h1 hp, if_neg (by simp), bytes_grow, if_pos hb]
  · rw [h3]
    unfold encodeF
    rw [parts_grow F n h1 hp, if_neg (by simp), bytes_grow, if_neg (by omega)]
    exact ⟨rfl, by rw [← bytes_grow F n]; exact Go.strOfNums_size _⟩
theorem tagged_pos {p : List Cn} {i t : Int} (h : taggedS p i t = true) : 0 < p.length := by
  unfold taggedS at h
  rcases get_cases p i with ⟨_, h2⟩ | ⟨_, _, h3⟩ | ⟨k, hk, h1, h3⟩
  · rw [h2] at h; cases h
  · rw [h3] at h; cases h
  · omega
theorem pool_pos {F : Fl} (h : (encodeF F).2 = 0) : 0 < F.pool.length := by
  have hp := (encode_ok h).1
  have hh : headS F.pool F.flags F.this F.super F.ifaces = 0 := by
    unfold partsS at hp
    split at hp
    · cases hp
    split at hp
    · rename_i q; exact absurd hp q
    split at hp
    · rename_i q; exact absurd hp q
    rename_i q
    simpa using q
  unfold headS at hh
  split at hh
  · cases hh
  split at hh
  · cases hh
  rename_i q
  simp only [not_or, Bool.not_eq_false] at q
  exact tagged_pos q.1
/-- What the law asks of a class that may be and of one that has a number constant more. -/
theorem grow_said (F : Fl) (n : Int) (h : (encodeF F).2 = 0) : (encodeF F).1.size ≤ 65536 ∧ 0 < F.pool.length ∧ F.pool.length ≤ 2000 ∧ (F.pool.length = 2000 → (encodeF (growF F n)).2 = 3) ∧ (F.pool.length ≠ 2000 →
      (65536 < (encodeF F).1.size + 9 → (encodeF (growF F n)).2 = 2) ∧ ((encodeF F).1.size + 9 ≤ 65536 → (encodeF (growF F n)).2 = 0 ∧ (encodeF (growF F n)).1.size = (encodeF F).1.size + 9)) := by
  obtain ⟨h1, h2, h3, h4, h5⟩ := encode_grow n h
  rw [h1] at *
  exact ⟨h2, pool_pos h, h3, h4, fun hp => ⟨(h5 hp).1, fun hb => h1 ▸ (h5 hp).2 hb⟩⟩
end Go.Proofs.YthpfknlgfkecpaaDoor.Sp
end
section
/-
  Walk of FileGrows.
-/
set_option linter.unusedVariables false
set_option linter.unusedSimpArgs false
namespace Go.Proofs.YthpfknlgfkecpaaDoor
open Go.RowKit Go.Lib

set_option maxHeartbeats 4000000 in
set_option maxRecDepth 100000 in
theorem pick3_any (c n : Int) (w : World) (h : In64 c) (hn : 0 < n) (hn2 : n ≤ 9223372036854775807) :
    Calls Tryd.prog 38 #[.int .i64 c, .int .i64 n] w fun e w' => (∃ i, e = .returned (.int .i64 i) ∧ 0 ≤ i ∧ i < n) ∧ w' = w := by
  obtain ⟨h0, h1⟩ := h
  have hd : n ≠ 0 := by omega
  by_cases hc : c < 0
  · have hm1 : 0 ≤ -(c + 1).tmod n := by rw [← Int.neg_tmod]; exact Int.tmod_nonneg _ (by omega)
    have hm2 : -(c + 1).tmod n < n := by rw [← Int.neg_tmod]; exact Int.tmod_lt_of_pos _ hn
    go_enter Tryd.func38, Tryd.ntmps38
    go_wp2
    go_ret
    exact ⟨⟨_, rfl, hm1, hm2⟩, rfl⟩
  · have hm1 : 0 ≤ c % n := Int.emod_nonneg _ hd
    have hm2 : c % n < n := Int.emod_lt_of_pos _ hn
    go_enter Tryd.func38, Tryd.ntmps38
    go_wp2
    go_ret
    exact ⟨⟨_, rfl, hm1, hm2⟩, rfl⟩

theorem cells7 {W : World} {x : Nat} {c0 c1 c2 c3 c4 c5 c6 : Value} {T : TypeId} (h : W.heap[x]? = some (.cells #[c0, c1, c2, c3, c4, c5, c6] T (0, 0))) : W.cell? ⟨x, 0, none⟩ = some c0 ∧ W.cell? ⟨x, 1, none⟩ = some c1 ∧ W.cell? ⟨x, 2, none⟩ = some c2 ∧ W.cell? ⟨x, 3, none⟩ = some c3 ∧ W.cell? ⟨x, 4, none⟩ = some c4 ∧ W.cell? ⟨x, 5, none⟩ = some c5 ∧ W.cell? ⟨x, 6, none⟩ = some c6 :=
  ⟨(blk_cell h 0 _ rfl).1, (blk_cell h 1 _ rfl).1, (blk_cell h 2 _ rfl).1, (blk_cell h 3 _ rfl).1, (blk_cell h 4 _ rfl).1, (blk_cell h 5 _ rfl).1, (blk_cell h 6 _ rfl).1⟩
theorem cn_one (p : List Sp.Cn) : ∀ u ∈ p.flatMap Sp.cnC, u.oneCell' = true := by
  intro u hu
  obtain ⟨c, _, h⟩ := List.mem_flatMap.1 hu
  simp [Sp.cnC] at h
  rcases h with rfl | rfl | rfl | rfl | rfl | rfl <;> rfl
/-- The class with one more constant. -/
def growP (F : FlP) (n : Int) : FlP := ⟨F.pool ++ [Sp.newC n], F.flags, F.this, F.super, F.ifaces, F.fields, F.methods⟩
theorem growP_ok {F : FlP} {n : Int} (h : FlOk F) (hn : In64 n) : FlOk (growP F n) := by
  refine ⟨h.flags, h.this, h.super, h.ifaces, fun c hc => ?_, h.fields, h.methods⟩
  rcases List.mem_append.1 hc with hc | hc
  · exact h.pool c hc
  · obtain rfl := List.mem_singleton.1 hc
    exact ⟨by simp [Sp.newC, In64], hn, by simp [Sp.newC, In64], by simp [Sp.newC, In64], by simp [Sp.newC, In64], by simp [Sp.newC]; decide⟩

set_option maxHeartbeats 8000000 in
set_option maxRecDepth 100000 in
theorem fileGrows_any (q : Sp.At) (F : FlP) (n link : Int) (w : World) (hr : RdF w q F) (hF : FlOk F) (hT : Tabs w) (hN : Sp.textN F.pool + Sp.codeN (F.methods.map (·.1)) + Sp.codeN (F.fields.map (·.1)) ≤ 4611686018427387904) (hn : In64 n) (hlk : In64 link) :
    Calls Tryd.prog 10 #[.agg (flC q F), .int .i64 n, .int .i64 link] w fun e w' => e = .returned (.bool true) ∧ Below w.heap.size w w' := by
  have hK := Lib.hid (blk_new w (.cells (flC q F) 53))
  have hB := (Below.refl w.heap.size w).alloc (Nat.le_refl _) (.cells (flC q F) 53)
  have KS : ∀ X : Array Value, X = flC q F →
      Hid (∀ W, Below w.heap.size w W → Calls Tryd.prog 33 #[.agg X] W fun e w' => e = .returned (.bool (Sp.smallS F.fl)) ∧ Below W.heap.size W w') ∧
      Hid (Sp.smallS F.fl = true → ∀ W, Below w.heap.size w W → Calls Tryd.prog 36 #[.agg X] W fun e w' => e = .returned (.int .i64 (Sp.encodeF F.fl).2) ∧ Below W.heap.size W w') ∧
      Hid (Sp.smallS F.fl = true → ∀ W, Below w.heap.size w W → Calls Tryd.prog 34 #[.agg X] W fun e w' => e = .returned (.tuple #[.string (Sp.encodeF F.fl).1, .int .i64 (Sp.encodeF F.fl).2]) ∧ Below W.heap.size W w') ∧
      Hid (∀ i, In64 i → ∀ W, Below w.heap.size w W → Calls Tryd.prog 39 #[.agg X, .int .i64 i] W fun e w' => e = .returned (.tuple #[.string (Sp.cnameS F.pool i).1, .bool (Sp.cnameS F.pool i).2]) ∧ Below W.heap.size W w') := by
    rintro X rfl
    exact ⟨Lib.hid (fun W hb => small_any q F W (rdF_below hr hb) hN), Lib.hid (fun hs W hb => fileRight_any q F W (rdF_below hr hb) hF (hT.below hb) (Sp.small_bytes hs)), Lib.hid (fun hs W hb => fileEnc_any q F W (rdF_below hr hb) hF (hT.below hb) (Sp.small_bytes hs)), Lib.hid (fun i hi W hb => cname_any q F i W (rdF_below hr hb) hi)⟩
  have KG : Hid (∀ (A : Option Addr) (c : Nat) (V : World), Below w.heap.size w V → RdL Sp.cnC V A (F.pool ++ [Sp.newC n]) → (Sp.encodeF F.fl).2 = 0 → ∀ X : Array Value, X = #[.slice A (F.pool.length + 1) c, .int .i64 F.flags, .int .i64 F.this, .int .i64 F.super, .slice q.I F.ifaces.length q.d, .slice q.X F.fields.length q.e, .slice q.Y F.methods.length q.g] →
      Hid (∀ W, Below V.heap.size V W → Calls Tryd.prog 36 #[.agg X] W fun e w' => e = .returned (.int .i64 (Sp.encodeF (Sp.growF F.fl n)).2) ∧ Below W.heap.size W w') ∧
      Hid (∀ W, Below V.heap.size V W → Calls Tryd.prog 34 #[.agg X] W fun e w' => e = .returned (.tuple #[.string (Sp.encodeF (Sp.growF F.fl n)).1, .int .i64 (Sp.encodeF (Sp.growF F.fl n)).2]) ∧ Below W.heap.size W w') ∧
      Hid (∀ i, In64 i → ∀ W, Below V.heap.size V W → Calls Tryd.prog 39 #[.agg X, .int .i64 i] W fun e w' => e = .returned (.tuple #[.string (Sp.cnameS F.pool i).1, .bool (Sp.cnameS F.pool i).2]) ∧ Below W.heap.size W w')) := by
    refine Lib.hid (fun A c V hV hR hE X hX => ?_)
    have hrV := rdF_below hr hV
    have hG : RdF V ⟨A, c, q.I, q.d, q.X, q.e, q.Y, q.g⟩ (growP F n) := ⟨hR, hrV.ifaces, hrV.fields, hrV.methods⟩
    have hX2 : X = flC ⟨A, c, q.I, q.d, q.X, q.e, q.Y, q.g⟩ (growP F n) := by
      rw [hX]
      unfold flC growP
      simp
    have hlen : (Sp.bytesS (growP F n).fl).length ≤ 900000000 := by
      have h1 := Sp.bytes_grow F.fl n
      have h2 := (Sp.encode_ok hE).2.1
      have h3 : (growP F n).fl = Sp.growF F.fl n := rfl
      rw [h3]
      omega
    have hok := growP_ok hF hn
    have hTV := hT.below hV
    subst hX2
    refine ⟨Lib.hid (fun W hb => fileRight_any _ (growP F n) W (rdF_below hG hb) hok (hTV.below hb) hlen), Lib.hid (fun W hb => fileEnc_any _ (growP F n) W (rdF_below hG hb) hok (hTV.below hb) hlen), Lib.hid (fun i hi W hb => ?_)⟩
    have := cname_any _ (growP F n) i W (rdF_below hG hb) hi
    rwa [show (growP F n).pool = F.pool ++ [Sp.newC n] from rfl, Sp.cname_grow] at this
  have hsh := Lib.hid (fun W (hb : Below w.heap.size w W) => fileShown_any W (hT.below hb))
  have hGS := Lib.hid (fun h => Sp.grow_said F.fl n h)
  have HP := Lib.hid hr.pool.2
  have hl1 := hr.pool.1
  clear hr hF hT hN
  obtain ⟨pool, fl, th, su, ifs, flds, mths⟩ := F
  obtain ⟨qA, qc, qI, qd, qX, qe, qY, qg⟩ := q
  obtain ⟨ks, kr, ke, kn⟩ := KS #[.slice qA pool.length qc, .int .i64 fl, .int .i64 th, .int .i64 su, .slice qI ifs.length qd, .slice qX flds.length qe, .slice qY mths.length qg] rfl
  clear KS
  have hfl : flC ⟨qA, qc, qI, qd, qX, qe, qY, qg⟩ ⟨pool, fl, th, su, ifs, flds, mths⟩ = #[.slice qA pool.length qc, .int .i64 fl, .int .i64 th, .int .i64 su, .slice qI ifs.length qd, .slice qX flds.length qe, .slice qY mths.length qg] := rfl
  rw [hfl] at hK hB ⊢
  clear hfl
  simp only [] at ks kr ke kn KG HP hl1
  unfold FlP.fl at ks kr ke KG hGS
  simp only [] at ks kr ke KG hGS
  generalize Sp.smallS ⟨pool, fl, th, su, ifs, flds.map (·.1), mths.map (·.1)⟩ = sm at *
  generalize Sp.encodeF (Sp.growF ⟨pool, fl, th, su, ifs, flds.map (·.1), mths.map (·.1)⟩ n) = EG at *
  generalize Sp.encodeF ⟨pool, fl, th, su, ifs, flds.map (·.1), mths.map (·.1)⟩ = EF at *
  obtain ⟨gb, ge⟩ := EG
  obtain ⟨eb, er⟩ := EF
  simp only [] at kr ke KG hGS
  go_enter Tryd.func10, Tryd.ntmps10
  go_wp2_with fail
  refine (hsh.out _ hB).mono ?_
  rintro e w1 ⟨rfl, hb1⟩
  have B1 := below_then hB hB.size hb1
  have K1 := Lib.hid (blk_below hK.out hb1)
  have z1 := B1.size
  clear hB hK hb1 hsh
  obtain ⟨c0, c1, c2, c3, c4, c5, c6⟩ := flC_box (q := ⟨qA, qc, qI, qd, qX, qe, qY, qg⟩) (F := ⟨pool, fl, th, su, ifs, flds, mths⟩) K1.out
  simp only [] at c0 c1 c2 c3 c4 c5 c6
  go_wp2_with fail
  refine (ks.out _ B1).mono ?_
  rintro e w2 ⟨rfl, hb2⟩
  have B2 := below_then B1 z1 hb2
  have K2 := Lib.hid (blk_below K1.out hb2)
  have z2 := B2.size
  clear B1 K1 z1 hb2 ks c0 c1 c2 c3 c4 c5 c6
  cases sm with
  | false =>
    clear KG hGS
    go_wp2
    go_ret
    exact ⟨rfl, B2⟩
  | true =>
    obtain ⟨c0, c1, c2, c3, c4, c5, c6⟩ := flC_box (q := ⟨qA, qc, qI, qd, qX, qe, qY, qg⟩) (F := ⟨pool, fl, th, su, ifs, flds, mths⟩) K2.out
    simp only [] at c0 c1 c2 c3 c4 c5 c6
    go_wp2_with fail
    refine (kr.out (by simp) _ B2).mono ?_
    rintro e w3 ⟨rfl, hb3⟩
    have B3 := below_then B2 z2 hb3
    have K3 := Lib.hid (blk_below K2.out hb3)
    have z3 := B3.size
    clear B2 K2 z2 hb3 kr c0 c1 c2 c3 c4 c5 c6
    by_cases he : er = 0
    rotate_left
    · have heb : (er != 0) = true := by simp [he]
      clear KG hGS
      go_wp2
      go_ret
      exact ⟨rfl, B3⟩
    subst he
    obtain ⟨g1, g2, g3, g4, g5⟩ := hGS.out rfl
    (try simp only [] at g1 g2 g3 g4 g5)
    have G4 := Lib.hid g4
    have G5 := Lib.hid g5
    clear g4 g5 hGS
    obtain ⟨c0, c1, c2, c3, c4, c5, c6⟩ := flC_box (q := ⟨qA, qc, qI, qd, qX, qe, qY, qg⟩) (F := ⟨pool, fl, th, su, ifs, flds, mths⟩) K3.out
    simp only [] at c0 c1 c2 c3 c4 c5 c6
    have hlk3 := blk_lt K3.out
    have D5 := Lib.hid (B3.alloc z3 (.cells #[.slice qA pool.length qc, .int .i64 fl, .int .i64 th, .int .i64 su, .slice qI ifs.length qd, .slice qX flds.length qe, .slice qY mths.length qg] 53))
    have K5 := Lib.hid (blk_old (o := .cells #[.slice qA pool.length qc, .int .i64 fl, .int .i64 th, .int .i64 su, .slice qI ifs.length qd, .slice qX flds.length qe, .slice qY mths.length qg] 53) K3.out)
    have Y5 := Lib.hid (blk_new w3 (.cells #[.slice qA pool.length qc, .int .i64 fl, .int .i64 th, .int .i64 su, .slice qI ifs.length qd, .slice qX flds.length qe, .slice qY mths.length qg] 53))
    go_upto_region 8 with fail
    generalize w3.alloc (.cells #[.slice qA pool.length qc, .int .i64 fl, .int .i64 th, .int .i64 su, .slice qI ifs.length qd, .slice qX flds.length qe, .slice qY mths.length qg] 53) = W5 at *
    generalize w3.heap.size = x5 at *
    clear c0 c1 c2 c3 c4 c5 c6 K3 B3
    obtain ⟨i0, hi, hz0, hz1, hz2⟩ := info_parts infoCn
    obtain ⟨b, o, hqA, hrg⟩ := HP.out g2
    subst hqA
    have hlx5 := blk_lt Y5.out
    have hlk5 := blk_lt K5.out
    have hsz5 := D5.out.size
    have hpl := hl1
    have hown0 := Lib.hid (show (W5.alloc (.cells #[] 58)).ownsRow W5.heap.size 58 6 (.slice (some ⟨W5.heap.size, 0, none⟩) 0 0) 0 [] from ⟨rfl, .inr ⟨W5.heap.size, 0, #[], rfl, Nat.le_refl _, blk_new W5 _, Nat.le_refl _, by unfold maxLen; omega, rfl, rfl⟩⟩)
    have hnew := Lib.hid (show ∀ j u, (pool.flatMap Sp.cnC)[j]? = some u → (W5.alloc (.cells #[] 58)).cell? ((⟨b, o, none⟩ : Addr).add j) = some u from fun j u hj => by
      have := cell_below (D5.out.alloc hsz5 (.cells #[] 58)) (hrg j u hj)
      rw [Addr.add_mid]; exact this)
    have hc0 := (blk_cell K5.out 0 _ rfl).1
    go_wp2_with (at_builtin; refine wpList_append_own_at _ rfl _ _ 49 rfl W5.heap.size 58 i0 (.agg #[.int .i64 0, .string ⟨#[]⟩, .int .i64 0, .int .i64 0, .int .i64 0, .int .i64 0]) 6 56 Tryd.underlying49 hi hz0 hz1 hz2 rfl (by decide) _ 0 [] rfl hown0.out ⟨b, o, none⟩ pool.length qc (pool.flatMap Sp.cnC) rfl ?x1 ?x2 ?x3 ?x4 ?x5 ?x6 ?_)
    case x1 => exact flat_length _ _ Sp.cnC_len pool
    case x2 => exact hnew.out
    case x3 => exact cn_one pool
    case x4 => unfold maxLen; omega
    case x5 => omega
    case x6 => simp
    intro v1 w6 hown1 hg1 _ hat1
    (try simp only [Nat.zero_add, List.nil_append] at hown1)
    obtain ⟨A6, k6, rfl⟩ := own_sl hown1
    have D6 := Lib.hid ((D5.out.alloc hsz5 _).grown hg1 (by simp; omega) (fun q hq => by simp [Value.ownBlock] at hq; omega))
    have K6 := Lib.hid (blk_grown (blk_old K5.out) hg1 (by simp [Value.ownBlock]; omega))
    have Y6 := Lib.hid (blk_grown (blk_old Y5.out) hg1 (by simp [Value.ownBlock]; omega))
    have S6 := D6.out.size
    have H6 := Lib.hid hown1
    have S56 : W5.heap.size ≤ w6.heap.size := by have := hg1.size; simp at this; omega
    clear D5 K5 Y5 hown0 hnew hc0 hg1 hat1 hown1
    go_wp2_with (at_builtin; refine wpList_append_own_at _ rfl _ _ 49 rfl W5.heap.size 58 i0 (.agg #[.int .i64 0, .string ⟨#[]⟩, .int .i64 0, .int .i64 0, .int .i64 0, .int .i64 0]) 6 56 Tryd.underlying49 hi hz0 hz1 hz2 rfl (by decide) _ pool.length (pool.flatMap Sp.cnC) rfl (H6.out.alloc _) ⟨w6.heap.size, 0, none⟩ 1 1 [.int .i64 2, .string ⟨#[]⟩, .int .i64 n, .int .i64 0, .int .i64 0, .int .i64 0] rfl rfl ?x2 ?x3 ?x4 ?x5 ?x6 ?_)
    case x2 =>
      intro j u hj
      match j, hj with
      | 0, hj => simp at hj; subst hj; simp [Addr.add]
      | 1, hj => simp at hj; subst hj; simp [Addr.add]
      | 2, hj => simp at hj; subst hj; simp [Addr.add]
      | 3, hj => simp at hj; subst hj; simp [Addr.add]
      | 4, hj => simp at hj; subst hj; simp [Addr.add]
      | 5, hj => simp at hj; subst hj; simp [Addr.add]
      | (j + 6), hj => simp at hj
    case x3 => intro u hu; simp at hu; rcases hu with rfl | rfl | rfl | rfl | rfl | rfl <;> rfl
    case x4 => unfold maxLen; omega
    case x5 => omega
    case x6 => simp; omega
    intro v2 w7 hown2 hg2 _ hat2
    have hbase6 := own_base H6.out
    obtain ⟨A7, k7, rfl⟩ := own_sl hown2
    have D7 := Lib.hid ((D6.out.alloc S6 _).grown hg2 (by simp; omega) (fun q hq => by have := hbase6 q hq; omega))
    have K7 := Lib.hid (blk_grown (blk_old K6.out) hg2 (fun q => by have := hbase6 _ q.symm; omega))
    have Y7 := Lib.hid (blk_grown (blk_old Y6.out) hg2 (fun q => by have := hbase6 _ q.symm; omega))
    have S7 := D7.out.size
    clear D6 K6 Y6 H6 hg2 hat2 hbase6 hi hz0 hz1 hz2
    obtain ⟨e0, f0⟩ := blk_cell Y7.out 0 _ rfl
    have hsx5 : w.heap.size ≤ x5 := z3
    have hne5 : w.heap.size ≠ x5 := by omega
    have D8 := Lib.hid (D7.out.setCell (p := ⟨x5, 0, none⟩) hsx5 (.slice A7 (pool.length + 1) k7))
    have K8 := Lib.hid (blk_other K7.out ⟨x5, 0, none⟩ (.slice A7 (pool.length + 1) k7) hne5)
    have Y8 := Lib.hid (show (w7.setCell ⟨x5, 0, none⟩ (.slice A7 (pool.length + 1) k7)).heap[x5]? = some (.cells #[.slice A7 (pool.length + 1) k7, .int .i64 fl, .int .i64 th, .int .i64 su, .slice qI ifs.length qd, .slice qX flds.length qe, .slice qY mths.length qg] 53 (0, 0)) from blk_set Y7.out _)
    have hrow := (Keeps.refl (fun i => i = x5) w7).setCell (a := ⟨x5, 0, none⟩) (.inl rfl) (.slice A7 (pool.length + 1) k7) |>.row hown2 (fun k hk e => own_ne_box hown2 Y7.out (by decide) (e ▸ hk))
    have R8 := Lib.hid (show RdL Sp.cnC (w7.setCell ⟨x5, 0, none⟩ (.slice A7 (pool.length + 1) k7)) A7 (pool ++ [Sp.newC n]) from (own_rdL Sp.cnC_len (by decide) (l := pool ++ [Sp.newC n]) (by rw [List.flatMap_append]; exact hrow)).2)
    clear hown2 hrow K7 D7 Y7
    go_upto_region 9 with fail
    clear e0 f0
    generalize w7.setCell ⟨x5, 0, none⟩ (.slice A7 (pool.length + 1) k7) = V8 at *
    obtain ⟨gr, gn, gm⟩ := KG.out A7 k7 V8 D8.out R8.out (by simp) _ rfl
    clear KG R8
    obtain ⟨c0, c1, c2, c3, c4, c5, c6⟩ := flC_box (q := ⟨some ⟨b, o, none⟩, qc, qI, qd, qX, qe, qY, qg⟩) (F := ⟨pool, fl, th, su, ifs, flds, mths⟩) K8.out
    obtain ⟨d0, d1, d2, d3, d4, d5, d6⟩ := cells7 Y8.out
    simp only [] at c0 c1 c2 c3 c4 c5 c6
    go_wp2_with fail
    refine (gr.out _ (Below.refl _ _)).mono ?_
    rintro e w9 ⟨rfl, hb9⟩
    have B9 := below_then D8.out D8.out.size hb9
    have K9 := Lib.hid (blk_below K8.out hb9)
    have Y9 := Lib.hid (blk_below Y8.out hb9)
    have V9 := hb9
    have z9 := B9.size
    have zv9 := V9.size
    clear K8 Y8 D8 hb9 gr c0 c1 c2 c3 c4 c5 c6 d0 d1 d2 d3 d4 d5 d6
    obtain ⟨c0, c1, c2, c3, c4, c5, c6⟩ := flC_box (q := ⟨some ⟨b, o, none⟩, qc, qI, qd, qX, qe, qY, qg⟩) (F := ⟨pool, fl, th, su, ifs, flds, mths⟩) K9.out
    obtain ⟨d0, d1, d2, d3, d4, d5, d6⟩ := cells7 Y9.out
    simp only [] at c0 c1 c2 c3 c4 c5 c6
    by_cases hp : pool.length = 2000
    · have hpb : ((pool.length : Int) == 2000) = true := by rw [hp]; rfl
      have hge := G4.out hp
      subst hge
      clear G4 G5 gn gm ke kn
      go_wp2
      go_ret
      exact ⟨by first | rfl | simp, B9⟩
    have hpb : ((pool.length : Int) == 2000) = false := by rw [beq_eq_false_iff_ne]; omega
    obtain ⟨g6, g7⟩ := G5.out hp
    have G6 := Lib.hid g6
    have G7 := Lib.hid g7
    clear g6 g7 G4 G5
    go_wp2_with fail
    refine (ke.out (by simp) _ B9).mono ?_
    rintro e w10 ⟨rfl, hb10⟩
    have B10 := below_then B9 z9 hb10
    have V10 := below_then V9 zv9 hb10
    have K10 := Lib.hid (blk_below K9.out hb10)
    have Y10 := Lib.hid (blk_below Y9.out hb10)
    have z10 := B10.size
    have zv10 := V10.size
    clear K9 Y9 B9 V9 hb10 ke z9 zv9 c0 c1 c2 c3 c4 c5 c6 d0 d1 d2 d3 d4 d5 d6
    obtain ⟨c0, c1, c2, c3, c4, c5, c6⟩ := flC_box (q := ⟨some ⟨b, o, none⟩, qc, qI, qd, qX, qe, qY, qg⟩) (F := ⟨pool, fl, th, su, ifs, flds, mths⟩) K10.out
    obtain ⟨d0, d1, d2, d3, d4, d5, d6⟩ := cells7 Y10.out
    simp only [] at c0 c1 c2 c3 c4 c5 c6
    go_wp2_with fail
    refine (gn.out _ V10).mono ?_
    rintro e w11 ⟨rfl, hb11⟩
    have B11 := below_then B10 z10 hb11
    have V11 := below_then V10 zv10 hb11
    have K11 := Lib.hid (blk_below K10.out hb11)
    have Y11 := Lib.hid (blk_below Y10.out hb11)
    have z11 := B11.size
    have zv11 := V11.size
    clear K10 Y10 B10 V10 hb11 gn z10 zv10 c0 c1 c2 c3 c4 c5 c6 d0 d1 d2 d3 d4 d5 d6
    obtain ⟨c0, c1, c2, c3, c4, c5, c6⟩ := flC_box (q := ⟨some ⟨b, o, none⟩, qc, qI, qd, qX, qe, qY, qg⟩) (F := ⟨pool, fl, th, su, ifs, flds, mths⟩) K11.out
    obtain ⟨d0, d1, d2, d3, d4, d5, d6⟩ := cells7 Y11.out
    simp only [] at c0 c1 c2 c3 c4 c5 c6
    by_cases hb9 : 65536 < eb.size + 9
    · have hzb : decide ((65536 : Int) < (eb.size : Int) + 9) = true := decide_eq_true (by omega)
      have hge := G6.out hb9
      subst hge
      clear G6 G7 gm kn
      go_wp2
      go_ret
      exact ⟨by first | rfl | simp, B11⟩
    have hzb : decide ((65536 : Int) < (eb.size : Int) + 9) = false := decide_eq_false (by omega)
    obtain ⟨hge, hgl⟩ := G7.out (by omega)
    subst hge
    clear G6 G7
    have hp1 : (0 : Int) < (pool.length : Int) + 1 := by omega
    have hp2 : (pool.length : Int) + 1 ≤ 9223372036854775807 := by omega
    have kpk := Lib.hid (fun W => pick3_any link ((pool.length : Int) + 1) W hlk hp1 hp2)
    go_wp2_with fail
    refine (kpk.out _).mono ?_
    rintro e w12 ⟨⟨i, rfl, hi0, hi1⟩, rfl⟩
    have hi64 : In64 i := by unfold In64; omega
    go_wp2_with fail
    refine (kn.out i hi64 _ B11).mono ?_
    rintro e w12 ⟨rfl, hb12⟩
    have B12 := below_then B11 z11 hb12
    have V12 := below_then V11 zv11 hb12
    have Y12 := Lib.hid (blk_below Y11.out hb12)
    have z12 := B12.size
    have zv12 := V12.size
    clear K11 Y11 B11 V11 hb12 kn z11 zv11 c0 c1 c2 c3 c4 c5 c6 d0 d1 d2 d3 d4 d5 d6
    obtain ⟨d0, d1, d2, d3, d4, d5, d6⟩ := cells7 Y12.out
    go_wp2_with fail
    refine (gm.out i hi64 _ V12).mono ?_
    rintro e w13 ⟨rfl, hb13⟩
    have B13 := below_then B12 z12 hb13
    clear Y12 B12 V12 hb13 gm z12 zv12 d0 d1 d2 d3 d4 d5 d6
    generalize Sp.cnameS pool i = N at *
    obtain ⟨na, nb⟩ := N
    simp only []
    have hgz : (gb.size : Int) = (eb.size : Int) + 9 := by omega
    have hgw : IntKind.i64.wrap ((eb.size : Int) + 9) = (eb.size : Int) + 9 := IntWalk.i64_in _ (by omega)
    go_wp2
    go_ret
    exact ⟨by first | rfl | simp, B13⟩

theorem walkFileGrows (q : Sp.At) (F : FlP) (n link : Int) (w : World) (h : FlIn w q F) (h1 : -9223372036854775808 ≤ n) (h2 : n ≤ 9223372036854775807) (h3 : -9223372036854775808 ≤ link) (h4 : link ≤ 9223372036854775807) (hT : Tabs w) (hb : F.bulk ≤ 1048576) :
    Calls Tryd.prog 10 #[.agg (flC q F), .int .i64 n, .int .i64 link] w fun e w' => e = .returned (.bool true) ∧ Below w.heap.size w w' :=
  fileGrows_any q F n link w h.rd (h.ok hb) hT (FlP.sizes hb) ⟨h1, h2⟩ ⟨h3, h4⟩
end Go.Proofs.YthpfknlgfkecpaaDoor
end
