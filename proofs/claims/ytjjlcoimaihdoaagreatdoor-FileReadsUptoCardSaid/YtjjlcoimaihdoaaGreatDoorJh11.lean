/-
  Texts of the proof, joined.
-/
import Derived.Test.YtjjlcoimaihdoaaGreatDoorJh6
import Derived.Test.YtjjlcoimaihdoaaGreatDoorJh10
import Derived.Test.YtjjlcoimaihdoaaGreatDoorJh7
import Derived.Test.YtjjlcoimaihdoaaGreatDoorJh5
import Derived.Deep.RegionHeld3
import Derived.Deep.RegionWith
import Derived.Deep.CutRange
import Derived.Deep.DeepCutAuto
import Derived.Test.YtjjlcoimaihdoaaGreatDoorJh4
set_option linter.unusedVariables false
set_option linter.unusedSimpArgs false
namespace Go.Proofs.YtjjlcoimaihdoaaGreatDoor
open Go.RowKit Go.Lib
theorem wpList_append_run {P : Program} (w : World) {ops : Array Oper} {rest : List Oper} {o : Oper} {a : Act} {Q : Exit → Act → World → Prop} (hgd : o.guard = none) (s x : Operand) (t u : TypeId)
  (ho : o.op = .call { callee := .builtin .append, args := #[s, x], argTypes := #[t, u] }) (v y : Value) (hs : a.eval s = v) (hx : a.eval x = y) (v' : Value) (w' : World)
  (hr : (Builtin.append_ #[t, u] o.type #[v, y]).run P w = .ok v' w') (h : ∀ v2 w2, Hid (v' = v2 ∧ w' = w2) → wpList P ops Q rest (a.put o.dst v2) w2) : wpList P ops Q (o :: rest) a w := by
 refine wpList_plain hgd fun K hK => ?_
 unfold Oper.wp execOp
 simp only [ho, resolve, invoke, builtin, Sem.run_bind, Sem.run_pure, Result.andThen_ok, List.map_toArray, List.map_cons, List.map_nil, hs, hx, hr]
 exact hK _ _ (h v' w' (Lib.hid ⟨rfl, rfl⟩))
theorem rowT_back {P : Program} (w : World) (src dst : TypeId) {B : Nat} {v : Value} {xs : List Int} (hs : P.underlying src = some (.slice 5)) (he : P.underlying 5 = some (.int .u8)) (hd : P.underlying dst = some .string) (h : RowT w B v xs.length (numc xs)) :
  (convert src dst v).run P w = .ok (.string (Go.strOfNums xs)) w := by
 have hc := h
 obtain ⟨_, g, cap, cur, fz, rfl, _⟩ := h
 refine run_convert_bytes_arg w src 5 hs he g 0 xs.length cap xs rfl (fun i hi => ?_) dst hd
 have := hc.cells (g := g) rfl i (.int .u8 xs[i]) (by unfold numc; rw [List.getElem?_map, List.getElem?_eq_getElem hi]; rfl)
 rw [Addr.add_mid] at this
 rw [List.getD_eq_getElem?_getD, List.getElem?_eq_getElem hi]
 exact this
theorem Eb.strB {w W : World} {X : Array Value} {v : Value} {xs : List Int} (h : Eb w X W v xs) (s : ByteArray) (l : List Int) (hs : Sp.nums s = l) (hlen : xs.length + l.length ≤ 1000000000) {tb : Nat} {C : Array Value} {T : TypeId} (hT : T ≠ 5) (hb : W.heap[tb]? = some (.cells C T (0, 0)))
  {S : World → Prop} (hS : ∀ wa : World, wa.heap[tb]? = some (.cells C T (0, 0)) → S wa) {ty : TypeId} :
  ∃ v' W', (Builtin.append_ #[33, 9] ty #[v, .string s]).run Tryz.prog W = .ok v' W' ∧ Eb w X W' v' (xs ++ l) ∧ W'.heap[tb]? = some (.cells C T (0, 0)) ∧ S W' ∧ (∀ {tb : Nat} {C : Array Value} {T : TypeId}, T ≠ 5 → W.heap[tb]? = some (.cells C T (0, 0)) → W'.heap[tb]? = some (.cells C T (0, 0))) := by
 obtain ⟨v', W', h1, h2, h3⟩ := h.str s l hs hlen (ty := ty)
 exact ⟨v', W', h1, h2, h3 hT hb, hS _ (h3 hT hb), h3⟩
namespace Sp
theorem by_putL (n : Int) : ∀ m, By (putL n m)
 | 0 => by intro x hx; cases hx
 | m + 1 => by
  intro x hx
  rcases List.mem_cons.1 hx with rfl | hx
  ·constructor <;> omega
  ·exact by_putL n m x hx
theorem by_putsL : ∀ l, By (putsL l)
 | [] => by intro x hx; cases hx
 | n :: l => by
  intro x hx
  rcases List.mem_append.1 hx with hx | hx
  ·exact by_putL n 2 x hx
  ·exact by_putsL l x hx
theorem nums_app (a b : ByteArray) : nums (a ++ b) = nums a ++ nums b := by
 unfold nums
 simp [ByteArray.data_append]
theorem nums_putL (n : Int) (m : Nat) : nums (Go.strOfNums (putL n m)) = putL n m := str_nums _ (by_putL n m)
theorem nums_putsL (l : List Int) : nums (Go.strOfNums (putsL l)) = putsL l := str_nums _ (by_putsL l)
theorem top_byte (n : Int) (j : Nat) (hj : j < 8) : n * 2 ^ (8 * j) % 18446744073709551616 / 72057594037927936 = n / 2 ^ (8 * (7 - j)) % 256 := by
 rcases (show j = 0 ∨ j = 1 ∨ j = 2 ∨ j = 3 ∨ j = 4 ∨ j = 5 ∨ j = 6 ∨ j = 7 by omega) with rfl | rfl | rfl | rfl | rfl | rfl | rfl | rfl <;> simp <;> omega
end Sp
set_option maxHeartbeats 40000000 in
set_option maxRecDepth 100000 in
theorem refFbytes_any (q : Sp.At) (F : FlP) (w : World) (hr : RdF w q F) (hF : FlOk F) (hp : Sp.partsS F.fl = 0) (hlen : (Sp.bytesS F.fl).length ≤ 900000000) :
  Calls Tryz.prog 95 #[.agg (flC q F)] w fun e w' => e = .returned (.string (Go.strOfNums (Sp.bytesS F.fl))) ∧ Below w.heap.size w w' := by
 have HR := Lib.hid (Sp.rng_of hp)
 have HE := Lib.hid (show Sp.bytesS F.fl = _ by rw [Sp.bytesS])
 have KE := Lib.hid (fun (c : Sp.Cn) (hc : c ∈ F.pool) W => refEncode_any c.text W (hF.texts c hc))
 have hK := Lib.hid (blk_new w (.cells (flC q F) 26))
 have hB := (Below.refl w.heap.size w).alloc (Nat.le_refl _) (.cells (flC q F) 26)
 have HP := Lib.hid hr.pool.2
 have HX := Lib.hid hr.fields.1.2
 have HY := Lib.hid hr.methods.1.2
 have HH := Lib.hid hr.methods.2
 have HI := Lib.hid hr.ifaces.2
 have hl1 := hr.pool.1
 have hl2 := hr.ifaces.1
 have hl3 := hr.fields.1.1
 have hl4 := hr.methods.1.1
 have hlen1 := hlen
 generalize Sp.bytesS F.fl = R at HE ⊢ hlen1
 have HE0 := HE.out
 clear hr hF hp hlen HE
 obtain ⟨pool, fl, th, su, ifs, flds, mths⟩ := F
 obtain ⟨qA, qc, qI, qd, qX, qe, qY, qg⟩ := q
 have hfl : flC ⟨qA, qc, qI, qd, qX, qe, qY, qg⟩ ⟨pool, fl, th, su, ifs, flds, mths⟩ = #[.slice qA pool.length qc, .int .i64 fl, .int .i64 th, .int .i64 su, .slice qI ifs.length qd, .slice qX flds.length qe, .slice qY mths.length qg] := rfl
 rw [hfl] at hK hB ⊢
 clear hfl
 unfold FlP.fl at HE0 HR
 simp only [] at HE0 HR KE HP HX HY HH HI hl1 hl2 hl3 hl4
 have hmF : (mths.map (·.1)).flatMap Sp.methodB = mths.flatMap (fun m => Sp.methodB m.1) := by rw [List.flatMap_map]
 have hfF : (flds.map (·.1)).flatMap Sp.fieldB = flds.flatMap (fun m => Sp.fieldB m.1) := by rw [List.flatMap_map]
 rw [hmF, hfF, List.length_map, List.length_map] at HE0
 clear hmF hfF
 have hrp := HR.out.npool
 have hrf := HR.out.nfields
 have hrm := HR.out.nmethods
 have hri := HR.out.nifs
 simp only [List.length_map] at hrp hrf hrm hri
 have HE1 := Lib.hid HE0
 have hL := Lib.hid hlen1
 clear HE0 hlen1
 have c0 := (blk_cell hK.out 0 _ rfl).1
 have hp0 : (0 : Int) ≤ (pool.length : Int) := by omega
 have hp1 : (pool.length : Int) ≤ 65535 := by omega
 have kt := Lib.hid (fun W => two_any (pool.length : Int) hp0 hp1 W)
 go_enter Tryz.func95, Tryz.ntmps95
 go_wp2_with fail
 refine (kt.out _).mono ?_
 rintro e w1 ⟨rfl, hb1⟩
 have hB1 := below_then hB hB.size hb1
 have hK1 := Lib.hid (blk_below hK.out hb1)
 have hz1 := hB1.size
 have hlt1 := blk_lt hK1.out
 clear hK hB hb1 kt c0
 have hcv := Lib.run_convert_string_bytes (P := Tryz.prog) w1 9 33 5 (⟨#[67, 82, 85, 88]⟩ ++ Go.strOfNums (Sp.putsL [(pool.length : Int)])) Tryz.underlying9 Tryz.underlying33 Tryz.underlying5
 have hs6 : (⟨#[67, 82, 85, 88]⟩ ++ Go.strOfNums (Sp.putsL [(pool.length : Int)]) : ByteArray).size = 6 := by
  rw [ByteArray.size_append, Go.strOfNums_size, Sp.putsL_length]; rfl
 have hn6 : Sp.nums (⟨#[67, 82, 85, 88]⟩ ++ Go.strOfNums (Sp.putsL [(pool.length : Int)])) = [67, 82, 85, 88] ++ Sp.putsL [(pool.length : Int)] := by
  rw [Sp.nums_app, Sp.nums_putsL]; rfl
 have hT0 := rowT_conv w1 (⟨#[67, 82, 85, 88]⟩ ++ Go.strOfNums (Sp.putsL [(pool.length : Int)])) (by omega) (w.heap.size + 1) (by omega)
 have hs4 : (⟨#[67, 82, 85, 88]⟩ ++ Go.strOfNums (Sp.putsL [(pool.length : Int)]) : ByteArray).size = 4 + (Go.strOfNums (Sp.putsL [(pool.length : Int)])).size := by rw [ByteArray.size_append]; rfl
 rw [hs4] at hT0
 have hEb := Lib.hid (show Eb w #[.slice qA pool.length qc, .int .i64 fl, .int .i64 th, .int .i64 su, .slice qI ifs.length qd, .slice qX flds.length qe, .slice qY mths.length qg] (bytesWorld w1 5 (⟨#[67, 82, 85, 88]⟩ ++ Go.strOfNums (Sp.putsL [(pool.length : Int)]))) (.slice (some ⟨w1.heap.size, 0, none⟩) (4 + (Go.strOfNums (Sp.putsL [(pool.length : Int)])).size) (grownCap w1 (4 + (Go.strOfNums (Sp.putsL [(pool.length : Int)])).size) 0 5)) ([67, 82, 85, 88] ++ Sp.putsL [(pool.length : Int)]) from by
  refine ⟨?_, below_then hB1 hz1 (below_conv w1 _ _ (Nat.le_refl _)), blk_below hK1.out (below_conv w1 _ _ (Nat.le_refl _))⟩
  rw [← hn6, ← strCells_numc, nums_length, hs4]
  exact hT0)
 clear hs6 hn6 hT0 hs4 hB1 hK1
 go_upto_region 2 with fail
 clear hcv
 generalize Value.slice (some ⟨w1.heap.size, 0, none⟩) (4 + (Go.strOfNums (Sp.putsL [(pool.length : Int)])).size) (grownCap w1 (4 + (Go.strOfNums (Sp.putsL [(pool.length : Int)])).size) 0 5) = v0 at *
 generalize bytesWorld w1 5 (⟨#[67, 82, 85, 88]⟩ ++ Go.strOfNums (Sp.putsL [(pool.length : Int)])) = W0 at *
 clear hz1 hlt1
 have HX0 := Lib.hid (show ([67, 82, 85, 88] ++ Sp.putsL [(pool.length : Int)]) ++ (pool.drop 0).flatMap Sp.constB = [67, 82, 85, 88] ++ Sp.putsL [(pool.length : Int)] ++ pool.flatMap Sp.constB from rfl)
 have hRl := hL.out
 rw [HE1.out] at hRl
 simp only [List.length_append] at hRl
 have hP1l := Lib.hid (show ([67, 82, 85, 88] ++ Sp.putsL [(pool.length : Int)] ++ pool.flatMap Sp.constB).length ≤ 900000000 by simp only [List.length_append]; omega)
 clear hRl
 obtain ⟨c0, c1, c2, c3, c4, c5, c6⟩ := flC_box (q := ⟨qA, qc, qI, qd, qX, qe, qY, qg⟩) (F := ⟨pool, fl, th, su, ifs, flds, mths⟩) hEb.out.box
 simp only [] at c0 c1 c2 c3 c4 c5 c6
 go_wp2
 clear c0 c1 c2 c3 c4 c5 c6
 go_loopw [3, 4] (fun v3 v4 wr => ∃ (k : Nat) (xs : List Int), v4 = .int .i64 k ∧ k ≤ pool.length ∧ Hid (Eb w #[.slice qA pool.length qc, .int .i64 fl, .int .i64 th, .int .i64 su, .slice qI ifs.length qd, .slice qX flds.length qe, .slice qY mths.length qg] wr v3 xs) ∧ Hid (xs ++ (pool.drop k).flatMap Sp.constB = [67, 82, 85, 88] ++ Sp.putsL [(pool.length : Int)] ++ pool.flatMap Sp.constB)) (fun _ v4 _ => pool.length - (RowKit.intOf v4).toNat)
 case atStart => exact ⟨0, _, by go_num, Nat.zero_le _, hEb, HX0⟩
 case round =>
  clear hEb HX0
  obtain ⟨k, xs, rfl, hk, hE, hx⟩ := hrel
  obtain ⟨c0, c1, c2, c3, c4, c5, c6⟩ := flC_box (q := ⟨qA, qc, qI, qd, qX, qe, qY, qg⟩) (F := ⟨pool, fl, th, su, ifs, flds, mths⟩) hE.out.box
  simp only [] at c0 c1 c2 c3 c4 c5 c6
  have hlb := hE.out.lt
  by_cases hlt : k < pool.length
  ·obtain ⟨b, o, rfl, hrg⟩ := HP.out (by omega)
   obtain ⟨d0, d1, d2, d3, d4, d5⟩ := cn_cells hrg hlt
   have D0 := cell_below hE.out.bel d0
   have D1 := cell_below hE.out.bel d1
   have D2 := cell_below hE.out.bel d2
   have D3 := cell_below hE.out.bel d3
   have D4 := cell_below hE.out.bel d4
   have D5 := cell_below hE.out.bel d5
   have hzk : (k : Int) < (pool.length : Int) := by omega
   have hrc := HR.out.pool _ (List.getElem_mem hlt)
   have ke := KE.out _ (List.getElem_mem hlt)
   have hlx := Lib.hid (show xs.length + (Sp.constB pool[k]).length ≤ 900000000 by
    have h1 := congrArg List.length hx.out
    have h2 := hP1l.out
    rw [← h1, List.length_append, drop_flat _ _ _ hlt, List.length_append] at h2
    omega)
   have hx1 := Lib.hid (show (xs ++ Sp.constB pool[k]) ++ (pool.drop (k + 1)).flatMap Sp.constB = _ by rw [List.append_assoc, ← drop_flat _ _ _ hlt, hx.out])
   clear hx hrg d0 d1 d2 d3 d4 d5
   generalize pool[k] = c at *
   obtain ⟨ct, cs, cn, ca, cb, cc⟩ := c
   simp only [] at D0 D1 D2 D3 D4 D5 hrc ke
   obtain ⟨⟨ht1, ht7⟩, hra0, hrb0⟩ := hrc
   have ht0 : (0 : Int) ≤ ct := by omega
   have ht255 : ct ≤ 255 := by omega
   have hT6 := Lib.hid (blk_new wr (.cells #[.int .i64 ct, .string cs, .int .i64 cn, .int .i64 ca, .int .i64 cb, .int .i64 cc] 145))
   have hE6 := Lib.hid (hE.out.alloc (.cells #[.int .i64 ct, .string cs, .int .i64 cn, .int .i64 ca, .int .i64 cb, .int .i64 cc] 145))
   clear hE
   have hE := hE6
   clear hE6
   have hcB := Lib.hid (show Sp.constB ⟨ct, cs, cn, ca, cb, cc⟩ = _ by rw [Sp.constB])
   generalize Sp.constB ⟨ct, cs, cn, ca, cb, cc⟩ = CBL at *
   simp only [] at hcB
   go_upto_region 6 with fail
   generalize wr.alloc (.cells #[.int .i64 ct, .string cs, .int .i64 cn, .int .i64 ca, .int .i64 cb, .int .i64 cc] 145) = W6 at *
   generalize wr.heap.size = tb at *
   clear c0 c1 c2 c3 c4 c5 c6 D0 D1 D2 D3 D4 D5
   have d0 := (blk_cell hT6.out 0 (.int .i64 ct) rfl).1
   have hl0 : xs.length ≤ 900000000 := by have := hlx.out; omega
   obtain ⟨va, wa, hra, hEa, hTa⟩ := hE.out.byte ct (by omega) (ty := 33)
   have hTt := Lib.hid (hTa (T := 145) (by decide) hT6.out)
   have hEt := Lib.hid hEa
   clear hTa hEa
   go_wp2_with (at_builtin; refine wpList_append_run _ rfl _ _ _ _ rfl _ _ rfl rfl va wa hra ?_)
   intro v2 w2 hvw
   obtain ⟨rfl, rfl⟩ := hvw.out
   clear hvw
   clear hra d0 hE hT6
   have hE := hEt
   have hT := hTt
   clear hEt hTt
   rw [← putL_one ct ht0 ht255] at hE
   have hts : ct = 1 ∨ ct = 2 ∨ (ct = 3 ∨ ct = 4 ∨ ct = 7) ∨ (ct = 5 ∨ ct = 6) := by omega
   clear ht0 ht255 ht1 ht7
   rcases hts with rfl | rfl | hts | hts
   ·have hcB1 := hcB.out
    rw [if_pos rfl] at hcB1
    subst hcB1
    clear hcB hra0 hrb0
    have d1 := (blk_cell hT.out 1 (.string cs) rfl).1
    have d0 := (blk_cell hT.out 0 (.int .i64 1) rfl).1
    have hes := encS_size cs
    generalize Sp.encS cs = ee at *
    obtain ⟨es, er⟩ := ee
    simp only [] at ke hes hx1 hlx
    have he0 : (0 : Int) ≤ (es.size : Int) := by omega
    have he1 : (es.size : Int) ≤ 65535 := by omega
    have kt := Lib.hid (fun W => two_any (es.size : Int) he0 he1 W)
    have ke' := Lib.hid ke
    clear ke
    go_wp2_with fail
    refine (ke'.out _).mono ?_
    rintro e w4 ⟨rfl, hb4⟩
    have hE4 := Lib.hid (hE.out.below hb4)
    clear hb4 ke' hE hT d0 d1
    go_wp2_with fail
    refine (kt.out _).mono ?_
    rintro e w5 ⟨rfl, hb5⟩
    have hE5 := Lib.hid (hE4.out.below hb5)
    clear hb5 kt hE4
    obtain ⟨vb, wb, hrb, hEb, _⟩ := hE5.out.str (Go.strOfNums (Sp.putsL [(es.size : Int)]) ++ es) (Sp.putsL [(es.size : Int)] ++ Sp.nums es) (by rw [Sp.nums_app, Sp.nums_putsL]) (by have := hlx.out; simp only [List.length_append, Sp.putL_length, Sp.putsL_length, nums_length, List.length_cons, List.length_nil] at this ⊢; omega) (ty := 33)
    have hcc : ¬ (9223372036854775807 : Int) < ((Go.strOfNums (Sp.putsL [(es.size : Int)])).size : Int) + (es.size : Int) := by rw [Go.strOfNums_size, Sp.putsL_length]; simp only [List.length_cons, List.length_nil]; omega
    have hEc := Lib.hid (show Eb w #[.slice (some ⟨b, o, none⟩) pool.length qc, .int .i64 fl, .int .i64 th, .int .i64 su, .slice qI ifs.length qd, .slice qX flds.length qe, .slice qY mths.length qg] wb vb (xs ++ (Sp.putL 1 1 ++ (Sp.putsL [(es.size : Int)] ++ Sp.nums es))) by rw [← List.append_assoc]; exact hEb)
    clear hEb hE5
    go_wp2_with (at_builtin; refine wpList_append_run _ rfl _ _ _ _ rfl _ _ rfl rfl vb wb hrb ?_)
    intro v2 w2 hvw
    obtain ⟨rfl, rfl⟩ := hvw.out
    clear hvw
    clear hrb
    go_wp2
    go_roundw
    case rel => exact ⟨k + 1, _, by go_num, by omega, hEc, hx1⟩
    case measure => simp [RowKit.intOf]; omega
   ·have hcB1 := hcB.out
    rw [if_neg (by decide), if_pos rfl] at hcB1
    subst hcB1
    clear hcB hra0 hrb0 ke
    have d2 := (blk_cell hT.out 2 (.int .i64 cn) rfl).1
    have d0 := (blk_cell hT.out 0 (.int .i64 2) rfl).1
    have hlx2 := Lib.hid (show xs.length ≤ 900000000 - 9 by have := hlx.out; simp only [List.length_append, Sp.putL_length] at this; omega)
    clear hlx
    have hy0 := Lib.hid (show (xs ++ Sp.putL 2 1) ++ Sp.putL cn (8 - 0) = xs ++ (Sp.putL 2 1 ++ Sp.putL cn 8) by rw [List.append_assoc])
    have hln2 : (xs ++ Sp.putL 2 1).length = xs.length + 1 := by rw [List.length_append, Sp.putL_length]
    generalize xs ++ Sp.putL 2 1 = xs2 at *
    go_wp2
    clear d0 d2
    go_loopw [3, 8, 9] (fun v3 v8 v9 wq => ∃ (j : Nat) (ys : List Int), v9 = .int .i64 j ∧ v8 = .int .u64 (cn * 2 ^ (8 * j) % 18446744073709551616) ∧ j ≤ 8 ∧ ys.length = xs2.length + j ∧ Hid (Eb w #[.slice (some ⟨b, o, none⟩) pool.length qc, .int .i64 fl, .int .i64 th, .int .i64 su, .slice qI ifs.length qd, .slice qX flds.length qe, .slice qY mths.length qg] wq v3 ys) ∧ Hid (ys ++ Sp.putL cn (8 - j) = xs ++ (Sp.putL 2 1 ++ Sp.putL cn 8))) (fun _ _ v9 _ => 8 - (RowKit.intOf v9).toNat)
    case atStart => exact ⟨0, _, by go_num, by (first | (simp; done) | (rw [IntKind.wrap_u64]; simp)), by omega, by omega, hE, hy0⟩
    case round =>
     clear hE hy0 hT
     obtain ⟨j, ys, rfl, rfl, hj, hyl, hE, hy⟩ := hrel
     by_cases hj8 : j < 8
     ·have hzj : (j : Int) < 8 := by omega
      have htop := Sp.top_byte cn j hj8
      have hy1 := Lib.hid (show (ys ++ [cn * 2 ^ (8 * j) % 18446744073709551616 / 72057594037927936]) ++ Sp.putL cn (8 - (j + 1)) = xs ++ (Sp.putL 2 1 ++ Sp.putL cn 8) by
       rw [← hy.out, htop, show 8 - j = (7 - j) + 1 by omega, Sp.putL, show 8 - (j + 1) = 7 - j by omega, List.append_assoc]
       rfl)
      have hU0 : 0 ≤ cn * 2 ^ (8 * j) % 18446744073709551616 := Int.emod_nonneg _ (by decide)
      have hU1 : cn * 2 ^ (8 * j) % 18446744073709551616 < 18446744073709551616 := Int.emod_lt_of_pos _ (by decide)
      have hU2 : cn * 2 ^ (8 * (j + 1)) % 18446744073709551616 = (cn * 2 ^ (8 * j) % 18446744073709551616) * 256 % 18446744073709551616 := by
       rw [show 8 * (j + 1) = 8 * j + 8 by omega, Int.pow_add, ← Int.mul_assoc]
       omega
      clear htop hy
      generalize cn * 2 ^ (8 * j) % 18446744073709551616 = U at *
      have hb0 : 0 ≤ U / 72057594037927936 := by omega
      have hb1 : U / 72057594037927936 ≤ 255 := by omega
      obtain ⟨vb, wb, hrb, hEb, _⟩ := hE.out.byte (U / 72057594037927936) (by have := hlx2.out; omega) (ty := 33)
      have hEc := Lib.hid hEb
      clear hEb hE
      go_wp2_with (at_builtin; refine wpList_append_run _ rfl _ _ _ _ rfl _ _ rfl rfl vb wb hrb ?_)
      intro v2 w2 hvw
      obtain ⟨rfl, rfl⟩ := hvw.out
      clear hvw
      clear hrb
      go_wp2
      go_roundw
      case rel => exact ⟨j + 1, _, by go_num, by rw [hU2, IntKind.wrap_u64], by omega, by simp; omega, hEc, hy1⟩
      case measure => simp [RowKit.intOf]; omega
     ·obtain rfl : j = 8 := by omega
      have hzj : ¬ ((8 : Nat) : Int) < 8 := by omega
      have hys : ys = xs ++ (Sp.putL 2 1 ++ Sp.putL cn 8) := by have := hy.out; simpa [Sp.putL] using this
      subst hys
      clear hy
      go_wp2
      go_roundw
      case rel => exact ⟨k + 1, _, by go_num, by omega, hE, hx1⟩
      case measure => simp [RowKit.intOf]; omega
   ·obtain ⟨ha0, ha1⟩ := hra0 (by omega) (by omega)
    have hcB1 := hcB.out
    rw [if_neg (by omega), if_neg (by omega), if_neg (by omega)] at hcB1
    subst hcB1
    clear hcB hra0 hrb0 ke
    have kt := Lib.hid (fun W => two_any ca ha0 ha1 W)
    have d3 := (blk_cell hT.out 3 (.int .i64 ca) rfl).1
    rcases hts with rfl | rfl | rfl
    all_goals
     have d0 := (blk_cell hT.out 0 (.int .i64 _) rfl).1
     go_wp2_with fail
     refine (kt.out _).mono ?_
     rintro e w5 ⟨rfl, hb5⟩
     have hE5 := Lib.hid (hE.out.below hb5)
     clear hb5 kt hE d0 d3
     obtain ⟨vb, wb, hrb, hEb, _⟩ := hE5.out.str (Go.strOfNums (Sp.putsL [ca])) (Sp.putsL [ca]) (Sp.nums_putsL _) (by have := hlx.out; simp only [List.length_append, Sp.putL_length, Sp.putsL_length, List.length_cons, List.length_nil] at this ⊢; omega) (ty := 33)
     rw [List.append_assoc] at hEb
     have hEc := Lib.hid hEb
     clear hEb hE5
     go_wp2_with (at_builtin; refine wpList_append_run _ rfl _ _ _ _ rfl _ _ rfl rfl vb wb hrb ?_)
     intro v2 w2 hvw
     obtain ⟨rfl, rfl⟩ := hvw.out
     clear hvw
     clear hrb
     go_wp2
     go_roundw
     case rel => exact ⟨k + 1, _, by go_num, by omega, hEc, hx1⟩
     case measure => simp [RowKit.intOf]; omega
   ·obtain ⟨ha0, ha1⟩ := hra0 (by omega) (by omega)
    obtain ⟨⟨hb0, hb1⟩, hc0, hc1⟩ := hrb0 (by omega)
    have hcB1 := hcB.out
    rw [if_neg (by omega), if_neg (by omega), if_pos hts] at hcB1
    subst hcB1
    clear hcB hra0 hrb0 ke
    have d3 := (blk_cell hT.out 3 (.int .i64 ca) rfl).1
    have d4 := (blk_cell hT.out 4 (.int .i64 cb) rfl).1
    have d5 := (blk_cell hT.out 5 (.int .i64 cc) rfl).1
    rcases hts with rfl | rfl
    all_goals
     have d0 := (blk_cell hT.out 0 (.int .i64 _) rfl).1
     have hmk := Lib.hid (show ∀ w', Below wa.heap.size wa w' → (w'.cell? ⟨tb, 3, none⟩ = some (.int .i64 ca) ∧ w'.cell? ⟨tb, 4, none⟩ = some (.int .i64 cb) ∧ w'.cell? ⟨tb, 5, none⟩ = some (.int .i64 cc)) from fun w' h => ⟨cell_below h d3, cell_below h d4, cell_below h d5⟩)
     have hBd := Lib.hid (Below.refl wa.heap.size wa).drew
     have k0 := Lib.hid (fun W (h : Below wa.heap.size wa W) => (two_any (ca) ha0 ha1 W).mono (fun e W' q => And.intro q.1 (below_then h h.size q.2)))
     have k1 := Lib.hid (fun W (h : Below wa.heap.size wa W) => (two_any (cb) hb0 hb1 W).mono (fun e W' q => And.intro q.1 (below_then h h.size q.2)))
     have k2 := Lib.hid (fun W (h : Below wa.heap.size wa W) => (two_any (cc) hc0 hc1 W).mono (fun e W' q => And.intro q.1 (below_then h h.size q.2)))
     have hcell := Lib.hid (show ∀ (z : Value) (wa : World), wa.heap[tb]? = some (.cells #[z, .string cs, .int .i64 cn, .int .i64 ca, .int .i64 cb, .int .i64 cc] 145 (0, 0)) → (wa.cell? ⟨tb, 3, none⟩ = some (.int .i64 ca) ∧ wa.cell? ⟨tb, 4, none⟩ = some (.int .i64 cb) ∧ wa.cell? ⟨tb, 5, none⟩ = some (.int .i64 cc)) from fun z wa h => ⟨(blk_cell h 3 (.int .i64 ca) rfl).1, (blk_cell h 4 (.int .i64 cb) rfl).1, (blk_cell h 5 (.int .i64 cc) rfl).1⟩)
     have hneT : (145 : TypeId) ≠ 5 := by decide
     have hap := Lib.hid (fun W (h : Below wa.heap.size wa W) => (hE.out.below h).strB (Go.strOfNums (Sp.putsL [ca]) ++ Go.strOfNums (Sp.putsL [cb]) ++ Go.strOfNums (Sp.putsL [cc])) (Sp.putsL [ca, cb, cc]) (by simp only [Sp.nums_app, Sp.nums_putsL]; simp only [Sp.putsL, List.append_nil, List.append_assoc]) (by have := hlx.out; simp only [List.length_append, Sp.putL_length, Sp.putsL_length, List.length_cons, List.length_nil] at this ⊢; omega) hneT (blk_below hT.out h) (S := fun w' => w'.cell? ⟨tb, 3, none⟩ = some (.int .i64 ca) ∧ w'.cell? ⟨tb, 4, none⟩ = some (.int .i64 cb) ∧ w'.cell? ⟨tb, 5, none⟩ = some (.int .i64 cc)) (hcell.out _) (ty := 33))
     have zs0 : (Go.strOfNums (Sp.putsL [(ca)])).size = 2 := by rw [Go.strOfNums_size, Sp.putsL_length]; rfl
     have zs1 : (Go.strOfNums (Sp.putsL [(cb)])).size = 2 := by rw [Go.strOfNums_size, Sp.putsL_length]; rfl
     have zs2 : (Go.strOfNums (Sp.putsL [(cc)])).size = 2 := by rw [Go.strOfNums_size, Sp.putsL_length]; rfl
     go_wp2_with fail
     go_region_held3 (fun w' => w'.cell? ⟨tb, 3, none⟩ = some (.int .i64 ca) ∧ w'.cell? ⟨tb, 4, none⟩ = some (.int .i64 cb) ∧ w'.cell? ⟨tb, 5, none⟩ = some (.int .i64 cc)) (first | with_reducible exact hmk.out _ hBd.out | with_reducible exact hmk.out _ (by with_reducible assumption) | with_reducible exact hS9) (first | (go_at_call 178; (first | with_reducible refine (k0.out _ hBd.out).mono ?_ | with_reducible refine (k0.out _ (by with_reducible assumption)).mono ?_); rintro e wz ⟨rfl, hz⟩) | (go_at_call 178; (first | with_reducible refine (k1.out _ hBd.out).mono ?_ | with_reducible refine (k1.out _ (by with_reducible assumption)).mono ?_); rintro e wz ⟨rfl, hz⟩) | (go_at_call 178; (first | with_reducible refine (k2.out _ hBd.out).mono ?_ | with_reducible refine (k2.out _ (by with_reducible assumption)).mono ?_); rintro e wz ⟨rfl, hz⟩) | (obtain ⟨va, wa, hra, hEa, hTa, hS9, hAll⟩ := hap.out _ hz; refine step_append_run _ rfl _ _ _ _ rfl _ _ rfl rfl va wa hra ?_))
     clear hmk hBd hap hra hS9 hcell hneT k0 zs0 k1 zs1 k2 zs2
     rw [List.append_assoc] at hEa
     have hEc := Lib.hid hEa
     go_wp2
     go_roundw
     case rel => exact ⟨k + 1, _, by go_num, by omega, hEc, hx1⟩
     case measure => simp [RowKit.intOf]; omega
  ·obtain rfl : k = pool.length := by omega
   have hzk : ¬ (pool.length : Int) < (pool.length : Int) := by omega
   have hxs : xs = [67, 82, 85, 88] ++ Sp.putsL [(pool.length : Int)] ++ pool.flatMap Sp.constB := by have := hx.out; rw [List.drop_length] at this; simpa using this
   rw [← hxs] at hP1l HE1
   clear hx hxs KE HP
   have hf0 := HR.out.flags.1
   have hf1 := HR.out.flags.2
   have ht0 := HR.out.this.1
   have ht1 := HR.out.this.2
   have hs0 := HR.out.super.1
   have hs1 := HR.out.super.2
   (try simp only [] at hf0 hf1 ht0 ht1 hs0 hs1)
   have hi0 : (0 : Int) ≤ (ifs.length : Int) := by omega
   have hi1 : (ifs.length : Int) ≤ 255 := by omega
   have hlx : xs.length ≤ 900000000 := by have := hP1l.out; omega
   clear c0 c1 c2 c3 c4 c5 c6
   obtain ⟨c0, c1, c2, c3, c4, c5, c6⟩ := flC_box (q := ⟨qA, qc, qI, qd, qX, qe, qY, qg⟩) (F := ⟨pool, fl, th, su, ifs, flds, mths⟩) hE.out.box
   simp only [] at c0 c1 c2 c3 c4 c5 c6
   have hmk := Lib.hid (show ∀ w', Below wr.heap.size wr w' → (w'.cell? ⟨w.heap.size, 1, none⟩ = some (.int .i64 fl) ∧ w'.cell? ⟨w.heap.size, 2, none⟩ = some (.int .i64 th) ∧ w'.cell? ⟨w.heap.size, 3, none⟩ = some (.int .i64 su) ∧ w'.cell? ⟨w.heap.size, 4, none⟩ = some (.slice qI ifs.length qd)) from fun w' h => ⟨cell_below h c1, cell_below h c2, cell_below h c3, cell_below h c4⟩)
   have hBd := Lib.hid (Below.refl wr.heap.size wr).drew
   have k0 := Lib.hid (fun W (h : Below wr.heap.size wr W) => (one_any (fl) hf0 hf1 W).mono (fun e W' q => And.intro q.1 (below_then h h.size q.2)))
   have k1 := Lib.hid (fun W (h : Below wr.heap.size wr W) => (two_any (th) ht0 ht1 W).mono (fun e W' q => And.intro q.1 (below_then h h.size q.2)))
   have k2 := Lib.hid (fun W (h : Below wr.heap.size wr W) => (two_any (su) hs0 hs1 W).mono (fun e W' q => And.intro q.1 (below_then h h.size q.2)))
   have k3 := Lib.hid (fun W (h : Below wr.heap.size wr W) => (one_any (ifs.length : Int) hi0 hi1 W).mono (fun e W' q => And.intro q.1 (below_then h h.size q.2)))
   have hcell := Lib.hid (show ∀ (wa : World), wa.heap[w.heap.size]? = some (.cells #[.slice qA pool.length qc, .int .i64 fl, .int .i64 th, .int .i64 su, .slice qI ifs.length qd, .slice qX flds.length qe, .slice qY mths.length qg] 26 (0, 0)) → (wa.cell? ⟨w.heap.size, 1, none⟩ = some (.int .i64 fl) ∧ wa.cell? ⟨w.heap.size, 2, none⟩ = some (.int .i64 th) ∧ wa.cell? ⟨w.heap.size, 3, none⟩ = some (.int .i64 su) ∧ wa.cell? ⟨w.heap.size, 4, none⟩ = some (.slice qI ifs.length qd)) from fun wa h => ⟨(blk_cell h 1 (.int .i64 fl) rfl).1, (blk_cell h 2 (.int .i64 th) rfl).1, (blk_cell h 3 (.int .i64 su) rfl).1, (blk_cell h 4 (.slice qI ifs.length qd) rfl).1⟩)
   have hneT : (26 : TypeId) ≠ 5 := by decide
   have hap := Lib.hid (fun W (h : Below wr.heap.size wr W) => (hE.out.below h).strB (Go.strOfNums (Sp.putL fl 1) ++ Go.strOfNums (Sp.putsL [th]) ++ Go.strOfNums (Sp.putsL [su]) ++ Go.strOfNums (Sp.putL (ifs.length : Int) 1)) (Sp.putL fl 1 ++ Sp.putsL [th] ++ Sp.putsL [su] ++ Sp.putL (ifs.length : Int) 1) (by simp only [Sp.nums_app, Sp.nums_putsL, Sp.nums_putL]) (by simp only [List.length_append, Sp.putL_length, Sp.putsL_length, nums_length, List.length_cons, List.length_nil]; omega) hneT (hE.out.below h).box (S := fun w' => w'.cell? ⟨w.heap.size, 1, none⟩ = some (.int .i64 fl) ∧ w'.cell? ⟨w.heap.size, 2, none⟩ = some (.int .i64 th) ∧ w'.cell? ⟨w.heap.size, 3, none⟩ = some (.int .i64 su) ∧ w'.cell? ⟨w.heap.size, 4, none⟩ = some (.slice qI ifs.length qd)) hcell.out (ty := 33))
   have zs0 : (Go.strOfNums (Sp.putL (fl) 1)).size = 1 := by rw [Go.strOfNums_size, Sp.putL_length]
   have zs1 : (Go.strOfNums (Sp.putsL [(th)])).size = 2 := by rw [Go.strOfNums_size, Sp.putsL_length]; rfl
   have zs2 : (Go.strOfNums (Sp.putsL [(su)])).size = 2 := by rw [Go.strOfNums_size, Sp.putsL_length]; rfl
   have zs3 : (Go.strOfNums (Sp.putL (ifs.length : Int) 1)).size = 1 := by rw [Go.strOfNums_size, Sp.putL_length]
   go_wp2_with fail
   go_region_held3 (fun w' => w'.cell? ⟨w.heap.size, 1, none⟩ = some (.int .i64 fl) ∧ w'.cell? ⟨w.heap.size, 2, none⟩ = some (.int .i64 th) ∧ w'.cell? ⟨w.heap.size, 3, none⟩ = some (.int .i64 su) ∧ w'.cell? ⟨w.heap.size, 4, none⟩ = some (.slice qI ifs.length qd)) (first | with_reducible exact hmk.out _ hBd.out | with_reducible exact hmk.out _ (by with_reducible assumption) | with_reducible exact hS9) (first | (go_at_call 180; (first | with_reducible refine (k0.out _ hBd.out).mono ?_ | with_reducible refine (k0.out _ (by with_reducible assumption)).mono ?_); rintro e wz ⟨rfl, hz⟩) | (go_at_call 178; (first | with_reducible refine (k1.out _ hBd.out).mono ?_ | with_reducible refine (k1.out _ (by with_reducible assumption)).mono ?_); rintro e wz ⟨rfl, hz⟩) | (go_at_call 178; (first | with_reducible refine (k2.out _ hBd.out).mono ?_ | with_reducible refine (k2.out _ (by with_reducible assumption)).mono ?_); rintro e wz ⟨rfl, hz⟩) | (go_at_call 180; (first | with_reducible refine (k3.out _ hBd.out).mono ?_ | with_reducible refine (k3.out _ (by with_reducible assumption)).mono ?_); rintro e wz ⟨rfl, hz⟩) | (obtain ⟨va, wa, hra, hEa, hTa, hS9, hAll⟩ := hap.out _ hz; refine step_append_run _ rfl _ _ _ _ rfl _ _ rfl rfl va wa hra ?_))
   clear hmk hBd hap hra hS9 hcell hneT k0 zs0 k1 zs1 k2 zs2 k3 zs3
   have HE2 := Lib.hid (show R = (xs ++ (Sp.putL fl 1 ++ Sp.putsL [th] ++ Sp.putsL [su] ++ Sp.putL (ifs.length : Int) 1)) ++ Sp.putsL ifs ++ (Sp.putL (flds.length : Int) 1 ++ flds.flatMap (fun m => Sp.fieldB m.1) ++ Sp.putL (mths.length : Int) 1 ++ mths.flatMap (fun m => Sp.methodB m.1)) by
    rw [HE1.out]; simp only [Sp.putsL, List.append_nil, List.append_assoc])
   have hE2 := Lib.hid hEa
   clear hEa HE1 hE hP1l hz hTa hAll
   generalize xs ++ (Sp.putL fl 1 ++ Sp.putsL [th] ++ Sp.putsL [su] ++ Sp.putL (ifs.length : Int) 1) = P2 at *
   clear hf0 hf1 ht0 ht1 hs0 hs1 hlx hi0 hi1 c0 c1 c2 c3 c4 c5 c6
   have hP2 := Lib.hid (show (P2 ++ Sp.putsL ifs).length ≤ 900000000 by
    have h1 := hL.out
    rw [HE2.out] at h1
    simp only [List.length_append] at h1 ⊢
    omega)
   have hx2 := Lib.hid (show P2 ++ Sp.putsL (ifs.drop 0) = P2 ++ Sp.putsL ifs from rfl)
   obtain ⟨c0, c1, c2, c3, c4, c5, c6⟩ := flC_box (q := ⟨qA, qc, qI, qd, qX, qe, qY, qg⟩) (F := ⟨pool, fl, th, su, ifs, flds, mths⟩) hE2.out.box
   simp only [] at c0 c1 c2 c3 c4 c5 c6
   go_wp2
   clear c0 c1 c2 c3 c4 c5 c6
   go_loopw [3, 10] (fun v3 v10 wq => ∃ (k : Nat) (ys : List Int), v10 = .int .i64 k ∧ k ≤ ifs.length ∧ Hid (Eb w #[.slice qA pool.length qc, .int .i64 fl, .int .i64 th, .int .i64 su, .slice qI ifs.length qd, .slice qX flds.length qe, .slice qY mths.length qg] wq v3 ys) ∧ Hid (ys ++ Sp.putsL (ifs.drop k) = P2 ++ Sp.putsL ifs)) (fun _ v10 _ => ifs.length - (RowKit.intOf v10).toNat)
   case atStart => exact ⟨0, _, by go_num, Nat.zero_le _, hE2, hx2⟩
   case round =>
    clear hE2 hx2
    obtain ⟨k, ys, rfl, hk, hE, hx⟩ := hrel
    obtain ⟨c0, c1, c2, c3, c4, c5, c6⟩ := flC_box (q := ⟨qA, qc, qI, qd, qX, qe, qY, qg⟩) (F := ⟨pool, fl, th, su, ifs, flds, mths⟩) hE.out.box
    simp only [] at c0 c1 c2 c3 c4 c5 c6
    have hlb := hE.out.lt
    have hyl : ys.length ≤ 900000000 := by
     have h1 := congrArg List.length hx.out
     have h2 := hP2.out
     simp only [List.length_append] at h1 h2
     omega
    by_cases hlt : k < ifs.length
    ·obtain ⟨b, o, rfl, hcl⟩ := HI.out (by omega)
     have hci := hcl k hlt
     have D0 := cell_below hE.out.bel hci
     have hzk : (k : Int) < (ifs.length : Int) := by omega
     have hgd : ifs.getD k 0 = ifs[k] := by rw [List.getD_eq_getElem?_getD, List.getElem?_eq_getElem hlt]; rfl
     rw [hgd] at D0
     have hri := HR.out.ifs _ (List.getElem_mem hlt)
     have hx1 := Lib.hid (show (ys ++ Sp.putsL [ifs[k]]) ++ Sp.putsL (ifs.drop (k + 1)) = P2 ++ Sp.putsL ifs by
      rw [← hx.out, List.drop_eq_getElem_cons hlt, Sp.putsL, Sp.putsL]
      simp only [Sp.putsL, List.append_nil, List.append_assoc])
     clear hcl hci hgd hx
     generalize ifs[k] = n at *
     obtain ⟨hn0, hn1⟩ := hri
     have kt := Lib.hid (fun W => two_any n hn0 hn1 W)
     go_wp2_with fail
     refine (kt.out _).mono ?_
     rintro e w5 ⟨rfl, hb5⟩
     have hE5 := Lib.hid (hE.out.below hb5)
     clear hb5 kt hE D0 c0 c1 c2 c3 c4 c5 c6
     obtain ⟨vb, wb, hrb, hEb, _⟩ := hE5.out.str (Go.strOfNums (Sp.putsL [n])) (Sp.putsL [n]) (Sp.nums_putsL _) (by simp only [List.length_append, Sp.putL_length, Sp.putsL_length, nums_length, List.length_cons, List.length_nil]; omega) (ty := 33)
     have hEc := Lib.hid hEb
     clear hEb hE5
     go_wp2_with (at_builtin; refine wpList_append_run _ rfl _ _ _ _ rfl _ _ rfl rfl vb wb hrb ?_)
     intro v2 w2 hvw
     obtain ⟨rfl, rfl⟩ := hvw.out
     clear hvw hrb
     go_wp2
     go_roundw
     case rel => exact ⟨k + 1, _, by go_num, by omega, hEc, hx1⟩
     case measure => simp [RowKit.intOf]; omega
    ·obtain rfl : k = ifs.length := by omega
     have hzk : ¬ (ifs.length : Int) < (ifs.length : Int) := by omega
     have hys : P2 ++ Sp.putsL ifs = ys := by have := hx.out; rw [List.drop_length] at this; simpa [Sp.putsL] using this.symm
     rw [hys] at HE2
     clear hx hys hP2 HI hzk hlt hk
     have hq0 : (0 : Int) ≤ (flds.length : Int) := by omega
     have hq1 : (flds.length : Int) ≤ 255 := by omega
     obtain ⟨vb, wb, hrb, hEb, _⟩ := hE.out.byte (flds.length : Int) (by omega) (ty := 33)
     rw [← putL_one (flds.length : Int) hq0 hq1] at hEb
     have hEc := Lib.hid hEb
     clear hEb
     go_wp2_with (at_builtin; refine wpList_append_run _ rfl _ _ _ _ rfl _ _ rfl rfl vb wb hrb ?_)
     intro v2 w2 hvw
     obtain ⟨rfl, rfl⟩ := hvw.out
     clear hvw hrb hE
     have HE3 := Lib.hid (show R = (ys ++ Sp.putL (flds.length : Int) 1) ++ flds.flatMap (fun m => Sp.fieldB m.1) ++ (Sp.putL (mths.length : Int) 1 ++ mths.flatMap (fun m => Sp.methodB m.1)) by rw [HE2.out]; simp only [List.append_assoc])
     clear HE2 hq0 hq1 hyl hlb c0 c1 c2 c3 c4 c5 c6
     generalize ys ++ Sp.putL (flds.length : Int) 1 = P at *
     have hP3 := Lib.hid (show (P ++ flds.flatMap (fun m => Sp.fieldB m.1)).length ≤ 900000000 by
      have h1 := hL.out
      rw [HE3.out] at h1
      simp only [List.length_append] at h1 ⊢
      omega)
     have hx3 := Lib.hid (show P ++ (flds.drop 0).flatMap (fun m => Sp.fieldB m.1) = P ++ flds.flatMap (fun m => Sp.fieldB m.1) from rfl)
     obtain ⟨c0, c1, c2, c3, c4, c5, c6⟩ := flC_box (q := ⟨qA, qc, qI, qd, qX, qe, qY, qg⟩) (F := ⟨pool, fl, th, su, ifs, flds, mths⟩) hEc.out.box
     simp only [] at c0 c1 c2 c3 c4 c5 c6
     go_wp2
     clear c0 c1 c2 c3 c4 c5 c6
     go_loopw [3, 11] (fun v3 v11 wq => ∃ (k : Nat) (ys : List Int), v11 = .int .i64 k ∧ k ≤ flds.length ∧ Hid (Eb w #[.slice qA pool.length qc, .int .i64 fl, .int .i64 th, .int .i64 su, .slice qI ifs.length qd, .slice qX flds.length qe, .slice qY mths.length qg] wq v3 ys) ∧ Hid (ys ++ (flds.drop k).flatMap (fun m => Sp.fieldB m.1) = P ++ flds.flatMap (fun m => Sp.fieldB m.1))) (fun _ v11 _ => flds.length - (RowKit.intOf v11).toNat)
     case atStart => exact ⟨0, _, by go_num, Nat.zero_le _, hEc, hx3⟩
     case round =>
      clear hEc hx3
      obtain ⟨k, ys, rfl, hk, hE, hx⟩ := hrel
      obtain ⟨c0, c1, c2, c3, c4, c5, c6⟩ := flC_box (q := ⟨qA, qc, qI, qd, qX, qe, qY, qg⟩) (F := ⟨pool, fl, th, su, ifs, flds, mths⟩) hE.out.box
      simp only [] at c0 c1 c2 c3 c4 c5 c6
      have hlb := hE.out.lt
      have hyl : ys.length ≤ 900000000 := by
       have h1 := congrArg List.length hx.out
       have h2 := hP3.out
       simp only [List.length_append] at h1 h2
       omega
      by_cases hlt : k < flds.length
      ·obtain ⟨b, o, rfl, hrg⟩ := HX.out (by omega)
       obtain ⟨d0, d1, d2, d3, d4, d5, d6⟩ := mb_cells hrg hlt
       have D0 := cell_below hE.out.bel d0
       have D1 := cell_below hE.out.bel d1
       have D2 := cell_below hE.out.bel d2
       have D3 := cell_below hE.out.bel d3
       have D4 := cell_below hE.out.bel d4
       have D5 := cell_below hE.out.bel d5
       have D6 := cell_below hE.out.bel d6
       have hzk : (k : Int) < (flds.length : Int) := by omega
       have hrc := HR.out.fields _ (List.mem_map_of_mem (f := fun m : Sp.Mp => m.1) (List.getElem_mem hlt))
       have hx1 := Lib.hid (show (ys ++ Sp.fieldB flds[k].1) ++ (flds.drop (k + 1)).flatMap (fun m => Sp.fieldB m.1) = P ++ flds.flatMap (fun m => Sp.fieldB m.1) by rw [List.append_assoc, ← drop_flat (fun m : Sp.Mp => Sp.fieldB m.1) _ _ hlt, hx.out])
       clear hx hrg d0 d1 d2 d3 d4 d5 d6
       generalize flds[k] = m at *
       obtain ⟨⟨mf, mn, md, ms, ml, mc, mh⟩, mA, mcap⟩ := m
       simp only [] at D0 D1 D2 D3 D4 D5 D6 hrc hx1
       have hT6 := Lib.hid (blk_new wr (.cells #[.int .i64 mf, .int .i64 mn, .int .i64 md, .int .i64 ms, .int .i64 ml, .string mc, .slice mA mh.length mcap] 131))
       have hE6 := Lib.hid (hE.out.alloc (.cells #[.int .i64 mf, .int .i64 mn, .int .i64 md, .int .i64 ms, .int .i64 ml, .string mc, .slice mA mh.length mcap] 131))
       clear hE
       have hE := hE6
       have hT := hT6
       clear hE6 hT6
       go_upto_region 32 with fail
       generalize wr.alloc (.cells #[.int .i64 mf, .int .i64 mn, .int .i64 md, .int .i64 ms, .int .i64 ml, .string mc, .slice mA mh.length mcap] 131) = W6 at *
       generalize wr.heap.size = tb at *
       clear c0 c1 c2 c3 c4 c5 c6 D0 D1 D2 D3 D4 D5 D6
       obtain ⟨⟨hf0, hf1⟩, ⟨hn0, hn1⟩, hd0, hd1⟩ := hrc
       (try simp only [] at hf0 hf1 hn0 hn1 hd0 hd1)
       have d0 := (blk_cell hT.out 0 (.int .i64 mf) rfl).1
       have d1 := (blk_cell hT.out 1 (.int .i64 mn) rfl).1
       have d2 := (blk_cell hT.out 2 (.int .i64 md) rfl).1
       have hmk := Lib.hid (show ∀ w', Below W6.heap.size W6 w' → (w'.cell? ⟨tb, 0, none⟩ = some (.int .i64 mf) ∧ w'.cell? ⟨tb, 1, none⟩ = some (.int .i64 mn) ∧ w'.cell? ⟨tb, 2, none⟩ = some (.int .i64 md)) from fun w' h => ⟨cell_below h d0, cell_below h d1, cell_below h d2⟩)
       have hBd := Lib.hid (Below.refl W6.heap.size W6).drew
       have k0 := Lib.hid (fun W (h : Below W6.heap.size W6 W) => (one_any (mf) hf0 hf1 W).mono (fun e W' q => And.intro q.1 (below_then h h.size q.2)))
       have k1 := Lib.hid (fun W (h : Below W6.heap.size W6 W) => (two_any (mn) hn0 hn1 W).mono (fun e W' q => And.intro q.1 (below_then h h.size q.2)))
       have k2 := Lib.hid (fun W (h : Below W6.heap.size W6 W) => (two_any (md) hd0 hd1 W).mono (fun e W' q => And.intro q.1 (below_then h h.size q.2)))
       have hcell := Lib.hid (show ∀ (wa : World), wa.heap[tb]? = some (.cells #[.int .i64 mf, .int .i64 mn, .int .i64 md, .int .i64 ms, .int .i64 ml, .string mc, .slice mA mh.length mcap] 131 (0, 0)) → (wa.cell? ⟨tb, 0, none⟩ = some (.int .i64 mf) ∧ wa.cell? ⟨tb, 1, none⟩ = some (.int .i64 mn) ∧ wa.cell? ⟨tb, 2, none⟩ = some (.int .i64 md)) from fun wa h => ⟨(blk_cell h 0 (.int .i64 mf) rfl).1, (blk_cell h 1 (.int .i64 mn) rfl).1, (blk_cell h 2 (.int .i64 md) rfl).1⟩)
       have hneT : (131 : TypeId) ≠ 5 := by decide
       have hap := Lib.hid (fun W (h : Below W6.heap.size W6 W) => (hE.out.below h).strB (Go.strOfNums (Sp.putL mf 1) ++ Go.strOfNums (Sp.putsL [mn]) ++ Go.strOfNums (Sp.putsL [md])) (Sp.putL mf 1 ++ Sp.putsL [mn] ++ Sp.putsL [md]) (by simp only [Sp.nums_app, Sp.nums_putsL, Sp.nums_putL]) (by simp only [List.length_append, Sp.putL_length, Sp.putsL_length, nums_length, List.length_cons, List.length_nil]; omega) hneT (blk_below hT.out h) (S := fun w' => w'.cell? ⟨tb, 0, none⟩ = some (.int .i64 mf) ∧ w'.cell? ⟨tb, 1, none⟩ = some (.int .i64 mn) ∧ w'.cell? ⟨tb, 2, none⟩ = some (.int .i64 md)) hcell.out (ty := 33))
       have zs0 : (Go.strOfNums (Sp.putL (mf) 1)).size = 1 := by rw [Go.strOfNums_size, Sp.putL_length]
       have zs1 : (Go.strOfNums (Sp.putsL [(mn)])).size = 2 := by rw [Go.strOfNums_size, Sp.putsL_length]; rfl
       have zs2 : (Go.strOfNums (Sp.putsL [(md)])).size = 2 := by rw [Go.strOfNums_size, Sp.putsL_length]; rfl
       go_wp2_with fail
       go_region_held3 (fun w' => w'.cell? ⟨tb, 0, none⟩ = some (.int .i64 mf) ∧ w'.cell? ⟨tb, 1, none⟩ = some (.int .i64 mn) ∧ w'.cell? ⟨tb, 2, none⟩ = some (.int .i64 md)) (first | with_reducible exact hmk.out _ hBd.out | with_reducible exact hmk.out _ (by with_reducible assumption) | with_reducible exact hS9) (first | (go_at_call 180; (first | with_reducible refine (k0.out _ hBd.out).mono ?_ | with_reducible refine (k0.out _ (by with_reducible assumption)).mono ?_); rintro e wz ⟨rfl, hz⟩) | (go_at_call 178; (first | with_reducible refine (k1.out _ hBd.out).mono ?_ | with_reducible refine (k1.out _ (by with_reducible assumption)).mono ?_); rintro e wz ⟨rfl, hz⟩) | (go_at_call 178; (first | with_reducible refine (k2.out _ hBd.out).mono ?_ | with_reducible refine (k2.out _ (by with_reducible assumption)).mono ?_); rintro e wz ⟨rfl, hz⟩) | (obtain ⟨va, wa, hra, hEa, hTa, hS9, hAll⟩ := hap.out _ hz; refine step_append_run _ rfl _ _ _ _ rfl _ _ rfl rfl va wa hra ?_))
       clear hmk hBd hap hra hS9 hcell hneT k0 zs0 k1 zs1 k2 zs2
       clear d0 d1 d2 hf0 hf1 hn0 hn1 hd0 hd1
       rw [show Sp.putL mf 1 ++ Sp.putsL [mn] ++ Sp.putsL [md] = Sp.fieldB ⟨mf, mn, md, ms, ml, mc, mh⟩ by unfold Sp.fieldB; simp only [Sp.putsL, List.append_nil, List.append_assoc]] at hEa
       have hEc := Lib.hid hEa
       clear hEa hTa hAll hz hT hE
       go_wp2
       go_roundw
       case rel => exact ⟨k + 1, _, by go_num, by omega, hEc, hx1⟩
       case measure => simp [RowKit.intOf]; omega
      ·obtain rfl : k = flds.length := by omega
       have hzk : ¬ (flds.length : Int) < (flds.length : Int) := by omega
       have hys : P ++ flds.flatMap (fun m => Sp.fieldB m.1) = ys := by have := hx.out; rw [List.drop_length] at this; simpa using this.symm
       have HE4 := Lib.hid (show R = ys ++ (Sp.putL (mths.length : Int) 1 ++ mths.flatMap (fun m => Sp.methodB m.1)) by rw [HE3.out, ← hys, List.append_assoc])
       clear hx hys hP3 HX hzk hlt hk HE3
       have hq0 : (0 : Int) ≤ (mths.length : Int) := by omega
       have hq1 : (mths.length : Int) ≤ 255 := by omega
       obtain ⟨vb, wb, hrb, hEb, _⟩ := hE.out.byte (mths.length : Int) (by omega) (ty := 33)
       rw [← putL_one (mths.length : Int) hq0 hq1] at hEb
       have hEc := Lib.hid hEb
       clear hEb
       go_wp2_with (at_builtin; refine wpList_append_run _ rfl _ _ _ _ rfl _ _ rfl rfl vb wb hrb ?_)
       intro v2 w2 hvw
       obtain ⟨rfl, rfl⟩ := hvw.out
       clear hvw hrb hE
       have HE5 := Lib.hid (show R = (ys ++ Sp.putL (mths.length : Int) 1) ++ mths.flatMap (fun m => Sp.methodB m.1) by rw [HE4.out]; simp only [List.append_assoc])
       clear HE4 hq0 hq1 hyl hlb c0 c1 c2 c3 c4 c5 c6
       generalize ys ++ Sp.putL (mths.length : Int) 1 = P at *
       have hP5 := Lib.hid (show (P ++ mths.flatMap (fun m => Sp.methodB m.1)).length ≤ 900000000 by rw [← HE5.out]; exact hL.out)
       have hx5 := Lib.hid (show P ++ (mths.drop 0).flatMap (fun m => Sp.methodB m.1) = P ++ mths.flatMap (fun m => Sp.methodB m.1) from rfl)
       obtain ⟨c0, c1, c2, c3, c4, c5, c6⟩ := flC_box (q := ⟨qA, qc, qI, qd, qX, qe, qY, qg⟩) (F := ⟨pool, fl, th, su, ifs, flds, mths⟩) hEc.out.box
       simp only [] at c0 c1 c2 c3 c4 c5 c6
       go_wp2
       clear c0 c1 c2 c3 c4 c5 c6
       go_loopw [3, 13] (fun v3 v13 wq => ∃ (k : Nat) (ys : List Int), v13 = .int .i64 k ∧ k ≤ mths.length ∧ Hid (Eb w #[.slice qA pool.length qc, .int .i64 fl, .int .i64 th, .int .i64 su, .slice qI ifs.length qd, .slice qX flds.length qe, .slice qY mths.length qg] wq v3 ys) ∧ Hid (ys ++ (mths.drop k).flatMap (fun m => Sp.methodB m.1) = P ++ mths.flatMap (fun m => Sp.methodB m.1))) (fun _ v13 _ => mths.length - (RowKit.intOf v13).toNat)
       case atStart => exact ⟨0, _, by go_num, Nat.zero_le _, hEc, hx5⟩
       case round =>
        clear hEc hx5
        obtain ⟨k, ys, rfl, hk, hE, hx⟩ := hrel
        obtain ⟨c0, c1, c2, c3, c4, c5, c6⟩ := flC_box (q := ⟨qA, qc, qI, qd, qX, qe, qY, qg⟩) (F := ⟨pool, fl, th, su, ifs, flds, mths⟩) hE.out.box
        simp only [] at c0 c1 c2 c3 c4 c5 c6
        have hlb := hE.out.lt
        have hyl : ys.length ≤ 900000000 := by
         have h1 := congrArg List.length hx.out
         have h2 := hP5.out
         simp only [List.length_append] at h1 h2
         omega
        by_cases hlt : k < mths.length
        ·obtain ⟨b, o, rfl, hrg⟩ := HY.out (by omega)
         obtain ⟨d0, d1, d2, d3, d4, d5, d6⟩ := mb_cells hrg hlt
         have D0 := cell_below hE.out.bel d0
         have D1 := cell_below hE.out.bel d1
         have D2 := cell_below hE.out.bel d2
         have D3 := cell_below hE.out.bel d3
         have D4 := cell_below hE.out.bel d4
         have D5 := cell_below hE.out.bel d5
         have D6 := cell_below hE.out.bel d6
         have hzk : (k : Int) < (mths.length : Int) := by omega
         have hrc := HR.out.methods _ (List.mem_map_of_mem (f := fun m : Sp.Mp => m.1) (List.getElem_mem hlt))
         have hh0 := HH.out _ (List.getElem_mem hlt)
         have hx1 := Lib.hid (show (ys ++ Sp.methodB mths[k].1) ++ (mths.drop (k + 1)).flatMap (fun m => Sp.methodB m.1) = P ++ mths.flatMap (fun m => Sp.methodB m.1) by rw [List.append_assoc, ← drop_flat (fun m : Sp.Mp => Sp.methodB m.1) _ _ hlt, hx.out])
         clear hx hrg d0 d1 d2 d3 d4 d5 d6
         generalize mths[k] = m at *
         obtain ⟨⟨mf, mn, md, ms, ml, mc, mh⟩, mA, mcap⟩ := m
         simp only [] at D0 D1 D2 D3 D4 D5 D6 hrc hx1 hh0
         have hT6 := Lib.hid (blk_new wr (.cells #[.int .i64 mf, .int .i64 mn, .int .i64 md, .int .i64 ms, .int .i64 ml, .string mc, .slice mA mh.length mcap] 131))
         have hE6 := Lib.hid (hE.out.alloc (.cells #[.int .i64 mf, .int .i64 mn, .int .i64 md, .int .i64 ms, .int .i64 ml, .string mc, .slice mA mh.length mcap] 131))
         clear hE
         have hE := hE6
         have hT := hT6
         clear hE6 hT6
         go_upto_region 38 with fail
         generalize wr.alloc (.cells #[.int .i64 mf, .int .i64 mn, .int .i64 md, .int .i64 ms, .int .i64 ml, .string mc, .slice mA mh.length mcap] 131) = W6 at *
         generalize wr.heap.size = tb at *
         clear c0 c1 c2 c3 c4 c5 c6 D0 D1 D2 D3 D4 D5 D6
         obtain ⟨⟨hf0, hf1⟩, ⟨hn0, hn1⟩, ⟨hd0, hd1⟩, hcode⟩ := hrc
         (try simp only [] at hf0 hf1 hn0 hn1 hd0 hd1 hcode)
         have hcd := Lib.hid hcode
         clear hcode
         (try simp only [] at hf0 hf1 hn0 hn1 hd0 hd1)
         have hcd0 := hcd
         clear hcd
         go_cut [3] (fun s3 wx => Hid (Eb w #[.slice qA pool.length qc, .int .i64 fl, .int .i64 th, .int .i64 su, .slice qI ifs.length qd, .slice qX flds.length qe, .slice (some ⟨b, o, none⟩) mths.length qg] wx s3 (ys ++ (Sp.putL mf 1 ++ Sp.putsL [mn] ++ Sp.putsL [md]))) ∧ Hid (wx.heap[tb]? = some (.cells #[.int .i64 mf, .int .i64 mn, .int .i64 md, .int .i64 ms, .int .i64 ml, .string mc, .slice mA mh.length mcap] 131 (0, 0))))
         case first =>
          try clear HR
          try clear HH
          try clear HY
          try clear HX
          try clear HI
          try clear KE
          try clear HE5
          try clear HE3
          try clear HE2
          try clear HE1
          try clear hP5
          try clear hP3
          try clear hP2
          try clear hL
          try clear hl2
          try clear hl3
          try clear hl4
          try clear hrp
          try clear hrf
          try clear hrm
          try clear hri
          try clear hx1
          try clear hxc
          try clear hh0
          try clear hcd0
          try clear hhr0
          try clear hlb
          try clear hlt
          try clear hk
          try clear hzk
          try clear hf2b
          try clear hf2
          try clear hcB
          try clear hhz
          try clear hhl
          try clear HH0
          try clear hy1
          try clear hj
          try clear hlj
          try clear hzj
          try clear hul0
          have d0 := (blk_cell hT.out 0 (.int .i64 mf) rfl).1
          have d1 := (blk_cell hT.out 1 (.int .i64 mn) rfl).1
          have d2 := (blk_cell hT.out 2 (.int .i64 md) rfl).1
          have hmk := Lib.hid (show ∀ w', Below W6.heap.size W6 w' → (w'.cell? ⟨tb, 0, none⟩ = some (.int .i64 mf) ∧ w'.cell? ⟨tb, 1, none⟩ = some (.int .i64 mn) ∧ w'.cell? ⟨tb, 2, none⟩ = some (.int .i64 md)) from fun w' h => ⟨cell_below h d0, cell_below h d1, cell_below h d2⟩)
          have hBd := Lib.hid (Below.refl W6.heap.size W6).drew
          have k0 := Lib.hid (fun W (h : Below W6.heap.size W6 W) => (one_any (mf) hf0 hf1 W).mono (fun e W' q => And.intro q.1 (below_then h h.size q.2)))
          have k1 := Lib.hid (fun W (h : Below W6.heap.size W6 W) => (two_any (mn) hn0 hn1 W).mono (fun e W' q => And.intro q.1 (below_then h h.size q.2)))
          have k2 := Lib.hid (fun W (h : Below W6.heap.size W6 W) => (two_any (md) hd0 hd1 W).mono (fun e W' q => And.intro q.1 (below_then h h.size q.2)))
          have hcell := Lib.hid (show ∀ (wa : World), wa.heap[tb]? = some (.cells #[.int .i64 mf, .int .i64 mn, .int .i64 md, .int .i64 ms, .int .i64 ml, .string mc, .slice mA mh.length mcap] 131 (0, 0)) → (wa.cell? ⟨tb, 0, none⟩ = some (.int .i64 mf) ∧ wa.cell? ⟨tb, 1, none⟩ = some (.int .i64 mn) ∧ wa.cell? ⟨tb, 2, none⟩ = some (.int .i64 md)) from fun wa h => ⟨(blk_cell h 0 (.int .i64 mf) rfl).1, (blk_cell h 1 (.int .i64 mn) rfl).1, (blk_cell h 2 (.int .i64 md) rfl).1⟩)
          have hneT : (131 : TypeId) ≠ 5 := by decide
          have hap := Lib.hid (fun W (h : Below W6.heap.size W6 W) => (hE.out.below h).strB (Go.strOfNums (Sp.putL mf 1) ++ Go.strOfNums (Sp.putsL [mn]) ++ Go.strOfNums (Sp.putsL [md])) (Sp.putL mf 1 ++ Sp.putsL [mn] ++ Sp.putsL [md]) (by simp only [Sp.nums_app, Sp.nums_putsL, Sp.nums_putL]) (by simp only [List.length_append, Sp.putL_length, Sp.putsL_length, nums_length, List.length_cons, List.length_nil]; omega) hneT (blk_below hT.out h) (S := fun w' => w'.cell? ⟨tb, 0, none⟩ = some (.int .i64 mf) ∧ w'.cell? ⟨tb, 1, none⟩ = some (.int .i64 mn) ∧ w'.cell? ⟨tb, 2, none⟩ = some (.int .i64 md)) hcell.out (ty := 33))
          have zs0 : (Go.strOfNums (Sp.putL (mf) 1)).size = 1 := by rw [Go.strOfNums_size, Sp.putL_length]
          have zs1 : (Go.strOfNums (Sp.putsL [(mn)])).size = 2 := by rw [Go.strOfNums_size, Sp.putsL_length]; rfl
          have zs2 : (Go.strOfNums (Sp.putsL [(md)])).size = 2 := by rw [Go.strOfNums_size, Sp.putsL_length]; rfl
          go_wp2_with fail
          go_region_held3 (fun w' => w'.cell? ⟨tb, 0, none⟩ = some (.int .i64 mf) ∧ w'.cell? ⟨tb, 1, none⟩ = some (.int .i64 mn) ∧ w'.cell? ⟨tb, 2, none⟩ = some (.int .i64 md)) (first | with_reducible exact hmk.out _ hBd.out | with_reducible exact hmk.out _ (by with_reducible assumption) | with_reducible exact hS9) (first | (go_at_call 180; (first | with_reducible refine (k0.out _ hBd.out).mono ?_ | with_reducible refine (k0.out _ (by with_reducible assumption)).mono ?_); rintro e wz ⟨rfl, hz⟩) | (go_at_call 178; (first | with_reducible refine (k1.out _ hBd.out).mono ?_ | with_reducible refine (k1.out _ (by with_reducible assumption)).mono ?_); rintro e wz ⟨rfl, hz⟩) | (go_at_call 178; (first | with_reducible refine (k2.out _ hBd.out).mono ?_ | with_reducible refine (k2.out _ (by with_reducible assumption)).mono ?_); rintro e wz ⟨rfl, hz⟩) | (obtain ⟨va, wa, hra, hEa, hTa, hS9, hAll⟩ := hap.out _ hz; refine step_append_run _ rfl _ _ _ _ rfl _ _ rfl rfl va wa hra ?_))
          clear hmk hBd hap hra hS9 hcell hneT k0 zs0 k1 zs1 k2 zs2
          have hTb := Lib.hid hTa
          have hE9 := Lib.hid hEa
          go_wp2
          go_meet
          exact ⟨hE9, hTb⟩
         case rest =>
          clear hE hT
          obtain ⟨hE, hT⟩ := hcut
          have hcd := hcd0
          clear hcd0
          have d0 := (blk_cell hT.out 0 (.int .i64 mf) rfl).1
          by_cases hf2 : mf = 2
          ·subst hf2
           have hmb : Sp.methodB ⟨2, mn, md, ms, ml, mc, mh⟩ = Sp.putL 2 1 ++ Sp.putsL [mn] ++ Sp.putsL [md] := by unfold Sp.methodB; simp only [Sp.putsL, List.append_nil, List.append_assoc, if_true]
           rw [hmb] at hx1
           clear hmb hcd hh0
           go_wp2
           go_roundw
           case rel => exact ⟨k + 1, _, by go_num, by omega, hE, hx1⟩
           case measure => simp [RowKit.intOf]; omega
          have hf2b : (mf == 2) = false := by rw [beq_eq_false_iff_ne]; exact hf2
          have hmb : Sp.methodB ⟨mf, mn, md, ms, ml, mc, mh⟩ = Sp.putL mf 1 ++ Sp.putsL [mn] ++ Sp.putsL [md] ++ Sp.codeB ⟨mf, mn, md, ms, ml, mc, mh⟩ := by unfold Sp.methodB; rw [if_neg hf2]; simp only [Sp.putsL, List.append_nil, List.append_assoc]
          rw [hmb, ← List.append_assoc] at hx1
          have hyl2 : (ys ++ (Sp.putL mf 1 ++ Sp.putsL [mn] ++ Sp.putsL [md])).length ≤ 900000010 := by simp only [List.length_append, Sp.putL_length, Sp.putsL_length, nums_length, List.length_cons, List.length_nil]; omega
          generalize ys ++ (Sp.putL mf 1 ++ Sp.putsL [mn] ++ Sp.putsL [md]) = zs at *
          clear hmb hyl
          obtain ⟨⟨hs0, hs1⟩, ⟨hl0, hl1⟩, hcz, hhz, hhr⟩ := hcd.out hf2
          (try simp only [] at hs0 hs1 hl0 hl1 hcz hhz hhr)
          have hhr0 := Lib.hid hhr
          clear hhr hcd hf2
          have hc0 : (0 : Int) ≤ (mc.size : Int) := by omega
          have hc1 : (mc.size : Int) ≤ 65535 := by omega
          have hh1 : (0 : Int) ≤ (mh.length : Int) := by omega
          have hh2 : (mh.length : Int) ≤ 255 := by omega
          go_upto_region 40 with fail
          clear d0
          go_cut [3] (fun s3 wx => Hid (Eb w #[.slice qA pool.length qc, .int .i64 fl, .int .i64 th, .int .i64 su, .slice qI ifs.length qd, .slice qX flds.length qe, .slice (some ⟨b, o, none⟩) mths.length qg] wx s3 (zs ++ (Sp.putL ms 1 ++ Sp.putL ml 1 ++ Sp.putsL [(mc.size : Int)] ++ Sp.nums mc ++ Sp.putL (mh.length : Int) 1))) ∧ Hid (wx.heap[tb]? = some (.cells #[.int .i64 mf, .int .i64 mn, .int .i64 md, .int .i64 ms, .int .i64 ml, .string mc, .slice mA mh.length mcap] 131 (0, 0))))
          case first =>
           try clear HR
           try clear HH
           try clear HY
           try clear HX
           try clear HI
           try clear KE
           try clear HE5
           try clear HE3
           try clear HE2
           try clear HE1
           try clear hP5
           try clear hP3
           try clear hP2
           try clear hL
           try clear hl2
           try clear hl3
           try clear hl4
           try clear hrp
           try clear hrf
           try clear hrm
           try clear hri
           try clear hx1
           try clear hxc
           try clear hh0
           try clear hcd0
           try clear hhr0
           try clear hlb
           try clear hlt
           try clear hk
           try clear hzk
           try clear hf2b
           try clear hf2
           try clear hcB
           try clear hhz
           try clear hhl
           try clear HH0
           try clear hy1
           try clear hj
           try clear hlj
           try clear hzj
           try clear hul0
           have d3 := (blk_cell hT.out 3 (.int .i64 ms) rfl).1
           have d4 := (blk_cell hT.out 4 (.int .i64 ml) rfl).1
           have d5 := (blk_cell hT.out 5 (.string mc) rfl).1
           have d6 := (blk_cell hT.out 6 (.slice mA mh.length mcap) rfl).1
           have hmk := Lib.hid (show ∀ w', Below wc.heap.size wc w' → (w'.cell? ⟨tb, 3, none⟩ = some (.int .i64 ms) ∧ w'.cell? ⟨tb, 4, none⟩ = some (.int .i64 ml) ∧ w'.cell? ⟨tb, 5, none⟩ = some (.string mc) ∧ w'.cell? ⟨tb, 6, none⟩ = some (.slice mA mh.length mcap)) from fun w' h => ⟨cell_below h d3, cell_below h d4, cell_below h d5, cell_below h d6⟩)
           have hBd := Lib.hid (Below.refl wc.heap.size wc).drew
           have k0 := Lib.hid (fun W (h : Below wc.heap.size wc W) => (one_any (ms) hs0 hs1 W).mono (fun e W' q => And.intro q.1 (below_then h h.size q.2)))
           have k1 := Lib.hid (fun W (h : Below wc.heap.size wc W) => (one_any (ml) hl0 hl1 W).mono (fun e W' q => And.intro q.1 (below_then h h.size q.2)))
           have k2 := Lib.hid (fun W (h : Below wc.heap.size wc W) => (two_any (mc.size : Int) hc0 hc1 W).mono (fun e W' q => And.intro q.1 (below_then h h.size q.2)))
           have k3 := Lib.hid (fun W (h : Below wc.heap.size wc W) => (one_any (mh.length : Int) hh1 hh2 W).mono (fun e W' q => And.intro q.1 (below_then h h.size q.2)))
           have hcell := Lib.hid (show ∀ (wa : World), wa.heap[tb]? = some (.cells #[.int .i64 mf, .int .i64 mn, .int .i64 md, .int .i64 ms, .int .i64 ml, .string mc, .slice mA mh.length mcap] 131 (0, 0)) → (wa.cell? ⟨tb, 3, none⟩ = some (.int .i64 ms) ∧ wa.cell? ⟨tb, 4, none⟩ = some (.int .i64 ml) ∧ wa.cell? ⟨tb, 5, none⟩ = some (.string mc) ∧ wa.cell? ⟨tb, 6, none⟩ = some (.slice mA mh.length mcap)) from fun wa h => ⟨(blk_cell h 3 (.int .i64 ms) rfl).1, (blk_cell h 4 (.int .i64 ml) rfl).1, (blk_cell h 5 (.string mc) rfl).1, (blk_cell h 6 (.slice mA mh.length mcap) rfl).1⟩)
           have hneT : (131 : TypeId) ≠ 5 := by decide
           have hap := Lib.hid (fun W (h : Below wc.heap.size wc W) => (hE.out.below h).strB (Go.strOfNums (Sp.putL ms 1) ++ Go.strOfNums (Sp.putL ml 1) ++ Go.strOfNums (Sp.putsL [(mc.size : Int)]) ++ mc ++ Go.strOfNums (Sp.putL (mh.length : Int) 1)) (Sp.putL ms 1 ++ Sp.putL ml 1 ++ Sp.putsL [(mc.size : Int)] ++ Sp.nums mc ++ Sp.putL (mh.length : Int) 1) (by simp only [Sp.nums_app, Sp.nums_putsL, Sp.nums_putL]) (by simp only [List.length_append, Sp.putL_length, Sp.putsL_length, nums_length, List.length_cons, List.length_nil]; omega) hneT (blk_below hT.out h) (S := fun w' => w'.cell? ⟨tb, 3, none⟩ = some (.int .i64 ms) ∧ w'.cell? ⟨tb, 4, none⟩ = some (.int .i64 ml) ∧ w'.cell? ⟨tb, 5, none⟩ = some (.string mc) ∧ w'.cell? ⟨tb, 6, none⟩ = some (.slice mA mh.length mcap)) hcell.out (ty := 33))
           have zr1 : ¬ 9223372036854775807 < (Go.strOfNums (Sp.putL ms 1)).size + (Go.strOfNums (Sp.putL ml 1)).size := by simp only [Go.strOfNums_size, Sp.putL_length, Sp.putsL_length, List.length_cons, List.length_nil]; omega
           have zr2 : ¬ 9223372036854775807 < (Go.strOfNums (Sp.putL ms 1)).size + (Go.strOfNums (Sp.putL ml 1)).size + (Go.strOfNums (Sp.putsL [(mc.size : Int)])).size := by simp only [Go.strOfNums_size, Sp.putL_length, Sp.putsL_length, List.length_cons, List.length_nil]; omega
           have zr3 : ¬ 9223372036854775807 < (Go.strOfNums (Sp.putL ms 1)).size + (Go.strOfNums (Sp.putL ml 1)).size + (Go.strOfNums (Sp.putsL [(mc.size : Int)])).size + (mc).size := by simp only [Go.strOfNums_size, Sp.putL_length, Sp.putsL_length, List.length_cons, List.length_nil]; omega
           have zr4 : ¬ 9223372036854775807 < (Go.strOfNums (Sp.putL ms 1)).size + (Go.strOfNums (Sp.putL ml 1)).size + (Go.strOfNums (Sp.putsL [(mc.size : Int)])).size + (mc).size + (Go.strOfNums (Sp.putL (mh.length : Int) 1)).size := by simp only [Go.strOfNums_size, Sp.putL_length, Sp.putsL_length, List.length_cons, List.length_nil]; omega
           go_wp2_with fail
           go_region_held3 (fun w' => w'.cell? ⟨tb, 3, none⟩ = some (.int .i64 ms) ∧ w'.cell? ⟨tb, 4, none⟩ = some (.int .i64 ml) ∧ w'.cell? ⟨tb, 5, none⟩ = some (.string mc) ∧ w'.cell? ⟨tb, 6, none⟩ = some (.slice mA mh.length mcap)) (first | with_reducible exact hmk.out _ hBd.out | with_reducible exact hmk.out _ (by with_reducible assumption) | with_reducible exact hS9) (first | (go_at_call 180; (first | with_reducible refine (k0.out _ hBd.out).mono ?_ | with_reducible refine (k0.out _ (by with_reducible assumption)).mono ?_); rintro e wz ⟨rfl, hz⟩) | (go_at_call 180; (first | with_reducible refine (k1.out _ hBd.out).mono ?_ | with_reducible refine (k1.out _ (by with_reducible assumption)).mono ?_); rintro e wz ⟨rfl, hz⟩) | (go_at_call 178; (first | with_reducible refine (k2.out _ hBd.out).mono ?_ | with_reducible refine (k2.out _ (by with_reducible assumption)).mono ?_); rintro e wz ⟨rfl, hz⟩) | (go_at_call 180; (first | with_reducible refine (k3.out _ hBd.out).mono ?_ | with_reducible refine (k3.out _ (by with_reducible assumption)).mono ?_); rintro e wz ⟨rfl, hz⟩) | (obtain ⟨va, wa, hra, hEa, hTa, hS9, hAll⟩ := hap.out _ hz; refine step_append_run _ rfl _ _ _ _ rfl _ _ rfl rfl va wa hra ?_))
           clear hmk hBd hap hra hS9 hcell hneT k0 k1 k2 k3 zr1 zr2 zr3 zr4
           have hTb := Lib.hid hTa
           have hE9 := Lib.hid hEa
           go_wp2
           go_meet
           exact ⟨hE9, hTb⟩
          case rest =>
           clear hE hT hs0 hs1 hl0 hl1 hc0 hc1 hh1 hh2
           obtain ⟨hEa, hTb⟩ := hcut
           have hxc := Lib.hid (show ((zs ++ (Sp.putL ms 1 ++ Sp.putL ml 1 ++ Sp.putsL [(mc.size : Int)] ++ Sp.nums mc ++ Sp.putL (mh.length : Int) 1)) ++ mh.flatMap Sp.handB) ++ (mths.drop (k + 1)).flatMap (fun m => Sp.methodB m.1) = P ++ mths.flatMap (fun m => Sp.methodB m.1) by
            rw [← hx1.out]
            unfold Sp.codeB
            simp only [List.append_assoc])
           clear hx1
           have hyl3 : (zs ++ (Sp.putL ms 1 ++ Sp.putL ml 1 ++ Sp.putsL [(mc.size : Int)] ++ Sp.nums mc ++ Sp.putL (mh.length : Int) 1)).length ≤ 900010000 := by simp only [List.length_append, Sp.putL_length, Sp.putsL_length, nums_length, List.length_cons, List.length_nil]; omega
           have hE9 := hEa
           clear hEa hyl2
           generalize zs ++ (Sp.putL ms 1 ++ Sp.putL ml 1 ++ Sp.putsL [(mc.size : Int)] ++ Sp.nums mc ++ Sp.putL (mh.length : Int) 1) = zs2 at *
           have hT := hTb
           go_upto_region 41 with fail
           have d6 := (blk_cell hT.out 6 (.slice mA mh.length mcap) rfl).1
           have hy0 := Lib.hid (show zs2 ++ (mh.drop 0).flatMap Sp.handB = zs2 ++ mh.flatMap Sp.handB from rfl)
           have hhl := hh0.1
           have HH0 := Lib.hid hh0.2
           clear hTb hh0
           obtain ⟨c0, c1, c2, c3, c4, c5, c6⟩ := flC_box (q := ⟨qA, qc, qI, qd, qX, qe, some ⟨b, o, none⟩, qg⟩) (F := ⟨pool, fl, th, su, ifs, flds, mths⟩) hE9.out.box
           simp only [] at c0 c1 c2 c3 c4 c5 c6
           go_wp2
           clear c0 c1 c2 c3 c4 c5 c6 d6
           go_loopw [3, 15] (fun v3 v15 wq => ∃ (j : Nat) (us : List Int), v15 = .int .i64 j ∧ j ≤ mh.length ∧ us.length = zs2.length + 8 * j ∧ Hid (Eb w #[.slice qA pool.length qc, .int .i64 fl, .int .i64 th, .int .i64 su, .slice qI ifs.length qd, .slice qX flds.length qe, .slice (some ⟨b, o, none⟩) mths.length qg] wq v3 us) ∧ Hid (wq.heap[tb]? = some (.cells #[.int .i64 mf, .int .i64 mn, .int .i64 md, .int .i64 ms, .int .i64 ml, .string mc, .slice mA mh.length mcap] 131 (0, 0))) ∧ Hid (us ++ (mh.drop j).flatMap Sp.handB = zs2 ++ mh.flatMap Sp.handB)) (fun _ v15 _ => mh.length - (RowKit.intOf v15).toNat)
           case atStart => exact ⟨0, _, by go_num, Nat.zero_le _, by omega, hE9, hT, hy0⟩
           case round =>
            clear hE9 hT hy0
            obtain ⟨j, us, rfl, hj, hul, hE, hT, hy⟩ := hrel
            have d6 := (blk_cell hT.out 6 (.slice mA mh.length mcap) rfl).1
            have hlb := hE.out.lt
            have hlt2 := blk_lt hT.out
            by_cases hlj : j < mh.length
            ·obtain ⟨b2, o2, rfl, hrg⟩ := HH0.out (by omega)
             obtain ⟨g0, g1, g2, g3⟩ := hn_cells hrg hlj
             have G0 := cell_below hE.out.bel g0
             have G1 := cell_below hE.out.bel g1
             have G2 := cell_below hE.out.bel g2
             have G3 := cell_below hE.out.bel g3
             have hzj : (j : Int) < (mh.length : Int) := by omega
             have hrh := hhr0.out _ (List.getElem_mem hlj)
             have hy1 := Lib.hid (show (us ++ Sp.handB mh[j]) ++ (mh.drop (j + 1)).flatMap Sp.handB = zs2 ++ mh.flatMap Sp.handB by rw [List.append_assoc, ← drop_flat Sp.handB _ _ hlj, hy.out])
             clear hy hrg g0 g1 g2 g3
             generalize mh[j] = h at *
             obtain ⟨hf, ht, ha, hc⟩ := h
             simp only [] at G0 G1 G2 G3 hrh hy1
             have hTh := Lib.hid (blk_new wr (.cells #[.int .i64 hf, .int .i64 ht, .int .i64 ha, .int .i64 hc] 239))
             have hT9 := Lib.hid (blk_old (o := .cells #[.int .i64 hf, .int .i64 ht, .int .i64 ha, .int .i64 hc] 239) hT.out)
             have hE9 := Lib.hid (hE.out.alloc (.cells #[.int .i64 hf, .int .i64 ht, .int .i64 ha, .int .i64 hc] 239))
             clear hE hT
             have hE := hE9
             have hT := hT9
             clear hE9 hT9
             go_upto_region 45 with fail
             generalize wr.alloc (.cells #[.int .i64 hf, .int .i64 ht, .int .i64 ha, .int .i64 hc] 239) = W7 at *
             generalize wr.heap.size = hb at *
             clear d6 G0 G1 G2 G3
             obtain ⟨⟨hf0, hf1⟩, ⟨ht0, ht1⟩, ⟨ha0, ha1⟩, hc0, hc1⟩ := hrh
             (try simp only [] at hf0 hf1 ht0 ht1 ha0 ha1 hc0 hc1)
             have d0 := (blk_cell hTh.out 0 (.int .i64 hf) rfl).1
             have d1 := (blk_cell hTh.out 1 (.int .i64 ht) rfl).1
             have d2 := (blk_cell hTh.out 2 (.int .i64 ha) rfl).1
             have d3 := (blk_cell hTh.out 3 (.int .i64 hc) rfl).1
             have hmk := Lib.hid (show ∀ w', Below W7.heap.size W7 w' → (w'.cell? ⟨hb, 0, none⟩ = some (.int .i64 hf) ∧ w'.cell? ⟨hb, 1, none⟩ = some (.int .i64 ht) ∧ w'.cell? ⟨hb, 2, none⟩ = some (.int .i64 ha) ∧ w'.cell? ⟨hb, 3, none⟩ = some (.int .i64 hc)) from fun w' h => ⟨cell_below h d0, cell_below h d1, cell_below h d2, cell_below h d3⟩)
             have hBd := Lib.hid (Below.refl W7.heap.size W7).drew
             have k0 := Lib.hid (fun W (h : Below W7.heap.size W7 W) => (two_any (hf) hf0 hf1 W).mono (fun e W' q => And.intro q.1 (below_then h h.size q.2)))
             have k1 := Lib.hid (fun W (h : Below W7.heap.size W7 W) => (two_any (ht) ht0 ht1 W).mono (fun e W' q => And.intro q.1 (below_then h h.size q.2)))
             have k2 := Lib.hid (fun W (h : Below W7.heap.size W7 W) => (two_any (ha) ha0 ha1 W).mono (fun e W' q => And.intro q.1 (below_then h h.size q.2)))
             have k3 := Lib.hid (fun W (h : Below W7.heap.size W7 W) => (two_any (hc) hc0 hc1 W).mono (fun e W' q => And.intro q.1 (below_then h h.size q.2)))
             have hcell := Lib.hid (show ∀ (wa : World), wa.heap[hb]? = some (.cells #[.int .i64 hf, .int .i64 ht, .int .i64 ha, .int .i64 hc] 239 (0, 0)) → (wa.cell? ⟨hb, 0, none⟩ = some (.int .i64 hf) ∧ wa.cell? ⟨hb, 1, none⟩ = some (.int .i64 ht) ∧ wa.cell? ⟨hb, 2, none⟩ = some (.int .i64 ha) ∧ wa.cell? ⟨hb, 3, none⟩ = some (.int .i64 hc)) from fun wa h => ⟨(blk_cell h 0 (.int .i64 hf) rfl).1, (blk_cell h 1 (.int .i64 ht) rfl).1, (blk_cell h 2 (.int .i64 ha) rfl).1, (blk_cell h 3 (.int .i64 hc) rfl).1⟩)
             have hneT : (239 : TypeId) ≠ 5 := by decide
             have hap := Lib.hid (fun W (h : Below W7.heap.size W7 W) => (hE.out.below h).strB (Go.strOfNums (Sp.putsL [hf]) ++ Go.strOfNums (Sp.putsL [ht]) ++ Go.strOfNums (Sp.putsL [ha]) ++ Go.strOfNums (Sp.putsL [hc])) (Sp.handB ⟨hf, ht, ha, hc⟩) (by simp only [Sp.nums_app, Sp.nums_putsL]; unfold Sp.handB; simp only [Sp.putsL, List.append_nil, List.append_assoc]) (by unfold Sp.handB; simp only [List.length_append, Sp.putL_length, Sp.putsL_length, nums_length, List.length_cons, List.length_nil]; omega) hneT (blk_below hTh.out h) (S := fun w' => w'.cell? ⟨hb, 0, none⟩ = some (.int .i64 hf) ∧ w'.cell? ⟨hb, 1, none⟩ = some (.int .i64 ht) ∧ w'.cell? ⟨hb, 2, none⟩ = some (.int .i64 ha) ∧ w'.cell? ⟨hb, 3, none⟩ = some (.int .i64 hc)) hcell.out (ty := 33))
             have zs0 : (Go.strOfNums (Sp.putsL [(hf)])).size = 2 := by rw [Go.strOfNums_size, Sp.putsL_length]; rfl
             have zs1 : (Go.strOfNums (Sp.putsL [(ht)])).size = 2 := by rw [Go.strOfNums_size, Sp.putsL_length]; rfl
             have zs2 : (Go.strOfNums (Sp.putsL [(ha)])).size = 2 := by rw [Go.strOfNums_size, Sp.putsL_length]; rfl
             have zs3 : (Go.strOfNums (Sp.putsL [(hc)])).size = 2 := by rw [Go.strOfNums_size, Sp.putsL_length]; rfl
             go_wp2_with fail
             go_region_held3 (fun w' => w'.cell? ⟨hb, 0, none⟩ = some (.int .i64 hf) ∧ w'.cell? ⟨hb, 1, none⟩ = some (.int .i64 ht) ∧ w'.cell? ⟨hb, 2, none⟩ = some (.int .i64 ha) ∧ w'.cell? ⟨hb, 3, none⟩ = some (.int .i64 hc)) (first | with_reducible exact hmk.out _ hBd.out | with_reducible exact hmk.out _ (by with_reducible assumption) | with_reducible exact hS9) (first | (go_at_call 178; (first | with_reducible refine (k0.out _ hBd.out).mono ?_ | with_reducible refine (k0.out _ (by with_reducible assumption)).mono ?_); rintro e wz ⟨rfl, hz⟩) | (go_at_call 178; (first | with_reducible refine (k1.out _ hBd.out).mono ?_ | with_reducible refine (k1.out _ (by with_reducible assumption)).mono ?_); rintro e wz ⟨rfl, hz⟩) | (go_at_call 178; (first | with_reducible refine (k2.out _ hBd.out).mono ?_ | with_reducible refine (k2.out _ (by with_reducible assumption)).mono ?_); rintro e wz ⟨rfl, hz⟩) | (go_at_call 178; (first | with_reducible refine (k3.out _ hBd.out).mono ?_ | with_reducible refine (k3.out _ (by with_reducible assumption)).mono ?_); rintro e wz ⟨rfl, hz⟩) | (obtain ⟨va, wa, hra, hEa, hTa, hS9, hAll⟩ := hap.out _ hz; refine step_append_run _ rfl _ _ _ _ rfl _ _ rfl rfl va wa hra ?_))
             clear hmk hBd hap hra hS9 hcell hneT k0 zs0 k1 zs1 k2 zs2 k3 zs3
             have hTb := Lib.hid (hAll (T := 131) (by decide) (blk_below hT.out hz))
             have hEc := Lib.hid hEa
             have hul2 : (us ++ Sp.handB ⟨hf, ht, ha, hc⟩).length = zs2.length + 8 * (j + 1) := by unfold Sp.handB; simp only [List.length_append, Sp.putsL_length, List.length_cons, List.length_nil]; omega
             clear hEa hTa hAll hz hT hE d0 d1 d2 d3 hTh
             go_wp2
             go_roundw
             case rel => exact ⟨j + 1, _, by go_num, by omega, hul2, hEc, hTb, hy1⟩
             case measure => simp [RowKit.intOf]; omega
            ·obtain rfl : j = mh.length := by omega
             have hzj : ¬ (mh.length : Int) < (mh.length : Int) := by omega
             have hus : us = zs2 ++ mh.flatMap Sp.handB := by have := hy.out; rw [List.drop_length] at this; simpa using this
             subst hus
             clear hy
             go_wp2
             go_roundw
             case rel => exact ⟨k + 1, _, by go_num, by omega, hE, hxc⟩
             case measure => simp [RowKit.intOf]; omega
        ·obtain rfl : k = mths.length := by omega
         have hzk : ¬ (mths.length : Int) < (mths.length : Int) := by omega
         have hys : R = ys := by have := hx.out; rw [List.drop_length] at this; rw [HE5.out]; simpa using this.symm
         subst hys
         clear hx hP5 HY hlt hk HE5
         have hcv := rowT_back wr 33 9 Tryz.underlying33 Tryz.underlying5 Tryz.underlying9 hE.out.own
         have hbel := hE.out.bel
         go_wp2
         go_ret
         exact ⟨rfl, hbel⟩
set_option maxHeartbeats 8000000 in
set_option maxRecDepth 100000 in
theorem refCoded_any (q : Sp.At) (F : FlP) (m : Sp.Mp) (w : World) (hr : RdF w q F) (hh : RdL Sp.hnC w m.2.1 m.1.hs) (hc : ∀ h ∈ m.1.hs, In64 h.cls) (hcz : m.1.code.size ≤ 1099511627776) :
  Calls Tryz.prog 271 #[.agg (flC q F), Sp.mbV m] w fun e w' => e = .returned (.int .i64 (Sp.codedS F.pool m.1)) ∧ Below w.heap.size w w' := by
 obtain ⟨pool, fl, th, su, ifs, flds, mths⟩ := F
 obtain ⟨qA, qc, qI, qd, qX, qe, qY, qg⟩ := q
 obtain ⟨⟨mf, mn, md, ms, ml, mc, mh⟩, mA, mcap⟩ := m
 simp only [] at hh hc hcz ⊢
 have hr0 := Lib.hid hr
 clear hr
 have hhl := hh.1
 have HH := Lib.hid hh.2
 clear hh
 have HE := Lib.hid (show Sp.codedS pool ⟨mf, mn, md, ms, ml, mc, mh⟩ = _ by rw [Sp.codedS])
 have kt := Lib.hid (fun i (hi : In64 i) W hr => refTagged_any ⟨qA, qc, qI, qd, qX, qe, qY, qg⟩ ⟨pool, fl, th, su, ifs, flds, mths⟩ i 4 W hr hi)
 have hcc := Lib.hid hc
 clear hc
 generalize Sp.codedS pool ⟨mf, mn, md, ms, ml, mc, mh⟩ = R at HE ⊢
 have HE1 := Lib.hid HE.out
 clear HE
 simp only [] at HE1 kt
 have hB := ((Below.refl w.heap.size w).alloc (Nat.le_refl _) (.cells (flC ⟨qA, qc, qI, qd, qX, qe, qY, qg⟩ ⟨pool, fl, th, su, ifs, flds, mths⟩) 26)).alloc (by simp) (.cells #[.int .i64 mf, .int .i64 mn, .int .i64 md, .int .i64 ms, .int .i64 ml, .string mc, .slice mA mh.length mcap] 131)
 have hK := Lib.hid (blk_old (o := .cells #[.int .i64 mf, .int .i64 mn, .int .i64 md, .int .i64 ms, .int .i64 ml, .string mc, .slice mA mh.length mcap] 131) (blk_new w (.cells (flC ⟨qA, qc, qI, qd, qX, qe, qY, qg⟩ ⟨pool, fl, th, su, ifs, flds, mths⟩) 26)))
 have hL := Lib.hid (blk_new (w.alloc (.cells (flC ⟨qA, qc, qI, qd, qX, qe, qY, qg⟩ ⟨pool, fl, th, su, ifs, flds, mths⟩) 26)) (.cells #[.int .i64 mf, .int .i64 mn, .int .i64 md, .int .i64 ms, .int .i64 ml, .string mc, .slice mA mh.length mcap] 131))
 rw [show (w.alloc (.cells (flC ⟨qA, qc, qI, qd, qX, qe, qY, qg⟩ ⟨pool, fl, th, su, ifs, flds, mths⟩) 26)).heap.size = w.heap.size + 1 by simp] at hL
 unfold flC at kt
 unfold Sp.mbV
 have hfl : flC ⟨qA, qc, qI, qd, qX, qe, qY, qg⟩ ⟨pool, fl, th, su, ifs, flds, mths⟩ = #[.slice qA pool.length qc, .int .i64 fl, .int .i64 th, .int .i64 su, .slice qI ifs.length qd, .slice qX flds.length qe, .slice qY mths.length qg] := rfl
 rw [hfl] at hB ⊢
 clear hfl
 simp only [] at kt ⊢
 by_cases g0 : ms < 0
 ·clear HH kt hcc
  have hR : R = 26 := by rw [HE1.out, if_pos (by omega)]
  subst hR
  clear HE1
  go_enter Tryz.func271, Tryz.ntmps271
  go_wp2
  go_ret
  exact ⟨rfl, hB⟩
 by_cases g1 : 64 < ms
 ·clear HH kt hcc
  have hR : R = 26 := by rw [HE1.out, if_pos (by omega)]
  subst hR
  clear HE1
  go_enter Tryz.func271, Tryz.ntmps271
  go_wp2
  go_ret
  exact ⟨rfl, hB⟩
 by_cases g2 : ml < 0
 ·clear HH kt hcc
  have hR : R = 26 := by rw [HE1.out, if_pos (by omega)]
  subst hR
  clear HE1
  go_enter Tryz.func271, Tryz.ntmps271
  go_wp2
  go_ret
  exact ⟨rfl, hB⟩
 by_cases g3 : 64 < ml
 ·clear HH kt hcc
  have hR : R = 26 := by rw [HE1.out, if_pos (by omega)]
  subst hR
  clear HE1
  go_enter Tryz.func271, Tryz.ntmps271
  go_wp2
  go_ret
  exact ⟨rfl, hB⟩
 have HE2 := Lib.hid HE1.out
 rw [if_neg (by omega)] at HE2
 clear HE1
 have HE1 := HE2
 clear HE2
 by_cases g4 : mc.size = 0
 ·obtain rfl := str_empty mc g4
  clear HH kt hcc
  have hR : R = 5 := by rw [HE1.out, if_pos g4]
  subst hR
  clear HE1
  go_enter Tryz.func271, Tryz.ntmps271
  go_wp2
  go_ret
  exact ⟨rfl, hB⟩
 have hne : (mc.toList == []) = false := by
  rw [Bool.eq_false_iff]
  intro r
  have := (bytes_beq_iff mc ⟨#[]⟩).1 (by simpa using r)
  rw [this] at g4
  exact g4 rfl
 by_cases g5 : 4096 < mc.size
 ·have hz : (4096 : Int) < (mc.size : Int) := by omega
  clear HH kt hcc
  have hR : R = 2 := by rw [HE1.out, if_neg g4, if_pos g5]
  subst hR
  clear HE1
  go_enter Tryz.func271, Tryz.ntmps271
  go_wp2
  go_ret
  exact ⟨rfl, hB⟩
 have hz5 : ¬ (4096 : Int) < (mc.size : Int) := by omega
 by_cases g6 : 32 < mh.length
 ·have hz : (32 : Int) < (mh.length : Int) := by omega
  clear HH kt hcc
  have hR : R = 3 := by rw [HE1.out, if_neg g4, if_neg g5, if_pos g6]
  subst hR
  clear HE1
  go_enter Tryz.func271, Tryz.ntmps271
  go_wp2
  go_ret
  exact ⟨rfl, hB⟩
 have hz6 : ¬ (32 : Int) < (mh.length : Int) := by omega
 have HF := Lib.hid (show Sp.handS pool mc.size mh = R by rw [HE1.out, if_neg g4, if_neg g5, if_neg g6])
 clear HE1 g4 g5 g6
 go_enter Tryz.func271, Tryz.ntmps271
 go_wp2
 go_loopw [5] (fun v5 wr => ∃ k : Nat, v5 = .int .i64 k ∧ k ≤ mh.length ∧ Below w.heap.size w wr ∧ Hid (wr.heap[w.heap.size]? = some (.cells (flC ⟨qA, qc, qI, qd, qX, qe, qY, qg⟩ ⟨pool, fl, th, su, ifs, flds, mths⟩) 26 (0, 0))) ∧ Hid (wr.heap[w.heap.size + 1]? = some (.cells #[.int .i64 mf, .int .i64 mn, .int .i64 md, .int .i64 ms, .int .i64 ml, .string mc, .slice mA mh.length mcap] 131 (0, 0))) ∧ Hid (Sp.handS pool mc.size (mh.drop k) = R)) (fun v5 _ => mh.length - (RowKit.intOf v5).toNat)
 case atStart => exact ⟨0, by go_num, Nat.zero_le _, hB, hK, hL, HF⟩
 case round =>
  clear hB hK hL HF
  obtain ⟨k, rfl, hk, hb, hK, hL, hf⟩ := hrel
  have hbz := hb.size
  have hlb := blk_lt hK.out
  have hll := blk_lt hL.out
  obtain ⟨c0, c1, c2, c3, c4, c5, c6⟩ := flC_box hK.out
  have e5 := (blk_cell hL.out 5 (.string mc) rfl).1
  have e6 := (blk_cell hL.out 6 (.slice mA mh.length mcap) rfl).1
  by_cases hlt : k < mh.length
  ·obtain ⟨b, o, rfl, hrg⟩ := HH.out (by omega)
   obtain ⟨d0, d1, d2, d3⟩ := hn_cells hrg hlt
   have D0 := cell_below hb d0
   have D1 := cell_below hb d1
   have D2 := cell_below hb d2
   have D3 := cell_below hb d3
   have hzk : (k : Int) < (mh.length : Int) := by omega
   have hin := hcc.out _ (List.getElem_mem hlt)
   have hd : mh.drop k = mh[k] :: mh.drop (k + 1) := List.drop_eq_getElem_cons hlt
   have hf2 := hf.out
   rw [hd, Sp.handS] at hf2
   clear hf hd hrg d0 d1 d2 d3
   generalize mh[k] = h at *
   obtain ⟨hfr, hto, hat, hcl⟩ := h
   simp only [] at D0 D1 D2 D3 hin hf2
   have hf3 := Lib.hid hf2
   clear hf2
   by_cases p0 : hfr < 0
   ·have hR : R = 1 := by rw [← hf3.out, if_pos (by omega)]
    subst hR
    clear hf3
    go_wp2
    go_ret
    exact ⟨rfl, hb.alloc hbz _⟩
   by_cases p1 : hto ≤ hfr
   ·have hR : R = 1 := by rw [← hf3.out, if_pos (by omega)]
    subst hR
    clear hf3
    go_wp2
    go_ret
    exact ⟨rfl, hb.alloc hbz _⟩
   by_cases p2 : (mc.size : Int) < hto
   ·have hR : R = 1 := by rw [← hf3.out, if_pos (by omega)]
    subst hR
    clear hf3
    go_wp2
    go_ret
    exact ⟨rfl, hb.alloc hbz _⟩
   by_cases p3 : hat < 0
   ·have hR : R = 1 := by rw [← hf3.out, if_pos (by omega)]
    subst hR
    clear hf3
    go_wp2
    go_ret
    exact ⟨rfl, hb.alloc hbz _⟩
   by_cases p4 : (mc.size : Int) ≤ hat
   ·have hR : R = 1 := by rw [← hf3.out, if_pos (by omega)]
    subst hR
    clear hf3
    go_wp2
    go_ret
    exact ⟨rfl, hb.alloc hbz _⟩
   have hf4 := Lib.hid hf3.out
   rw [if_neg (by omega)] at hf4
   clear hf3
   have ka := Lib.hid (fun W hr => kt.out hcl hin W hr)
   generalize Sp.taggedS pool hcl 4 = ty at *
   have hbt := hb.alloc hbz (.cells #[.int .i64 hfr, .int .i64 hto, .int .i64 hat, .int .i64 hcl] 239)
   have hKt := Lib.hid (blk_old (o := .cells #[.int .i64 hfr, .int .i64 hto, .int .i64 hat, .int .i64 hcl] 239) hK.out)
   have hLt := Lib.hid (blk_old (o := .cells #[.int .i64 hfr, .int .i64 hto, .int .i64 hat, .int .i64 hcl] 239) hL.out)
   have hTt := Lib.hid (blk_new wr (.cells #[.int .i64 hfr, .int .i64 hto, .int .i64 hat, .int .i64 hcl] 239))
   have hbtz := hbt.size
   have hrw := Lib.hid (rdF_below hr0.out (show Below w.heap.size w _ from hbt))
   go_wp2_with fail
   refine (ka.out _ hrw.out).mono ?_
   rintro e w4 ⟨rfl, hb4⟩
   have K4 := Lib.hid (blk_below hKt.out hb4)
   have L4 := Lib.hid (blk_below hLt.out hb4)
   have T4 := Lib.hid (blk_below hTt.out hb4)
   have B4 := below_then hbt hbtz hb4
   clear hK hL hb hb4 ka hrw hbt hKt hLt hTt hbtz c0 c1 c2 c3 c4 c5 c6 D0 D1 D2 D3 e5 e6 hlb hll p0 p1 p2 p3 p4
   have t3 := (blk_cell T4.out 3 (.int .i64 hcl) rfl).1
   by_cases hc0 : hcl = 0
   ·have hf5 := Lib.hid (show Sp.handS pool mc.size (mh.drop (k + 1)) = R by rw [← hf4.out, if_neg (by rintro ⟨h, _⟩; exact h hc0)])
    subst hc0
    clear hf4
    go_wp2
    go_roundw
    case rel => exact ⟨k + 1, by go_num, by omega, B4, K4, L4, hf5⟩
    case measure => simp [RowKit.intOf]; omega
   ·have hcb : (hcl != 0) = true := by simp [hc0]
    cases ty with
    | false =>
     have hR : R = 7 := by rw [← hf4.out, if_pos ⟨hc0, rfl⟩]
     subst hR
     clear hf4
     go_wp2
     go_ret
     exact ⟨rfl, B4⟩
    | true =>
     have hf5 := Lib.hid (show Sp.handS pool mc.size (mh.drop (k + 1)) = R by rw [← hf4.out, if_neg (by rintro ⟨_, h⟩; cases h)])
     clear hf4
     go_wp2
     go_roundw
     case rel => exact ⟨k + 1, by go_num, by omega, B4, K4, L4, hf5⟩
     case measure => simp [RowKit.intOf]; omega
  ·obtain rfl : k = mh.length := by omega
   have hzk : ¬ (mh.length : Int) < (mh.length : Int) := by omega
   have hR : R = 0 := by rw [← hf.out, List.drop_length]; rfl
   subst hR
   clear hf
   go_wp2
   go_ret
   exact ⟨rfl, hb⟩
end Go.Proofs.YtjjlcoimaihdoaaGreatDoor
