/-
  The law StrtabKeeps: its walk.
-/
import Derived.Test.YtokkpdjbgaicmaaDoorWalkStrtabPlays
import Derived.Laws.EntriesVeiled
import Derived.Outline
set_option linter.unusedVariables false
set_option linter.unusedSimpArgs false
namespace Go.Proofs.YtokkpdjbgaicmaaDoor
open Go.RowKit Go.Lib Go.Maps

/-- The counter, the function that is asked, what it holds. -/
structure KpI (ab ib gb : Nat) (A : Option Addr) (c : Nat) (l : List Int) (k : Nat) (W : World) : Prop where
  n : W.heap[ab]? = some (.cells #[.int .i64 k] 3 (0, 0))
  f : W.cell? ⟨ib, 0, none⟩ = some (.func (.func 23) #[] #[.pointer (some ⟨gb, 0, none⟩)])
  g : OfI gb A c l W
set_option maxHeartbeats 4000000 in
theorem keeps1_any (ab ib gb : Nat) (A : Option Addr) (c : Nat) (l : List Int) (k : Nat) (a : Int) (w : World) (h : KpI ab ib gb A c l k w) (hk : k ≤ 1000000) (hi : ib ≠ ab) (hg : gb ≠ ab) (hA : ∀ g o, A = some ⟨g, o, none⟩ → 0 < l.length → g ≠ ab) :
    Calls Tryd.prog 19 #[.int .i64 a, .pointer (some ⟨ab, 0, none⟩), .pointer (some ⟨ib, 0, none⟩)] w fun e w' => e = .returned (.bool (Sp.isIn l a)) ∧ KpI ab ib gb A c l (k + 1) w' ∧ Keeps (fun i => i = ab) w w' := by
  obtain ⟨c0, f0⟩ := blk_cell h.n 0 (.int .i64 k) rfl
  have ci := h.f
  have K := Lib.hid ((Keeps.refl (fun i => i = ab) w).setCell (a := ⟨ab, 0, none⟩) (.inl rfl) (.int .i64 ((k : Int) + 1)))
  have hG : Hid (OfI gb A c l (w.setCell ⟨ab, 0, none⟩ (.int .i64 ((k : Int) + 1)))) := Lib.hid ⟨K.out.cell h.g.1 hg, rdN_keeps h.g.2 K.out hA⟩
  have hN := Lib.hid (blk_set (i := 0) h.n (.int .i64 ((k : Int) + 1)))
  have hF := Lib.hid (K.out.cell h.f hi)
  have hb := Lib.hid (World.block_lt_of_cell? _ _ h.f)
  have hne : ¬ ab = ib := fun q => hi q.symm
  have hkz : (k : Int) ≤ 1000000 := by omega
  clear h
  have hent : ∀ (args : Array Value) W, (callFunc 23 args).run Tryd.prog W = .ok (.enter 23 args) W := fun args W => by kernel_rfl
  go_enter Tryd.func19, Tryd.ntmps19
  go_wp2_with fail
  refine (of1_any A c l a gb _ hG.out.1 hG.out.2).mono ?_
  rintro e w' ⟨rfl, rfl⟩
  go_wp2
  go_ret
  exact ⟨rfl, ⟨by have := hN.out; simpa using this, hF.out, hG.out⟩, K.out⟩
theorem keeps_gone (ab ib gb : Nat) (A : Option Addr) (c : Nat) (l : List Int) (U : Nat → Prop) (hi : ib ≠ ab) (hg : gb ≠ ab) (hA : ∀ g o, A = some ⟨g, o, none⟩ → 0 < l.length → g ≠ ab ∧ ¬ U g) (h1 : ¬ U ab) (h2 : ¬ U ib) (h3 : ¬ U gb) :
    Gone 19 #[.pointer (some ⟨ab, 0, none⟩), .pointer (some ⟨ib, 0, none⟩)] (Sp.isIn l) (fun k W => KpI ab ib gb A c l k W) (fun i => i = ab) U :=
  ⟨fun k W a hk hI _ => keeps1_any ab ib gb A c l k a W hI (by omega) hi hg (fun g o h h0 => (hA g o h h0).1), fun k W W' hI hK => ⟨hK.obj hI.n h1, hK.cell hI.f h2, hK.cell hI.g.1 h3, rdN_keeps hI.g.2 hK (fun g o h h0 => (hA g o h h0).2)⟩, fun args W => by kernel_rfl⟩

namespace Sp
/-- The entries stand at 1, 2, .. -/
def Num (E : List En) : Prop := ∀ j (h : j < E.length), E[j].2 = (j : Int) + 1
theorem num_snoc {E : List En} (h : Num E) (t : ByteArray) : Num (E ++ [(t, (E.length : Int) + 1)]) := by
  intro j hj
  by_cases q : j < E.length
  · rw [List.getElem_append_left q]; exact h j q
  · have : j = E.length := by simp at hj; omega
    subst this
    simp
theorem num_len {E : List En} (h : Num E) : lenA E ((E.length : Int) + 1) = none := by
  rw [lenA_none]
  intro e he
  obtain ⟨j, hj, rfl⟩ := List.getElem_of_mem he
  rw [h j hj]
  omega
theorem num_in64 {E : List En} (h : Num E) (hl : E.length ≤ 1000) : ∀ e ∈ E, -9223372036854775808 ≤ e.2 ∧ e.2 ≤ 9223372036854775807 := by
  intro e he
  obtain ⟨j, hj, rfl⟩ := List.getElem_of_mem he
  rw [h j hj]
  omega
/-- Is a text among some? -/
def known (E : List En) (t : ByteArray) : Bool := E.any fun e => decide (e.1 = t)
theorem known_at (E : List En) (t : ByteArray) : (atT E t).isSome = known E t := by
  induction E with
  | nil => rfl
  | cons e E ih =>
    simp only [atT, known, List.any_cons]
    by_cases q : e.1 = t
    · rw [if_pos q, decide_eq_true q]; rfl
    · rw [if_neg q, decide_eq_false q, ih]; rfl
theorem known_take (E : List En) (t : ByteArray) (k : Nat) (h : k < E.length) : known (E.take (k + 1)) t = (known (E.take k) t || decide (E[k].1 = t)) := by
  unfold known
  rw [List.take_succ_eq_append_getElem h, List.any_append]
  simp
theorem enter_num {E : List En} (h : Num E) (hl : E.length ≤ 1000) (t : ByteArray) : enterS E t ((E.length : Int) + 1) = if validD t.data.toList = false then 4 else if known E t = true then 15 else 0 := by
  unfold enterS
  split
  · rfl
  · rw [if_neg (by omega), num_len h, known_at, if_neg (show ¬ 1048576 ≤ E.length by omega)]
    simp
theorem both_len (g : Int → Bool) (E : List En) : (outE g E E.length).length + (keptE g E E.length).length = E.length := by
  unfold outE keptE
  rw [List.take_length, List.length_map]
  induction E with
  | nil => rfl
  | cons e E ih =>
    simp only [List.filter_cons, List.length_cons]
    cases g e.2 <;> simp <;> omega
theorem kept_get (g : Int → Bool) (E : List En) (k : Nat) (h : k < E.length) (hg : g E[k].2 = false) : ∃ (hn : (keptE g E k).length < (keptE g E E.length).length), (keptE g E E.length)[(keptE g E k).length] = E[k] := by
  have h1 : keptE g E E.length = keptE g E k ++ E[k] :: (E.drop (k + 1)).filter (fun e => !g e.2) := by
    unfold keptE
    rw [List.take_length]
    conv => lhs; rw [← List.take_append_drop k E, List.filter_append, List.drop_eq_getElem_cons h, List.filter_cons, hg]
    rfl
  have hn : (keptE g E k).length < (keptE g E E.length).length := by rw [h1]; simp
  refine ⟨hn, ?_⟩
  simp only [h1]
  simp
theorem kept_at (g : Int → Bool) (E : List En) (hD : Dist E) (k : Nat) (h : k < E.length) : atT (keptE g E E.length) E[k].1 = if g E[k].2 = true then none else some E[k].2 := by
  have hsub : (keptE g E E.length).Sublist E := by unfold keptE; rw [List.take_length]; exact List.filter_sublist
  cases hg : g E[k].2 with
  | true =>
    rw [if_pos rfl, atT_none]
    intro e he q
    have hE := hsub.subset he
    obtain ⟨j, hj, rfl⟩ := List.getElem_of_mem hE
    have : j = k := by
      by_cases hjk : j = k
      · exact hjk
      · rcases Nat.lt_or_ge j k with r | r
        · exact absurd q (List.pairwise_iff_getElem.1 hD j k hj h r).1
        · exact absurd q.symm (List.pairwise_iff_getElem.1 hD k j h hj (by omega)).1
    subst this
    unfold keptE at he
    have := (List.mem_filter.1 he).2
    simp [hg] at this
  | false =>
    rw [if_neg (by simp)]
    obtain ⟨hn, hk⟩ := kept_get g E k h hg
    have hd : Dist (keptE g E E.length) := hD.sublist hsub
    have hsp : keptE g E E.length = (keptE g E E.length).take (keptE g E k).length ++ E[k] :: (keptE g E E.length).drop ((keptE g E k).length + 1) := by
      conv => lhs; rw [← List.take_append_drop (keptE g E k).length (keptE g E E.length), List.drop_eq_getElem_cons hn, hk]
    have := atT_mid (P := (keptE g E E.length).take (keptE g E k).length) (e := E[k]) (D := (keptE g E E.length).drop ((keptE g E k).length + 1)) (by rw [← hsp]; exact hd)
    rwa [← hsp] at this
end Sp

set_option maxHeartbeats 32000000 in
set_option maxRecDepth 100000 in
theorem walkStrtabKeeps (A : Option Addr) (c : Nat) (l : List ByteArray) (G : Option Addr) (gc : Nat) (gn : List Int) (w : World) (hl : RdL strC w A l) (hg : RdN .i64 w G gn) (hT : Tabs w) :
    Calls Tryd.prog 4 #[.slice A l.length c, .slice G gn.length gc] w fun e w' => e = .returned (.bool true) ∧ Below w.heap.size w w' := by
  obtain ⟨i0, hi, hz0, hz1, hz2⟩ := info_parts infoStr
  have T0 := Lib.hid hT
  have hll := hl.1
  have hgl := hg.1
  have HL := Lib.hid hl.2
  have HG := Lib.hid hg
  clear hT hl hg
  go_enter Tryd.func4, Tryd.ntmps4
  go_wp2_with fail
  refine (shown16_any _ T0.out).mono ?_
  rintro e w0 ⟨rfl, hb0⟩
  have B0 := Lib.hid hb0
  clear hb0
  go_wp2_with fail
  refine (new_any _).mono ?_
  rintro e w1 ⟨tb, ba, bo, rfl, hb1, t1⟩
  have HT1 := Lib.hid t1
  have B1 := Lib.hid (below_then B0.out B0.out.size hb1)
  have D1 : Hid (∀ i, (fun k => w0.heap.size ≤ k ∧ k < w1.heap.size) i → w.heap.size ≤ i) := Lib.hid (fun i q => Nat.le_trans B0.out.size q.1)
  clear B0 hb1 t1
  generalize (fun k => w0.heap.size ≤ k ∧ k < w1.heap.size) = S1 at *
  go_wp2_with fail
  go_loopw [7, 8] (fun v7 v8 wr => ∃ (k : Nat) (E : List Sp.En) (S : Nat → Prop) (A1 : Option Addr) (c1 : Nat), v8 = .int .i64 k ∧ k ≤ l.length ∧ k ≤ 100 ∧ E.length ≤ k ∧ wr.ownsRow w.heap.size 9 1 v7 E.length (E.map fun e => .string e.1) ∧ Hid (∀ b, v7.ownBlock = some b → ¬ S b) ∧ Hid (TabAt wr S tb k E ba bo A1 c1) ∧ Hid (∀ i, S i → w.heap.size ≤ i) ∧ Hid (Sp.Dist E) ∧ Hid (Sp.Num E) ∧ Hid (Below w.heap.size w wr)) (fun _ v8 _ => l.length - (RowKit.intOf v8).toNat)
  case atStart => exact ⟨0, [], S1, none, 0, by go_num, Nat.zero_le _, by decide, Nat.le_refl _, ⟨by simp, .inl ⟨rfl, rfl⟩⟩, Lib.hid (fun b hb => by cases hb), HT1, D1, Lib.hid List.Pairwise.nil, Lib.hid (fun j h => by simp at h), B1⟩
  case round =>
    clear HT1 D1 B1
    obtain ⟨k, E, S, A1, c1, rfl, hk, hk2, hkE, hown, hnS, HT, HS, HD, HN, HB⟩ := hrel
    have hend : ((k : Int) < (l.length : Int) ∧ (k : Int) < 100) ∨ (¬ (k : Int) < (l.length : Int)) ∨ ((k : Int) < (l.length : Int) ∧ ¬ (k : Int) < 100) := by omega
    rcases hend with ⟨hz, hzq⟩ | hend
    · have hlt : k < l.length := by omega
      obtain ⟨b, o, rfl, hrg⟩ := HL.out (by omega)
      have d0 : wr.cell? ⟨b, o + k, none⟩ = some (.string l[k]) := by
        have := rdL_get 1 strC_len hrg hlt 0 (by decide) rfl
        exact cell_below HB.out (by simpa using this)
      have hbw := Lib.hid (World.block_lt_of_cell? _ _ (rdL_get 1 strC_len hrg hlt 0 (by decide) rfl))
      clear hrg
      generalize l[k] = tx at *
      by_cases hbig : 1000 < tx.size
      · have hb1 : (1000 : Int) < (tx.size : Int) := by omega
        have HT2 := Lib.hid (tab_mono HT.out (fun _ q => q) HT.out.lt (Nat.le_succ k))
        go_wp2_with fail
        go_roundw
        case rel => exact ⟨k + 1, E, S, A1, c1, by go_num, by omega, by omega, by omega, hown, hnS, HT2, HS, HD, HN, HB⟩
        case measure => simp [RowKit.intOf]; omega
      have hb1 : ¬ (1000 : Int) < (tx.size : Int) := by omega
      obtain ⟨Ai, ci, rfl⟩ := own_sl hown
      have hrI : Hid (RdL strC wr Ai (E.map (·.1))) := Lib.hid (own_rdL strC_len (by decide) (by rw [strC_flat, List.map_map]; exact hown)).2
      obtain ⟨wo, hwo⟩ : ∃ wo : World, wo = wr := ⟨_, rfl⟩
      subst hwo
      have hEl : E.length ≤ 1000 := by omega
      go_wp2_with fail
      go_loopw [9, 10] (fun v9 v10 wx => ∃ (j nd : Nat) (q : Bool), v9 = .bool q ∧ v10 = .int .i64 j ∧ j ≤ E.length ∧ wx = wo.drewN nd ∧ Hid (q = Sp.known (E.take j) tx)) (fun _ v10 _ => E.length - (RowKit.intOf v10).toNat)
      case atStart => exact ⟨0, 0, false, rfl, by go_num, Nat.zero_le _, rfl, Lib.hid rfl⟩
      case round =>
        obtain ⟨j, nd, q, rfl, rfl, hj, rfl, hq⟩ := hrel
        by_cases hjt : j < E.length
        · obtain ⟨bi, oi, rfl, hri⟩ := hrI.out.2 (by simp; omega)
          have e0 : wo.cell? ⟨bi, oi + j, none⟩ = some (.string E[j].1) := by
            have := rdL_get 1 strC_len hri (j := j) (by simpa using hjt) 0 (by decide) rfl
            simpa using this
          have hin := Lib.hid (Sp.known_take E tx j hjt)
          have hzj : (j : Int) < (E.length : Int) := by omega
          clear hri
          generalize E[j].1 = x at *
          cases q with
          | true =>
            have hin2 := Lib.hid (show true = Sp.known (E.take (j + 1)) tx by rw [hin.out, ← hq.out]; rfl)
            clear hin hq
            go_wp2_with fail
            go_quiet (fail)
            go_wp2_with fail
            go_roundw
            case rel => exact ⟨j + 1, nd + nq, true, rfl, by go_num, by omega, by first | rfl | (simp [World.drewN, Nat.add_assoc]), hin2⟩
            case measure => simp [RowKit.intOf]; omega
          | false =>
            have hin2 := Lib.hid (show (x.toList == tx.toList) = Sp.known (E.take (j + 1)) tx by rw [hin.out, ← hq.out, str_eqb]; rfl)
            clear hin hq
            go_wp2_with fail
            go_quiet (fail)
            go_wp2_with fail
            go_roundw
            case rel => exact ⟨j + 1, nd + nq, (x.toList == tx.toList), by first | rfl | (simp; done), by go_num, by omega, by first | rfl | (simp [World.drewN, Nat.add_assoc]), hin2⟩
            case measure => simp [RowKit.intOf]; omega
        · obtain rfl : j = E.length := by omega
          have hzj : ¬ (E.length : Int) < (E.length : Int) := by omega
          have hqq : Hid (q = Sp.known E tx) := Lib.hid (by rw [hq.out, List.take_length])
          have hown2 : (wo.drewN nd).ownsRow w.heap.size 9 1 (.slice Ai E.length ci) E.length (E.map fun e => .string e.1) := hown
          have HB2 := Lib.hid (below_drewNv HB.out nd)
          have K02 := Lib.hid ((Keeps.refl noS wo).drewN nd)
          have HT2 := Lib.hid (tab_keeps HT.out K02.out (fun _ _ r => r))
          have D0 : (wo.drewN nd).cell? ⟨b, o + k, none⟩ = some (.string tx) := d0
          clear hown HB HT d0 hq hrI K02
          generalize wo.drewN nd = W2 at *
          have kR := Lib.hid (fun W => refRunes_any tx W (by omega))
          rw [Sp.refRunes_eq] at kR
          simp only [] at kR
          have hER := Lib.hid (Sp.enter_num HN.out hEl tx)
          generalize validD tx.data.toList = V at *
          generalize Sp.runes tx = rs at *
          go_wp2_with fail
          refine (kR.out _).mono ?_
          rintro e w2 ⟨A3, c3, rfl, _, hb2⟩
          have HT3 := Lib.hid (tab_keeps HT2.out (Keeps.of_below (S := noS) hb2) (fun _ _ r => r))
          have hown3 := own_below hown2 hb2
          have HB3 := Lib.hid (below_then HB2.out HB2.out.size hb2)
          have D3 := cell_below hb2 D0
          clear HT2 hown2 HB2 hb2 D0 kR
          have kE := Lib.hid (enter_any S tb k E ba bo A1 c1 tx ((E.length : Int) + 1) w2 HT3.out (by omega) (by omega) (by omega) (T0.out.below HB3.out))
          have hnx : Hid (Sp.nextE E tx ((E.length : Int) + 1) = if Sp.enterS E tx ((E.length : Int) + 1) = 0 then E ++ [(tx, (E.length : Int) + 1)] else E) := Lib.hid rfl
          have hdn := Lib.hid (Sp.dist_next HD.out tx ((E.length : Int) + 1))
          rw [hnx.out] at kE hdn
          have hcom : IntKind.i64.wrap (1 + (E.length : Int)) = (E.length : Int) + 1 := by rw [IntWalk.i64_in _ (by omega)]; omega
          have hcom2 : 1 + (E.length : Int) = (E.length : Int) + 1 := by omega
          have hE63 : (E.length : Int) ≤ 1000 := by omega
          generalize Sp.enterS E tx ((E.length : Int) + 1) = er at *
          generalize hze : (E.length : Int) + 1 = e1 at *
          go_wp2_with fail
          cases V with
          | false =>
            have her : er = 4 := by rw [hER.out, if_pos rfl]
            subst her
            refine kE.out.mono ?_
            rintro e w3 ⟨A', c', rfl, k3, t3⟩
            rw [if_neg (by decide)] at t3
            have B3 := Lib.hid (grow_low (w := w) HB3.out HS.out k3).1
            have GS := Lib.hid (grow_low (w := w) HB3.out HS.out k3).2
            have t3' := Lib.hid t3
            have hno3 : Hid (∀ b, (Value.slice Ai E.length ci).ownBlock = some b → ¬ Grow S w2 w3 b) := Lib.hid (fun b hb q => q.elim (hnS.out b hb) (fun r => by have := (hown3.lt b hb).2; omega))
            have hown4 := k3.row hown3 (fun i hi => hnS.out i hi)
            clear kE t3 k3 hown3 D3 HB3 HT3 hER hnx hdn
            go_wp2_with fail
            go_roundw
            case rel => exact ⟨k + 1, E, _, A', c', by go_num, by omega, by omega, by omega, hown4, hno3, t3', GS, HD, HN, B3⟩
            case measure => simp [RowKit.intOf]; omega
          | true =>
          cases q with
          | true =>
            have her : er = 15 := by rw [hER.out, if_neg (by decide), ← hqq.out, if_pos rfl]
            subst her
            refine kE.out.mono ?_
            rintro e w3 ⟨A', c', rfl, k3, t3⟩
            rw [if_neg (by decide)] at t3
            have B3 := Lib.hid (grow_low (w := w) HB3.out HS.out k3).1
            have GS := Lib.hid (grow_low (w := w) HB3.out HS.out k3).2
            have t3' := Lib.hid t3
            have hno3 : Hid (∀ b, (Value.slice Ai E.length ci).ownBlock = some b → ¬ Grow S w2 w3 b) := Lib.hid (fun b hb q => q.elim (hnS.out b hb) (fun r => by have := (hown3.lt b hb).2; omega))
            have hown4 := k3.row hown3 (fun i hi => hnS.out i hi)
            clear kE t3 k3 hown3 D3 HB3 HT3 hER hnx hdn
            go_wp2_with fail
            go_roundw
            case rel => exact ⟨k + 1, E, _, A', c', by go_num, by omega, by omega, by omega, hown4, hno3, t3', GS, HD, HN, B3⟩
            case measure => simp [RowKit.intOf]; omega
          | false =>
            have her : er = 0 := by rw [hER.out, if_neg (by decide), ← hqq.out, if_neg (by decide)]
            subst her
            refine kE.out.mono ?_
            rintro e w3 ⟨A', c', rfl, k3, t3⟩
            rw [if_pos rfl] at t3 hdn
            have B3 := Lib.hid (grow_low (w := w) HB3.out HS.out k3).1
            have GS := Lib.hid (grow_low (w := w) HB3.out HS.out k3).2
            have t3' := Lib.hid t3
            have hno3 : Hid (∀ b, (Value.slice Ai E.length ci).ownBlock = some b → ¬ Grow S w2 w3 b) := Lib.hid (fun b hb q => q.elim (hnS.out b hb) (fun r => by have := (hown3.lt b hb).2; omega))
            have hown4 := k3.row hown3 (fun i hi => hnS.out i hi)
            have D4 := k3.cell D3 (fun r => by have h1 : w.heap.size ≤ b := HS.out _ r; have := hbw.out; omega)
            clear kE t3 k3 hown3 D3 HB3 HT3 hER hnx
            go_wp2_with (at_builtin; refine wpList_append_own_at _ rfl _ _ 36 rfl w.heap.size 9 i0 (.string ⟨#[]⟩) 1 16 Tryd.underlying36 hi hz0 hz1 hz2 rfl (by decide) _ E.length (E.map fun e => .string e.1) rfl (hown4.alloc _) ⟨w3.heap.size, 0, none⟩ 1 1 [.string tx] rfl rfl ?x2 ?x3 ?x4 ?x5 ?x6 ?_)
            try case x2 =>
              intro j u hj
              match j, hj with
              | 0, hj => simp at hj; subst hj; simp [Addr.add]
              | (j + 1), hj => simp at hj
            try case x3 => first | (intro u hu; simp at hu; subst hu; rfl) | rfl
            try case x4 => unfold maxLen; omega
            try case x5 => omega
            try case x6 => have := B3.out.size; first | omega | (simp; omega)
            intro v' w4 hown' hg4 _ hat4
            have K4 := Lib.hid (((Keeps.refl (fun i => (Value.slice Ai E.length ci).ownBlock = some i) w3).alloc (.cells #[.string tx] 9)).trans (Keeps.of_grown (S := fun i => (Value.slice Ai E.length ci).ownBlock = some i) hg4 (fun kk hk => .inl hk)))
            have t4 := Lib.hid (tab_keeps t3'.out K4.out (fun i q r => hno3.out i r q))
            have B4 := Lib.hid (B3.out.trans (K4.out.below B3.out.size (fun i hi => own_base hown4 i hi)))
            have hno4 : Hid (∀ b, v'.ownBlock = some b → ¬ Grow S w2 w3 b) := Lib.hid (by
              intro b hb q
              rcases hat4 with r | r
              · exact hno3.out b (r ▸ hb) q
              · have := t3'.out.lt b q
                rw [hb] at r
                injection r with r
                (try simp at r)
                omega)
            have hnm : Hid (Sp.Num (E ++ [(tx, e1)])) := Lib.hid (by rw [← hze]; exact Sp.num_snoc HN.out tx)
            have hv' := Lib.hid hown'
            clear hg4 hat4 hown' hown4 K4 D4 t3'
            go_wp2_with fail
            go_roundw
            case rel => exact ⟨k + 1, E ++ [(tx, e1)], _, A', c', by go_num, by omega, by omega, by simp; omega, by simpa using hv'.out, hno4, t4, GS, hdn, hnm, B4⟩
            case measure => simp [RowKit.intOf]; omega
    · have HT0 := Lib.hid HT.out.sm
      have hkl : ∃ wf : World, wf = wr := ⟨_, rfl⟩
      obtain ⟨Ai, ci, rfl⟩ := own_sl hown
      have hEl : E.length ≤ 1000 := by omega
      have hrg : Hid (∀ g o, G = some ⟨g, o, none⟩ → 0 < gn.length → g < w.heap.size) := Lib.hid (by
        intro g o hg h0
        obtain ⟨b', o', hb', hc'⟩ := HG.out.2 h0
        rw [hg] at hb'
        cases hb'
        exact World.block_lt_of_cell? _ _ (hc' 0 h0))
      have hfin : ∀ (Q : Prop), ((¬ (k : Int) < (l.length : Int)) → Q) → (((k : Int) < (l.length : Int) ∧ ¬ (k : Int) < 100) → Q) → Q := fun Q h1 h2 => hend.elim h1 h2
      clear hfin hkl
      rcases hend with hz | ⟨hz, hzq⟩
      all_goals
        go_wp2_with (first | (go_at_call 11; refine (of_any _ _ _ _).mono ?_; rintro e w' ⟨rfl, rfl⟩))
        have hW := Lib.hid (((Keeps.refl noS wr).alloc (.cells #[.int .i64 0] 3)).alloc (.cells #[.slice G gn.length gc] 30) |>.alloc (.cells #[.func (.func 23) #[] #[.pointer (some ⟨wr.heap.size + 1, 0, none⟩)]] 38))
        have hsz3 : (((wr.alloc (.cells #[.int .i64 0] 3)).alloc (.cells #[.slice G gn.length gc] 30)).alloc (.cells #[.func (.func 23) #[] #[.pointer (some ⟨wr.heap.size + 1, 0, none⟩)]] 38)).heap.size = wr.heap.size + 3 := by simp
        have n1 := Lib.hid (blk_old (o := .cells #[.func (.func 23) #[] #[.pointer (some ⟨wr.heap.size + 1, 0, none⟩)]] 38) (blk_old (o := .cells #[.slice G gn.length gc] 30) (blk_new wr (.cells #[.int .i64 0] 3))))
        have n2 := blk_old (o := .cells #[.func (.func 23) #[] #[.pointer (some ⟨wr.heap.size + 1, 0, none⟩)]] 38) (blk_new (wr.alloc (.cells #[.int .i64 0] 3)) (.cells #[.slice G gn.length gc] 30))
        rw [show (wr.alloc (.cells #[.int .i64 0] 3)).heap.size = wr.heap.size + 1 by simp] at n2
        have n3 := blk_new ((wr.alloc (.cells #[.int .i64 0] 3)).alloc (.cells #[.slice G gn.length gc] 30)) (.cells #[.func (.func 23) #[] #[.pointer (some ⟨wr.heap.size + 1, 0, none⟩)]] 38)
        rw [show ((wr.alloc (.cells #[.int .i64 0] 3)).alloc (.cells #[.slice G gn.length gc] 30)).heap.size = wr.heap.size + 1 + 1 by simp] at n3
        have N2 := Lib.hid n2
        have N3 := Lib.hid n3
        clear n2 n3
        generalize ((wr.alloc (.cells #[.int .i64 0] 3)).alloc (.cells #[.slice G gn.length gc] 30)).alloc (.cells #[.func (.func 23) #[] #[.pointer (some ⟨wr.heap.size + 1, 0, none⟩)]] 38) = W at *
        have TW := Lib.hid (tab_keeps HT.out hW.out (fun _ _ r => r))
        have BW := Lib.hid (HB.out.trans (hW.out.below HB.out.size (fun i r => r.elim)))
        have ownW := hW.out.row hown (fun _ _ r => r)
        have GW := Lib.hid (rdN_below HG.out BW.out)
        have hSl := Lib.hid (fun i (q : S i) => HT.out.lt i q)
        have hlow : Hid (∀ i, i < W.heap.size → wr.heap.size ≤ i → ¬ (S i ∨ W.heap.size ≤ i)) := Lib.hid (fun i h1 h2 q => q.elim (fun r => by have := hSl.out i r; omega) (fun r => by omega))
        have hGU : Hid (∀ g o, G = some ⟨g, o, none⟩ → 0 < gn.length → g ≠ wr.heap.size ∧ ¬ (S g ∨ W.heap.size ≤ g)) := Lib.hid (fun g o hg h0 => by
          have h1 := hrg.out g o hg h0
          have h2 := HB.out.size
          exact ⟨by omega, fun q => q.elim (fun r => by have := HS.out g r; omega) (fun r => by omega)⟩)
        refine (prune_any S (fun i => i = wr.heap.size) tb k E ba bo A1 c1 19 #[.pointer (some ⟨wr.heap.size, 0, none⟩), .pointer (some ⟨wr.heap.size + 1 + 1, 0, none⟩)] (Sp.isIn gn) (fun k X => KpI wr.heap.size (wr.heap.size + 1 + 1) (wr.heap.size + 1) G gc gn k X) W TW.out HD.out (by omega) (Sp.num_in64 HN.out hEl) (keeps_gone _ _ _ G gc gn _ (by omega) (by omega) hGU.out (hlow.out _ (by omega) (by omega)) (hlow.out _ (by omega) (by omega)) (hlow.out _ (by omega) (by omega))) ⟨n1.out, (blk_cell N3.out 0 _ rfl).1, (blk_cell N2.out 0 _ rfl).1, GW.out⟩ (fun i q => ⟨fun r => by have := hSl.out i r; omega, by omega⟩)).mono ?_
        rintro e w4 ⟨O, oc, A', c', rfl, ro, hI, k3, t3, fr⟩
        have own4 := k3.row ownW (fun b hb q => q.elim (fun r => hnS.out b hb r) (fun r => by have := (hown.lt b hb).2; omega))
        have B4 := Lib.hid (BW.out.trans (k3.below BW.out.size (fun i q => q.elim (fun r => HS.out i r) (fun r => by have := HB.out.size; omega))))
        have T4 := Lib.hid t3
        have I4 := Lib.hid hI
        clear k3 t3 fr hI ro ownW TW BW GW n1 N2 N3 hW hown HT HB hlow hGU hSl hnS hsz3
        have HD2 := Lib.hid (show Sp.Dist (Sp.keptE (Sp.isIn gn) E E.length) from HD.out.sublist (by unfold Sp.keptE; rw [List.take_length]; exact List.filter_sublist))
        have hsum := Sp.both_len (Sp.isIn gn) E
        go_wp2_with fail
        refine (all_any _ tb k _ ba bo A' c' w4 T4.out HD2.out (by omega)).mono ?_
        rintro e w5 ⟨L, lc, rfl, rl, hb5⟩
        have B5 := Lib.hid (below_then B4.out B4.out.size hb5)
        have T5 := Lib.hid (tab_keeps T4.out (Keeps.of_below (S := noS) hb5) (fun _ _ q => q))
        have rl5 := Lib.hid rl
        have c0 := cell_below hb5 (blk_cell I4.out.n 0 (.int .i64 E.length) rfl).1
        have cI := cell_below hb5 I4.out.f
        have g1 := Lib.hid (cell_below hb5 I4.out.g.1)
        have g2 := Lib.hid (rdN_below I4.out.g.2 hb5)
        have hrI : Hid (RdL strC w5 Ai (E.map (·.1))) := Lib.hid (own_rdL strC_len (by decide) (by rw [strC_flat, List.map_map]; exact own_below own4 hb5)).2
        have hkg := Lib.hid (fun j hj hg => Sp.kept_get (Sp.isIn gn) E j hj hg)
        have hka := Lib.hid (fun j hj => Sp.kept_at (Sp.isIn gn) E HD.out j hj)
        have hks := Lib.hid (fun j hj => Sp.kept_step (Sp.isIn gn) E j hj)
        have hkl := Lib.hid (fun j hj => Sp.kept_le (Sp.isIn gn) E j hj)
        have hs1 : ((Sp.outE (Sp.isIn gn) E E.length).length : Int) + ((Sp.keptE (Sp.isIn gn) E E.length).length : Int) = (E.length : Int) := by omega
        have hs2 : IntKind.i64.wrap (((Sp.outE (Sp.isIn gn) E E.length).length : Int) + ((Sp.keptE (Sp.isIn gn) E E.length).length : Int)) = (E.length : Int) := by rw [hs1]; exact IntWalk.i64_in _ (by omega)
        have ho63 : ((Sp.outE (Sp.isIn gn) E E.length).length : Int) ≤ 1000 := by omega
        have hk63 : ((Sp.keptE (Sp.isIn gn) E E.length).length : Int) ≤ 1000 := by omega
        clear own4 hb5 I4 T4 rl B4 hsum
        generalize (Sp.outE (Sp.isIn gn) E E.length).length = no at *
        go_wp2_with fail
        go_loopw [18, 19] (fun v18 v19 wx => ∃ (j nd : Nat), v18 = .int .i64 (Sp.keptE (Sp.isIn gn) E j).length ∧ v19 = .int .i64 j ∧ j ≤ E.length ∧ wx = w5.drewN nd) (fun _ v19 _ => E.length - (RowKit.intOf v19).toNat)
        case atStart => exact ⟨0, 0, by simp [Sp.keptE], by go_num, Nat.zero_le _, rfl⟩
        case round =>
          obtain ⟨j, nd, rfl, rfl, hj, rfl⟩ := hrel
          by_cases hjt : j < E.length
          · obtain ⟨bi, oi, rfl, hri⟩ := hrI.out.2 (by simp; omega)
            have e0 : w5.cell? ⟨bi, oi + j, none⟩ = some (.string E[j].1) := by
              have := rdL_get 1 strC_len hri (j := j) (by simpa using hjt) 0 (by decide) rfl
              simpa using this
            have hzj : (j : Int) < (E.length : Int) := by omega
            have hnum := HN.out j hjt
            have ha := Lib.hid (hka.out j hjt)
            have hs := Lib.hid (hks.out j hjt)
            have hg := Lib.hid (hkg.out j hjt)
            have hn1 := hkl.out j hj
            have T6 : Hid (TabAt (w5.drewN nd) (Plus S (.slice A' (Sp.keptE (Sp.isIn gn) E E.length).length c')) tb k (Sp.keptE (Sp.isIn gn) E E.length) ba bo A' c') := Lib.hid (tab_keeps T5.out ((Keeps.refl noS w5).drewN nd) (fun _ _ q => q))
            have ksm : E[j].1.size ≤ 1000000 := HT0.out _ (List.getElem_mem hjt)
            have kF := Lib.hid (find_any _ tb k _ ba bo A' c' E[j].1 _ T6.out ksm)
            have kq := Lib.hid (fun n => of1_any G gc gn ((j : Int) + 1) (wr.heap.size + 1) (w5.drewN n) g1.out g2.out)
            have hwj : IntKind.i64.wrap ((j : Int) + 1) = (j : Int) + 1 := IntWalk.i64_in _ (by omega)
            rw [hnum] at ha hs hg
            rw [ha.out] at kF
            clear ha hri T6
            cases hq : Sp.isIn gn ((j : Int) + 1) with
            | true =>
              rw [hq] at kF kq hs
              have hs2 := Lib.hid (show Sp.keptE (Sp.isIn gn) E (j + 1) = Sp.keptE (Sp.isIn gn) E j by rw [hs.out]; simp)
              clear hs hg hq hnum
              generalize E[j] = en at *
              obtain ⟨et, ea⟩ := en
              simp only [] at e0 kF
              go_wp2_with fail
              refine kF.out.mono ?_
              rintro e w' ⟨rfl, rfl⟩
              go_wp2_with fail
              go_quiet ((go_at_call 23; exact (kq.out _).mono (fun e W' h => ⟨h.1, _, h.2⟩)))
              go_wp2_with fail
              go_roundw
              case rel => exact ⟨j + 1, nd + nq, by rw [hs2.out], by go_num, by omega, by first | rfl | (simp [World.drewN, Nat.add_assoc])⟩
              case measure => simp [RowKit.intOf]; omega
            | false =>
              rw [hq] at kF kq hs
              have hs2 := Lib.hid (show (Sp.keptE (Sp.isIn gn) E (j + 1)).length = (Sp.keptE (Sp.isIn gn) E j).length + 1 by rw [hs.out]; simp)
              obtain ⟨hn2, hn3⟩ := hg.out hq
              obtain ⟨bl, ol, rfl, hrl⟩ := rl5.out.2 (by omega)
              have e1 : w5.cell? ⟨bl, ol + (Sp.keptE (Sp.isIn gn) E j).length * 2, none⟩ = some (.string E[j].1) := by
                have := rdL_get 2 Sp.enC_len hrl hn2 0 (by decide) rfl
                rw [hn3] at this
                exact this
              have hn4 : ((Sp.keptE (Sp.isIn gn) E j).length : Int) < ((Sp.keptE (Sp.isIn gn) E E.length).length : Int) := by omega
              have hn5 : decide (((Sp.keptE (Sp.isIn gn) E E.length).length : Int) ≤ ((Sp.keptE (Sp.isIn gn) E j).length : Int)) = false := by rw [decide_eq_false_iff_not]; omega
              have hn7 : decide ((Sp.keptE (Sp.isIn gn) E E.length).length ≤ (Sp.keptE (Sp.isIn gn) E j).length) = false := by rw [decide_eq_false_iff_not]; omega
              have hn6 := Lib.hid hn2
              clear hs hg hq hnum hrl hn2 hn3
              generalize E[j] = en at *
              obtain ⟨et, ea⟩ := en
              simp only [Bool.false_eq_true, if_false, Option.getD_some, Option.isSome_some] at e0 kF e1
              generalize (Sp.keptE (Sp.isIn gn) E j).length = nk at *
              go_wp2_with fail
              refine kF.out.mono ?_
              rintro e w' ⟨rfl, rfl⟩
              go_wp2_with fail
              go_quiet ((go_at_call 23; exact (kq.out _).mono (fun e W' h => ⟨h.1, _, h.2⟩)))
              go_wp2_with fail
              go_roundw
              case rel => exact ⟨j + 1, nd + nq, by rw [hs2.out]; go_num, by go_num, by omega, by first | rfl | (simp [World.drewN, Nat.add_assoc])⟩
              case measure => simp [RowKit.intOf]; omega
          · obtain rfl : j = E.length := by omega
            have hzj : ¬ (E.length : Int) < (E.length : Int) := by omega
            go_wp2_with fail
            go_ret
            exact ⟨rfl, below_drewNv B5.out nd⟩
end Go.Proofs.YtokkpdjbgaicmaaDoor
