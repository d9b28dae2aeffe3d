/-
  The law StrtabPlays: its walk.
-/
import Derived.Test.YtokkpdjbgaicmaaDoorSt9
import Derived.Deep.DeepCutAuto
set_option linter.unusedVariables false
set_option linter.unusedSimpArgs false
namespace Go.Proofs.YtokkpdjbgaicmaaDoor
open Go.RowKit Go.Lib Go.Maps

/-- A call of a script. -/
structure Sp.Op where
  kind : Int
  text : ByteArray
  at_ : Int
  gone : List Int
abbrev Sp.Opp := Sp.Op × Option Addr × Nat
def Sp.opC (o : Sp.Opp) : List Value := [.int .i64 o.1.kind, .string o.1.text, .int .i64 o.1.at_, .slice o.2.1 o.1.gone.length o.2.2]
theorem Sp.opC_len (o : Sp.Opp) : (Sp.opC o).length = 4 := rfl
def Sp.OpOk (o : Sp.Op) : Prop := (-9223372036854775808 ≤ o.kind ∧ o.kind ≤ 9223372036854775807) ∧ (-9223372036854775808 ≤ o.at_ ∧ o.at_ ≤ 9223372036854775807)
theorem rdN_below' {k : IntKind} {B : Nat} {w w1 : World} {A : Option Addr} {xs : List Int} (h : RdN k w A xs) (hb : Below w.heap.size w w1) : RdN k w1 A xs := rdN_below h hb

/-- Both tables, with the same entries, apart from one another and from what was there at w. -/
structure Pl (w wr : World) (tb ba bo rb k : Nat) (E : List Sp.En) (S S' : Nat → Prop) (A1 : Option Addr) (c1 : Nat) (A2 : Option Addr) (c2 : Nat) : Prop where
  T : TabAt wr S tb k E ba bo A1 c1
  R : RTab wr S' rb E A2 c2
  D : ∀ i, S i → w.heap.size ≤ i ∧ ¬ S' i
  D' : ∀ i, S' i → w.heap.size ≤ i
  HD : Sp.Dist E
  HA : ∀ e ∈ E, -9223372036854775808 ≤ e.2 ∧ e.2 ≤ 9223372036854775807
  HB : Below w.heap.size w wr
theorem Pl.later {w wr w' : World} {tb ba bo rb k k' : Nat} {E : List Sp.En} {S S' : Nat → Prop} {A1 : Option Addr} {c1 : Nat} {A2 : Option Addr} {c2 : Nat} (h : Pl w wr tb ba bo rb k E S S' A1 c1 A2 c2) (hb : Below wr.heap.size wr w') (hk : k ≤ k') : Pl w w' tb ba bo rb k' E S S' A1 c1 A2 c2 :=
  ⟨tab_mono (tab_keeps h.T (Keeps.of_below (S := noS) hb) (fun _ _ q => q)) (fun _ q => q) (fun i q => Nat.lt_of_lt_of_le (h.T.lt i q) hb.size) hk, rtab_keeps h.R (Keeps.of_below (S := noS) hb) (fun _ _ q => q), h.D, h.D', h.HD, h.HA, below_then h.HB h.HB.size hb⟩

theorem Pl.drew {w wr : World} {tb ba bo rb k : Nat} {E : List Sp.En} {S S' : Nat → Prop} {A1 : Option Addr} {c1 : Nat} {A2 : Option Addr} {c2 : Nat} (h : Pl w wr tb ba bo rb k E S S' A1 c1 A2 c2) : Pl w wr.drew tb ba bo rb k E S S' A1 c1 A2 c2 :=
  ⟨⟨h.T.box, h.T.row, h.T.mt, h.T.ma, h.T.ne, h.T.sb, h.T.sa, h.T.so, h.T.sr, h.T.lt, h.T.len, h.T.sm⟩, ⟨h.R.box, h.R.row, h.R.sb, h.R.sr, h.R.lt, h.R.len, h.R.sm⟩, h.D, h.D', h.HD, h.HA, h.HB.drew⟩
theorem Pl.drewN {w wr : World} {tb ba bo rb k : Nat} {E : List Sp.En} {S S' : Nat → Prop} {A1 : Option Addr} {c1 : Nat} {A2 : Option Addr} {c2 : Nat} (h : Pl w wr tb ba bo rb k E S S' A1 c1 A2 c2) (n : Nat) : Pl w (wr.drewN n) tb ba bo rb k E S S' A1 c1 A2 c2 :=
  ⟨⟨h.T.box, h.T.row, h.T.mt, h.T.ma, h.T.ne, h.T.sb, h.T.sa, h.T.so, h.T.sr, h.T.lt, h.T.len, h.T.sm⟩, ⟨h.R.box, h.R.row, h.R.sb, h.R.sr, h.R.lt, h.R.len, h.R.sm⟩, h.D, h.D', h.HD, h.HA, below_drewNv h.HB n⟩
/-- Behind a call on either table. -/
theorem Pl.both {w W w2 w3 : World} {tb ba bo rb k k' : Nat} {E E' : List Sp.En} {S S' P P' : Nat → Prop} {A1 A1' A2 A2' : Option Addr} {c1 c1' c2 c2' : Nat} (h : Pl w W tb ba bo rb k E S S' A1 c1 A2 c2)
    (k2 : Keeps S W w2) (t2 : TabAt w2 P tb k' E' ba bo A1' c1') (k3 : Keeps S' w2 w3) (t3 : RTab w3 P' rb E' A2' c2') (hP : ∀ i, P i → Grow S W w2 i) (hP' : ∀ i, P' i → Grow S' w2 w3 i) (hD : Sp.Dist E') (hA : ∀ e ∈ E', -9223372036854775808 ≤ e.2 ∧ e.2 ≤ 9223372036854775807) : Pl w w3 tb ba bo rb k' E' P P' A1' c1' A2' c2' := by
  have hs := h.HB.size
  have hs2 := k2.size
  have hno : ∀ i, P i → ¬ S' i := fun i q => (hP i q).elim (fun r => (h.D i r).2) (fun r r' => by have := h.R.lt i r'; omega)
  refine ⟨tab_keeps t2 k3 hno, t3, fun i q => ⟨?_, fun q' => ?_⟩, fun i q => ?_, hD, hA, ?_⟩
  · exact (hP i q).elim (fun r => (h.D i r).1) (fun r => by omega)
  · exact (hP' i q').elim (hno i q) (fun r => by have := t2.lt i q; omega)
  · exact (hP' i q).elim (h.D' i) (fun r => by omega)
  · have b2 : Below w.heap.size W w2 := k2.below hs (fun i q => (h.D i q).1)
    have b3 : Below w.heap.size w2 w3 := k3.below (by omega) h.D'
    exact h.HB.trans (b2.trans b3)
theorem next_in64 {E : List Sp.En} (h : ∀ e ∈ E, -9223372036854775808 ≤ e.2 ∧ e.2 ≤ 9223372036854775807) (t : ByteArray) (a : Int) (ha : -9223372036854775808 ≤ a ∧ a ≤ 9223372036854775807) : ∀ e ∈ Sp.nextE E t a, -9223372036854775808 ≤ e.2 ∧ e.2 ≤ 9223372036854775807 := by
  intro e he
  unfold Sp.nextE at he
  split at he
  · rcases List.mem_append.1 he with q | q
    · exact h e q
    · simp at q
      subst q
      exact ha
  · exact h e he

theorem rdL_keeps {α : Type} {enc : α → List Value} {S : Nat → Prop} {w w1 : World} {A : Option Addr} {l : List α} (h : RdL enc w A l) (k : Keeps S w w1) (hn : ∀ b o, A = some ⟨b, o, none⟩ → 0 < l.length → ¬ S b) : RdL enc w1 A l := by
  refine ⟨h.1, fun h0 => ?_⟩
  obtain ⟨b, o, hA, hr⟩ := h.2 h0
  exact ⟨b, o, hA, fun j v hj => k.cell (hr j v hj) (hn b o hA h0)⟩
theorem pruneNil_any (tb : Nat) (w : World) :
    Calls Tryd.prog 10 #[.pointer (some ⟨tb, 0, none⟩), .nilFunc] w fun e w' => e = .returned (.slice none 0 0) ∧ w' = w := by
  have hnil : ∀ W, (binOp BinOp.eql 38 .nilFunc .nilFunc).run Tryd.prog W = .ok (.bool true) W := fun W => by kernel_rfl
  go_enter Tryd.func10, Tryd.ntmps10
  go_wp2
  go_ret
  exact ⟨rfl, rfl⟩
theorem op_cells {w : World} {b o : Nat} {p : List Sp.Opp} (hr : w.rangeAt b o (p.flatMap Sp.opC)) {k : Nat} (hk : k < p.length) : w.rangeAt b (o + k * 4) (Sp.opC p[k]) := by
  intro j v hj
  have := rdL_get 4 Sp.opC_len hr hk j (by have := (List.getElem?_eq_some_iff.1 hj).1; rw [Sp.opC_len] at this; exact this) hj
  exact this

set_option maxHeartbeats 32000000 in
set_option maxRecDepth 100000 in
theorem walkStrtabPlays (A : Option Addr) (c : Nat) (l : List Sp.Opp) (w : World) (hl : RdL Sp.opC w A l) (hg : ∀ o ∈ l, RdN .i64 w o.2.1 o.1.gone) (ho : ∀ o ∈ l, Sp.OpOk o.1) (hT : Tabs w) :
    Calls Tryd.prog 3 #[.slice A l.length c] w fun e w' => e = .returned (.bool true) ∧ Below w.heap.size w w' := by
  have T0 := Lib.hid hT
  have hll := hl.1
  have HL := Lib.hid hl.2
  have HG := Lib.hid hg
  have HO := Lib.hid ho
  clear hT hl hg ho
  go_enter Tryd.func3, Tryd.ntmps3
  go_wp2_with fail
  refine (shown16_any _ T0.out).mono ?_
  rintro e w0 ⟨rfl, hb0⟩
  have B0 := Lib.hid hb0
  clear hb0
  go_wp2_with fail
  refine (new_any _).mono ?_
  rintro e w1 ⟨tb, ba, bo, rfl, hb1, t1⟩
  have HT1 := Lib.hid t1
  have B1 := Lib.hid (below_then B0.out B0.out.size hb1)
  have D1 : Hid (∀ i, (fun k => w0.heap.size ≤ k ∧ k < w1.heap.size) i → w.heap.size ≤ i ∧ i < w1.heap.size) := Lib.hid (fun i q => ⟨Nat.le_trans B0.out.size q.1, q.2⟩)
  clear B0 hb1 t1
  generalize (fun k => w0.heap.size ≤ k ∧ k < w1.heap.size) = S1 at *
  have HR : Hid (RTab (w1.alloc (.cells #[.slice none 0 0] 29)) (fun k => k = w1.heap.size) w1.heap.size [] none 0) := Lib.hid (by
    refine ⟨by simpa using blk_new w1 (.cells #[.slice none 0 0] 29), ⟨by simp, .inl ⟨rfl, rfl⟩⟩, rfl, (fun k hk => by cases hk), (fun k hk => by subst hk; simp), by simp, by simp⟩)
  have HT2 := Lib.hid (tab_keeps HT1.out ((Keeps.refl noS w1).alloc (.cells #[.slice none 0 0] 29)) (fun _ _ q => q))
  have hs1 := Lib.hid B1.out.size
  go_wp2_with fail
  go_loopw [6] (fun v6 wr => ∃ (k : Nat) (E : List Sp.En) (S S' : Nat → Prop) (A1 : Option Addr) (c1 : Nat) (A2 : Option Addr) (c2 : Nat), v6 = .int .i64 k ∧ k ≤ l.length ∧ k ≤ 200 ∧ Hid (Pl w wr tb ba bo w1.heap.size k E S S' A1 c1 A2 c2)) (fun v6 _ => l.length - (RowKit.intOf v6).toNat)
  case atStart => exact ⟨0, [], S1, _, none, 0, none, 0, by go_num, Nat.zero_le _, by decide, Lib.hid ⟨HT2.out, HR.out, fun i q => ⟨(D1.out i q).1, fun r => by have := (D1.out i q).2; omega⟩, fun i q => by have := hs1.out; omega, List.Pairwise.nil, by simp, B1.out.alloc hs1.out _⟩⟩
  case round =>
    clear HT1 HT2 HR D1 B1
    obtain ⟨k, E, S, S', A1, c1, A2, c2, rfl, hk, hk2, HP⟩ := hrel
    have hend : (¬ (k : Int) < (l.length : Int)) ∨ ((k : Int) < (l.length : Int) ∧ ¬ (k : Int) < 200) ∨ ((k : Int) < (l.length : Int) ∧ (k : Int) < 200) := by omega
    rcases hend with hz | ⟨hz, hz2⟩ | ⟨hz, hz2⟩
    · go_wp2_with (go_at_call 10; refine (pruneNil_any _ _).mono ?_; rintro e w' ⟨rfl, rfl⟩)
      go_ret
      exact ⟨rfl, HP.out.HB⟩
    · go_wp2_with (go_at_call 10; refine (pruneNil_any _ _).mono ?_; rintro e w' ⟨rfl, rfl⟩)
      go_ret
      exact ⟨rfl, HP.out.HB⟩
    · have hlt : k < l.length := by omega
      obtain ⟨b, o, rfl, hrg⟩ := HL.out (by omega)
      have hop := op_cells hrg hlt
      have hgo := Lib.hid (HG.out _ (List.getElem_mem hlt))
      have hok := Lib.hid (HO.out _ (List.getElem_mem hlt))
      clear hrg
      generalize l[k] = op at *
      obtain ⟨⟨kd, tx, at_, gn⟩, G, gc⟩ := op
      simp only [Sp.opC] at hop hgo hok
      have hop2 : wr.rangeAt b (o + k * 4) [.int .i64 kd, .string tx, .int .i64 at_, .slice G gn.length gc] := fun j v hj => cell_below HP.out.HB (hop j v hj)
      have d0 := hop2 0 _ rfl
      have d1 := hop2 1 _ rfl
      have d2 := hop2 2 _ rfl
      have d3 := hop2 3 _ rfl
      rw [Nat.add_zero] at d0
      have hgl := hgo.out.1
      (try simp only [] at hgl)
      clear hop hop2
      have OB := Lib.hid (blk_new wr (.cells #[.int .i64 kd, .string tx, .int .i64 at_, .slice G gn.length gc] 32))
      have KO := Lib.hid ((Keeps.refl noS wr).alloc (.cells #[.int .i64 kd, .string tx, .int .i64 at_, .slice G gn.length gc] 32))
      have HP1 := Lib.hid (HP.out.later ((Below.refl wr.heap.size wr).alloc (Nat.le_refl _) (.cells #[.int .i64 kd, .string tx, .int .i64 at_, .slice G gn.length gc] 32)) (Nat.le_refl _))
      by_cases hbig : 2000 < tx.size
      · have hb1 : (2000 : Int) < (tx.size : Int) := by omega
        have HP2 := Lib.hid (HP1.out.later (Below.refl _ _) (Nat.le_succ k))
        go_wp2
        go_roundw
        case rel => exact ⟨k + 1, E, S, S', A1, c1, A2, c2, by go_num, by omega, by omega, HP2⟩
        case measure => simp [RowKit.intOf]; omega
      have hb1 : ¬ (2000 : Int) < (tx.size : Int) := by omega
      by_cases hbg : 50 < gn.length
      · have hb2 : (50 : Int) < (gn.length : Int) := by omega
        have HP2 := Lib.hid (HP1.out.later (Below.refl _ _) (Nat.le_succ k))
        go_wp2
        go_roundw
        case rel => exact ⟨k + 1, E, S, S', A1, c1, A2, c2, by go_num, by omega, by omega, HP2⟩
        case measure => simp [RowKit.intOf]; omega
      have hb2 : ¬ (50 : Int) < (gn.length : Int) := by omega
      have kp := Lib.hid (fun W => pick4_any kd W hok.out.1)
      generalize Sp.pickS kd = pk at kp
      go_upto_if 52 with (first | (go_at_call 7; refine (kp.out _).mono ?_; rintro e w' ⟨rfl, rfl⟩))
      go_cut [6] (fun s6 wx => ∃ (E : List Sp.En) (S S' : Nat → Prop) (A1 : Option Addr) (c1 : Nat) (A2 : Option Addr) (c2 : Nat), s6 = .int .i64 k ∧ Hid (Pl w wx tb ba bo w1.heap.size (k + 1) E S S' A1 c1 A2 c2) ∧ Hid (wx.heap[wr.heap.size]? = some (.cells #[.int .i64 kd, .string tx, .int .i64 at_, .slice G gn.length gc] 32 (0, 0))))
      case first =>
        have hob : wr.heap.size < (wr.alloc (.cells #[.int .i64 kd, .string tx, .int .i64 at_, .slice G gn.length gc] 32)).heap.size := by simp
        have hnS : ¬ S wr.heap.size := fun q => by have := HP.out.T.lt _ q; omega
        have hnS' : ¬ S' wr.heap.size := fun q => by have := HP.out.R.lt _ q; omega
        by_cases hp3 : pk < 3
        · obtain ⟨x1, g1⟩ := blk_cell OB.out 1 (.string tx) rfl
          obtain ⟨x2, g2⟩ := blk_cell OB.out 2 (.int .i64 at_) rfl
          have HE1 := Lib.hid HP1.out.drew
          have OB2 := Lib.hid (blk_drew OB.out)
          clear d0 d1 d2 d3 g1 g2
          generalize hW : wr.alloc (.cells #[.int .i64 kd, .string tx, .int .i64 at_, .slice G gn.length gc] 32) = W at *
          clear hW
          generalize hobb : wr.heap.size = ob at *
          have kE := Lib.hid (fun X (q : TabAt X S tb k E ba bo A1 c1) hT => enter_any S tb k E ba bo A1 c1 tx at_ X q (by omega) hok.out.2 (by omega) hT)
          have kF := Lib.hid (fun X (q : RTab X S' w1.heap.size E A2 c2) => refEnter_any S' w1.heap.size E A2 c2 tx at_ X q (by omega) (by have := HP.out.T.len; omega))
          generalize Sp.enterS E tx at_ = er at *
          go_wp2_with fail
          go_region_held3 (fun w' => w'.cell? ⟨ob, 1, none⟩ = some (.string tx) ∧ w'.cell? ⟨ob, 2, none⟩ = some (.int .i64 at_)) (first | exact ⟨by with_reducible assumption, by with_reducible assumption⟩ | exact ⟨x1, x2⟩) (first | (go_at_call 8; refine (kE.out _ HE1.out.T (T0.out.below HE1.out.HB)).mono ?_; rintro e w2 ⟨A1', c1', rfl, k2, t2⟩; have y1 : w2.cell? ⟨ob, 1, none⟩ = some (.string tx) := k2.cell x1 hnS; have y2 : w2.cell? ⟨ob, 2, none⟩ = some (.int .i64 at_) := k2.cell x2 hnS; have R2 := Lib.hid (rtab_keeps HE1.out.R k2 (fun i q r => (HE1.out.D i r).2 q)); have k2 := Lib.hid k2; have t2 := Lib.hid t2; clear x1 x2) | (go_at_call 9; refine (kF.out _ R2.out).mono ?_; rintro e w3 ⟨A2', c2', rfl, k3, t3⟩; have z1 : w3.cell? ⟨ob, 1, none⟩ = some (.string tx) := k3.cell y1 hnS'; have z2 : w3.cell? ⟨ob, 2, none⟩ = some (.int .i64 at_) := k3.cell y2 hnS'; have k3 := Lib.hid k3; have t3 := Lib.hid t3; clear y1 y2))
          have hfin := Lib.hid (HE1.out.both k2.out t2.out k3.out t3.out (fun i q => q) (fun i q => q) (Sp.dist_next HE1.out.HD tx at_) (next_in64 HE1.out.HA tx at_ hok.out.2))
          have OB3 := Lib.hid (k3.out.obj (k2.out.obj OB2.out hnS) hnS')
          clear z1 z2
          go_wp2_with fail
          go_meet
          exact ⟨_, _, _, A1', c1', A2', c2', rfl, hfin, OB3⟩
        · obtain ⟨x3, g3⟩ := blk_cell OB.out 3 (.slice G gn.length gc) rfl
          clear d0 d1 d2 d3 g3
          have hG0 : Hid (∀ g o, G = some ⟨g, o, none⟩ → 0 < gn.length → g < w.heap.size) := Lib.hid (by
            intro g o hg h0
            obtain ⟨b', o', hb', hc'⟩ := hgo.out.2 h0
            (try simp only [] at hb' hc')
            rw [hg] at hb'
            cases hb'
            exact World.block_lt_of_cell? _ _ (hc' 0 h0))
          generalize hW : wr.alloc (.cells #[.int .i64 kd, .string tx, .int .i64 at_, .slice G gn.length gc] 32) = W at *
          clear hW
          generalize hobb : wr.heap.size = ob at *
          have hWs := HP1.out.HB.size
          have hP2 := Lib.hid (HP1.out.later ((Below.refl W.heap.size W).alloc (Nat.le_refl _) (.cells #[.slice G gn.length gc] 30)) (Nat.le_refl _))
          have CB := Lib.hid (blk_new W (.cells #[.slice G gn.length gc] 30))
          have OB2 := Lib.hid (blk_old (o := .cells #[.slice G gn.length gc] 30) OB.out)
          have hcs : W.heap.size < (W.alloc (.cells #[.slice G gn.length gc] 30)).heap.size := by simp
          have hcS : ¬ S W.heap.size := fun q => by have := HP1.out.T.lt _ q; omega
          have hcS' : ¬ S' W.heap.size := fun q => by have := HP1.out.R.lt _ q; omega
          have hrdn := Lib.hid (rdN_below hgo.out hP2.out.HB)
          go_wp2_with (first | (go_at_call 11; refine (of_any _ _ _ _).mono ?_; rintro e w' ⟨rfl, rfl⟩))
          generalize hW2 : W.alloc (.cells #[.slice G gn.length gc] 30) = W2 at *
          generalize hcbb : W.heap.size = cb at *
          refine (prune_any S noS tb k E ba bo A1 c1 23 #[.pointer (some ⟨cb, 0, none⟩)] (Sp.isIn gn) (fun _ X => OfI cb G gc gn X) W2 hP2.out.T hP2.out.HD (by omega) hP2.out.HA (of_gone cb G gc gn _ (fun q => q.elim hcS (fun r => by omega)) (fun g o hg h0 q => by have := hG0.out g o hg h0; exact q.elim (fun r => by have := (hP2.out.D g r).1; omega) (fun r => by have := hP2.out.HB.size; omega))) ⟨(blk_cell CB.out 0 _ rfl).1, hrdn.out⟩ (fun i q => q.elim)).mono ?_
          rintro e w3 ⟨O, oc, A1', c1', rfl, ro, _, k3, t3, fr⟩
          have k3' := Lib.hid (k3.mono (S' := S) (fun i q => q.elim id (fun r => r.elim)))
          have hW2s := k3'.out.size
          have R3 := Lib.hid (rtab_keeps hP2.out.R k3'.out (fun i q r => (hP2.out.D i r).2 q))
          have OB3 := Lib.hid (k3'.out.obj OB2.out hnS)
          have hg3 := Lib.hid (rdN_keeps hrdn.out k3'.out (fun g o hg h0 r => by have := hG0.out g o hg h0; have := (hP2.out.D g r).1; omega))
          have hone := Lib.hid (fun kk (hk : (Value.slice O (Sp.outE (Sp.isIn gn) E E.length).length oc).ownBlock = some kk) => (fr.one kk hk).1)
          have hgrw := Lib.hid (fun i (q : Plus S (.slice A1' (Sp.keptE (Sp.isIn gn) E E.length).length c1') i) => plus_grow (w := W2) (w' := w3) fr q (fun kk hk => (t3.row.lt kk hk).2))
          have ro3 := Lib.hid ro
          have T3 := Lib.hid (tab_mono t3 (fun _ q => q) t3.lt (Nat.le_succ k))
          clear k3 t3 fr ro
          obtain ⟨x3', g3'⟩ := blk_cell OB3.out 3 (.slice G gn.length gc) rfl
          clear x3
          go_wp2_with fail
          refine (refPrune_any S' w1.heap.size E A2 c2 G gc gn w3 R3.out (by omega) (fun X hX => rdN_keeps hg3.out hX (fun g o hg h0 r => by
            have hlow := hG0.out g o hg h0
            have := hP2.out.HB.size
            exact r.elim (fun q => by have := hP2.out.D' g q; omega) (fun q => by omega)))).mono ?_
          rintro e w4 ⟨O2, oc2, A2', c2', rfl, ro2, k4, t4⟩
          have hfin := Lib.hid (hP2.out.both k3'.out T3.out k4 t4 hgrw.out (fun i q => q) (Sp.dist_sub hP2.out.HD (by have := Sp.left_sub (Sp.isIn gn) E E.length; rwa [Sp.left_end] at this)) (fun e he => hP2.out.HA e ((Sp.left_sub (Sp.isIn gn) E E.length).subset (by rw [Sp.left_end]; exact he))))
          have OB4 := Lib.hid (k4.obj OB3.out hnS')
          have ro4 := Lib.hid (rdL_keeps ro3.out k4 (fun b o hA h0 r => by have := hone.out b (by rw [hA]; rfl); have := hP2.out.R.lt b r; omega))
          have ro2' := Lib.hid ro2
          clear k4 t4 ro2 ro3 hone hgrw T3 R3 OB3 hg3 x3' g3' k3' hW2s hrdn CB OB2 HP HP1 hP2 HL HG HO T0 hok hgo
          generalize Sp.outE (Sp.isIn gn) E E.length = ot at *
          generalize Sp.keptE (Sp.isIn gn) E E.length = kt at *
          go_wp2_with fail
          have hol := ro4.out.1
          go_loopw [10] (fun v10 wx => ∃ (j nd : Nat), v10 = .int .i64 j ∧ j ≤ ot.length ∧ wx = w4.drewN nd) (fun v10 _ => ot.length - (RowKit.intOf v10).toNat)
          case atStart => exact ⟨0, 0, by go_num, Nat.zero_le _, rfl⟩
          case round =>
            obtain ⟨j, nd, rfl, hj, rfl⟩ := hrel
            by_cases hjt : j < ot.length
            · obtain ⟨b1, o1, rfl, hr1⟩ := ro4.out.2 (by omega)
              obtain ⟨b2, o2, rfl, hr2⟩ := ro2'.out.2 (by omega)
              have e1 : w4.cell? ⟨b1, o1 + j, none⟩ = some (.string ot[j]) := by have := rdL_get 1 strC_len hr1 hjt 0 (by decide) rfl; simpa using this
              have e2 : w4.cell? ⟨b2, o2 + j, none⟩ = some (.string ot[j]) := by have := rdL_get 1 strC_len hr2 hjt 0 (by decide) rfl; simpa using this
              have hzj : (j : Int) < (ot.length : Int) := by omega
              clear hr1 hr2
              generalize ot[j] = s at *
              go_wp2_with fail
              go_quiet (fail)
              go_wp2_with fail
              go_roundw
              case rel => exact ⟨j + 1, nd + nq, by go_num, by omega, by first | rfl | (simp [World.drewN, Nat.add_assoc])⟩
              case measure => simp [RowKit.intOf]; omega
            · obtain rfl : j = ot.length := by omega
              have hzj : ¬ (ot.length : Int) < (ot.length : Int) := by omega
              go_wp2_with fail
              go_meet
              exact ⟨_, _, _, A1', c1', A2', c2', rfl, Lib.hid (hfin.out.drewN nd), Lib.hid OB4.out⟩
      case rest =>
        clear HP HP1 OB d0 d1 d2 d3
        obtain ⟨E2, P, P', B1, q1, B2, q2, rfl, HP, OB⟩ := hcut
        generalize hobb : wr.heap.size = ob at *
        obtain ⟨x1, g1⟩ := blk_cell OB.out 1 (.string tx) rfl
        have hlE := HP.out.T.len
        have kf := Lib.hid (find_any P tb (k + 1) E2 ba bo B1 q1 tx wc HP.out.T (by omega))
        have kg := Lib.hid (refFind_any P' w1.heap.size E2 B2 q2 tx wc HP.out.R)
        generalize Sp.atT E2 tx = X at *
        go_wp2_with fail
        refine kf.out.mono ?_
        rintro e wc ⟨rfl, rfl⟩
        go_wp2_with fail
        refine kg.out.mono ?_
        rintro e wc ⟨rfl, rfl⟩
        go_wp2_with fail
        refine (all_any P tb (k + 1) E2 ba bo B1 q1 wc HP.out.T HP.out.HD (by omega)).mono ?_
        rintro e w5 ⟨L, lc, rfl, rl, hb5⟩
        have H5 := Lib.hid (HP.out.later hb5 (Nat.le_refl _))
        have rl5 := Lib.hid rl
        clear x1 g1 kf kg rl hb5 OB HP HL HG HO hok hgo
        obtain ⟨r0, h0⟩ := blk_cell H5.out.R.box 0 (.slice B2 E2.length q2) rfl
        have kr := Lib.hid (runesT_any P tb (k + 1) E2 ba bo B1 q1 w5 H5.out.T)
        have ks := Lib.hid (refRunesT_any P' w1.heap.size E2 B2 q2 w5 H5.out.R)
        generalize Sp.runesN E2 = rn at *
        generalize X.getD 0 = X1 at *
        generalize X.isSome = X2 at *
        go_wp2_with fail
        refine kr.out.mono ?_
        rintro e w5 ⟨rfl, rfl⟩
        go_wp2_with fail
        refine ks.out.mono ?_
        rintro e w6 ⟨rfl, hb6⟩
        have H6 := Lib.hid (H5.out.later hb6 (Nat.le_refl _))
        have rl6 := Lib.hid (rdL_below rl5.out hb6)
        clear kr ks r0 h0 rl5 hb6 H5
        obtain ⟨r0, h0⟩ := blk_cell H6.out.R.box 0 (.slice B2 E2.length q2) rfl
        have hlE := H6.out.T.len
        go_wp2_with fail
        go_loopw [16] (fun v16 wx => ∃ (j nd : Nat), v16 = .int .i64 j ∧ j ≤ E2.length ∧ wx = w6.drewN nd) (fun v16 _ => E2.length - (RowKit.intOf v16).toNat)
        case atStart => exact ⟨0, 0, by go_num, Nat.zero_le _, rfl⟩
        case round =>
          obtain ⟨j, nd, rfl, hj, rfl⟩ := hrel
          by_cases hjt : j < E2.length
          · obtain ⟨b1, o1, rfl, hr1⟩ := rl6.out.2 (by omega)
            obtain ⟨b2, rfl, f1, f2⟩ := rtab_rd H6.out.R j hjt
            have e1 : w6.cell? ⟨b1, o1 + j * 2, none⟩ = some (.string E2[j].1) := rdL_get 2 Sp.enC_len hr1 hjt 0 (by decide) rfl
            have e2 : w6.cell? ⟨b1, o1 + j * 2 + 1, none⟩ = some (.int .i64 E2[j].2) := rdL_get 2 Sp.enC_len hr1 hjt 1 (by decide) rfl
            have hzj : (j : Int) < (E2.length : Int) := by omega
            clear hr1
            generalize E2[j] = en at *
            obtain ⟨et, ea⟩ := en
            simp only [] at e1 e2 f1 f2
            go_wp2_with fail
            go_quiet (fail)
            go_wp2_with fail
            go_roundw
            case rel => exact ⟨j + 1, nd + nq, by go_num, by omega, by first | rfl | (simp [World.drewN, Nat.add_assoc])⟩
            case measure => simp [RowKit.intOf]; omega
          · obtain rfl : j = E2.length := by omega
            have hzj : ¬ (E2.length : Int) < (E2.length : Int) := by omega
            have hfin := Lib.hid (H6.out.drewN nd)
            go_wp2_with fail
            go_roundw
            case rel => exact ⟨k + 1, E2, P, P', B1, q1, B2, q2, by go_num, by omega, by omega, hfin⟩
            case measure => simp [RowKit.intOf]; omega
end Go.Proofs.YtokkpdjbgaicmaaDoor
