/-
  Walk of strtab's Prune.
-/
import Derived.Test.YtokkpdjbgaicmaaDoorSt4
import Derived.Outline
set_option linter.unusedVariables false
set_option linter.unusedSimpArgs false
namespace Go.Proofs.YtokkpdjbgaicmaaDoor
open Go.RowKit Go.Lib Go.Maps

namespace Sp
/-- What is left behind k rounds. -/
def leftE (g : Int → Bool) (E : List En) (k : Nat) : List En := (E.take k).filter (fun e => !g e.2) ++ E.drop k
def outE (g : Int → Bool) (E : List En) (k : Nat) : List ByteArray := ((E.take k).filter (fun e => g e.2)).map (·.1)
def keptE (g : Int → Bool) (E : List En) (k : Nat) : List En := (E.take k).filter (fun e => !g e.2)
theorem dist_sub {E F : List En} (h : Dist E) (hs : List.Sublist F E) : Dist F := h.sublist hs
theorem left_sub (g : Int → Bool) (E : List En) (k : Nat) : (leftE g E k).Sublist E := by
  unfold leftE
  conv => rhs; rw [← List.take_append_drop k E]
  exact List.Sublist.append List.filter_sublist (List.Sublist.refl _)
theorem left_mid (g : Int → Bool) (E : List En) (k : Nat) (h : k < E.length) : leftE g E k = keptE g E k ++ E[k] :: E.drop (k + 1) := by
  unfold leftE keptE
  rw [List.drop_eq_getElem_cons h]
theorem kept_step (g : Int → Bool) (E : List En) (k : Nat) (h : k < E.length) : keptE g E (k + 1) = keptE g E k ++ (if g E[k].2 = true then [] else [E[k]]) := by
  unfold keptE
  rw [List.take_succ_eq_append_getElem h, List.filter_append]
  congr 1
  simp only [List.filter_cons, List.filter_nil]
  cases g E[k].2 <;> rfl
theorem out_step (g : Int → Bool) (E : List En) (k : Nat) (h : k < E.length) : outE g E (k + 1) = outE g E k ++ (if g E[k].2 = true then [E[k].1] else []) := by
  unfold outE
  rw [List.take_succ_eq_append_getElem h, List.filter_append, List.map_append]
  congr 1
  simp only [List.filter_cons, List.filter_nil]
  cases g E[k].2 <;> rfl
theorem left_step (g : Int → Bool) (E : List En) (k : Nat) (h : k < E.length) : leftE g E (k + 1) = if g E[k].2 = true then keptE g E k ++ E.drop (k + 1) else leftE g E k := by
  have h1 : leftE g E (k + 1) = keptE g E (k + 1) ++ E.drop (k + 1) := rfl
  rw [h1, kept_step g E k h, left_mid g E k h]
  cases g E[k].2 <;> simp
theorem left_end (g : Int → Bool) (E : List En) : leftE g E E.length = keptE g E E.length := by
  unfold leftE keptE
  simp
theorem kept_le (g : Int → Bool) (E : List En) (k : Nat) (h : k ≤ E.length) : (keptE g E k).length ≤ k := by
  have := List.length_filter_le (fun e : En => !g e.2) (E.take k)
  rw [List.length_take] at this
  unfold keptE
  omega
theorem out_le (g : Int → Bool) (E : List En) (k : Nat) (h : k ≤ E.length) : (outE g E k).length ≤ k := by
  have := List.length_filter_le (fun e : En => g e.2) (E.take k)
  rw [List.length_take] at this
  unfold outE
  rw [List.length_map]
  omega
end Sp

/-- The blocks S and a slice's own. -/
def Plus (S : Nat → Prop) (v : Value) : Nat → Prop := fun k => S k ∨ v.ownBlock = some k
/-- Two slices that lie in new blocks, apart from one another. -/
structure Fresh (B : Nat) (S : Nat → Prop) (u v : Value) : Prop where
  one : ∀ k, u.ownBlock = some k → B ≤ k ∧ ¬ Plus S v k
  two : ∀ k, v.ownBlock = some k → B ≤ k
theorem plus_grow {w w' : World} {S : Nat → Prop} {u v : Value} {k : Nat} (h : Fresh w.heap.size S u v) (hk : Plus S v k) (hl : ∀ k, v.ownBlock = some k → k < w'.heap.size) : Grow S w w' k := hk.imp id (fun q => ⟨h.two k q, hl k q⟩)

/-- What a function that tells whether a place is gone does: it answers g, keeps all but the blocks T, and goes from one state to the next. -/
structure Gone (f : FuncId) (caps : Array Value) (g : Int → Bool) (I : Nat → World → Prop) (T U : Nat → Prop) : Prop where
  call : ∀ k W (a : Int), k < 1000000 → I k W → -9223372036854775808 ≤ a ∧ a ≤ 9223372036854775807 → Calls Tryd.prog f (#[.int .i64 a] ++ caps) W fun e W' => e = .returned (.bool (g a)) ∧ I (k + 1) W' ∧ Keeps T W W'
  keep : ∀ k W W', I k W → Keeps U W W' → I k W'
  ent : ∀ (args : Array Value) W, (callFunc f args).run Tryd.prog W = .ok (.enter f args) W

set_option maxHeartbeats 16000000 in
set_option maxRecDepth 100000 in
theorem prune_any (S T : Nat → Prop) (tb N : Nat) (E : List Sp.En) (ba bo : Nat) (A : Option Addr) (c : Nat) (f : FuncId) (caps : Array Value) (g : Int → Bool) (I : Nat → World → Prop) (w : World) (h : TabAt w S tb N E ba bo A c) (hD : Sp.Dist E) (hN : N ≤ 1000)
    (hA : ∀ e ∈ E, -9223372036854775808 ≤ e.2 ∧ e.2 ≤ 9223372036854775807) (hG : Gone f caps g I T (fun i => S i ∨ w.heap.size ≤ i)) (hI : I 0 w) (hT : ∀ i, T i → ¬ S i ∧ i < w.heap.size) :
    Calls Tryd.prog 10 #[.pointer (some ⟨tb, 0, none⟩), .func (.func f) #[] caps] w fun e w' => ∃ A2 c2 A' c', e = .returned (.slice A2 (Sp.outE g E E.length).length c2) ∧ RdL strC w' A2 (Sp.outE g E E.length) ∧ I E.length w' ∧ Keeps (fun i => S i ∨ T i) w w' ∧ TabAt w' (Plus S (.slice A' (Sp.keptE g E E.length).length c')) tb N (Sp.keptE g E E.length) ba bo A' c' ∧ Fresh w.heap.size S (.slice A2 (Sp.outE g E E.length).length c2) (.slice A' (Sp.keptE g E E.length).length c') := by
  obtain ⟨i0, hi, hz0, hz1, hz2⟩ := info_parts infoStr
  have hl := h.len
  have h1 := Lib.hid h
  have hD1 := Lib.hid hD
  have hrow := Lib.hid h.row
  have hG1 := Lib.hid hG
  have hI1 := Lib.hid hI
  have hA1 := Lib.hid hA
  have hent := hG.ent
  have hT1 := Lib.hid hT
  obtain ⟨c0, f0⟩ := blk_cell h.box 0 (.slice A E.length c) rfl
  clear h hD hG hI hA hT
  have hnil : ∀ W, (binOp BinOp.eql 38 (.func (.func f) #[] caps) .nilFunc).run Tryd.prog W = .ok (.bool false) W := fun W => by kernel_rfl
  go_enter Tryd.func10, Tryd.ntmps10
  go_wp2
  go_loopw [5, 6, 17] (fun v5 v6 v17 wr => ∃ (k : Nat), v17 = .int .i64 k ∧ k ≤ E.length
      ∧ wr.ownsRow w.heap.size 9 1 v5 (Sp.outE g E k).length ((Sp.outE g E k).map .string) ∧ wr.ownsRow w.heap.size 9 1 v6 (Sp.keptE g E k).length ((Sp.keptE g E k).map fun e => .string e.1)
      ∧ Hid (∀ b, v5.ownBlock = some b → v6.ownBlock ≠ some b)
      ∧ Hid (wr.heap[tb]? = some (.cells #[.slice A E.length c, .map (some ba), .map (some bo), .int .i64 (Sp.runesN (Sp.leftE g E k) : Nat)] 56 (0, 0)))
      ∧ Hid (MapV Tryd.prog wr 9 ba N (Sp.fT (Sp.leftE g E k))) ∧ Hid (MapV Tryd.prog wr 3 bo N (Sp.fA (Sp.leftE g E k))) ∧ Hid (wr.ownsRow 0 9 1 (.slice A E.length c) E.length (E.map fun e => .string e.1))
      ∧ Hid (Keeps (fun i => S i ∨ T i) w wr) ∧ Hid (I k wr)) (fun _ _ v17 _ => E.length - (RowKit.intOf v17).toNat)
  case atStart => exact ⟨0, by go_num, Nat.zero_le _, ⟨by simp [Sp.outE], .inl ⟨rfl, rfl⟩⟩, ⟨by simp [Sp.keptE], .inl ⟨rfl, rfl⟩⟩, Lib.hid (fun b hb => by cases hb), Lib.hid (by simpa [Sp.leftE] using h1.out.box), Lib.hid (by simpa [Sp.leftE] using h1.out.mt), Lib.hid (by simpa [Sp.leftE] using h1.out.ma), hrow, Lib.hid (Keeps.refl _ _), hI1⟩
  case round =>
    obtain ⟨k, rfl, hk, ho, hl6, hdis, hbox, hmt, hma, hrw, hK, hIk⟩ := hrel
    clear c0 f0
    have hkl := Sp.kept_le g E k hk
    have hol := Sp.out_le g E k hk
    obtain ⟨c1, f1⟩ := blk_cell hbox.out 1 (.map (some ba)) rfl
    by_cases hlt : k < E.length
    · obtain ⟨ob, rfl⟩ : ∃ ob, A = some ⟨ob, 0, none⟩ := by
        rcases hrow.out.2 with ⟨_, h0⟩ | ⟨g, cap, cur, hv, _⟩
        · omega
        · exact ⟨g, by injection hv⟩
      have ck := hrw.out.cells (g := ob) rfl k (.string E[k].1) (by simp [List.getElem?_eq_getElem hlt])
      rw [Addr.add_mid, Nat.zero_add] at ck
      have hmid := Sp.left_mid g E k hlt
      have hDl := Sp.dist_sub hD1.out (Sp.left_sub g E k)
      rw [hmid] at hDl
      have hat := Sp.atT_mid hDl
      have hln := Sp.lenA_mid hDl
      rw [← hmid] at hat hln
      have HA := Lib.hid (show Sp.fT (Sp.leftE g E k) (.string E[k].1) = some (.int .i64 E[k].2) by rw [Sp.fT_at, hat]; rfl)
      have HB := Lib.hid (show Sp.fA (Sp.leftE g E k) (.int .i64 E[k].2) = some (.int .i64 ((Sp.runes E[k].1).length : Nat)) by rw [Sp.fA_at, hln]; rfl)
      have HdT := Lib.hid (Sp.fT_del hDl)
      have HdA := Lib.hid (Sp.fA_del hDl)
      have Hls := Lib.hid (Sp.left_step g E k hlt)
      have Hks := Lib.hid (Sp.kept_step g E k hlt)
      have Hos := Lib.hid (Sp.out_step g E k hlt)
      have Hmid := Lib.hid hmid
      have hsm := Lib.hid (h1.out.sm _ (List.getElem_mem hlt))
      have kS := Lib.hid (keyS E[k].1 (by have := hsm.out; unfold maxLen; omega))
      have hek := Lib.hid (hA1.out _ (List.getElem_mem hlt))
      have kI := Lib.hid (keyI E[k].2 hek.out)
      have hzk : (k : Int) < (E.length : Int) := by omega
      clear hat hln hmid hDl
      generalize E[k] = en at *
      obtain ⟨et, ea⟩ := en
      simp only [] at ck HA HB kS kI HdT HdA Hls Hks Hos Hmid hsm hek
      go_wp2_with (at_lookup; refine wpList_lookup_mapV _ rfl _ _ 53 rfl 9 3 lawS Tryd.underlying53 (zeroI _) ba N (Sp.fT (Sp.leftE g E k)) rfl hmt.out _ _ rfl kS.out (some (.int .i64 ea)) HA.out ?_)
      refine (hG1.out.call k _ ea (by omega) hIk.out hek.out).mono ?_
      rintro e w1 ⟨rfl, hI1', hK1⟩
      have hTS := hT1.out
      have hbox1 := Lib.hid (hK1.obj hbox.out (fun q => (hTS _ q).1 h1.out.sb))
      have hmt1 := Lib.hid (hK1.mapV hmt.out (fun q => (hTS _ q).1 h1.out.sa))
      have hma1 := Lib.hid (hK1.mapV hma.out (fun q => (hTS _ q).1 h1.out.so))
      have hrw1 := Lib.hid (hK1.row hrw.out (fun i hi q => (hTS _ q).1 (h1.out.sr i hi).1))
      have ho1 := hK1.row ho (fun i hi q => by have := own_base ho i hi; have := (hTS _ q).2; omega)
      have hl1 := hK1.row hl6 (fun i hi q => by have := own_base hl6 i hi; have := (hTS _ q).2; omega)
      have hKa := Lib.hid (hK.out.then (hK1.mono (S' := fun i => S i ∨ T i) (fun i q => .inr q)) (fun i q => .inl q))
      have hIa := Lib.hid hI1'
      clear hI1' hK1 hTS hbox hmt hma hrw ho hl6 hK hIk c1 f1 ck HA
      cases hg : g ea with
      | false =>
        have Hl := Lib.hid (show Sp.leftE g E (k + 1) = Sp.leftE g E k by rw [Hls.out, hg]; rfl)
        have Hk := Lib.hid (show Sp.keptE g E (k + 1) = Sp.keptE g E k ++ [(et, ea)] by rw [Hks.out, hg]; rfl)
        have Ho := Lib.hid (show Sp.outE g E (k + 1) = Sp.outE g E k by rw [Hos.out, hg]; simp)
        clear Hls Hks Hos hg HB HdT HdA Hmid
        go_wp2_with (at_builtin; refine wpList_append_own_at _ rfl _ _ 36 rfl w.heap.size 9 i0 (.string ⟨#[]⟩) 1 16 Tryd.underlying36 hi hz0 hz1 hz2 rfl (by decide) _ (Sp.keptE g E k).length ((Sp.keptE g E k).map fun e => .string e.1) rfl (hl1.alloc _) ⟨w1.heap.size, 0, none⟩ 1 1 [.string et] rfl rfl ?x2 ?x3 ?x4 ?x5 ?x6 ?_)
        case x2 =>
          intro j u hj
          match j, hj with
          | 0, hj => simp at hj; subst hj; simp [Addr.add]
          | (j + 1), hj => simp at hj
        case x3 => intro u hu; simp at hu; subst hu; rfl
        case x4 => unfold maxLen; omega
        case x5 => omega
        case x6 => have := hKa.out.size; simp; omega
        intro v' w3 hown' hg3 _ hat3
        have K13 := Lib.hid (((Keeps.refl (fun i => w.heap.size ≤ i) w1).alloc (.cells #[.string et] 9)).trans (Keeps.of_grown (S := fun i => w.heap.size ≤ i) hg3 (fun k hk => .inl (own_base hl1 k hk))))
        have hoth := Lib.hid ((ho1.alloc (.cells #[.string et] 9)).kept hg3 (by
          cases hq : u5.ownBlock with
          | none => exact .inl rfl
          | some b => exact .inr (fun e => hdis.out b hq (e.symm))))
        have hdis3 : Hid (∀ b, u5.ownBlock = some b → v'.ownBlock ≠ some b) := Lib.hid (by
          intro b hb hb'
          rcases hat3 with q | q
          · rw [q] at hb'
            exact hdis.out b (by first | exact hb | assumption) (by first | exact hb' | assumption)
          · have hlt' := (ho1.lt b (by assumption)).2
            rw [q] at hb'
            injection hb' with hb'
            (try simp at hb')
            omega)
        have hv' := Lib.hid hown'
        clear hg3 hat3 ho1 hl1 hdis hown'
        have hbox3 := Lib.hid (K13.out.obj hbox1.out (fun q => by have := h1.out.lt _ h1.out.sb; omega))
        have hmt3 := Lib.hid (K13.out.mapV hmt1.out (fun q => by have := h1.out.lt _ h1.out.sa; omega))
        have hma3 := Lib.hid (K13.out.mapV hma1.out (fun q => by have := h1.out.lt _ h1.out.so; omega))
        have hrw3 := Lib.hid (K13.out.row hrw1.out (fun i hi q => by have := h1.out.lt _ (h1.out.sr i hi).1; omega))
        have hK3 := Lib.hid (hKa.out.then K13.out (fun i q => .inr q))
        have hI3 := Lib.hid (hG1.out.keep _ _ _ hIa.out (K13.out.mono (fun i q => .inr q)))
        clear K13 hbox1 hmt1 hma1 hrw1 hKa hIa
        go_wp2
        go_roundw
        case rel =>
          refine ⟨k + 1, by go_num, by omega, ?_, ?_, hdis3, ?_, ?_, ?_, hrw3, hK3, hI3⟩
          · rw [Ho.out]; exact hoth.out
          · rw [Hk.out]; simpa using hv'.out
          · rw [Hl.out]; exact hbox3
          · rw [Hl.out]; exact hmt3
          · rw [Hl.out]; exact hma3
        case measure => simp [RowKit.intOf]; omega
      | true =>
        have Hl := Lib.hid (show Sp.leftE g E (k + 1) = Sp.keptE g E k ++ E.drop (k + 1) by rw [Hls.out, hg]; rfl)
        have Hk := Lib.hid (show Sp.keptE g E (k + 1) = Sp.keptE g E k by rw [Hks.out, hg]; simp)
        have Ho := Lib.hid (show Sp.outE g E (k + 1) = Sp.outE g E k ++ [et] by rw [Hos.out, hg]; rfl)
        have hrun := Lib.hid (show (Sp.runesN (Sp.leftE g E k) : Int) - ((Sp.runes et).length : Nat) = (Sp.runesN (Sp.keptE g E k ++ E.drop (k + 1)) : Nat) by
          rw [Hmid.out, Sp.runesN_append, Sp.runesN_append]
          show ((_ + ((Sp.runes et).length + _) : Nat) : Int) - _ = _
          omega)
        have hrb := Lib.hid (show Sp.runesN (Sp.leftE g E k) ≤ 1000000000 by
          have h2 := Sp.runesN_le (Sp.leftE g E k) (fun x hx => h1.out.sm x ((Sp.left_sub g E k).subset hx))
          have h3 := (Sp.left_sub g E k).length_le
          have : (Sp.leftE g E k).length * 1000000 ≤ 1000 * 1000000 := Nat.mul_le_mul_right _ (by omega)
          omega)
        have hrl : Hid ((Sp.runes et).length ≤ 1000000) := Lib.hid (by have := runes_le et; have := hsm.out; omega)
        clear Hls Hks Hos hg
        rw [← Hmid.out] at HdT HdA
        generalize (Sp.runes et).length = rl at *
        go_wp2_with (at_builtin; refine wpList_append_own_at _ rfl _ _ 36 rfl w.heap.size 9 i0 (.string ⟨#[]⟩) 1 16 Tryd.underlying36 hi hz0 hz1 hz2 rfl (by decide) _ (Sp.outE g E k).length ((Sp.outE g E k).map .string) rfl (ho1.alloc _) ⟨w1.heap.size, 0, none⟩ 1 1 [.string et] rfl rfl ?x2 ?x3 ?x4 ?x5 ?x6 ?_)
        case x2 =>
          intro j u hj
          match j, hj with
          | 0, hj => simp at hj; subst hj; simp [Addr.add]
          | (j + 1), hj => simp at hj
        case x3 => intro u hu; simp at hu; subst hu; rfl
        case x4 => unfold maxLen; omega
        case x5 => omega
        case x6 => have := hKa.out.size; simp; omega
        intro v' w3 hown' hg3 _ hat3
        have K13 := Lib.hid (((Keeps.refl (fun i => w.heap.size ≤ i) w1).alloc (.cells #[.string et] 9)).trans (Keeps.of_grown (S := fun i => w.heap.size ≤ i) hg3 (fun k hk => .inl (own_base ho1 k hk))))
        have hoth := Lib.hid ((hl1.alloc (.cells #[.string et] 9)).kept hg3 (by
          cases hq : u6.ownBlock with
          | none => exact .inl rfl
          | some b => exact .inr (fun e => hdis.out b e.symm hq)))
        have hdis3 : Hid (∀ b, v'.ownBlock = some b → u6.ownBlock ≠ some b) := Lib.hid (by
          intro b hb hb'
          rcases hat3 with q | q
          · rw [q] at hb
            exact hdis.out b (by first | exact hb | assumption) (by first | exact hb' | assumption)
          · have hlt' := (hl1.lt b (by assumption)).2
            rw [q] at hb
            injection hb with hb
            (try simp at hb)
            omega)
        have hv' := Lib.hid hown'
        clear hg3 hat3 ho1 hl1 hdis hown'
        have hbox3 := Lib.hid (K13.out.obj hbox1.out (fun q => by have := h1.out.lt _ h1.out.sb; omega))
        have hmt3 := Lib.hid (K13.out.mapV hmt1.out (fun q => by have := h1.out.lt _ h1.out.sa; omega))
        have hma3 := Lib.hid (K13.out.mapV hma1.out (fun q => by have := h1.out.lt _ h1.out.so; omega))
        have hrw3 := Lib.hid (K13.out.row hrw1.out (fun i hi q => by have := h1.out.lt _ (h1.out.sr i hi).1; omega))
        have hK3 := Lib.hid (hKa.out.then K13.out (fun i q => .inr q))
        have hI3 := Lib.hid (hG1.out.keep _ _ _ hIa.out (K13.out.mono (fun i q => .inr q)))
        clear K13 hbox1 hmt1 hma1 hrw1 hKa hIa
        obtain ⟨c1, f1⟩ := blk_cell hbox3.out 1 (.map (some ba)) rfl
        obtain ⟨c2, f2⟩ := blk_cell hbox3.out 2 (.map (some bo)) rfl
        obtain ⟨c3, f3⟩ := blk_cell hbox3.out 3 (.int .i64 (Sp.runesN (Sp.leftE g E k) : Nat)) rfl
        have hlook := (mapV_look (t := 54) (mapV_drew hma3.out) lawI Tryd.underlying54 (zeroI _) kI.out).2
        rw [HB.out] at hlook
        simp only [Option.getD_some] at hlook
        have hwr : IntKind.i64.wrap ((Sp.runesN (Sp.leftE g E k) : Int) - (rl : Int)) = (Sp.runesN (Sp.leftE g E k) : Int) - (rl : Int) := IntWalk.i64_in _ (by have := hrl.out; have := hrb.out; omega)
        have hsz3 := blk_lt hbox3.out
        have hta : tb ≠ ba := box_ne_map hbox3.out hmt3.out
        have hto : tb ≠ bo := box_ne_map hbox3.out hma3.out
        have hba := h1.out.ne
        go_wp2_with fail
        go_still_tail 13, (by kernel_rfl)
        go_wp2_with (first | (at_delete; refine wpList_delete_mapV _ rfl _ _ 53 9 rfl 3 lawS Tryd.underlying53 ba N (Sp.fT (Sp.leftE g E k)) (Sp.fT (Sp.keptE g E k ++ E.drop (k + 1))) rfl ?z1 _ _ rfl kS.out HdT.out.1 HdT.out.2 ?_))
        case z1 => exact mapV_set (a := ⟨tb, 3, none⟩) hmt3.out (fun e => hta e.symm) _
        intro w5 m5 hg5
        have b5 := Lib.hid (blk_grown (blk_drew (blk_set (i := 3) hbox3.out (.int .i64 ((Sp.runesN (Sp.leftE g E k) : Int) - (rl : Int))))) hg5 (fun e => hta (by injection e)))
        have a5 := Lib.hid (mapV_grown (mapV_set (a := ⟨tb, 3, none⟩) hma3.out (fun e => hto e.symm) (.int .i64 ((Sp.runesN (Sp.leftE g E k) : Int) - (rl : Int)))) ⟨hg5.os, hg5.tape, hg5.output, hg5.size, hg5.block⟩ (fun e => hba (by injection e)))
        have K35 := Lib.hid (((((Keeps.refl (fun i => i = tb ∨ i = ba) w3).setCell (a := ⟨tb, 3, none⟩) (.inl (.inl rfl)) (.int .i64 ((Sp.runesN (Sp.leftE g E k) : Int) - (rl : Int)))).drew).trans (Keeps.of_grown (S := fun i => i = tb ∨ i = ba) hg5 (fun k hk => .inl (.inr (by injection hk with hk; exact hk.symm))))))
        have m5' := Lib.hid m5
        clear c1 f1 c2 f2 c3 f3 hlook hg5 m5 hbox3 hmt3 hma3
        obtain ⟨c2, f2⟩ := blk_cell b5.out 2 (.map (some bo)) rfl
        go_wp2_with (first | (at_delete; refine wpList_delete_mapV _ rfl _ _ 54 3 rfl 3 lawI Tryd.underlying54 bo N (Sp.fA (Sp.leftE g E k)) (Sp.fA (Sp.keptE g E k ++ E.drop (k + 1))) rfl a5.out _ _ rfl kI.out HdA.out.1 HdA.out.2 ?_))
        intro w6 m6 hg6
        have b6 := Lib.hid (blk_grown b5.out hg6 (fun e => hto (by injection e)))
        have t6 := Lib.hid (mapV_grown m5'.out hg6 (fun e => hba (by injection e with e; exact e.symm)))
        have K36 := Lib.hid ((K35.out.mono (S' := fun i => i = tb ∨ i = ba ∨ i = bo) (fun i q => q.elim .inl (fun r => .inr (.inl r)))).trans (Keeps.of_grown (S := fun i => i = tb ∨ i = ba ∨ i = bo) hg6 (fun k hk => .inl (.inr (.inr (by injection hk with hk; exact hk.symm))))))
        have hS3 : ∀ i, (i = tb ∨ i = ba ∨ i = bo) → S i := fun i q => by rcases q with rfl | rfl | rfl; exact h1.out.sb; exact h1.out.sa; exact h1.out.so
        have hlow : ∀ i, (i = tb ∨ i = ba ∨ i = bo) → i < w.heap.size := fun i q => h1.out.lt i (hS3 i q)
        have m6' := Lib.hid m6
        have hv6 := Lib.hid (K36.out.row hv'.out (fun i hi q => by have := own_base hv'.out i hi; have := hlow i q; omega))
        have ho6 := Lib.hid (K36.out.row hoth.out (fun i hi q => by have := own_base hoth.out i hi; have := hlow i q; omega))
        have hr6 := Lib.hid (K36.out.row hrw3.out (fun i hi q => by
          have hne := (h1.out.sr i hi).2
          rcases q with rfl | rfl | rfl
          · exact hne rfl
          · exact row_ne_map h1.out.row h1.out.mt hi
          · exact row_ne_map h1.out.row h1.out.ma hi))
        have hK6 := Lib.hid (hK3.out.then K36.out (fun i q => .inl (.inl (hS3 i q))))
        have hI6 := Lib.hid (hG1.out.keep _ _ _ hI3.out (K36.out.mono (fun i q => .inl (hS3 i q))))
        clear c2 f2 hg6 m6 b5 a5 m5' K35 K36 hv' hoth hrw3 hK3 hI3 hS3 hlow
        go_wp2
        go_roundw
        case rel =>
          refine ⟨k + 1, by go_num, by omega, ?_, ?_, hdis3, ?_, ?_, ?_, hr6, hK6, hI6⟩
          · rw [Ho.out]; simpa using hv6.out
          · rw [Hk.out]; exact ho6.out
          · rw [Hl.out, ← hrun.out]; exact Lib.hid (by have := b6.out; simpa using this)
          · rw [Hl.out]; exact t6
          · rw [Hl.out]; exact m6'
        case measure => simp [RowKit.intOf]; omega
    · obtain rfl : k = E.length := by omega
      have hzk : ¬ (E.length : Int) < (E.length : Int) := by omega
      obtain ⟨A2, c2, rfl⟩ := own_sl ho
      obtain ⟨A', c', rfl⟩ := own_sl hl6
      obtain ⟨c0, f0⟩ := blk_cell hbox.out 0 (.slice A E.length c) rfl
      have hs := hK.out.size
      have hlow := h1.out.lt _ h1.out.sb
      have hbx := Lib.hid (blk_set (i := 0) hbox.out (.slice A' (Sp.keptE g E E.length).length c'))
      have hto : tb ≠ bo := box_ne_map hbox.out hma.out
      have hta : tb ≠ ba := box_ne_map hbox.out hmt.out
      have Kl := Lib.hid ((Keeps.refl (fun i => i = tb) wr).setCell (a := ⟨tb, 0, none⟩) (.inl rfl) (.slice A' (Sp.keptE g E E.length).length c'))
      have hr := Lib.hid (own_rdL (w := wr.setCell ⟨tb, 0, none⟩ (.slice A' (Sp.keptE g E E.length).length c')) strC_len (by decide) (by rw [strC_flat]; exact Kl.out.row ho (fun i hi q => by have := own_base ho i hi; omega))).2
      have hlft := Lib.hid (Kl.out.row hl6 (fun i hi q => by have := own_base hl6 i hi; omega))
      have hlb := Lib.hid (fun k hk => own_base hl6 k hk)
      have hoo := Lib.hid (fun k hk => own_base ho k hk)
      rw [Sp.left_end] at hbx
      rw [Sp.left_end] at hmt hma
      clear ho hl6 hbox
      go_wp2
      go_ret
      have hsz : w.heap.size ≤ (wr.setCell ⟨tb, 0, none⟩ (.slice A' (Sp.keptE g E E.length).length c')).heap.size := Nat.le_trans hs Kl.out.size
      have p1 := hG1.out.keep _ _ _ hIk.out (Kl.out.mono (fun i q => .inl (q ▸ h1.out.sb)))
      have p2 : Keeps (fun i => S i ∨ T i) w (wr.setCell ⟨tb, 0, none⟩ (.slice A' (Sp.keptE g E E.length).length c')) := hK.out.then Kl.out (fun i q => .inl (.inl (q ▸ h1.out.sb)))
      have p3 : TabAt (wr.setCell ⟨tb, 0, none⟩ (.slice A' (Sp.keptE g E E.length).length c')) (Plus S (.slice A' (Sp.keptE g E E.length).length c')) tb N (Sp.keptE g E E.length) ba bo A' c' := by
        refine ⟨by have := hbx.out; simpa using this, ?_, Kl.out.mapV hmt.out (fun e => hta e.symm), Kl.out.mapV hma.out (fun e => hto e.symm), h1.out.ne, .inl h1.out.sb, .inl h1.out.sa, .inl h1.out.so, fun i hi => ⟨.inr hi, fun e => by have := hlb.out i hi; omega⟩, fun i hi => hi.elim (fun r => Nat.lt_of_lt_of_le (h1.out.lt i r) hsz) (fun r => (hlft.out.lt i r).2), by omega, fun x hx => h1.out.sm x ?_⟩
        · obtain ⟨q1, q2⟩ := hlft.out
          refine ⟨q1, q2.imp id fun q => ?_⟩
          obtain ⟨g0, cap, cur, e1, e2, e3⟩ := q
          exact ⟨g0, cap, cur, e1, Nat.zero_le _, e3⟩
        · have := (Sp.left_sub g E E.length).subset (by rw [Sp.left_end]; exact hx)
          exact this
      have p4 : Fresh w.heap.size S (.slice A2 (Sp.outE g E E.length).length c2) (.slice A' (Sp.keptE g E E.length).length c') :=
        ⟨fun k hk => ⟨hoo.out k hk, fun q => q.elim (fun r => by have := h1.out.lt k r; have := hoo.out k hk; omega) (fun r => hdis.out k hk r)⟩, fun k hk => hlb.out k hk⟩
      first | exact ⟨A2, c2, A', c', rfl, hr.out, p1, p2, p3, p4⟩ | exact ⟨A2, c2, rfl, hr.out, p1, p2, A', c', p3, p4⟩
end Go.Proofs.YtokkpdjbgaicmaaDoor
