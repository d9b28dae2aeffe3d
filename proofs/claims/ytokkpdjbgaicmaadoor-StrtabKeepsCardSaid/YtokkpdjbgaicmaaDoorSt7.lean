/-
  Walk of the reference's Prune.
-/
import Derived.Test.YtokkpdjbgaicmaaDoorSt6
import Derived.Deep.MidRow
set_option linter.unusedVariables false
set_option linter.unusedSimpArgs false
namespace Go.Proofs.YtokkpdjbgaicmaaDoor
open Go.RowKit Go.Lib Go.Maps

namespace Sp
/-- Is a number one of a list? -/
def isIn (l : List Int) (a : Int) : Bool := l.any fun x => decide (x = a)
theorem isIn_take (l : List Int) (a : Int) (k : Nat) (h : k < l.length) : isIn (l.take (k + 1)) a = (isIn (l.take k) a || decide (l.getD k 0 = a)) := by
  unfold isIn
  rw [List.take_succ_eq_append_getElem h, List.any_append, List.getD_eq_getElem?_getD, List.getElem?_eq_getElem h]
  simp
end Sp

theorem range2 {w : World} {b o : Nat} {x y : Value} (h0 : w.cell? ⟨b, o, none⟩ = some x) (h1 : w.cell? ⟨b, o + 1, none⟩ = some y) : w.rangeAt b o [x, y] := by
  intro j v hj
  match j, hj with
  | 0, hj => simp at hj; subst hj; exact h0
  | 1, hj => simp at hj; subst hj; exact h1
  | j + 2, hj => simp at hj

set_option maxHeartbeats 16000000 in
set_option maxRecDepth 100000 in
theorem refPrune_any (S : Nat → Prop) (rb : Nat) (E : List Sp.En) (A : Option Addr) (c : Nat) (G : Option Addr) (gc : Nat) (gone : List Int) (w : World) (h : RTab w S rb E A c) (hgl : gone.length ≤ 1000)
    (hG : ∀ W, Keeps (fun i => S i ∨ w.heap.size ≤ i) w W → RdN .i64 W G gone) :
    Calls Tryd.prog 12 #[.pointer (some ⟨rb, 0, none⟩), .slice G gone.length gc] w fun e w' => ∃ A2 c2 A' c', e = .returned (.slice A2 (Sp.outE (Sp.isIn gone) E E.length).length c2) ∧ RdL strC w' A2 (Sp.outE (Sp.isIn gone) E E.length) ∧ Keeps S w w' ∧ RTab w' (Grow S w w') rb (Sp.keptE (Sp.isIn gone) E E.length) A' c' := by
  obtain ⟨i0, hi, hz0, hz1, hz2⟩ := info_parts infoStr
  obtain ⟨j0, gi, gz0, gz1, gz2⟩ := info_parts infoEnR
  have hl := h.len
  have h1 := Lib.hid h
  have hG1 := Lib.hid hG
  clear h hG
  go_enter Tryd.func12, Tryd.ntmps12
  go_wp2
  go_loopw [5, 6, 7] (fun v5 v6 v7 wr => ∃ k : Nat, v7 = .int .i64 k ∧ k ≤ E.length
      ∧ wr.ownsRow w.heap.size 9 1 v5 (Sp.outE (Sp.isIn gone) E k).length ((Sp.outE (Sp.isIn gone) E k).map .string) ∧ wr.ownsRow w.heap.size 48 2 v6 (Sp.keptE (Sp.isIn gone) E k).length ((Sp.keptE (Sp.isIn gone) E k).flatMap Sp.enC)
      ∧ Hid (∀ b, v5.ownBlock = some b → v6.ownBlock ≠ some b) ∧ Hid (Keeps noS w wr)) (fun _ _ v7 _ => E.length - (RowKit.intOf v7).toNat)
  case atStart => exact ⟨0, by go_num, Nat.zero_le _, ⟨by simp [Sp.outE], .inl ⟨rfl, rfl⟩⟩, ⟨by simp [Sp.keptE], .inl ⟨rfl, rfl⟩⟩, Lib.hid (fun b hb => by cases hb), Lib.hid (Keeps.refl _ _)⟩
  case round =>
    obtain ⟨k, rfl, hk, ho, hl6, hdis, hK⟩ := hrel
    have hkl := Sp.kept_le (Sp.isIn gone) E k hk
    have hol := Sp.out_le (Sp.isIn gone) E k hk
    have h2 := Lib.hid (rtab_keeps h1.out hK.out (fun _ _ q => q))
    have hs := hK.out.size
    obtain ⟨c0, f0⟩ := blk_cell h2.out.box 0 (.slice A E.length c) rfl
    have hlow := h1.out.lt _ h1.out.sb
    by_cases hlt : k < E.length
    · obtain ⟨g, rfl, d0, d1⟩ := rtab_rd h2.out k hlt
      have Hks := Lib.hid (Sp.kept_step (Sp.isIn gone) E k hlt)
      have Hos := Lib.hid (Sp.out_step (Sp.isIn gone) E k hlt)
      have hzk : (k : Int) < (E.length : Int) := by omega
      generalize E[k] = en at *
      obtain ⟨et, ea⟩ := en
      simp only [] at d0 d1 Hks Hos
      obtain ⟨wo, hwo⟩ : ∃ wo : World, wo = wr := ⟨_, rfl⟩
      subst hwo
      go_wp2
      go_loopw [8, 9] (fun v8 v9 wx => ∃ (j nd : Nat) (q : Bool), v8 = .bool q ∧ v9 = .int .i64 j ∧ j ≤ gone.length ∧ wx = wo.drewN nd ∧ Hid (q = Sp.isIn (gone.take j) ea)) (fun _ v9 _ => gone.length - (RowKit.intOf v9).toNat)
      case atStart => exact ⟨0, 0, false, rfl, by go_num, Nat.zero_le _, rfl, Lib.hid rfl⟩
      case round =>
        obtain ⟨j, nd, q, rfl, rfl, hj, rfl, hq⟩ := hrel
        by_cases hjt : j < gone.length
        · have hrd := hG1.out (wo.drewN nd) ((hK.out.mono (fun i q => q.elim)).drewN nd)
          obtain ⟨gb, go, rfl, hcell⟩ := hrd.2 (by omega)
          have e0 : wo.cell? ⟨gb, go + j, none⟩ = some (.int .i64 (gone.getD j 0)) := hcell j hjt
          have hin := Lib.hid (Sp.isIn_take gone ea j hjt)
          have hzj : (j : Int) < (gone.length : Int) := by omega
          generalize gone.getD j 0 = x at *
          clear hrd hcell
          cases q with
          | true =>
            have hin2 := Lib.hid (show true = Sp.isIn (gone.take (j + 1)) ea by rw [hin.out, ← hq.out]; rfl)
            clear hin hq
            go_wp2_with fail
            go_quiet (fail)
            go_wp2_with fail
            go_roundw
            case rel => exact ⟨j + 1, nd + nq, true, rfl, by go_num, by omega, by first | rfl | (simp [World.drewN, Nat.add_assoc]), hin2⟩
            case measure => simp [RowKit.intOf]; omega
          | false =>
            have hin2 := Lib.hid (show decide (x = ea) = Sp.isIn (gone.take (j + 1)) ea by rw [hin.out, ← hq.out]; rfl)
            clear hin hq
            go_wp2_with fail
            go_quiet (fail)
            go_wp2_with fail
            go_roundw
            case rel => exact ⟨j + 1, nd + nq, decide (x = ea), by first | rfl | (simp; done) | (congr 1; rw [Bool.eq_iff_iff]; simp), by go_num, by omega, by first | rfl | (simp [World.drewN, Nat.add_assoc]), hin2⟩
            case measure => simp [RowKit.intOf]; omega
        · obtain rfl : j = gone.length := by omega
          have hzj : ¬ (gone.length : Int) < (gone.length : Int) := by omega
          have hqg : Hid (q = Sp.isIn gone ea) := Lib.hid (by rw [hq.out, List.take_length])
          have ho2 : (wo.drewN nd).ownsRow w.heap.size 9 1 u5 (Sp.outE (Sp.isIn gone) E k).length ((Sp.outE (Sp.isIn gone) E k).map .string) := ho
          have hl2 : (wo.drewN nd).ownsRow w.heap.size 48 2 u6 (Sp.keptE (Sp.isIn gone) E k).length ((Sp.keptE (Sp.isIn gone) E k).flatMap Sp.enC) := hl6
          have hK2 := Lib.hid (hK.out.drewN nd)
          have C0 : (wo.drewN nd).cell? ⟨rb, 0, none⟩ = some (.slice (some ⟨g, 0, none⟩) E.length c) := c0
          have D0 : (wo.drewN nd).cell? ⟨g, k * 2, none⟩ = some (.string et) := d0
          have D1 : (wo.drewN nd).cell? ⟨g, k * 2 + 1, none⟩ = some (.int .i64 ea) := d1
          have hs2 : w.heap.size ≤ (wo.drewN nd).heap.size := hs
          clear ho hl6 hK hq c0 f0 d0 d1 hs h2
          generalize wo.drewN nd = W2 at *
          have hld := run_loadAt_mid (P := Tryd.prog) W2 g (k * 2) 48 [.string et, .int .i64 ea] _ (range2 D0 D1) Tryd.underlying48 rfl (by kernel_rfl)
          cases q with
          | true =>
            have Hk := Lib.hid (show Sp.keptE (Sp.isIn gone) E (k + 1) = Sp.keptE (Sp.isIn gone) E k by rw [Hks.out, ← hqg.out]; simp)
            have Ho := Lib.hid (show Sp.outE (Sp.isIn gone) E (k + 1) = Sp.outE (Sp.isIn gone) E k ++ [et] by rw [Hos.out, ← hqg.out]; rfl)
            clear Hks Hos hqg
            go_wp2_with (at_builtin; refine wpList_append_own_at _ rfl _ _ 36 rfl w.heap.size 9 i0 (.string ⟨#[]⟩) 1 16 Tryd.underlying36 hi hz0 hz1 hz2 rfl (by decide) _ (Sp.outE (Sp.isIn gone) E k).length ((Sp.outE (Sp.isIn gone) E k).map .string) rfl (ho2.alloc _) ⟨W2.heap.size, 0, none⟩ 1 1 [.string et] rfl rfl ?x2 ?x3 ?x4 ?x5 ?x6 ?_)
            try case x2 =>
              intro j u hj
              match j, hj with
              | 0, hj => simp at hj; subst hj; simp [Addr.add]
              | 1, hj => simp at hj; subst hj; simp [Addr.add]
              | (j + 2), hj => simp at hj
            try case x3 => first | (intro u hu; simp at hu; rcases hu with rfl | rfl <;> rfl) | (intro u hu; simp at hu; subst hu; rfl) | exact ⟨rfl, rfl⟩ | rfl
            try case x4 => unfold maxLen; omega
            try case x5 => omega
            try case x6 => first | omega | (simp; omega)
            intro v' w3 hown' hg3 _ hat3
            have K3 := Lib.hid ((hK2.out.alloc (.cells #[.string et] 9)).then (Keeps.of_grown (S := fun i => w.heap.size ≤ i) hg3 (fun k hk => .inl (own_base ho2 k hk))) (fun i q => .inr q))
            have hoth := Lib.hid ((hl2.alloc (.cells #[.string et] 9)).kept hg3 (by
              cases hq : (u6 : Value).ownBlock with
              | none => exact .inl rfl
              | some b => exact .inr (fun e => hdis.out b e.symm hq)))
            have hdis3 : Hid (∀ b, (v' : Value).ownBlock = some b → (u6 : Value).ownBlock ≠ some b) := Lib.hid (by
              intro b hb hb'
              rcases hat3 with q | q
              · rw [q] at hb
                exact hdis.out b (by assumption) (by assumption)
              · have hlt' := (hl2.lt b (by assumption)).2
                rw [q] at hb
                injection hb with hb
                (try simp at hb)
                omega)
            have hv' := Lib.hid hown'
            clear hg3 hat3 ho2 hl2 hdis hown'
            go_wp2
            go_roundw
            case rel =>
              refine ⟨k + 1, by go_num, by omega, ?_, ?_, hdis3, K3⟩
              · rw [Ho.out]; simpa using hv'.out
              · rw [Hk.out]; exact hoth.out
            case measure => simp [RowKit.intOf]; omega
          | false =>
            have Hk := Lib.hid (show Sp.keptE (Sp.isIn gone) E (k + 1) = Sp.keptE (Sp.isIn gone) E k ++ [(et, ea)] by rw [Hks.out, ← hqg.out]; rfl)
            have Ho := Lib.hid (show Sp.outE (Sp.isIn gone) E (k + 1) = Sp.outE (Sp.isIn gone) E k by rw [Hos.out, ← hqg.out]; simp)
            clear Hks Hos hqg
            go_wp2_with (at_builtin; refine wpList_append_own_at _ rfl _ _ 27 rfl w.heap.size 48 j0 (.agg #[.string ⟨#[]⟩, .int .i64 0]) 2 24 Tryd.underlying27 gi gz0 gz1 gz2 rfl (by decide) _ (Sp.keptE (Sp.isIn gone) E k).length ((Sp.keptE (Sp.isIn gone) E k).flatMap Sp.enC) rfl (hl2.alloc _) ⟨W2.heap.size, 0, none⟩ 1 1 [.string et, .int .i64 ea] rfl rfl ?y2 ?y3 ?y4 ?y5 ?y6 ?_)
            try case y2 =>
              intro j u hj
              match j, hj with
              | 0, hj => simp at hj; subst hj; simp [Addr.add]
              | 1, hj => simp at hj; subst hj; simp [Addr.add]
              | (j + 2), hj => simp at hj
            try case y3 => first | (intro u hu; simp at hu; rcases hu with rfl | rfl <;> rfl) | (intro u hu; simp at hu; subst hu; rfl) | exact ⟨rfl, rfl⟩ | rfl
            try case y4 => unfold maxLen; omega
            try case y5 => omega
            try case y6 => first | omega | (simp; omega)
            intro v' w3 hown' hg3 _ hat3
            have K3 := Lib.hid ((hK2.out.alloc (.cells #[.string et, .int .i64 ea] 48)).then (Keeps.of_grown (S := fun i => w.heap.size ≤ i) hg3 (fun k hk => .inl (own_base hl2 k hk))) (fun i q => .inr q))
            have hoth := Lib.hid ((ho2.alloc (.cells #[.string et, .int .i64 ea] 48)).kept hg3 (by
              cases hq : (u5 : Value).ownBlock with
              | none => exact .inl rfl
              | some b => exact .inr (fun e => hdis.out b hq e.symm)))
            have hdis3 : Hid (∀ b, (u5 : Value).ownBlock = some b → (v' : Value).ownBlock ≠ some b) := Lib.hid (by
              intro b hb hb'
              rcases hat3 with q | q
              · rw [q] at hb'
                exact hdis.out b (by assumption) (by assumption)
              · have hlt' := (ho2.lt b (by assumption)).2
                rw [q] at hb'
                injection hb' with hb'
                (try simp at hb')
                omega)
            have hv' := Lib.hid hown'
            clear hg3 hat3 ho2 hl2 hdis hown'
            go_wp2
            go_roundw
            case rel =>
              refine ⟨k + 1, by go_num, by omega, ?_, ?_, hdis3, K3⟩
              · rw [Ho.out]; exact hoth.out
              · rw [Hk.out, List.flatMap_append]; simpa [Sp.enC] using hv'.out
            case measure => simp [RowKit.intOf]; omega
    · obtain rfl : k = E.length := by omega
      have hzk : ¬ (E.length : Int) < (E.length : Int) := by omega
      obtain ⟨A2, c2, rfl⟩ := own_sl ho
      obtain ⟨A', c', rfl⟩ := own_sl hl6
      have Kl := Lib.hid ((Keeps.refl (fun i => i = rb) wr).setCell (a := ⟨rb, 0, none⟩) (.inl rfl) (.slice A' (Sp.keptE (Sp.isIn gone) E E.length).length c'))
      have hr := Lib.hid (own_rdL (w := wr.setCell ⟨rb, 0, none⟩ (.slice A' (Sp.keptE (Sp.isIn gone) E E.length).length c')) strC_len (by decide) (by rw [strC_flat]; exact Kl.out.row ho (fun i hi q => by have := own_base ho i hi; omega))).2
      have hlft := Lib.hid (Kl.out.row hl6 (fun i hi q => by have := own_base hl6 i hi; omega))
      have hlb := Lib.hid (fun k hk => own_base hl6 k hk)
      have hbx := Lib.hid (blk_set (i := 0) h2.out.box (.slice A' (Sp.keptE (Sp.isIn gone) E E.length).length c'))
      have hKf := Lib.hid ((hK.out.mono (S' := S) (fun i q => q.elim)).setCell (a := ⟨rb, 0, none⟩) (.inl h1.out.sb) (.slice A' (Sp.keptE (Sp.isIn gone) E E.length).length c'))
      clear ho hl6
      go_wp2
      go_ret
      have hsz := hKf.out.size
      have hfin : RTab (wr.setCell ⟨rb, 0, none⟩ (.slice A' (Sp.keptE (Sp.isIn gone) E E.length).length c')) (Grow S w (wr.setCell ⟨rb, 0, none⟩ (.slice A' (Sp.keptE (Sp.isIn gone) E E.length).length c'))) rb (Sp.keptE (Sp.isIn gone) E E.length) A' c' := by
        refine ⟨by have := hbx.out; simpa using this, ?_, .inl h1.out.sb, fun i hi => ⟨.inr ⟨hlb.out i hi, (hlft.out.lt i hi).2⟩, fun e => by have := hlb.out i hi; omega⟩, fun i hi => hi.elim (fun r => Nat.lt_of_lt_of_le (h1.out.lt i r) hsz) (fun r => r.2), by omega, fun x hx => h1.out.sm x ?_⟩
        · obtain ⟨q1, q2⟩ := hlft.out
          refine ⟨q1, q2.imp id fun q => ?_⟩
          obtain ⟨g0, cap, cur, e1, e2, e3⟩ := q
          exact ⟨g0, cap, cur, e1, Nat.zero_le _, e3⟩
        · exact (Sp.left_sub (Sp.isIn gone) E E.length).subset (by rw [Sp.left_end]; exact hx)
      first | exact ⟨A2, ⟨c2, rfl⟩, hr.out, hKf.out, A', c', hfin⟩ | exact ⟨A2, c2, A', c', rfl, hr.out, hKf.out, hfin⟩
end Go.Proofs.YtokkpdjbgaicmaaDoor
