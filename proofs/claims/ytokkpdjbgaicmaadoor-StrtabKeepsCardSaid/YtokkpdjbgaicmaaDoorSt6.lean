/-
  Walks of the reference's table: Enter, Find, Runes.
-/
import Derived.Test.YtokkpdjbgaicmaaDoorSt5
import Derived.Lib.SlicesS
import Derived.Deep.QuietTactic
import Derived.BigQuiet
set_option linter.unusedVariables false
set_option linter.unusedSimpArgs false
namespace Go.Proofs.YtokkpdjbgaicmaaDoor
open Go.RowKit Go.Lib Go.Maps

/-- The reference's table. -/
structure RTab (w : World) (S : Nat → Prop) (rb : Nat) (E : List Sp.En) (A : Option Addr) (c : Nat) : Prop where
  box : w.heap[rb]? = some (.cells #[.slice A E.length c] 29 (0, 0))
  row : w.ownsRow 0 48 2 (.slice A E.length c) E.length (E.flatMap Sp.enC)
  sb : S rb
  sr : ∀ k, (Value.slice A E.length c).ownBlock = some k → S k ∧ k ≠ rb
  lt : ∀ k, S k → k < w.heap.size
  len : E.length ≤ 1000
  sm : ∀ e ∈ E, e.1.size ≤ 1000000
theorem rtab_keeps {w w' : World} {S S' : Nat → Prop} {rb : Nat} {E : List Sp.En} {A : Option Addr} {c : Nat} (h : RTab w S rb E A c) (k : Keeps S' w w') (hd : ∀ i, S i → ¬ S' i) : RTab w' S rb E A c :=
  ⟨k.obj h.box (hd _ h.sb), k.row h.row (fun i hi => hd _ (h.sr i hi).1), h.sb, h.sr, fun i hi => Nat.lt_of_lt_of_le (h.lt i hi) k.size, h.len, h.sm⟩
theorem rtab_grow {w w' : World} {S : Nat → Prop} {rb : Nat} {E : List Sp.En} {A : Option Addr} {c : Nat} (h : RTab w' S rb E A c) : RTab w' (Grow S w w') rb E A c :=
  ⟨h.box, h.row, .inl h.sb, fun i hi => ⟨.inl (h.sr i hi).1, (h.sr i hi).2⟩, fun i hi => hi.elim (fun r => h.lt i r) (fun r => r.2), h.len, h.sm⟩
theorem rtab_rd {w : World} {S : Nat → Prop} {rb : Nat} {E : List Sp.En} {A : Option Addr} {c : Nat} (h : RTab w S rb E A c) (k : Nat) (hk : k < E.length) : ∃ g, A = some ⟨g, 0, none⟩ ∧ w.cell? ⟨g, k * 2, none⟩ = some (.string E[k].1) ∧ w.cell? ⟨g, k * 2 + 1, none⟩ = some (.int .i64 E[k].2) := by
  obtain ⟨b, o, hA, hr⟩ := (own_rdL Sp.enC_len (by decide) h.row).2.2 (by omega)
  have hA' : A = some ⟨b, o, none⟩ := hA
  have ho : o = 0 := by
    rcases h.row.2 with ⟨_, h1⟩ | ⟨g, cap, cur, hv, _⟩
    · omega
    · injection hv with hv
      rw [hA'] at hv
      injection hv with hv
      injection hv
  subst ho
  have h0 := rdL_get 2 Sp.enC_len hr hk 0 (by decide) rfl
  have h1 := rdL_get 2 Sp.enC_len hr hk 1 (by decide) rfl
  rw [Nat.zero_add] at h0 h1
  exact ⟨b, hA', h0, h1⟩
theorem infoEnR : (Tryd.prog.info? 48).map (fun i => (i.zero, i.size, i.bytes)) = some (some (.agg #[.string ⟨#[]⟩, .int .i64 0]), 2, 24) := by kernel_rfl

namespace Sp
theorem atT_drop (E : List En) (t : ByteArray) (k : Nat) (h : k < E.length) : atT (E.drop k) t = if E[k].1 = t then some E[k].2 else atT (E.drop (k + 1)) t := by
  rw [List.drop_eq_getElem_cons h, atT]
theorem hit_drop (E : List En) (t : ByteArray) (a : Int) (k : Nat) (h : k < E.length) : (((atT (E.drop k) t).isSome = true ∨ (lenA (E.drop k) a).isSome = true) ↔ (E[k].1 = t ∨ E[k].2 = a ∨ ((atT (E.drop (k + 1)) t).isSome = true ∨ (lenA (E.drop (k + 1)) a).isSome = true))) := by
  rw [List.drop_eq_getElem_cons h, atT, lenA]
  by_cases h1 : E[k].1 = t
  · simp [h1]
  · by_cases h2 : E[k].2 = a
    · simp [h1, h2]
    · simp [h1, h2]
end Sp
theorem str_eqb (a b : ByteArray) : (a.toList == b.toList) = decide (a = b) := by
  rw [Bool.eq_iff_iff, decide_eq_true_iff, bytes_beq_iff]

set_option maxHeartbeats 8000000 in
set_option maxRecDepth 100000 in
theorem refFind_any (S : Nat → Prop) (rb : Nat) (E : List Sp.En) (A : Option Addr) (c : Nat) (t : ByteArray) (w : World) (h : RTab w S rb E A c) :
    Calls Tryd.prog 14 #[.pointer (some ⟨rb, 0, none⟩), .string t] w fun e w' => e = .returned (.tuple #[.int .i64 ((Sp.atT E t).getD 0), .bool (Sp.atT E t).isSome]) ∧ w' = w := by
  obtain ⟨c0, f0⟩ := blk_cell h.box 0 (.slice A E.length c) rfl
  have hl := h.len
  have h1 := Lib.hid h
  clear h
  have HE := Lib.hid (show Sp.atT E t = Sp.atT (E.drop 0) t by simp)
  generalize Sp.atT E t = R at HE ⊢
  go_enter Tryd.func14, Tryd.ntmps14
  go_wp2
  go_loop [6] (fun v6 => ∃ k : Nat, v6 = .int .i64 k ∧ k ≤ E.length ∧ Hid (R = Sp.atT (E.drop k) t)) (fun v6 => E.length - (RowKit.intOf v6).toNat)
  case atStart => exact ⟨0, by go_num, Nat.zero_le _, HE⟩
  case round =>
    obtain ⟨k, rfl, hk, hX⟩ := hrel
    clear HE
    by_cases hlt : k < E.length
    · obtain ⟨g, rfl, d0, d1⟩ := rtab_rd h1.out k hlt
      have hX2 := Lib.hid (hX.out.trans (Sp.atT_drop E t k hlt))
      have hzk : (k : Int) < (E.length : Int) := by omega
      clear hX
      generalize E[k] = en at *
      obtain ⟨et, ea⟩ := en
      simp only [] at d0 d1 hX2
      by_cases he : et = t
      · subst he
        have hR : R = some ea := by rw [hX2.out, if_pos rfl]
        subst hR
        clear hX2
        go_wp2
        go_ret2
        exact ⟨rfl, rfl⟩
      · have hb : (et.toList == t.toList) = false := by rw [str_eqb, decide_eq_false he]
        have hX3 := Lib.hid (show R = Sp.atT (E.drop (k + 1)) t by rw [hX2.out, if_neg he])
        clear hX2 he
        go_wp2
        go_round
        case rel => exact ⟨k + 1, by go_num, by omega, hX3⟩
        case measure => simp [RowKit.intOf]; omega
    · obtain rfl : k = E.length := by omega
      have hzk : ¬ (E.length : Int) < (E.length : Int) := by omega
      have hR : R = none := by rw [hX.out, List.drop_length]; rfl
      subst hR
      clear hX
      go_wp2
      go_ret2
      exact ⟨rfl, rfl⟩

set_option maxHeartbeats 8000000 in
set_option maxRecDepth 100000 in
theorem refRunesT_any (S : Nat → Prop) (rb : Nat) (E : List Sp.En) (A : Option Addr) (c : Nat) (w : World) (h : RTab w S rb E A c) :
    Calls Tryd.prog 17 #[.pointer (some ⟨rb, 0, none⟩)] w fun e w' => e = .returned (.int .i64 (Sp.runesN E : Nat)) ∧ Below w.heap.size w w' := by
  have hl := h.len
  have h1 := Lib.hid h
  have HE := Lib.hid (show Sp.runesN E = Sp.runesN (E.drop 0) by simp)
  have hbig := Lib.hid (show Sp.runesN E ≤ 1000000000 by
    have := Sp.runesN_le E h.sm
    have : E.length * 1000000 ≤ 1000 * 1000000 := Nat.mul_le_mul_right _ (by omega)
    omega)
  clear h
  generalize Sp.runesN E = R at HE hbig ⊢
  go_enter Tryd.func17, Tryd.ntmps17
  go_wp2
  go_loopw [3, 4] (fun v2 v3 wr => ∃ (k n : Nat), v2 = .int .i64 n ∧ v3 = .int .i64 k ∧ k ≤ E.length ∧ Hid (R = n + Sp.runesN (E.drop k)) ∧ Below w.heap.size w wr) (fun _ v3 _ => E.length - (RowKit.intOf v3).toNat)
  case atStart => exact ⟨0, 0, by go_num, by go_num, Nat.zero_le _, Lib.hid (by rw [HE.out]; simp), Below.refl _ _⟩
  case round =>
    obtain ⟨k, n, rfl, rfl, hk, hX, hb⟩ := hrel
    clear HE
    have hs := hb.size
    have h2 := Lib.hid (rtab_keeps h1.out (Keeps.of_below (S := noS) hb) (fun _ _ q => q))
    obtain ⟨c0, f0⟩ := blk_cell h2.out.box 0 (.slice A E.length c) rfl
    by_cases hlt : k < E.length
    · obtain ⟨g, rfl, d0, d1⟩ := rtab_rd h2.out k hlt
      have hX2 := Lib.hid (show R = n + ((Sp.runes E[k].1).length + Sp.runesN (E.drop (k + 1))) by rw [hX.out, List.drop_eq_getElem_cons hlt]; rfl)
      have hzk : (k : Int) < (E.length : Int) := by omega
      have kR := Lib.hid (fun W => refRunes_any E[k].1 W (by have := h1.out.sm _ (List.getElem_mem hlt); omega))
      rw [Sp.refRunes_eq] at kR
      simp only [] at kR
      clear hX
      generalize E[k] = en at *
      obtain ⟨et, ea⟩ := en
      simp only [] at d0 d1 hX2 kR
      generalize Sp.runes et = rs at *
      have hn : (n : Int) ≤ 1000000000 ∧ (rs.length : Int) ≤ 1000000000 := by have := hX2.out; have := hbig.out; omega
      obtain ⟨hn1, hn2⟩ := hn
      have hn1' := Lib.hid hn1
      have hn2' := Lib.hid hn2
      clear hn1 hn2
      go_wp2_with fail
      refine (kR.out _).mono ?_
      rintro e w1 ⟨A1, c1, rfl, _, hb1⟩
      have hbb := below_then hb hs hb1
      have hwr : IntKind.i64.wrap ((n : Int) + (rs.length : Int)) = (n : Int) + (rs.length : Int) := IntWalk.i64_in _ (by have := hn1'.out; have := hn2'.out; omega)
      clear hb1 d0 d1 c0 f0 kR
      go_wp2
      go_roundw
      case rel => exact ⟨k + 1, n + rs.length, by have := hn1'.out; have := hn2'.out; first | rfl | (simp; done) | (rw [hwr]; simp), by go_num, by omega, Lib.hid (by rw [hX2.out]; omega), hbb⟩
      case measure => simp [RowKit.intOf]; omega
    · obtain rfl : k = E.length := by omega
      have hzk : ¬ (E.length : Int) < (E.length : Int) := by omega
      have hR : R = n := by rw [hX.out, List.drop_length]; rfl
      subst hR
      clear hX
      go_wp2
      go_ret
      exact ⟨rfl, hb⟩

set_option maxHeartbeats 8000000 in
set_option maxRecDepth 100000 in
theorem refEnter_any (S : Nat → Prop) (rb : Nat) (E : List Sp.En) (A : Option Addr) (c : Nat) (t : ByteArray) (a : Int) (w : World) (h : RTab w S rb E A c) (ht : t.size ≤ 1000000) (hN : E.length < 1000) :
    Calls Tryd.prog 9 #[.pointer (some ⟨rb, 0, none⟩), .string t, .int .i64 a] w fun e w' => ∃ A' c', e = .returned (.int .i64 (Sp.enterS E t a)) ∧ Keeps S w w' ∧ RTab w' (Grow S w w') rb (Sp.nextE E t a) A' c' := by
  obtain ⟨i0, hi, hz0, hz1, hz2⟩ := info_parts infoEnR
  have kR := Lib.hid (fun W => refRunes_any t W (by omega))
  rw [Sp.refRunes_eq] at kR
  simp only [] at kR
  have HE := Lib.hid (show Sp.enterS E t a = _ by rw [Sp.enterS])
  have HN := Lib.hid (show Sp.nextE E t a = _ by rw [Sp.nextE])
  generalize Sp.enterS E t a = R at HE HN ⊢
  generalize Sp.nextE E t a = E' at HN ⊢
  have h0 := Lib.hid h
  clear h
  generalize validD t.data.toList = V at kR HE
  generalize Sp.runes t = rs at kR
  go_enter Tryd.func9, Tryd.ntmps9
  go_wp2_with fail
  refine (kR.out _).mono ?_
  rintro e w1 ⟨A1, c1, rfl, _, hb1⟩
  clear kR
  have h1 := Lib.hid (rtab_keeps h0.out (Keeps.of_below (S := noS) hb1) (fun _ _ q => q))
  have K1 := Lib.hid (Keeps.of_below (S := S) hb1)
  have same : Hid (∀ w', Keeps S w w' → RTab w' S rb E A c → RTab w' (Grow S w w') rb E A c) := Lib.hid (fun w' _ q => rtab_grow q)
  clear hb1
  cases V with
  | false =>
    have hR : R = 4 := by rw [HE.out, if_pos rfl]
    have hE' : E' = E := by rw [HN.out, hR, if_neg (by decide)]
    subst hR
    subst hE'
    clear HE HN
    go_wp2
    go_ret
    exact ⟨A, c, rfl, K1.out, same.out _ K1.out h1.out⟩
  | true =>
  by_cases ha1 : a < 1
  · have hR : R = 1 := by rw [HE.out, if_neg (by decide), if_pos ha1]
    have hE' : E' = E := by rw [HN.out, hR, if_neg (by decide)]
    subst hR
    subst hE'
    clear HE HN
    go_wp2
    go_ret
    exact ⟨A, c, rfl, K1.out, same.out _ K1.out h1.out⟩
  have HE1 := Lib.hid (show R = if (Sp.atT (E.drop 0) t).isSome = true ∨ (Sp.lenA (E.drop 0) a).isSome = true then 15 else 0 by rw [HE.out, if_neg (by decide), if_neg ha1, if_neg (show ¬ 1048576 ≤ E.length by omega)]; simp)
  clear HE
  obtain ⟨c0, f0⟩ := blk_cell h1.out.box 0 (.slice A E.length c) rfl
  have hl := h1.out.len
  go_wp2
  go_loop [9] (fun v9 => ∃ k : Nat, v9 = .int .i64 k ∧ k ≤ E.length ∧ Hid (R = if (Sp.atT (E.drop k) t).isSome = true ∨ (Sp.lenA (E.drop k) a).isSome = true then 15 else 0)) (fun v9 => E.length - (RowKit.intOf v9).toNat)
  case atStart => exact ⟨0, by go_num, Nat.zero_le _, HE1⟩
  case round =>
    obtain ⟨k, rfl, hk, hX⟩ := hrel
    clear HE1
    by_cases hlt : k < E.length
    · obtain ⟨g, rfl, d0, d1⟩ := rtab_rd h1.out k hlt
      have hh := Lib.hid (Sp.hit_drop E t a k hlt)
      have hzk : (k : Int) < (E.length : Int) := by omega
      generalize E[k] = en at *
      obtain ⟨et, ea⟩ := en
      simp only [] at d0 d1 hh
      by_cases he : et = t ∨ ea = a
      · have hR : R = 15 := by rw [hX.out, if_pos (hh.out.2 (he.elim .inl (fun q => .inr (.inl q))))]
        have hE' : E' = E := by rw [HN.out, hR, if_neg (by decide)]
        subst hR
        subst hE'
        clear hX hh HN
        by_cases he1 : et = t
        · subst he1
          clear he
          go_wp2
          go_ret
          first | exact ⟨_, _, rfl, K1.out, same.out _ K1.out h1.out⟩ | exact ⟨rfl, K1.out, _, _, same.out _ K1.out h1.out⟩
        · have hb : (et.toList == t.toList) = false := by rw [str_eqb, decide_eq_false he1]
          obtain rfl : ea = a := he.resolve_left he1
          clear he he1
          go_wp2
          go_ret
          first | exact ⟨_, _, rfl, K1.out, same.out _ K1.out h1.out⟩ | exact ⟨rfl, K1.out, _, _, same.out _ K1.out h1.out⟩
      · have hb : (et.toList == t.toList) = false := by rw [str_eqb, decide_eq_false (fun q => he (.inl q))]
        have hb2 : (ea == a) = false := by rw [beq_eq_false_iff_ne]; exact fun q => he (.inr q)
        have hX3 : Hid (R = if (Sp.atT (E.drop (k + 1)) t).isSome = true ∨ (Sp.lenA (E.drop (k + 1)) a).isSome = true then 15 else 0) := Lib.hid (by
          rw [hX.out]
          by_cases q : (Sp.atT (E.drop (k + 1)) t).isSome = true ∨ (Sp.lenA (E.drop (k + 1)) a).isSome = true
          · rw [if_pos q, if_pos (hh.out.2 (.inr (.inr q)))]
          · rw [if_neg q, if_neg (fun r => (hh.out.1 r).elim (fun s => he (.inl s)) (fun s => s.elim (fun s => he (.inr s)) q))])
        clear hX hh he
        go_wp2
        go_round
        case rel => exact ⟨k + 1, by go_num, by omega, hX3⟩
        case measure => simp [RowKit.intOf]; omega
    · obtain rfl : k = E.length := by omega
      have hzk : ¬ (E.length : Int) < (E.length : Int) := by omega
      have hR : R = 0 := by rw [hX.out, List.drop_length]; rfl
      have hE' : E' = E ++ [(t, a)] := by rw [HN.out, hR, if_pos rfl]
      have hlen : decide ((1048576 : Int) ≤ (E.length : Int)) = false := by rw [decide_eq_false_iff_not]; omega
      subst hR
      subst hE'
      clear hX HN
      go_wp2_with (at_builtin; refine wpList_append_own_at _ rfl _ _ 27 rfl 0 48 i0 (.agg #[.string ⟨#[]⟩, .int .i64 0]) 2 24 Tryd.underlying27 hi hz0 hz1 hz2 rfl (by decide) (.slice A E.length c) E.length (E.flatMap Sp.enC) rfl (h1.out.row.alloc _) ⟨w1.heap.size, 0, none⟩ 1 1 [.string t, .int .i64 a] rfl rfl ?x2 ?x3 ?x4 ?x5 ?x6 ?_)
      try case x2 =>
        intro j u hj
        match j, hj with
        | 0, hj => simp at hj; subst hj; simp [Addr.add]
        | 1, hj => simp at hj; subst hj; simp [Addr.add]
        | (j + 2), hj => simp at hj
      try case x3 => first | (intro u hu; simp at hu; rcases hu with rfl | rfl <;> rfl) | exact ⟨rfl, rfl⟩
      try case x4 => unfold maxLen; omega
      try case x5 => omega
      try case x6 => exact Nat.zero_le _
      intro v' w3 hown' hg3 _ hat3
      obtain ⟨A', c', rfl⟩ := own_sl hown'
      have hloc : Hid (∀ k, (Value.slice A' (E.length + 1) c').ownBlock = some k → (S k ∨ w.heap.size ≤ k) ∧ k ≠ rb) := Lib.hid (by
        intro k hk
        rcases hat3 with q | q
        · have := h1.out.sr k (q ▸ hk)
          exact ⟨.inl this.1, this.2⟩
        · have hlt := blk_lt h1.out.box
          have := K1.out.size
          rw [hk] at q
          injection q with q
          (try simp at q)
          exact ⟨.inr (by omega), by omega⟩)
      have b3 := Lib.hid (blk_grown (blk_old (o := .cells #[.string t, .int .i64 a] 48) h1.out.box) hg3 (fun e => (h1.out.sr rb e.symm).2 rfl))
      have K3 := Lib.hid ((((K1.out.alloc (.cells #[.string t, .int .i64 a] 48)).then (Keeps.of_grown (S := S) hg3 (fun k hk => .inl (h1.out.sr k hk).1)) (fun i hi => .inl hi)).setCell (a := ⟨rb, 0, none⟩) (.inl h1.out.sb) (.slice A' (E.length + 1) c')))
      have r3 := Lib.hid ((Keeps.refl (fun i => i = rb) w3).setCell (a := ⟨rb, 0, none⟩) (.inl rfl) (.slice A' (E.length + 1) c') |>.row hown' (fun k hk => fun e => (hloc.out k hk).2 e))
      have b4 := Lib.hid (blk_set (i := 0) b3.out (.slice A' (E.length + 1) c'))
      clear hown' hg3 hat3 c0 f0
      obtain ⟨c0, f0⟩ := blk_cell b3.out 0 (.slice A E.length c) rfl
      go_wp2
      go_ret
      have hlE : (E ++ [(t, a)]).length = E.length + 1 := by simp
      have hfE : (E ++ [(t, a)]).flatMap Sp.enC = E.flatMap Sp.enC ++ [.string t, .int .i64 a] := by rw [List.flatMap_append]; rfl
      have hfin : RTab (w3.setCell ⟨rb, 0, none⟩ (.slice A' (E.length + 1) c')) (Grow S w (w3.setCell ⟨rb, 0, none⟩ (.slice A' (E.length + 1) c'))) rb (E ++ [(t, a)]) A' c' := by
       refine ⟨by rw [hlE]; have := b4.out; simpa using this, by rw [hlE, hfE]; exact r3.out, .inl h1.out.sb, fun k hk => ?_, fun k hk => hk.elim (fun r => Nat.lt_of_lt_of_le (h0.out.lt k r) K3.out.size) (fun r => r.2), by omega, fun e he => ?_⟩
       · rw [hlE] at hk
         obtain ⟨q1, q2⟩ := hloc.out k hk
         exact ⟨q1.elim .inl fun r => .inr ⟨r, (r3.out.lt k hk).2⟩, q2⟩
       · rcases List.mem_append.1 he with q | q
         · exact h1.out.sm e q
         · simp at q
           subst q
           exact ht
      first | exact ⟨A', c', rfl, K3.out, hfin⟩ | exact ⟨rfl, K3.out, A', c', hfin⟩
end Go.Proofs.YtokkpdjbgaicmaaDoor
