/-
  Walk of strtab's Enter.
-/
import Derived.Test.YtokkpdjbgaicmaaDoorSt1
set_option linter.unusedVariables false
set_option linter.unusedSimpArgs false
namespace Go.Proofs.YtokkpdjbgaicmaaDoor
open Go.RowKit Go.Lib Go.Maps

theorem tab_keeps {w w' : World} {S S' : Nat → Prop} {tb N : Nat} {E : List Sp.En} {ba bo : Nat} {A : Option Addr} {c : Nat} (h : TabAt w S tb N E ba bo A c) (k : Keeps S' w w') (hd : ∀ i, S i → ¬ S' i) : TabAt w' S tb N E ba bo A c :=
  ⟨k.obj h.box (hd _ h.sb), k.row h.row (fun i hi => hd _ (h.sr i hi).1), k.mapV h.mt (hd _ h.sa), k.mapV h.ma (hd _ h.so), h.ne, h.sb, h.sa, h.so, h.sr, fun i hi => Nat.lt_of_lt_of_le (h.lt i hi) k.size, h.len, h.sm⟩
theorem tab_mono {w : World} {S S' : Nat → Prop} {tb N N' : Nat} {E : List Sp.En} {ba bo : Nat} {A : Option Addr} {c : Nat} (h : TabAt w S tb N E ba bo A c) (hs : ∀ i, S i → S' i) (hl : ∀ i, S' i → i < w.heap.size) (hn : N ≤ N') : TabAt w S' tb N' E ba bo A c :=
  ⟨h.box, h.row, mapV_mono h.mt hn, mapV_mono h.ma hn, h.ne, hs _ h.sb, hs _ h.sa, hs _ h.so, fun i hi => ⟨hs _ (h.sr i hi).1, (h.sr i hi).2⟩, hl, Nat.le_trans h.len hn, h.sm⟩
def noS : Nat → Prop := fun _ => False
theorem keeps_no {w w' : World} {S : Nat → Prop} (h : Below w.heap.size w w') : Keeps S w w' := Keeps.of_below h

/-- The table behind an entry, out of its parts. -/
theorem tab_entered {w w' : World} {S : Nat → Prop} {tb N : Nat} {E : List Sp.En} {ba bo : Nat} {A A' : Option Addr} {c c' : Nat} {t : ByteArray} {a : Int} (h : TabAt w S tb N E ba bo A c) (ht : t.size ≤ 1000000)
    (box : w'.heap[tb]? = some (.cells #[.slice A' (E.length + 1) c', .map (some ba), .map (some bo), .int .i64 ((Sp.runesN E : Int) + ((Sp.runes t).length : Nat))] 56 (0, 0)))
    (row : w'.ownsRow 0 9 1 (.slice A' (E.length + 1) c') (E.length + 1) ((E.map fun e => .string e.1) ++ [.string t])) (mt : MapV Tryd.prog w' 9 ba (N + 1) (Sp.fT (E ++ [(t, a)]))) (ma : MapV Tryd.prog w' 3 bo (N + 1) (Sp.fA (E ++ [(t, a)])))
    (hk : ∀ k, (Value.slice A' (E.length + 1) c').ownBlock = some k → (S k ∨ w.heap.size ≤ k) ∧ k ≠ tb) (hs : w.heap.size ≤ w'.heap.size) : TabAt w' (Grow S w w') tb (N + 1) (E ++ [(t, a)]) ba bo A' c' := by
  have hl : (E ++ [(t, a)]).length = E.length + 1 := by simp
  have hm : (E ++ [(t, a)]).map (fun e => Value.string e.1) = (E.map fun e => .string e.1) ++ [.string t] := by simp
  have hr : ((Sp.runesN (E ++ [(t, a)]) : Nat) : Int) = (Sp.runesN E : Int) + ((Sp.runes t).length : Nat) := by rw [Sp.runesN_append]; simp [Sp.runesN]
  exact ⟨by rw [hl, hr]; exact box, by rw [hl, hm]; exact row, mt, ma, h.ne, .inl h.sb, .inl h.sa, .inl h.so, fun k hk' => by
    rw [hl] at hk'
    obtain ⟨q1, q2⟩ := hk k hk'
    refine ⟨q1.elim .inl fun r => .inr ⟨r, ?_⟩, q2⟩
    exact (row.lt k hk').2, fun k hk' => hk'.elim (fun r => Nat.lt_of_lt_of_le (h.lt k r) hs) (fun r => r.2), by rw [hl]; exact Nat.succ_le_succ h.len, fun e he => by
    rcases List.mem_append.1 he with q | q
    · exact h.sm e q
    · simp at q
      subst q
      exact ht⟩

set_option maxHeartbeats 8000000 in
set_option maxRecDepth 100000 in
theorem enter_any (S : Nat → Prop) (tb N : Nat) (E : List Sp.En) (ba bo : Nat) (A : Option Addr) (c : Nat) (t : ByteArray) (a : Int) (w : World) (h : TabAt w S tb N E ba bo A c) (ht : t.size ≤ 1000000) (ha : -9223372036854775808 ≤ a ∧ a ≤ 9223372036854775807) (hN : N ≤ 1000) (hT : Tabs w) :
    Calls Tryd.prog 8 #[.pointer (some ⟨tb, 0, none⟩), .string t, .int .i64 a] w fun e w' => ∃ A' c', e = .returned (.int .i64 (Sp.enterS E t a)) ∧ Keeps S w w' ∧ TabAt w' (Grow S w w') tb (N + 1) (Sp.nextE E t a) ba bo A' c' := by
  have kV := Lib.hid (Tryd.utf8_ValidString t w (by omega) hT)
  have kS := Lib.hid (keyS t (by unfold maxLen; omega))
  have kI := Lib.hid (keyI a ha)
  have HE := Lib.hid (show Sp.enterS E t a = _ by rw [Sp.enterS])
  have HN := Lib.hid (show Sp.nextE E t a = _ by rw [Sp.nextE])
  generalize Sp.enterS E t a = R at HE HN ⊢
  generalize Sp.nextE E t a = E' at HN ⊢
  have hl := h.len
  have h1 := Lib.hid h
  clear h hT ha
  have HA := Lib.hid (Sp.fT_at E t)
  have HB := Lib.hid (Sp.fA_at E a)
  generalize hV : validD t.data.toList = V at kV HE
  clear hV
  go_enter Tryd.func8, Tryd.ntmps8
  go_wp2_with fail
  refine (kV.out).mono ?_
  rintro e w1 ⟨rfl, hb1⟩
  clear kV
  have h2 := Lib.hid (tab_keeps h1.out (Keeps.of_below (S := noS) hb1) (fun _ _ q => q))
  have K1 := Lib.hid (Keeps.of_below (S := S) hb1)
  have hsz1 := hb1.size
  clear hb1
  have same : ∀ w', Keeps S w w' → TabAt w' S tb N E ba bo A c → TabAt w' (Grow S w w') tb (N + 1) E ba bo A c := fun w' k q =>
    tab_mono q (fun i hi => Or.inl hi) (fun i hi => hi.elim (fun r => q.lt i r) (fun r => r.2)) (Nat.le_succ _)
  have hsame := Lib.hid same
  clear same
  cases V with
  | false =>
    have hR : R = 4 := by rw [HE.out, if_pos rfl]
    have hE' : E' = E := by rw [HN.out, hR, if_neg (by decide)]
    subst hR
    subst hE'
    clear HE HN
    go_wp2
    go_ret
    exact ⟨A, c, rfl, K1.out, hsame.out _ K1.out h2.out⟩
  | true =>
  by_cases ha1 : a < 1
  · have hR : R = 1 := by rw [HE.out, if_neg (by decide), if_pos ha1]
    have hE' : E' = E := by rw [HN.out, hR, if_neg (by decide)]
    subst hR
    subst hE'
    clear HE HN
    go_wp2
    go_ret
    exact ⟨A, c, rfl, K1.out, hsame.out _ K1.out h2.out⟩
  have HE1 := Lib.hid (show R = if (Sp.atT E t).isSome = true ∨ (Sp.lenA E a).isSome = true then 15 else if 1048576 ≤ E.length then 3 else 0 by rw [HE.out, if_neg (by decide), if_neg ha1])
  clear HE
  obtain ⟨c0, f0⟩ := blk_cell h2.out.box 0 (.slice A E.length c) rfl
  obtain ⟨c1, f1⟩ := blk_cell h2.out.box 1 (.map (some ba)) rfl
  obtain ⟨c2, f2⟩ := blk_cell h2.out.box 2 (.map (some bo)) rfl
  obtain ⟨c3, f3⟩ := blk_cell h2.out.box 3 (.int .i64 (Sp.runesN E : Nat)) rfl
  generalize hX : Sp.atT E t = X at *
  generalize hY : Sp.lenA E a = Y at *
  cases X with
  | some x =>
    have hR : R = 15 := by rw [HE1.out, if_pos (.inl rfl)]
    have hE' : E' = E := by rw [HN.out, hR, if_neg (by decide)]
    subst hR
    subst hE'
    clear HE1 HN
    cases Y with
    | some y =>
      go_wp2_with (first | (at_lookup; refine wpList_lookup_mapV_ok _ rfl _ _ 53 rfl 9 3 lawS Tryd.underlying53 (zeroI _) ba N (Sp.fT E') rfl h2.out.mt _ _ rfl kS.out (some (.int .i64 x)) HA.out ?_) | (at_lookup; refine wpList_lookup_mapV_ok _ rfl _ _ 54 rfl 3 3 lawI Tryd.underlying54 (zeroI _) bo N (Sp.fA E') rfl h2.out.ma _ _ rfl kI.out (some (.int .i64 y)) HB.out ?_))
      go_ret
      exact ⟨A, c, rfl, K1.out, hsame.out _ K1.out h2.out⟩
    | none =>
      go_wp2_with (first | (at_lookup; refine wpList_lookup_mapV_ok _ rfl _ _ 53 rfl 9 3 lawS Tryd.underlying53 (zeroI _) ba N (Sp.fT E') rfl h2.out.mt _ _ rfl kS.out (some (.int .i64 x)) HA.out ?_) | (at_lookup; refine wpList_lookup_mapV_ok _ rfl _ _ 54 rfl 3 3 lawI Tryd.underlying54 (zeroI _) bo N (Sp.fA E') rfl h2.out.ma _ _ rfl kI.out none HB.out ?_))
      go_ret
      exact ⟨A, c, rfl, K1.out, hsame.out _ K1.out h2.out⟩
  | none =>
    cases Y with
    | some y =>
      have hR : R = 15 := by rw [HE1.out, if_pos (.inr rfl)]
      have hE' : E' = E := by rw [HN.out, hR, if_neg (by decide)]
      subst hR
      subst hE'
      clear HE1 HN
      go_wp2_with (first | (at_lookup; refine wpList_lookup_mapV_ok _ rfl _ _ 53 rfl 9 3 lawS Tryd.underlying53 (zeroI _) ba N (Sp.fT E') rfl h2.out.mt _ _ rfl kS.out none HA.out ?_) | (at_lookup; refine wpList_lookup_mapV_ok _ rfl _ _ 54 rfl 3 3 lawI Tryd.underlying54 (zeroI _) bo N (Sp.fA E') rfl h2.out.ma _ _ rfl kI.out (some (.int .i64 y)) HB.out ?_))
      go_ret
      exact ⟨A, c, rfl, K1.out, hsame.out _ K1.out h2.out⟩
    | none =>
      have hlen : decide ((1048576 : Int) ≤ (E.length : Int)) = false := by rw [decide_eq_false_iff_not]; omega
      have hR : R = 0 := by rw [HE1.out, if_neg (by simp), if_neg (by omega)]
      have hE' : E' = E ++ [(t, a)] := by rw [HN.out, hR, if_pos rfl]
      subst hR
      subst hE'
      clear HE1 HN
      obtain ⟨i0, hi, hz0, hz1, hz2⟩ := info_parts infoStr
      obtain ⟨p1, p2⟩ := Sp.fT_put E t a hX
      obtain ⟨q1, q2⟩ := Sp.fA_put E t a hY
      have P1 := Lib.hid (And.intro p1 p2)
      have Q1 := Lib.hid (And.intro q1 q2)
      clear p1 p2 q1 q2 hX hY
      have kL := Lib.hid (fun W => len_any t W (by omega))
      have hrl := Lib.hid (show (Sp.runes t).length ≤ 1000000 by have := runes_le t; omega)
      have hrn := Lib.hid (show Sp.runesN E ≤ 1000000000 by have := Sp.runesN_le E h2.out.sm; have : E.length * 1000000 ≤ 1000 * 1000000 := Nat.mul_le_mul_right _ (by omega); omega)
      have hfin := Lib.hid (Sp.runesN_append E [(t, a)])
      generalize hrlq0 : (Sp.runes t).length = rl at *
      have hrlq := Lib.hid hrlq0
      clear hrlq0
      go_wp2_with (first | (at_lookup; refine wpList_lookup_mapV_ok _ rfl _ _ 53 rfl 9 3 lawS Tryd.underlying53 (zeroI _) ba N (Sp.fT E) rfl h2.out.mt _ _ rfl kS.out none HA.out ?_) | (at_lookup; refine wpList_lookup_mapV_ok _ rfl _ _ 54 rfl 3 3 lawI Tryd.underlying54 (zeroI _) bo N (Sp.fA E) rfl h2.out.ma _ _ rfl kI.out none HB.out ?_) | (at_builtin; refine wpList_append_own_at _ rfl _ _ 36 rfl 0 9 i0 (.string ⟨#[]⟩) 1 16 Tryd.underlying36 hi hz0 hz1 hz2 rfl (by decide) (.slice A E.length c) E.length (E.map fun e => .string e.1) rfl (h2.out.row.alloc _) ⟨w1.heap.size, 0, none⟩ 1 1 [.string t] rfl rfl ?x2 ?x3 ?x4 ?x5 ?x6 ?_))
      case x2 =>
        intro j u hj
        match j, hj with
        | 0, hj => simp at hj; subst hj; simp [Addr.add]
        | (j + 1), hj => simp at hj
      case x3 => intro u hu; simp at hu; subst hu; rfl
      case x4 => unfold maxLen; omega
      case x5 => omega
      case x6 => exact Nat.zero_le _
      intro v' w3 hown' hg3 _ hat3
      obtain ⟨A', c', rfl⟩ := own_sl hown'
      have hob := Lib.hid (fun k hk => h2.out.sr k hk)
      have hne3 : some tb ≠ (Value.slice A E.length c).ownBlock := fun e => (h2.out.sr tb e.symm).2 rfl
      have hbox1 := Lib.hid h2.out.box
      have b2 := Lib.hid (blk_grown (blk_old (o := .cells #[.string t] 9) hbox1.out) hg3 hne3)
      have b3 := Lib.hid (blk_set (i := 0) b2.out (.slice A' (E.length + 1) c'))
      have hta : tb ≠ ba := box_ne_map hbox1.out h2.out.mt
      have hto : tb ≠ bo := box_ne_map hbox1.out h2.out.ma
      have hnea : (Value.slice A E.length c).ownBlock ≠ some ba := row_ne_map h2.out.row h2.out.mt
      have hneo : (Value.slice A E.length c).ownBlock ≠ some bo := row_ne_map h2.out.row h2.out.ma
      have m3 := Lib.hid (mapV_set (a := ⟨tb, 0, none⟩) (mapV_grown (mapV_alloc h2.out.mt (.cells #[.string t] 9)) hg3 hnea) (fun e => hta e.symm) (.slice A' (E.length + 1) c'))
      have o3 := Lib.hid (mapV_set (a := ⟨tb, 0, none⟩) (mapV_grown (mapV_alloc h2.out.ma (.cells #[.string t] 9)) hg3 hneo) (fun e => hto e.symm) (.slice A' (E.length + 1) c'))
      have hkk := Lib.hid (fun k (hk : (Value.slice A' (E.length + 1) c').ownBlock = some k) => hown'.lt k hk)
      have hloc : Hid (∀ k, (Value.slice A' (E.length + 1) c').ownBlock = some k → (S k ∨ w.heap.size ≤ k) ∧ k ≠ tb) := Lib.hid (by
        intro k hk
        rcases hat3 with q | q
        · have := hob.out k (q ▸ hk)
          exact ⟨.inl this.1, this.2⟩
        · have hlt := blk_lt hbox1.out
          rw [hk] at q
          injection q with q
          (try simp at q)
          exact ⟨.inr (by omega), by omega⟩)
      have r3 := Lib.hid ((Keeps.refl (fun i => i = tb) w3).setCell (a := ⟨tb, 0, none⟩) (.inl rfl) (.slice A' (E.length + 1) c') |>.row hown' (fun k hk => fun e => (hloc.out k hk).2 e))
      have K3 := Lib.hid ((((K1.out.alloc (.cells #[.string t] 9)).then (Keeps.of_grown (S := S) hg3 (fun k hk => .inl (hob.out k hk).1)) (fun i hi => .inl hi)).setCell (a := ⟨tb, 0, none⟩) (.inl h2.out.sb) (.slice A' (E.length + 1) c')))
      clear hown' hg3 hat3 hkk c0 f0 c1 f1 c2 f2 c3 f3
      obtain ⟨c0, f0⟩ := blk_cell b2.out 0 (.slice A E.length c) rfl
      obtain ⟨c1, f1⟩ := blk_cell b2.out 1 (.map (some ba)) rfl
      go_wp2_with (at_mapUpdate; refine wpList_mapUpdate_mapV _ rfl _ _ _ 53 rfl 9 3 lawS Tryd.underlying53 ba N (Sp.fT E) (Sp.fT (E ++ [(t, a)])) rfl m3.out ?y1 _ _ _ rfl rfl kS.out P1.out.1 P1.out.2 ?_)
      case y1 => unfold maxLen; omega
      intro w4 m4 hg4
      have b4 := Lib.hid (blk_grown b3.out hg4 (fun e => hta (by injection e)))
      have o4 := Lib.hid (mapV_grown o3.out hg4 (fun e => h2.out.ne (by injection e)))
      have K4 := Lib.hid (K3.out.then (Keeps.of_grown (S := S) hg4 (fun k hk => .inl (by injection hk with hk; subst hk; exact h2.out.sa))) (fun i hi => .inl hi))
      have r4 := Lib.hid ((Keeps.of_grown (S := fun i => i = ba) hg4 (fun k hk => .inl (by injection hk with hk; exact hk.symm))).row r3.out (fun k hk e => row_ne_map r3.out m3.out (e ▸ hk)))
      have m4' := Lib.hid m4
      clear c0 f0 c1 f1 hg4 m4 b2 b3 m3 o3 r3 K3
      obtain ⟨c2, f2⟩ := blk_cell b4.out 2 (.map (some bo)) rfl
      have hsz4 := blk_lt b4.out
      go_wp2_with fail
      go_region_held3 (fun w' => w'.cell? ⟨tb, 2, none⟩ = some (.map (some bo))) (first | assumption | exact c2) (first | (go_at_call 22; refine (kL.out _).mono ?_; rintro e w5 ⟨rfl, hb5⟩; have c5 : w5.cell? ⟨tb, 2, none⟩ = some (.map (some bo)) := cell_below hb5 c2; obtain ⟨w6, hrun, o6, hg6⟩ := mapV_update (t := 54) (mapV_block o4.out (hb5.block _ (mapV_lt o4.out))) lawI Tryd.underlying54 (by unfold maxLen; omega) kI.out Q1.out.1 Q1.out.2; have c6 : w6.cell? ⟨tb, 2, none⟩ = some (.map (some bo)) := hg6.cell c5 (fun e => hto (by injection e)); clear c2 f2))
      have hb5' : Below w4.heap.size w4 w5 := ⟨hb5.os, hb5.tape, hb5.output, hb5.size, hb5.block⟩
      have b6 := Lib.hid (blk_grown (blk_below b4.out hb5') hg6 (fun e => hto (by injection e)))
      have m6 := Lib.hid (mapV_grown (mapV_block m4'.out (hb5.block _ (mapV_lt m4'.out))) hg6 (fun e => h2.out.ne (by injection e with e; exact e.symm)))
      have r6 := Lib.hid ((Keeps.of_grown (S := fun i => i = bo) hg6 (fun k hk => .inl (by injection hk with hk; exact hk.symm))).row (own_below r4.out hb5') (fun k hk e => row_ne_map (own_below r4.out hb5') (mapV_block o4.out (hb5.block _ (mapV_lt o4.out))) (e ▸ hk)))
      have K6 := Lib.hid ((K4.out.then (Keeps.of_below (S := S) hb5') (fun i hi => .inl hi)).then (Keeps.of_grown (S := S) hg6 (fun k hk => .inl (by injection hk with hk; subst hk; exact h2.out.so))) (fun i hi => .inl hi))
      have o6' := Lib.hid o6
      clear b4 m4' r4 K4 hb5 hb5' hg6 o6 c5 c6 o4 hrun
      obtain ⟨c2, f2⟩ := blk_cell b6.out 2 (.map (some bo)) rfl
      obtain ⟨c3, f3⟩ := blk_cell b6.out 3 (.int .i64 (Sp.runesN E : Nat)) rfl
      have hlook := (mapV_look (t := 54) (mapV_drew o6'.out) lawI Tryd.underlying54 (zeroI _) kI.out).2
      rw [Q1.out.1] at hlook
      have hwr : IntKind.i64.wrap ((Sp.runesN E : Int) + (rl : Int)) = (Sp.runesN E : Int) + (rl : Int) := IntWalk.i64_in _ (by have := hrl.out; have := hrn.out; omega)
      simp only [Option.getD_some] at hlook
      have hsz6 := blk_lt b6.out
      go_wp2_with fail
      go_still_tail 13, (by kernel_rfl)
      go_wp2_with fail
      go_ret
      refine ⟨A', c', rfl, ?_, ?_⟩
      · first | exact (K6.out.setCell (.inl h2.out.sb) _).drew | exact K6.out.drew.setCell (.inl h2.out.sb) _
      · refine tab_entered h1.out ht ?_ ?_ ?_ ?_ hloc.out ?_
        · rw [hrlq.out]
          have := blk_set (i := 3) b6.out (.int .i64 ((Sp.runesN E : Int) + (rl : Int)))
          exact blk_drew (by simpa using this)
        · exact (Keeps.refl (fun i => i = tb) w6).setCell (a := ⟨tb, 3, none⟩) (.inl rfl) _ |>.row r6.out (fun k hk e => (hloc.out k hk).2 e)
        · exact mapV_set (a := ⟨tb, 3, none⟩) m6.out (fun e => hta e.symm) _
        · exact mapV_set (a := ⟨tb, 3, none⟩) o6'.out (fun e => hto e.symm) _
        · first | exact (K6.out.setCell (a := ⟨tb, 3, none⟩) (.inl h2.out.sb) _).drew.size | exact (K6.out.drew.setCell (a := ⟨tb, 3, none⟩) (.inl h2.out.sb) _).size
end Go.Proofs.YtokkpdjbgaicmaaDoor
