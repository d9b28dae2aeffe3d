/-
  Texts of the proof, joined: each says at its head what it proves.
-/
import Derived.Test.YtfjplmbknegidaaGreatDoorJk30
import Derived.Test.YtfjplmbknegidaaGreatDoorJl1
section
/-
  Walk of HierOrders. (Printed by gen_orders.py.)
-/
set_option linter.unusedVariables false
set_option linter.unusedSimpArgs false
namespace Go.Proofs.YtfjplmbknegidaaGreatDoor
open Go.RowKit Go.Lib Go.Maps

set_option maxHeartbeats 16000000 in
set_option maxRecDepth 100000 in
theorem hierOrders_any (rA : Option Addr) (rc : Nat) (raws : List Sp.RwP) (lA : Option Addr) (lc : Nat) (l : List Int) (w : World) (hr : RdL Sp.rwC w rA raws) (hi : ∀ r ∈ raws, RwIn w r) (hl : RdN .i64 w lA l) (hl2 : ∀ x ∈ l, In64 x) (hT : Tabs w) :
    Calls Tryz.prog 4 #[.slice rA raws.length rc, .slice lA l.length lc] w fun e w' => e = .returned (.bool true) ∧ Below w.heap.size w w' := by
  have HT := Lib.hid hT
  have HR := Lib.hid hr
  have HI := Lib.hid hi
  have HL := Lib.hid hl
  have HL2 := Lib.hid hl2
  have ksh := Lib.hid (shown6_any w hT)
  clear hT hr hi hl hl2
  go_enter Tryz.func4, Tryz.ntmps4
  go_wp2_with fail
  refine ksh.out.mono ?_
  rintro e w1 ⟨rfl, b1⟩
  have kfi := Lib.hid (files6_any rA rc raws w1 (rdL_below HR.out b1) (fun r hr => (HI.out r hr).below b1))
  clear ksh
  go_wp2_with fail
  refine kfi.out.mono ?_
  rintro e w2 ⟨fA, fc, fs, rfl, ⟨hf1, hf2, hf3⟩, b2⟩
  have g2 : Grow w w2 := Grow.trans _ _ _ b1 b2
  have knw := Lib.hid (hNewM_any w2 fA fc fs (own_rdL Sp.flE_len (by decide) hf2).2.1 hf3 (HT.out.below g2))
  rw [hf1] at knw
  clear kfi hf1 hf2 hf3 b1 b2 HI HR
  go_wp2_with fail
  refine knw.out.mono ?_
  rintro e w3 ⟨b3, hP⟩
  have g3 : Grow w w3 := Grow.trans _ _ _ g2 b3
  clear knw b3 g2
  rcases hP with ⟨h1, rfl⟩ | ⟨tb, L, h1, rfl, hK⟩
  · have hne := Sp.open_none h1
    clear h1
    generalize (Sp.openS Sp.builtC (Sp.rcF (Sp.filesF (raws.map (·.1))) 0)).2.1 = er at *
    generalize (Sp.openS Sp.builtC (Sp.rcF (Sp.filesF (raws.map (·.1))) 0)).2.2 = ei at *
    have hb : (er != 0) = true := by simp [hne]
    clear hne
    go_wp2
    go_ret
    exact ⟨rfl, g3⟩
  · obtain ⟨hTb, hNm, _, _⟩ := Sp.made_tb Sp.built_tb Sp.built_nm h1
    clear h1
    have hsz := fun c hc => (hK.txt c hc).1
    have P1 := Lib.hid (fun (a : Sp.Ty) (h : Sp.rightS a = true) => (Sp.sub_refl (L := L) a).trans (Sp.known_right h))
    have P2 := Lib.hid (fun (a b : Sp.Ty) (h : (Sp.lubS L a b).2 = true) => Sp.lub_above hTb hNm h)
    have P3 := Lib.hid (fun (a b : Sp.Ty) => Sp.lub_comm hTb hNm b a)
    have P4 := Lib.hid (fun (a b c : Sp.Ty) (h1 : (Sp.lubS L a b).2 = true) (h2 : (Sp.lubS L b c).2 = true) => Sp.lub_assoc hTb hNm h1 h2)
    have P5 := Lib.hid (fun (a b c : Sp.Ty) (h1 : Sp.subS L a b = true) (h2 : Sp.subS L b c = true) => Sp.sub_trans hTb h1 h2)
    have P6 := Lib.hid (fun (an bn cn : ByteArray) => Sp.ord_least (an := an) (bn := bn) (cn := cn) hTb hNm)
    have P7 := Lib.hid (fun (a b : Sp.Ty) => Sp.lub_size hTb hNm hsz a b)
    have kty := Lib.hid (types6_any lA lc l w3 (rdN_below HL.out g3) HL2.out)
    clear hTb hNm hsz HL HL2
    go_wp2_with fail
    refine kty.out.mono ?_
    rintro e w4 ⟨tA, tc, rfl, hT4, b4⟩
    have hTR := Lib.hid (own_rdL Sp.tyL_len (by decide) hT4).2.1
    have hTall := Lib.hid (Sp.types_all (l := l))
    have hTl : (Sp.typesS l).length ≤ 12 := by unfold Sp.typesS; rw [List.length_map, List.length_take]; omega
    have HK := Lib.hid (hK.later b4)
    have G4 : Grow w w4 := Grow.trans _ _ _ g3 b4
    clear kty hT4 b4 g3 hK HT
    generalize Sp.typesS l = T at *
    go_upto_region 9 with fail
    have ga0 := Lib.hid (Grow.refl w4)
    go_loopw [10, 11, 12, 13, 14, 15, 16, 17, 18, 19, 20, 21, 22, 23, 24, 25, 26, 27, 28, 29] (fun vi _ _ _ _ _ _ _ _ _ _ _ _ _ _ _ _ _ _ _ wr => ∃ j : Nat, vi = .int .i64 j ∧ j ≤ T.length ∧ Hid (Grow w4 wr)) (fun vi _ _ _ _ _ _ _ _ _ _ _ _ _ _ _ _ _ _ _ _ => T.length - (RowKit.intOf vi).toNat)
    case atStart => exact ⟨0, by go_num, Nat.zero_le _, ga0⟩
    case round => as_aux_lemma =>
      clear ga0
      obtain ⟨i, rfl, hi, ga⟩ := hrel
      by_cases hlti : i < T.length
      · skip
        have hzi : (i : Int) < (T.length : Int) := by omega
        obtain ⟨tbi, toi, rfl, HRG⟩ := hTR.out.2 (by omega)
        have HRG := Lib.hid HRG
        have hgwi : Grow w4 wr := ga.out
        have e0 : wr.cell? ⟨tbi, toi + i * 2, none⟩ = some (.int .i64 T[i].1) := by
          have := rdL_get 2 Sp.tyL_len HRG.out hlti 0 (by decide) (v := .int .i64 T[i].1) rfl
          exact cell_below hgwi this
        have e1 : wr.cell? ⟨tbi, toi + i * 2 + 1, none⟩ = some (.string T[i].2) := cell_below hgwi (rdL_get 2 Sp.tyL_len HRG.out hlti 1 (by decide) (v := .string T[i].2) rfl)
        have hini := Lib.hid (hTall.out _ (List.getElem_mem hlti))
        generalize T[i] = a at *
        obtain ⟨ad, an⟩ := a
        simp only at e0 e1

        go_upto_region 12 with fail
        have ha := blk_new wr (.cells #[.int .i64 ad, .string an] 25)
        have qa : Grow w4 (wr.alloc (.cells #[.int .i64 ad, .string an] 25)) := Grow.trans _ _ _ hgwi ((Below.refl _ _).alloc (Nat.le_refl _) _)
        have ra := Lib.hid (Grow.trans _ _ _ ga.out ((Below.refl wr.heap.size wr).alloc (Nat.le_refl _) (.cells #[.int .i64 ad, .string an] 25)))
        clear e0 e1 hgwi
        generalize wr.alloc (.cells #[.int .i64 ad, .string an] 25) = Wa at *
        generalize wr.heap.size = pa at *
        have ha := Lib.hid (show ∀ V, Grow Wa V → V.cell? ⟨pa, 0, none⟩ = some (.int .i64 ad) ∧ V.cell? ⟨pa, 1, none⟩ = some (.string an) ∧ pa < V.heap.size from fun V hV => ⟨cell_below hV (blk_cell ha 0 _ rfl).1, cell_below hV (blk_cell ha 1 _ rfl).1, blk_lt (blk_below ha hV)⟩)
        have hSa : an.size ≤ 1099511627776 := by have := hini.out.2.1; simp only at this; omega
        have kfd := Lib.hid (HK.out.find Wa an qa hSa)
        have hP1 := P1.out (ad, an) hini.out.1
        simp only at hP1
        obtain ⟨s0, s1, sl⟩ := ha.out Wa (Grow.refl _)
        generalize Sp.getC L an = cl at *
        obtain ⟨n1, u1, i1, x1, y1, z1, t1⟩ := cl
        simp only at kfd
        generalize hkn : (Sp.findC L an).isSome = kn at *
        clear hkn
        go_wp2_with fail
        refine kfd.out.mono ?_
        rintro e w5 ⟨A5, c5, rfl, _, b5⟩
        clear kfd s0 s1 sl
        go_upto_region 13 with fail
        have b6 := Grow.trans _ _ _ b5 ((Below.refl w5.heap.size w5).alloc (Nat.le_refl _) (.cells #[.string n1, .string u1, .slice A5 i1.length c5, .bool x1, .bool y1, .bool z1, .int .i64 t1] 44))
        clear b5
        generalize w5.alloc (.cells #[.string n1, .string u1, .slice A5 i1.length c5, .bool x1, .bool y1, .bool z1, .int .i64 t1] 44) = W6 at *
        go_cut [76] (fun v wx => v = .bool false ∧ Hid (Grow W6 wx))
        case first => as_aux_lemma =>
          have gD : Grow W6 W6.drew := (Below.refl _ _).drew
          have hS := Lib.hid (fun V (hV : Grow W6.drew V) => ha.out V (Grow.trans _ _ _ b6 (Grow.trans _ _ _ gD hV)))
          have ks := Lib.hid (fun V (hV : Grow W6.drew V) => HK.out.sub V (ad, an) (ad, an) (Grow.trans _ _ _ qa (Grow.trans _ _ _ b6 (Grow.trans _ _ _ gD hV))) hSa hSa)
          rw [hP1] at ks
          clear hP1
          by_cases hn : an = Sp.nilB
          · have h0 : (an.toList == []) = true := by rw [hn]; decide +kernel
            have ks : Hid (∀ V, Grow W6.drew V → Calls Tryz.prog 16 #[.pointer (some ⟨tb, 0, none⟩), .agg #[.int .i64 ad, .string an], .agg #[.int .i64 ad, .string an]] V fun e w3 => e = .returned (.bool true) ∧ Grow V w3) := Lib.hid (fun V hV => by have := ks.out V hV; rw [decide_eq_true hn, Bool.true_or] at this; exact this)
            clear hn
            refine wp_region_calm Grow [0, 1, 2, 3, 4, 5, 6, 7, 8, 9, 10] [] [] [] (by kernel_rfl) (by kernel_rfl) Grow.refl Grow.trans (fun c a d v w h => by cases d <;> exact h) ?_
            change Line _ _ _ W6.drew _ _ _
            ((simp only [pickOps, List.filterMap_cons, List.filterMap_nil, List.getElem?_cons_succ, List.getElem?_cons_zero]); (repeat (first | (refine line_not (by rfl) ?_; (try simp only [Act.put, List.setIfInBounds_toArray, List.set_cons_zero, List.set_cons_succ])) | (refine line_val (v := ?_) Grow.refl (by rfl) (fun v9 h9 => ?_) ?_; rotate_left; (focus (obtain ⟨s1, s2, s3⟩ := hS.out v9 h9; go_simp; (first | done | with_reducible rfl))); (try simp only [Act.put, List.setIfInBounds_toArray, List.set_cons_zero, List.set_cons_succ])) | (refine line_call (by rfl) (fun v9 h9 => ?_) (fun v9 h9 => ks.out v9 h9) ?_; (focus (obtain ⟨s1, s2, s3⟩ := hS.out v9 h9; go_simp; done)); (try simp only [Act.put, List.setIfInBounds_toArray, List.set_cons_zero, List.set_cons_succ])))))
            refine line_done (soon_nil (fun z gz => ?_))
            go_wp2
            go_meet
            exact ⟨rfl, Lib.hid (Grow.trans _ _ _ gD gz)⟩
          · have h0 : (an.toList == []) = false := by rw [show ([] : List UInt8) = (⟨#[]⟩ : ByteArray).toList by decide +kernel, bytes_eqb]; exact decide_eq_false hn
            have ks : Hid (∀ V, Grow W6.drew V → Calls Tryz.prog 16 #[.pointer (some ⟨tb, 0, none⟩), .agg #[.int .i64 ad, .string an], .agg #[.int .i64 ad, .string an]] V fun e w3 => e = .returned (.bool kn) ∧ Grow V w3) := Lib.hid (fun V hV => by have := ks.out V hV; rw [decide_eq_false hn, Bool.false_or] at this; exact this)
            clear hn
            cases kn
            all_goals
              refine wp_region_calm Grow [0, 1, 2, 3, 4, 5, 6, 7, 8, 9, 10] [] [] [] (by kernel_rfl) (by kernel_rfl) Grow.refl Grow.trans (fun c a d v w h => by cases d <;> exact h) ?_
              change Line _ _ _ W6.drew _ _ _
              ((simp only [pickOps, List.filterMap_cons, List.filterMap_nil, List.getElem?_cons_succ, List.getElem?_cons_zero]); (repeat (first | (refine line_not (by rfl) ?_; (try simp only [Act.put, List.setIfInBounds_toArray, List.set_cons_zero, List.set_cons_succ])) | (refine line_val (v := ?_) Grow.refl (by rfl) (fun v9 h9 => ?_) ?_; rotate_left; (focus (obtain ⟨s1, s2, s3⟩ := hS.out v9 h9; go_simp; (first | done | with_reducible rfl))); (try simp only [Act.put, List.setIfInBounds_toArray, List.set_cons_zero, List.set_cons_succ])) | (refine line_call (by rfl) (fun v9 h9 => ?_) (fun v9 h9 => ks.out v9 h9) ?_; (focus (obtain ⟨s1, s2, s3⟩ := hS.out v9 h9; go_simp; done)); (try simp only [Act.put, List.setIfInBounds_toArray, List.set_cons_zero, List.set_cons_succ])))))
              refine line_done (soon_nil (fun z gz => ?_))
              go_wp2
              go_meet
              exact ⟨rfl, Lib.hid (Grow.trans _ _ _ gD gz)⟩
        case rest => as_aux_lemma =>
          obtain ⟨rfl, b7⟩ := hcut
          have gV0 := Grow.trans _ _ _ qa (Grow.trans _ _ _ b6 b7.out)
          have hA1 := Lib.hid (fun V (hV : Grow wc V) => ha.out V (Grow.trans _ _ _ b6 (Grow.trans _ _ _ b7.out hV)))
          have gV1 := Lib.hid gV0
          clear gV0 b6 b7 qa ha hP1 ra ga
          go_upto_region 16 with fail
          generalize wc = V1 at *
          have gb0 := Lib.hid (Grow.refl V1)
          go_loopw [14, 15, 16, 17, 18, 19, 20, 21, 22, 23, 24, 25, 26, 27, 28, 29] (fun vi _ _ _ _ _ _ _ _ _ _ _ _ _ _ _ wr => ∃ j : Nat, vi = .int .i64 j ∧ j ≤ T.length ∧ Hid (Grow V1 wr)) (fun vi _ _ _ _ _ _ _ _ _ _ _ _ _ _ _ _ => T.length - (RowKit.intOf vi).toNat)
          case atStart => exact ⟨0, by go_num, Nat.zero_le _, gb0⟩
          case round => as_aux_lemma =>
            clear gb0
            obtain ⟨k, rfl, hk, gb⟩ := hrel
            by_cases hltk : k < T.length
            · skip
              have hzk : (k : Int) < (T.length : Int) := by omega
              have hgwk : Grow w4 wr := Grow.trans _ _ _ gV1.out gb.out
              have e0 : wr.cell? ⟨tbi, toi + k * 2, none⟩ = some (.int .i64 T[k].1) := by
                have := rdL_get 2 Sp.tyL_len HRG.out hltk 0 (by decide) (v := .int .i64 T[k].1) rfl
                exact cell_below hgwk this
              have e1 : wr.cell? ⟨tbi, toi + k * 2 + 1, none⟩ = some (.string T[k].2) := cell_below hgwk (rdL_get 2 Sp.tyL_len HRG.out hltk 1 (by decide) (v := .string T[k].2) rfl)
              have hink := Lib.hid (hTall.out _ (List.getElem_mem hltk))
              generalize T[k] = b at *
              obtain ⟨bd, bn⟩ := b
              simp only at e0 e1

              go_upto_region 19 with fail
              have hb := blk_new wr (.cells #[.int .i64 bd, .string bn] 25)
              have qb : Grow w4 (wr.alloc (.cells #[.int .i64 bd, .string bn] 25)) := Grow.trans _ _ _ hgwk ((Below.refl _ _).alloc (Nat.le_refl _) _)
              have rb := Lib.hid (Grow.trans _ _ _ gb.out ((Below.refl wr.heap.size wr).alloc (Nat.le_refl _) (.cells #[.int .i64 bd, .string bn] 25)))
              clear e0 e1 hgwk
              generalize wr.alloc (.cells #[.int .i64 bd, .string bn] 25) = Wb at *
              generalize wr.heap.size = pb at *
              have hb := Lib.hid (show ∀ V, Grow Wb V → V.cell? ⟨pb, 0, none⟩ = some (.int .i64 bd) ∧ V.cell? ⟨pb, 1, none⟩ = some (.string bn) ∧ pb < V.heap.size from fun V hV => ⟨cell_below hV (blk_cell hb 0 _ rfl).1, cell_below hV (blk_cell hb 1 _ rfl).1, blk_lt (blk_below hb hV)⟩)
              have hSb : bn.size ≤ 1099511627776 := by have := hink.out.2.1; simp only at this; omega
              obtain ⟨s0, s1, sl⟩ := hA1.out Wb rb.out
              obtain ⟨s2, s3, sl3⟩ := hb.out Wb (Grow.refl _)
              have kl := Lib.hid (HK.out.lub Wb (ad, an) (bd, bn) qb hSa hSb)
              have kl2 := Lib.hid (fun V (hV : Grow w4 V) => HK.out.lub V (bd, bn) (ad, an) hV hSb hSa)
              rw [P3.out (ad, an) (bd, bn)] at kl2
              have F2 := Lib.hid (P2.out (ad, an) (bd, bn))
              have F7 := P7.out (ad, an) (bd, bn)
              have F4 := Lib.hid (fun c => P4.out (ad, an) (bd, bn) c)
              obtain ⟨X, hX⟩ : ∃ X, Sp.lubS L (ad, an) (bd, bn) = X := ⟨_, rfl⟩
              rw [hX] at kl kl2 F2 F7 F4
              have hX := Lib.hid hX
              obtain ⟨⟨xd, xn⟩, xo⟩ := X
              simp only at kl kl2 F2 F7 F4
              go_wp2_with fail
              refine kl.out.mono ?_
              rintro e v1 ⟨rfl, c1⟩
              clear kl s0 s1 sl s2 s3 sl3
              go_upto_region 20 with fail
              have z9 : Grow v1 (v1.alloc (.cells #[.int .i64 xd, .string xn] 25)) := (Below.refl _ _).alloc (Nat.le_refl _) _
              have hx := blk_new v1 (.cells #[.int .i64 xd, .string xn] 25)
              have qx := Grow.trans _ _ _ qb (Grow.trans _ _ _ c1 z9)
              have rx := Lib.hid (Grow.trans _ _ _ rb.out (Grow.trans _ _ _ c1 z9))
              have mx := Lib.hid (Grow.trans _ _ _ c1 z9)
              clear z9 c1
              generalize v1.alloc (.cells #[.int .i64 xd, .string xn] 25) = Wx at *
              generalize v1.heap.size = px at *
              have hx := Lib.hid (show ∀ V, Grow Wx V → V.cell? ⟨px, 0, none⟩ = some (.int .i64 xd) ∧ V.cell? ⟨px, 1, none⟩ = some (.string xn) ∧ px < V.heap.size from fun V hV => ⟨cell_below hV (blk_cell hx 0 _ rfl).1, cell_below hV (blk_cell hx 1 _ rfl).1, blk_lt (blk_below hx hV)⟩)
              go_cut [108] (fun v wx => v = .bool false ∧ Hid (Grow Wx wx))
              case first => as_aux_lemma =>
                cases xo with
                | false =>
                  clear F2 kl2 F4
                  go_wp2
                  go_meet
                  exact ⟨rfl, Lib.hid (Grow.refl _)⟩
                | true =>
                  obtain ⟨f1, f2⟩ := F2.out rfl
                  have ks1 := Lib.hid (HK.out.sub Wx (ad, an) (xd, xn) qx hSa F7)
                  have ks2 := Lib.hid (fun V (hV : Grow Wx V) => HK.out.sub V (bd, bn) (xd, xn) (Grow.trans _ _ _ qx hV) hSb F7)
                  rw [f1] at ks1
                  rw [f2] at ks2
                  clear f1 f2 F2 kl2 F4
                  obtain ⟨s0, s1, sl⟩ := hA1.out Wx rx.out
                  obtain ⟨s4, s5, sl5⟩ := hx.out Wx (Grow.refl _)
                  go_wp2_with fail
                  refine ks1.out.mono ?_
                  rintro e y1 ⟨rfl, d1⟩
                  clear ks1 s0 s1 sl s4 s5 sl5
                  obtain ⟨s2, s3, sl3⟩ := hb.out y1 (Grow.trans _ _ _ mx.out d1)
                  obtain ⟨s4, s5, sl5⟩ := hx.out y1 d1
                  go_wp2_with fail
                  refine (ks2.out y1 d1).mono ?_
                  rintro e y2 ⟨rfl, d2⟩
                  clear ks2 s2 s3 sl3 s4 s5 sl5
                  go_wp2
                  go_meet
                  exact ⟨rfl, Lib.hid (Grow.trans _ _ _ d1 d2)⟩
              case rest => as_aux_lemma =>
                obtain ⟨rfl, d3⟩ := hcut
                have qc := Grow.trans _ _ _ qx d3.out
                have rc9 := Lib.hid (Grow.trans _ _ _ rx.out d3.out)
                have mc := Lib.hid (Grow.trans _ _ _ mx.out d3.out)
                obtain ⟨s0, s1, sl⟩ := hA1.out wc rc9.out
                obtain ⟨s2, s3, sl3⟩ := hb.out wc mc.out
                have kl := Lib.hid (kl2.out wc qc)
                clear kl2 F2
                go_wp2_with fail
                refine kl.out.mono ?_
                rintro e v2 ⟨rfl, c1⟩
                clear kl s0 s1 sl s2 s3 sl3
                go_upto_region 23 with fail
                generalize wc = Z1 at *
                have z9 : Grow v2 (v2.alloc (.cells #[.int .i64 xd, .string xn] 25)) := (Below.refl _ _).alloc (Nat.le_refl _) _
                have hy := blk_new v2 (.cells #[.int .i64 xd, .string xn] 25)
                have qy := Grow.trans _ _ _ qc (Grow.trans _ _ _ c1 z9)
                have ry := Lib.hid (Grow.trans _ _ _ rc9.out (Grow.trans _ _ _ c1 z9))
                have my := Lib.hid (Grow.trans _ _ _ c1 z9)
                clear z9 c1
                generalize v2.alloc (.cells #[.int .i64 xd, .string xn] 25) = Wy at *
                generalize v2.heap.size = py at *
                have hy := Lib.hid (show ∀ V, Grow Wy V → V.cell? ⟨py, 0, none⟩ = some (.int .i64 xd) ∧ V.cell? ⟨py, 1, none⟩ = some (.string xn) ∧ py < V.heap.size from fun V hV => ⟨cell_below hV (blk_cell hy 0 _ rfl).1, cell_below hV (blk_cell hy 1 _ rfl).1, blk_lt (blk_below hy hV)⟩)
                obtain ⟨s4, s5, sl5⟩ := hx.out Wy (Grow.trans _ _ _ d3.out my.out)
                obtain ⟨s6, s7, sl7⟩ := hy.out Wy (Grow.refl _)
                have x1 : (xn.toList == xn.toList) = true := by simp
                go_upto_region 26 with fail
                clear s4 s5 sl5 s6 s7 sl7 x1 hy
                have hA2 := Lib.hid (fun V (hV : Grow Wy V) => hA1.out V (Grow.trans _ _ _ ry.out hV))
                have hB2 := Lib.hid (fun V (hV : Grow Wy V) => hb.out V (Grow.trans _ _ _ mc.out (Grow.trans _ _ _ my.out hV)))
                have hX2 := Lib.hid (fun V (hV : Grow Wy V) => hx.out V (Grow.trans _ _ _ d3.out (Grow.trans _ _ _ my.out hV)))
                have gV2 := Lib.hid qy
                have gV12 := Lib.hid ry.out
                clear qy ry my qc rc9 mc d3 qx rx mx qb rb hb hx gb
                have gc0 := Lib.hid (Grow.refl Wy)
                go_loopw [20, 21, 22, 23, 24, 25, 26, 27, 28, 29] (fun vi _ _ _ _ _ _ _ _ _ wr => ∃ j : Nat, vi = .int .i64 j ∧ j ≤ T.length ∧ Hid (Grow Wy wr)) (fun vi _ _ _ _ _ _ _ _ _ _ => T.length - (RowKit.intOf vi).toNat)
                case atStart => exact ⟨0, by go_num, Nat.zero_le _, gc0⟩
                case round => as_aux_lemma =>
                  clear gc0
                  obtain ⟨j, rfl, hj, gc⟩ := hrel
                  by_cases hltj : j < T.length
                  · skip
                    have hzj : (j : Int) < (T.length : Int) := by omega
                    have hgwj : Grow w4 wr := Grow.trans _ _ _ gV2.out gc.out
                    have e0 : wr.cell? ⟨tbi, toi + j * 2, none⟩ = some (.int .i64 T[j].1) := by
                      have := rdL_get 2 Sp.tyL_len HRG.out hltj 0 (by decide) (v := .int .i64 T[j].1) rfl
                      exact cell_below hgwj this
                    have e1 : wr.cell? ⟨tbi, toi + j * 2 + 1, none⟩ = some (.string T[j].2) := cell_below hgwj (rdL_get 2 Sp.tyL_len HRG.out hltj 1 (by decide) (v := .string T[j].2) rfl)
                    have hinj := Lib.hid (hTall.out _ (List.getElem_mem hltj))
                    generalize T[j] = c at *
                    obtain ⟨cd, cn⟩ := c
                    simp only at e0 e1

                    go_upto_region 29 with fail
                    have hc := blk_new wr (.cells #[.int .i64 cd, .string cn] 25)
                    have qc : Grow w4 (wr.alloc (.cells #[.int .i64 cd, .string cn] 25)) := Grow.trans _ _ _ hgwj ((Below.refl _ _).alloc (Nat.le_refl _) _)
                    have rc := Lib.hid (Grow.trans _ _ _ gc.out ((Below.refl wr.heap.size wr).alloc (Nat.le_refl _) (.cells #[.int .i64 cd, .string cn] 25)))
                    clear e0 e1 hgwj
                    generalize wr.alloc (.cells #[.int .i64 cd, .string cn] 25) = Wc at *
                    generalize wr.heap.size = pc at *
                    have hc := Lib.hid (show ∀ V, Grow Wc V → V.cell? ⟨pc, 0, none⟩ = some (.int .i64 cd) ∧ V.cell? ⟨pc, 1, none⟩ = some (.string cn) ∧ pc < V.heap.size from fun V hV => ⟨cell_below hV (blk_cell hc 0 _ rfl).1, cell_below hV (blk_cell hc 1 _ rfl).1, blk_lt (blk_below hc hV)⟩)
                    have hSc : cn.size ≤ 1099511627776 := by have := hinj.out.2.1; simp only at this; omega
                    obtain ⟨s0, s1, sl⟩ := hX2.out Wc rc.out
                    obtain ⟨s2, s3, sl3⟩ := hc.out Wc (Grow.refl _)
                    have kl := Lib.hid (HK.out.lub Wc (xd, xn) (cd, cn) qc F7 hSc)
                    have G7 := P7.out (bd, bn) (cd, cn)
                    have kl2 := Lib.hid (fun V (hV : Grow w4 V) => HK.out.lub V (bd, bn) (cd, cn) hV hSb hSc)
                    have kl3 := Lib.hid (fun V (hV : Grow w4 V) => HK.out.lub V (ad, an) (Sp.lubS L (bd, bn) (cd, cn)).1 hV hSa G7)
                    have F8 := Lib.hid (F4.out (cd, cn))
                    generalize Sp.lubS L (xd, xn) (cd, cn) = VV at *
                    generalize Sp.lubS L (bd, bn) (cd, cn) = WW at *
                    generalize Sp.lubS L (ad, an) WW.1 = UU at *
                    obtain ⟨⟨vd, vn⟩, vo⟩ := VV
                    obtain ⟨⟨wd, wn⟩, wo⟩ := WW
                    obtain ⟨⟨ud, un⟩, uo⟩ := UU
                    simp only at kl kl2 kl3 F8
                    go_wp2_with fail
                    refine kl.out.mono ?_
                    rintro e v3 ⟨rfl, c1⟩
                    clear kl s0 s1 sl s2 s3 sl3
                    go_upto_region 30 with fail
                    have z9 : Grow v3 (v3.alloc (.cells #[.int .i64 vd, .string vn] 25)) := (Below.refl _ _).alloc (Nat.le_refl _) _
                    have hv := blk_new v3 (.cells #[.int .i64 vd, .string vn] 25)
                    have qv := Grow.trans _ _ _ qc (Grow.trans _ _ _ c1 z9)
                    have rv := Lib.hid (Grow.trans _ _ _ rc.out (Grow.trans _ _ _ c1 z9))
                    have mv := Lib.hid (Grow.trans _ _ _ c1 z9)
                    clear z9 c1
                    generalize v3.alloc (.cells #[.int .i64 vd, .string vn] 25) = Wv at *
                    generalize v3.heap.size = pv at *
                    have hv := Lib.hid (show ∀ V, Grow Wv V → V.cell? ⟨pv, 0, none⟩ = some (.int .i64 vd) ∧ V.cell? ⟨pv, 1, none⟩ = some (.string vn) ∧ pv < V.heap.size from fun V hV => ⟨cell_below hV (blk_cell hv 0 _ rfl).1, cell_below hV (blk_cell hv 1 _ rfl).1, blk_lt (blk_below hv hV)⟩)
                    obtain ⟨s0, s1, sl⟩ := hB2.out Wv rv.out
                    obtain ⟨s2, s3, sl3⟩ := hc.out Wv mv.out
                    go_wp2_with fail
                    refine (kl2.out Wv qv).mono ?_
                    rintro e v4 ⟨rfl, c1⟩
                    clear kl2 s0 s1 sl s2 s3 sl3
                    go_upto_region 31 with fail
                    have z9 : Grow v4 (v4.alloc (.cells #[.int .i64 wd, .string wn] 25)) := (Below.refl _ _).alloc (Nat.le_refl _) _
                    have ho := blk_new v4 (.cells #[.int .i64 wd, .string wn] 25)
                    have qo := Grow.trans _ _ _ qv (Grow.trans _ _ _ c1 z9)
                    have ro := Lib.hid (Grow.trans _ _ _ rv.out (Grow.trans _ _ _ c1 z9))
                    have mo := Lib.hid (Grow.trans _ _ _ c1 z9)
                    clear z9 c1
                    generalize v4.alloc (.cells #[.int .i64 wd, .string wn] 25) = Wo at *
                    generalize v4.heap.size = po at *
                    have ho := Lib.hid (show ∀ V, Grow Wo V → V.cell? ⟨po, 0, none⟩ = some (.int .i64 wd) ∧ V.cell? ⟨po, 1, none⟩ = some (.string wn) ∧ po < V.heap.size from fun V hV => ⟨cell_below hV (blk_cell ho 0 _ rfl).1, cell_below hV (blk_cell ho 1 _ rfl).1, blk_lt (blk_below ho hV)⟩)
                    obtain ⟨s0, s1, sl⟩ := hA2.out Wo ro.out
                    obtain ⟨s2, s3, sl3⟩ := ho.out Wo (Grow.refl _)
                    go_wp2_with fail
                    refine (kl3.out Wo qo).mono ?_
                    rintro e v5 ⟨rfl, c1⟩
                    clear kl3 s0 s1 sl s2 s3 sl3
                    go_upto_region 32 with fail
                    have z9 : Grow v5 (v5.alloc (.cells #[.int .i64 ud, .string un] 25)) := (Below.refl _ _).alloc (Nat.le_refl _) _
                    have hu := blk_new v5 (.cells #[.int .i64 ud, .string un] 25)
                    have qu := Grow.trans _ _ _ qo (Grow.trans _ _ _ c1 z9)
                    have ru := Lib.hid (Grow.trans _ _ _ ro.out (Grow.trans _ _ _ c1 z9))
                    have mu := Lib.hid (Grow.trans _ _ _ c1 z9)
                    clear z9 c1
                    generalize v5.alloc (.cells #[.int .i64 ud, .string un] 25) = Wu at *
                    generalize v5.heap.size = pu at *
                    have hu := Lib.hid (show ∀ V, Grow Wu V → V.cell? ⟨pu, 0, none⟩ = some (.int .i64 ud) ∧ V.cell? ⟨pu, 1, none⟩ = some (.string un) ∧ pu < V.heap.size from fun V hV => ⟨cell_below hV (blk_cell hu 0 _ rfl).1, cell_below hV (blk_cell hu 1 _ rfl).1, blk_lt (blk_below hu hV)⟩)
                    have hA3 := Lib.hid (fun V (hV : Grow Wu V) => hA2.out V (Grow.trans _ _ _ ru.out hV))
                    have hB3 := Lib.hid (fun V (hV : Grow Wu V) => hB2.out V (Grow.trans _ _ _ ru.out hV))
                    have hX3 := Lib.hid (fun V (hV : Grow Wu V) => hX2.out V (Grow.trans _ _ _ ru.out hV))
                    have hC3 := Lib.hid (fun V (hV : Grow Wu V) => hc.out V (Grow.trans _ _ _ mv.out (Grow.trans _ _ _ mo.out (Grow.trans _ _ _ mu.out hV))))
                    have hV3 := Lib.hid (fun V (hV : Grow Wu V) => hv.out V (Grow.trans _ _ _ mo.out (Grow.trans _ _ _ mu.out hV)))
                    clear hc hv ho mv mo mu qc qv qo rc rv ro G7 gc
                    go_cut [170] (fun v wx => v = .bool false ∧ wx = Wu)
                    case first => as_aux_lemma =>
                      cases xo with
                      | false => go_wp2; go_meet; exact ⟨rfl, rfl⟩
                      | true =>
                        cases vo with
                        | false => go_wp2; go_meet; exact ⟨rfl, rfl⟩
                        | true =>
                          cases wo with
                          | false => go_wp2; go_meet; exact ⟨rfl, rfl⟩
                          | true =>
                            obtain ⟨_, hu1, he⟩ := F8.out rfl rfl
                            subst hu1
                            injection he with he1 he2
                            subst he1
                            subst he2
                            obtain ⟨s0, s1, sl⟩ := hV3.out Wu (Grow.refl _)
                            obtain ⟨s2, s3, sl3⟩ := hu.out Wu (Grow.refl _)
                            have x1 : (vn.toList == vn.toList) = true := by simp
                            go_wp2
                            go_meet
                            exact ⟨rfl, rfl⟩
                    case rest => as_aux_lemma =>
                      obtain ⟨rfl, rfl⟩ := hcut
                      clear F8 hV3 hu
                      have ks1 := Lib.hid (fun V (hV : Grow w4 V) => HK.out.sub V (ad, an) (bd, bn) hV hSa hSb)
                      have ks2 := Lib.hid (fun V (hV : Grow w4 V) => HK.out.sub V (bd, bn) (cd, cn) hV hSb hSc)
                      have ks3 := Lib.hid (fun V (hV : Grow w4 V) => HK.out.sub V (ad, an) (cd, cn) hV hSa hSc)
                      have ks4 := Lib.hid (fun V (hV : Grow w4 V) => HK.out.sub V (xd, xn) (cd, cn) hV F7 hSc)
                      have P5' := Lib.hid (P5.out (ad, an) (bd, bn) (cd, cn))
                      have P6' := Lib.hid (P6.out an bn cn)
                      go_upto_region 34 with fail
                      generalize hWc : wc = U1 at *
                      clear hWc
                      go_cut [187] (fun v wx => v = .bool false ∧ Hid (Grow U1 wx))
                      case first => as_aux_lemma =>
                        generalize Sp.subS L (ad, an) (bd, bn) = t1 at *
                        generalize Sp.subS L (bd, bn) (cd, cn) = t2 at *
                        generalize Sp.subS L (ad, an) (cd, cn) = t3 at *
                        obtain ⟨s0, s1, sl⟩ := hA3.out U1 (Grow.refl _)
                        obtain ⟨s2, s3, sl3⟩ := hB3.out U1 (Grow.refl _)
                        go_wp2_with fail
                        refine (ks1.out U1 qu).mono ?_
                        rintro e y1 ⟨rfl, d1⟩
                        clear s0 s1 sl s2 s3 sl3
                        cases t1 with
                        | false =>
                          go_wp2
                          go_meet
                          exact ⟨rfl, Lib.hid d1⟩
                        | true =>
                          obtain ⟨s2, s3, sl3⟩ := hB3.out y1 d1
                          obtain ⟨s4, s5, sl5⟩ := hC3.out y1 d1
                          go_wp2_with fail
                          refine (ks2.out y1 (Grow.trans _ _ _ qu d1)).mono ?_
                          rintro e y2 ⟨rfl, d2⟩
                          clear s2 s3 sl3 s4 s5 sl5
                          have d2 := Grow.trans _ _ _ d1 d2
                          cases t2 with
                          | false =>
                            go_wp2
                            go_meet
                            exact ⟨rfl, Lib.hid d2⟩
                          | true =>
                            have ht3 : t3 = true := by first | exact P5'.out rfl rfl | exact P5'.out trivial trivial | simpa using P5'.out
                            subst ht3
                            obtain ⟨s0, s1, sl⟩ := hA3.out y2 d2
                            obtain ⟨s4, s5, sl5⟩ := hC3.out y2 d2
                            go_wp2_with fail
                            refine (ks3.out y2 (Grow.trans _ _ _ qu d2)).mono ?_
                            rintro e y3 ⟨rfl, d3⟩
                            clear s0 s1 sl s4 s5 sl5
                            go_wp2
                            go_meet
                            exact ⟨rfl, Lib.hid (Grow.trans _ _ _ d2 d3)⟩
                      case rest => as_aux_lemma =>
                        obtain ⟨rfl, d1⟩ := hcut
                        clear ks1 P5'
                        have kfd := Lib.hid (HK.out.find wc cn (Grow.trans _ _ _ qu d1.out) hSc)
                        obtain ⟨s4, s5, sl5⟩ := hC3.out wc d1.out
                        generalize hcc : Sp.getC L cn = cc at *
                        obtain ⟨n2, u2, i2, x2, y2, z2, t2⟩ := cc
                        simp only at kfd
                        generalize hci : (Sp.findC L cn).isSome = ci at *
                        have P6' := Lib.hid P6'.out
                        clear hcc hci
                        go_wp2_with fail
                        refine kfd.out.mono ?_
                        rintro e y1 ⟨A2, c2, rfl, _, d2⟩
                        clear kfd s4 s5 sl5
                        go_upto_region 37 with fail
                        have hCy := blk_new y1 (.cells #[.string n2, .string u2, .slice A2 i2.length c2, .bool x2, .bool y2, .bool z2, .int .i64 t2] 44)
                        have d3 := Grow.trans _ _ _ d1.out (Grow.trans _ _ _ d2 ((Below.refl y1.heap.size y1).alloc (Nat.le_refl _) (.cells #[.string n2, .string u2, .slice A2 i2.length c2, .bool x2, .bool y2, .bool z2, .int .i64 t2] 44)))
                        clear d1 d2
                        generalize y1.alloc (.cells #[.string n2, .string u2, .slice A2 i2.length c2, .bool x2, .bool y2, .bool z2, .int .i64 t2] 44) = U2 at *
                        generalize y1.heap.size = py at *
                        have q2 := Grow.trans _ _ _ qu d3
                        have hA4 := Lib.hid (fun V (hV : Grow U2 V) => hA3.out V (Grow.trans _ _ _ d3 hV))
                        have hB4 := Lib.hid (fun V (hV : Grow U2 V) => hB3.out V (Grow.trans _ _ _ d3 hV))
                        have hC4 := Lib.hid (fun V (hV : Grow U2 V) => hC3.out V (Grow.trans _ _ _ d3 hV))
                        have hX4 := Lib.hid (fun V (hV : Grow U2 V) => hX3.out V (Grow.trans _ _ _ d3 hV))
                        clear hA3 hB3 hC3 hX3
                        obtain ⟨yc, yf⟩ := blk_cell hCy 3 (.bool x2) rfl
                        have ylt := blk_lt hCy
                        go_cut [243] (fun v wx => v = .bool false ∧ Hid (Grow U2 wx))
                        case first => as_aux_lemma =>
                          have kcs := classes6_any w4 tb L HK.out ad bd an bn
                          have Q6 : Hid (xo = true → ci = true → x2 = false → ad = 0 → bd = 0 → cd = 0 → (Sp.getC L an).iface = false → (Sp.getC L bn).iface = false → Sp.subS L (ad, an) (cd, cn) = true → Sp.subS L (bd, bn) (cd, cn) = true → Sp.subS L (xd, xn) (cd, cn) = true) := Lib.hid (by
                            rintro h1 h2 h3 rfl rfl rfl h7 h8 h9 h10
                            have := P6'.out (by rw [hX.out]; exact h1) h2 h3 h7 h8 h9 h10
                            rw [hX.out] at this
                            exact this)
                          generalize (Sp.getC L an).iface = ia at *
                          generalize (Sp.getC L bn).iface = ib at *
                          generalize Sp.subS L (ad, an) (cd, cn) = t3 at *
                          generalize Sp.subS L (bd, bn) (cd, cn) = t4 at *
                          generalize Sp.subS L (xd, xn) (cd, cn) = t5 at *
                          have kcs := Lib.hid (kcs U2 q2 hSa hSb)
                          clear hX P6'
                          have gR := Lib.hid (Grow.refl U2)
                          cases xo with
                          | false => go_wp2; go_meet; exact ⟨rfl, gR⟩
                          | true =>
                            cases ci with
                            | false => go_wp2; go_meet; exact ⟨rfl, gR⟩
                            | true =>
                              cases x2 with
                              | true => go_wp2; go_meet; exact ⟨rfl, gR⟩
                              | false =>
                                obtain ⟨s4, s5, sl5⟩ := hC4.out U2 (Grow.refl _)
                                obtain ⟨s0, s1, sl⟩ := hA4.out U2 (Grow.refl _)
                                obtain ⟨s2, s3, sl3⟩ := hB4.out U2 (Grow.refl _)
                                by_cases hcd : cd = 0
                                rotate_left
                                · have hz1 : (cd == 0) = false := by simp [hcd]
                                  go_wp2
                                  go_meet
                                  exact ⟨rfl, gR⟩
                                have hz1 : (cd == 0) = true := by simp [hcd]
                                by_cases had : ad = 0
                                rotate_left
                                · have hz2 : (ad == 0) = false := by simp [had]
                                  clear hcd
                                  go_wp2
                                  go_meet
                                  exact ⟨rfl, gR⟩
                                have hz2 : (ad == 0) = true := by simp [had]
                                by_cases hbd : bd = 0
                                rotate_left
                                · have hz3 : (bd == 0) = false := by simp [hbd]
                                  clear hcd had
                                  go_wp2
                                  go_meet
                                  exact ⟨rfl, gR⟩
                                have hz3 : (bd == 0) = true := by simp [hbd]
                                have Q7 := Lib.hid (fun h7 h8 h9 h10 => Q6.out (by first | rfl | trivial) (by first | rfl | trivial) (by first | rfl | trivial) had hbd hcd h7 h8 h9 h10)
                                clear hcd had hbd Q6
                                go_wp2_with fail
                                refine kcs.out.mono ?_
                                rintro e y2 ⟨rfl, d5⟩
                                clear kcs s0 s1 sl s2 s3 sl3 s4 s5 sl5 hz1 hz2 hz3 yc yf ylt
                                cases ia with
                                | true =>
                                  go_wp2
                                  go_meet
                                  exact ⟨rfl, Lib.hid d5⟩
                                | false =>
                                  cases ib with
                                  | true =>
                                    go_wp2
                                    go_meet
                                    exact ⟨rfl, Lib.hid d5⟩
                                  | false =>
                                    obtain ⟨s4, s5, sl5⟩ := hC4.out y2 d5
                                    obtain ⟨s0, s1, sl⟩ := hA4.out y2 d5
                                    go_wp2_with fail
                                    refine (ks3.out y2 (Grow.trans _ _ _ q2 d5)).mono ?_
                                    rintro e y3 ⟨rfl, d6⟩
                                    have d6 := Grow.trans _ _ _ d5 d6
                                    clear s0 s1 sl s4 s5 sl5
                                    cases t3 with
                                    | false =>
                                      go_wp2
                                      go_meet
                                      exact ⟨rfl, Lib.hid d6⟩
                                    | true =>
                                      obtain ⟨s4, s5, sl5⟩ := hC4.out y3 d6
                                      obtain ⟨s2, s3, sl3⟩ := hB4.out y3 d6
                                      go_wp2_with fail
                                      refine (ks2.out y3 (Grow.trans _ _ _ q2 d6)).mono ?_
                                      rintro e y4 ⟨rfl, d7⟩
                                      have d7 := Grow.trans _ _ _ d6 d7
                                      clear s2 s3 sl3 s4 s5 sl5
                                      cases t4 with
                                      | false =>
                                        go_wp2
                                        go_meet
                                        exact ⟨rfl, Lib.hid d7⟩
                                      | true =>
                                        have ht5 : t5 = true := by first | exact Q7.out rfl rfl rfl rfl | exact Q7.out trivial trivial trivial trivial | simpa using Q7.out
                                        subst ht5
                                        obtain ⟨s4, s5, sl5⟩ := hC4.out y4 d7
                                        obtain ⟨s2, s3, sl3⟩ := hX4.out y4 d7
                                        go_wp2_with fail
                                        refine (ks4.out y4 (Grow.trans _ _ _ q2 d7)).mono ?_
                                        rintro e y5 ⟨rfl, d8⟩
                                        clear s2 s3 sl3 s4 s5 sl5
                                        go_wp2
                                        go_meet
                                        exact ⟨rfl, Lib.hid (Grow.trans _ _ _ d7 d8)⟩
                        case rest => as_aux_lemma =>
                          obtain ⟨rfl, d4⟩ := hcut
                          have gF := Lib.hid (Grow.trans _ _ _ ru.out (Grow.trans _ _ _ d3 d4.out))
                          clear hA4 hB4 hC4 hX4 ks2 ks3 ks4 P6' yc yf ylt d4 d3 hCy q2 ru qu
                          go_wp2
                          go_roundw
                          case rel => exact ⟨j + 1, by go_num, by omega, gF⟩
                          case measure => simp [RowKit.intOf]; omega
                  · have hzj : ¬ (j : Int) < (T.length : Int) := by omega
                    have gF := Lib.hid (Grow.trans _ _ _ gV12.out gc.out)
                    clear gV12 gc
                    go_wp2
                    go_roundw
                    case rel => exact ⟨k + 1, by go_num, by omega, gF⟩
                    case measure => simp [RowKit.intOf]; omega
            · have hzk : ¬ (k : Int) < (T.length : Int) := by omega
              have gF := Lib.hid (Grow.trans _ _ _ gV1.out gb.out)
              clear gV1 gb
              go_wp2
              go_roundw
              case rel => exact ⟨i + 1, by go_num, by omega, gF⟩
              case measure => simp [RowKit.intOf]; omega
      · have hzi : ¬ (i : Int) < (T.length : Int) := by omega
        have gF : Below w.heap.size w wr := Grow.trans _ _ _ G4 ga.out
        clear ga
        go_wp2
        go_ret
        exact ⟨rfl, gF⟩
end Go.Proofs.YtfjplmbknegidaaGreatDoor
end
section
/-
  HierOrders' walk in the row's words.
-/
set_option linter.unusedVariables false
namespace Go.Proofs.YtfjplmbknegidaaGreatDoor
open Go.RowKit Go.Lib
theorem walkHierOrders (rA : Option Addr) (rc : Nat) (raws : List Sp.RwP) (A1 : Option Addr) (l1 c1 : Nat) (z1 : List Int) (w : World) (hr : RdL Sp.rwC w rA raws) (hi : ∀ r ∈ raws, RwIn w r) (r1 : IsRow .i64 w A1 l1 c1 z1) (hT : Tabs w) :
    Calls Tryz.prog 4 #[.slice rA raws.length rc, .slice A1 l1 c1] w fun e w' => e = .returned (.bool true) ∧ Below w.heap.size w w' := by
  obtain ⟨l, rfl, ra, ia⟩ := isRow_rd r1
  exact hierOrders_any rA rc raws A1 c1 l w hr hi ra ia hT
end Go.Proofs.YtfjplmbknegidaaGreatDoor
end
