/-
  Texts of the proof, joined: each says at its head what it proves.
-/
import Derived.Test.YtfjplmbknegidaaGreatDoorJk30
import Derived.IntWalk
section
/-
  Walk of HierClosed. (Printed by gen_closed.py.)
-/
set_option linter.unusedVariables false
set_option linter.unusedSimpArgs false
namespace Go.Proofs.YtfjplmbknegidaaGreatDoor
open Go.RowKit Go.Lib Go.Maps
namespace Sp
/-- What is told of a class of a table and of its chain. -/
structure ClosedOne (L : List Cl) (s : ByteArray) (c : Cl) (ch : List ByteArray) : Prop where
  find : (findC L s).isSome = true
  get : getC L s = c
  name : c.name = s
  chain : chainS L s = ch
  pos : 0 < ch.length
  head : ch[0]? = some s
  last : ch[ch.length - 1]? = some objB
  subs : ∀ (k : Nat) (x : ByteArray), ch[k]? = some x → subS L (0, s) (0, x) = true ∧ (0 < k → subS L (0, x) (0, s) = false)
  ifs : ∀ i ∈ c.ifaces, (findC L i).isSome = true ∧ (getC L i).iface = true ∧ subS L (0, s) (0, i) = true
theorem closed_one {L : List Cl} (hL : Tb L) (hN : Nm L) {s : ByteArray} (hs : s ∈ L.map (·.name)) : ClosedOne L s (getC L s) (chainS L s) := by
  obtain ⟨c, hc⟩ := findC_mem hs
  obtain ⟨e1, e2⟩ := findC_name hc
  obtain ⟨r, h1, _⟩ := chain_head hL hs
  obtain ⟨p, h2⟩ := chain_last hL hs
  refine ⟨by rw [hc]; rfl, rfl, by rw [getC_some hc]; exact e1, rfl, by rw [h1]; simp, by rw [h1]; rfl, by rw [h2]; simp, fun k x hk => ?_, fun i hi => ?_⟩
  · obtain ⟨hl, rfl⟩ := List.getElem?_eq_some_iff.1 hk
    exact chain_sub hL hN hs hl
  · rw [getC_some hc] at hi
    obtain ⟨t, h3, h4⟩ := hL.ifaces c e2 i hi
    refine ⟨by rw [h3]; rfl, by rw [getC_some h3]; exact h4, (sub_names hL hN hs (findC_isSome.1 (by rw [h3]; rfl))).2 (.inr (.inl (.one ?_)))⟩
    unfold EdgeC
    rw [getC_some hc]
    exact List.mem_cons_of_mem _ hi
end Sp
theorem name_one {n : ByteArray} {L : List Sp.Cl} (h : ∀ c ∈ L, c.name.size ≤ 1099511627776) (hn : n ∈ L.map (·.name)) : n.size ≤ 1099511627776 := by
  obtain ⟨c, hc, rfl⟩ := List.mem_map.1 hn
  exact h c hc

set_option maxHeartbeats 16000000 in
set_option maxRecDepth 100000 in
theorem hierClosed_any (rA : Option Addr) (rc : Nat) (raws : List Sp.RwP) (mA : Option Addr) (mc : Nat) (more : List Sp.RwP) (w : World) (hr : RdL Sp.rwC w rA raws) (hi : ∀ r ∈ raws, RwIn w r) (hr2 : RdL Sp.rwC w mA more) (hi2 : ∀ r ∈ more, RwIn w r) (hT : Tabs w) :
    Calls Tryz.prog 8 #[.slice rA raws.length rc, .slice mA more.length mc] w fun e w' => e = .returned (.bool true) ∧ Below w.heap.size w w' := by
  have HT := Lib.hid hT
  have HR := Lib.hid hr
  have HI := Lib.hid hi
  have HR2 := Lib.hid hr2
  have HI2 := Lib.hid hi2
  have ksh := Lib.hid (shown6_any w hT)
  have kcl := Lib.hid class6_lit
  clear hT hr hi hr2 hi2
  go_enter Tryz.func8, Tryz.ntmps8
  go_wp2_with fail
  refine ksh.out.mono ?_
  rintro e w1 ⟨rfl, b1⟩
  have kfi := Lib.hid (files6_any rA rc raws w1 (rdL_below HR.out b1) (fun r hr => (HI.out r hr).below b1))
  clear ksh
  go_wp2_with fail
  refine kfi.out.mono ?_
  rintro e w2 ⟨fA, fc, fs, rfl, ⟨hf1, hf2, hf3⟩, b2⟩
  have g2 : Grow w w2 := Grow.trans _ _ _ b1 b2
  have knw := Lib.hid (hNewM_any w2 fA fc fs (own_rdL Sp.flE_len (by decide) hf2).2.1 hf3 (HT.out.below g2))
  rw [hf1] at knw
  clear kfi hf1 hf2 hf3 b1 b2 HI HR
  go_wp2_with fail
  refine knw.out.mono ?_
  rintro e w3 ⟨b3, hP⟩
  have g3 : Grow w w3 := Grow.trans _ _ _ g2 b3
  clear knw b3 g2
  rcases hP with ⟨h1, rfl⟩ | ⟨tb, L, h1, rfl, hK⟩
  · clear h1
    go_wp2
    go_ret
    exact ⟨rfl, g3⟩
  · obtain ⟨hTb, hNm, hln, h64⟩ := Sp.made_tb Sp.built_tb Sp.built_nm h1
    have hln : L.length ≤ 100 := by rw [hln]; have : Sp.builtC.length = 14 := rfl; omega
    clear h1 h64
    have kfi := Lib.hid (files6_any mA mc more w3 (rdL_below HR2.out g3) (fun r hr => (HI2.out r hr).below g3))
    go_wp2_with fail
    refine kfi.out.mono ?_
    rintro e w4 ⟨fA, fc, fs, rfl, ⟨hf1, hf2, hf3⟩, b4⟩
    have g4 : Grow w w4 := Grow.trans _ _ _ g3 b4
    have kop := Lib.hid ((hK.opens w4 fA fc fs b4 (own_rdL Sp.flE_len (by decide) hf2).2.1 hf3).mono (fun e w' (q : Below w4.heap.size w4 w' ∧ _) => show Grow w4 w' ∧ MadeP (Sp.openS L (Sp.rcF (fs.map (·.2)) 0)) e w' from ⟨q.1, made_of hTb hNm (by omega) (HT.out.below (Grow.trans _ _ _ g4 q.1)) q.2⟩))
    clear kfi hf1 hf2 hf3 HI2 HR2 g3
    go_wp2_with fail
    refine kop.out.mono ?_
    rintro e w5 ⟨b5, hP⟩
    have g5 : Grow w w5 := Grow.trans _ _ _ g4 b5
    have hK5 := Lib.hid (hK.later (Grow.trans _ _ _ b4 b5))
    clear kop g4 b4 b5 hK
    have hU : ∃ (er ei : Int) (p : Option Addr), e = .returned (.tuple #[.pointer p, .int .i64 er, .int .i64 ei]) ∧ (p = none ∨ ∃ tu M, p = some ⟨tu, 0, none⟩ ∧ Sp.Tb M ∧ Sp.Nm M ∧ M.length ≤ 200 ∧ HKit w5 tu M) := by
      rcases hP with ⟨_, q⟩ | ⟨tu, M, q1, q2, q3⟩
      · exact ⟨_, _, _, q, .inl rfl⟩
      · obtain ⟨m1, m2, m3, m4⟩ := Sp.made_tb hTb hNm q1
        exact ⟨_, _, _, q2, .inr ⟨tu, M, rfl, m1, m2, by omega, q3⟩⟩
    clear hP
    obtain ⟨er, ei, p, rfl, hp⟩ := hU
    go_upto_if 43 with fail
    go_cut [9] (fun v9 wx => ∃ (tu : Nat) (M : List Sp.Cl), v9 = .pointer (some ⟨tu, 0, none⟩) ∧ Hid (Sp.Tb M) ∧ Hid (Sp.Nm M) ∧ M.length ≤ 200 ∧ Hid (HKit wx tu M) ∧ wx = w5)
    case first =>
      rcases hp with rfl | ⟨tu, M, rfl, m1, m2, m3, m4⟩
      · have m1 := Lib.hid hTb
        have m2 := Lib.hid hNm
        clear hTb hNm
        go_wp2
        go_meet
        exact ⟨tb, L, rfl, m1, m2, by omega, hK5, rfl⟩
      · have m1 := Lib.hid m1
        have m2 := Lib.hid m2
        have m4 := Lib.hid m4
        clear hTb hNm
        go_wp2
        go_meet
        exact ⟨tu, M, rfl, m1, m2, m3, m4, rfl⟩
    case rest =>
      clear hp hTb hNm hln hK5
      obtain ⟨tu, M, rfl, mT, mN, hM, mK, rfl⟩ := hcut
      have kna := Lib.hid (mK.out.names _ (Grow.refl _))
      go_wp2_with fail
      refine kna.out.mono ?_
      rintro e w6 ⟨nA, nc, rfl, hR6, b6⟩
      have G6 : Grow w w6 := Grow.trans _ _ _ g5 b6
      have HK := Lib.hid (mK.out.later b6)
      have HN := Lib.hid hR6
      have hC1 := Lib.hid (fun s (hs : s ∈ M.map (·.name)) => Sp.closed_one mT.out mN.out hs)
      have hsz := Lib.hid (fun s (hs : s ∈ M.map (·.name)) => name_one (fun c hc => (mK.out.txt c hc).1) hs)
      have hszi := Lib.hid (fun c (hc : c ∈ M) => (mK.out.txt c hc).2.2)
      clear kna hR6 b6 g5 mK mT mN HT
      generalize hNS : M.map (·.name) = NS at *
      have hNl : NS.length ≤ 200 := by rw [← hNS, List.length_map]; exact hM
      have hNSm := Lib.hid hNS
      clear hNS hM
      go_upto_region 12 with fail
      have ga0 := Lib.hid (Grow.refl w6)
      go_loopw [13, 14, 15, 16, 17, 18, 19, 20] (fun vi _ _ _ _ _ _ _ wr => ∃ j : Nat, vi = .int .i64 j ∧ j ≤ NS.length ∧ Hid (Grow w6 wr)) (fun vi _ _ _ _ _ _ _ _ => NS.length - (RowKit.intOf vi).toNat)
      case atStart => exact ⟨0, by go_num, Nat.zero_le _, ga0⟩
      case round =>
        clear ga0
        obtain ⟨i, rfl, hi, ga⟩ := hrel
        by_cases hlt : i < NS.length
        · have hzi : (i : Int) < (NS.length : Int) := by omega
          have hz0 : (0 : Int) ≤ (i : Int) := by omega
          obtain ⟨b, o, rfl, hrg⟩ := HN.out.2 (by omega)
          have e0 : w6.cell? ⟨b, o + i, none⟩ = some (.string NS[i]) := by
            have := rdL_get 1 Sp.strC_len hrg hlt 0 (by decide) (v := .string NS[i]) rfl
            simpa using this
          have hC := Lib.hid (hC1.out _ (List.getElem_mem hlt))
          have hss := hsz.out _ (List.getElem_mem hlt)
          clear hrg
          generalize NS[i] = s at *
          have e0r := cell_below ga.out e0
          have kfd := Lib.hid (HK.out.find wr s ga.out hss)
          have hchz : Hid (∀ (k : Nat) (x : ByteArray), (Sp.chainS M s)[k]? = some x → x.size ≤ 1099511627776) := Lib.hid (fun k x hk => hsz.out x (by rw [← hNSm.out]; exact Sp.chain_names (List.mem_of_getElem? hk)))
          have hifs : Hid (∀ x ∈ (Sp.getC M s).ifaces, x.size ≤ 1099511627776) := Lib.hid (fun x hx => by
            obtain ⟨c, hc⟩ := Option.isSome_iff_exists.1 hC.out.find
            rw [Sp.getC_some hc] at hx
            exact hszi.out c (Sp.findC_name hc).2 x hx)
          rw [hC.out.find] at kfd
          have kch := Lib.hid (fun V (hV : Grow w6 V) => HK.out.chain V s hV hss)
          generalize hcl : Sp.getC M s = cl at *
          generalize hch : Sp.chainS M s = ch at *
          clear hcl hch
          obtain ⟨n1, u1, i1, x1, y1, z1, t1⟩ := cl
          have hnm : n1 = s := hC.out.name
          subst hnm
          simp only at kfd hifs
          go_wp2_with fail
          refine kfd.out.mono ?_
          rintro e w7 ⟨A7, c7, rfl, hI7, b7⟩
          clear kfd
          go_upto_region 15 with fail
          have hCb := blk_new w7 (.cells #[.string n1, .string u1, .slice A7 i1.length c7, .bool x1, .bool y1, .bool z1, .int .i64 t1] 44)
          have z7 : Grow w7 (w7.alloc (.cells #[.string n1, .string u1, .slice A7 i1.length c7, .bool x1, .bool y1, .bool z1, .int .i64 t1] 44)) := (Below.refl _ _).alloc (Nat.le_refl _) _
          have hI8 := rdL_below hI7 z7
          have g8 := Lib.hid (Grow.trans _ _ _ ga.out (Grow.trans _ _ _ b7 z7))
          clear hI7 z7 b7 e0r
          generalize w7.alloc (.cells #[.string n1, .string u1, .slice A7 i1.length c7, .bool x1, .bool y1, .bool z1, .int .i64 t1] 44) = w8 at *
          generalize w7.heap.size = cb at *
          have hCb := Lib.hid hCb
          have hI8 := Lib.hid hI8
          have e0r := cell_below g8.out e0
          have kc := Lib.hid (kch.out w8 g8.out)
          clear kch
          go_wp2_with fail
          refine kc.out.mono ?_
          rintro e w9 ⟨A9, c9, rfl, hR9, b9⟩
          have g9 := Lib.hid (Grow.trans _ _ _ g8.out b9)
          have hpos := hC.out.pos
          obtain ⟨b9b, o9, rfl, hrg9⟩ := hR9.2 hpos
          have hl9 := hR9.1
          have hR9 := Lib.hid hR9
          obtain ⟨cm, hcm⟩ : ∃ m, ch.length = m + 1 := ⟨ch.length - 1, by omega⟩
          have hlast : ch[cm]? = some Sp.objB := by have := hC.out.last; rwa [hcm, Nat.add_sub_cancel] at this
          have hlast := Lib.hid hlast
          have hcmz : cm + 1 ≤ 9223372036854775807 := by omega
          rw [hcm]
          have hcm := Lib.hid hcm
          clear hpos hl9
          have hch9 : ∀ k x, ch[k]? = some x → w9.cell? ⟨b9b, o9 + k, none⟩ = some (.string x) := fun k x hk => by
            obtain ⟨hkl, rfl⟩ := List.getElem?_eq_some_iff.1 hk
            have := rdL_get 1 Sp.strC_len hrg9 hkl 0 (by decide) (v := .string ch[k]) rfl
            simpa using this
          have hch9 := Lib.hid hch9
          have e09 := Lib.hid (cell_below g9.out e0)
          have hCb9 := Lib.hid (blk_below hCb.out b9)
          have hI9 := Lib.hid (rdL_below hI8.out b9)
          clear kc e0r hrg9 b9 hCb hI8 ga g8
          go_upto_region 16 with fail
          go_cut [102] (fun v wx => v = .bool false ∧ Hid (Grow w9 wx))
          case first =>
            have gD : Grow w9 w9.drew := (Below.refl _ _).drew
            have hS := Lib.hid (fun V (hV : Grow w9.drew V) => show V.cell? ⟨cb, 0, none⟩ = some (.string n1) ∧ V.cell? ⟨b, o + i, none⟩ = some (.string n1) ∧ V.cell? ⟨b9b, o9, none⟩ = some (.string n1) ∧ V.cell? ⟨b9b, o9 + cm, none⟩ = some (.string Sp.objB) from
              ⟨cell_below (w := w9.drew) hV (blk_cell (blk_drew hCb9.out) 0 _ rfl).1, cell_below (w := w9.drew) hV e09.out, cell_below (w := w9.drew) hV (hch9.out 0 _ hC.out.head), cell_below (w := w9.drew) hV (hch9.out _ _ hlast.out)⟩)
            have hle : ((cm : Int) + 1 == 0) = false := by simp only [beq_eq_false_iff_ne, ne_eq]; omega
            have hl0 : (0 : Int) < (cm : Int) + 1 := by omega
            have hl1 : (0 : Int) ≤ (cm : Int) := by omega
            have hl2 : (cm : Int) < (cm : Int) + 1 := by omega
            have hl4 := IntWalk.i64_in ((cm : Int)) (by omega)
            have hnn : (n1.toList == n1.toList) = true := by simp
            refine wp_region_calm Grow [0, 1, 2, 3, 4, 5, 6, 7, 8, 9, 10, 11, 12, 13, 14, 15, 16, 17, 18, 19, 20, 21, 22, 23, 24, 25, 26, 27, 28, 29, 30, 31, 32, 33, 34] [] [] [] (by kernel_rfl) (by kernel_rfl) Grow.refl Grow.trans (fun c a d v w h => by cases d <;> exact h) ?_
            change Line _ _ _ w9.drew _ _ _
            ((simp only [pickOps, List.filterMap_cons, List.filterMap_nil, List.getElem?_cons_succ, List.getElem?_cons_zero]); (repeat (first | (refine line_not (by rfl) ?_; (try simp only [Act.put, List.setIfInBounds_toArray, List.set_cons_zero, List.set_cons_succ])) | (refine line_val (v := ?_) Grow.refl (by rfl) (fun v9 h9 => ?_) ?_; rotate_left; (focus (obtain ⟨s1, s2, s3, s4⟩ := hS.out v9 h9; go_simp; (first | done | with_reducible rfl))); (try simp only [Act.put, List.setIfInBounds_toArray, List.set_cons_zero, List.set_cons_succ])))))
            refine line_done (soon_nil (fun z gz => ?_))
            go_wp2
            go_meet
            exact ⟨rfl, Lib.hid (Grow.trans _ _ _ gD gz)⟩
          case rest =>
            obtain ⟨rfl, b10⟩ := hcut
            have g10 := Lib.hid (Grow.trans _ _ _ g9.out b10.out)
            have hCbX := Lib.hid (blk_below hCb9.out b10.out)
            have hIX := Lib.hid (rdL_below hI9.out b10.out)
            have e0X := Lib.hid (cell_below b10.out e09.out)
            have hchX : Hid (∀ k x, ch[k]? = some x → wc.cell? ⟨b9b, o9 + k, none⟩ = some (.string x)) := Lib.hid (fun k x hk => cell_below b10.out (hch9.out k x hk))
            clear hCb9 hI9 e09 hch9 b10 g9 hR9 hlast
            go_upto_region 19 with fail
            generalize wc = V1 at *
            have gb0 := Lib.hid (Grow.refl V1)
            go_loopw [17] (fun vk wr => ∃ k : Nat, vk = .int .i64 k ∧ k ≤ cm + 1 ∧ Hid (Grow V1 wr)) (fun vk _ => (cm + 1) - (RowKit.intOf vk).toNat)
            case atStart => exact ⟨0, by go_num, Nat.zero_le _, gb0⟩
            case round =>
              clear gb0
              obtain ⟨k, rfl, hk, gb⟩ := hrel
              by_cases hltk : k < cm + 1
              · have hzk : (k : Int) < (cm : Int) + 1 := by omega
                have hk0 : (0 : Int) ≤ (k : Int) := by omega
                have hkl : k < ch.length := by rw [hcm.out]; exact hltk
                obtain ⟨x, hx⟩ : ∃ x, ch[k]? = some x := ⟨_, List.getElem?_eq_getElem hkl⟩
                have hsub := hC.out.subs k x hx
                have hxs : x.size ≤ 1099511627776 := hchz.out k x hx
                have hxs := Lib.hid hxs
                have gD : Grow wr wr.drew := (Below.refl _ _).drew
                have hS := Lib.hid (fun V (hV : Grow wr.drew V) => show V.cell? ⟨b, o + i, none⟩ = some (.string n1) ∧ V.cell? ⟨b9b, o9 + k, none⟩ = some (.string x) from
                  ⟨cell_below (w := wr.drew) hV (cell_below (w := V1) (Grow.trans _ _ _ gb.out gD) e0X.out), cell_below (w := wr.drew) hV (cell_below (w := V1) (Grow.trans _ _ _ gb.out gD) (hchX.out k x hx))⟩)
                have ks1 : Hid (∀ V, Grow wr.drew V → Calls Tryz.prog 16 #[.pointer (some ⟨tu, 0, none⟩), .agg #[.int .i64 0, .string n1], .agg #[.int .i64 0, .string x]] V fun e w3 => e = .returned (.bool true) ∧ Grow V w3) := Lib.hid (fun V hV => by have := HK.out.sub V (0, n1) (0, x) (Grow.trans _ _ _ g10.out (Grow.trans _ _ _ gb.out (Grow.trans _ _ _ gD hV))) hss hxs.out; rw [hsub.1] at this; exact this)
                have ks2 : Hid (0 < k → ∀ V, Grow wr.drew V → Calls Tryz.prog 16 #[.pointer (some ⟨tu, 0, none⟩), .agg #[.int .i64 0, .string x], .agg #[.int .i64 0, .string n1]] V fun e w3 => e = .returned (.bool false) ∧ Grow V w3) := Lib.hid (fun h0 V hV => by have := HK.out.sub V (0, x) (0, n1) (Grow.trans _ _ _ g10.out (Grow.trans _ _ _ gb.out (Grow.trans _ _ _ gD hV))) hxs.out hss; rw [hsub.2 h0] at this; exact this)
                have gbd := Lib.hid (Grow.trans _ _ _ gb.out gD)
                clear hsub hx gb gD
                go_upto_region 21 with fail
                by_cases hk1 : 0 < k
                · have hkz : (0 : Int) < (k : Int) := by omega
                  have hkd : decide ((0 : Int) < (k : Int)) = true := decide_eq_true hkz
                  have hkd2 : decide (0 < k) = true := decide_eq_true hk1
                  have ks2 := Lib.hid (ks2.out hk1)
                  clear hk1
                  refine wp_region_calm Grow [0, 1, 2, 3, 4, 5, 6, 7, 8, 9, 10, 11, 12, 13, 14, 15, 16, 17, 18, 19, 20, 21, 22, 23, 24, 25, 26, 27, 28, 29, 30] [] [] [] (by kernel_rfl) (by kernel_rfl) Grow.refl Grow.trans (fun c a d v w h => by cases d <;> exact h) ?_
                  change Line _ _ _ wr.drew _ _ _
                  ((simp only [pickOps, List.filterMap_cons, List.filterMap_nil, List.getElem?_cons_succ, List.getElem?_cons_zero]); (repeat (first | (refine line_not (by rfl) ?_; (try simp only [Act.put, List.setIfInBounds_toArray, List.set_cons_zero, List.set_cons_succ])) | (refine line_val (v := ?_) Grow.refl (by rfl) (fun v9 h9 => ?_) ?_; rotate_left; (focus (obtain ⟨s1, s2⟩ := hS.out v9 h9; go_simp; (first | done | with_reducible rfl))); (try simp only [Act.put, List.setIfInBounds_toArray, List.set_cons_zero, List.set_cons_succ])) | (refine line_call (by rfl) (fun v9 h9 => ?_) (fun v9 h9 => kcl.out n1 v9) ?_; (focus (obtain ⟨s1, s2⟩ := hS.out v9 h9; go_simp; done)); (try simp only [Act.put, List.setIfInBounds_toArray, List.set_cons_zero, List.set_cons_succ])) | (refine line_call (by rfl) (fun v9 h9 => ?_) (fun v9 h9 => kcl.out x v9) ?_; (focus (obtain ⟨s1, s2⟩ := hS.out v9 h9; go_simp; done)); (try simp only [Act.put, List.setIfInBounds_toArray, List.set_cons_zero, List.set_cons_succ])) | (refine line_call (by rfl) (fun v9 h9 => ?_) (fun v9 h9 => ks1.out v9 h9) ?_; (focus (obtain ⟨s1, s2⟩ := hS.out v9 h9; go_simp; done)); (try simp only [Act.put, List.setIfInBounds_toArray, List.set_cons_zero, List.set_cons_succ])) | (refine line_call (by rfl) (fun v9 h9 => ?_) (fun v9 h9 => ks2.out v9 h9) ?_; (focus (obtain ⟨s1, s2⟩ := hS.out v9 h9; go_simp; done)); (try simp only [Act.put, List.setIfInBounds_toArray, List.set_cons_zero, List.set_cons_succ])))))
                  refine line_done (soon_nil (fun z gz => ?_))
                  have gF := Lib.hid (Grow.trans _ _ _ gbd.out gz)
                  clear hS ks1 ks2 gbd gz
                  go_wp2
                  go_roundw
                  case rel => exact ⟨k + 1, by go_num, by omega, gF⟩
                  case measure => simp [RowKit.intOf]; omega
                · have hkz : ¬ (0 : Int) < (k : Int) := by omega
                  have hkd : decide ((0 : Int) < (k : Int)) = false := decide_eq_false hkz
                  have hkd2 : decide (0 < k) = false := decide_eq_false hk1
                  clear hk1 ks2
                  refine wp_region_calm Grow [0, 1, 2, 3, 4, 5, 6, 7, 8, 9, 10, 11, 12, 13, 14, 15, 16, 17, 18, 19, 20, 21, 22, 23, 24, 25, 26, 27, 28, 29, 30] [] [] [] (by kernel_rfl) (by kernel_rfl) Grow.refl Grow.trans (fun c a d v w h => by cases d <;> exact h) ?_
                  change Line _ _ _ wr.drew _ _ _
                  ((simp only [pickOps, List.filterMap_cons, List.filterMap_nil, List.getElem?_cons_succ, List.getElem?_cons_zero]); (repeat (first | (refine line_not (by rfl) ?_; (try simp only [Act.put, List.setIfInBounds_toArray, List.set_cons_zero, List.set_cons_succ])) | (refine line_val (v := ?_) Grow.refl (by rfl) (fun v9 h9 => ?_) ?_; rotate_left; (focus (obtain ⟨s1, s2⟩ := hS.out v9 h9; go_simp; (first | done | with_reducible rfl))); (try simp only [Act.put, List.setIfInBounds_toArray, List.set_cons_zero, List.set_cons_succ])) | (refine line_call (by rfl) (fun v9 h9 => ?_) (fun v9 h9 => kcl.out n1 v9) ?_; (focus (obtain ⟨s1, s2⟩ := hS.out v9 h9; go_simp; done)); (try simp only [Act.put, List.setIfInBounds_toArray, List.set_cons_zero, List.set_cons_succ])) | (refine line_call (by rfl) (fun v9 h9 => ?_) (fun v9 h9 => kcl.out x v9) ?_; (focus (obtain ⟨s1, s2⟩ := hS.out v9 h9; go_simp; done)); (try simp only [Act.put, List.setIfInBounds_toArray, List.set_cons_zero, List.set_cons_succ])) | (refine line_call (by rfl) (fun v9 h9 => ?_) (fun v9 h9 => ks1.out v9 h9) ?_; (focus (obtain ⟨s1, s2⟩ := hS.out v9 h9; go_simp; done)); (try simp only [Act.put, List.setIfInBounds_toArray, List.set_cons_zero, List.set_cons_succ])))))
                  refine line_done (soon_nil (fun z gz => ?_))
                  have gF := Lib.hid (Grow.trans _ _ _ gbd.out gz)
                  clear hS ks1 gbd gz
                  go_wp2
                  go_roundw
                  case rel => exact ⟨k + 1, by go_num, by omega, gF⟩
                  case measure => simp [RowKit.intOf]; omega
              · have hzk : ¬ (k : Int) < (cm : Int) + 1 := by omega
                have gv := Lib.hid (Grow.trans _ _ _ g10.out gb.out)
                have hCb2 := Lib.hid (blk_below hCbX.out gb.out)
                have hI2 := Lib.hid (rdL_below hIX.out gb.out)
                have e02 := Lib.hid (cell_below gb.out e0X.out)
                clear hCbX hIX e0X hchX gb g10 hk
                obtain ⟨sl2, fl2⟩ := blk_cell hCb2.out 2 (.slice A7 i1.length c7) rfl
                have hlb2 := blk_lt hCb2.out
                go_upto_region 24 with fail
                clear sl2 fl2 hlb2
                generalize wr = V2 at *
                have gc0 := Lib.hid (Grow.refl V2)
                go_loopw [18, 19, 20] (fun vk _ _ wr => ∃ q : Nat, vk = .int .i64 q ∧ q ≤ i1.length ∧ Hid (Grow V2 wr)) (fun vk _ _ _ => i1.length - (RowKit.intOf vk).toNat)
                case atStart => exact ⟨0, by go_num, Nat.zero_le _, gc0⟩
                case round =>
                  clear gc0
                  obtain ⟨q, rfl, hq, gc⟩ := hrel
                  have hCb3 := Lib.hid (blk_below hCb2.out gc.out)
                  obtain ⟨sl3, fl3⟩ := blk_cell hCb3.out 2 (.slice A7 i1.length c7) rfl
                  have hlb3 := blk_lt hCb3.out
                  by_cases hltq : q < i1.length
                  · have hzq : (q : Int) < (i1.length : Int) := by omega
                    have hq0 : (0 : Int) ≤ (q : Int) := by omega
                    have hil := hI2.out.1
                    obtain ⟨bi, oi, rfl, hrgi⟩ := hI2.out.2 (by omega)
                    have eq2 : V2.cell? ⟨bi, oi + q, none⟩ = some (.string i1[q]) := by
                      have := rdL_get 1 Sp.strC_len hrgi hltq 0 (by decide) (v := .string i1[q]) rfl
                      simpa using this
                    obtain ⟨hf1, hf2, hf3⟩ := hC.out.ifs _ (List.getElem_mem hltq)
                    have hxs := hifs.out _ (List.getElem_mem hltq)
                    clear hrgi
                    generalize i1[q] = x at *
                    have eq3 := cell_below gc.out eq2
                    have kfx := Lib.hid (HK.out.find wr x (Grow.trans _ _ _ gv.out gc.out) hxs)
                    rw [hf1] at kfx
                    have ks1 := Lib.hid (fun V (hV : Grow w6 V) => HK.out.sub V (0, n1) (0, x) hV hss hxs)
                    rw [hf3] at ks1
                    clear hf1 hf3
                    generalize Sp.getC M x = cx at *
                    obtain ⟨n2, u2, i2, x2, y2, z2, t2⟩ := cx
                    simp only at hf2 kfx
                    subst hf2
                    go_wp2_with fail
                    refine kfx.out.mono ?_
                    rintro e y1 ⟨Ay, cy, rfl, _, by1⟩
                    clear kfx eq3 sl3 fl3 hlb3
                    go_upto_region 27 with fail
                    have hCx := blk_new y1 (.cells #[.string n2, .string u2, .slice Ay i2.length cy, .bool true, .bool y2, .bool z2, .int .i64 t2] 44)
                    have gy := Grow.trans _ _ _ gc.out (Grow.trans _ _ _ by1 ((Below.refl y1.heap.size y1).alloc (Nat.le_refl _) (.cells #[.string n2, .string u2, .slice Ay i2.length cy, .bool true, .bool y2, .bool z2, .int .i64 t2] 44)))
                    clear by1 hCb3 gc
                    generalize y1.alloc (.cells #[.string n2, .string u2, .slice Ay i2.length cy, .bool true, .bool y2, .bool z2, .int .i64 t2] 44) = Y2 at *
                    generalize y1.heap.size = pb at *
                    have gD : Grow Y2 Y2.drew := (Below.refl _ _).drew
                    have gyd := Grow.trans _ _ _ gy gD
                    have hS := Lib.hid (fun V (hV : Grow Y2.drew V) => show V.cell? ⟨b, o + i, none⟩ = some (.string n1) ∧ V.cell? ⟨bi, oi + q, none⟩ = some (.string x) ∧ V.cell? ⟨pb, 3, none⟩ = some (.bool true) ∧ V.cell? ⟨cb, 2, none⟩ = some (.slice (some ⟨bi, oi, none⟩) i1.length c7) from
                      ⟨cell_below (w := Y2.drew) hV (cell_below gyd e02.out), cell_below (w := Y2.drew) hV (cell_below gyd eq2), cell_below (w := Y2.drew) hV (blk_cell (blk_drew hCx) 3 _ rfl).1, cell_below (w := Y2.drew) hV (cell_below gyd (blk_cell hCb2.out 2 _ rfl).1)⟩)
                    have ks : Hid (∀ V, Grow Y2.drew V → Calls Tryz.prog 16 #[.pointer (some ⟨tu, 0, none⟩), .agg #[.int .i64 0, .string n1], .agg #[.int .i64 0, .string x]] V fun e w3 => e = .returned (.bool true) ∧ Grow V w3) := Lib.hid (fun V hV => ks1.out V (Grow.trans _ _ _ gv.out (Grow.trans _ _ _ gyd hV)))
                    have gyd := Lib.hid gyd
                    clear ks1 hCx gy gD eq2
                    refine wp_region_calm Grow [0, 1, 2, 3, 4, 5, 6, 7, 8, 9, 10, 11, 12, 13, 14, 15, 16, 17, 18, 19, 20, 21, 22] [] [] [] (by kernel_rfl) (by kernel_rfl) Grow.refl Grow.trans (fun c a d v w h => by cases d <;> exact h) ?_
                    change Line _ _ _ Y2.drew _ _ _
                    ((simp only [pickOps, List.filterMap_cons, List.filterMap_nil, List.getElem?_cons_succ, List.getElem?_cons_zero]); (repeat (first | (refine line_not (by rfl) ?_; (try simp only [Act.put, List.setIfInBounds_toArray, List.set_cons_zero, List.set_cons_succ])) | (refine line_val (v := ?_) Grow.refl (by rfl) (fun v9 h9 => ?_) ?_; rotate_left; (focus (obtain ⟨s1, s2, s3, s4⟩ := hS.out v9 h9; go_simp; (first | done | with_reducible rfl))); (try simp only [Act.put, List.setIfInBounds_toArray, List.set_cons_zero, List.set_cons_succ])) | (refine line_call (by rfl) (fun v9 h9 => ?_) (fun v9 h9 => kcl.out n1 v9) ?_; (focus (obtain ⟨s1, s2, s3, s4⟩ := hS.out v9 h9; go_simp; done)); (try simp only [Act.put, List.setIfInBounds_toArray, List.set_cons_zero, List.set_cons_succ])) | (refine line_call (by rfl) (fun v9 h9 => ?_) (fun v9 h9 => kcl.out x v9) ?_; (focus (obtain ⟨s1, s2, s3, s4⟩ := hS.out v9 h9; go_simp; done)); (try simp only [Act.put, List.setIfInBounds_toArray, List.set_cons_zero, List.set_cons_succ])) | (refine line_call (by rfl) (fun v9 h9 => ?_) (fun v9 h9 => ks.out v9 h9) ?_; (focus (obtain ⟨s1, s2, s3, s4⟩ := hS.out v9 h9; go_simp; done)); (try simp only [Act.put, List.setIfInBounds_toArray, List.set_cons_zero, List.set_cons_succ])))))
                    refine line_done (soon_nil (fun z gz => ?_))
                    have gF := Lib.hid (Grow.trans _ _ _ gyd.out gz)
                    clear hS ks gyd gz
                    go_wp2
                    go_roundw
                    case rel => exact ⟨q + 1, by go_num, by omega, gF⟩
                    case measure => simp [RowKit.intOf]; omega
                  · have hzq : ¬ (q : Int) < (i1.length : Int) := by omega
                    have gF := Lib.hid (Grow.trans _ _ _ gv.out gc.out)
                    clear gv gc
                    go_wp2
                    go_roundw
                    case rel => exact ⟨i + 1, by go_num, by omega, gF⟩
                    case measure => simp [RowKit.intOf]; omega
        · have hzi : ¬ (i : Int) < (NS.length : Int) := by omega
          have gF : Below w.heap.size w wr := Grow.trans _ _ _ G6 ga.out
          clear ga
          go_wp2
          go_ret
          exact ⟨rfl, gF⟩
end Go.Proofs.YtfjplmbknegidaaGreatDoor
end
