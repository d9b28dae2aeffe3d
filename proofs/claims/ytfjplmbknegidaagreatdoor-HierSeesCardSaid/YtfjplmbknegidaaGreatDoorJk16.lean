/-
  Texts of the proof, joined: each says at its head what it proves.
-/
import Derived.Test.YtfjplmbknegidaaGreatDoorJk13
import Derived.Test.YtfjplmbknegidaaGreatDoorJk15
import Derived.Test.YtfjplmbknegidaaGreatDoorJk2
import Derived.Test.YtfjplmbknegidaaGreatDoorShelf
import Derived.Test.YtfjplmbknegidaaGreatDoorJk3
import Derived.Deep.RegionHeld3
import Derived.RegionTactic
import Derived.Deep.MidRow
section
/-
  Walks of chapter 6's Find, Names, known.
-/
set_option linter.unusedVariables false
set_option linter.unusedSimpArgs false
namespace Go.Proofs.YtfjplmbknegidaaGreatDoor
open Go.RowKit Go.Lib Go.Maps

theorem own_lower {w : World} {b b' : Nat} {e : TypeId} {size n : Nat} {v : Value} {xs : List Value} (h : w.ownsRow b' e size v n xs) (hb : b ≤ b') : w.ownsRow b e size v n xs :=
  ⟨h.1, h.2.imp id (fun ⟨g, cap, cur, hv, hg, r⟩ => ⟨g, cap, cur, hv, Nat.le_trans hb hg, r⟩)⟩
theorem clone_any (A : Option Addr) (c : Nat) (l : List ByteArray) (w : World) (h : RdL Sp.strC w A l) (hl : l.length ≤ 100000) :
    Calls Tryz.prog 44 #[.slice A l.length c] w fun e w' => ∃ A' c', e = .returned (.slice A' l.length c') ∧ w'.ownsRow w.heap.size 9 1 (.slice A' l.length c') l.length (l.flatMap Sp.strC) ∧ Below w.heap.size w w' := by
  cases A with
  | none =>
    have h0 : l = [] := by
      cases l with
      | nil => rfl
      | cons x l => obtain ⟨b, o, ha, _⟩ := h.2 (by simp); cases ha
    subst h0
    refine (Tryz.slices_Clone_string_nil 0 c w).mono ?_
    rintro e w' ⟨rfl, rfl⟩
    exact ⟨none, 0, rfl, ⟨rfl, .inl ⟨rfl, rfl⟩⟩, Below.refl _ _⟩
  | some a =>
    by_cases h0 : l = []
    · subst h0
      refine (Tryz.slices_Clone_string_zero a c w).mono ?_
      rintro e w' ⟨v', rfl, ho, _, hb⟩
      obtain ⟨A', c', rfl⟩ := own_sl ho
      exact ⟨A', c', rfl, ho, hb⟩
    · obtain ⟨b, o, ha, hr⟩ := h.2 (List.length_pos_iff.2 h0)
      obtain rfl : a = ⟨b, o, none⟩ := Option.some.inj ha
      have hc : ∀ j, j < l.length → w.cell? ⟨b, o + j, none⟩ = some (.string (l.getD j ByteArray.empty)) := fun j hj => by
        have := rdL_get 1 Sp.strC_len hr hj 0 (by decide) (v := .string l[j]) rfl
        rw [List.getD_eq_getElem?_getD, List.getElem?_eq_getElem hj]
        simpa using this
      refine (Tryz.slices_Clone_string b o l.length c l w (Nat.le_refl _) (by omega) hc).mono ?_
      rintro e w' ⟨v', rfl, ho, _, hb⟩
      rw [List.take_length, ← Sp.strC_flat] at ho
      obtain ⟨A', c', rfl⟩ := own_sl ho
      exact ⟨A', c', rfl, ho, hb⟩

set_option maxHeartbeats 4000000 in
set_option maxRecDepth 100000 in
theorem names_any (w : World) (tb mb : Nat) (A : Option Addr) (c : Nat) (L : List Sp.ClP) (hH : HTab w tb mb A c L) (hL : L.length ≤ 10000) :
    Calls Tryz.prog 23 #[.pointer (some ⟨tb, 0, none⟩)] w fun e w' => ∃ A' c', e = .returned (.slice A' L.length c') ∧ w'.ownsRow w.heap.size 9 1 (.slice A' L.length c') L.length ((L.map (·.1.name)).flatMap Sp.strC) ∧ Below w.heap.size w w' := by
  obtain ⟨c0, f0⟩ := blk_cell hH.box 0 (.slice A L.length c) rfl
  have kc := clone_any A c (L.map (·.1.name)) w hH.names (by rw [List.length_map]; omega)
  rw [List.length_map] at kc
  have kc := Lib.hid kc
  clear hH
  go_enter Tryz.func23, Tryz.ntmps23
  go_wp2_with fail
  refine kc.out.mono ?_
  rintro e w' ⟨A', c', rfl, ho, hb⟩
  clear kc
  have ho := Lib.hid ho
  go_wp2
  go_ret
  exact ⟨A', c', rfl, ho.out, hb⟩

set_option maxHeartbeats 4000000 in
set_option maxRecDepth 100000 in
theorem hknown_any (w : World) (tb mb : Nat) (A : Option Addr) (c : Nat) (L : List Sp.ClP) (d : Int) (n : ByteArray) (hH : HTab w tb mb A c L) (hs : n.size ≤ 1099511627776) (hT : Tabs w) :
    Calls Tryz.prog 34 #[.pointer (some ⟨tb, 0, none⟩), Sp.tyV (d, n)] w fun e w' => e = .returned (.bool (Sp.knownS (L.map (·.1)) (d, n))) ∧ Below w.heap.size w w' := by
  have kw := Lib.hid (fun W hT => write_any d n W hs hT)
  have HE := Lib.hid (show Sp.knownS (L.map (·.1)) (d, n) = _ by rw [Sp.knownS])
  have hw := Lib.hid (show (Sp.writeS (d, n)).2 = if Sp.rightS (d, n) = true then 0 else 9 by rw [Sp.writeS]; split <;> rfl)
  simp only at HE
  rw [← Sp.findP_isSome] at HE
  generalize Sp.knownS (L.map (·.1)) (d, n) = R at *
  generalize Sp.rightS (d, n) = T at *
  generalize Sp.writeS (d, n) = WR at *
  obtain ⟨ws, we⟩ := WR
  simp only at hw kw
  unfold Sp.tyV at kw ⊢
  simp only at kw ⊢
  obtain ⟨m, hm⟩ : ∃ m, (Sp.findP L n).getD Sp.zP = m := ⟨_, rfl⟩
  obtain ⟨⟨nm, su, ifs, b1, b2, b3, at_⟩, mA, mc⟩ := m
  have hv := Lib.hid (show Sp.clV ((Sp.findP L n).getD Sp.zP) = .agg #[.string nm, .string su, .slice mA ifs.length mc, .bool b1, .bool b2, .bool b3, .int .i64 at_] by rw [hm]; rfl)
  clear hm
  have hb1 := (Below.refl w.heap.size w).alloc (Nat.le_refl _) (.cells #[.int .i64 d, .string n] 25)
  have hK := Lib.hid (blk_new w (.cells #[.int .i64 d, .string n] 25))
  go_enter Tryz.func34, Tryz.ntmps34
  go_wp2_with fail
  refine (kw.out _ (hT.below hb1)).mono ?_
  rintro e w1 ⟨rfl, hb2⟩
  have hK1 := Lib.hid (blk_below hK.out hb2)
  have hB1 := Lib.hid (below_then hb1 hb1.size hb2)
  have hH1 := Lib.hid (hH.below hB1.out)
  clear kw hb2 hb1 hK hH hT
  have ha1 := (look_cl (mapV_drew hH1.out.mp) n (by unfold maxLen; omega)).1
  have ha2 := (look_cl (mapV_drew (mapV_alloc hH1.out.mp (.cells #[.string ⟨#[]⟩, .string ⟨#[]⟩, .slice none 0 0, .bool false, .bool false, .bool false, .int .i64 0] 44))) n (by unfold maxLen; omega)).1
  rw [hv.out] at ha1 ha2
  obtain ⟨c1, f1⟩ := blk_cell hH1.out.box 1 (.map (some mb)) rfl
  obtain ⟨d1, g1⟩ := blk_cell hK1.out 1 (.string n) rfl
  have hl2 := blk_lt hK1.out
  have hl3 := blk_lt hH1.out.box
  go_upto_region 2 with fail
  generalize hfs : (Sp.findP L n).isSome = fs at *
  have hfs := Lib.hid hfs
  have hbw := Lib.hid (hB1.out.alloc hB1.out.size (.cells #[.string nm, .string su, .slice mA ifs.length mc, .bool b1, .bool b2, .bool b3, .int .i64 at_] 44)).drew
  go_region
  all_goals
    cases T with
    | false =>
      have hwe : we = 9 := by rw [hw.out, if_neg (by simp)]
      have hR : R = false := by rw [HE.out]; rfl
      subst hwe hR
      clear ha1 ha2 hw HE
      go_wp2
      go_ret
      exact ⟨rfl, hbw.out⟩
    | true =>
      have hwe : we = 0 := by rw [hw.out, if_pos rfl]
      subst hwe
      cases fs with
      | true =>
        have hR : R = true := by rw [HE.out]; simp
        subst hR
        clear ha1 ha2 hw HE
        go_wp2
        go_ret
        exact ⟨rfl, hbw.out⟩
      | false =>
        have hR : R = (n.toList == []) := by rw [HE.out, show ([] : List UInt8) = (⟨#[]⟩ : ByteArray).toList by decide +kernel, bytes_eqb]; simp
        subst hR
        clear ha1 ha2 hw HE
        cases hn0 : (n.toList == []) with
        | true =>
          go_wp2
          go_ret
          exact ⟨by first | rfl | simp [hn0], hbw.out⟩
        | false =>
          go_wp2
          go_ret
          exact ⟨by first | rfl | simp [hn0], hbw.out⟩

theorem cl_load {w : World} {b : Nat} {c0 c1 c2 c3 c4 c5 c6 : Value} {T : TypeId} (h : w.heap[b]? = some (.cells #[c0, c1, c2, c3, c4, c5, c6] T (0, 0))) : (loadVar 44 ⟨b, 0, none⟩).run Tryz.prog w = .ok (.agg #[c0, c1, c2, c3, c4, c5, c6]) w :=
  run_loadVar_mid w b 0 44 [c0, c1, c2, c3, c4, c5, c6] _ (fun j v hj => by rw [Nat.zero_add]; exact (blk_cell h j v (by rw [← Array.getElem?_toList]; exact hj)).1) Tryz.underlying44 rfl (by kernel_rfl)
theorem cells7 {w : World} {b : Nat} {c0 c1 c2 c3 c4 c5 c6 : Value} {T : TypeId} (h : w.heap[b]? = some (.cells #[c0, c1, c2, c3, c4, c5, c6] T (0, 0))) :
    w.cell? ⟨b, 0, none⟩ = some c0 ∧ w.cell? ⟨b, 1, none⟩ = some c1 ∧ w.cell? ⟨b, 2, none⟩ = some c2 ∧ w.cell? ⟨b, 3, none⟩ = some c3 ∧ w.cell? ⟨b, 4, none⟩ = some c4 ∧ w.cell? ⟨b, 5, none⟩ = some c5 ∧ w.cell? ⟨b, 6, none⟩ = some c6 :=
  ⟨(blk_cell h 0 _ rfl).1, (blk_cell h 1 _ rfl).1, (blk_cell h 2 _ rfl).1, (blk_cell h 3 _ rfl).1, (blk_cell h 4 _ rfl).1, (blk_cell h 5 _ rfl).1, (blk_cell h 6 _ rfl).1⟩
theorem frz7 {w : World} {b : Nat} {c0 c1 c2 c3 c4 c5 c6 : Value} {T : TypeId} (h : w.heap[b]? = some (.cells #[c0, c1, c2, c3, c4, c5, c6] T (0, 0))) :
    w.frozen? ⟨b, 0, none⟩ = false ∧ w.frozen? ⟨b, 1, none⟩ = false ∧ w.frozen? ⟨b, 2, none⟩ = false ∧ w.frozen? ⟨b, 3, none⟩ = false ∧ w.frozen? ⟨b, 4, none⟩ = false ∧ w.frozen? ⟨b, 5, none⟩ = false ∧ w.frozen? ⟨b, 6, none⟩ = false :=
  ⟨(blk_cell h 0 _ rfl).2, (blk_cell h 1 _ rfl).2, (blk_cell h 2 _ rfl).2, (blk_cell h 3 _ rfl).2, (blk_cell h 4 _ rfl).2, (blk_cell h 5 _ rfl).2, (blk_cell h 6 _ rfl).2⟩

set_option maxHeartbeats 4000000 in
set_option maxRecDepth 100000 in
theorem hfind_any (w : World) (tb mb : Nat) (A : Option Addr) (c : Nat) (L : List Sp.ClP) (s : ByteArray) (hH : HTab w tb mb A c L) (hs : s.size ≤ 1099511627776) :
    Calls Tryz.prog 18 #[.pointer (some ⟨tb, 0, none⟩), .string s] w fun e w' => ∃ A' c', e = .returned (.tuple #[Sp.clV (Sp.getC (L.map (·.1)) s, A', c'), .bool (Sp.findC (L.map (·.1)) s).isSome]) ∧ w'.ownsRow w.heap.size 9 1 (.slice A' (Sp.getC (L.map (·.1)) s).ifaces.length c') (Sp.getC (L.map (·.1)) s).ifaces.length ((Sp.getC (L.map (·.1)) s).ifaces.flatMap Sp.strC) ∧ Below w.heap.size w w' := by
  have T1 := hH.told s
  rw [← Sp.findP_isSome]
  generalize hfs : (Sp.findP L s).isSome = fs at *
  have hfs := Lib.hid hfs
  obtain ⟨m, hm⟩ : ∃ m, (Sp.findP L s).getD Sp.zP = m := ⟨_, rfl⟩
  rw [hm] at T1
  obtain ⟨⟨nm, su, ifs, b1, b2, b3, at_⟩, mA, mc⟩ := m
  have hv := Lib.hid (show Sp.clV ((Sp.findP L s).getD Sp.zP) = .agg #[.string nm, .string su, .slice mA ifs.length mc, .bool b1, .bool b2, .bool b3, .int .i64 at_] by rw [hm]; rfl)
  clear hm
  obtain ⟨t1, t2, t3, t4, t5, t6, t7⟩ := T1
  rw [← t1]
  simp only at t2 t7
  unfold Sp.clV
  simp only
  have kc := Lib.hid (fun W (hb : Below w.heap.size w W) => clone_any mA mc ifs W (rdL_below t2 hb) (by omega))
  have hZ1 := Lib.hid (blk_new w (.cells #[.string ⟨#[]⟩, .string ⟨#[]⟩, .slice none 0 0, .bool false, .bool false, .bool false, .int .i64 0] 44))
  have hb1 := (Below.refl w.heap.size w).alloc (Nat.le_refl _) (.cells #[.string ⟨#[]⟩, .string ⟨#[]⟩, .slice none 0 0, .bool false, .bool false, .bool false, .int .i64 0] 44)
  have hH1 := Lib.hid (hH.below hb1)
  have hsm : s.size ≤ maxLen := by unfold maxLen; omega
  have hsm := Lib.hid hsm
  clear t1 t2 t3 t4 t5 t6 hH
  go_enter Tryz.func18, Tryz.ntmps18
  go_upto_region 1 with fail
  have hb2 := hb1.alloc hb1.size (.cells #[.string nm, .string su, .slice mA ifs.length mc, .bool b1, .bool b2, .bool b3, .int .i64 at_] 44)
  have hZ2 := Lib.hid (blk_old (o := .cells #[.string nm, .string su, .slice mA ifs.length mc, .bool b1, .bool b2, .bool b3, .int .i64 at_] 44) hZ1.out)
  have hK2 := Lib.hid (blk_new (w.alloc (.cells #[.string ⟨#[]⟩, .string ⟨#[]⟩, .slice none 0 0, .bool false, .bool false, .bool false, .int .i64 0] 44)) (.cells #[.string nm, .string su, .slice mA ifs.length mc, .bool b1, .bool b2, .bool b3, .int .i64 at_] 44))
  rw [show (w.alloc (.cells #[.string ⟨#[]⟩, .string ⟨#[]⟩, .slice none 0 0, .bool false, .bool false, .bool false, .int .i64 0] 44)).heap.size = w.heap.size + 1 by simp] at hK2
  obtain ⟨c1, f1⟩ := blk_cell hH1.out.box 1 (.map (some mb)) rfl
  have hlb := blk_lt hH1.out.box
  go_upto_region 2 with (at_lookup; refine wpList_lookup_cl_ok _ rfl _ _ rfl mb 100000 L rfl hH1.out.mp s hsm.out rfl _ hv.out fs hfs.out ?_)
  generalize (w.alloc (.cells #[.string ⟨#[]⟩, .string ⟨#[]⟩, .slice none 0 0, .bool false, .bool false, .bool false, .int .i64 0] 44)).alloc (.cells #[.string nm, .string su, .slice mA ifs.length mc, .bool b1, .bool b2, .bool b3, .int .i64 at_] 44) = W2 at *
  have k2 := Lib.hid (kc.out W2 hb2)
  obtain ⟨e0, e1, e2, e3, e4, e5, e6⟩ := cells7 hK2.out
  have hl2 := blk_lt hK2.out
  clear c1 f1 hlb kc hZ1 hH1 hv hfs
  go_wp2_with fail
  refine k2.out.mono ?_
  rintro e w3 ⟨A', c', rfl, ho, hb3⟩
  have hK3 := Lib.hid (blk_below hK2.out hb3)
  have hZ3 := Lib.hid (blk_below hZ2.out hb3)
  have hB3 := Lib.hid (below_then hb2 hb2.size hb3)
  have hO3 := Lib.hid ho
  clear e0 e1 e2 e3 e4 e5 e6 ho hb1 hb3 k2 hZ2 hK2
  obtain ⟨e0, e1, e2, e3, e4, e5, e6⟩ := cells7 hK3.out
  obtain ⟨f0, f1, f2, f3, f4, f5, f6⟩ := frz7 hK3.out
  obtain ⟨y0, y1, y2, y3, y4, y5, y6⟩ := cells7 hZ3.out
  obtain ⟨z0, z1, z2, z3, z4, z5, z6⟩ := frz7 hZ3.out
  have hl3 := blk_lt hK3.out
  have hne : w.heap.size ≠ w.heap.size + 1 := by omega
  have hK4 := Lib.hid (show (w3.setCell ⟨w.heap.size + 1, 2, none⟩ (.slice A' ifs.length c')).heap[w.heap.size + 1]? = some (.cells #[.string nm, .string su, .slice A' ifs.length c', .bool b1, .bool b2, .bool b3, .int .i64 at_] 44 (0, 0)) from blk_set (i := 2) hK3.out (.slice A' ifs.length c'))
  have hZ4 := Lib.hid (blk_other hZ3.out ⟨w.heap.size + 1, 2, none⟩ (.slice A' ifs.length c') hne)
  have hB4 := Lib.hid (Below.setCell (p := ⟨w.heap.size + 1, 2, none⟩) hB3.out (by show w.heap.size ≤ w.heap.size + 1; omega) (.slice A' ifs.length c'))
  have hO4 := Lib.hid (own_set hO3.out (b := w.heap.size + 1) (o := 2) (fun q hq => by have := own_base hO3.out q hq; omega) (.slice A' ifs.length c'))
  go_upto_region 3 with fail
  generalize w3.setCell ⟨w.heap.size + 1, 2, none⟩ (.slice A' ifs.length c') = w4 at *
  clear e0 e1 e2 e3 e4 e5 e6 f0 f1 f2 f3 f4 f5 f6 y0 y1 y2 y3 y4 y5 y6 z0 z1 z2 z3 z4 z5 z6 hK3 hZ3 hB3 hO3 hl3
  obtain ⟨e0, e1, e2, e3, e4, e5, e6⟩ := cells7 hK4.out
  obtain ⟨y0, y1, y2, y3, y4, y5, y6⟩ := cells7 hZ4.out
  obtain ⟨z0, z1, z2, z3, z4, z5, z6⟩ := frz7 hZ4.out
  have hlz := blk_lt hZ4.out
  have hlk := blk_lt hK4.out
  have hfin := Lib.hid (blk_set (i := 6) (blk_set (i := 5) (blk_set (i := 4) (blk_set (i := 3) (blk_set (i := 2) (blk_set (i := 1) (blk_set (i := 0) hZ4.out (.string nm)) (.string su)) (.slice A' ifs.length c')) (.bool b1)) (.bool b2)) (.bool b3)) (.int .i64 at_))
  have hKf := Lib.hid ((((((((Keeps.refl (fun i => i = w.heap.size) w4).setCell (a := ⟨w.heap.size, 0, none⟩) (.inl rfl) (.string nm)).setCell (a := ⟨w.heap.size, 1, none⟩) (.inl rfl) (.string su)).setCell (a := ⟨w.heap.size, 2, none⟩) (.inl rfl) (.slice A' ifs.length c')).setCell (a := ⟨w.heap.size, 3, none⟩) (.inl rfl) (.bool b1)).setCell (a := ⟨w.heap.size, 4, none⟩) (.inl rfl) (.bool b2)).setCell (a := ⟨w.heap.size, 5, none⟩) (.inl rfl) (.bool b3)).setCell (a := ⟨w.heap.size, 6, none⟩) (.inl rfl) (.int .i64 at_))
  have hO5 := Lib.hid (hKf.out.row hO4.out (fun k hk q => by have := own_base hO4.out k hk; omega))
  have hB5 := Lib.hid (hB4.out.trans (hKf.out.below (by omega) (fun i q => by omega)))
  clear hB4 hO4 hKf hK4 hZ4 hlz hne
  go_wp2
  (try simp only [Exit.inBlock, Exit.then])
  refine bodyPost_ret (results_ct rfl _ _ _ rfl (cl_load hfin.out)) rfl ?_
  exact ⟨A', c', rfl, own_lower hO5.out (by omega), hB5.out⟩
end Go.Proofs.YtfjplmbknegidaaGreatDoor
end
section
/-
  The region of Chain whose order is drawn: a look into the table stored over the class that it began with.
-/
set_option linter.unusedVariables false
set_option linter.unusedSimpArgs false
namespace Go.Proofs.YtfjplmbknegidaaGreatDoor
open Go.RowKit Go.Lib Go.Maps

theorem evalS (a : Act) (i : Nat) (v : Value) (h : i < a.tmps.size) : (a.put (some i) v).eval (.tmp i) = v := by
  simp [Act.eval, Act.put, h]
theorem evalO (a : Act) (i j : Nat) (v : Value) (h : i ≠ j) : (a.put (some i) v).eval (.tmp j) = a.eval (.tmp j) := by
  simp [Act.eval, Act.put, Array.getElem?_setIfInBounds, h]
theorem putSz (a : Act) (i : Nat) (v : Value) : (a.put (some i) v).tmps.size = a.tmps.size := by
  simp [Act.put]
theorem wp_of_run {P : Program} {o : Oper} {a : Act} {w w' : World} {v : Value} {K : Act → World → Prop} {Q : Exit → Act → World → Prop} (h : (execOp a.eval o).run P w = .ok (.value v) w') (hK : K (a.put o.dst v) w') : o.wp P a w K Q := by
  unfold Oper.wp
  rw [h]
  exact hK
def chO0 : Oper := { dst := some 19, op := Go.Op.move (Go.Operand.tmp 0), type := 27, pos := "hier.go:145", after := #[], guard := none }
def chO1 : Oper := { dst := some 20, op := Go.Op.nilCheck (Go.Operand.tmp 19), type := 0, pos := "hier.go:145", after := #[{ on := 0, ground := Go.Ground.data }], guard := none }
def chO2 : Oper := { dst := some 21, op := Go.Op.fieldAddr 83 (Go.Operand.tmp 20) 1, type := 0, pos := "hier.go:145", after := #[{ on := 1, ground := Go.Ground.data }], guard := none }
def chO3 : Oper := { dst := some 22, op := Go.Op.load 81 (Go.Operand.tmp 21), type := 81, pos := "hier.go:145", after := #[{ on := 2, ground := Go.Ground.data }], guard := none }
def chO4 : Oper := { dst := some 23, op := Go.Op.fieldAddr 44 (Go.Operand.tmp 6) 1, type := 0, pos := "hier.go:145", after := #[], guard := none }
def chO5 : Oper := { dst := some 24, op := Go.Op.load 9 (Go.Operand.tmp 23), type := 9, pos := "hier.go:145", after := #[{ on := 4, ground := Go.Ground.data }], guard := none }
def chO6 : Oper := { dst := some 25, op := Go.Op.lookup 81 (Go.Operand.tmp 22) (Go.Operand.tmp 24) true, type := 45, pos := "hier.go:145", after := #[{ on := 3, ground := Go.Ground.data }, { on := 5, ground := Go.Ground.data }], guard := none }
def chO7 : Oper := { dst := some 18, op := Go.Op.move (Go.Operand.tmp 25), type := 45, pos := "hier.go:145", after := #[{ on := 6, ground := Go.Ground.data }], guard := none }
def chO8 : Oper := { dst := some 26, op := Go.Op.extract (Go.Operand.tmp 18) 0, type := 44, pos := "hier.go:145", after := #[{ on := 7, ground := Go.Ground.data }], guard := none }
def chO9 : Oper := { dst := some 27, op := Go.Op.extract (Go.Operand.tmp 18) 1, type := 4, pos := "hier.go:145", after := #[{ on := 7, ground := Go.Ground.data }, { on := 10, ground := Go.Ground.gcOnly Go.Departure.lateStores }], guard := none }
def chO10 : Oper := { dst := none, op := Go.Op.store 44 (Go.Operand.tmp 6) (Go.Operand.tmp 26), type := 0, pos := "hier.go:145", after := #[{ on := 8, ground := Go.Ground.data }, { on := 0, ground := Go.Ground.phase }, { on := 1, ground := Go.Ground.phase }, { on := 2, ground := Go.Ground.phase }, { on := 3, ground := Go.Ground.phase }, { on := 4, ground := Go.Ground.phase }, { on := 5, ground := Go.Ground.phase }, { on := 6, ground := Go.Ground.phase }, { on := 7, ground := Go.Ground.phase }, { on := 8, ground := Go.Ground.phase }, { on := 9, ground := Go.Ground.textOnly Go.Departure.lateStores }], guard := none }
def chO11 : Oper := { dst := some 7, op := Go.Op.assign (Go.Operand.tmp 27), type := 4, pos := "hier.go:145", after := #[{ on := 9, ground := Go.Ground.data }, { on := 10, ground := Go.Ground.chain }, { on := 0, ground := Go.Ground.phase }, { on := 1, ground := Go.Ground.phase }, { on := 2, ground := Go.Ground.phase }, { on := 3, ground := Go.Ground.phase }, { on := 4, ground := Go.Ground.phase }, { on := 5, ground := Go.Ground.phase }, { on := 6, ground := Go.Ground.phase }, { on := 7, ground := Go.Ground.phase }, { on := 8, ground := Go.Ground.phase }, { on := 9, ground := Go.Ground.phase }, { on := 10, ground := Go.Ground.phase }], guard := none }
def chOps : Array Oper := #[chO0, chO1, chO2, chO3, chO4, chO5, chO6, chO7, chO8, chO9, chO10, chO11]

set_option maxHeartbeats 4000000 in
set_option maxRecDepth 100000 in
theorem chain_region (a : Act) (w : World) (Q : Exit → Act → World → Prop) (tb mb nb : Nat) (L : List Sp.ClP) (su : ByteArray) (m : Sp.ClP) (fs : Bool) (c0 c2 c3 c4 c5 c6 : Value)
    (hQ : ∀ c (a : Act) d v w, Q (.panic c) (Act.put a d v) w → Q (.panic c) a w)
    (h0 : a.eval (.tmp 0) = .pointer (some ⟨tb, 0, none⟩)) (h6 : a.eval (.tmp 6) = .pointer (some ⟨nb, 0, none⟩)) (hsz : 34 < a.tmps.size)
    (hT : w.cell? ⟨tb, 1, none⟩ = some (.map (some mb))) (hM : MapV Tryz.prog w 9 mb 100000 (Sp.fH L))
    (hN : w.heap[nb]? = some (.cells #[c0, .string su, c2, c3, c4, c5, c6] 44 (0, 0))) (hs : su.size ≤ maxLen)
    (hm : (Sp.findP L su).getD Sp.zP = m) (hf : (Sp.findP L su).isSome = fs) (hne : tb ≠ nb)
    (h : ∀ w', w'.heap[nb]? = some (.cells #[.string m.1.name, .string m.1.super, .slice m.2.1 m.1.ifaces.length m.2.2, .bool m.1.iface, .bool m.1.abs, .bool m.1.own, .int .i64 m.1.at_] 44 (0, 0)) → Keeps (fun k => k = nb) w w' →
      Q .normal ((((((((((((a.put (some 19) (.pointer (some ⟨tb, 0, none⟩))).put (some 20) (.pointer (some ⟨tb, 0, none⟩))).put (some 21) (.pointer (some ⟨tb, 1, none⟩))).put (some 22) (.map (some mb))).put (some 23) (.pointer (some ⟨nb, 1, none⟩))).put (some 24) (.string su)).put (some 25) (.tuple #[.agg #[.string m.1.name, .string m.1.super, .slice m.2.1 m.1.ifaces.length m.2.2, .bool m.1.iface, .bool m.1.abs, .bool m.1.own, .int .i64 m.1.at_], .bool fs])).put (some 18) (.tuple #[.agg #[.string m.1.name, .string m.1.super, .slice m.2.1 m.1.ifaces.length m.2.2, .bool m.1.iface, .bool m.1.abs, .bool m.1.own, .int .i64 m.1.at_], .bool fs])).put (some 26) (.agg #[.string m.1.name, .string m.1.super, .slice m.2.1 m.1.ifaces.length m.2.2, .bool m.1.iface, .bool m.1.abs, .bool m.1.own, .int .i64 m.1.at_])).put (some 27) (.bool fs)).put none undef).put (some 7) (.bool fs)) w') :
    (Code.region 4 chOps true).wp Tryz.prog Q a w := by
  have hNd : w.drew.heap[nb]? = some (.cells #[c0, .string su, c2, c3, c4, c5, c6] 44 (0, 0)) := hN
  have hlook : ∀ w' : World, MapV Tryz.prog w' 9 mb 100000 (Sp.fH L) → (Instr.lookup 81 (.map (some mb)) (.string su) true).run Tryz.prog w' = .ok (.tuple #[.agg #[.string m.1.name, .string m.1.super, .slice m.2.1 m.1.ifaces.length m.2.2, .bool m.1.iface, .bool m.1.abs, .bool m.1.own, .int .i64 m.1.at_], .bool fs]) w' := fun w' hw => by
    rw [(look_cl hw su hs).1, hm, hf]
    rfl
  have hS : w.drew.cell? ⟨tb, 1, none⟩ = some (.map (some mb)) ∧ MapV Tryz.prog w.drew 9 mb 100000 (Sp.fH L) := ⟨hT, mapV_drew hM⟩
  refine wp_region_held_drew (S := fun w' => w'.cell? ⟨tb, 1, none⟩ = some (.map (some mb)) ∧ MapV Tryz.prog w' 9 mb 100000 (Sp.fH L)) (by kernel_rfl) hS (fun _ => ?_)
  refine wpAnyH_take (i := 0) (oi := chO0) (v := (.pointer (some ⟨tb, 0, none⟩))) rfl (by kernel_rfl) (by kernel_rfl) (by kernel_rfl) (fun _ _ _ h => hQ _ _ _ _ _ h) (Or.inl ⟨rfl, fun w' hw => ?_⟩) hS ?_
  ·
    have e0 : a.eval (.tmp 0) = (.pointer (some ⟨tb, 0, none⟩)) := by
      show a.eval (.tmp 0) = _
      skip
      exact h0
    simp only [execOp, chO0, e0]
    rfl
  refine wpAnyH_take (i := 1) (oi := chO1) (v := (.pointer (some ⟨tb, 0, none⟩))) rfl (by kernel_rfl) (by kernel_rfl) (by kernel_rfl) (fun _ _ _ h => hQ _ _ _ _ _ h) (Or.inl ⟨rfl, fun w' hw => ?_⟩) hS ?_
  ·
    have e0 : (a.put chO0.dst (.pointer (some ⟨tb, 0, none⟩))).eval (.tmp 19) = (.pointer (some ⟨tb, 0, none⟩)) := by
      show (a.put (some 19) (.pointer (some ⟨tb, 0, none⟩))).eval (.tmp 19) = _
      skip
      exact evalS _ _ _ (by first | omega | (simp only [putSz]; omega))
    simp only [execOp, chO1, e0]
    rfl
  refine wpAnyH_take (i := 2) (oi := chO2) (v := (.pointer (some ⟨tb, 1, none⟩))) rfl (by kernel_rfl) (by kernel_rfl) (by kernel_rfl) (fun _ _ _ h => hQ _ _ _ _ _ h) (Or.inl ⟨rfl, fun w' hw => ?_⟩) hS ?_
  ·
    have e0 : ((a.put chO0.dst (.pointer (some ⟨tb, 0, none⟩))).put chO1.dst (.pointer (some ⟨tb, 0, none⟩))).eval (.tmp 20) = (.pointer (some ⟨tb, 0, none⟩)) := by
      show ((a.put (some 19) (.pointer (some ⟨tb, 0, none⟩))).put (some 20) (.pointer (some ⟨tb, 0, none⟩))).eval (.tmp 20) = _
      skip
      exact evalS _ _ _ (by first | omega | (simp only [putSz]; omega))
    simp only [execOp, chO2, e0]
    go_simp
  refine wpAnyH_take (i := 3) (oi := chO3) (v := (.map (some mb))) rfl (by kernel_rfl) (by kernel_rfl) (by kernel_rfl) (fun _ _ _ h => hQ _ _ _ _ _ h) (Or.inl ⟨rfl, fun w' hw => ?_⟩) hS ?_
  ·
    have e0 : (((a.put chO0.dst (.pointer (some ⟨tb, 0, none⟩))).put chO1.dst (.pointer (some ⟨tb, 0, none⟩))).put chO2.dst (.pointer (some ⟨tb, 1, none⟩))).eval (.tmp 21) = (.pointer (some ⟨tb, 1, none⟩)) := by
      show (((a.put (some 19) (.pointer (some ⟨tb, 0, none⟩))).put (some 20) (.pointer (some ⟨tb, 0, none⟩))).put (some 21) (.pointer (some ⟨tb, 1, none⟩))).eval (.tmp 21) = _
      skip
      exact evalS _ _ _ (by first | omega | (simp only [putSz]; omega))
    simp only [execOp, chO3, e0]
    have hw1 := hw.1
    go_simp
  refine wpAnyH_take (i := 4) (oi := chO4) (v := (.pointer (some ⟨nb, 1, none⟩))) rfl (by kernel_rfl) (by kernel_rfl) (by kernel_rfl) (fun _ _ _ h => hQ _ _ _ _ _ h) (Or.inl ⟨rfl, fun w' hw => ?_⟩) hS ?_
  ·
    have e0 : ((((a.put chO0.dst (.pointer (some ⟨tb, 0, none⟩))).put chO1.dst (.pointer (some ⟨tb, 0, none⟩))).put chO2.dst (.pointer (some ⟨tb, 1, none⟩))).put chO3.dst (.map (some mb))).eval (.tmp 6) = (.pointer (some ⟨nb, 0, none⟩)) := by
      show ((((a.put (some 19) (.pointer (some ⟨tb, 0, none⟩))).put (some 20) (.pointer (some ⟨tb, 0, none⟩))).put (some 21) (.pointer (some ⟨tb, 1, none⟩))).put (some 22) (.map (some mb))).eval (.tmp 6) = _
      rw [evalO _ _ _ _ (by decide), evalO _ _ _ _ (by decide), evalO _ _ _ _ (by decide), evalO _ _ _ _ (by decide)]
      exact h6
    simp only [execOp, chO4, e0]
    go_simp
  refine wpAnyH_ready (rs := [5]) (by kernel_rfl) (by simp) ?_
  refine AllReadyH.cons (o := chO5) rfl (fun K hK => ?_) AllReadyH.nil
  rw [if_pos (show Region.wanted chO5 (yielded chOps _) = true from rfl)]
  refine wp_of_run (v := .string su) (w' := w.drew) ?_ ?_
  ·
    have e0 : (((((a.put chO0.dst (.pointer (some ⟨tb, 0, none⟩))).put chO1.dst (.pointer (some ⟨tb, 0, none⟩))).put chO2.dst (.pointer (some ⟨tb, 1, none⟩))).put chO3.dst (.map (some mb))).put chO4.dst (.pointer (some ⟨nb, 1, none⟩))).eval (.tmp 23) = (.pointer (some ⟨nb, 1, none⟩)) := by
      show (((((a.put (some 19) (.pointer (some ⟨tb, 0, none⟩))).put (some 20) (.pointer (some ⟨tb, 0, none⟩))).put (some 21) (.pointer (some ⟨tb, 1, none⟩))).put (some 22) (.map (some mb))).put (some 23) (.pointer (some ⟨nb, 1, none⟩))).eval (.tmp 23) = _
      skip
      exact evalS _ _ _ (by first | omega | (simp only [putSz]; omega))
    have hc := (blk_cell hNd 1 (.string su) rfl).1
    simp only [execOp, chO5, e0]
    go_simp
  refine hK.out _ _ hS (fun _ => ?_)
  refine wpAnyH_take (i := 6) (oi := chO6) (v := (.tuple #[.agg #[.string m.1.name, .string m.1.super, .slice m.2.1 m.1.ifaces.length m.2.2, .bool m.1.iface, .bool m.1.abs, .bool m.1.own, .int .i64 m.1.at_], .bool fs])) rfl (by kernel_rfl) (by kernel_rfl) (by kernel_rfl) (fun _ _ _ h => hQ _ _ _ _ _ h) (Or.inl ⟨rfl, fun w' hw => ?_⟩) hS ?_
  ·
    have e0 : ((((((a.put chO0.dst (.pointer (some ⟨tb, 0, none⟩))).put chO1.dst (.pointer (some ⟨tb, 0, none⟩))).put chO2.dst (.pointer (some ⟨tb, 1, none⟩))).put chO3.dst (.map (some mb))).put chO4.dst (.pointer (some ⟨nb, 1, none⟩))).put chO5.dst (.string su)).eval (.tmp 22) = (.map (some mb)) := by
      show ((((((a.put (some 19) (.pointer (some ⟨tb, 0, none⟩))).put (some 20) (.pointer (some ⟨tb, 0, none⟩))).put (some 21) (.pointer (some ⟨tb, 1, none⟩))).put (some 22) (.map (some mb))).put (some 23) (.pointer (some ⟨nb, 1, none⟩))).put (some 24) (.string su)).eval (.tmp 22) = _
      rw [evalO _ _ _ _ (by decide), evalO _ _ _ _ (by decide)]
      exact evalS _ _ _ (by first | omega | (simp only [putSz]; omega))
    have e1 : ((((((a.put chO0.dst (.pointer (some ⟨tb, 0, none⟩))).put chO1.dst (.pointer (some ⟨tb, 0, none⟩))).put chO2.dst (.pointer (some ⟨tb, 1, none⟩))).put chO3.dst (.map (some mb))).put chO4.dst (.pointer (some ⟨nb, 1, none⟩))).put chO5.dst (.string su)).eval (.tmp 24) = (.string su) := by
      show ((((((a.put (some 19) (.pointer (some ⟨tb, 0, none⟩))).put (some 20) (.pointer (some ⟨tb, 0, none⟩))).put (some 21) (.pointer (some ⟨tb, 1, none⟩))).put (some 22) (.map (some mb))).put (some 23) (.pointer (some ⟨nb, 1, none⟩))).put (some 24) (.string su)).eval (.tmp 24) = _
      skip
      exact evalS _ _ _ (by first | omega | (simp only [putSz]; omega))
    simp only [execOp, chO6, e0, e1]
    simp only [Sem.run_bind, hlook _ hw.2, Result.andThen_ok, Sem.run_pure]
  refine wpAnyH_take (i := 7) (oi := chO7) (v := (.tuple #[.agg #[.string m.1.name, .string m.1.super, .slice m.2.1 m.1.ifaces.length m.2.2, .bool m.1.iface, .bool m.1.abs, .bool m.1.own, .int .i64 m.1.at_], .bool fs])) rfl (by kernel_rfl) (by kernel_rfl) (by kernel_rfl) (fun _ _ _ h => hQ _ _ _ _ _ h) (Or.inl ⟨rfl, fun w' hw => ?_⟩) hS ?_
  ·
    have e0 : (((((((a.put chO0.dst (.pointer (some ⟨tb, 0, none⟩))).put chO1.dst (.pointer (some ⟨tb, 0, none⟩))).put chO2.dst (.pointer (some ⟨tb, 1, none⟩))).put chO3.dst (.map (some mb))).put chO4.dst (.pointer (some ⟨nb, 1, none⟩))).put chO5.dst (.string su)).put chO6.dst (.tuple #[.agg #[.string m.1.name, .string m.1.super, .slice m.2.1 m.1.ifaces.length m.2.2, .bool m.1.iface, .bool m.1.abs, .bool m.1.own, .int .i64 m.1.at_], .bool fs])).eval (.tmp 25) = (.tuple #[.agg #[.string m.1.name, .string m.1.super, .slice m.2.1 m.1.ifaces.length m.2.2, .bool m.1.iface, .bool m.1.abs, .bool m.1.own, .int .i64 m.1.at_], .bool fs]) := by
      show (((((((a.put (some 19) (.pointer (some ⟨tb, 0, none⟩))).put (some 20) (.pointer (some ⟨tb, 0, none⟩))).put (some 21) (.pointer (some ⟨tb, 1, none⟩))).put (some 22) (.map (some mb))).put (some 23) (.pointer (some ⟨nb, 1, none⟩))).put (some 24) (.string su)).put (some 25) (.tuple #[.agg #[.string m.1.name, .string m.1.super, .slice m.2.1 m.1.ifaces.length m.2.2, .bool m.1.iface, .bool m.1.abs, .bool m.1.own, .int .i64 m.1.at_], .bool fs])).eval (.tmp 25) = _
      skip
      exact evalS _ _ _ (by first | omega | (simp only [putSz]; omega))
    simp only [execOp, chO7, e0]
    rfl
  refine wpAnyH_take (i := 8) (oi := chO8) (v := (.agg #[.string m.1.name, .string m.1.super, .slice m.2.1 m.1.ifaces.length m.2.2, .bool m.1.iface, .bool m.1.abs, .bool m.1.own, .int .i64 m.1.at_])) rfl (by kernel_rfl) (by kernel_rfl) (by kernel_rfl) (fun _ _ _ h => hQ _ _ _ _ _ h) (Or.inl ⟨rfl, fun w' hw => ?_⟩) hS ?_
  ·
    have e0 : ((((((((a.put chO0.dst (.pointer (some ⟨tb, 0, none⟩))).put chO1.dst (.pointer (some ⟨tb, 0, none⟩))).put chO2.dst (.pointer (some ⟨tb, 1, none⟩))).put chO3.dst (.map (some mb))).put chO4.dst (.pointer (some ⟨nb, 1, none⟩))).put chO5.dst (.string su)).put chO6.dst (.tuple #[.agg #[.string m.1.name, .string m.1.super, .slice m.2.1 m.1.ifaces.length m.2.2, .bool m.1.iface, .bool m.1.abs, .bool m.1.own, .int .i64 m.1.at_], .bool fs])).put chO7.dst (.tuple #[.agg #[.string m.1.name, .string m.1.super, .slice m.2.1 m.1.ifaces.length m.2.2, .bool m.1.iface, .bool m.1.abs, .bool m.1.own, .int .i64 m.1.at_], .bool fs])).eval (.tmp 18) = (.tuple #[.agg #[.string m.1.name, .string m.1.super, .slice m.2.1 m.1.ifaces.length m.2.2, .bool m.1.iface, .bool m.1.abs, .bool m.1.own, .int .i64 m.1.at_], .bool fs]) := by
      show ((((((((a.put (some 19) (.pointer (some ⟨tb, 0, none⟩))).put (some 20) (.pointer (some ⟨tb, 0, none⟩))).put (some 21) (.pointer (some ⟨tb, 1, none⟩))).put (some 22) (.map (some mb))).put (some 23) (.pointer (some ⟨nb, 1, none⟩))).put (some 24) (.string su)).put (some 25) (.tuple #[.agg #[.string m.1.name, .string m.1.super, .slice m.2.1 m.1.ifaces.length m.2.2, .bool m.1.iface, .bool m.1.abs, .bool m.1.own, .int .i64 m.1.at_], .bool fs])).put (some 18) (.tuple #[.agg #[.string m.1.name, .string m.1.super, .slice m.2.1 m.1.ifaces.length m.2.2, .bool m.1.iface, .bool m.1.abs, .bool m.1.own, .int .i64 m.1.at_], .bool fs])).eval (.tmp 18) = _
      skip
      exact evalS _ _ _ (by first | omega | (simp only [putSz]; omega))
    simp only [execOp, chO8, e0]
    rfl
  refine wpAnyH_take (i := 9) (oi := chO9) (v := (.bool fs)) rfl (by kernel_rfl) (by kernel_rfl) (by kernel_rfl) (fun _ _ _ h => hQ _ _ _ _ _ h) (Or.inl ⟨rfl, fun w' hw => ?_⟩) hS ?_
  ·
    have e0 : (((((((((a.put chO0.dst (.pointer (some ⟨tb, 0, none⟩))).put chO1.dst (.pointer (some ⟨tb, 0, none⟩))).put chO2.dst (.pointer (some ⟨tb, 1, none⟩))).put chO3.dst (.map (some mb))).put chO4.dst (.pointer (some ⟨nb, 1, none⟩))).put chO5.dst (.string su)).put chO6.dst (.tuple #[.agg #[.string m.1.name, .string m.1.super, .slice m.2.1 m.1.ifaces.length m.2.2, .bool m.1.iface, .bool m.1.abs, .bool m.1.own, .int .i64 m.1.at_], .bool fs])).put chO7.dst (.tuple #[.agg #[.string m.1.name, .string m.1.super, .slice m.2.1 m.1.ifaces.length m.2.2, .bool m.1.iface, .bool m.1.abs, .bool m.1.own, .int .i64 m.1.at_], .bool fs])).put chO8.dst (.agg #[.string m.1.name, .string m.1.super, .slice m.2.1 m.1.ifaces.length m.2.2, .bool m.1.iface, .bool m.1.abs, .bool m.1.own, .int .i64 m.1.at_])).eval (.tmp 18) = (.tuple #[.agg #[.string m.1.name, .string m.1.super, .slice m.2.1 m.1.ifaces.length m.2.2, .bool m.1.iface, .bool m.1.abs, .bool m.1.own, .int .i64 m.1.at_], .bool fs]) := by
      show (((((((((a.put (some 19) (.pointer (some ⟨tb, 0, none⟩))).put (some 20) (.pointer (some ⟨tb, 0, none⟩))).put (some 21) (.pointer (some ⟨tb, 1, none⟩))).put (some 22) (.map (some mb))).put (some 23) (.pointer (some ⟨nb, 1, none⟩))).put (some 24) (.string su)).put (some 25) (.tuple #[.agg #[.string m.1.name, .string m.1.super, .slice m.2.1 m.1.ifaces.length m.2.2, .bool m.1.iface, .bool m.1.abs, .bool m.1.own, .int .i64 m.1.at_], .bool fs])).put (some 18) (.tuple #[.agg #[.string m.1.name, .string m.1.super, .slice m.2.1 m.1.ifaces.length m.2.2, .bool m.1.iface, .bool m.1.abs, .bool m.1.own, .int .i64 m.1.at_], .bool fs])).put (some 26) (.agg #[.string m.1.name, .string m.1.super, .slice m.2.1 m.1.ifaces.length m.2.2, .bool m.1.iface, .bool m.1.abs, .bool m.1.own, .int .i64 m.1.at_])).eval (.tmp 18) = _
      rw [evalO _ _ _ _ (by decide)]
      exact evalS _ _ _ (by first | omega | (simp only [putSz]; omega))
    simp only [execOp, chO9, e0]
    rfl
  rw [show chO0.dst = some 19 from rfl, show chO1.dst = some 20 from rfl, show chO2.dst = some 21 from rfl, show chO3.dst = some 22 from rfl, show chO4.dst = some 23 from rfl, show chO5.dst = some 24 from rfl, show chO6.dst = some 25 from rfl, show chO7.dst = some 18 from rfl, show chO8.dst = some 26 from rfl, show chO9.dst = some 27 from rfl]
  generalize ha : ((((((((((a.put (some 19) (.pointer (some ⟨tb, 0, none⟩))).put (some 20) (.pointer (some ⟨tb, 0, none⟩))).put (some 21) (.pointer (some ⟨tb, 1, none⟩))).put (some 22) (.map (some mb))).put (some 23) (.pointer (some ⟨nb, 1, none⟩))).put (some 24) (.string su)).put (some 25) (.tuple #[.agg #[.string m.1.name, .string m.1.super, .slice m.2.1 m.1.ifaces.length m.2.2, .bool m.1.iface, .bool m.1.abs, .bool m.1.own, .int .i64 m.1.at_], .bool fs])).put (some 18) (.tuple #[.agg #[.string m.1.name, .string m.1.super, .slice m.2.1 m.1.ifaces.length m.2.2, .bool m.1.iface, .bool m.1.abs, .bool m.1.own, .int .i64 m.1.at_], .bool fs])).put (some 26) (.agg #[.string m.1.name, .string m.1.super, .slice m.2.1 m.1.ifaces.length m.2.2, .bool m.1.iface, .bool m.1.abs, .bool m.1.own, .int .i64 m.1.at_])).put (some 27) (.bool fs)) = a1 at h ⊢
  have e6 : a1.eval (.tmp 6) = .pointer (some ⟨nb, 0, none⟩) := by
    rw [← ha, evalO _ _ _ _ (by decide), evalO _ _ _ _ (by decide), evalO _ _ _ _ (by decide), evalO _ _ _ _ (by decide), evalO _ _ _ _ (by decide), evalO _ _ _ _ (by decide), evalO _ _ _ _ (by decide), evalO _ _ _ _ (by decide), evalO _ _ _ _ (by decide), evalO _ _ _ _ (by decide), h6]
  have e26 : a1.eval (.tmp 26) = .agg #[.string m.1.name, .string m.1.super, .slice m.2.1 m.1.ifaces.length m.2.2, .bool m.1.iface, .bool m.1.abs, .bool m.1.own, .int .i64 m.1.at_] := by
    rw [← ha, evalO _ _ _ _ (by decide), evalS _ _ _ (by simp only [putSz]; omega)]
  have e27 : a1.eval (.tmp 27) = .bool fs := by rw [← ha, evalS _ _ _ (by simp only [putSz]; omega)]
  refine wpAnyH_ready (rs := [10]) (by kernel_rfl) (by simp) ?_
  refine AllReadyH.cons (o := chO10) rfl (fun K hK => ?_) AllReadyH.nil
  rw [if_pos (show Region.wanted chO10 (yielded chOps a1.tmps) = true from rfl)]
  have hth : w.drew.there nb 0 7 := fun j hj => by
    rw [Nat.zero_add]
    have hj2 : j < (#[c0, .string su, c2, c3, c4, c5, c6] : Array Value).size := hj
    obtain ⟨q1, q2⟩ := blk_cell hNd j _ (Array.getElem?_eq_getElem hj2)
    exact ⟨by rw [q1]; rfl, q2⟩
  refine wp_store_mid (op := chO10) 44 (.tmp 6) (.tmp 26) rfl nb 0 #[.string m.1.name, .string m.1.super, .slice m.2.1 m.1.ifaces.length m.2.2, .bool m.1.iface, .bool m.1.abs, .bool m.1.own, .int .i64 m.1.at_] e6 e26 hth (by kernel_rfl) (by kernel_rfl) ?_
  have hW : w.drew.setCells nb 0 (#[.string m.1.name, .string m.1.super, .slice m.2.1 m.1.ifaces.length m.2.2, .bool m.1.iface, .bool m.1.abs, .bool m.1.own, .int .i64 m.1.at_] : Array Value).toList = (((((((w.drew.setCell ⟨nb, 0, none⟩ (.string m.1.name)).setCell ⟨nb, 1, none⟩ (.string m.1.super)).setCell ⟨nb, 2, none⟩ (.slice m.2.1 m.1.ifaces.length m.2.2)).setCell ⟨nb, 3, none⟩ (.bool m.1.iface)).setCell ⟨nb, 4, none⟩ (.bool m.1.abs)).setCell ⟨nb, 5, none⟩ (.bool m.1.own)).setCell ⟨nb, 6, none⟩ (.int .i64 m.1.at_)) := by simp only [World.setCells, Nat.zero_add, Nat.reduceAdd]
  rw [hW]
  have hN2 := (blk_set (i := 6) (blk_set (i := 5) (blk_set (i := 4) (blk_set (i := 3) (blk_set (i := 2) (blk_set (i := 1) (blk_set (i := 0) hNd (.string m.1.name)) (.string m.1.super)) (.slice m.2.1 m.1.ifaces.length m.2.2)) (.bool m.1.iface)) (.bool m.1.abs)) (.bool m.1.own)) (.int .i64 m.1.at_))
  have hK2 := ((((((((Keeps.refl (fun k => k = nb) w).drew.setCell (a := ⟨nb, 0, none⟩) (.inl rfl) (.string m.1.name)).setCell (a := ⟨nb, 1, none⟩) (.inl rfl) (.string m.1.super)).setCell (a := ⟨nb, 2, none⟩) (.inl rfl) (.slice m.2.1 m.1.ifaces.length m.2.2)).setCell (a := ⟨nb, 3, none⟩) (.inl rfl) (.bool m.1.iface)).setCell (a := ⟨nb, 4, none⟩) (.inl rfl) (.bool m.1.abs)).setCell (a := ⟨nb, 5, none⟩) (.inl rfl) (.bool m.1.own)).setCell (a := ⟨nb, 6, none⟩) (.inl rfl) (.int .i64 m.1.at_))
  clear hW
  generalize (((((((w.drew.setCell ⟨nb, 0, none⟩ (.string m.1.name)).setCell ⟨nb, 1, none⟩ (.string m.1.super)).setCell ⟨nb, 2, none⟩ (.slice m.2.1 m.1.ifaces.length m.2.2)).setCell ⟨nb, 3, none⟩ (.bool m.1.iface)).setCell ⟨nb, 4, none⟩ (.bool m.1.abs)).setCell ⟨nb, 5, none⟩ (.bool m.1.own)).setCell ⟨nb, 6, none⟩ (.int .i64 m.1.at_)) = w2 at *
  have hS2 : w2.cell? ⟨tb, 1, none⟩ = some (.map (some mb)) ∧ MapV Tryz.prog w2 9 mb 100000 (Sp.fH L) := ⟨hK2.cell hT hne, hK2.mapV hM (fun q => by
    obtain ⟨es, clock, hh⟩ := mapV_map hM
    rw [q, hN] at hh
    cases hh)⟩
  refine hK.out _ _ hS2 (fun _ => ?_)
  refine wpAnyH_take (i := 11) (oi := chO11) (v := .bool fs) rfl (by kernel_rfl) (by kernel_rfl) (by kernel_rfl) (fun _ _ _ h => hQ _ _ _ _ _ h) (Or.inl ⟨rfl, fun w' hw => ?_⟩) hS2 ?_
  · have : (a1.put none undef).eval (.tmp 27) = .bool fs := e27
    simp only [execOp, chO11, show chO10.dst = none from rfl, this]
    rfl
  refine wpAnyH_done (by kernel_rfl) ?_ _
  exact h w2 hN2 hK2
end Go.Proofs.YtfjplmbknegidaaGreatDoor
end
