/-
  Texts of the proof, joined: each says at its head what it proves.
-/
import Derived.Test.YtfjplmbknegidaaGreatDoorJk29
section
/-
  Walk of chapter 6's examples. (Printed by gen_hshown.py.)
-/
set_option linter.unusedVariables false
set_option linter.unusedSimpArgs false
namespace Go.Proofs.YtfjplmbknegidaaGreatDoor
open Go.RowKit Go.Lib Go.Maps
theorem class6_lit (n : ByteArray) (w : World) : Calls Tryz.prog 27 #[.string n] w fun e w' => e = .returned (.agg #[.int .i64 0, .string n]) ∧ Grow w w' := class6_any n w
theorem file6_lit (fl : Int) (nm su : ByteArray) (A : Option Addr) (c : Nat) (ifs : List ByteArray) (n m : Nat) (hn : ifs.length = n) (hm : 4 + 2 * n = m) (hf : In64 fl) (h1 : nm.size ≤ 1000) (h2 : su.size ≤ 1000) (h3 : n ≤ 16) (h4 : ∀ i ∈ ifs, i.size ≤ 1000) (w : World) (h : RdL Sp.strC w A ifs) :
    Calls Tryz.prog 28 #[.int .i64 fl, .string nm, .string su, .slice A n c] w fun e w' => ∃ qA qc qI qd qX qe qY qg, e = .returned (.agg #[.slice qA m qc, .int .i64 fl, .int .i64 2, .int .i64 4, .slice qI n qd, .slice qX 0 qe, .slice qY 0 qg]) ∧ FileIn w' ((⟨qA, qc, qI, qd, qX, qe, qY, qg⟩ : Sp.At), Sp.fileF fl nm su ifs) ∧ Grow w w' := by
  subst hn
  subst hm
  refine (file6_any fl nm su A c ifs w h h3).mono ?_
  rintro e w' ⟨⟨qA, qc, qI, qd, qX, qe, qY, qg⟩, rfl, h5, h6, _⟩
  obtain ⟨k1, k2⟩ := Sp.fileF_ok hf h1 h2 h3 h4
  refine ⟨qA, qc, qI, qd, qX, qe, qY, qg, ?_, ⟨h5, k1, k2⟩, h6⟩
  rw [flC_file]
theorem new6_lit (xs : List (Sp.At × FlP)) (n : Nat) (hn : xs.length = n) (h3 : n ≤ 100) (C : Array Value) (hC : C.toList = xs.flatMap Sp.flE) (R : Option (List Sp.Cl) × Int × Nat) (hR : Sp.openS Sp.builtC (Sp.rcF (xs.map (·.2)) 0) = R) (w : World) (hx : ∀ x ∈ xs, FileIn w x) (hT : Tabs w) :
    Calls Tryz.prog 10 #[.slice (some ⟨w.heap.size, 0, none⟩) n n] (w.alloc (.cells C 63)) fun e w' => Grow w w' ∧ MadeP R e w' := by
  subst hn
  have hb : Below w.heap.size w (w.alloc (.cells C 63)) := (Below.refl _ _).alloc (Nat.le_refl _) _
  have hr := (own_rdL Sp.flE_len (by decide) (own_lit (l := xs) Sp.flE_len (C := C) (B := 0) hC (blk_new w (.cells C 63)) (Nat.zero_le _) (by omega))).2.1
  refine (hNewM_any (w.alloc (.cells C 63)) (some ⟨w.heap.size, 0, none⟩) xs.length xs hr (fun x q => (hx x q).below hb) (hT.below hb)).mono ?_
  rintro e w' ⟨q1, q2⟩
  rw [hR] at q2
  exact ⟨Grow.trans _ _ _ hb q1, q2⟩

set_option maxHeartbeats 16000000 in
set_option maxRecDepth 100000 in
theorem shown6_any (w : World) (hT : Tabs w) :
    Calls Tryz.prog 9 #[] w fun e w' => e = .returned (.bool true) ∧ Below w.heap.size w w' := by
  have HT := Lib.hid hT
  have kcl := Lib.hid class6_lit
  clear hT
  go_enter Tryz.func9, Tryz.ntmps9
  have G0 := Grow.refl w
  have kf1 := Lib.hid (file6_lit 0 Sp.nA Sp.objB none 0 [] 0 4 rfl rfl (by unfold In64; decide) (by decide) (by decide) (by decide) (by simp; try decide) w (rdL_nil _ _ _))
  go_wp2_with fail
  refine kf1.out.mono ?_
  rintro e w1 ⟨a1, b1, c1, d1, e1, f1, g1, h1, rfl, F1, hb1⟩
  have F1 := Lib.hid F1
  have G1 := Grow.trans _ _ _ G0 hb1
  clear kf1
  have hl2 : RdL Sp.strC (w1.alloc (.cells #[.string Sp.nI] 9)) (some ⟨w1.heap.size, 0, none⟩) [Sp.nI] := (own_rdL Sp.strC_len (by decide) (own_lit (l := [Sp.nI]) Sp.strC_len (C := #[.string Sp.nI]) (B := 0) (by rfl) (blk_new w1 (.cells #[.string Sp.nI] 9)) (Nat.zero_le _) (by simp))).2.1
  have G1x := Grow.trans _ _ _ G1 ((Below.refl _ _).alloc (Nat.le_refl _) (.cells #[.string Sp.nI] 9))
  have kf2 := Lib.hid (file6_lit 0 Sp.nB Sp.nA (some ⟨w1.heap.size, 0, none⟩) 1 [Sp.nI] 1 6 rfl rfl (by unfold In64; decide) (by decide) (by decide) (by decide) (by simp; try decide) (w1.alloc (.cells #[.string Sp.nI] 9)) hl2)
  go_wp2_with fail
  refine kf2.out.mono ?_
  rintro e w2 ⟨a2, b2, c2, d2, e2, f2, g2, h2, rfl, F2, hb2⟩
  have F2 := Lib.hid F2
  have G2 := Grow.trans _ _ _ G1x hb2
  clear kf2 hl2
  have L1 := Lib.hid (Grow.trans _ _ _ ((Below.refl _ _).alloc (Nat.le_refl _) (.cells #[.string Sp.nI] 9)) hb2)
  have kf3 := Lib.hid (file6_lit 3 Sp.nI Sp.objB none 0 [] 0 4 rfl rfl (by unfold In64; decide) (by decide) (by decide) (by decide) (by simp; try decide) w2 (rdL_nil _ _ _))
  go_wp2_with fail
  refine kf3.out.mono ?_
  rintro e w3 ⟨a3, b3, c3, d3, e3, f3, g3, h3, rfl, F3, hb3⟩
  have F3 := Lib.hid F3
  have G3 := Grow.trans _ _ _ G2 hb3
  clear kf3
  have L1 := Lib.hid (Grow.trans _ _ _ L1.out hb3)
  have L2 := Lib.hid hb3
  have F1 := Lib.hid (F1.out.below (L1.out))
  have F2 := Lib.hid (F2.out.below (L2.out))
  have kn3 := Lib.hid (new6_lit [((⟨a1, b1, c1, d1, e1, f1, g1, h1⟩ : Sp.At), Sp.fileF 0 Sp.nA Sp.objB []), ((⟨a2, b2, c2, d2, e2, f2, g2, h2⟩ : Sp.At), Sp.fileF 0 Sp.nB Sp.nA [Sp.nI]), ((⟨a3, b3, c3, d3, e3, f3, g3, h3⟩ : Sp.At), Sp.fileF 3 Sp.nI Sp.objB [])] 3 rfl (by decide) #[.slice a1 4 b1, .int .i64 0, .int .i64 2, .int .i64 4, .slice c1 0 d1, .slice e1 0 f1, .slice g1 0 h1, .slice a2 6 b2, .int .i64 0, .int .i64 2, .int .i64 4, .slice c2 1 d2, .slice e2 0 f2, .slice g2 0 h2, .slice a3 4 b3, .int .i64 3, .int .i64 2, .int .i64 4, .slice c3 0 d3, .slice e3 0 f3, .slice g3 0 h3] (by rfl) (some Sp.exL1, 0, 0) Sp.ex_open1 w3 (fun x hx => by simp at hx; rcases hx with rfl | rfl | rfl; all_goals first | exact F1.out | exact F2.out | exact F3.out) (HT.out.below G3))
  clear F1 F2 F3
  go_wp2_with fail
  refine kn3.out.mono ?_
  rintro e w4 ⟨hb4, M4⟩
  have G4 := Grow.trans _ _ _ G3 hb4
  clear kn3
  obtain ⟨tb, hK⟩ : ∃ tb, e = .returned (.tuple #[.pointer (some ⟨tb, 0, none⟩), .int .i64 0, .int .i64 0]) ∧ HKit w4 tb Sp.exL1 := by
    rcases M4 with ⟨q, _⟩ | ⟨tb, L, q1, q2, q3⟩
    · cases q
    · cases q1
      exact ⟨tb, q2, q3⟩
  obtain ⟨rfl, hK⟩ := hK
  have HK := Lib.hid hK
  clear hK M4 L1 L2
  go_upto_region 7 with fail
  have hs1 : (w4.alloc (.cells #[.int .i64 1, .string ⟨#[65]⟩] 25)).heap.size = w4.heap.size + 1 := by simp
  have hs2 : ((w4.alloc (.cells #[.int .i64 1, .string ⟨#[65]⟩] 25)).alloc (.cells #[.int .i64 1, .string ⟨#[66]⟩] 25)).heap.size = w4.heap.size + 1 + 1 := by simp
  have hA := blk_old (o := (.cells #[.int .i64 1, .string ⟨#[]⟩] 25)) (blk_old (o := (.cells #[.int .i64 1, .string ⟨#[66]⟩] 25)) (blk_new w4 (.cells #[.int .i64 1, .string ⟨#[65]⟩] 25)))
  have hB := blk_new (w4.alloc (.cells #[.int .i64 1, .string ⟨#[65]⟩] 25)) (.cells #[.int .i64 1, .string ⟨#[66]⟩] 25)
  rw [hs1] at hB
  have hB := blk_old (o := (.cells #[.int .i64 1, .string ⟨#[]⟩] 25)) hB
  have hN := blk_new ((w4.alloc (.cells #[.int .i64 1, .string ⟨#[65]⟩] 25)).alloc (.cells #[.int .i64 1, .string ⟨#[66]⟩] 25)) (.cells #[.int .i64 1, .string ⟨#[]⟩] 25)
  rw [hs2] at hN
  have gW : Grow w4 (((w4.alloc (.cells #[.int .i64 1, .string ⟨#[65]⟩] 25)).alloc (.cells #[.int .i64 1, .string ⟨#[66]⟩] 25)).alloc (.cells #[.int .i64 1, .string ⟨#[]⟩] 25)) := Grow.trans _ _ _ (Grow.trans _ _ _ ((Below.refl _ _).alloc (Nat.le_refl _) _) ((Below.refl _ _).alloc (Nat.le_refl _) _)) ((Below.refl _ _).alloc (Nat.le_refl _) _)
  clear hs1 hs2
  generalize (((w4.alloc (.cells #[.int .i64 1, .string ⟨#[65]⟩] 25)).alloc (.cells #[.int .i64 1, .string ⟨#[66]⟩] 25)).alloc (.cells #[.int .i64 1, .string ⟨#[]⟩] 25)) = X0 at *
  have GX0 := Grow.trans _ _ _ G4 gW
  have gX : Grow w4 X0.drew := Grow.trans _ _ _ gW ((Below.refl _ _).drew)
  have gXw := gX
  clear gW
  generalize w4.heap.size = pa at *
  have hA := Lib.hid hA
  have hB := Lib.hid hB
  have hN := Lib.hid hN
  have hS := Lib.hid (fun V (hV : Grow X0.drew V) => show V.cell? ⟨pa, 0, none⟩ = some (.int .i64 1) ∧ V.cell? ⟨pa, 1, none⟩ = some (.string Sp.nA) ∧ V.cell? ⟨pa + 1, 0, none⟩ = some (.int .i64 1) ∧ V.cell? ⟨pa + 1, 1, none⟩ = some (.string Sp.nB) ∧ V.cell? ⟨pa + 1 + 1, 0, none⟩ = some (.int .i64 1) ∧ V.cell? ⟨pa + 1 + 1, 1, none⟩ = some (.string Sp.nilB) from
    ⟨cell_below (w := X0.drew) hV (blk_cell (blk_drew hA.out) 0 _ rfl).1, cell_below (w := X0.drew) hV (blk_cell (blk_drew hA.out) 1 _ rfl).1, cell_below (w := X0.drew) hV (blk_cell (blk_drew hB.out) 0 _ rfl).1, cell_below (w := X0.drew) hV (blk_cell (blk_drew hB.out) 1 _ rfl).1, cell_below (w := X0.drew) hV (blk_cell (blk_drew hN.out) 0 _ rfl).1, cell_below (w := X0.drew) hV (blk_cell (blk_drew hN.out) 1 _ rfl).1⟩)
  have ks1 : Hid (∀ V, Grow X0.drew V → Calls Tryz.prog 16 #[.pointer (some ⟨tb, 0, none⟩), .agg #[.int .i64 0, .string Sp.nB], .agg #[.int .i64 0, .string Sp.nA]] V fun e w3 => e = .returned (.bool true) ∧ Grow V w3) := Lib.hid (fun V hV => by have := HK.out.sub V (0, Sp.nB) (0, Sp.nA) (Grow.trans _ _ _ gX hV) (by decide) (by decide); rw [Sp.ex_sub1] at this; exact this)
  have ks2 : Hid (∀ V, Grow X0.drew V → Calls Tryz.prog 16 #[.pointer (some ⟨tb, 0, none⟩), .agg #[.int .i64 0, .string Sp.nB], .agg #[.int .i64 0, .string Sp.nI]] V fun e w3 => e = .returned (.bool true) ∧ Grow V w3) := Lib.hid (fun V hV => by have := HK.out.sub V (0, Sp.nB) (0, Sp.nI) (Grow.trans _ _ _ gX hV) (by decide) (by decide); rw [Sp.ex_sub2] at this; exact this)
  have ks3 : Hid (∀ V, Grow X0.drew V → Calls Tryz.prog 16 #[.pointer (some ⟨tb, 0, none⟩), .agg #[.int .i64 0, .string Sp.nA], .agg #[.int .i64 0, .string Sp.nB]] V fun e w3 => e = .returned (.bool false) ∧ Grow V w3) := Lib.hid (fun V hV => by have := HK.out.sub V (0, Sp.nA) (0, Sp.nB) (Grow.trans _ _ _ gX hV) (by decide) (by decide); rw [Sp.ex_sub3] at this; exact this)
  have ks4 : Hid (∀ V, Grow X0.drew V → Calls Tryz.prog 16 #[.pointer (some ⟨tb, 0, none⟩), .agg #[.int .i64 1, .string Sp.nB], .agg #[.int .i64 1, .string Sp.nA]] V fun e w3 => e = .returned (.bool true) ∧ Grow V w3) := Lib.hid (fun V hV => by have := HK.out.sub V (1, Sp.nB) (1, Sp.nA) (Grow.trans _ _ _ gX hV) (by decide) (by decide); rw [Sp.ex_sub4] at this; exact this)
  have ks5 : Hid (∀ V, Grow X0.drew V → Calls Tryz.prog 16 #[.pointer (some ⟨tb, 0, none⟩), .agg #[.int .i64 1, .string Sp.nilB], .agg #[.int .i64 0, .string Sp.objB]] V fun e w3 => e = .returned (.bool true) ∧ Grow V w3) := Lib.hid (fun V hV => by have := HK.out.sub V (1, Sp.nilB) (0, Sp.objB) (Grow.trans _ _ _ gX hV) (by decide) (by decide); rw [Sp.ex_sub5] at this; exact this)
  refine wp_region_calm Grow [0, 1, 2, 3, 4, 5, 6, 7, 8, 9, 10, 11, 12, 13, 14, 15, 16, 17, 18, 19, 20, 21, 22, 23, 24, 25, 26, 27, 28, 29] [] [] [] (by kernel_rfl) (by kernel_rfl) Grow.refl Grow.trans (fun c a d v w h => by cases d <;> exact h) ?_
  change Line _ _ _ X0.drew _ _ _
  ((simp only [pickOps, List.filterMap_cons, List.filterMap_nil, List.getElem?_cons_succ, List.getElem?_cons_zero]); (repeat (first | (refine line_not (by rfl) ?_; (try simp only [Act.put, List.setIfInBounds_toArray, List.set_cons_zero, List.set_cons_succ])) | (refine line_val (v := ?_) Grow.refl (by rfl) (fun v9 h9 => ?_) ?_; rotate_left; (focus (obtain ⟨s1, s2, s3, s4, s5, s6⟩ := hS.out v9 h9; go_simp; (first | done | with_reducible rfl))); (try simp only [Act.put, List.setIfInBounds_toArray, List.set_cons_zero, List.set_cons_succ])) | (refine line_call (by rfl) (fun v9 h9 => ?_) (fun v9 h9 => kcl.out Sp.nA v9) ?_; (focus (obtain ⟨s1, s2, s3, s4, s5, s6⟩ := hS.out v9 h9; go_simp; done)); (try simp only [Act.put, List.setIfInBounds_toArray, List.set_cons_zero, List.set_cons_succ])) | (refine line_call (by rfl) (fun v9 h9 => ?_) (fun v9 h9 => kcl.out Sp.nB v9) ?_; (focus (obtain ⟨s1, s2, s3, s4, s5, s6⟩ := hS.out v9 h9; go_simp; done)); (try simp only [Act.put, List.setIfInBounds_toArray, List.set_cons_zero, List.set_cons_succ])) | (refine line_call (by rfl) (fun v9 h9 => ?_) (fun v9 h9 => kcl.out Sp.nI v9) ?_; (focus (obtain ⟨s1, s2, s3, s4, s5, s6⟩ := hS.out v9 h9; go_simp; done)); (try simp only [Act.put, List.setIfInBounds_toArray, List.set_cons_zero, List.set_cons_succ])) | (refine line_call (by rfl) (fun v9 h9 => ?_) (fun v9 h9 => kcl.out Sp.objB v9) ?_; (focus (obtain ⟨s1, s2, s3, s4, s5, s6⟩ := hS.out v9 h9; go_simp; done)); (try simp only [Act.put, List.setIfInBounds_toArray, List.set_cons_zero, List.set_cons_succ])) | (refine line_call (by rfl) (fun v9 h9 => ?_) (fun v9 h9 => ks1.out v9 h9) ?_; (focus (obtain ⟨s1, s2, s3, s4, s5, s6⟩ := hS.out v9 h9; go_simp; done)); (try simp only [Act.put, List.setIfInBounds_toArray, List.set_cons_zero, List.set_cons_succ])) | (refine line_call (by rfl) (fun v9 h9 => ?_) (fun v9 h9 => ks2.out v9 h9) ?_; (focus (obtain ⟨s1, s2, s3, s4, s5, s6⟩ := hS.out v9 h9; go_simp; done)); (try simp only [Act.put, List.setIfInBounds_toArray, List.set_cons_zero, List.set_cons_succ])) | (refine line_call (by rfl) (fun v9 h9 => ?_) (fun v9 h9 => ks3.out v9 h9) ?_; (focus (obtain ⟨s1, s2, s3, s4, s5, s6⟩ := hS.out v9 h9; go_simp; done)); (try simp only [Act.put, List.setIfInBounds_toArray, List.set_cons_zero, List.set_cons_succ])) | (refine line_call (by rfl) (fun v9 h9 => ?_) (fun v9 h9 => ks4.out v9 h9) ?_; (focus (obtain ⟨s1, s2, s3, s4, s5, s6⟩ := hS.out v9 h9; go_simp; done)); (try simp only [Act.put, List.setIfInBounds_toArray, List.set_cons_zero, List.set_cons_succ])) | (refine line_call (by rfl) (fun v9 h9 => ?_) (fun v9 h9 => ks5.out v9 h9) ?_; (focus (obtain ⟨s1, s2, s3, s4, s5, s6⟩ := hS.out v9 h9; go_simp; done)); (try simp only [Act.put, List.setIfInBounds_toArray, List.set_cons_zero, List.set_cons_succ])))))
  refine line_done (soon_nil (fun v0 g0 => ?_))
  have GD : Grow w X0.drew := Grow.trans _ _ _ GX0 ((Below.refl _ _).drew)
  clear GX0 gX ks1 ks2 ks3 ks4 ks5
  have gXX : Grow w4 X0.drew := gXw
  go_wp2_with fail
  refine (kcl.out Sp.nB _).mono ?_
  rintro e v1 ⟨rfl, q1⟩
  have g1 := Grow.trans _ _ _ g0 q1
  go_wp2_with fail
  refine (kcl.out Sp.nA _).mono ?_
  rintro e v2 ⟨rfl, q2⟩
  have g2 := Grow.trans _ _ _ g1 q2
  have kl3 : Hid (Calls Tryz.prog 14 #[.pointer (some ⟨tb, 0, none⟩), .agg #[.int .i64 0, .string Sp.nB], .agg #[.int .i64 0, .string Sp.nA]] v2 fun e w3 => e = .returned (.tuple #[.agg #[.int .i64 0, .string Sp.nA], .bool true]) ∧ Grow v2 w3) := Lib.hid (by have := HK.out.lub v2 (0, Sp.nB) (0, Sp.nA) (Grow.trans _ _ _ gXX g2) (by decide) (by decide); rw [Sp.ex_lub1] at this; exact this)
  go_wp2_with fail
  refine kl3.out.mono ?_
  rintro e v3 ⟨rfl, q3⟩
  have g3 := Grow.trans _ _ _ g2 q3
  go_upto_region 9 with fail
  have hC8 := blk_new v3 (.cells #[.int .i64 0, .string Sp.nA] 25)
  have g3a := Grow.trans _ _ _ g3 ((Below.refl _ _).alloc (Nat.le_refl _) (.cells #[.int .i64 0, .string Sp.nA] 25))
  have z8 : Grow v3 (v3.alloc (.cells #[.int .i64 0, .string Sp.nA] 25)) := (Below.refl _ _).alloc (Nat.le_refl _) _
  clear kl3
  generalize v3.alloc (.cells #[.int .i64 0, .string Sp.nA] 25) = V8 at *
  generalize v3.heap.size = p8 at *
  have hC8 := Lib.hid (show ∀ V, Grow V8 V → V.cell? ⟨p8, 0, none⟩ = some (.int .i64 0) ∧ V.cell? ⟨p8, 1, none⟩ = some (.string Sp.nA) from fun V hV => ⟨cell_below (w := V8) hV (blk_cell hC8 0 _ rfl).1, cell_below (w := V8) hV (blk_cell hC8 1 _ rfl).1⟩)
  go_wp2_with fail
  refine (kcl.out Sp.nA _).mono ?_
  rintro e v4 ⟨rfl, q4⟩
  have g4 := Grow.trans _ _ _ g3a q4
  go_wp2_with fail
  refine (kcl.out Sp.nStr _).mono ?_
  rintro e v5 ⟨rfl, q5⟩
  have g5 := Grow.trans _ _ _ g4 q5
  have kl6 : Hid (Calls Tryz.prog 14 #[.pointer (some ⟨tb, 0, none⟩), .agg #[.int .i64 0, .string Sp.nA], .agg #[.int .i64 0, .string Sp.nStr]] v5 fun e w3 => e = .returned (.tuple #[.agg #[.int .i64 0, .string Sp.objB], .bool true]) ∧ Grow v5 w3) := Lib.hid (by have := HK.out.lub v5 (0, Sp.nA) (0, Sp.nStr) (Grow.trans _ _ _ gXX g5) (by decide) (by decide); rw [Sp.ex_lub2] at this; exact this)
  go_wp2_with fail
  refine kl6.out.mono ?_
  rintro e v6 ⟨rfl, q6⟩
  have g6 := Grow.trans _ _ _ g5 q6
  go_upto_region 10 with fail
  have hC9 := blk_new v6 (.cells #[.int .i64 0, .string Sp.objB] 25)
  have g6a := Grow.trans _ _ _ g6 ((Below.refl _ _).alloc (Nat.le_refl _) (.cells #[.int .i64 0, .string Sp.objB] 25))
  have z9 : Grow v6 (v6.alloc (.cells #[.int .i64 0, .string Sp.objB] 25)) := (Below.refl _ _).alloc (Nat.le_refl _) _
  clear kl6
  generalize v6.alloc (.cells #[.int .i64 0, .string Sp.objB] 25) = V9 at *
  generalize v6.heap.size = p9 at *
  have hC9 := Lib.hid (show ∀ V, Grow V9 V → V.cell? ⟨p9, 0, none⟩ = some (.int .i64 0) ∧ V.cell? ⟨p9, 1, none⟩ = some (.string Sp.objB) from fun V hV => ⟨cell_below (w := V9) hV (blk_cell hC9 0 _ rfl).1, cell_below (w := V9) hV (blk_cell hC9 1 _ rfl).1⟩)
  have kl7 : Hid (Calls Tryz.prog 14 #[.pointer (some ⟨tb, 0, none⟩), .agg #[.int .i64 1, .string Sp.nB], .agg #[.int .i64 1, .string Sp.nA]] V9 fun e w3 => e = .returned (.tuple #[.agg #[.int .i64 1, .string Sp.nA], .bool true]) ∧ Grow V9 w3) := Lib.hid (by have := HK.out.lub V9 (1, Sp.nB) (1, Sp.nA) (Grow.trans _ _ _ gXX g6a) (by decide) (by decide); rw [Sp.ex_lub3] at this; exact this)
  obtain ⟨s1, s2, s3, s4, s5, s6⟩ := hS.out _ g6a
  go_wp2_with fail
  refine kl7.out.mono ?_
  rintro e v7 ⟨rfl, q7⟩
  have g7 := Grow.trans _ _ _ g6a q7
  clear s1 s2 s3 s4 s5 s6
  go_upto_region 11 with fail
  have hC10 := blk_new v7 (.cells #[.int .i64 1, .string Sp.nA] 25)
  have g7a := Grow.trans _ _ _ g7 ((Below.refl _ _).alloc (Nat.le_refl _) (.cells #[.int .i64 1, .string Sp.nA] 25))
  have z10 : Grow v7 (v7.alloc (.cells #[.int .i64 1, .string Sp.nA] 25)) := (Below.refl _ _).alloc (Nat.le_refl _) _
  clear kl7
  generalize v7.alloc (.cells #[.int .i64 1, .string Sp.nA] 25) = V10 at *
  generalize v7.heap.size = p10 at *
  have hC10 := Lib.hid (show ∀ V, Grow V10 V → V.cell? ⟨p10, 0, none⟩ = some (.int .i64 1) ∧ V.cell? ⟨p10, 1, none⟩ = some (.string Sp.nA) from fun V hV => ⟨cell_below (w := V10) hV (blk_cell hC10 0 _ rfl).1, cell_below (w := V10) hV (blk_cell hC10 1 _ rfl).1⟩)
  have kl8 : Hid (Calls Tryz.prog 14 #[.pointer (some ⟨tb, 0, none⟩), .agg #[.int .i64 1, .string Sp.nilB], .agg #[.int .i64 1, .string Sp.nA]] V10 fun e w3 => e = .returned (.tuple #[.agg #[.int .i64 0, .string Sp.objB], .bool true]) ∧ Grow V10 w3) := Lib.hid (by have := HK.out.lub V10 (1, Sp.nilB) (1, Sp.nA) (Grow.trans _ _ _ gXX g7a) (by decide) (by decide); rw [Sp.ex_lub4] at this; exact this)
  obtain ⟨s1, s2, s3, s4, s5, s6⟩ := hS.out _ g7a
  go_wp2_with fail
  refine kl8.out.mono ?_
  rintro e v8 ⟨rfl, q8⟩
  have g8 := Grow.trans _ _ _ g7a q8
  clear s1 s2 s3 s4 s5 s6
  go_upto_region 12 with fail
  have hC11 := blk_new v8 (.cells #[.int .i64 0, .string Sp.objB] 25)
  have g8a := Grow.trans _ _ _ g8 ((Below.refl _ _).alloc (Nat.le_refl _) (.cells #[.int .i64 0, .string Sp.objB] 25))
  have z11 : Grow v8 (v8.alloc (.cells #[.int .i64 0, .string Sp.objB] 25)) := (Below.refl _ _).alloc (Nat.le_refl _) _
  clear kl8
  generalize v8.alloc (.cells #[.int .i64 0, .string Sp.objB] 25) = V11 at *
  generalize v8.heap.size = p11 at *
  have hC11 := Lib.hid (show ∀ V, Grow V11 V → V.cell? ⟨p11, 0, none⟩ = some (.int .i64 0) ∧ V.cell? ⟨p11, 1, none⟩ = some (.string Sp.objB) from fun V hV => ⟨cell_below (w := V11) hV (blk_cell hC11 0 _ rfl).1, cell_below (w := V11) hV (blk_cell hC11 1 _ rfl).1⟩)
  have kch := Lib.hid (HK.out.chain V11 Sp.nB (Grow.trans _ _ _ gXX g8a) (by decide))
  rw [Sp.ex_chain1] at kch
  go_wp2_with fail
  refine kch.out.mono ?_
  rintro e u1 ⟨cA, cc, rfl, cR, r1⟩
  have h1 := Grow.trans _ _ _ g8a r1
  have h1a := Grow.trans _ _ _ h1 ((Below.refl _ _).alloc (Nat.le_refl _) (.cells #[.string Sp.nB, .string Sp.nA, .string Sp.objB] 9))
  have kst := Lib.hid (sameTexts6_any cA cc [Sp.nB, Sp.nA, Sp.objB] (some ⟨u1.heap.size, 0, none⟩) 3 [Sp.nB, Sp.nA, Sp.objB] (u1.alloc (.cells #[.string Sp.nB, .string Sp.nA, .string Sp.objB] 9)) (rdL_below cR ((Below.refl _ _).alloc (Nat.le_refl _) _)) ((own_rdL Sp.strC_len (by decide) (own_lit (l := [Sp.nB, Sp.nA, Sp.objB]) Sp.strC_len (C := #[.string Sp.nB, .string Sp.nA, .string Sp.objB]) (B := 0) (by rfl) (blk_new u1 (.cells #[.string Sp.nB, .string Sp.nA, .string Sp.objB] 9)) (Nat.zero_le _) (by simp))).2.1))
  rw [show decide ([Sp.nB, Sp.nA, Sp.objB] = [Sp.nB, Sp.nA, Sp.objB]) = true from decide_eq_true rfl] at kst
  clear kch
  go_wp2_with fail
  refine kst.out.mono ?_
  rintro e u2 ⟨rfl, r2⟩
  have h2 := Grow.trans _ _ _ h1a r2
  have GE := Grow.trans _ _ _ GD h2
  have z12 : Grow u1 (u1.alloc (.cells #[.string Sp.nB, .string Sp.nA, .string Sp.objB] 9)) := (Below.refl _ _).alloc (Nat.le_refl _) _
  clear kst h1 h1a cR
  have kf21 := Lib.hid (file6_lit 0 Sp.nA Sp.nB none 0 [] 0 4 rfl rfl (by unfold In64; decide) (by decide) (by decide) (by decide) (by simp; try decide) u2 (rdL_nil _ _ _))
  go_wp2_with fail
  refine kf21.out.mono ?_
  rintro e w21 ⟨a21, b21, c21, d21, e21, f21, g21, h21, rfl, F21, hb21⟩
  have F21 := Lib.hid F21
  have G21 := Grow.trans _ _ _ GE hb21
  clear kf21
  have kf22 := Lib.hid (file6_lit 0 Sp.nB Sp.nA none 0 [] 0 4 rfl rfl (by unfold In64; decide) (by decide) (by decide) (by decide) (by simp; try decide) w21 (rdL_nil _ _ _))
  go_wp2_with fail
  refine kf22.out.mono ?_
  rintro e w22 ⟨a22, b22, c22, d22, e22, f22, g22, h22, rfl, F22, hb22⟩
  have F22 := Lib.hid F22
  have G22 := Grow.trans _ _ _ G21 hb22
  clear kf22
  have L21 := Lib.hid hb22
  have F21 := Lib.hid (F21.out.below (L21.out))
  have kn22 := Lib.hid (new6_lit [((⟨a21, b21, c21, d21, e21, f21, g21, h21⟩ : Sp.At), Sp.fileF 0 Sp.nA Sp.nB []), ((⟨a22, b22, c22, d22, e22, f22, g22, h22⟩ : Sp.At), Sp.fileF 0 Sp.nB Sp.nA [])] 2 rfl (by decide) #[.slice a21 4 b21, .int .i64 0, .int .i64 2, .int .i64 4, .slice c21 0 d21, .slice e21 0 f21, .slice g21 0 h21, .slice a22 4 b22, .int .i64 0, .int .i64 2, .int .i64 4, .slice c22 0 d22, .slice e22 0 f22, .slice g22 0 h22] (by rfl) (none, 16, 0) Sp.ex_open2 w22 (fun x hx => by simp at hx; rcases hx with rfl | rfl; all_goals first | exact F21.out | exact F22.out) (HT.out.below G22))
  clear F21 F22
  go_wp2_with fail
  refine kn22.out.mono ?_
  rintro e w23 ⟨hb23, M23⟩
  have G23 := Grow.trans _ _ _ G22 hb23
  clear kn22
  obtain rfl : e = .returned (.tuple #[.pointer none, .int .i64 16, .int .i64 0]) := by
    rcases M23 with ⟨_, q⟩ | ⟨tb, L, q1, _⟩
    · exact q
    · cases q1
  clear M23
  have kf24 := Lib.hid (file6_lit 0 Sp.nA Sp.nStr none 0 [] 0 4 rfl rfl (by unfold In64; decide) (by decide) (by decide) (by decide) (by simp; try decide) w23 (rdL_nil _ _ _))
  go_wp2_with fail
  refine kf24.out.mono ?_
  rintro e w24 ⟨a24, b24, c24, d24, e24, f24, g24, h24, rfl, F24, hb24⟩
  have F24 := Lib.hid F24
  have G24 := Grow.trans _ _ _ G23 hb24
  clear kf24
  have kn24 := Lib.hid (new6_lit [((⟨a24, b24, c24, d24, e24, f24, g24, h24⟩ : Sp.At), Sp.fileF 0 Sp.nA Sp.nStr [])] 1 rfl (by decide) #[.slice a24 4 b24, .int .i64 0, .int .i64 2, .int .i64 4, .slice c24 0 d24, .slice e24 0 f24, .slice g24 0 h24] (by rfl) (none, 17, 0) Sp.ex_open3 w24 (fun x hx => by simp at hx; rcases hx with rfl; all_goals first | exact F24.out) (HT.out.below G24))
  clear F24
  go_wp2_with fail
  refine kn24.out.mono ?_
  rintro e w25 ⟨hb25, M25⟩
  have G25 := Grow.trans _ _ _ G24 hb25
  clear kn24
  obtain rfl : e = .returned (.tuple #[.pointer none, .int .i64 17, .int .i64 0]) := by
    rcases M25 with ⟨_, q⟩ | ⟨tb, L, q1, _⟩
    · exact q
    · cases q1
  clear M25
  have kf26 := Lib.hid (file6_lit 0 Sp.nA Sp.objB none 0 [] 0 4 rfl rfl (by unfold In64; decide) (by decide) (by decide) (by decide) (by simp; try decide) w25 (rdL_nil _ _ _))
  go_wp2_with fail
  refine kf26.out.mono ?_
  rintro e w26 ⟨a26, b26, c26, d26, e26, f26, g26, h26, rfl, F26, hb26⟩
  have F26 := Lib.hid F26
  have G26 := Grow.trans _ _ _ G25 hb26
  clear kf26
  have kf27 := Lib.hid (file6_lit 0 Sp.nA Sp.objB none 0 [] 0 4 rfl rfl (by unfold In64; decide) (by decide) (by decide) (by decide) (by simp; try decide) w26 (rdL_nil _ _ _))
  go_wp2_with fail
  refine kf27.out.mono ?_
  rintro e w27 ⟨a27, b27, c27, d27, e27, f27, g27, h27, rfl, F27, hb27⟩
  have F27 := Lib.hid F27
  have G27 := Grow.trans _ _ _ G26 hb27
  clear kf27
  have L26 := Lib.hid hb27
  have F26 := Lib.hid (F26.out.below (L26.out))
  have kn27 := Lib.hid (new6_lit [((⟨a26, b26, c26, d26, e26, f26, g26, h26⟩ : Sp.At), Sp.fileF 0 Sp.nA Sp.objB []), ((⟨a27, b27, c27, d27, e27, f27, g27, h27⟩ : Sp.At), Sp.fileF 0 Sp.nA Sp.objB [])] 2 rfl (by decide) #[.slice a26 4 b26, .int .i64 0, .int .i64 2, .int .i64 4, .slice c26 0 d26, .slice e26 0 f26, .slice g26 0 h26, .slice a27 4 b27, .int .i64 0, .int .i64 2, .int .i64 4, .slice c27 0 d27, .slice e27 0 f27, .slice g27 0 h27] (by rfl) (none, 15, 1) Sp.ex_open4 w27 (fun x hx => by simp at hx; rcases hx with rfl | rfl; all_goals first | exact F26.out | exact F27.out) (HT.out.below G27))
  clear F26 F27
  go_wp2_with fail
  refine kn27.out.mono ?_
  rintro e w28 ⟨hb28, M28⟩
  have G28 := Grow.trans _ _ _ G27 hb28
  clear kn27
  obtain rfl : e = .returned (.tuple #[.pointer none, .int .i64 15, .int .i64 1]) := by
    rcases M28 with ⟨_, q⟩ | ⟨tb, L, q1, _⟩
    · exact q
    · cases q1
  clear M28
  have E8 : Grow V8 w28 := (Grow.trans _ _ _ q4 (Grow.trans _ _ _ q5 (Grow.trans _ _ _ q6 (Grow.trans _ _ _ z9 (Grow.trans _ _ _ q7 (Grow.trans _ _ _ z10 (Grow.trans _ _ _ q8 (Grow.trans _ _ _ z11 (Grow.trans _ _ _ r1 (Grow.trans _ _ _ z12 (Grow.trans _ _ _ r2 (Grow.trans _ _ _ hb21 (Grow.trans _ _ _ hb22 (Grow.trans _ _ _ hb23 (Grow.trans _ _ _ hb24 (Grow.trans _ _ _ hb25 (Grow.trans _ _ _ hb26 (Grow.trans _ _ _ hb27 hb28))))))))))))))))))
  have E9 : Grow V9 w28 := (Grow.trans _ _ _ q7 (Grow.trans _ _ _ z10 (Grow.trans _ _ _ q8 (Grow.trans _ _ _ z11 (Grow.trans _ _ _ r1 (Grow.trans _ _ _ z12 (Grow.trans _ _ _ r2 (Grow.trans _ _ _ hb21 (Grow.trans _ _ _ hb22 (Grow.trans _ _ _ hb23 (Grow.trans _ _ _ hb24 (Grow.trans _ _ _ hb25 (Grow.trans _ _ _ hb26 (Grow.trans _ _ _ hb27 hb28))))))))))))))
  have E10 : Grow V10 w28 := (Grow.trans _ _ _ q8 (Grow.trans _ _ _ z11 (Grow.trans _ _ _ r1 (Grow.trans _ _ _ z12 (Grow.trans _ _ _ r2 (Grow.trans _ _ _ hb21 (Grow.trans _ _ _ hb22 (Grow.trans _ _ _ hb23 (Grow.trans _ _ _ hb24 (Grow.trans _ _ _ hb25 (Grow.trans _ _ _ hb26 (Grow.trans _ _ _ hb27 hb28))))))))))))
  have E11 : Grow V11 w28 := (Grow.trans _ _ _ r1 (Grow.trans _ _ _ z12 (Grow.trans _ _ _ r2 (Grow.trans _ _ _ hb21 (Grow.trans _ _ _ hb22 (Grow.trans _ _ _ hb23 (Grow.trans _ _ _ hb24 (Grow.trans _ _ _ hb25 (Grow.trans _ _ _ hb26 (Grow.trans _ _ _ hb27 hb28))))))))))
  have EX : Grow X0.drew w28 := Grow.trans _ _ _ g3a E8
  go_upto_region 16 with fail
  generalize w28 = Y at *
  have hD : Grow Y Y.drew := (Below.refl _ _).drew
  have hS2 := Lib.hid (fun V (hV : Grow Y.drew V) => show (V.cell? ⟨pa, 0, none⟩ = some (.int .i64 1) ∧ V.cell? ⟨pa, 1, none⟩ = some (.string Sp.nA)) ∧ (V.cell? ⟨p8, 0, none⟩ = some (.int .i64 0) ∧ V.cell? ⟨p8, 1, none⟩ = some (.string Sp.nA)) ∧ (V.cell? ⟨p9, 0, none⟩ = some (.int .i64 0) ∧ V.cell? ⟨p9, 1, none⟩ = some (.string Sp.objB)) ∧ (V.cell? ⟨p10, 0, none⟩ = some (.int .i64 1) ∧ V.cell? ⟨p10, 1, none⟩ = some (.string Sp.nA)) ∧ (V.cell? ⟨p11, 0, none⟩ = some (.int .i64 0) ∧ V.cell? ⟨p11, 1, none⟩ = some (.string Sp.objB)) from
    ⟨⟨(hS.out V (Grow.trans _ _ _ EX (Grow.trans _ _ _ hD hV))).1, (hS.out V (Grow.trans _ _ _ EX (Grow.trans _ _ _ hD hV))).2.1⟩, hC8.out V (Grow.trans _ _ _ E8 (Grow.trans _ _ _ hD hV)), hC9.out V (Grow.trans _ _ _ E9 (Grow.trans _ _ _ hD hV)), hC10.out V (Grow.trans _ _ _ E10 (Grow.trans _ _ _ hD hV)), hC11.out V (Grow.trans _ _ _ E11 (Grow.trans _ _ _ hD hV))⟩)
  have GY : Grow w Y.drew := Grow.trans _ _ _ G28 hD
  have GK : Grow w4 Y.drew := Grow.trans _ _ _ gXX (Grow.trans _ _ _ EX hD)
  clear E8 E9 E10 E11 EX hD G28
  refine wp_region_calm Grow [0, 1, 2, 3, 4, 5, 6, 7, 8, 9, 10, 11, 12, 13, 14, 15, 16, 17, 18, 19, 20, 21, 22, 23, 24, 25] [] [26, 27, 28, 29, 30] [[2, 3, 5, 8, 13, 15, 18, 21, 24], [3, 5, 8, 13, 15, 18, 21, 24], [3, 5, 8, 13, 15, 18, 21, 24], [5, 8, 13, 15, 18, 21, 24], [6, 7, 8, 13, 15, 18, 21, 24], [8, 13, 15, 18, 21, 24], [7, 8, 13, 15, 18, 21, 24], [8, 13, 15, 18, 21, 24], [13, 15, 18, 21, 24], [11, 12, 13, 15, 18, 21, 24], [11, 12, 13, 15, 18, 21, 24], [12, 13, 15, 18, 21, 24], [13, 15, 18, 21, 24], [15, 18, 21, 24], [16, 17, 18, 21, 24], [18, 21, 24], [17, 18, 21, 24], [18, 21, 24], [21, 24], [20, 21, 24], [21, 24], [24], [23, 24], [24], [], []] (by kernel_rfl) (by kernel_rfl) Grow.refl Grow.trans (fun c a d v w h => by cases d <;> exact h) ?_
  change Line _ _ _ Y.drew _ _ _
  ((simp only [pickOps, List.filterMap_cons, List.filterMap_nil, List.getElem?_cons_succ, List.getElem?_cons_zero]); (repeat (first | (refine line_not (by rfl) ?_; (try simp only [Act.put, List.setIfInBounds_toArray, List.set_cons_zero, List.set_cons_succ])) | (refine line_val (v := ?_) Grow.refl (by rfl) (fun v9 h9 => ?_) ?_; rotate_left; (focus (obtain ⟨⟨s1, s2⟩, ⟨s3, s4⟩, ⟨s5, s6⟩, ⟨s7, s8⟩, ⟨s9, s10⟩⟩ := hS2.out v9 h9; go_simp; (first | done | with_reducible rfl))); (try simp only [Act.put, List.setIfInBounds_toArray, List.set_cons_zero, List.set_cons_succ])) | (refine line_call (by rfl) (fun v9 h9 => ?_) (fun v9 h9 => kcl.out Sp.nA v9) ?_; (focus (obtain ⟨⟨s1, s2⟩, ⟨s3, s4⟩, ⟨s5, s6⟩, ⟨s7, s8⟩, ⟨s9, s10⟩⟩ := hS2.out v9 h9; go_simp; done)); (try simp only [Act.put, List.setIfInBounds_toArray, List.set_cons_zero, List.set_cons_succ])) | (refine line_call (by rfl) (fun v9 h9 => ?_) (fun v9 h9 => kcl.out Sp.objB v9) ?_; (focus (obtain ⟨⟨s1, s2⟩, ⟨s3, s4⟩, ⟨s5, s6⟩, ⟨s7, s8⟩, ⟨s9, s10⟩⟩ := hS2.out v9 h9; go_simp; done)); (try simp only [Act.put, List.setIfInBounds_toArray, List.set_cons_zero, List.set_cons_succ])))))
  refine line_done (soon_nil (fun z0 gz => ?_))
  have kcx := Lib.hid (HK.out.chain z0 Sp.nX (Grow.trans _ _ _ GK gz) (by decide))
  rw [Sp.ex_chain2] at kcx
  clear hS2 hS hC8 hC9 hC10 hC11
  go_wp2_with fail
  refine kcx.out.mono ?_
  rintro e z1 ⟨xA, xc, rfl, xR, rz⟩
  have GF : Below w.heap.size w z1 := Grow.trans _ _ _ GY (Grow.trans _ _ _ gz rz)
  clear kcx xR rz gz GY GK
  go_wp2
  go_ret
  exact ⟨rfl, GF⟩
end Go.Proofs.YtfjplmbknegidaaGreatDoor
end
section
/-
  Plain: what HierOrders asks; a walk of its helper.
-/
set_option linter.unusedVariables false
set_option linter.unusedSimpArgs false
namespace Go.Proofs.YtfjplmbknegidaaGreatDoor
open Go.RowKit Go.Lib Go.Maps
namespace Sp
theorem found_size {L : List Cl} (ht : ∀ c ∈ L, c.name.size ≤ 1099511627776) {s : ByteArray} (h : (findC L s).isSome = true) : s.size ≤ 1099511627776 := by
  obtain ⟨c, hc⟩ := Option.isSome_iff_exists.1 h
  obtain ⟨h1, h2⟩ := findC_name hc
  rw [← h1]
  exact ht c h2
theorem known_size {L : List Cl} (ht : ∀ c ∈ L, c.name.size ≤ 1099511627776) {a : Ty} (h : knownS L a = true) : a.2.size ≤ 1099511627776 := by
  simp only [knownS, Bool.and_eq_true, Bool.or_eq_true, decide_eq_true_eq] at h
  rcases h.2 with q | q
  · rw [q]; exact Nat.zero_le _
  · exact found_size ht q
theorem lub_size {L : List Cl} (hL : Tb L) (hN : Nm L) (ht : ∀ c ∈ L, c.name.size ≤ 1099511627776) (a b : Ty) : (lubS L a b).1.2.size ≤ 1099511627776 := by
  cases h : (lubS L a b).2 with
  | true =>
    obtain ⟨k1, k2, k3, k4, k5⟩ := lub_some h
    rw [k5]
    exact known_size ht (unnorm_known hL hN k3 k4 k1 k2).1
  | false =>
    unfold lubS at h ⊢
    split
    · rename_i q; rw [if_pos q] at h; cases h
    · exact Nat.zero_le _
theorem ord_least {L : List Cl} (hL : Tb L) (hN : Nm L) {an bn cn : ByteArray} (ho : (lubS L (0, an) (0, bn)).2 = true) (hc : (findC L cn).isSome = true) (hi : (getC L cn).iface = false) (ha : (getC L an).iface = false) (hb : (getC L bn).iface = false)
    (h1 : subS L (0, an) (0, cn) = true) (h2 : subS L (0, bn) (0, cn) = true) : subS L (lubS L (0, an) (0, bn)).1 (0, cn) = true := by
  obtain ⟨k1, k2, k3, k4, _⟩ := lub_some ho
  have cls : ∀ n, knownS L (0, n) = true → isRefS (0, n) = true → (getC L n).iface = false → clsN L n := fun n q1 q2 q3 => by
    have hne : n ≠ nilB := fun q => by have := (ref_pos q2).2.1 q; simp at this
    have := known_ref q1 n (by simp [normT, hne])
    exact (cls_or this).2 q3
  exact lub_least hL hN (cls an k1 k3 ha) (cls bn k2 k4 hb) ((cls_or (findC_isSome.1 hc)).2 hi) ho h1 h2
theorem types_all {l : List Int} : ∀ t ∈ typesS l, rightS t = true ∧ t.2.size ≤ 20 ∧ 0 ≤ t.1 ∧ t.1 ≤ 4 := by
  intro t ht
  obtain ⟨n, _, rfl⟩ := List.mem_map.1 ht
  exact ⟨typeR_right n, typeR_size n⟩
end Sp

set_option maxHeartbeats 4000000 in
set_option maxRecDepth 100000 in
theorem classes6_any (w0 : World) (tb : Nat) (L : List Sp.Cl) (hK : HKit w0 tb L) (ad bd : Int) (an bn : ByteArray) (w : World) (hb : Grow w0 w) (ha : an.size ≤ 1099511627776) (hbn : bn.size ≤ 1099511627776) :
    Calls Tryz.prog 19 #[.pointer (some ⟨tb, 0, none⟩), .agg #[.int .i64 ad, .string an], .agg #[.int .i64 bd, .string bn]] w fun e w' => e = .returned (.bool (!(Sp.getC L an).iface && !(Sp.getC L bn).iface)) ∧ Grow w w' := by
  have HB := Lib.hid hb
  have kfa := fun W (q : Grow w0 W) => hK.find W an q ha
  have kfb := fun W (q : Grow w0 W) => hK.find W bn q hbn
  clear hK hb
  generalize hca : Sp.getC L an = ca at *
  generalize hcb : Sp.getC L bn = cb at *
  obtain ⟨n1, u1, i1, x1, y1, z1, t1⟩ := ca
  obtain ⟨n2, u2, i2, x2, y2, z2, t2⟩ := cb
  simp only at kfa kfb ⊢
  have kfa := Lib.hid kfa
  have kfb := Lib.hid kfb
  clear hca hcb
  have hs1 : (w.alloc (.cells #[.int .i64 ad, .string an] 25)).heap.size = w.heap.size + 1 := by simp
  have hA := blk_old (o := .cells #[.int .i64 bd, .string bn] 25) (blk_new w (.cells #[.int .i64 ad, .string an] 25))
  have hB := blk_new (w.alloc (.cells #[.int .i64 ad, .string an] 25)) (.cells #[.int .i64 bd, .string bn] 25)
  rw [hs1] at hB
  have g1 : Grow w ((w.alloc (.cells #[.int .i64 ad, .string an] 25)).alloc (.cells #[.int .i64 bd, .string bn] 25)) := Grow.trans _ _ _ ((Below.refl _ _).alloc (Nat.le_refl _) _) ((Below.refl _ _).alloc (Nat.le_refl _) _)
  clear hs1
  go_enter Tryz.func19, Tryz.ntmps19
  go_upto_region 1 with fail
  generalize (w.alloc (.cells #[.int .i64 ad, .string an] 25)).alloc (.cells #[.int .i64 bd, .string bn] 25) = W1 at *
  have k1 := Lib.hid (kfa.out W1 (Grow.trans _ _ _ HB.out g1))
  have hA := Lib.hid hA
  have hB := Lib.hid hB
  obtain ⟨c0, f0⟩ := blk_cell hA.out 1 (.string an) rfl
  have hlA := blk_lt hA.out
  go_wp2_with fail
  refine k1.out.mono ?_
  rintro e w2 ⟨A2, c2, rfl, _, h2⟩
  have g2 := Grow.trans _ _ _ g1 h2
  clear k1 c0 f0 hlA
  go_upto_region 2 with fail
  have hC1 := blk_new w2 (.cells #[.string n1, .string u1, .slice A2 i1.length c2, .bool x1, .bool y1, .bool z1, .int .i64 t1] 44)
  have g3 := Grow.trans _ _ _ h2 ((Below.refl _ _).alloc (Nat.le_refl _) (.cells #[.string n1, .string u1, .slice A2 i1.length c2, .bool x1, .bool y1, .bool z1, .int .i64 t1] 44))
  generalize w2.alloc (.cells #[.string n1, .string u1, .slice A2 i1.length c2, .bool x1, .bool y1, .bool z1, .int .i64 t1] 44) = W3 at *
  generalize w2.heap.size = p1 at *
  have k2 := Lib.hid (kfb.out W3 (Grow.trans _ _ _ HB.out (Grow.trans _ _ _ g1 g3)))
  have hB3 := Lib.hid (blk_below hB.out g3)
  obtain ⟨c0, f0⟩ := blk_cell hB3.out 1 (.string bn) rfl
  have hlB := blk_lt hB3.out
  have hC1 := Lib.hid hC1
  go_wp2_with fail
  refine k2.out.mono ?_
  rintro e w4 ⟨A4, c4, rfl, _, h4⟩
  clear k2 c0 f0 hlB
  go_upto_region 3 with fail
  have hC2 := blk_new w4 (.cells #[.string n2, .string u2, .slice A4 i2.length c4, .bool x2, .bool y2, .bool z2, .int .i64 t2] 44)
  have g5 := Grow.trans _ _ _ h4 ((Below.refl _ _).alloc (Nat.le_refl _) (.cells #[.string n2, .string u2, .slice A4 i2.length c4, .bool x2, .bool y2, .bool z2, .int .i64 t2] 44))
  generalize w4.alloc (.cells #[.string n2, .string u2, .slice A4 i2.length c4, .bool x2, .bool y2, .bool z2, .int .i64 t2] 44) = W5 at *
  generalize w4.heap.size = p2 at *
  have gF := Lib.hid (Grow.trans _ _ _ g1 (Grow.trans _ _ _ g3 g5))
  obtain ⟨c1, f1⟩ := blk_cell (blk_below hC1.out g5) 3 (.bool x1) rfl
  obtain ⟨c3, f3⟩ := blk_cell hC2 3 (.bool x2) rfl
  cases x1 <;> cases x2
  all_goals
    go_wp2
    go_ret
    exact ⟨rfl, gF.out⟩
end Go.Proofs.YtfjplmbknegidaaGreatDoor
end
