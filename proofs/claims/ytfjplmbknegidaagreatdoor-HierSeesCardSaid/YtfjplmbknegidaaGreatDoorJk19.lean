/-
  Texts of the proof, joined: each says at its head what it proves.
-/
import Derived.Test.YtfjplmbknegidaaGreatDoorJk18
import Derived.Test.YtfjplmbknegidaaGreatDoorJk13
section
/-
  Walks of chapter 6's lub and Lub.
-/
set_option linter.unusedVariables false
set_option linter.unusedSimpArgs false
namespace Go.Proofs.YtfjplmbknegidaaGreatDoor
open Go.RowKit Go.Lib Go.Maps

theorem contains_any (A : Option Addr) (c : Nat) (l : List ByteArray) (x : ByteArray) (w : World) (h : RdL Sp.strC w A l) :
    Calls Tryz.prog 60 #[.slice A l.length c, .string x] w fun e w' => e = .returned (.bool (l.any (fun y => decide (y = x)))) ∧ w' = w := by
  by_cases h0 : l = []
  · subst h0
    exact Tryz.slices_Contains_string_empty A c x w
  · obtain ⟨b, o, ha, hr⟩ := h.2 (List.length_pos_iff.2 h0)
    subst ha
    have hc : ∀ j, j < l.length → w.cell? ⟨b, o + j, none⟩ = some (.string (l.getD j ByteArray.empty)) := fun j hj => by
      have := rdL_get 1 Sp.strC_len hr hj 0 (by decide) (v := .string l[j]) rfl
      rw [List.getD_eq_getElem?_getD, List.getElem?_eq_getElem hj]
      simpa using this
    refine (Tryz.slices_Contains_string b o l.length c l x w (Nat.le_refl _) h.1 hc).mono ?_
    rintro e w' ⟨rfl, rfl⟩
    refine ⟨?_, rfl⟩
    rw [List.take_length]
    have : Lib.containsS l x = l.any (fun y => decide (y = x)) := by
      rw [Bool.eq_iff_iff, Lib.containsS_iff, List.any_eq_true]
      constructor
      · intro q; exact ⟨x, q, by simp⟩
      · rintro ⟨y, q, e⟩
        have : y = x := by simpa using e
        exact this ▸ q
    rw [this]
theorem Sp.lubN_eq (L : List Sp.Cl) (d : Int) (x : ByteArray) (e : Int) (y : ByteArray) (hd : 0 ≤ d) : Sp.lubN L d.toNat (d, x) (e, y) =
    if (d, x) = (e, y) then (d, x) else if 0 < d ∧ 0 < e ∧ Sp.isRefS (d - 1, x) = true ∧ Sp.isRefS (e - 1, y) = true then ((Sp.lubN L (d - 1).toNat (d - 1, x) (e - 1, y)).1 + 1, (Sp.lubN L (d - 1).toNat (d - 1, x) (e - 1, y)).2) else Sp.lub0 L (d, x) (e, y) := by
  obtain ⟨n, rfl⟩ := Int.eq_ofNat_of_zero_le hd
  cases n with
  | zero =>
    rw [show ((0 : Nat) : Int).toNat = 0 from rfl, Sp.lubN]
    simp only [Int.natCast_zero, Int.lt_irrefl, false_and, if_false]
  | succ n =>
    rw [show (((n + 1 : Nat)) : Int).toNat = n + 1 from rfl, Sp.lubN, show ((((n + 1 : Nat)) : Int) - 1).toNat = n by omega]
theorem Sp.commonS_cons (x : ByteArray) (l m : List ByteArray) : Sp.commonS (x :: l) m = if m.any (fun y => decide (y = x)) = true then x else Sp.commonS l m := rfl

theorem Sp.lub0_dims (L : List Sp.Cl) (a b : Sp.Ty) : (Sp.lub0 L a b).1 = 0 := by
  unfold Sp.lub0
  split <;> rfl
theorem Sp.lubN_dims (L : List Sp.Cl) : ∀ (n : Nat) (a b : Sp.Ty), 0 ≤ a.1 → 0 ≤ (Sp.lubN L n a b).1 ∧ (Sp.lubN L n a b).1 ≤ a.1 := by
  intro n
  induction n with
  | zero =>
    intro a b h
    unfold Sp.lubN
    split
    · exact ⟨h, Int.le_refl _⟩
    · simp only [Sp.lub0_dims]; omega
  | succ n ih =>
    intro a b h
    unfold Sp.lubN
    split
    · exact ⟨h, Int.le_refl _⟩
    · simp only
      split
      · rename_i q
        have := ih (a.1 - 1, a.2) (b.1 - 1, b.2) (by simp only; omega)
        simp only at this ⊢
        omega
      · rw [Sp.lub0_dims]; omega
theorem field3 (n s : ByteArray) (A : Option Addr) (k c : Nat) (b1 b2 b3 : Bool) (a : Int) (W : World) : (Instr.field 44 (.agg #[.string n, .string s, .slice A k c, .bool b1, .bool b2, .bool b3, .int .i64 a]) 3).run Tryz.prog W = .ok (.bool b1) W := by kernel_rfl
/-- Of two classes: the first name of one chain that stands in the other. -/
def Sp.lubC (L : List Sp.Cl) (x y : ByteArray) : ByteArray := Sp.commonS (Sp.chainS L x) (Sp.chainS L y)

set_option maxHeartbeats 16000000 in
set_option maxRecDepth 100000 in
theorem hlub_step (tb mb : Nat) (A : Option Addr) (c : Nat) (L : List Sp.ClP) (hL : L.length ≤ 10000) (ha : Sp.Acyc (L.map (·.1))) (hch : ∀ s, (Sp.chainS (L.map (·.1)) s).length ≤ 100000) (n : Nat)
    (IH : ∀ (d : Int) (x : ByteArray) (e : Int) (y : ByteArray) (w : World), d.toNat < n → Sp.isRefS (d, x) = true → Sp.isRefS (e, y) = true → x.size ≤ 1099511627776 → y.size ≤ 1099511627776 → HTab w tb mb A c L → Tabs w →
      Calls Tryz.prog 36 #[.pointer (some ⟨tb, 0, none⟩), .agg #[.int .i64 d, .string x], .agg #[.int .i64 e, .string y]] w fun r w' => r = .returned (Sp.tyV (Sp.lubN (L.map (·.1)) d.toNat (d, x) (e, y))) ∧ Below w.heap.size w w')
    (d : Int) (x : ByteArray) (e : Int) (y : ByteArray) (w : World) (hn : d.toNat ≤ n) (hr1 : Sp.isRefS (d, x) = true) (hr2 : Sp.isRefS (e, y) = true) (hx : x.size ≤ 1099511627776) (hy : y.size ≤ 1099511627776) (hH : HTab w tb mb A c L) (hT : Tabs w) :
      Calls Tryz.prog 36 #[.pointer (some ⟨tb, 0, none⟩), .agg #[.int .i64 d, .string x], .agg #[.int .i64 e, .string y]] w fun r w' => r = .returned (Sp.tyV (Sp.lubN (L.map (·.1)) d.toNat (d, x) (e, y))) ∧ Below w.heap.size w w' := by
  obtain ⟨d0, dn, d4⟩ := Sp.ref_pos hr1
  obtain ⟨e0, en, e4⟩ := Sp.ref_pos hr2
  simp only at d0 dn d4 e0 en e4
  have HE := Lib.hid (Sp.lubN_eq (L.map (·.1)) d x e y d0)
  have g1 : Sp.rightS (d, x) = true := by simp only [Sp.isRefS, Bool.and_eq_true] at hr1; exact hr1.1
  have g2 : Sp.rightS (e, y) = true := by simp only [Sp.isRefS, Bool.and_eq_true] at hr2; exact hr2.1
  have k1 := Lib.hid (fun (h : 0 < d) W hT => show Calls Tryz.prog 59 #[Sp.tyV (d, x)] W fun r w' => r = .returned (.tuple #[.agg #[.int .i64 (d - 1), .string x], .bool true]) ∧ Below W.heap.size W w' from by
    have := elem_any d x W hx (by omega) hT
    rwa [show Sp.elemS (d, x) = ((d - 1, x), true) by unfold Sp.elemS; rw [if_pos ⟨g1, by simp only; omega⟩]] at this)
  have k2 := Lib.hid (fun (h : 0 < e) W hT => show Calls Tryz.prog 59 #[Sp.tyV (e, y)] W fun r w' => r = .returned (.tuple #[.agg #[.int .i64 (e - 1), .string y], .bool true]) ∧ Below W.heap.size W w' from by
    have := elem_any e y W hy (by omega) hT
    rwa [show Sp.elemS (e, y) = ((e - 1, y), true) by unfold Sp.elemS; rw [if_pos ⟨g2, by simp only; omega⟩]] at this)
  have k3 := Lib.hid (fun W hT => isRef_any (d - 1) x W hx hT)
  have k4 := Lib.hid (fun W hT => isRef_any (e - 1) y W hy hT)
  have IH1 := Lib.hid (fun (h1 : 0 < d) (h2 : Sp.isRefS (d - 1, x) = true) (h3 : Sp.isRefS (e - 1, y) = true) W hH hT => IH (d - 1) x (e - 1) y W (by omega) h2 h3 hx hy hH hT)
  have hl0 := Lib.hid (fun h => Sp.lub0_arr (L.map (·.1)) (a := (d, x)) (b := (e, y)) hr1 hr2 h)
  generalize Sp.lubN (L.map (·.1)) d.toNat (d, x) (e, y) = R at *
  unfold Sp.tyV at k1 k2 k3 k4
  simp only at k1 k2 k3 k4
  have H0 := Lib.hid hH
  have T0 := Lib.hid hT
  have hb1 := Lib.hid ((((Below.refl w.heap.size w).alloc (Nat.le_refl _) (.cells #[.int .i64 d, .string x] 25)).alloc (by simp) (.cells #[.int .i64 e, .string y] 25)).alloc (by simp; omega) (.cells #[.int .i64 0, .string ⟨#[]⟩] 25))
  have hK := Lib.hid (blk_old (o := .cells #[.int .i64 0, .string ⟨#[]⟩] 25) (blk_old (o := .cells #[.int .i64 e, .string y] 25) (blk_new w (.cells #[.int .i64 d, .string x] 25))))
  have hM := Lib.hid (blk_old (o := .cells #[.int .i64 0, .string ⟨#[]⟩] 25) (blk_new (w.alloc (.cells #[.int .i64 d, .string x] 25)) (.cells #[.int .i64 e, .string y] 25)))
  rw [show (w.alloc (.cells #[.int .i64 d, .string x] 25)).heap.size = w.heap.size + 1 by simp] at hM
  have hZ := Lib.hid (blk_new ((w.alloc (.cells #[.int .i64 d, .string x] 25)).alloc (.cells #[.int .i64 e, .string y] 25)) (.cells #[.int .i64 0, .string ⟨#[]⟩] 25))
  rw [show ((w.alloc (.cells #[.int .i64 d, .string x] 25)).alloc (.cells #[.int .i64 e, .string y] 25)).heap.size = w.heap.size + 2 by simp] at hZ
  have dn := Lib.hid dn
  have en := Lib.hid en
  clear IH hH hT g1 g2 hr1 hr2
  go_enter Tryz.func36, Tryz.ntmps36
  go_upto_region 1 with fail
  generalize ((w.alloc (.cells #[.int .i64 d, .string x] 25)).alloc (.cells #[.int .i64 e, .string y] 25)).alloc (.cells #[.int .i64 0, .string ⟨#[]⟩] 25) = W at *
  obtain ⟨a1, a2, a3, a4⟩ := ty_box hK.out
  obtain ⟨c1, c2, c3, c4⟩ := ty_box hM.out
  obtain ⟨z1, z2, z3, z4⟩ := ty_box hZ.out
  have hlk := blk_lt hZ.out
  go_cut [15] (fun v wx => v = .bool (decide ((d, x) = (e, y))) ∧ wx = W)
  case first =>
    by_cases hde : d = e
    · subst hde
      have td : (d == d) = true := by simp
      by_cases hxy : x = y
      · subst hxy
        have tx : (x.toList == x.toList) = true := by simp
        go_wp2
        go_meet
        exact ⟨by simp, rfl⟩
      · have tx : (x.toList == y.toList) = false := by rw [bytes_eqb]; exact decide_eq_false hxy
        go_wp2
        go_meet
        exact ⟨by simp [hxy], rfl⟩
    · have td : (d == e) = false := by simp [hde]
      go_wp2
      go_meet
      exact ⟨by simp [hde], rfl⟩
  case rest =>
    obtain ⟨rfl, rfl⟩ := hcut
    by_cases hab : (d, x) = (e, y)
    · have hR : R = (d, x) := by rw [HE.out, if_pos hab]
      rw [decide_eq_true hab]
      subst hR
      have hfin := Lib.hid (blk_set (i := 1) (blk_set (i := 0) hZ.out (.int .i64 d)) (.string x))
      have hB := Lib.hid (Below.setCell (p := ⟨w.heap.size + 2, 1, none⟩) (Below.setCell (p := ⟨w.heap.size + 2, 0, none⟩) hb1.out (by show w.heap.size ≤ w.heap.size + 2; omega) (.int .i64 d)) (by show w.heap.size ≤ w.heap.size + 2; omega) (.string x))
      clear HE hab k1 k2 k3 k4
      go_wp2
      (try simp only [Exit.inBlock, Exit.then])
      refine bodyPost_ret (results_c rfl _ _ _ rfl (ty_load _ _ _ (blk_cell hfin.out 0 (.int .i64 d) rfl).1 (blk_cell hfin.out 1 (.string x) rfl).1)) rfl ?_
      exact ⟨rfl, hB.out⟩
    · have HE1 := Lib.hid HE.out
      rw [if_neg hab] at HE1
      rw [decide_eq_false hab]
      have hab := Lib.hid hab
      clear HE
      by_cases hd : 0 < d
      · by_cases he : 0 < e
        · have k1' := Lib.hid (k1.out hd wc (T0.out.below hb1.out))
          clear k1
          go_upto_region 4 with fail
          go_wp2_with fail
          refine k1'.out.mono ?_
          rintro r w1 ⟨rfl, hb2⟩
          have hM1 := Lib.hid (blk_old (o := .cells #[.int .i64 (d - 1), .string x] 25) (blk_below hM.out hb2))
          have hZ1 := Lib.hid (blk_old (o := .cells #[.int .i64 (d - 1), .string x] 25) (blk_below hZ.out hb2))
          have hB1 := Lib.hid ((below_then hb1.out hb1.out.size hb2).alloc (below_then hb1.out hb1.out.size hb2).size (.cells #[.int .i64 (d - 1), .string x] 25))
          have hP1 := Lib.hid (blk_new w1 (.cells #[.int .i64 (d - 1), .string x] 25))
          clear a1 a2 a3 a4 c1 c2 c3 c4 z1 z2 z3 z4 hlk hK hM hZ hb1 hb2 k1'
          go_upto_region 5 with fail
          generalize w1.alloc (.cells #[.int .i64 (d - 1), .string x] 25) = W1 at *
          obtain ⟨pb, hpb⟩ : ∃ pb, w1.heap.size = pb := ⟨_, rfl⟩
          rw [hpb] at hP1 ⊢
          clear hpb
          have k2' := Lib.hid (k2.out he W1 (T0.out.below hB1.out))
          obtain ⟨c1, c2, c3, c4⟩ := ty_box hM1.out
          have hlk := blk_lt hM1.out
          clear k2
          go_wp2_with fail
          refine k2'.out.mono ?_
          rintro r w2 ⟨rfl, hb2⟩
          have hP2 := Lib.hid (blk_old (o := .cells #[.int .i64 (e - 1), .string y] 25) (blk_below hP1.out hb2))
          have hZ2 := Lib.hid (blk_old (o := .cells #[.int .i64 (e - 1), .string y] 25) (blk_below hZ1.out hb2))
          have hB2 := Lib.hid ((below_then hB1.out hB1.out.size hb2).alloc (below_then hB1.out hB1.out.size hb2).size (.cells #[.int .i64 (e - 1), .string y] 25))
          have hQ2 := Lib.hid (blk_new w2 (.cells #[.int .i64 (e - 1), .string y] 25))
          clear c1 c2 c3 c4 hlk hM1 hZ1 hP1 hB1 hb2 k2'
          go_upto_region 6 with fail
          generalize w2.alloc (.cells #[.int .i64 (e - 1), .string y] 25) = W2 at *
          obtain ⟨qb, hqb⟩ : ∃ qb, w2.heap.size = qb := ⟨_, rfl⟩
          rw [hqb] at hQ2 ⊢
          clear hqb
          have k3' := Lib.hid (k3.out W2 (T0.out.below hB2.out))
          obtain ⟨c1, c2, c3, c4⟩ := ty_box hP2.out
          obtain ⟨a1, a2, a3, a4⟩ := ty_box hQ2.out
          have hlk := blk_lt hP2.out
          have hlq := blk_lt hQ2.out
          obtain ⟨r3, hr3⟩ : ∃ r, Sp.isRefS (d - 1, x) = r := ⟨_, rfl⟩
          obtain ⟨r4, hr4⟩ : ∃ r, Sp.isRefS (e - 1, y) = r := ⟨_, rfl⟩
          rw [hr3] at k3'
          have hr3 := Lib.hid hr3
          have hr4 := Lib.hid hr4
          clear k3
          go_wp2_with fail
          refine k3'.out.mono ?_
          rintro r w3 ⟨rfl, hb3⟩
          have hP3 := Lib.hid (blk_below hP2.out hb3)
          have hQ3 := Lib.hid (blk_below hQ2.out hb3)
          have hZ3 := Lib.hid (blk_below hZ2.out hb3)
          have hB3 := Lib.hid (below_then hB2.out hB2.out.size hb3)
          clear c1 c2 c3 c4 a1 a2 a3 a4 hlk hlq hP2 hQ2 hZ2 hB2 hb3 k3'
          cases r3 with
          | false =>
            have hR : R = (0, Sp.objB) := by rw [HE1.out, if_neg (fun q => by have := q.2.2.1; rw [hr3.out] at this; cases this)]; exact hl0.out (fun q => by have h1 : d = 0 := q.1; omega)
            subst hR
            clear HE1 k4 IH1 hl0 hP3 hQ3
            have hfin := Lib.hid (blk_set (i := 1) (blk_set (i := 0) hZ3.out (.int .i64 0)) (.string Sp.objB))
            have hBf := Lib.hid (Below.setCell (p := ⟨w.heap.size + 2, 1, none⟩) (Below.setCell (p := ⟨w.heap.size + 2, 0, none⟩) hB3.out (by show w.heap.size ≤ w.heap.size + 2; omega) (.int .i64 0)) (by show w.heap.size ≤ w.heap.size + 2; omega) (.string Sp.objB))
            obtain ⟨z1, z2, z3, z4⟩ := ty_box hZ3.out
            have hlz := blk_lt hZ3.out
            go_wp2
            (try simp only [Exit.inBlock, Exit.then])
            refine bodyPost_ret (results_c rfl _ _ _ rfl (ty_load _ _ _ (blk_cell hfin.out 0 (.int .i64 0) rfl).1 (blk_cell hfin.out 1 (.string Sp.objB) rfl).1)) rfl ?_
            exact ⟨rfl, hBf.out⟩
          | true =>
            obtain ⟨a1, a2, a3, a4⟩ := ty_box hQ3.out
            have hlq := blk_lt hQ3.out
            have k4' := Lib.hid (k4.out w3 (T0.out.below hB3.out))
            rw [hr4.out] at k4'
            clear k4
            go_wp2_with fail
            refine k4'.out.mono ?_
            rintro r w4 ⟨rfl, hb3⟩
            have hP4 := Lib.hid (blk_below hP3.out hb3)
            have hQ4 := Lib.hid (blk_below hQ3.out hb3)
            have hZ4 := Lib.hid (blk_below hZ3.out hb3)
            have hB4 := Lib.hid (below_then hB3.out hB3.out.size hb3)
            clear a1 a2 a3 a4 hlq hP3 hQ3 hZ3 hB3 hb3 k4'
            cases r4 with
            | false =>
              have hR : R = (0, Sp.objB) := by rw [HE1.out, if_neg (fun q => by have := q.2.2.2; rw [hr4.out] at this; cases this)]; exact hl0.out (fun q => by have h1 : d = 0 := q.1; omega)
              subst hR
              clear HE1 IH1 hl0 hP4 hQ4
              have hfin := Lib.hid (blk_set (i := 1) (blk_set (i := 0) hZ4.out (.int .i64 0)) (.string Sp.objB))
              have hBf := Lib.hid (Below.setCell (p := ⟨w.heap.size + 2, 1, none⟩) (Below.setCell (p := ⟨w.heap.size + 2, 0, none⟩) hB4.out (by show w.heap.size ≤ w.heap.size + 2; omega) (.int .i64 0)) (by show w.heap.size ≤ w.heap.size + 2; omega) (.string Sp.objB))
              obtain ⟨z1, z2, z3, z4⟩ := ty_box hZ4.out
              have hlz := blk_lt hZ4.out
              go_wp2
              (try simp only [Exit.inBlock, Exit.then])
              refine bodyPost_ret (results_c rfl _ _ _ rfl (ty_load _ _ _ (blk_cell hfin.out 0 (.int .i64 0) rfl).1 (blk_cell hfin.out 1 (.string Sp.objB) rfl).1)) rfl ?_
              exact ⟨rfl, hBf.out⟩
            | true =>
              have kz := Lib.hid (IH1.out hd hr3.out hr4.out w4 (H0.out.below hB4.out) (T0.out.below hB4.out))
              have hR := Lib.hid (show R = _ by rw [HE1.out, if_pos ⟨hd, he, hr3.out, hr4.out⟩])
              have hzd := Sp.lubN_dims (L.map (·.1)) (d - 1).toNat (d - 1, x) (e - 1, y) (by simp only; omega)
              generalize Sp.lubN (L.map (·.1)) (d - 1).toNat (d - 1, x) (e - 1, y) = z at *
              obtain ⟨zd, zn⟩ := z
              simp only at hzd hR
              obtain ⟨hz0, hz4⟩ := hzd
              unfold Sp.tyV at kz
              simp only at kz
              clear HE1 IH1 hl0 hr3 hr4
              obtain ⟨c1, c2, c3, c4⟩ := ty_box hP4.out
              obtain ⟨a1, a2, a3, a4⟩ := ty_box hQ4.out
              have hlk := blk_lt hP4.out
              have hlq := blk_lt hQ4.out
              go_wp2_with fail
              refine kz.out.mono ?_
              rintro r w5 ⟨rfl, hb5⟩
              have hZ5 := Lib.hid (blk_old (o := .cells #[.int .i64 zd, .string zn] 25) (blk_below hZ4.out hb5))
              have hB5 := Lib.hid ((below_then hB4.out hB4.out.size hb5).alloc (below_then hB4.out hB4.out.size hb5).size (.cells #[.int .i64 zd, .string zn] 25))
              have hN5 := Lib.hid (blk_new w5 (.cells #[.int .i64 zd, .string zn] 25))
              have hzl : w.heap.size + 2 < w5.heap.size := blk_lt (blk_below hZ4.out hb5)
              clear c1 c2 c3 c4 a1 a2 a3 a4 hlk hlq hP4 hQ4 hZ4 hB4 hb5 kz
              go_upto_region 8 with fail
              generalize w5.alloc (.cells #[.int .i64 zd, .string zn] 25) = W5 at *
              obtain ⟨zb, hzb⟩ : ∃ zb, w5.heap.size = zb := ⟨_, rfl⟩
              rw [hzb] at hN5 hzl ⊢
              clear hzb
              obtain ⟨c1, c2, c3, c4⟩ := ty_box hN5.out
              have hlz := blk_lt hN5.out
              have hN6 := Lib.hid (show (W5.setCell ⟨zb, 0, none⟩ (.int .i64 (zd + 1))).heap[zb]? = some (.cells #[.int .i64 (zd + 1), .string zn] 25 (0, 0)) from blk_set (i := 0) hN5.out (.int .i64 (zd + 1)))
              have hZ6 := Lib.hid (blk_other hZ5.out ⟨zb, 0, none⟩ (.int .i64 (zd + 1)) (by show w.heap.size + 2 ≠ zb; omega))
              have hB6 := Lib.hid (Below.setCell (p := ⟨zb, 0, none⟩) hB5.out (by show w.heap.size ≤ zb; omega) (.int .i64 (zd + 1)))
              go_upto_region 9 with fail
              generalize W5.setCell ⟨zb, 0, none⟩ (.int .i64 (zd + 1)) = W6 at *
              clear c1 c2 c3 c4 hlz hN5 hZ5 hB5
              obtain ⟨c1, c2, c3, c4⟩ := ty_box hN6.out
              obtain ⟨z1, z2, z3, z4⟩ := ty_box hZ6.out
              have hlz := blk_lt hZ6.out
              have hln := blk_lt hN6.out
              have hfin := Lib.hid (blk_set (i := 1) (blk_set (i := 0) hZ6.out (.int .i64 (zd + 1))) (.string zn))
              have hBf := Lib.hid (Below.setCell (p := ⟨w.heap.size + 2, 1, none⟩) (Below.setCell (p := ⟨w.heap.size + 2, 0, none⟩) hB6.out (by show w.heap.size ≤ w.heap.size + 2; omega) (.int .i64 (zd + 1))) (by show w.heap.size ≤ w.heap.size + 2; omega) (.string zn))
              have hR2 := hR.out
              subst hR2
              clear hR hzl
              go_wp2
              (try simp only [Exit.inBlock, Exit.then])
              refine bodyPost_ret (results_c rfl _ _ _ rfl (ty_load _ _ _ (blk_cell hfin.out 0 (.int .i64 (zd + 1)) rfl).1 (blk_cell hfin.out 1 (.string zn) rfl).1)) rfl ?_
              exact ⟨rfl, hBf.out⟩
        · have td0 : (d == 0) = false := by simp; omega
          have hR : R = (0, Sp.objB) := by rw [HE1.out, if_neg (fun q => he q.2.1)]; exact hl0.out (fun q => by have h1 : d = 0 := q.1; omega)
          subst hR
          clear HE1 k1 k2 k3 k4 IH1 hl0
          have hZd := Lib.hid (show wc.drew.heap[w.heap.size + 2]? = some (.cells #[.int .i64 0, .string ⟨#[]⟩] 25 (0, 0)) from hZ.out)
          have hBd := Lib.hid hb1.out.drew
          have hfin := Lib.hid (blk_set (i := 1) (blk_set (i := 0) hZd.out (.int .i64 0)) (.string Sp.objB))
          have hBf := Lib.hid (Below.setCell (p := ⟨w.heap.size + 2, 1, none⟩) (Below.setCell (p := ⟨w.heap.size + 2, 0, none⟩) hBd.out (by show w.heap.size ≤ w.heap.size + 2; omega) (.int .i64 0)) (by show w.heap.size ≤ w.heap.size + 2; omega) (.string Sp.objB))
          go_upto_region 10 with fail
          go_region
          go_wp2
          (try simp only [Exit.inBlock, Exit.then])
          refine bodyPost_ret (results_c rfl _ _ _ rfl (ty_load _ _ _ (blk_cell hfin.out 0 (.int .i64 0) rfl).1 (blk_cell hfin.out 1 (.string Sp.objB) rfl).1)) rfl ?_
          exact ⟨rfl, hBf.out⟩
      · have hd0 : d = 0 := by omega
        subst hd0
        by_cases he0 : e = 0
        · subst he0
          have hxy : x ≠ y := fun q => hab.out (by rw [q])
          have TX := H0.out.told x
          have TY := H0.out.told y
          obtain ⟨mx, hmx⟩ : ∃ m, (Sp.findP L x).getD Sp.zP = m := ⟨_, rfl⟩
          obtain ⟨my, hmy⟩ : ∃ m, (Sp.findP L y).getD Sp.zP = m := ⟨_, rfl⟩
          rw [hmx] at TX
          rw [hmy] at TY
          obtain ⟨⟨n1, s1, i1, bx, q1, o1, p1⟩, A1, C1⟩ := mx
          obtain ⟨⟨n2, s2, i2, by_, q2, o2, p2⟩, A2, C2⟩ := my
          have hbx : (Sp.getC (L.map (·.1)) x).iface = bx := by rw [← TX.1]
          have hby : (Sp.getC (L.map (·.1)) y).iface = by_ := by rw [← TY.1]
          have HE2 := Lib.hid (show R = if bx = false ∧ by_ = false then (0, Sp.lubC (L.map (·.1)) x y) else (0, Sp.objB) by
            rw [HE1.out, if_neg (by omega)]
            unfold Sp.lub0 Sp.lubC
            simp only [hbx, hby, true_and])
          have hMd := mapV_drew (H0.out.below hb1.out).mp
          have ha1 := (look_cl hMd x (by unfold maxLen; omega)).2
          have ha2 := (look_cl hMd y (by unfold maxLen; omega)).2
          rw [hmx] at ha1
          rw [hmy] at ha2
          unfold Sp.clV at ha1 ha2
          simp only at ha1 ha2
          have hf1 := field3 n1 s1 A1 i1.length C1 bx q1 o1 p1 wc.drew
          have hf2 := field3 n2 s2 A2 i2.length C2 by_ q2 o2 p2 wc.drew
          obtain ⟨m1, m2⟩ := blk_cell (H0.out.below hb1.out).box 1 (.map (some mb)) rfl
          have hlt := blk_lt (H0.out.below hb1.out).box
          clear HE1 k1 k2 k3 k4 IH1 hl0 hMd TX TY hmx hmy hbx hby hab
          have hZd := Lib.hid (show wc.drew.heap[w.heap.size + 2]? = some (.cells #[.int .i64 0, .string ⟨#[]⟩] 25 (0, 0)) from hZ.out)
          have hBd := Lib.hid hb1.out.drew
          have hfin := Lib.hid (blk_set (i := 1) (blk_set (i := 0) hZd.out (.int .i64 0)) (.string Sp.objB))
          have hBf := Lib.hid (Below.setCell (p := ⟨w.heap.size + 2, 1, none⟩) (Below.setCell (p := ⟨w.heap.size + 2, 0, none⟩) hBd.out (by show w.heap.size ≤ w.heap.size + 2; omega) (.int .i64 0)) (by show w.heap.size ≤ w.heap.size + 2; omega) (.string Sp.objB))
          cases bx with
          | true =>
            have hR : R = (0, Sp.objB) := by rw [HE2.out, if_neg (by simp)]
            subst hR
            clear HE2
            go_upto_region 10 with fail
            go_region
            go_wp2
            (try simp only [Exit.inBlock, Exit.then])
            refine bodyPost_ret (results_c rfl _ _ _ rfl (ty_load _ _ _ (blk_cell hfin.out 0 (.int .i64 0) rfl).1 (blk_cell hfin.out 1 (.string Sp.objB) rfl).1)) rfl ?_
            exact ⟨rfl, hBf.out⟩
          | false =>
            cases by_ with
            | true =>
              have hR : R = (0, Sp.objB) := by rw [HE2.out, if_neg (by simp)]
              subst hR
              clear HE2
              go_upto_region 10 with fail
              go_region
              go_wp2
              (try simp only [Exit.inBlock, Exit.then])
              refine bodyPost_ret (results_c rfl _ _ _ rfl (ty_load _ _ _ (blk_cell hfin.out 0 (.int .i64 0) rfl).1 (blk_cell hfin.out 1 (.string Sp.objB) rfl).1)) rfl ?_
              exact ⟨rfl, hBf.out⟩
            | false =>
              have hRR := Lib.hid (show R = (0, Sp.lubC (L.map (·.1)) x y) by rw [HE2.out, if_pos ⟨rfl, rfl⟩])
              clear HE2 hfin hBf
              go_upto_region 10 with fail
              go_region
              have hKd := Lib.hid (show wc.drew.heap[w.heap.size]? = some (.cells #[.int .i64 0, .string x] 25 (0, 0)) from hK.out)
              have hMd := Lib.hid (show wc.drew.heap[w.heap.size + 1]? = some (.cells #[.int .i64 0, .string y] 25 (0, 0)) from hM.out)
              clear a1 a2 a3 a4 c1 c2 c3 c4 z1 z2 z3 z4 ha1 ha2 hf1 hf2 m1 m2 hlt hlk hK hM hZ hb1
              generalize wc.drew = W at *
              have ky := Lib.hid (chain_any W tb mb A c L y (H0.out.below hBd.out) ha hy (hch y))
              have kx := Lib.hid (fun W hb => chain_any W tb mb A c L x (H0.out.below hb) ha hx (hch x))
              obtain ⟨Z, hZq⟩ : ∃ Z, Sp.lubC (L.map (·.1)) x y = Z := ⟨_, rfl⟩
              have hR0 := Lib.hid (show Sp.commonS ((Sp.chainS (L.map (·.1)) x).drop 0) (Sp.chainS (L.map (·.1)) y) = Z from hZq)
              have hRR := Lib.hid (show R = (0, Z) by rw [hRR.out, hZq])
              have hX := hch x
              have hY := hch y
              generalize Sp.chainS (L.map (·.1)) x = X at *
              generalize Sp.chainS (L.map (·.1)) y = Y at *
              clear hZq
              obtain ⟨c1, c2, c3, c4⟩ := ty_box hMd.out
              have hlk := blk_lt hMd.out
              go_wp2_with fail
              refine ky.out.mono ?_
              rintro r w1 ⟨A3, c3', rfl, ho3, hb3⟩
              obtain ⟨_, hrY, _⟩ := own_rdL Sp.strC_len (by decide) ho3
              have hrY := Lib.hid hrY
              have hK1 := Lib.hid (blk_below hKd.out hb3)
              have hZ1 := Lib.hid (blk_below hZd.out hb3)
              have hB1 := Lib.hid (below_then hBd.out hBd.out.size hb3)
              have kx1 := Lib.hid (kx.out w1 hB1.out)
              clear c1 c2 c3 c4 hlk ky kx ho3 hb3 hKd hMd hZd hBd
              obtain ⟨c1, c2, c3, c4⟩ := ty_box hK1.out
              have hlk := blk_lt hK1.out
              go_wp2_with fail
              refine kx1.out.mono ?_
              rintro r w2 ⟨A4, c4', rfl, ho4, hb4⟩
              obtain ⟨_, hrX, _⟩ := own_rdL Sp.strC_len (by decide) ho4
              have hrX := Lib.hid hrX
              have hrY := Lib.hid (rdL_below hrY.out hb4)
              have hZ2 := Lib.hid (blk_below hZ1.out hb4)
              have hB2 := Lib.hid (below_then hB1.out hB1.out.size hb4)
              clear c1 c2 c3 c4 hlk kx1 ho4 hb4 hK1 hZ1 hB1
              go_wp2
              go_loopw [94] (fun vi wr => ∃ j : Nat, vi = .int .i64 j ∧ j ≤ X.length ∧ wr = w2 ∧ Hid (Sp.commonS (X.drop j) Y = Z)) (fun vi _ => X.length - (RowKit.intOf vi).toNat)
              case atStart => exact ⟨0, by go_num, Nat.zero_le _, rfl, hR0⟩
              case round =>
                clear hR0
                obtain ⟨j, rfl, hj, rfl, hf⟩ := hrel
                obtain ⟨z1, z2, z3, z4⟩ := ty_box hZ2.out
                have hlz := blk_lt hZ2.out
                by_cases hlt : j < X.length
                · have hzj : (j : Int) < (X.length : Int) := by omega
                  obtain ⟨b, o, rfl, hrg⟩ := hrX.out.2 (by omega)
                  have hcy : wr.cell? ⟨b, o + j, none⟩ = some (.string X[j]) := by
                    have := rdL_get 1 Sp.strC_len hrg hlt 0 (by decide) (v := .string X[j]) rfl
                    simpa using this
                  have hf2 := hf.out
                  rw [List.drop_eq_getElem_cons hlt, Sp.commonS_cons] at hf2
                  clear hf hrg
                  generalize X[j] = u at *
                  have kc := Lib.hid (fun W h => contains_any A3 c3' Y u W h)
                  generalize Y.any (fun z => decide (z = u)) = bb at *
                  have hf3 := Lib.hid hf2
                  clear hf2
                  have kc2 := Lib.hid (kc.out wr hrY.out)
                  clear kc
                  go_wp2_with fail
                  refine kc2.out.mono ?_
                  rintro r w3 ⟨rfl, rfl⟩
                  cases bb with
                  | true =>
                    have hRu : Z = u := by rw [← hf3.out, if_pos rfl]
                    subst hRu
                    have hR2 := hRR.out
                    subst hR2
                    have hfin := Lib.hid (blk_set (i := 1) (blk_set (i := 0) hZ2.out (.int .i64 0)) (.string Z))
                    have hBf := Lib.hid (Below.setCell (p := ⟨w.heap.size + 2, 1, none⟩) (Below.setCell (p := ⟨w.heap.size + 2, 0, none⟩) hB2.out (by show w.heap.size ≤ w.heap.size + 2; omega) (.int .i64 0)) (by show w.heap.size ≤ w.heap.size + 2; omega) (.string Z))
                    clear hf3 kc2
                    go_wp2
                    (try simp only [Exit.inBlock, Exit.then])
                    refine bodyPost_ret (results_c rfl _ _ _ rfl (ty_load _ _ _ (blk_cell hfin.out 0 (.int .i64 0) rfl).1 (blk_cell hfin.out 1 (.string Z) rfl).1)) rfl ?_
                    exact ⟨rfl, hBf.out⟩
                  | false =>
                    have hf4 := Lib.hid (show Sp.commonS (X.drop (j + 1)) Y = Z by rw [← hf3.out, if_neg (by simp)])
                    clear hf3 kc2
                    go_wp2
                    go_roundw
                    case rel => exact ⟨j + 1, by go_num, by omega, (by first | rfl | trivial), hf4⟩
                    case measure => simp [RowKit.intOf]; omega
                · have hzj : ¬ (j : Int) < (X.length : Int) := by omega
                  have hRo : Z = Sp.objB := by rw [← hf.out, List.drop_eq_nil_of_le (by omega)]; rfl
                  subst hRo
                  have hR2 := hRR.out
                  subst hR2
                  have hfin := Lib.hid (blk_set (i := 1) (blk_set (i := 0) hZ2.out (.int .i64 0)) (.string Sp.objB))
                  have hBf := Lib.hid (Below.setCell (p := ⟨w.heap.size + 2, 1, none⟩) (Below.setCell (p := ⟨w.heap.size + 2, 0, none⟩) hB2.out (by show w.heap.size ≤ w.heap.size + 2; omega) (.int .i64 0)) (by show w.heap.size ≤ w.heap.size + 2; omega) (.string Sp.objB))
                  clear hf
                  go_wp2
                  (try simp only [Exit.inBlock, Exit.then])
                  refine bodyPost_ret (results_c rfl _ _ _ rfl (ty_load _ _ _ (blk_cell hfin.out 0 (.int .i64 0) rfl).1 (blk_cell hfin.out 1 (.string Sp.objB) rfl).1)) rfl ?_
                  exact ⟨rfl, hBf.out⟩
        · have te0 : (e == 0) = false := by simp [he0]
          have hR : R = (0, Sp.objB) := by rw [HE1.out, if_neg (fun q => by have := q.1; omega)]; exact hl0.out (fun q => by have h1 : e = 0 := q.2; omega)
          subst hR
          clear HE1 k1 k2 k3 k4 IH1 hl0
          have hZd := Lib.hid (show wc.drew.heap[w.heap.size + 2]? = some (.cells #[.int .i64 0, .string ⟨#[]⟩] 25 (0, 0)) from hZ.out)
          have hBd := Lib.hid hb1.out.drew
          have hfin := Lib.hid (blk_set (i := 1) (blk_set (i := 0) hZd.out (.int .i64 0)) (.string Sp.objB))
          have hBf := Lib.hid (Below.setCell (p := ⟨w.heap.size + 2, 1, none⟩) (Below.setCell (p := ⟨w.heap.size + 2, 0, none⟩) hBd.out (by show w.heap.size ≤ w.heap.size + 2; omega) (.int .i64 0)) (by show w.heap.size ≤ w.heap.size + 2; omega) (.string Sp.objB))
          go_upto_region 10 with fail
          go_region
          go_wp2
          (try simp only [Exit.inBlock, Exit.then])
          refine bodyPost_ret (results_c rfl _ _ _ rfl (ty_load _ _ _ (blk_cell hfin.out 0 (.int .i64 0) rfl).1 (blk_cell hfin.out 1 (.string Sp.objB) rfl).1)) rfl ?_
          exact ⟨rfl, hBf.out⟩
theorem hlub_any (tb mb : Nat) (A : Option Addr) (c : Nat) (L : List Sp.ClP) (hL : L.length ≤ 10000) (ha : Sp.Acyc (L.map (·.1))) (hch : ∀ s, (Sp.chainS (L.map (·.1)) s).length ≤ 100000) : ∀ (n : Nat) (d : Int) (x : ByteArray) (e : Int) (y : ByteArray) (w : World), d.toNat ≤ n → Sp.isRefS (d, x) = true → Sp.isRefS (e, y) = true → x.size ≤ 1099511627776 → y.size ≤ 1099511627776 → HTab w tb mb A c L → Tabs w →
      Calls Tryz.prog 36 #[.pointer (some ⟨tb, 0, none⟩), .agg #[.int .i64 d, .string x], .agg #[.int .i64 e, .string y]] w fun r w' => r = .returned (Sp.tyV (Sp.lubN (L.map (·.1)) d.toNat (d, x) (e, y))) ∧ Below w.heap.size w w'
  | 0, d, x, e, y, w, hn, r1, r2, hx, hy, hH, hT => hlub_step tb mb A c L hL ha hch 0 (fun _ _ _ _ _ h => absurd h (Nat.not_lt_zero _)) d x e y w hn r1 r2 hx hy hH hT
  | n + 1, d, x, e, y, w, hn, r1, r2, hx, hy, hH, hT => hlub_step tb mb A c L hL ha hch (n + 1) (fun d x e y w h => hlub_any tb mb A c L hL ha hch n d x e y w (Nat.lt_succ_iff.1 h)) d x e y w hn r1 r2 hx hy hH hT
theorem Sp.chainF_len (L : List Sp.Cl) : ∀ (n : Nat) (s : ByteArray), (Sp.chainF n L s).length ≤ n
  | 0, _ => by simp [Sp.chainF]
  | n + 1, s => by
    unfold Sp.chainF
    split
    · simp
    · rw [List.length_cons]; have := Sp.chainF_len L n; rename_i c _; have := this c.super; omega
theorem Sp.chain_len (L : List Sp.Cl) (s : ByteArray) : (Sp.chainS L s).length ≤ L.length := Sp.chainF_len L _ s
end Go.Proofs.YtfjplmbknegidaaGreatDoor
end
section
/-
  Walks of chapter 6's fits: its two closures.
-/
set_option linter.unusedVariables false
set_option linter.unusedSimpArgs false
namespace Go.Proofs.YtfjplmbknegidaaGreatDoor
open Go.RowKit Go.Lib Go.Maps

set_option maxHeartbeats 4000000 in
set_option maxRecDepth 100000 in
theorem fits1_any (w : World) (tb mb bt : Nat) (A : Option Addr) (c : Nat) (L : List Sp.ClP) (n : ByteArray) (hH : HTab w tb mb A c L) (hbt : w.heap[bt]? = some (.cells #[.pointer (some ⟨tb, 0, none⟩)] 27 (0, 0))) (hs : n.size ≤ 1099511627776) :
    Calls Tryz.prog 67 #[.string n, .pointer (some ⟨bt, 0, none⟩)] w fun e w' => e = .returned (.bool (!(Sp.findP L n).isSome)) ∧ Below w.heap.size w w' := by
  obtain ⟨m, hm⟩ : ∃ m, (Sp.findP L n).getD Sp.zP = m := ⟨_, rfl⟩
  obtain ⟨⟨nm, su, ifs, b1, b2, b3, at_⟩, mA, mc⟩ := m
  have hv := Lib.hid (show Sp.clV ((Sp.findP L n).getD Sp.zP) = .agg #[.string nm, .string su, .slice mA ifs.length mc, .bool b1, .bool b2, .bool b3, .int .i64 at_] by rw [hm]; rfl)
  clear hm
  have hmp := Lib.hid hH.mp
  have hsm := Lib.hid (show n.size ≤ maxLen by unfold maxLen; omega)
  generalize hfs : (Sp.findP L n).isSome = fs at *
  have hfs := Lib.hid hfs
  obtain ⟨c1, f1⟩ := blk_cell hH.box 1 (.map (some mb)) rfl
  obtain ⟨d1, g1⟩ := blk_cell hbt 0 (.pointer (some ⟨tb, 0, none⟩)) rfl
  have hl2 := blk_lt hbt
  have hl3 := blk_lt hH.box
  go_enter Tryz.func67, Tryz.ntmps67
  have hbw := Lib.hid ((Below.refl w.heap.size w).alloc (Nat.le_refl _) (.cells #[.string nm, .string su, .slice mA ifs.length mc, .bool b1, .bool b2, .bool b3, .int .i64 at_] 44))
  clear hH hbt
  go_wp2_with (at_lookup; refine wpList_lookup_cl_ok _ rfl _ _ rfl mb 100000 L rfl hmp.out n hsm.out rfl _ hv.out fs hfs.out ?_)
  go_ret
  exact ⟨rfl, hbw.out⟩

set_option maxHeartbeats 4000000 in
set_option maxRecDepth 100000 in
theorem fits2_any (w : World) (tb mb bt : Nat) (A : Option Addr) (c : Nat) (L : List Sp.ClP) (n : ByteArray) (hH : HTab w tb mb A c L) (hbt : w.heap[bt]? = some (.cells #[.pointer (some ⟨tb, 0, none⟩)] 27 (0, 0))) (hs : n.size ≤ 1099511627776) :
    Calls Tryz.prog 68 #[.string n, .pointer (some ⟨bt, 0, none⟩)] w fun e w' => e = .returned (.bool (!((Sp.findP L n).getD Sp.zP).1.iface)) ∧ Below w.heap.size w w' := by
  obtain ⟨m, hm⟩ : ∃ m, (Sp.findP L n).getD Sp.zP = m := ⟨_, rfl⟩
  obtain ⟨⟨nm, su, ifs, b1, b2, b3, at_⟩, mA, mc⟩ := m
  have hv := Lib.hid (show Sp.clV ((Sp.findP L n).getD Sp.zP) = .agg #[.string nm, .string su, .slice mA ifs.length mc, .bool b1, .bool b2, .bool b3, .int .i64 at_] by rw [hm]; rfl)
  rw [hm]
  clear hm
  obtain ⟨c1, f1⟩ := blk_cell hH.box 1 (.map (some mb)) rfl
  obtain ⟨d1, g1⟩ := blk_cell hbt 0 (.pointer (some ⟨tb, 0, none⟩)) rfl
  have hl2 := blk_lt hbt
  have hl3 := blk_lt hH.box
  have hmp := Lib.hid hH.mp
  have hsm := Lib.hid (show n.size ≤ maxLen by unfold maxLen; omega)
  have hf3 := field3 nm su mA ifs.length mc b1 b2 b3 at_
  go_enter Tryz.func68, Tryz.ntmps68
  go_wp2_with (at_lookup; refine wpList_lookup_cl _ rfl _ _ rfl mb 100000 L rfl hmp.out n hsm.out rfl _ hv.out ?_)
  go_ret
  exact ⟨rfl, Below.refl _ _⟩
end Go.Proofs.YtfjplmbknegidaaGreatDoor
end
