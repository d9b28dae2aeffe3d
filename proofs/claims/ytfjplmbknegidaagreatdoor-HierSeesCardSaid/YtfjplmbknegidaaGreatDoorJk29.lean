/-
  Texts of the proof, joined: each says at its head what it proves.
-/
import Derived.Test.YtfjplmbknegidaaGreatDoorJk19
import Derived.Test.YtfjplmbknegidaaGreatDoorJk28
import Derived.Test.YtfjplmbknegidaaGreatDoorJk26
section
/-
  Walk of chapter 6's Lub.
-/
set_option linter.unusedVariables false
set_option linter.unusedSimpArgs false
namespace Go.Proofs.YtfjplmbknegidaaGreatDoor
open Go.RowKit Go.Lib Go.Maps

set_option maxHeartbeats 8000000 in
set_option maxRecDepth 100000 in
theorem hLub_any (w : World) (tb mb : Nat) (A : Option Addr) (c : Nat) (L : List Sp.ClP) (hL : L.length ≤ 10000) (ha : Sp.Acyc (L.map (·.1))) (d : Int) (x : ByteArray) (e : Int) (y : ByteArray) (hx : x.size ≤ 1099511627776) (hy : y.size ≤ 1099511627776) (hH : HTab w tb mb A c L) (hT : Tabs w) :
    Calls Tryz.prog 14 #[.pointer (some ⟨tb, 0, none⟩), Sp.tyV (d, x), Sp.tyV (e, y)] w fun r w' => r = .returned (.tuple #[Sp.tyV (Sp.lubS (L.map (·.1)) (d, x) (e, y)).1, .bool (Sp.lubS (L.map (·.1)) (d, x) (e, y)).2]) ∧ Below w.heap.size w w' := by
  have HE := Lib.hid (show Sp.lubS (L.map (·.1)) (d, x) (e, y) = _ by rw [Sp.lubS])
  have hch : ∀ s, (Sp.chainS (L.map (·.1)) s).length ≤ 100000 := fun s => by have := Sp.chain_len (L.map (·.1)) s; rw [List.length_map] at this; omega
  have k1 := Lib.hid (fun W hH hT => hknown_any W tb mb A c L d x hH hx hT)
  have k2 := Lib.hid (fun W hH hT => hknown_any W tb mb A c L e y hH hy hT)
  have k3 := Lib.hid (fun W hT => isRef_any d x W hx hT)
  have k4 := Lib.hid (fun W hT => isRef_any e y W hy hT)
  have k5 := Lib.hid (fun h1 h2 W hH hT => hlub_any tb mb A c L hL ha hch d.toNat d x e y W (Nat.le_refl _) h1 h2 hx hy hH hT)
  generalize Sp.lubS (L.map (·.1)) (d, x) (e, y) = R at *
  generalize Sp.lubN (L.map (·.1)) d.toNat (d, x) (e, y) = N at *
  try simp only at HE
  obtain ⟨r1, hr1⟩ : ∃ r, Sp.knownS (L.map (·.1)) (d, x) = r := ⟨_, rfl⟩
  obtain ⟨r2, hr2⟩ : ∃ r, Sp.knownS (L.map (·.1)) (e, y) = r := ⟨_, rfl⟩
  obtain ⟨r3, hr3⟩ : ∃ r, Sp.isRefS (d, x) = r := ⟨_, rfl⟩
  obtain ⟨r4, hr4⟩ : ∃ r, Sp.isRefS (e, y) = r := ⟨_, rfl⟩
  rw [hr1, hr2, hr3, hr4] at HE
  rw [hr1] at k1
  rw [hr2] at k2
  rw [hr3] at k3 k5
  rw [hr4] at k4 k5
  clear hr1 hr2 hr3 hr4 hch
  unfold Sp.tyV at k1 k2 k3 k4 k5 ⊢
  simp only at k1 k2 k3 k4 k5 ⊢
  obtain ⟨nd, nn⟩ := N
  simp only at k5
  have H0 := Lib.hid hH
  have T0 := Lib.hid hT
  have hb1 := Lib.hid ((((Below.refl w.heap.size w).alloc (Nat.le_refl _) (.cells #[.int .i64 d, .string x] 25)).alloc (by simp) (.cells #[.int .i64 e, .string y] 25)).alloc (by simp; omega) (.cells #[.int .i64 0, .string ⟨#[]⟩] 25))
  have hK := Lib.hid (blk_old (o := .cells #[.int .i64 0, .string ⟨#[]⟩] 25) (blk_old (o := .cells #[.int .i64 e, .string y] 25) (blk_new w (.cells #[.int .i64 d, .string x] 25))))
  have hM := Lib.hid (blk_old (o := .cells #[.int .i64 0, .string ⟨#[]⟩] 25) (blk_new (w.alloc (.cells #[.int .i64 d, .string x] 25)) (.cells #[.int .i64 e, .string y] 25)))
  rw [show (w.alloc (.cells #[.int .i64 d, .string x] 25)).heap.size = w.heap.size + 1 by simp] at hM
  have hZ := Lib.hid (blk_new ((w.alloc (.cells #[.int .i64 d, .string x] 25)).alloc (.cells #[.int .i64 e, .string y] 25)) (.cells #[.int .i64 0, .string ⟨#[]⟩] 25))
  rw [show ((w.alloc (.cells #[.int .i64 d, .string x] 25)).alloc (.cells #[.int .i64 e, .string y] 25)).heap.size = w.heap.size + 2 by simp] at hZ
  clear hH hT
  go_enter Tryz.func14, Tryz.ntmps14
  go_upto_region 1 with fail
  generalize ((w.alloc (.cells #[.int .i64 d, .string x] 25)).alloc (.cells #[.int .i64 e, .string y] 25)).alloc (.cells #[.int .i64 0, .string ⟨#[]⟩] 25) = W at *
  obtain ⟨a1, a2, a3, a4⟩ := ty_box hK.out
  obtain ⟨c1, c2, c3, c4⟩ := ty_box hM.out
  have hlk := blk_lt hM.out
  go_wp2_with fail
  refine (k1.out W (H0.out.below hb1.out) (T0.out.below hb1.out)).mono ?_
  rintro r w1 ⟨rfl, hb2⟩
  have hK1 := Lib.hid (blk_below hK.out hb2)
  have hM1 := Lib.hid (blk_below hM.out hb2)
  have hZ1 := Lib.hid (blk_below hZ.out hb2)
  have hB1 := Lib.hid (below_then hb1.out hb1.out.size hb2)
  clear a1 a2 a3 a4 c1 c2 c3 c4 hlk hK hM hZ hb1 hb2 k1
  cases r1 with
  | false =>
    have hR : R = ((0, Sp.nilB), false) := by rw [HE.out, if_neg (by simp)]
    subst hR
    clear HE k2 k3 k4 k5
    have hfin := Lib.hid (blk_set (i := 1) (blk_set (i := 0) hZ1.out (.int .i64 0)) (.string ⟨#[]⟩))
    have hBf := Lib.hid (Below.setCell (p := ⟨w.heap.size + 2, 1, none⟩) (Below.setCell (p := ⟨w.heap.size + 2, 0, none⟩) hB1.out (by show w.heap.size ≤ w.heap.size + 2; omega) (.int .i64 0)) (by show w.heap.size ≤ w.heap.size + 2; omega) (.string ⟨#[]⟩))
    obtain ⟨z1, z2, z3, z4⟩ := ty_box hZ1.out
    have hlz := blk_lt hZ1.out
    go_wp2
    (try simp only [Exit.inBlock, Exit.then])
    refine bodyPost_ret (results_ct rfl _ _ _ rfl (ty_load _ _ _ (blk_cell hfin.out 0 (.int .i64 0) rfl).1 (blk_cell hfin.out 1 (.string ⟨#[]⟩) rfl).1)) rfl ?_
    exact ⟨rfl, hBf.out⟩
  | true =>
    obtain ⟨c1, c2, c3, c4⟩ := ty_box hM1.out
    have hlk := blk_lt hM1.out
    go_wp2_with fail
    refine (k2.out w1 (H0.out.below hB1.out) (T0.out.below hB1.out)).mono ?_
    rintro r w2 ⟨rfl, hb2⟩
    have hK2 := Lib.hid (blk_below hK1.out hb2)
    have hM2 := Lib.hid (blk_below hM1.out hb2)
    have hZ2 := Lib.hid (blk_below hZ1.out hb2)
    have hB2 := Lib.hid (below_then hB1.out hB1.out.size hb2)
    clear c1 c2 c3 c4 hlk hK1 hM1 hZ1 hB1 hb2 k2
    cases r2 with
    | false =>
      have hR : R = ((0, Sp.nilB), false) := by rw [HE.out, if_neg (by simp)]
      subst hR
      clear HE k3 k4 k5
      have hfin := Lib.hid (blk_set (i := 1) (blk_set (i := 0) hZ2.out (.int .i64 0)) (.string ⟨#[]⟩))
      have hBf := Lib.hid (Below.setCell (p := ⟨w.heap.size + 2, 1, none⟩) (Below.setCell (p := ⟨w.heap.size + 2, 0, none⟩) hB2.out (by show w.heap.size ≤ w.heap.size + 2; omega) (.int .i64 0)) (by show w.heap.size ≤ w.heap.size + 2; omega) (.string ⟨#[]⟩))
      obtain ⟨z1, z2, z3, z4⟩ := ty_box hZ2.out
      have hlz := blk_lt hZ2.out
      go_wp2
      (try simp only [Exit.inBlock, Exit.then])
      refine bodyPost_ret (results_ct rfl _ _ _ rfl (ty_load _ _ _ (blk_cell hfin.out 0 (.int .i64 0) rfl).1 (blk_cell hfin.out 1 (.string ⟨#[]⟩) rfl).1)) rfl ?_
      exact ⟨rfl, hBf.out⟩
    | true =>
      obtain ⟨a1, a2, a3, a4⟩ := ty_box hK2.out
      have hlk := blk_lt hM2.out
      have hlk0 := blk_lt hK2.out
      go_wp2_with fail
      refine (k3.out w2 (T0.out.below hB2.out)).mono ?_
      rintro r w3 ⟨rfl, hb2⟩
      have hK3 := Lib.hid (blk_below hK2.out hb2)
      have hM3 := Lib.hid (blk_below hM2.out hb2)
      have hZ3 := Lib.hid (blk_below hZ2.out hb2)
      have hB3 := Lib.hid (below_then hB2.out hB2.out.size hb2)
      clear a1 a2 a3 a4 hlk hlk0 hK2 hM2 hZ2 hB2 hb2 k3
      cases r3 with
      | false =>
        have hR : R = ((0, Sp.nilB), false) := by rw [HE.out, if_neg (by simp)]
        subst hR
        clear HE k4 k5
        have hfin := Lib.hid (blk_set (i := 1) (blk_set (i := 0) hZ3.out (.int .i64 0)) (.string ⟨#[]⟩))
        have hBf := Lib.hid (Below.setCell (p := ⟨w.heap.size + 2, 1, none⟩) (Below.setCell (p := ⟨w.heap.size + 2, 0, none⟩) hB3.out (by show w.heap.size ≤ w.heap.size + 2; omega) (.int .i64 0)) (by show w.heap.size ≤ w.heap.size + 2; omega) (.string ⟨#[]⟩))
        obtain ⟨z1, z2, z3, z4⟩ := ty_box hZ3.out
        have hlz := blk_lt hZ3.out
        go_wp2
        (try simp only [Exit.inBlock, Exit.then])
        refine bodyPost_ret (results_ct rfl _ _ _ rfl (ty_load _ _ _ (blk_cell hfin.out 0 (.int .i64 0) rfl).1 (blk_cell hfin.out 1 (.string ⟨#[]⟩) rfl).1)) rfl ?_
        exact ⟨rfl, hBf.out⟩
      | true =>
        obtain ⟨c1, c2, c3, c4⟩ := ty_box hM3.out
        have hlk := blk_lt hM3.out
        go_wp2_with fail
        refine (k4.out w3 (T0.out.below hB3.out)).mono ?_
        rintro r w4 ⟨rfl, hb2⟩
        have hK4 := Lib.hid (blk_below hK3.out hb2)
        have hM4 := Lib.hid (blk_below hM3.out hb2)
        have hZ4 := Lib.hid (blk_below hZ3.out hb2)
        have hB4 := Lib.hid (below_then hB3.out hB3.out.size hb2)
        clear c1 c2 c3 c4 hlk hK3 hM3 hZ3 hB3 hb2 k4
        cases r4 with
        | false =>
          have hR : R = ((0, Sp.nilB), false) := by rw [HE.out, if_neg (by simp)]
          subst hR
          clear HE k5
          have hfin := Lib.hid (blk_set (i := 1) (blk_set (i := 0) hZ4.out (.int .i64 0)) (.string ⟨#[]⟩))
          have hBf := Lib.hid (Below.setCell (p := ⟨w.heap.size + 2, 1, none⟩) (Below.setCell (p := ⟨w.heap.size + 2, 0, none⟩) hB4.out (by show w.heap.size ≤ w.heap.size + 2; omega) (.int .i64 0)) (by show w.heap.size ≤ w.heap.size + 2; omega) (.string ⟨#[]⟩))
          obtain ⟨z1, z2, z3, z4⟩ := ty_box hZ4.out
          have hlz := blk_lt hZ4.out
          go_wp2
          (try simp only [Exit.inBlock, Exit.then])
          refine bodyPost_ret (results_ct rfl _ _ _ rfl (ty_load _ _ _ (blk_cell hfin.out 0 (.int .i64 0) rfl).1 (blk_cell hfin.out 1 (.string ⟨#[]⟩) rfl).1)) rfl ?_
          exact ⟨rfl, hBf.out⟩
        | true =>
          have hR : R = ((nd, nn), true) := by rw [HE.out, if_pos (by simp)]
          subst hR
          have k6 := Lib.hid (k5.out (by simp) (by simp) w4 (H0.out.below hB4.out) (T0.out.below hB4.out))
          obtain ⟨a1, a2, a3, a4⟩ := ty_box hK4.out
          obtain ⟨c1, c2, c3, c4⟩ := ty_box hM4.out
          have hlk := blk_lt hM4.out
          clear HE k5
          go_wp2_with fail
          refine k6.out.mono ?_
          rintro r w5 ⟨rfl, hb2⟩
          have hZ5 := Lib.hid (blk_below hZ4.out hb2)
          have hB5 := Lib.hid (below_then hB4.out hB4.out.size hb2)
          clear a1 a2 a3 a4 c1 c2 c3 c4 hlk hK4 hM4 hZ4 hB4 hb2 k6
          have hfin := Lib.hid (blk_set (i := 1) (blk_set (i := 0) hZ5.out (.int .i64 nd)) (.string nn))
          have hBf := Lib.hid (Below.setCell (p := ⟨w.heap.size + 2, 1, none⟩) (Below.setCell (p := ⟨w.heap.size + 2, 0, none⟩) hB5.out (by show w.heap.size ≤ w.heap.size + 2; omega) (.int .i64 nd)) (by show w.heap.size ≤ w.heap.size + 2; omega) (.string nn))
          obtain ⟨z1, z2, z3, z4⟩ := ty_box hZ5.out
          have hlz := blk_lt hZ5.out
          go_wp2
          (try simp only [Exit.inBlock, Exit.then])
          refine bodyPost_ret (results_ct rfl _ _ _ rfl (ty_load _ _ _ (blk_cell hfin.out 0 (.int .i64 nd) rfl).1 (blk_cell hfin.out 1 (.string nn) rfl).1)) rfl ?_
          exact ⟨rfl, hBf.out⟩
end Go.Proofs.YtfjplmbknegidaaGreatDoor
end
section
/-
  A table as the laws of chapter 6 use it: what a call on it answers, in whatever later world.
-/
set_option linter.unusedVariables false
set_option linter.unusedSimpArgs false
namespace Go.Proofs.YtfjplmbknegidaaGreatDoor
open Go.RowKit Go.Lib Go.Maps
/-- What calls on a table answer, from a world on. -/
structure HKit (w0 : World) (tb : Nat) (L : List Sp.Cl) : Prop where
  sub : ∀ (W : World) (a b : Sp.Ty), Below w0.heap.size w0 W → a.2.size ≤ 1099511627776 → b.2.size ≤ 1099511627776 →
    Calls Tryz.prog 16 #[.pointer (some ⟨tb, 0, none⟩), .agg #[.int .i64 a.1, .string a.2], .agg #[.int .i64 b.1, .string b.2]] W fun e w' => e = .returned (.bool (Sp.subS L a b)) ∧ Below W.heap.size W w'
  lub : ∀ (W : World) (a b : Sp.Ty), Below w0.heap.size w0 W → a.2.size ≤ 1099511627776 → b.2.size ≤ 1099511627776 →
    Calls Tryz.prog 14 #[.pointer (some ⟨tb, 0, none⟩), .agg #[.int .i64 a.1, .string a.2], .agg #[.int .i64 b.1, .string b.2]] W fun e w' => e = .returned (.tuple #[.agg #[.int .i64 (Sp.lubS L a b).1.1, .string (Sp.lubS L a b).1.2], .bool (Sp.lubS L a b).2]) ∧ Below W.heap.size W w'
  chain : ∀ (W : World) (s : ByteArray), Below w0.heap.size w0 W → s.size ≤ 1099511627776 →
    Calls Tryz.prog 26 #[.pointer (some ⟨tb, 0, none⟩), .string s] W fun e w' => ∃ A' c', e = .returned (.slice A' (Sp.chainS L s).length c') ∧ RdL Sp.strC w' A' (Sp.chainS L s) ∧ Below W.heap.size W w'
  names : ∀ (W : World), Below w0.heap.size w0 W →
    Calls Tryz.prog 23 #[.pointer (some ⟨tb, 0, none⟩)] W fun e w' => ∃ A' c', e = .returned (.slice A' (L.map (·.name)).length c') ∧ RdL Sp.strC w' A' (L.map (·.name)) ∧ Below W.heap.size W w'
  find : ∀ (W : World) (s : ByteArray), Below w0.heap.size w0 W → s.size ≤ 1099511627776 →
    Calls Tryz.prog 18 #[.pointer (some ⟨tb, 0, none⟩), .string s] W fun e w' => ∃ A' c', e = .returned (.tuple #[.agg #[.string (Sp.getC L s).name, .string (Sp.getC L s).super, .slice A' (Sp.getC L s).ifaces.length c', .bool (Sp.getC L s).iface, .bool (Sp.getC L s).abs, .bool (Sp.getC L s).own, .int .i64 (Sp.getC L s).at_], .bool (Sp.findC L s).isSome]) ∧ RdL Sp.strC w' A' (Sp.getC L s).ifaces ∧ Below W.heap.size W w'
  opens : ∀ (W : World) (fA : Option Addr) (fc : Nat) (fs : List (Sp.At × FlP)), Below w0.heap.size w0 W → RdL Sp.flE W fA fs → (∀ x ∈ fs, FileIn W x) →
    Calls Tryz.prog 22 #[.pointer (some ⟨tb, 0, none⟩), .slice fA fs.length fc] W fun e w' => Below W.heap.size W w' ∧ Sp.OpenP W.heap.size (Sp.openS L (Sp.rcF (fs.map (·.2)) 0)) e w'
  txt : ∀ c ∈ L, c.name.size ≤ 1099511627776 ∧ c.super.size ≤ 1099511627776 ∧ ∀ i ∈ c.ifaces, i.size ≤ 1099511627776
theorem HKit.later {w0 w1 : World} {tb : Nat} {L : List Sp.Cl} (h : HKit w0 tb L) (hb : Below w0.heap.size w0 w1) : HKit w1 tb L :=
  have hz := hb.size
  ⟨fun W a b q => h.sub W a b (below_then hb hz q), fun W a b q => h.lub W a b (below_then hb hz q), fun W s q => h.chain W s (below_then hb hz q), fun W q => h.names W (below_then hb hz q), fun W s q => h.find W s (below_then hb hz q), fun W fA fc fs q => h.opens W fA fc fs (below_then hb hz q), h.txt⟩
theorem hkit {w0 : World} {B tb mb : Nat} {A : Option Addr} {c : Nat} {L : List Sp.ClP} (hM : HMk w0 B tb mb A c L) (hL : L.length ≤ 1000) (hT : Sp.Tb (L.map (·.1))) (hTb : Tabs w0) : HKit w0 tb (L.map (·.1)) := by
  have hH := hM.tab (by omega)
  refine ⟨fun W a b q h1 h2 => ?_, fun W a b q h1 h2 => ?_, fun W s q hs => ?_, fun W q => ?_, fun W s q hs => ?_, fun W fA fc fs q h1 h2 => ?_, fun m hm => ?_⟩
  · obtain ⟨d, x⟩ := a
    obtain ⟨e, y⟩ := b
    exact hSub_any W tb mb A c L (by omega) d x e y h1 h2 (hH.below q) (hTb.below q)
  · obtain ⟨d, x⟩ := a
    obtain ⟨e, y⟩ := b
    exact hLub_any W tb mb A c L (by omega) hT.acyc d x e y h1 h2 (hH.below q) (hTb.below q)
  · have hch : (Sp.chainS (L.map (·.1)) s).length ≤ 100000 := by have := Sp.chain_len (L.map (·.1)) s; rw [List.length_map] at this; omega
    refine (chain_any W tb mb A c L s (hH.below q) hT.acyc hs hch).mono ?_
    rintro e w' ⟨A', c', rfl, ho, hb⟩
    exact ⟨A', c', rfl, (own_rdL Sp.strC_len (by decide) ho).2.1, hb⟩
  · refine (names_any W tb mb A c L (hH.below q) (by omega)).mono ?_
    rintro e w' ⟨A', c', rfl, ho, hb⟩
    have he : (L.map (·.1)).map (·.name) = L.map (·.1.name) := by rw [List.map_map]; rfl
    rw [he, List.length_map]
    exact ⟨A', c', rfl, (own_rdL Sp.strC_len (by decide) ho).2.1, hb⟩
  · refine (hfind_any W tb mb A c L s (hH.below q) hs).mono ?_
    rintro e w' ⟨A', c', rfl, ho, hb⟩
    exact ⟨A', c', rfl, (own_rdL Sp.strC_len (by decide) ho).2.1, hb⟩
  · rw [← Sp.rcF_rc]
    exact open_any W tb mb A c L fA fc fs (hH.below q) (by have := hT.nodup; rwa [List.map_map] at this) (by omega) h1 h2 (hTb.below q)
  · obtain ⟨x, hx, rfl⟩ := List.mem_map.1 hm
    exact hH.cls.size x hx
/-- What New answers, as its users see it. -/
def MadeP (R : Option (List Sp.Cl) × Int × Nat) (e : Ending) (w' : World) : Prop :=
  (R.1 = none ∧ e = .returned (.tuple #[.pointer none, .int .i64 R.2.1, .int .i64 R.2.2])) ∨
  ∃ tb L, R.1 = some L ∧ e = .returned (.tuple #[.pointer (some ⟨tb, 0, none⟩), .int .i64 0, .int .i64 0]) ∧ HKit w' tb L
theorem made_of {B : Nat} {T : List Sp.Cl} {fs : List FlP} {e : Ending} {w' : World} (hT : Sp.Tb T) (hN : Sp.Nm T) (hl : T.length ≤ 900) (hTb : Tabs w') (h : Sp.OpenP B (Sp.openS T (Sp.rcF fs 0)) e w') : MadeP (Sp.openS T (Sp.rcF fs 0)) e w' := by
  rcases h with h | ⟨tb, mb, A, c, L, h1, h2, h3⟩
  · exact .inl h
  · obtain ⟨m1, m2, m3, m4⟩ := Sp.made_tb hT hN h1
    rw [List.length_map] at m3
    exact .inr ⟨tb, _, h1, h2, hkit h3 (by omega) m1 hTb⟩
/-- 'hier.New'. -/
theorem hNewM_any (w : World) (fA : Option Addr) (fc : Nat) (fs : List (Sp.At × FlP)) (hf : RdL Sp.flE w fA fs) (hF : ∀ x ∈ fs, FileIn w x) (hTb : Tabs w) :
    Calls Tryz.prog 10 #[.slice fA fs.length fc] w fun e w' => Below w.heap.size w w' ∧ MadeP (Sp.openS Sp.builtC (Sp.rcF (fs.map (·.2)) 0)) e w' :=
  (hNew_any w fA fc fs hf hF hTb).mono fun e w' ⟨hb, hP⟩ => ⟨hb, made_of Sp.built_tb Sp.built_nm (by decide) (hTb.below hb) hP⟩
end Go.Proofs.YtfjplmbknegidaaGreatDoor
end
section
/-
  Plain: chapter 6's examples.
-/
set_option linter.unusedVariables false
set_option linter.unusedSimpArgs false
set_option maxRecDepth 100000
namespace Go.Proofs.YtfjplmbknegidaaGreatDoor.Sp
open Go.RowKit Go.Lib
abbrev nA : ByteArray := ⟨#[65]⟩
abbrev nB : ByteArray := ⟨#[66]⟩
abbrev nI : ByteArray := ⟨#[73]⟩
abbrev nX : ByteArray := ⟨#[88]⟩
abbrev nStr : ByteArray := ⟨#[83, 116, 114, 105, 110, 103]⟩
def exF1 : List FlP := [fileF 0 nA objB [], fileF 0 nB nA [nI], fileF 3 nI objB []]
def exF2 : List FlP := [fileF 0 nA nB [], fileF 0 nB nA []]
def exF3 : List FlP := [fileF 0 nA nStr []]
def exF4 : List FlP := [fileF 0 nA objB [], fileF 0 nA objB []]
def exC1 : List Cl := [⟨nA, objB, [], false, false, true, 0⟩, ⟨nB, nA, [nI], false, false, true, 1⟩, ⟨nI, objB, [], true, true, true, 2⟩]
def exL1 : List Cl := builtC.map unown ++ exC1
theorem ex_rc1 : rcF exF1 0 = exC1.map (fun c => (0, c)) := by kernel_rfl
theorem ex_rc2 : rcF exF2 0 = [(0, ⟨nA, nB, [], false, false, true, 0⟩), (0, ⟨nB, nA, [], false, false, true, 1⟩)] := by kernel_rfl
theorem ex_rc3 : rcF exF3 0 = [(0, ⟨nA, nStr, [], false, false, true, 0⟩)] := by kernel_rfl
theorem ex_rc4 : rcF exF4 0 = [(0, ⟨nA, objB, [], false, false, true, 0⟩), (0, ⟨nA, objB, [], false, false, true, 1⟩)] := by kernel_rfl
def exRank (s : ByteArray) : Nat := if s = objB then 0 else if (under ++ [nA, nI]).any (fun y => decide (y = s)) = true then 1 else 2
theorem ex_all : exL1.all (fun c => decide (c.name ≠ nilB) && (c.super :: c.ifaces).all (fun y => decide (y = nilB ∨ exRank y < exRank c.name))) = true := by decide +kernel
theorem ex_acyc : Acyc exL1 := by
  have hall := List.all_eq_true.1 ex_all
  refine acyc_rank exRank (fun c h => ?_) (fun c h y hy => ?_)
  · have := hall c h
    simp only [Bool.and_eq_true, decide_eq_true_eq] at this
    exact this.1
  · have := hall c h
    simp only [Bool.and_eq_true, decide_eq_true_eq] at this
    have := List.all_eq_true.1 this.2 y hy
    simpa using this
theorem ex_open1 : openS builtC (rcF exF1 0) = (some exL1, 0, 0) := by
  have h2 : (rcF exF1 0).map (·.2) = exC1 := by rw [ex_rc1]; rfl
  have h1 : (addS (builtC.map unown) (rcF exF1 0) 0).1 = 0 := by rw [ex_rc1]; decide +kernel
  have h3 : (kindsS exL1 exC1 0).1 = 0 := by decide +kernel
  have h4 : (cycS exL1 exC1 0).1 = 0 := cyc_zero (fun c hc => ex_acyc c (List.mem_append_right _ hc))
  unfold openS
  rw [rcF_len, if_neg (by decide), if_neg (by rw [h1]; simp), h2]
  show (if (kindsS exL1 exC1 0).1 ≠ 0 then _ else if (cycS exL1 exC1 0).1 ≠ 0 then _ else _) = _
  rw [if_neg (by rw [h3]; simp), if_neg (by rw [h4]; simp)]
  rfl
theorem ex_open2 : openS builtC (rcF exF2 0) = (none, 16, 0) := by
  have h1 : (addS (builtC.map unown) (rcF exF2 0) 0).1 = 0 := by rw [ex_rc2]; decide +kernel
  unfold openS
  rw [rcF_len, if_neg (by decide), if_neg (by rw [h1]; simp)]
  rw [ex_rc2, if_neg (by decide +kernel)]
  have hu : upB (builtC.map unown ++ [⟨nA, nB, [], false, false, true, 0⟩, ⟨nB, nA, [], false, false, true, 1⟩]) nA nA = true := by
    rw [upB_iff]
    exact .step (y := nB) (List.mem_cons.2 (.inl (by decide +kernel))) (.one (List.mem_cons.2 (.inl (by decide +kernel))))
  have hc : cycS (builtC.map unown ++ [⟨nA, nB, [], false, false, true, 0⟩, ⟨nB, nA, [], false, false, true, 1⟩]) [⟨nA, nB, [], false, false, true, 0⟩, ⟨nB, nA, [], false, false, true, 1⟩] 0 = (16, 0) := by
    unfold cycS
    rw [if_pos hu]
  simp only [List.map_cons, List.map_nil]
  rw [hc]
  simp
theorem ex_open3 : openS builtC (rcF exF3 0) = (none, 17, 0) := by
  have h1 : (addS (builtC.map unown) (rcF exF3 0) 0).1 = 0 := by rw [ex_rc3]; decide +kernel
  unfold openS
  rw [rcF_len, if_neg (by decide), if_neg (by rw [h1]; simp), ex_rc3, if_pos (by decide +kernel)]
  have h : kindsS (builtC.map unown ++ [((0 : Int), (⟨nA, nStr, [], false, false, true, 0⟩ : Cl))].map (·.2)) ([((0 : Int), (⟨nA, nStr, [], false, false, true, 0⟩ : Cl))].map (·.2)) 0 = (17, 0) := by decide +kernel
  rw [h]
theorem ex_open4 : openS builtC (rcF exF4 0) = (none, 15, 1) := by
  unfold openS
  rw [rcF_len, if_neg (by decide), ex_rc4, if_pos (by decide +kernel)]
  have h1 : (addS (builtC.map unown) [((0 : Int), (⟨nA, objB, [], false, false, true, 0⟩ : Cl)), ((0 : Int), (⟨nA, objB, [], false, false, true, 1⟩ : Cl))] 0).1 = 15 := by decide +kernel
  have h2 : (addS (builtC.map unown) [((0 : Int), (⟨nA, objB, [], false, false, true, 0⟩ : Cl)), ((0 : Int), (⟨nA, objB, [], false, false, true, 1⟩ : Cl))] 0).2.1 = 1 := by decide +kernel
  rw [h1, h2]
theorem ex_up {x y : ByteArray} (h : upB exL1 x y = true) : y = nilB ∨ exRank y < exRank x := by
  have hall := List.all_eq_true.1 ex_all
  have h9 : UpC exL1 x y := upB_iff.1 h
  clear h
  have h0 : ∀ c ∈ exL1, c.name ≠ nilB := fun c h => by
    have := hall c h
    simp only [Bool.and_eq_true, decide_eq_true_eq] at this
    exact this.1
  have edge : ∀ {a b : ByteArray}, EdgeC exL1 a b → b = nilB ∨ exRank b < exRank a := by
    intro a b he
    unfold EdgeC at he
    cases hf : findC exL1 a with
    | none => rw [getC_none hf] at he; exact .inl (by simpa [zC] using he)
    | some d =>
      rw [getC_some hf] at he
      obtain ⟨e1, e2⟩ := findC_name hf
      rw [← e1]
      have := hall d e2
      simp only [Bool.and_eq_true, decide_eq_true_eq] at this
      have := List.all_eq_true.1 this.2 b he
      simpa using this
  induction h9 with
  | one he => exact edge he
  | @step a b z he hu ih =>
    rcases edge he with rfl | q
    · left
      have := Up.closed (S := fun z => z = nilB) (fun a b ha hab => by
        unfold EdgeC at hab
        rw [ha, getC_none (findC_none.2 h0)] at hab
        simpa [zC] using hab) rfl hu
      exact this.1
    · rcases ih with r | r
      · exact .inl r
      · exact .inr (by omega)
theorem ex_sub1 : subS exL1 (0, nB) (0, nA) = true := by
  have hu : upB exL1 nB nA = true := upB_iff.2 (.one (List.mem_cons.2 (.inl (by decide +kernel))))
  have : subN exL1 0 (0, nB) (0, nA) = true := by
    unfold subN
    rw [if_neg (by decide +kernel), if_neg (by decide +kernel), if_neg (by decide +kernel)]
    simp only [hu]
    decide +kernel
  unfold subS
  show (_ && _ && subN exL1 0 (0, nB) (0, nA)) = true
  rw [this]
  decide +kernel
theorem ex_sub2 : subS exL1 (0, nB) (0, nI) = true := by
  have hu : upB exL1 nB nI = true := upB_iff.2 (.one (List.mem_cons.2 (.inr (by rw [show (getC exL1 nB).ifaces = [nI] by decide +kernel]; exact List.mem_singleton.2 rfl))))
  have : subN exL1 0 (0, nB) (0, nI) = true := by
    unfold subN
    rw [if_neg (by decide +kernel), if_neg (by decide +kernel), if_neg (by decide +kernel)]
    simp only [hu]
    decide +kernel
  unfold subS
  show (_ && _ && subN exL1 0 (0, nB) (0, nI)) = true
  rw [this]
  decide +kernel
theorem ex_sub3 : subS exL1 (0, nA) (0, nB) = false := by
  have hu : upB exL1 nA nB = false := by
    cases h : upB exL1 nA nB with
    | false => rfl
    | true => exact absurd (ex_up h) (by decide +kernel)
  have : subN exL1 0 (0, nA) (0, nB) = false := by
    unfold subN
    rw [if_neg (by decide +kernel), if_neg (by decide +kernel), if_neg (by decide +kernel)]
    simp only [hu]
    decide +kernel
  unfold subS
  show (_ && _ && subN exL1 0 (0, nA) (0, nB)) = false
  rw [this, Bool.and_false]
theorem ex_sub4 : subS exL1 (1, nB) (1, nA) = true := by
  have hu : upB exL1 nB nA = true := upB_iff.2 (.one (List.mem_cons.2 (.inl (by decide +kernel))))
  have h0 : subN exL1 0 (0, nB) (0, nA) = true := by
    unfold subN
    rw [if_neg (by decide +kernel), if_neg (by decide +kernel), if_neg (by decide +kernel)]
    simp only [hu]
    decide +kernel
  have : subN exL1 1 (1, nB) (1, nA) = true := by
    unfold subN
    rw [if_neg (by decide +kernel), if_neg (by decide +kernel), if_neg (by decide +kernel)]
    simp only
    rw [if_pos (by decide)]
    exact h0
  unfold subS
  show (_ && _ && subN exL1 1 (1, nB) (1, nA)) = true
  rw [this]
  decide +kernel
theorem ex_sub5 : subS exL1 (1, nilB) (0, objB) = true := by
  have : subN exL1 1 (1, nilB) (0, objB) = true := by
    unfold subN
    rw [if_neg (by decide +kernel), if_neg (by decide +kernel), if_pos rfl]
  unfold subS
  show (_ && _ && subN exL1 1 (1, nilB) (0, objB)) = true
  rw [this]
  decide +kernel
theorem ex_lub1 : lubS exL1 (0, nB) (0, nA) = ((0, nA), true) := by decide +kernel
theorem ex_lub2 : lubS exL1 (0, nA) (0, nStr) = ((0, objB), true) := by decide +kernel
theorem ex_lub3 : lubS exL1 (1, nB) (1, nA) = ((1, nA), true) := by decide +kernel
theorem ex_lub4 : lubS exL1 (1, nilB) (1, nA) = ((0, objB), true) := by decide +kernel
theorem ex_chain1 : chainS exL1 nB = [nB, nA, objB] := by decide +kernel
theorem ex_chain2 : chainS exL1 nX = [] := by decide +kernel
end Go.Proofs.YtfjplmbknegidaaGreatDoor.Sp
end
