/-
  Texts of the proof, joined: each says at its head what it proves.
-/
import Derived.Test.YtfjplmbknegidaaGreatDoorJk6
section
/-
  Walk of the reference's Method.
-/
set_option linter.unusedVariables false
set_option linter.unusedSimpArgs false
namespace Go.Proofs.YtfjplmbknegidaaGreatDoor
open Go.RowKit Go.Lib

theorem rsig_load (w : World) (b : Nat) {x y z u : Value} (h0 : w.cell? ⟨b, 0, none⟩ = some x) (h1 : w.cell? ⟨b, 1, none⟩ = some y) (h2 : w.cell? ⟨b, 2, none⟩ = some z) (h3 : w.cell? ⟨b, 3, none⟩ = some u) : (loadVar 151 ⟨b, 0, none⟩).run Tryz.prog w = .ok (.agg #[x, y, z, u]) w :=
  run_loadVar_mid w b 0 151 [x, y, z, u] _ (fun j v hj => by
    match j, hj with
    | 0, hj => simp at hj; subst hj; exact h0
    | 1, hj => simp at hj; subst hj; exact h1
    | 2, hj => simp at hj; subst hj; exact h2
    | 3, hj => simp at hj; subst hj; exact h3
    | j + 4, hj => simp at hj) Tryz.underlying151 rfl (by kernel_rfl)

set_option maxHeartbeats 8000000 in
set_option maxRecDepth 100000 in
theorem refMethod_any (s : ByteArray) (w : World) (hs : s.size ≤ 1099511627776) :
    Calls Tryz.prog 112 #[.string s] w fun e w' => ∃ A c, e = .returned (.tuple #[Sp.sigV A c (Sp.methodS s).1, .int .i64 (Sp.methodS s).2]) ∧ RdT w' A (Sp.methodS s).1.1 ∧ Below w.heap.size w w' := by
  obtain ⟨i0, hi, hz0, hz1, hz2⟩ := info_parts infoTy
  have HE := Lib.hid (show Sp.methodS s = _ by rw [Sp.methodS])
  generalize Sp.methodS s = R at HE ⊢
  by_cases hz : s.size = 0
  · have hR : R = (Sp.sig0, 9) := by rw [HE.out, if_neg (by rw [Sp.bt_end s 0 (by omega)]; decide)]
    have hs0 := str_empty s hz
    subst hs0
    subst hR
    clear HE
    go_enter Tryz.func112, Tryz.ntmps112
    go_wp2
    (try simp only [Exit.inBlock, Exit.then]); refine bodyPost_ret (results_ct rfl _ _ _ rfl (rsig_load _ w.heap.size (x := .slice none 0 0) (y := .int .i64 0) (z := .string ⟨#[]⟩) (u := .bool false) (by simp) (by simp) (by simp) (by simp))) rfl ?_
    exact ⟨none, 0, rfl, rdT_nil _ _, by (repeat (first | with_reducible assumption | with_reducible exact Below.refl _ _ | (with_reducible refine Below.setCell ?_ (by first | exact Nat.le_refl _ | omega | (simp; done) | (simp; omega)) _) | (with_reducible refine Below.alloc ?_ (by first | exact Nat.le_refl _ | omega | (simp; done) | (simp; omega)) _) | (with_reducible refine Below.drew ?_)))⟩
  have hne : (s.toList == []) = false := by
    rw [Bool.eq_false_iff]
    intro r
    have := (bytes_beq_iff s ⟨#[]⟩).1 (by simpa using r)
    rw [this] at hz
    exact hz rfl
  have hpos : 0 < s.size := by omega
  have hk0 := idx_str0 s hpos
  by_cases h40 : Sp.bt s 0 = 40
  · rw [if_pos h40] at HE
    rw [h40] at hk0
    have htz : (s.extract 1 s.size).size + 1 ≤ s.size := by simp; omega
    clear h40 hz
    generalize hq0 : s.extract 1 s.size = t0 at *
    go_enter Tryz.func112, Tryz.ntmps112
    go_wp2
    go_loopw [0] (fun v4 wr => ∃ (t : ByteArray) (f : Nat) (acc : List Sp.Ty) (A : Option Addr) (c : Nat), v4 = .string t
        ∧ Hid (wr.heap[w.heap.size]? = some (.cells #[.slice none 0 0, .int .i64 0, .string ⟨#[]⟩, .bool false] 151 (0, 0)))
        ∧ Hid (wr.heap[w.heap.size + 1]? = some (.cells #[.slice A acc.length c, .int .i64 0, .string ⟨#[]⟩, .bool false] 151 (0, 0)))
        ∧ wr.ownsRow (w.heap.size + 2) 25 2 (.slice A acc.length c) acc.length (Sp.tyCells acc)
        ∧ Below w.heap.size w wr ∧ t.size + 1 ≤ f ∧ t.size + acc.length ≤ s.size ∧ Hid (R = Sp.endS (Sp.ahead acc (Sp.argsF f t)))) (fun v4 _ => (strOf v4).size)
    case atStart =>
      refine ⟨t0, s.size, [], none, 0, rfl, Lib.hid ?_, Lib.hid ?_, ⟨rfl, .inl ⟨rfl, rfl⟩⟩, ?_, htz, by simp; omega, Lib.hid (by rw [Sp.ahead_nil]; exact HE.out)⟩
      · exact blk_old (blk_new _ _)
      · have := blk_new (w.alloc (.cells #[.slice none 0 0, .int .i64 0, .string ⟨#[]⟩, .bool false] 151)) (.cells #[.slice none 0 0, .int .i64 0, .string ⟨#[]⟩, .bool false] 151)
        simpa using this
      · (repeat (first | with_reducible assumption | with_reducible exact Below.refl _ _ | (with_reducible refine Below.setCell ?_ (by first | exact Nat.le_refl _ | omega | (simp; done) | (simp; omega)) _) | (with_reducible refine Below.alloc ?_ (by first | exact Nat.le_refl _ | omega | (simp; done) | (simp; omega)) _) | (with_reducible refine Below.drew ?_)))
    case round =>
      clear HE
      obtain ⟨t, f, acc, A, c, rfl, H0, H1, hown, hb, hf, hal, hX⟩ := hrel
      have hlt := blk_lt H1.out
      obtain ⟨g, rfl⟩ : ∃ g, f = g + 1 := ⟨f - 1, by omega⟩
      have hX2 := hX.out
      rw [Sp.argsF] at hX2
      clear hX
      obtain ⟨⟨c00, c01, c02, c03⟩, f00, f01, f02, f03⟩ := blk4 H0.out
      obtain ⟨⟨c10, c11, c12, c13⟩, f10, f11, f12, f13⟩ := blk4 H1.out
      have hrd := Lib.hid (own_rdT hown).2
      have hna := own_len hown
      by_cases hz : t.size = 0
      · have hR : R = (Sp.sig0, 9) := by
          rw [hX2, if_neg (by rw [Sp.bt_end t 0 (by omega)]; decide), Sp.readS_empty t hz]
          rfl
        have hs0 := str_empty t hz
        subst hs0
        subst hR
        clear hX2 hz
        go_wp2
        (try simp only [Exit.inBlock, Exit.then]); refine bodyPost_ret (results_ct rfl _ _ _ rfl (rsig_load _ w.heap.size (x := .slice none 0 0) (y := .int .i64 0) (z := .string ⟨#[]⟩) (u := .bool false) (by (repeat (first | with_reducible assumption | (with_reducible apply World.cell?_setCell_same) | (with_reducible refine cell_alloc _ _ ?_) | (refine (World.cell?_setCell_other _ _ _ _ (by first | (simp; done) | (intro q; simp at q; done) | (intro q; simp at q; omega))).trans ?_)))) (by (repeat (first | with_reducible assumption | (with_reducible apply World.cell?_setCell_same) | (with_reducible refine cell_alloc _ _ ?_) | (refine (World.cell?_setCell_other _ _ _ _ (by first | (simp; done) | (intro q; simp at q; done) | (intro q; simp at q; omega))).trans ?_)))) (by (repeat (first | with_reducible assumption | (with_reducible apply World.cell?_setCell_same) | (with_reducible refine cell_alloc _ _ ?_) | (refine (World.cell?_setCell_other _ _ _ _ (by first | (simp; done) | (intro q; simp at q; done) | (intro q; simp at q; omega))).trans ?_)))) (by (repeat (first | with_reducible assumption | (with_reducible apply World.cell?_setCell_same) | (with_reducible refine cell_alloc _ _ ?_) | (refine (World.cell?_setCell_other _ _ _ _ (by first | (simp; done) | (intro q; simp at q; done) | (intro q; simp at q; omega))).trans ?_)))))) rfl ?_
        exact ⟨none, ⟨0, rfl⟩, rdT_nil _ _, by (repeat (first | with_reducible assumption | with_reducible exact Below.refl _ _ | (with_reducible refine Below.setCell ?_ (by first | exact Nat.le_refl _ | omega | (simp; done) | (simp; omega)) _) | (with_reducible refine Below.alloc ?_ (by first | exact Nat.le_refl _ | omega | (simp; done) | (simp; omega)) _) | (with_reducible refine Below.drew ?_)))⟩
      have hne : (t.toList == []) = false := by
        rw [Bool.eq_false_iff]
        intro r
        have := (bytes_beq_iff t ⟨#[]⟩).1 (by simpa using r)
        rw [this] at hz
        exact hz rfl
      have hpos : 0 < t.size := by omega
      have hk0 := idx_str0 t hpos
      by_cases h41 : Sp.bt t 0 = 41
      · rw [if_pos h41] at hX2
        rw [h41] at hk0
        have hX := Lib.hid (show R = Sp.finS acc t by rw [hX2]; simp [Sp.ahead, Sp.endS])
        clear hX2
        have hown' := Lib.hid hown
        clear hown
        by_cases hv : t = ⟨#[41, 86]⟩
        · subst hv
          have hX' := Lib.hid (show R = Sp.doneS acc Sp.t0 true by rw [hX.out, Sp.finS, if_pos (show (⟨#[41, 86]⟩ : ByteArray) = Sp.B [41, 86] from rfl)])
          clear hX
          by_cases h16 : 16 < acc.length
          · have hR : R = (Sp.sig0, 3) := by rw [hX'.out, Sp.doneS, if_pos h16]
            have hz : (16 : Int) < (acc.length : Int) := by omega
            subst hR
            clear hX'
            go_wp2
            (try simp only [Exit.inBlock, Exit.then]); refine bodyPost_ret (results_ct rfl _ _ _ rfl (rsig_load _ w.heap.size (x := .slice none 0 0) (y := .int .i64 0) (z := .string ⟨#[]⟩) (u := .bool false) (by (repeat (first | with_reducible assumption | (with_reducible apply World.cell?_setCell_same) | (with_reducible refine cell_alloc _ _ ?_) | (refine (World.cell?_setCell_other _ _ _ _ (by first | (simp; done) | (intro q; simp at q; done) | (intro q; simp at q; omega))).trans ?_)))) (by (repeat (first | with_reducible assumption | (with_reducible apply World.cell?_setCell_same) | (with_reducible refine cell_alloc _ _ ?_) | (refine (World.cell?_setCell_other _ _ _ _ (by first | (simp; done) | (intro q; simp at q; done) | (intro q; simp at q; omega))).trans ?_)))) (by (repeat (first | with_reducible assumption | (with_reducible apply World.cell?_setCell_same) | (with_reducible refine cell_alloc _ _ ?_) | (refine (World.cell?_setCell_other _ _ _ _ (by first | (simp; done) | (intro q; simp at q; done) | (intro q; simp at q; omega))).trans ?_)))) (by (repeat (first | with_reducible assumption | (with_reducible apply World.cell?_setCell_same) | (with_reducible refine cell_alloc _ _ ?_) | (refine (World.cell?_setCell_other _ _ _ _ (by first | (simp; done) | (intro q; simp at q; done) | (intro q; simp at q; omega))).trans ?_)))))) rfl ?_
            exact ⟨none, ⟨0, rfl⟩, rdT_nil _ _, by (repeat (first | with_reducible assumption | with_reducible exact Below.refl _ _ | (with_reducible refine Below.setCell ?_ (by first | exact Nat.le_refl _ | omega | (simp; done) | (simp; omega)) _) | (with_reducible refine Below.alloc ?_ (by first | exact Nat.le_refl _ | omega | (simp; done) | (simp; omega)) _) | (with_reducible refine Below.drew ?_)))⟩
          · have hR : R = ((acc, Sp.t0, true), 0) := by rw [hX'.out, Sp.doneS, if_neg h16]
            have hz : ¬ (16 : Int) < (acc.length : Int) := by omega
            subst hR
            clear hX'
            go_wp2
            (try simp only [Exit.inBlock, Exit.then]); refine bodyPost_ret (results_ct rfl _ _ _ rfl (rsig_load _ w.heap.size (x := .slice A acc.length c) (y := .int .i64 0) (z := .string ⟨#[]⟩) (u := .bool true) (by (repeat (first | with_reducible assumption | (with_reducible apply World.cell?_setCell_same) | (with_reducible refine cell_alloc _ _ ?_) | (refine (World.cell?_setCell_other _ _ _ _ (by first | (simp; done) | (intro q; simp at q; done) | (intro q; simp at q; omega))).trans ?_)))) (by (repeat (first | with_reducible assumption | (with_reducible apply World.cell?_setCell_same) | (with_reducible refine cell_alloc _ _ ?_) | (refine (World.cell?_setCell_other _ _ _ _ (by first | (simp; done) | (intro q; simp at q; done) | (intro q; simp at q; omega))).trans ?_)))) (by (repeat (first | with_reducible assumption | (with_reducible apply World.cell?_setCell_same) | (with_reducible refine cell_alloc _ _ ?_) | (refine (World.cell?_setCell_other _ _ _ _ (by first | (simp; done) | (intro q; simp at q; done) | (intro q; simp at q; omega))).trans ?_)))) (by (repeat (first | with_reducible assumption | (with_reducible apply World.cell?_setCell_same) | (with_reducible refine cell_alloc _ _ ?_) | (refine (World.cell?_setCell_other _ _ _ _ (by first | (simp; done) | (intro q; simp at q; done) | (intro q; simp at q; omega))).trans ?_)))))) rfl ?_
            exact ⟨A, ⟨c, rfl⟩, (own_rdT (show World.ownsRow _ (w.heap.size + 2) 25 2 (.slice A acc.length c) acc.length (Sp.tyCells acc) from by have := hown'.out; (repeat (first | with_reducible assumption | (with_reducible refine ownsRow_setCell_below ?_ (by first | (simp; done) | (simp; omega)) _) | (with_reducible refine World.ownsRow.alloc ?_ _) | (with_reducible refine World.ownsRow.drew ?_))))).2, by (repeat (first | with_reducible assumption | with_reducible exact Below.refl _ _ | (with_reducible refine Below.setCell ?_ (by first | exact Nat.le_refl _ | omega | (simp; done) | (simp; omega)) _) | (with_reducible refine Below.alloc ?_ (by first | exact Nat.le_refl _ | omega | (simp; done) | (simp; omega)) _) | (with_reducible refine Below.drew ?_)))⟩
        · have hX' := Lib.hid (show R = if (Sp.fieldS (t.extract 1 t.size)).2 = 0 then Sp.doneS acc (Sp.fieldS (t.extract 1 t.size)).1 false else (Sp.sig0, 9) by rw [hX.out, Sp.finS, if_neg (show ¬ t = Sp.B [41, 86] from hv)])
          clear hX
          have hfs := (by simp; omega : (t.extract 1 t.size).size ≤ 1099511627776)
          have k3 := Lib.hid (fun W => refField_any (t.extract 1 t.size) W hfs)
          have hfe := Sp.fieldS_err (t.extract 1 t.size)
          have hvb : (t.toList == [41, 86]) = false := by
            rw [Bool.eq_false_iff]
            intro r
            exact hv ((bytes_beq_iff t ⟨#[41, 86]⟩).1 (by simpa using r))
          generalize Sp.fieldS (t.extract 1 t.size) = F at *
          obtain ⟨⟨fd, fn⟩, fe⟩ := F
          simp only [Sp.tyV] at k3 hX' hfe
          go_wp2_with fail
          refine (k3.out _).mono ?_
          rintro e w1 ⟨rfl, hb1⟩
          clear k3
          have G0 := Lib.hid (blk_below H0.out hb1)
          have G1 := Lib.hid (blk_below H1.out hb1)
          have hown1 := Lib.hid (own_below hown'.out hb1)
          have hb' := below_then hb (hb.size) hb1
          clear H0 H1 hown' hrd hb1 hb c00 c01 c02 c03 c10 c11 c12 c13 f00 f01 f02 f03 f10 f11 f12 f13
          obtain ⟨⟨c00, c01, c02, c03⟩, f00, f01, f02, f03⟩ := blk4 G0.out
          obtain ⟨⟨c10, c11, c12, c13⟩, f10, f11, f12, f13⟩ := blk4 G1.out
          have hlt1 := blk_lt G1.out
          have hlt0 := blk_lt G0.out
          by_cases h0 : fe = 0
          · have hX2 := Lib.hid (show R = Sp.doneS acc (fd, fn) false by rw [hX'.out, if_pos h0])
            clear hX' hfe
            subst h0
            by_cases h16 : 16 < acc.length
            · have hR : R = (Sp.sig0, 3) := by rw [hX2.out, Sp.doneS, if_pos h16]
              have hz : (16 : Int) < (acc.length : Int) := by omega
              subst hR
              clear hX2
              go_wp2
              (try simp only [Exit.inBlock, Exit.then]); refine bodyPost_ret (results_ct rfl _ _ _ rfl (rsig_load _ w.heap.size (x := .slice none 0 0) (y := .int .i64 0) (z := .string ⟨#[]⟩) (u := .bool false) (by (repeat (first | with_reducible assumption | (with_reducible apply World.cell?_setCell_same) | (with_reducible refine cell_alloc _ _ ?_) | (refine (World.cell?_setCell_other _ _ _ _ (by first | (simp; done) | (intro q; simp at q; done) | (intro q; simp at q; omega))).trans ?_)))) (by (repeat (first | with_reducible assumption | (with_reducible apply World.cell?_setCell_same) | (with_reducible refine cell_alloc _ _ ?_) | (refine (World.cell?_setCell_other _ _ _ _ (by first | (simp; done) | (intro q; simp at q; done) | (intro q; simp at q; omega))).trans ?_)))) (by (repeat (first | with_reducible assumption | (with_reducible apply World.cell?_setCell_same) | (with_reducible refine cell_alloc _ _ ?_) | (refine (World.cell?_setCell_other _ _ _ _ (by first | (simp; done) | (intro q; simp at q; done) | (intro q; simp at q; omega))).trans ?_)))) (by (repeat (first | with_reducible assumption | (with_reducible apply World.cell?_setCell_same) | (with_reducible refine cell_alloc _ _ ?_) | (refine (World.cell?_setCell_other _ _ _ _ (by first | (simp; done) | (intro q; simp at q; done) | (intro q; simp at q; omega))).trans ?_)))))) rfl ?_
              exact ⟨none, ⟨0, rfl⟩, rdT_nil _ _, by (repeat (first | with_reducible assumption | with_reducible exact Below.refl _ _ | (with_reducible refine Below.setCell ?_ (by first | exact Nat.le_refl _ | omega | (simp; done) | (simp; omega)) _) | (with_reducible refine Below.alloc ?_ (by first | exact Nat.le_refl _ | omega | (simp; done) | (simp; omega)) _) | (with_reducible refine Below.drew ?_)))⟩
            · have hR : R = ((acc, (fd, fn), false), 0) := by rw [hX2.out, Sp.doneS, if_neg h16]
              have hz : ¬ (16 : Int) < (acc.length : Int) := by omega
              subst hR
              clear hX2
              go_wp2
              (try simp only [Exit.inBlock, Exit.then]); refine bodyPost_ret (results_ct rfl _ _ _ rfl (rsig_load _ w.heap.size (x := .slice A acc.length c) (y := .int .i64 fd) (z := .string fn) (u := .bool false) (by (repeat (first | with_reducible assumption | (with_reducible apply World.cell?_setCell_same) | (with_reducible refine cell_alloc _ _ ?_) | (refine (World.cell?_setCell_other _ _ _ _ (by first | (simp; done) | (intro q; simp at q; done) | (intro q; simp at q; omega))).trans ?_)))) (by (repeat (first | with_reducible assumption | (with_reducible apply World.cell?_setCell_same) | (with_reducible refine cell_alloc _ _ ?_) | (refine (World.cell?_setCell_other _ _ _ _ (by first | (simp; done) | (intro q; simp at q; done) | (intro q; simp at q; omega))).trans ?_)))) (by (repeat (first | with_reducible assumption | (with_reducible apply World.cell?_setCell_same) | (with_reducible refine cell_alloc _ _ ?_) | (refine (World.cell?_setCell_other _ _ _ _ (by first | (simp; done) | (intro q; simp at q; done) | (intro q; simp at q; omega))).trans ?_)))) (by (repeat (first | with_reducible assumption | (with_reducible apply World.cell?_setCell_same) | (with_reducible refine cell_alloc _ _ ?_) | (refine (World.cell?_setCell_other _ _ _ _ (by first | (simp; done) | (intro q; simp at q; done) | (intro q; simp at q; omega))).trans ?_)))))) rfl ?_
              exact ⟨A, ⟨c, rfl⟩, (own_rdT (show World.ownsRow _ (w.heap.size + 2) 25 2 (.slice A acc.length c) acc.length (Sp.tyCells acc) from by have := hown1.out; (repeat (first | with_reducible assumption | (with_reducible refine ownsRow_setCell_below ?_ (by first | (simp; done) | (simp; omega)) _) | (with_reducible refine World.ownsRow.alloc ?_ _) | (with_reducible refine World.ownsRow.drew ?_))))).2, by (repeat (first | with_reducible assumption | with_reducible exact Below.refl _ _ | (with_reducible refine Below.setCell ?_ (by first | exact Nat.le_refl _ | omega | (simp; done) | (simp; omega)) _) | (with_reducible refine Below.alloc ?_ (by first | exact Nat.le_refl _ | omega | (simp; done) | (simp; omega)) _) | (with_reducible refine Below.drew ?_)))⟩
          · have hR : R = (Sp.sig0, 9) := by rw [hX'.out, if_neg h0]
            have h9 : fe = 9 := by rcases hfe with h | h; exact absurd h h0; exact h
            subst hR
            subst h9
            clear hX' hfe h0
            go_wp2
            (try simp only [Exit.inBlock, Exit.then]); refine bodyPost_ret (results_ct rfl _ _ _ rfl (rsig_load _ w.heap.size (x := .slice none 0 0) (y := .int .i64 0) (z := .string ⟨#[]⟩) (u := .bool false) (by (repeat (first | with_reducible assumption | (with_reducible apply World.cell?_setCell_same) | (with_reducible refine cell_alloc _ _ ?_) | (refine (World.cell?_setCell_other _ _ _ _ (by first | (simp; done) | (intro q; simp at q; done) | (intro q; simp at q; omega))).trans ?_)))) (by (repeat (first | with_reducible assumption | (with_reducible apply World.cell?_setCell_same) | (with_reducible refine cell_alloc _ _ ?_) | (refine (World.cell?_setCell_other _ _ _ _ (by first | (simp; done) | (intro q; simp at q; done) | (intro q; simp at q; omega))).trans ?_)))) (by (repeat (first | with_reducible assumption | (with_reducible apply World.cell?_setCell_same) | (with_reducible refine cell_alloc _ _ ?_) | (refine (World.cell?_setCell_other _ _ _ _ (by first | (simp; done) | (intro q; simp at q; done) | (intro q; simp at q; omega))).trans ?_)))) (by (repeat (first | with_reducible assumption | (with_reducible apply World.cell?_setCell_same) | (with_reducible refine cell_alloc _ _ ?_) | (refine (World.cell?_setCell_other _ _ _ _ (by first | (simp; done) | (intro q; simp at q; done) | (intro q; simp at q; omega))).trans ?_)))))) rfl ?_
            exact ⟨none, ⟨0, rfl⟩, rdT_nil _ _, by (repeat (first | with_reducible assumption | with_reducible exact Below.refl _ _ | (with_reducible refine Below.setCell ?_ (by first | exact Nat.le_refl _ | omega | (simp; done) | (simp; omega)) _) | (with_reducible refine Below.alloc ?_ (by first | exact Nat.le_refl _ | omega | (simp; done) | (simp; omega)) _) | (with_reducible refine Below.drew ?_)))⟩
      · rw [if_neg h41] at hX2
        have k3 := Lib.hid (fun W => refNext2_any t W (by omega))
        have HF := Sp.refNext_facts t
        have hX := Lib.hid hX2
        generalize hy : Sp.bt t 0 = y at *
        clear hX2
        generalize Sp.readS t = q at *
        generalize Sp.refNextS t = n at *
        have hkk := Lib.hid (hown.lt)
        rcases HF with ⟨rfl, rfl⟩ | ⟨⟨qd, qn⟩, qr, k, rfl, h0, h1, rfl, h2, h3⟩
        · have hR : R = (Sp.sig0, 9) := by rw [hX.out]; rfl
          subst hR
          clear hX
          unfold Sp.tyV Sp.t0 at k3
          go_wp2_with fail
          refine (k3.out _).mono ?_
          rintro e w2 ⟨rfl, hb2⟩
          have G0 := blk_below H0.out hb2
          have hb' := below_then hb hb.size hb2
          have hlt2 := blk_lt G0
          clear hb2 hb hown H0 H1 hrd c00 c01 c02 c03 f00 f01 f02 f03 c10 c11 c12 c13 f10 f11 f12 f13
          obtain ⟨⟨c00, c01, c02, c03⟩, f00, f01, f02, f03⟩ := blk4 G0
          clear G0
          go_wp2
          (try simp only [Exit.inBlock, Exit.then]); refine bodyPost_ret (results_ct rfl _ _ _ rfl (rsig_load _ w.heap.size (x := .slice none 0 0) (y := .int .i64 0) (z := .string ⟨#[]⟩) (u := .bool false) (by (repeat (first | with_reducible assumption | (with_reducible apply World.cell?_setCell_same) | (with_reducible refine cell_alloc _ _ ?_) | (refine (World.cell?_setCell_other _ _ _ _ (by first | (simp; done) | (intro q; simp at q; done) | (intro q; simp at q; omega))).trans ?_)))) (by (repeat (first | with_reducible assumption | (with_reducible apply World.cell?_setCell_same) | (with_reducible refine cell_alloc _ _ ?_) | (refine (World.cell?_setCell_other _ _ _ _ (by first | (simp; done) | (intro q; simp at q; done) | (intro q; simp at q; omega))).trans ?_)))) (by (repeat (first | with_reducible assumption | (with_reducible apply World.cell?_setCell_same) | (with_reducible refine cell_alloc _ _ ?_) | (refine (World.cell?_setCell_other _ _ _ _ (by first | (simp; done) | (intro q; simp at q; done) | (intro q; simp at q; omega))).trans ?_)))) (by (repeat (first | with_reducible assumption | (with_reducible apply World.cell?_setCell_same) | (with_reducible refine cell_alloc _ _ ?_) | (refine (World.cell?_setCell_other _ _ _ _ (by first | (simp; done) | (intro q; simp at q; done) | (intro q; simp at q; omega))).trans ?_)))))) rfl ?_
          exact ⟨none, ⟨0, rfl⟩, rdT_nil _ _, by (repeat (first | with_reducible assumption | with_reducible exact Below.refl _ _ | (with_reducible refine Below.setCell ?_ (by first | exact Nat.le_refl _ | omega | (simp; done) | (simp; omega)) _) | (with_reducible refine Below.alloc ?_ (by first | exact Nat.le_refl _ | omega | (simp; done) | (simp; omega)) _) | (with_reducible refine Below.drew ?_)))⟩
        · have hkz : ((k : Int) == 0) = false := by rw [beq_eq_false_iff_ne]; omega
          have hX' := Lib.hid (show R = Sp.endS (Sp.ahead (acc ++ [(qd, qn)]) (Sp.argsF g qr)) by rw [hX.out, ← Sp.ahead_cons])
          have h2' : t.extract k t.size = qr := h2.symm
          clear hX h2
          unfold Sp.tyV at k3
          go_wp2_with fail
          refine (k3.out _).mono ?_
          rintro e w2 ⟨rfl, hb2⟩
          have I0 := Lib.hid (blk_below H0.out hb2)
          have I1 := Lib.hid (blk_below H1.out hb2)
          have hown2 := Lib.hid (own_below hown hb2)
          have hb' := below_then hb hb.size hb2
          have hbs := hb2.size
          clear hb2 hb hown H0 H1 hrd c00 c01 c02 c03 f00 f01 f02 f03 c10 c11 c12 c13 f10 f11 f12 f13
          obtain ⟨⟨c10, c11, c12, c13⟩, f10, f11, f12, f13⟩ := blk4 I1.out
          have hlt2 := blk_lt I1.out
          have hn48 : (acc.length + 1) * 24 ≤ 140737488355328 := by omega
          have hn63 : acc.length + 1 ≤ maxLen := by unfold maxLen; omega
          go_wp2_with (at_builtin; refine wpList_append_own _ rfl _ _ 36 rfl (w.heap.size + 2) 25 i0 (.agg #[.int .i64 0, .string ⟨#[]⟩]) 2 24 Tryz.underlying36 hi hz0 hz1 hz2 rfl (by decide) (.slice A acc.length c) acc.length (Sp.tyCells acc) rfl ((hown2.out.alloc _).alloc _) ⟨w2.heap.size + 1, 0, none⟩ 1 1 [.int .i64 qd, .string qn] ?x1 rfl ?x2 ?x3 hn63 hn48 ?x4 ?x5)
          case x1 => rfl
          case x2 =>
            have hnew := blk2 (blk_new (w2.alloc (.cells #[.int .i64 qd, .string qn] 25)) (.cells #[.int .i64 qd, .string qn] 25))
            rw [show (w2.alloc (.cells #[.int .i64 qd, .string qn] 25)).heap.size = w2.heap.size + 1 by simp] at hnew
            intro j u hj
            match j, hj with
            | 0, hj => simp at hj; subst hj; rw [Addr.add_mid]; exact hnew.1.1
            | 1, hj => simp at hj; subst hj; rw [Addr.add_mid]; exact hnew.1.2
            | j + 2, hj => simp at hj
          case x3 =>
            intro u hu
            simp at hu
            rcases hu with rfl | rfl <;> rfl
          case x4 => simp; omega
          · intro v' w3 hown3 hg3 _
            obtain ⟨A', c', rfl⟩ := own_sl hown3
            have hne2 : ∀ k, (k < w.heap.size + 2) → some k ≠ (Value.slice A acc.length c).ownBlock := fun k hk e => by have := hkk.out k e.symm; omega
            have J0 := Lib.hid (blk_grown (blk_old (blk_old I0.out)) hg3 (hne2 _ (by omega)))
            have J1 := Lib.hid (blk_grown (blk_old (blk_old I1.out)) hg3 (hne2 _ (by omega)))
            have hbz : w.heap.size ≤ w2.heap.size := hb'.size
            have hbw : Below w.heap.size w ((w2.alloc (.cells #[.int .i64 qd, .string qn] 25)).alloc (.cells #[.int .i64 qd, .string qn] 25)) := by (repeat (first | with_reducible assumption | with_reducible exact Below.refl _ _ | (with_reducible refine Below.setCell ?_ (by first | exact Nat.le_refl _ | omega | (simp; done) | (simp; omega)) _) | (with_reducible refine Below.alloc ?_ (by first | exact Nat.le_refl _ | omega | (simp; done) | (simp; omega)) _) | (with_reducible refine Below.drew ?_)))
            have hb3 := hbw.grown hg3 hbw.size (fun k hk => by have := hkk.out k hk; omega)
            obtain ⟨⟨d10, d11, d12, d13⟩, g10, g11, g12, g13⟩ := blk4 J1.out
            clear I0 I1 c10 c11 c12 c13 f10 f11 f12 f13 hb' hbw hg3 hown2 hlt2
            go_wp2
            go_roundw
            case rel =>
              refine ⟨qr, g, acc ++ [(qd, qn)], A', c', by first | rfl | rw [h2'], Lib.hid (blk_other J0.out _ _ (by show _ ≠ _; simp)), Lib.hid ?_, ?_, by (repeat (first | with_reducible assumption | with_reducible exact Below.refl _ _ | (with_reducible refine Below.setCell ?_ (by first | exact Nat.le_refl _ | omega | (simp; done) | (simp; omega)) _) | (with_reducible refine Below.alloc ?_ (by first | exact Nat.le_refl _ | omega | (simp; done) | (simp; omega)) _) | (with_reducible refine Below.drew ?_))), by omega, by simp; omega, hX'⟩
              · have := blk_set (i := 0) J1.out (.slice A' (acc.length + 1) c')
                simpa using this
              · have hq := hown3
                rw [show Sp.tyCells acc ++ [Value.int .i64 qd, Value.string qn] = Sp.tyCells (acc ++ [(qd, qn)]) by rw [Sp.tyCells_append]; rfl] at hq
                have := ownsRow_setCell_below hq (a := ⟨w.heap.size + 1, 0, none⟩) (by show _ < _; simp) (.slice A' (acc.length + 1) c')
                simpa using this
            case measure => simp [strOf]; omega
  · have hR : R = (Sp.sig0, 9) := by rw [HE.out, if_neg h40]
    subst hR
    clear HE
    generalize Sp.bt s 0 = y at *
    go_enter Tryz.func112, Tryz.ntmps112
    go_wp2
    (try simp only [Exit.inBlock, Exit.then]); refine bodyPost_ret (results_ct rfl _ _ _ rfl (rsig_load _ w.heap.size (x := .slice none 0 0) (y := .int .i64 0) (z := .string ⟨#[]⟩) (u := .bool false) (by simp) (by simp) (by simp) (by simp))) rfl ?_
    exact ⟨none, 0, rfl, rdT_nil _ _, by (repeat (first | with_reducible assumption | with_reducible exact Below.refl _ _ | (with_reducible refine Below.setCell ?_ (by first | exact Nat.le_refl _ | omega | (simp; done) | (simp; omega)) _) | (with_reducible refine Below.alloc ?_ (by first | exact Nat.le_refl _ | omega | (simp; done) | (simp; omega)) _) | (with_reducible refine Below.drew ?_)))⟩
end Go.Proofs.YtfjplmbknegidaaGreatDoor
end
section
/-
  Plain words for Sign; the cells of a slice of types.
-/
set_option linter.unusedVariables false
set_option linter.unusedSimpArgs false
namespace Go.Proofs.YtfjplmbknegidaaGreatDoor
open Go.RowKit Go.Lib

namespace Sp
def typeB (t : Ty) : List UInt8 := List.replicate t.1.toNat 91 ++ nameB t.2
def argsB : List Ty → List UInt8
  | [] => []
  | t :: l => typeB t ++ argsB l
def namesZ : List Ty → Nat
  | [] => 0
  | t :: l => t.2.size + namesZ l
def allR (l : List Ty) : Bool := l.all rightS
def signS (m : Sig) : ByteArray × Int :=
  if allR m.1 = false then (⟨#[]⟩, 9)
  else if rightS m.2.1 = false ∨ (m.2.2 = true ∧ m.2.1 ≠ t0) then (⟨#[]⟩, 9)
  else if 16 < m.1.length then (⟨#[]⟩, 3)
  else (B (40 :: argsB m.1 ++ 41 :: (if m.2.2 = true then [86] else typeB m.2.1)), 0)
theorem writeS_some (t : Ty) (h : rightS t = true) : writeS t = (B (typeB t), 0) := by rw [writeS, if_pos h]; rfl
theorem writeS_none (t : Ty) (h : rightS t = false) : writeS t = (⟨#[]⟩, 9) := by rw [writeS, if_neg (by rw [h]; decide)]
theorem rightS_dims (t : Ty) (h : rightS t = true) : 0 ≤ t.1 ∧ t.1 ≤ 4 := by
  simp [rightS] at h
  exact h.1
theorem typeB_length (t : Ty) (h : rightS t = true) : (typeB t).length ≤ t.2.size + 6 := by
  have := rightS_dims t h
  have h2 : t.2.data.toList.length = t.2.size := rfl
  unfold typeB nameB
  split
  · simp; omega
  · simp only [List.length_append, List.length_replicate, List.length_cons, List.length_nil, h2]
    omega
theorem argsB_append : ∀ a b : List Ty, argsB (a ++ b) = argsB a ++ argsB b
  | [], _ => rfl
  | t :: a, b => by simp only [List.cons_append, argsB, argsB_append a b, List.append_assoc]
theorem namesZ_append : ∀ a b : List Ty, namesZ (a ++ b) = namesZ a + namesZ b
  | [], _ => by simp [namesZ]
  | t :: a, b => by simp only [List.cons_append, namesZ, namesZ_append a b]; omega
theorem namesZ_get : ∀ (l : List Ty) (t : Ty), t ∈ l → t.2.size ≤ namesZ l
  | [], _, h => by simp at h
  | a :: l, t, h => by
    rcases List.mem_cons.1 h with rfl | h
    · simp [namesZ]
    · have := namesZ_get l t h
      simp only [namesZ]
      omega
end Sp
theorem rdT_get2 {w : World} {b o : Nat} {l : List Sp.Ty} (h : w.rangeAt b o (Sp.tyCells l)) {j : Nat} (hj : j < l.length) : w.cell? ⟨b, o + j * 2, none⟩ = some (.int .i64 (l[j]).1) ∧ w.cell? ⟨b, o + j * 2 + 1, none⟩ = some (.string (l[j]).2) := by
  rw [Nat.mul_comm]
  exact rdT_get h hj
theorem cat_T (al tb : List UInt8) : (⟨(40 :: al).toArray⟩ ++ ⟨#[41]⟩ ++ Sp.B tb : ByteArray) = Sp.B (40 :: al ++ 41 :: tb) := by
  have : Sp.B (40 :: al) ++ Sp.B [41] ++ Sp.B tb = Sp.B (40 :: al ++ 41 :: tb) := by
    rw [Sp.B_append, Sp.B_append, List.append_assoc]
    rfl
  exact this
theorem str_B (l : List UInt8) : Lib.strCells (Sp.B l) = Lib.byteCells l := rfl
end Go.Proofs.YtfjplmbknegidaaGreatDoor
end
section
/-
  Plain words for chapter 3's code: classes as data; lists of structs in memory.
-/
set_option linter.unusedVariables false
set_option linter.unusedSimpArgs false
namespace Go.Proofs.YtfjplmbknegidaaGreatDoor
open Go.RowKit Go.Lib

/-! Lists of things of so many cells each. -/
def RdL {α : Type} (enc : α → List Value) (w : World) (A : Option Addr) (l : List α) : Prop := l.length ≤ 9223372036854775807 ∧ (0 < l.length → ∃ b o, A = some ⟨b, o, none⟩ ∧ w.rangeAt b o (l.flatMap enc))
theorem flat_length {α : Type} (enc : α → List Value) (n : Nat) (h : ∀ x, (enc x).length = n) : ∀ l : List α, (l.flatMap enc).length = l.length * n
  | [] => by simp
  | x :: l => by rw [List.flatMap_cons, List.length_append, h, flat_length enc n h l, List.length_cons, Nat.add_mul, Nat.one_mul, Nat.add_comm]
theorem flat_get {α : Type} (enc : α → List Value) (n : Nat) (h : ∀ x, (enc x).length = n) : ∀ (l : List α) (j i : Nat) (hj : j < l.length), i < n → (l.flatMap enc)[j * n + i]? = (enc l[j])[i]?
  | [], _, _, hj, _ => by simp at hj
  | x :: l, 0, i, _, hi => by
    rw [List.flatMap_cons, Nat.zero_mul, Nat.zero_add, List.getElem?_append_left (by rw [h]; exact hi)]
    rfl
  | x :: l, j + 1, i, hj, hi => by
    rw [List.flatMap_cons, List.getElem?_append_right (by rw [h, Nat.add_mul]; omega), h, show (j + 1) * n + i - n = j * n + i by rw [Nat.add_mul]; omega]
    exact flat_get enc n h l j i (by simpa using hj) hi
theorem rdL_get {α : Type} {enc : α → List Value} {w : World} {b o : Nat} {l : List α} (n : Nat) (h : ∀ x, (enc x).length = n) (hr : w.rangeAt b o (l.flatMap enc)) {j : Nat} (hj : j < l.length) (i : Nat) (hi : i < n) {v : Value} (hv : (enc l[j])[i]? = some v) : w.cell? ⟨b, o + j * n + i, none⟩ = some v := by
  have := hr (j * n + i) v (by rw [flat_get enc n h l j i hj hi, hv])
  rwa [← Nat.add_assoc] at this
theorem rdL_below {α : Type} {enc : α → List Value} {w w1 : World} {A : Option Addr} {l : List α} (h : RdL enc w A l) (hb : Below w.heap.size w w1) : RdL enc w1 A l := by
  refine ⟨h.1, fun h0 => ?_⟩
  obtain ⟨b, o, hA, hr⟩ := h.2 h0
  exact ⟨b, o, hA, fun j v hj => cell_below hb (hr j v hj)⟩
theorem rdL_nil {α : Type} (enc : α → List Value) (w : World) (A : Option Addr) : RdL enc w A [] := ⟨by simp, fun h => by simp at h⟩

namespace Sp
/-- A constant. -/
structure Cn where
  tag : Int
  text : ByteArray
  n : Int
  a : Int
  b : Int
  c : Int
/-- A handler. -/
structure Hn where
  fr : Int
  til : Int
  at_ : Int
  cls : Int
/-- A member. -/
structure Mb where
  flags : Int
  name : Int
  desc : Int
  stack : Int
  locals : Int
  code : ByteArray
  hs : List Hn
/-- A class. -/
structure Fl where
  pool : List Cn
  flags : Int
  this : Int
  super : Int
  ifaces : List Int
  fields : List Mb
  methods : List Mb
def cnC (c : Cn) : List Value := [.int .i64 c.tag, .string c.text, .int .i64 c.n, .int .i64 c.a, .int .i64 c.b, .int .i64 c.c]
def hnC (h : Hn) : List Value := [.int .i64 h.fr, .int .i64 h.til, .int .i64 h.at_, .int .i64 h.cls]
/-- A member, and where its handlers lie. -/
abbrev Mp := Mb × Option Addr × Nat
def mbC (m : Mp) : List Value := [.int .i64 m.1.flags, .int .i64 m.1.name, .int .i64 m.1.desc, .int .i64 m.1.stack, .int .i64 m.1.locals, .string m.1.code, .slice m.2.1 m.1.hs.length m.2.2]
theorem cnC_len (c : Cn) : (cnC c).length = 6 := rfl
theorem hnC_len (h : Hn) : (hnC h).length = 4 := rfl
theorem mbC_len (m : Mp) : (mbC m).length = 7 := rfl
def cnV (c : Cn) : Value := .agg #[.int .i64 c.tag, .string c.text, .int .i64 c.n, .int .i64 c.a, .int .i64 c.b, .int .i64 c.c]
def mbV (m : Mp) : Value := .agg #[.int .i64 m.1.flags, .int .i64 m.1.name, .int .i64 m.1.desc, .int .i64 m.1.stack, .int .i64 m.1.locals, .string m.1.code, .slice m.2.1 m.1.hs.length m.2.2]
/-- The link of a constant. -/
def get (p : List Cn) (i : Int) : Option Cn := if 1 ≤ i then p[(i - 1).toNat]? else none
def taggedS (p : List Cn) (i tag : Int) : Bool := match get p i with
  | some c => decide (c.tag = tag)
  | none => false
def cnameS (p : List Cn) (i : Int) : ByteArray × Bool := match get p i with
  | some c => if c.tag = 1 then (c.text, true) else (⟨#[]⟩, false)
  | none => (⟨#[]⟩, false)
def classNameS (p : List Cn) (i : Int) : ByteArray × Bool := match get p i with
  | some c => if c.tag = 4 then cnameS p c.a else (⟨#[]⟩, false)
  | none => (⟨#[]⟩, false)
/-- Where a class's lists lie. -/
structure At where
  A : Option Addr
  c : Nat
  I : Option Addr
  d : Nat
  X : Option Addr
  e : Nat
  Y : Option Addr
  g : Nat
end Sp
/-- Members are read, and their handlers. -/
def RdM (w : World) (A : Option Addr) (l : List Sp.Mp) : Prop := RdL Sp.mbC w A l ∧ ∀ m ∈ l, RdL Sp.hnC w m.2.1 m.1.hs
theorem rdM_below {w w1 : World} {A : Option Addr} {l : List Sp.Mp} (h : RdM w A l) (hb : Below w.heap.size w w1) : RdM w1 A l := ⟨rdL_below h.1 hb, fun m hm => rdL_below (h.2 m hm) hb⟩
/-- A class, with where its members' handlers lie. -/
structure FlP where
  pool : List Sp.Cn
  flags : Int
  this : Int
  super : Int
  ifaces : List Int
  fields : List Sp.Mp
  methods : List Sp.Mp
def FlP.fl (F : FlP) : Sp.Fl := ⟨F.pool, F.flags, F.this, F.super, F.ifaces, F.fields.map (·.1), F.methods.map (·.1)⟩
def flC (q : Sp.At) (F : FlP) : Array Value := #[.slice q.A F.pool.length q.c, .int .i64 F.flags, .int .i64 F.this, .int .i64 F.super, .slice q.I F.ifaces.length q.d, .slice q.X F.fields.length q.e, .slice q.Y F.methods.length q.g]
/-- The class is read. -/
structure RdF (w : World) (q : Sp.At) (F : FlP) : Prop where
  pool : RdL Sp.cnC w q.A F.pool
  ifaces : RdN .i64 w q.I F.ifaces
  fields : RdM w q.X F.fields
  methods : RdM w q.Y F.methods
theorem rdF_below {w w1 : World} {q : Sp.At} {F : FlP} (h : RdF w q F) (hb : Below w.heap.size w w1) : RdF w1 q F := ⟨rdL_below h.pool hb, rdN_below h.ifaces hb, rdM_below h.fields hb, rdM_below h.methods hb⟩
end Go.Proofs.YtfjplmbknegidaaGreatDoor
end
