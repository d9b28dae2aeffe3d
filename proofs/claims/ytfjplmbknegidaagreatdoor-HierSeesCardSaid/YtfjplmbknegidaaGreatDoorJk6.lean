/-
  Texts of the proof, joined: each says at its head what it proves.
-/
import Derived.Test.YtfjplmbknegidaaGreatDoorJk5
section
/-
  Walk of chapter 2's Method.
-/
set_option linter.unusedVariables false
set_option linter.unusedSimpArgs false
namespace Go.Proofs.YtfjplmbknegidaaGreatDoor
open Go.RowKit Go.Lib

theorem infoTy : (Tryz.prog.info? 25).map (fun i => (i.zero, i.size, i.bytes)) = some (some (.agg #[.int .i64 0, .string ⟨#[]⟩]), 2, 24) := by kernel_rfl

theorem sig_load (w : World) (b : Nat) {x y z u : Value} (h0 : w.cell? ⟨b, 0, none⟩ = some x) (h1 : w.cell? ⟨b, 1, none⟩ = some y) (h2 : w.cell? ⟨b, 2, none⟩ = some z) (h3 : w.cell? ⟨b, 3, none⟩ = some u) : (loadVar 173 ⟨b, 0, none⟩).run Tryz.prog w = .ok (.agg #[x, y, z, u]) w :=
  run_loadVar_mid w b 0 173 [x, y, z, u] _ (fun j v hj => by
    match j, hj with
    | 0, hj => simp at hj; subst hj; exact h0
    | 1, hj => simp at hj; subst hj; exact h1
    | 2, hj => simp at hj; subst hj; exact h2
    | 3, hj => simp at hj; subst hj; exact h3
    | j + 4, hj => simp at hj) Tryz.underlying173 rfl (by kernel_rfl)

namespace Sp
theorem trimPre (s : ByteArray) (h : bt s 0 = 40) : (⟨(Lib.trimPrefix s.data.toList (⟨#[40]⟩ : ByteArray).data.toList).toArray⟩ : ByteArray) = s.extract 1 s.size := by
  have hp := (pre_bt s 40 (by decide)).2 h
  apply ext_list
  have e : (⟨#[40]⟩ : ByteArray).data.toList = [40] := rfl
  rw [e]
  unfold Lib.trimPrefix
  rw [hp]
  simp
  exact (List.take_of_length_le (by rw [List.length_tail]; exact Nat.le_refl _)).symm
end Sp

set_option maxHeartbeats 8000000 in
set_option maxRecDepth 100000 in
theorem method_any (s : ByteArray) (w : World) (hs : s.size ≤ 1099511627776) (hT : Tabs w) :
    Calls Tryz.prog 129 #[.string s] w fun e w' => ∃ A c, e = .returned (.tuple #[Sp.sigV A c (Sp.methodS s).1, .int .i64 (Sp.methodS s).2]) ∧ RdT w' A (Sp.methodS s).1.1 ∧ Below w.heap.size w w' := by
  obtain ⟨i0, hi, hz0, hz1, hz2⟩ := info_parts infoTy
  have T0 := Lib.hid hT
  clear hT
  have HE := Lib.hid (show Sp.methodS s = _ by rw [Sp.methodS])
  generalize Sp.methodS s = R at HE ⊢
  have k1 := Lib.hid (fun W => Tryz.strings_CutPrefix s ⟨#[40]⟩ W)
  have hp := Sp.pre_bt s 40 (by decide)
  have e40 : (⟨#[40]⟩ : ByteArray).data.toList = [40] := rfl
  by_cases h40 : Sp.bt s 0 = 40
  · have h1 := hp.2 h40
    have hpos := Sp.pre_size s 40 h1
    rw [Sp.trimPre s h40, e40, h1] at k1
    rw [if_pos h40] at HE
    have htz : (s.extract 1 s.size).size + 1 ≤ s.size := by simp; omega
    generalize s.extract 1 s.size = t0 at *
    clear hp h1 e40
    go_enter Tryz.func129, Tryz.ntmps129
    go_wp2_with fail
    refine (k1.out _).mono ?_
    rintro e w1 ⟨rfl, rfl⟩
    go_wp2_with fail
    refine (reads_any _ _).mono ?_
    rintro e w1 ⟨rfl, rfl⟩
    go_wp2
    go_loopw [4] (fun v4 wr => ∃ (t : ByteArray) (f : Nat) (acc : List Sp.Ty) (A : Option Addr) (c : Nat), v4 = .string t
        ∧ Hid (wr.heap[w.heap.size]? = some (.cells #[.slice none 0 0, .int .i64 0, .string ⟨#[]⟩, .bool false] 173 (0, 0)))
        ∧ Hid (wr.heap[w.heap.size + 1]? = some (.cells #[.slice A acc.length c, .int .i64 0, .string ⟨#[]⟩, .bool false] 173 (0, 0)))
        ∧ Hid (wr.cell? ⟨w.heap.size + 1 + 1, 0, none⟩ = some (.string t) ∧ wr.frozen? ⟨w.heap.size + 1 + 1, 0, none⟩ = false)
        ∧ wr.ownsRow (w.heap.size + 3) 25 2 (.slice A acc.length c) acc.length (Sp.tyCells acc)
        ∧ Below w.heap.size w wr ∧ t.size + 1 ≤ f ∧ t.size + acc.length ≤ s.size ∧ Hid (R = Sp.endS (Sp.ahead acc (Sp.argsF f t)))) (fun v4 _ => (strOf v4).size)
    case atStart =>
      refine ⟨t0, s.size, [], none, 0, rfl, Lib.hid ?_, Lib.hid ?_, Lib.hid ?_, ⟨rfl, .inl ⟨rfl, rfl⟩⟩, ?_, htz, by simp; omega, Lib.hid (by rw [Sp.ahead_nil]; exact HE.out)⟩
      · exact blk_old (blk_old (blk_new _ _))
      · exact blk_old (by have := blk_new (w.alloc (.cells #[.slice none 0 0, .int .i64 0, .string ⟨#[]⟩, .bool false] 173)) (.cells #[.slice none 0 0, .int .i64 0, .string ⟨#[]⟩, .bool false] 173); simpa using this)
      · have := blk_new ((w.alloc (.cells #[.slice none 0 0, .int .i64 0, .string ⟨#[]⟩, .bool false] 173)).alloc (.cells #[.slice none 0 0, .int .i64 0, .string ⟨#[]⟩, .bool false] 173)) (.cells #[.string t0] 9)
        exact blk1 (by simpa using this)
      · (repeat (first | with_reducible assumption | with_reducible exact Below.refl _ _ | (with_reducible refine Below.setCell ?_ (by first | exact Nat.le_refl _ | omega | (simp; done) | (simp; omega)) _) | (with_reducible refine Below.alloc ?_ (by first | exact Nat.le_refl _ | omega | (simp; done) | (simp; omega)) _) | (with_reducible refine Below.drew ?_)))
    case round =>
      clear HE
      obtain ⟨t, f, acc, A, c, rfl, H0, H1, H2, hown, hb, hf, hal, hX⟩ := hrel
      have hlt := World.block_lt_of_cell? _ _ H2.out.1
      obtain ⟨g, rfl⟩ : ∃ g, f = g + 1 := ⟨f - 1, by omega⟩
      have k2 := Lib.hid (fun W => Tryz.strings_HasPrefix t ⟨#[41]⟩ W)
      have e41 : (⟨#[41]⟩ : ByteArray).data.toList = [41] := rfl
      rw [e41] at k2
      have hp := Sp.pre_bt t 41 (by decide)
      have hp0 := Sp.pre_size t 41
      have hX2 := hX.out
      rw [Sp.argsF] at hX2
      clear hX
      obtain ⟨⟨c00, c01, c02, c03⟩, f00, f01, f02, f03⟩ := blk4 H0.out
      obtain ⟨⟨c10, c11, c12, c13⟩, f10, f11, f12, f13⟩ := blk4 H1.out
      have hrd := Lib.hid (own_rdT hown).2
      have hna := own_len hown
      by_cases h41 : Sp.bt t 0 = 41
      · have hpp := hp.2 h41
        have htp := hp0 hpp
        rw [if_pos h41] at hX2
        rw [hpp] at k2
        have hX := Lib.hid (show R = Sp.finS acc t by rw [hX2]; simp [Sp.ahead, Sp.endS])
        clear hX2 hp hp0 hpp
        have hown' := Lib.hid hown
        clear hown
        go_wp2_with fail
        refine (k2.out _).mono ?_
        rintro e w1 ⟨rfl, rfl⟩
        clear k2
        by_cases hv : t = ⟨#[41, 86]⟩
        · subst hv
          have hX' := Lib.hid (show R = Sp.doneS acc Sp.t0 true by rw [hX.out, Sp.finS, if_pos (show (⟨#[41, 86]⟩ : ByteArray) = Sp.B [41, 86] from rfl)])
          clear hX
          by_cases h16 : 16 < acc.length
          · have hR : R = (Sp.sig0, 3) := by rw [hX'.out, Sp.doneS, if_pos h16]
            have hz : (16 : Int) < (acc.length : Int) := by omega
            subst hR
            clear hX'
            go_wp2
            (try simp only [Exit.inBlock, Exit.then]); refine bodyPost_ret (results_ct rfl _ _ _ rfl (sig_load _ w.heap.size (x := .slice none 0 0) (y := .int .i64 0) (z := .string ⟨#[]⟩) (u := .bool false) (by (repeat (first | with_reducible assumption | (with_reducible apply World.cell?_setCell_same) | (with_reducible refine cell_alloc _ _ ?_) | (refine (World.cell?_setCell_other _ _ _ _ (by first | (simp; done) | (intro q; simp at q; done) | (intro q; simp at q; omega))).trans ?_)))) (by (repeat (first | with_reducible assumption | (with_reducible apply World.cell?_setCell_same) | (with_reducible refine cell_alloc _ _ ?_) | (refine (World.cell?_setCell_other _ _ _ _ (by first | (simp; done) | (intro q; simp at q; done) | (intro q; simp at q; omega))).trans ?_)))) (by (repeat (first | with_reducible assumption | (with_reducible apply World.cell?_setCell_same) | (with_reducible refine cell_alloc _ _ ?_) | (refine (World.cell?_setCell_other _ _ _ _ (by first | (simp; done) | (intro q; simp at q; done) | (intro q; simp at q; omega))).trans ?_)))) (by (repeat (first | with_reducible assumption | (with_reducible apply World.cell?_setCell_same) | (with_reducible refine cell_alloc _ _ ?_) | (refine (World.cell?_setCell_other _ _ _ _ (by first | (simp; done) | (intro q; simp at q; done) | (intro q; simp at q; omega))).trans ?_)))))) rfl ?_
            exact ⟨none, ⟨0, rfl⟩, rdT_nil _ _, by (repeat (first | with_reducible assumption | with_reducible exact Below.refl _ _ | (with_reducible refine Below.setCell ?_ (by first | exact Nat.le_refl _ | omega | (simp; done) | (simp; omega)) _) | (with_reducible refine Below.alloc ?_ (by first | exact Nat.le_refl _ | omega | (simp; done) | (simp; omega)) _) | (with_reducible refine Below.drew ?_)))⟩
          · have hR : R = ((acc, Sp.t0, true), 0) := by rw [hX'.out, Sp.doneS, if_neg h16]
            have hz : ¬ (16 : Int) < (acc.length : Int) := by omega
            subst hR
            clear hX'
            go_wp2
            (try simp only [Exit.inBlock, Exit.then]); refine bodyPost_ret (results_ct rfl _ _ _ rfl (sig_load _ w.heap.size (x := .slice A acc.length c) (y := .int .i64 0) (z := .string ⟨#[]⟩) (u := .bool true) (by (repeat (first | with_reducible assumption | (with_reducible apply World.cell?_setCell_same) | (with_reducible refine cell_alloc _ _ ?_) | (refine (World.cell?_setCell_other _ _ _ _ (by first | (simp; done) | (intro q; simp at q; done) | (intro q; simp at q; omega))).trans ?_)))) (by (repeat (first | with_reducible assumption | (with_reducible apply World.cell?_setCell_same) | (with_reducible refine cell_alloc _ _ ?_) | (refine (World.cell?_setCell_other _ _ _ _ (by first | (simp; done) | (intro q; simp at q; done) | (intro q; simp at q; omega))).trans ?_)))) (by (repeat (first | with_reducible assumption | (with_reducible apply World.cell?_setCell_same) | (with_reducible refine cell_alloc _ _ ?_) | (refine (World.cell?_setCell_other _ _ _ _ (by first | (simp; done) | (intro q; simp at q; done) | (intro q; simp at q; omega))).trans ?_)))) (by (repeat (first | with_reducible assumption | (with_reducible apply World.cell?_setCell_same) | (with_reducible refine cell_alloc _ _ ?_) | (refine (World.cell?_setCell_other _ _ _ _ (by first | (simp; done) | (intro q; simp at q; done) | (intro q; simp at q; omega))).trans ?_)))))) rfl ?_
            exact ⟨A, ⟨c, rfl⟩, (own_rdT (show World.ownsRow _ (w.heap.size + 3) 25 2 (.slice A acc.length c) acc.length (Sp.tyCells acc) from by have := hown'.out; (repeat (first | with_reducible assumption | (with_reducible refine ownsRow_setCell_below ?_ (by first | (simp; done) | (simp; omega)) _) | (with_reducible refine World.ownsRow.alloc ?_ _) | (with_reducible refine World.ownsRow.drew ?_))))).2, by (repeat (first | with_reducible assumption | with_reducible exact Below.refl _ _ | (with_reducible refine Below.setCell ?_ (by first | exact Nat.le_refl _ | omega | (simp; done) | (simp; omega)) _) | (with_reducible refine Below.alloc ?_ (by first | exact Nat.le_refl _ | omega | (simp; done) | (simp; omega)) _) | (with_reducible refine Below.drew ?_)))⟩
        · have hX' := Lib.hid (show R = if (Sp.fieldS (t.extract 1 t.size)).2 = 0 then Sp.doneS acc (Sp.fieldS (t.extract 1 t.size)).1 false else (Sp.sig0, 9) by rw [hX.out, Sp.finS, if_neg (show ¬ t = Sp.B [41, 86] from hv)])
          clear hX
          have hfs := (by simp; omega : (t.extract 1 t.size).size ≤ 1099511627776)
          have k3 := Lib.hid (fun W hT => field_any (t.extract 1 t.size) W hfs hT)
          have hfe := Sp.fieldS_err (t.extract 1 t.size)
          have hvb : (t.toList == [41, 86]) = false := by
            rw [Bool.eq_false_iff]
            intro r
            exact hv ((bytes_beq_iff t ⟨#[41, 86]⟩).1 (by simpa using r))
          generalize Sp.fieldS (t.extract 1 t.size) = F at *
          obtain ⟨⟨fd, fn⟩, fe⟩ := F
          simp only [Sp.tyV] at k3 hX' hfe
          go_wp2_with fail
          refine (k3.out _ (T0.out.below hb)).mono ?_
          rintro e w1 ⟨rfl, hb1⟩
          clear k3
          have G0 := Lib.hid (blk_below H0.out hb1)
          have G1 := Lib.hid (blk_below H1.out hb1)
          have hown1 := Lib.hid (own_below hown'.out hb1)
          have hb' := below_then hb (hb.size) hb1
          clear H0 H1 H2 hown' hrd hb1 hb c00 c01 c02 c03 c10 c11 c12 c13 f00 f01 f02 f03 f10 f11 f12 f13
          obtain ⟨⟨c00, c01, c02, c03⟩, f00, f01, f02, f03⟩ := blk4 G0.out
          obtain ⟨⟨c10, c11, c12, c13⟩, f10, f11, f12, f13⟩ := blk4 G1.out
          have hlt1 := blk_lt G1.out
          have hlt0 := blk_lt G0.out
          by_cases h0 : fe = 0
          · have hX2 := Lib.hid (show R = Sp.doneS acc (fd, fn) false by rw [hX'.out, if_pos h0])
            clear hX' hfe
            subst h0
            by_cases h16 : 16 < acc.length
            · have hR : R = (Sp.sig0, 3) := by rw [hX2.out, Sp.doneS, if_pos h16]
              have hz : (16 : Int) < (acc.length : Int) := by omega
              subst hR
              clear hX2
              go_wp2
              (try simp only [Exit.inBlock, Exit.then]); refine bodyPost_ret (results_ct rfl _ _ _ rfl (sig_load _ w.heap.size (x := .slice none 0 0) (y := .int .i64 0) (z := .string ⟨#[]⟩) (u := .bool false) (by (repeat (first | with_reducible assumption | (with_reducible apply World.cell?_setCell_same) | (with_reducible refine cell_alloc _ _ ?_) | (refine (World.cell?_setCell_other _ _ _ _ (by first | (simp; done) | (intro q; simp at q; done) | (intro q; simp at q; omega))).trans ?_)))) (by (repeat (first | with_reducible assumption | (with_reducible apply World.cell?_setCell_same) | (with_reducible refine cell_alloc _ _ ?_) | (refine (World.cell?_setCell_other _ _ _ _ (by first | (simp; done) | (intro q; simp at q; done) | (intro q; simp at q; omega))).trans ?_)))) (by (repeat (first | with_reducible assumption | (with_reducible apply World.cell?_setCell_same) | (with_reducible refine cell_alloc _ _ ?_) | (refine (World.cell?_setCell_other _ _ _ _ (by first | (simp; done) | (intro q; simp at q; done) | (intro q; simp at q; omega))).trans ?_)))) (by (repeat (first | with_reducible assumption | (with_reducible apply World.cell?_setCell_same) | (with_reducible refine cell_alloc _ _ ?_) | (refine (World.cell?_setCell_other _ _ _ _ (by first | (simp; done) | (intro q; simp at q; done) | (intro q; simp at q; omega))).trans ?_)))))) rfl ?_
              exact ⟨none, ⟨0, rfl⟩, rdT_nil _ _, by (repeat (first | with_reducible assumption | with_reducible exact Below.refl _ _ | (with_reducible refine Below.setCell ?_ (by first | exact Nat.le_refl _ | omega | (simp; done) | (simp; omega)) _) | (with_reducible refine Below.alloc ?_ (by first | exact Nat.le_refl _ | omega | (simp; done) | (simp; omega)) _) | (with_reducible refine Below.drew ?_)))⟩
            · have hR : R = ((acc, (fd, fn), false), 0) := by rw [hX2.out, Sp.doneS, if_neg h16]
              have hz : ¬ (16 : Int) < (acc.length : Int) := by omega
              subst hR
              clear hX2
              go_wp2
              (try simp only [Exit.inBlock, Exit.then]); refine bodyPost_ret (results_ct rfl _ _ _ rfl (sig_load _ w.heap.size (x := .slice A acc.length c) (y := .int .i64 fd) (z := .string fn) (u := .bool false) (by (repeat (first | with_reducible assumption | (with_reducible apply World.cell?_setCell_same) | (with_reducible refine cell_alloc _ _ ?_) | (refine (World.cell?_setCell_other _ _ _ _ (by first | (simp; done) | (intro q; simp at q; done) | (intro q; simp at q; omega))).trans ?_)))) (by (repeat (first | with_reducible assumption | (with_reducible apply World.cell?_setCell_same) | (with_reducible refine cell_alloc _ _ ?_) | (refine (World.cell?_setCell_other _ _ _ _ (by first | (simp; done) | (intro q; simp at q; done) | (intro q; simp at q; omega))).trans ?_)))) (by (repeat (first | with_reducible assumption | (with_reducible apply World.cell?_setCell_same) | (with_reducible refine cell_alloc _ _ ?_) | (refine (World.cell?_setCell_other _ _ _ _ (by first | (simp; done) | (intro q; simp at q; done) | (intro q; simp at q; omega))).trans ?_)))) (by (repeat (first | with_reducible assumption | (with_reducible apply World.cell?_setCell_same) | (with_reducible refine cell_alloc _ _ ?_) | (refine (World.cell?_setCell_other _ _ _ _ (by first | (simp; done) | (intro q; simp at q; done) | (intro q; simp at q; omega))).trans ?_)))))) rfl ?_
              exact ⟨A, ⟨c, rfl⟩, (own_rdT (show World.ownsRow _ (w.heap.size + 3) 25 2 (.slice A acc.length c) acc.length (Sp.tyCells acc) from by have := hown1.out; (repeat (first | with_reducible assumption | (with_reducible refine ownsRow_setCell_below ?_ (by first | (simp; done) | (simp; omega)) _) | (with_reducible refine World.ownsRow.alloc ?_ _) | (with_reducible refine World.ownsRow.drew ?_))))).2, by (repeat (first | with_reducible assumption | with_reducible exact Below.refl _ _ | (with_reducible refine Below.setCell ?_ (by first | exact Nat.le_refl _ | omega | (simp; done) | (simp; omega)) _) | (with_reducible refine Below.alloc ?_ (by first | exact Nat.le_refl _ | omega | (simp; done) | (simp; omega)) _) | (with_reducible refine Below.drew ?_)))⟩
          · have hR : R = (Sp.sig0, 9) := by rw [hX'.out, if_neg h0]
            have h9 : fe = 9 := by rcases hfe with h | h; exact absurd h h0; exact h
            subst hR
            subst h9
            clear hX' hfe h0
            go_wp2
            (try simp only [Exit.inBlock, Exit.then]); refine bodyPost_ret (results_ct rfl _ _ _ rfl (sig_load _ w.heap.size (x := .slice none 0 0) (y := .int .i64 0) (z := .string ⟨#[]⟩) (u := .bool false) (by (repeat (first | with_reducible assumption | (with_reducible apply World.cell?_setCell_same) | (with_reducible refine cell_alloc _ _ ?_) | (refine (World.cell?_setCell_other _ _ _ _ (by first | (simp; done) | (intro q; simp at q; done) | (intro q; simp at q; omega))).trans ?_)))) (by (repeat (first | with_reducible assumption | (with_reducible apply World.cell?_setCell_same) | (with_reducible refine cell_alloc _ _ ?_) | (refine (World.cell?_setCell_other _ _ _ _ (by first | (simp; done) | (intro q; simp at q; done) | (intro q; simp at q; omega))).trans ?_)))) (by (repeat (first | with_reducible assumption | (with_reducible apply World.cell?_setCell_same) | (with_reducible refine cell_alloc _ _ ?_) | (refine (World.cell?_setCell_other _ _ _ _ (by first | (simp; done) | (intro q; simp at q; done) | (intro q; simp at q; omega))).trans ?_)))) (by (repeat (first | with_reducible assumption | (with_reducible apply World.cell?_setCell_same) | (with_reducible refine cell_alloc _ _ ?_) | (refine (World.cell?_setCell_other _ _ _ _ (by first | (simp; done) | (intro q; simp at q; done) | (intro q; simp at q; omega))).trans ?_)))))) rfl ?_
            exact ⟨none, ⟨0, rfl⟩, rdT_nil _ _, by (repeat (first | with_reducible assumption | with_reducible exact Below.refl _ _ | (with_reducible refine Below.setCell ?_ (by first | exact Nat.le_refl _ | omega | (simp; done) | (simp; omega)) _) | (with_reducible refine Below.alloc ?_ (by first | exact Nat.le_refl _ | omega | (simp; done) | (simp; omega)) _) | (with_reducible refine Below.drew ?_)))⟩
      · have hpf : Lib.hasPrefix t.data.toList [41] = false := by rw [Bool.eq_false_iff]; intro r; exact h41 (hp.1 r)
        rw [hpf] at k2
        rw [if_neg h41] at hX2
        have k3 := Lib.hid (fun W hc hf hT => reads1_any (w.heap.size + 1 + 1) t W (by omega) hc hf hT)
        have hrs := Sp.readS_size t
        have hX := Lib.hid hX2
        clear hX2 hp hp0 hpf h41
        generalize Sp.readS t = q at k3 hX hrs
        obtain ⟨c20, f20⟩ := H2.out
        have hlt0 := blk_lt H0.out
        go_wp2_with fail
        refine (k2.out _).mono ?_
        rintro e w1 ⟨rfl, rfl⟩
        clear k2
        go_wp2_with fail
        have k4 := k3.out (w1.alloc (.cells #[.int .i64 0, .string ⟨#[]⟩] 25)) (kept_cell ((Below.refl w1.heap.size w1).alloc (Nat.le_refl _) _) _ _ ⟨c20, f20⟩).1 (kept_cell ((Below.refl w1.heap.size w1).alloc (Nat.le_refl _) _) _ _ ⟨c20, f20⟩).2 (T0.out.below (hb.alloc hb.size _))
        clear k3
        have G0 := Lib.hid (blk_old (o := .cells #[.int .i64 0, .string ⟨#[]⟩] 25) H0.out)
        have G1 := Lib.hid (blk_old (o := .cells #[.int .i64 0, .string ⟨#[]⟩] 25) H1.out)
        have GT := Lib.hid (blk_new w1 (.cells #[.int .i64 0, .string ⟨#[]⟩] 25))
        have hbt := hb.alloc hb.size (.cells #[.int .i64 0, .string ⟨#[]⟩] 25)
        have hsz1 : w1.heap.size < (w1.alloc (.cells #[.int .i64 0, .string ⟨#[]⟩] 25)).heap.size := by simp
        have hownt := Lib.hid (hown.alloc (.cells #[.int .i64 0, .string ⟨#[]⟩] 25))
        have hkk := Lib.hid (hown.lt)
        clear hown hrd c00 c01 c02 c03 c10 c11 c12 c13 f00 f01 f02 f03 f10 f11 f12 f13 c20 f20 H0 H1 H2
        generalize w1.alloc (.cells #[.int .i64 0, .string ⟨#[]⟩] 25) = W at *
        cases q with
        | none =>
          have hR : R = (Sp.sig0, 9) := by rw [hX.out]; rfl
          subst hR
          clear hX hrs
          refine k4.mono ?_
          rintro e w2 ⟨rfl, hb2⟩
          obtain ⟨⟨c00, c01, c02, c03⟩, f00, f01, f02, f03⟩ := blk4 (blk_below G0.out hb2)
          obtain ⟨⟨c30, c31⟩, f30, f31⟩ := blk2 (blk_below GT.out hb2)
          have hb' := below_then hbt hbt.size hb2
          have hlt2 := blk_lt (blk_below G0.out hb2)
          clear G0 G1 GT hb2 hbt hb hownt
          unfold Sp.tyV Sp.t0
          go_wp2
          (try simp only [Exit.inBlock, Exit.then]); refine bodyPost_ret (results_ct rfl _ _ _ rfl (sig_load _ w.heap.size (x := .slice none 0 0) (y := .int .i64 0) (z := .string ⟨#[]⟩) (u := .bool false) (by (repeat (first | with_reducible assumption | (with_reducible apply World.cell?_setCell_same) | (with_reducible refine cell_alloc _ _ ?_) | (refine (World.cell?_setCell_other _ _ _ _ (by first | (simp; done) | (intro q; simp at q; done) | (intro q; simp at q; omega))).trans ?_)))) (by (repeat (first | with_reducible assumption | (with_reducible apply World.cell?_setCell_same) | (with_reducible refine cell_alloc _ _ ?_) | (refine (World.cell?_setCell_other _ _ _ _ (by first | (simp; done) | (intro q; simp at q; done) | (intro q; simp at q; omega))).trans ?_)))) (by (repeat (first | with_reducible assumption | (with_reducible apply World.cell?_setCell_same) | (with_reducible refine cell_alloc _ _ ?_) | (refine (World.cell?_setCell_other _ _ _ _ (by first | (simp; done) | (intro q; simp at q; done) | (intro q; simp at q; omega))).trans ?_)))) (by (repeat (first | with_reducible assumption | (with_reducible apply World.cell?_setCell_same) | (with_reducible refine cell_alloc _ _ ?_) | (refine (World.cell?_setCell_other _ _ _ _ (by first | (simp; done) | (intro q; simp at q; done) | (intro q; simp at q; omega))).trans ?_)))))) rfl ?_
          exact ⟨none, ⟨0, rfl⟩, rdT_nil _ _, by (repeat (first | with_reducible assumption | with_reducible exact Below.refl _ _ | (with_reducible refine Below.setCell ?_ (by first | exact Nat.le_refl _ | omega | (simp; done) | (simp; omega)) _) | (with_reducible refine Below.alloc ?_ (by first | exact Nat.le_refl _ | omega | (simp; done) | (simp; omega)) _) | (with_reducible refine Below.drew ?_)))⟩
        | some q =>
          obtain ⟨⟨qd, qn⟩, qr⟩ := q
          have hqr : qr.size < t.size := (hrs _ rfl).1
          have hX' := Lib.hid (show R = Sp.endS (Sp.ahead (acc ++ [(qd, qn)]) (Sp.argsF g qr)) by rw [hX.out, ← Sp.ahead_cons])
          clear hX hrs
          refine k4.mono ?_
          rintro e w2 ⟨rfl, hg2, hcb, hfb⟩
          have I0 := Lib.hid (blk_grown G0.out hg2 (by intro e; injection e with e; omega))
          have I1 := Lib.hid (blk_grown G1.out hg2 (by intro e; injection e with e; omega))
          have IT := Lib.hid (blk_grown GT.out hg2 (by intro e; injection e with e; omega))
          have hown2 := Lib.hid (hownt.out.kept hg2 (by
            cases hk : (Value.slice A acc.length c).ownBlock with
            | none => exact .inl rfl
            | some k => exact .inr (fun e => by injection e with e; have := hkk.out k hk; omega)))
          obtain ⟨⟨c10, c11, c12, c13⟩, f10, f11, f12, f13⟩ := blk4 I1.out
          obtain ⟨⟨c30, c31⟩, f30, f31⟩ := blk2 IT.out
          have hb' := hbt.grown hg2 hbt.size (fun k hk => by simp at hk; omega)
          have hlt2 := blk_lt IT.out
          clear G0 G1 GT hg2 hbt hb hownt
          have I2 := Lib.hid (And.intro hcb hfb)
          have hn48 : (acc.length + 1) * 24 ≤ 140737488355328 := by omega
          have hn63 : acc.length + 1 ≤ maxLen := by unfold maxLen; omega
          clear hcb hfb
          unfold Sp.tyV
          go_wp2_with (at_builtin; refine wpList_append_own _ rfl _ _ 36 rfl (w.heap.size + 3) 25 i0 (.agg #[.int .i64 0, .string ⟨#[]⟩]) 2 24 Tryz.underlying36 hi hz0 hz1 hz2 rfl (by decide) (.slice A acc.length c) acc.length (Sp.tyCells acc) rfl ((own_set (own_set hown2.out (fun k hk => by have := hkk.out k hk; omega) _) (fun k hk => by have := hkk.out k hk; omega) _).alloc _) ⟨w2.heap.size, 0, none⟩ 1 1 [.int .i64 qd, .string qn] ?x1 rfl ?x2 ?x3 hn63 hn48 ?x4 ?x5)
          case x1 => rfl
          case x2 =>
            have hnew := blk2 (blk_new ((w2.setCell ⟨w1.heap.size, 0, none⟩ (.int .i64 qd)).setCell ⟨w1.heap.size, 1, none⟩ (.string qn)) (.cells #[.int .i64 qd, .string qn] 25))
            simp only [Go.Deep.nblk_setCell] at hnew
            intro j u hj
            match j, hj with
            | 0, hj => simp at hj; subst hj; rw [Addr.add_mid]; exact hnew.1.1
            | 1, hj => simp at hj; subst hj; rw [Addr.add_mid]; exact hnew.1.2
            | j + 2, hj => simp at hj
          case x3 =>
            intro u hu
            simp at hu
            rcases hu with rfl | rfl <;> rfl
          case x4 => simp; omega
          · intro v' w3 hown3 hg3 _
            obtain ⟨A', c', rfl⟩ := own_sl hown3
            have hne : ∀ k, (k < w.heap.size + 3) → some k ≠ (Value.slice A acc.length c).ownBlock := fun k hk e => by have := hkk.out k e.symm; omega
            have J0 := Lib.hid (blk_grown (blk_old (blk_other (blk_other I0.out _ _ (by show _ ≠ _; simp; omega)) _ _ (by show _ ≠ _; simp; omega))) hg3 (hne _ (by omega)))
            have J1 := Lib.hid (blk_grown (blk_old (blk_other (blk_other I1.out _ _ (by show _ ≠ _; simp; omega)) _ _ (by show _ ≠ _; simp; omega))) hg3 (hne _ (by omega)))
            have hbz : w.heap.size ≤ w2.heap.size := hb'.size
            have hbw : Below w.heap.size w (((w2.setCell ⟨w1.heap.size, 0, none⟩ (.int .i64 qd)).setCell ⟨w1.heap.size, 1, none⟩ (.string qn)).alloc (.cells #[.int .i64 qd, .string qn] 25)) := by (repeat (first | with_reducible assumption | with_reducible exact Below.refl _ _ | (with_reducible refine Below.setCell ?_ (by first | exact Nat.le_refl _ | omega | (simp; done) | (simp; omega)) _) | (with_reducible refine Below.alloc ?_ (by first | exact Nat.le_refl _ | omega | (simp; done) | (simp; omega)) _) | (with_reducible refine Below.drew ?_)))
            have hb3 := hbw.grown hg3 hbw.size (fun k hk => by have := hkk.out k hk; omega)
            have J2 := Lib.hid (kept_grown hg3 (a := ⟨w.heap.size + 1 + 1, 0, none⟩) (v := .string qr) (kept_cell ((Below.refl _ _).alloc (Nat.le_refl _) _) _ _ ⟨by have := I2.out.1; (repeat (first | with_reducible assumption | (with_reducible apply World.cell?_setCell_same) | (with_reducible refine cell_alloc _ _ ?_) | (refine (World.cell?_setCell_other _ _ _ _ (by first | (simp; done) | (intro q; simp at q; done) | (intro q; simp at q; omega))).trans ?_))), by simpa using I2.out.2⟩) (hne _ (by simp)))
            obtain ⟨⟨d10, d11, d12, d13⟩, g10, g11, g12, g13⟩ := blk4 J1.out
            clear I0 I1 I2 IT c10 c11 c12 c13 f10 f11 f12 f13 c30 c31 f30 f31 hb' hbw hg3 hown2 hlt2
            go_wp2
            go_roundw
            case rel =>
              refine ⟨qr, g, acc ++ [(qd, qn)], A', c', rfl, Lib.hid (blk_other J0.out _ _ (by show _ ≠ _; simp)), Lib.hid ?_, Lib.hid ⟨by have := J2.out.1; (repeat (first | with_reducible assumption | (with_reducible apply World.cell?_setCell_same) | (with_reducible refine cell_alloc _ _ ?_) | (refine (World.cell?_setCell_other _ _ _ _ (by first | (simp; done) | (intro q; simp at q; done) | (intro q; simp at q; omega))).trans ?_))), by have := J2.out.2; simpa using this⟩, ?_, by (repeat (first | with_reducible assumption | with_reducible exact Below.refl _ _ | (with_reducible refine Below.setCell ?_ (by first | exact Nat.le_refl _ | omega | (simp; done) | (simp; omega)) _) | (with_reducible refine Below.alloc ?_ (by first | exact Nat.le_refl _ | omega | (simp; done) | (simp; omega)) _) | (with_reducible refine Below.drew ?_))), by omega, by simp; omega, hX'⟩
              · have := blk_set (i := 0) J1.out (.slice A' (acc.length + 1) c')
                simpa using this
              · have hq := hown3
                rw [show Sp.tyCells acc ++ [Value.int .i64 qd, Value.string qn] = Sp.tyCells (acc ++ [(qd, qn)]) by rw [Sp.tyCells_append]; rfl] at hq
                have := ownsRow_setCell_below hq (a := ⟨w.heap.size + 1, 0, none⟩) (by show _ < _; simp) (.slice A' (acc.length + 1) c')
                simpa using this
            case measure => simp [strOf]; omega
  · have hpf : Lib.hasPrefix s.data.toList [40] = false := by rw [Bool.eq_false_iff]; intro r; exact h40 (hp.1 r)
    rw [e40, hpf] at k1
    have hR : R = (Sp.sig0, 9) := by rw [HE.out, if_neg h40]
    subst hR
    clear HE hp hpf e40
    generalize (⟨(Lib.trimPrefix s.data.toList [40]).toArray⟩ : ByteArray) = tp at k1
    go_enter Tryz.func129, Tryz.ntmps129
    go_wp2_with fail
    refine (k1.out _).mono ?_
    rintro e w1 ⟨rfl, rfl⟩
    go_wp2
    (try simp only [Exit.inBlock, Exit.then]); refine bodyPost_ret (results_ct rfl _ _ _ rfl (sig_load _ w.heap.size (x := .slice none 0 0) (y := .int .i64 0) (z := .string ⟨#[]⟩) (u := .bool false) (by simp) (by simp) (by simp) (by simp))) rfl ?_
    exact ⟨none, 0, rfl, rdT_nil _ _, by (repeat (first | with_reducible assumption | with_reducible exact Below.refl _ _ | (with_reducible refine Below.setCell ?_ (by first | exact Nat.le_refl _ | omega | (simp; done) | (simp; omega)) _) | (with_reducible refine Below.alloc ?_ (by first | exact Nat.le_refl _ | omega | (simp; done) | (simp; omega)) _) | (with_reducible refine Below.drew ?_)))⟩
end Go.Proofs.YtfjplmbknegidaaGreatDoor
end
section
/-
  Walk of the reference's Field; what its next tells.
-/
set_option linter.unusedVariables false
set_option linter.unusedSimpArgs false
namespace Go.Proofs.YtfjplmbknegidaaGreatDoor
open Go.RowKit Go.Lib

namespace Sp
theorem readS_rest (s : ByteArray) (q : Ty × ByteArray) (h : readS s = some q) : ∃ k : Nat, 0 < k ∧ k ≤ s.size ∧ q.2 = s.extract k s.size := by
  by_cases c4 : 4 < cnt s
  · rw [readS_deep s c4] at h
    cases h
  by_cases cI : bt s (cnt s) = 73
  · have hc : cnt s < s.size := by
      by_cases hc : cnt s < s.size
      · exact hc
      · rw [bt_end s _ hc] at cI
        cases cI
    rw [readS_I s cI] at h
    split at h
    · injection h with h
      subst h
      exact ⟨cnt s + 1, by omega, by omega, tail_extract s⟩
    · cases h
  by_cases cL : bt s (cnt s) = 76
  · have hc : cnt s < s.size := by
      by_cases hc : cnt s < s.size
      · exact hc
      · rw [bt_end s _ hc] at cL
        cases cL
    obtain ⟨E, g1, g2, g3, g4, g5⟩ := readS_class s cL hc (by omega)
    rw [g5] at h
    split at h
    · cases h
    · injection h with h
      subst h
      exact ⟨E + 1, by omega, by omega, rfl⟩
  · rw [readS_none s cI cL] at h
    cases h
theorem refNext_facts (s : ByteArray) : (readS s = none ∧ refNextS s = (t0, 0)) ∨ ∃ (t : Ty) (r : ByteArray) (k : Nat), readS s = some (t, r) ∧ 0 < k ∧ k ≤ s.size ∧ refNextS s = (t, (k : Int)) ∧ r = s.extract k s.size ∧ r.size = s.size - k := by
  cases h : readS s with
  | none => exact .inl ⟨rfl, by rw [refNextS, h]⟩
  | some q =>
    obtain ⟨k, h0, h1, h2⟩ := readS_rest s q h
    have hz : q.2.size = s.size - k := by rw [h2]; simp
    refine .inr ⟨q.1, q.2, k, rfl, h0, h1, ?_, h2, hz⟩
    rw [refNextS, h]
    simp only
    rw [hz]
    refine Prod.ext rfl ?_
    simp only
    omega
theorem readS_empty (s : ByteArray) (h : s.size = 0) : readS s = none := by
  apply readS_none
  · rw [bt_end s _ (by omega)]; decide
  · rw [bt_end s _ (by omega)]; decide
end Sp

set_option maxHeartbeats 8000000 in
set_option maxRecDepth 100000 in
theorem refField_any (s : ByteArray) (w : World) (hs : s.size ≤ 1099511627776) :
    Calls Tryz.prog 108 #[.string s] w fun e w' => e = .returned (.tuple #[Sp.tyV (Sp.fieldS s).1, .int .i64 (Sp.fieldS s).2]) ∧ Below w.heap.size w w' := by
  have HE := Lib.hid (show Sp.fieldS s = _ by rw [Sp.fieldS])
  have k1 := Lib.hid (fun W => refNext2_any s W hs)
  have HF := Sp.refNext_facts s
  generalize Sp.fieldS s = R at HE ⊢
  generalize Sp.readS s = q at *
  generalize Sp.refNextS s = n at *
  rcases HF with ⟨rfl, rfl⟩ | ⟨⟨td, tn⟩, r, k, rfl, h0, h1, rfl, h2, h3⟩
  · have hR : R = (Sp.t0, 9) := HE.out
    subst hR
    clear HE
    unfold Sp.tyV Sp.t0 at k1
    unfold Sp.tyV Sp.t0
    go_enter Tryz.func108, Tryz.ntmps108
    go_wp2_with fail
    refine (k1.out _).mono ?_
    rintro e w1 ⟨rfl, hb⟩
    obtain ⟨⟨c0, c1⟩, f0, f1⟩ := blk2 (blk_below (blk_new w _) hb)
    have hlt := blk_lt (blk_below (blk_new w _) hb)
    have hb' := below_then ((Below.refl w.heap.size w).alloc (Nat.le_refl _) _) (by simp) hb
    go_wp2
    (try simp only [Exit.inBlock, Exit.then]); refine bodyPost_ret (results_ct rfl _ _ _ rfl (ty_load _ w.heap.size 0 (x := .int .i64 0) (y := .string ⟨#[]⟩) (by (repeat (first | with_reducible assumption | (with_reducible apply World.cell?_setCell_same) | (with_reducible refine cell_alloc _ _ ?_) | (refine (World.cell?_setCell_other _ _ _ _ (by first | (simp; done) | (intro q; simp at q; done) | (intro q; simp at q; omega))).trans ?_)))) (by (repeat (first | with_reducible assumption | (with_reducible apply World.cell?_setCell_same) | (with_reducible refine cell_alloc _ _ ?_) | (refine (World.cell?_setCell_other _ _ _ _ (by first | (simp; done) | (intro q; simp at q; done) | (intro q; simp at q; omega))).trans ?_)))))) rfl ?_
    exact ⟨rfl, by (repeat (first | with_reducible assumption | with_reducible exact Below.refl _ _ | (with_reducible refine Below.setCell ?_ (by first | exact Nat.le_refl _ | omega | (simp; done) | (simp; omega)) _) | (with_reducible refine Below.alloc ?_ (by first | exact Nat.le_refl _ | omega | (simp; done) | (simp; omega)) _) | (with_reducible refine Below.drew ?_)))⟩
  · have hkz : ((k : Int) == 0) = false := by rw [beq_eq_false_iff_ne]; omega
    clear h2
    unfold Sp.tyV at k1
    unfold Sp.tyV
    by_cases hz : r.size = 0
    · have hR : R = ((td, tn), 0) := by rw [HE.out]; simp [hz]
      obtain rfl : k = s.size := by omega
      subst hR
      clear HE h3 hz h1
      go_enter Tryz.func108, Tryz.ntmps108
      go_wp2_with fail
      refine (k1.out _).mono ?_
      rintro e w1 ⟨rfl, hb⟩
      obtain ⟨⟨c0, c1⟩, f0, f1⟩ := blk2 (blk_below (blk_new w _) hb)
      have hlt := blk_lt (blk_below (blk_new w _) hb)
      have hb' := below_then ((Below.refl w.heap.size w).alloc (Nat.le_refl _) _) (by simp) hb
      go_wp2
      (try simp only [Exit.inBlock, Exit.then]); refine bodyPost_ret (results_ct rfl _ _ _ rfl (ty_load _ w.heap.size 0 (x := .int .i64 td) (y := .string tn) (by (repeat (first | with_reducible assumption | (with_reducible apply World.cell?_setCell_same) | (with_reducible refine cell_alloc _ _ ?_) | (refine (World.cell?_setCell_other _ _ _ _ (by first | (simp; done) | (intro q; simp at q; done) | (intro q; simp at q; omega))).trans ?_)))) (by (repeat (first | with_reducible assumption | (with_reducible apply World.cell?_setCell_same) | (with_reducible refine cell_alloc _ _ ?_) | (refine (World.cell?_setCell_other _ _ _ _ (by first | (simp; done) | (intro q; simp at q; done) | (intro q; simp at q; omega))).trans ?_)))))) rfl ?_
      exact ⟨rfl, by (repeat (first | with_reducible assumption | with_reducible exact Below.refl _ _ | (with_reducible refine Below.setCell ?_ (by first | exact Nat.le_refl _ | omega | (simp; done) | (simp; omega)) _) | (with_reducible refine Below.alloc ?_ (by first | exact Nat.le_refl _ | omega | (simp; done) | (simp; omega)) _) | (with_reducible refine Below.drew ?_)))⟩
    · have hR : R = (Sp.t0, 9) := by rw [HE.out]; simp [hz]
      have hks : ((k : Int) == (s.size : Int)) = false := by rw [beq_eq_false_iff_ne]; omega
      subst hR
      clear HE h3 hz h1
      unfold Sp.t0
      go_enter Tryz.func108, Tryz.ntmps108
      go_wp2_with fail
      refine (k1.out _).mono ?_
      rintro e w1 ⟨rfl, hb⟩
      obtain ⟨⟨c0, c1⟩, f0, f1⟩ := blk2 (blk_below (blk_new w _) hb)
      have hlt := blk_lt (blk_below (blk_new w _) hb)
      have hb' := below_then ((Below.refl w.heap.size w).alloc (Nat.le_refl _) _) (by simp) hb
      go_wp2
      (try simp only [Exit.inBlock, Exit.then]); refine bodyPost_ret (results_ct rfl _ _ _ rfl (ty_load _ w.heap.size 0 (x := .int .i64 0) (y := .string ⟨#[]⟩) (by (repeat (first | with_reducible assumption | (with_reducible apply World.cell?_setCell_same) | (with_reducible refine cell_alloc _ _ ?_) | (refine (World.cell?_setCell_other _ _ _ _ (by first | (simp; done) | (intro q; simp at q; done) | (intro q; simp at q; omega))).trans ?_)))) (by (repeat (first | with_reducible assumption | (with_reducible apply World.cell?_setCell_same) | (with_reducible refine cell_alloc _ _ ?_) | (refine (World.cell?_setCell_other _ _ _ _ (by first | (simp; done) | (intro q; simp at q; done) | (intro q; simp at q; omega))).trans ?_)))))) rfl ?_
      exact ⟨rfl, by (repeat (first | with_reducible assumption | with_reducible exact Below.refl _ _ | (with_reducible refine Below.setCell ?_ (by first | exact Nat.le_refl _ | omega | (simp; done) | (simp; omega)) _) | (with_reducible refine Below.alloc ?_ (by first | exact Nat.le_refl _ | omega | (simp; done) | (simp; omega)) _) | (with_reducible refine Below.drew ?_)))⟩
end Go.Proofs.YtfjplmbknegidaaGreatDoor
end
