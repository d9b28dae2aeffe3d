/-
  Texts of the proof, joined: each says at its head what it proves.
-/
import Derived.Test.YthpfknlgfkecpaaDoorJFileNamesx1
import Derived.Test.YthpfknlgfkecpaaDoorProg
import Derived.WalkKit
import Derived.Below
import Derived.Deep.Quiet
import Derived.Maps.OwnSet
import Derived.Maps.OwnOps
import Derived.WideKeyPair
import Derived.DeepKeys4
import Derived.WalkMore
section
/-
  Walk of chapter 2's Method.
-/
set_option linter.unusedVariables false
set_option linter.unusedSimpArgs false
namespace Go.Proofs.YthpfknlgfkecpaaDoor
open Go.RowKit Go.Lib

theorem infoTy : (Tryd.prog.info? 23).map (fun i => (i.zero, i.size, i.bytes)) = some (some (.agg #[.int .i64 0, .string ⟨#[]⟩]), 2, 24) := by kernel_rfl

theorem sig_load (w : World) (b : Nat) {x y z u : Value} (h0 : w.cell? ⟨b, 0, none⟩ = some x) (h1 : w.cell? ⟨b, 1, none⟩ = some y) (h2 : w.cell? ⟨b, 2, none⟩ = some z) (h3 : w.cell? ⟨b, 3, none⟩ = some u) : (loadVar 37 ⟨b, 0, none⟩).run Tryd.prog w = .ok (.agg #[x, y, z, u]) w :=
  run_loadVar_mid w b 0 37 [x, y, z, u] _ (fun j v hj => by
    match j, hj with
    | 0, hj => simp at hj; subst hj; exact h0
    | 1, hj => simp at hj; subst hj; exact h1
    | 2, hj => simp at hj; subst hj; exact h2
    | 3, hj => simp at hj; subst hj; exact h3
    | j + 4, hj => simp at hj) Tryd.underlying37 rfl (by kernel_rfl)

namespace Sp
theorem trimPre (s : ByteArray) (h : bt s 0 = 40) : (⟨(Lib.trimPrefix s.data.toList (⟨#[40]⟩ : ByteArray).data.toList).toArray⟩ : ByteArray) = s.extract 1 s.size := by
  have hp := (pre_bt s 40 (by decide)).2 h
  apply ext_list
  have e : (⟨#[40]⟩ : ByteArray).data.toList = [40] := rfl
  rw [e]
  unfold Lib.trimPrefix
  rw [hp]
  simp
  exact (List.take_of_length_le (by rw [List.length_tail]; exact Nat.le_refl _)).symm
end Sp

set_option maxHeartbeats 8000000 in
set_option maxRecDepth 100000 in
theorem method_any (s : ByteArray) (w : World) (hs : s.size ≤ 1099511627776) (hT : Tabs w) :
    Calls Tryd.prog 27 #[.string s] w fun e w' => ∃ A c, e = .returned (.tuple #[Sp.sigV A c (Sp.methodS s).1, .int .i64 (Sp.methodS s).2]) ∧ RdT w' A (Sp.methodS s).1.1 ∧ Below w.heap.size w w' := by
  obtain ⟨i0, hi, hz0, hz1, hz2⟩ := info_parts infoTy
  have T0 := Lib.hid hT
  clear hT
  have HE := Lib.hid (show Sp.methodS s = _ by rw [Sp.methodS])
  generalize Sp.methodS s = R at HE ⊢
  have k1 := Lib.hid (fun W => Tryd.strings_CutPrefix s ⟨#[40]⟩ W)
  have hp := Sp.pre_bt s 40 (by decide)
  have e40 : (⟨#[40]⟩ : ByteArray).data.toList = [40] := rfl
  by_cases h40 : Sp.bt s 0 = 40
  · have h1 := hp.2 h40
    have hpos := Sp.pre_size s 40 h1
    rw [Sp.trimPre s h40, e40, h1] at k1
    rw [if_pos h40] at HE
    have htz : (s.extract 1 s.size).size + 1 ≤ s.size := by simp; omega
    generalize s.extract 1 s.size = t0 at *
    clear hp h1 e40
    go_enter Tryd.func27, Tryd.ntmps27
    go_wp2_with fail
    refine (k1.out _).mono ?_
    rintro e w1 ⟨rfl, rfl⟩
    go_wp2_with fail
    refine (reads_any _ _).mono ?_
    rintro e w1 ⟨rfl, rfl⟩
    go_wp2
    go_loopw [4] (fun v4 wr => ∃ (t : ByteArray) (f : Nat) (acc : List Sp.Ty) (A : Option Addr) (c : Nat), v4 = .string t
        ∧ Hid (wr.heap[w.heap.size]? = some (.cells #[.slice none 0 0, .int .i64 0, .string ⟨#[]⟩, .bool false] 37 (0, 0)))
        ∧ Hid (wr.heap[w.heap.size + 1]? = some (.cells #[.slice A acc.length c, .int .i64 0, .string ⟨#[]⟩, .bool false] 37 (0, 0)))
        ∧ Hid (wr.cell? ⟨w.heap.size + 1 + 1, 0, none⟩ = some (.string t) ∧ wr.frozen? ⟨w.heap.size + 1 + 1, 0, none⟩ = false)
        ∧ wr.ownsRow (w.heap.size + 3) 23 2 (.slice A acc.length c) acc.length (Sp.tyCells acc)
        ∧ Below w.heap.size w wr ∧ t.size + 1 ≤ f ∧ t.size + acc.length ≤ s.size ∧ Hid (R = Sp.endS (Sp.ahead acc (Sp.argsF f t)))) (fun v4 _ => (strOf v4).size)
    case atStart =>
      refine ⟨t0, s.size, [], none, 0, rfl, Lib.hid ?_, Lib.hid ?_, Lib.hid ?_, ⟨rfl, .inl ⟨rfl, rfl⟩⟩, ?_, htz, by simp; omega, Lib.hid (by rw [Sp.ahead_nil]; exact HE.out)⟩
      · exact blk_old (blk_old (blk_new _ _))
      · exact blk_old (by have := blk_new (w.alloc (.cells #[.slice none 0 0, .int .i64 0, .string ⟨#[]⟩, .bool false] 37)) (.cells #[.slice none 0 0, .int .i64 0, .string ⟨#[]⟩, .bool false] 37); simpa using this)
      · have := blk_new ((w.alloc (.cells #[.slice none 0 0, .int .i64 0, .string ⟨#[]⟩, .bool false] 37)).alloc (.cells #[.slice none 0 0, .int .i64 0, .string ⟨#[]⟩, .bool false] 37)) (.cells #[.string t0] 9)
        exact blk1 (by simpa using this)
      · (repeat (first | with_reducible assumption | with_reducible exact Below.refl _ _ | (with_reducible refine Below.setCell ?_ (by first | exact Nat.le_refl _ | omega | (simp; done) | (simp; omega)) _) | (with_reducible refine Below.alloc ?_ (by first | exact Nat.le_refl _ | omega | (simp; done) | (simp; omega)) _) | (with_reducible refine Below.drew ?_)))
    case round =>
      clear HE
      obtain ⟨t, f, acc, A, c, rfl, H0, H1, H2, hown, hb, hf, hal, hX⟩ := hrel
      have hlt := World.block_lt_of_cell? _ _ H2.out.1
      obtain ⟨g, rfl⟩ : ∃ g, f = g + 1 := ⟨f - 1, by omega⟩
      have k2 := Lib.hid (fun W => Tryd.strings_HasPrefix t ⟨#[41]⟩ W)
      have e41 : (⟨#[41]⟩ : ByteArray).data.toList = [41] := rfl
      rw [e41] at k2
      have hp := Sp.pre_bt t 41 (by decide)
      have hp0 := Sp.pre_size t 41
      have hX2 := hX.out
      rw [Sp.argsF] at hX2
      clear hX
      obtain ⟨⟨c00, c01, c02, c03⟩, f00, f01, f02, f03⟩ := blk4 H0.out
      obtain ⟨⟨c10, c11, c12, c13⟩, f10, f11, f12, f13⟩ := blk4 H1.out
      have hrd := Lib.hid (own_rdT hown).2
      have hna := own_len hown
      by_cases h41 : Sp.bt t 0 = 41
      · have hpp := hp.2 h41
        have htp := hp0 hpp
        rw [if_pos h41] at hX2
        rw [hpp] at k2
        have hX := Lib.hid (show R = Sp.finS acc t by rw [hX2]; simp [Sp.ahead, Sp.endS])
        clear hX2 hp hp0 hpp
        have hown' := Lib.hid hown
        clear hown
        go_wp2_with fail
        refine (k2.out _).mono ?_
        rintro e w1 ⟨rfl, rfl⟩
        clear k2
        by_cases hv : t = ⟨#[41, 86]⟩
        · subst hv
          have hX' := Lib.hid (show R = Sp.doneS acc Sp.t0 true by rw [hX.out, Sp.finS, if_pos (show (⟨#[41, 86]⟩ : ByteArray) = Sp.B [41, 86] from rfl)])
          clear hX
          by_cases h16 : 16 < acc.length
          · have hR : R = (Sp.sig0, 3) := by rw [hX'.out, Sp.doneS, if_pos h16]
            have hz : (16 : Int) < (acc.length : Int) := by omega
            subst hR
            clear hX'
            go_wp2
            (try simp only [Exit.inBlock, Exit.then]); refine bodyPost_ret (results_ct rfl _ _ _ rfl (sig_load _ w.heap.size (x := .slice none 0 0) (y := .int .i64 0) (z := .string ⟨#[]⟩) (u := .bool false) (by (repeat (first | with_reducible assumption | (with_reducible apply World.cell?_setCell_same) | (with_reducible refine cell_alloc _ _ ?_) | (refine (World.cell?_setCell_other _ _ _ _ (by first | (simp; done) | (intro q; simp at q; done) | (intro q; simp at q; omega))).trans ?_)))) (by (repeat (first | with_reducible assumption | (with_reducible apply World.cell?_setCell_same) | (with_reducible refine cell_alloc _ _ ?_) | (refine (World.cell?_setCell_other _ _ _ _ (by first | (simp; done) | (intro q; simp at q; done) | (intro q; simp at q; omega))).trans ?_)))) (by (repeat (first | with_reducible assumption | (with_reducible apply World.cell?_setCell_same) | (with_reducible refine cell_alloc _ _ ?_) | (refine (World.cell?_setCell_other _ _ _ _ (by first | (simp; done) | (intro q; simp at q; done) | (intro q; simp at q; omega))).trans ?_)))) (by (repeat (first | with_reducible assumption | (with_reducible apply World.cell?_setCell_same) | (with_reducible refine cell_alloc _ _ ?_) | (refine (World.cell?_setCell_other _ _ _ _ (by first | (simp; done) | (intro q; simp at q; done) | (intro q; simp at q; omega))).trans ?_)))))) rfl ?_
            exact ⟨none, ⟨0, rfl⟩, rdT_nil _ _, by (repeat (first | with_reducible assumption | with_reducible exact Below.refl _ _ | (with_reducible refine Below.setCell ?_ (by first | exact Nat.le_refl _ | omega | (simp; done) | (simp; omega)) _) | (with_reducible refine Below.alloc ?_ (by first | exact Nat.le_refl _ | omega | (simp; done) | (simp; omega)) _) | (with_reducible refine Below.drew ?_)))⟩
          · have hR : R = ((acc, Sp.t0, true), 0) := by rw [hX'.out, Sp.doneS, if_neg h16]
            have hz : ¬ (16 : Int) < (acc.length : Int) := by omega
            subst hR
            clear hX'
            go_wp2
            (try simp only [Exit.inBlock, Exit.then]); refine bodyPost_ret (results_ct rfl _ _ _ rfl (sig_load _ w.heap.size (x := .slice A acc.length c) (y := .int .i64 0) (z := .string ⟨#[]⟩) (u := .bool true) (by (repeat (first | with_reducible assumption | (with_reducible apply World.cell?_setCell_same) | (with_reducible refine cell_alloc _ _ ?_) | (refine (World.cell?_setCell_other _ _ _ _ (by first | (simp; done) | (intro q; simp at q; done) | (intro q; simp at q; omega))).trans ?_)))) (by (repeat (first | with_reducible assumption | (with_reducible apply World.cell?_setCell_same) | (with_reducible refine cell_alloc _ _ ?_) | (refine (World.cell?_setCell_other _ _ _ _ (by first | (simp; done) | (intro q; simp at q; done) | (intro q; simp at q; omega))).trans ?_)))) (by (repeat (first | with_reducible assumption | (with_reducible apply World.cell?_setCell_same) | (with_reducible refine cell_alloc _ _ ?_) | (refine (World.cell?_setCell_other _ _ _ _ (by first | (simp; done) | (intro q; simp at q; done) | (intro q; simp at q; omega))).trans ?_)))) (by (repeat (first | with_reducible assumption | (with_reducible apply World.cell?_setCell_same) | (with_reducible refine cell_alloc _ _ ?_) | (refine (World.cell?_setCell_other _ _ _ _ (by first | (simp; done) | (intro q; simp at q; done) | (intro q; simp at q; omega))).trans ?_)))))) rfl ?_
            exact ⟨A, ⟨c, rfl⟩, (own_rdT (show World.ownsRow _ (w.heap.size + 3) 23 2 (.slice A acc.length c) acc.length (Sp.tyCells acc) from by have := hown'.out; (repeat (first | with_reducible assumption | (with_reducible refine ownsRow_setCell_below ?_ (by first | (simp; done) | (simp; omega)) _) | (with_reducible refine World.ownsRow.alloc ?_ _) | (with_reducible refine World.ownsRow.drew ?_))))).2, by (repeat (first | with_reducible assumption | with_reducible exact Below.refl _ _ | (with_reducible refine Below.setCell ?_ (by first | exact Nat.le_refl _ | omega | (simp; done) | (simp; omega)) _) | (with_reducible refine Below.alloc ?_ (by first | exact Nat.le_refl _ | omega | (simp; done) | (simp; omega)) _) | (with_reducible refine Below.drew ?_)))⟩
        · have hX' := Lib.hid (show R = if (Sp.fieldS (t.extract 1 t.size)).2 = 0 then Sp.doneS acc (Sp.fieldS (t.extract 1 t.size)).1 false else (Sp.sig0, 9) by rw [hX.out, Sp.finS, if_neg (show ¬ t = Sp.B [41, 86] from hv)])
          clear hX
          have hfs := (by simp; omega : (t.extract 1 t.size).size ≤ 1099511627776)
          have k3 := Lib.hid (fun W hT => field_any (t.extract 1 t.size) W hfs hT)
          have hfe := Sp.fieldS_err (t.extract 1 t.size)
          have hvb : (t.toList == [41, 86]) = false := by
            rw [Bool.eq_false_iff]
            intro r
            exact hv ((bytes_beq_iff t ⟨#[41, 86]⟩).1 (by simpa using r))
          generalize Sp.fieldS (t.extract 1 t.size) = F at *
          obtain ⟨⟨fd, fn⟩, fe⟩ := F
          simp only [Sp.tyV] at k3 hX' hfe
          go_wp2_with fail
          refine (k3.out _ (T0.out.below hb)).mono ?_
          rintro e w1 ⟨rfl, hb1⟩
          clear k3
          have G0 := Lib.hid (blk_below H0.out hb1)
          have G1 := Lib.hid (blk_below H1.out hb1)
          have hown1 := Lib.hid (own_below hown'.out hb1)
          have hb' := below_then hb (hb.size) hb1
          clear H0 H1 H2 hown' hrd hb1 hb c00 c01 c02 c03 c10 c11 c12 c13 f00 f01 f02 f03 f10 f11 f12 f13
          obtain ⟨⟨c00, c01, c02, c03⟩, f00, f01, f02, f03⟩ := blk4 G0.out
          obtain ⟨⟨c10, c11, c12, c13⟩, f10, f11, f12, f13⟩ := blk4 G1.out
          have hlt1 := blk_lt G1.out
          have hlt0 := blk_lt G0.out
          by_cases h0 : fe = 0
          · have hX2 := Lib.hid (show R = Sp.doneS acc (fd, fn) false by rw [hX'.out, if_pos h0])
            clear hX' hfe
            subst h0
            by_cases h16 : 16 < acc.length
            · have hR : R = (Sp.sig0, 3) := by rw [hX2.out, Sp.doneS, if_pos h16]
              have hz : (16 : Int) < (acc.length : Int) := by omega
              subst hR
              clear hX2
              go_wp2
              (try simp only [Exit.inBlock, Exit.then]); refine bodyPost_ret (results_ct rfl _ _ _ rfl (sig_load _ w.heap.size (x := .slice none 0 0) (y := .int .i64 0) (z := .string ⟨#[]⟩) (u := .bool false) (by (repeat (first | with_reducible assumption | (with_reducible apply World.cell?_setCell_same) | (with_reducible refine cell_alloc _ _ ?_) | (refine (World.cell?_setCell_other _ _ _ _ (by first | (simp; done) | (intro q; simp at q; done) | (intro q; simp at q; omega))).trans ?_)))) (by (repeat (first | with_reducible assumption | (with_reducible apply World.cell?_setCell_same) | (with_reducible refine cell_alloc _ _ ?_) | (refine (World.cell?_setCell_other _ _ _ _ (by first | (simp; done) | (intro q; simp at q; done) | (intro q; simp at q; omega))).trans ?_)))) (by (repeat (first | with_reducible assumption | (with_reducible apply World.cell?_setCell_same) | (with_reducible refine cell_alloc _ _ ?_) | (refine (World.cell?_setCell_other _ _ _ _ (by first | (simp; done) | (intro q; simp at q; done) | (intro q; simp at q; omega))).trans ?_)))) (by (repeat (first | with_reducible assumption | (with_reducible apply World.cell?_setCell_same) | (with_reducible refine cell_alloc _ _ ?_) | (refine (World.cell?_setCell_other _ _ _ _ (by first | (simp; done) | (intro q; simp at q; done) | (intro q; simp at q; omega))).trans ?_)))))) rfl ?_
              exact ⟨none, ⟨0, rfl⟩, rdT_nil _ _, by (repeat (first | with_reducible assumption | with_reducible exact Below.refl _ _ | (with_reducible refine Below.setCell ?_ (by first | exact Nat.le_refl _ | omega | (simp; done) | (simp; omega)) _) | (with_reducible refine Below.alloc ?_ (by first | exact Nat.le_refl _ | omega | (simp; done) | (simp; omega)) _) | (with_reducible refine Below.drew ?_)))⟩
            · have hR : R = ((acc, (fd, fn), false), 0) := by rw [hX2.out, Sp.doneS, if_neg h16]
              have hz : ¬ (16 : Int) < (acc.length : Int) := by omega
              subst hR
              clear hX2
              go_wp2
              (try simp only [Exit.inBlock, Exit.then]); refine bodyPost_ret (results_ct rfl _ _ _ rfl (sig_load _ w.heap.size (x := .slice A acc.length c) (y := .int .i64 fd) (z := .string fn) (u := .bool false) (by (repeat (first | with_reducible assumption | (with_reducible apply World.cell?_setCell_same) | (with_reducible refine cell_alloc _ _ ?_) | (refine (World.cell?_setCell_other _ _ _ _ (by first | (simp; done) | (intro q; simp at q; done) | (intro q; simp at q; omega))).trans ?_)))) (by (repeat (first | with_reducible assumption | (with_reducible apply World.cell?_setCell_same) | (with_reducible refine cell_alloc _ _ ?_) | (refine (World.cell?_setCell_other _ _ _ _ (by first | (simp; done) | (intro q; simp at q; done) | (intro q; simp at q; omega))).trans ?_)))) (by (repeat (first | with_reducible assumption | (with_reducible apply World.cell?_setCell_same) | (with_reducible refine cell_alloc _ _ ?_) | (refine (World.cell?_setCell_other _ _ _ _ (by first | (simp; done) | (intro q; simp at q; done) | (intro q; simp at q; omega))).trans ?_)))) (by (repeat (first | with_reducible assumption | (with_reducible apply World.cell?_setCell_same) | (with_reducible refine cell_alloc _ _ ?_) | (refine (World.cell?_setCell_other _ _ _ _ (by first | (simp; done) | (intro q; simp at q; done) | (intro q; simp at q; omega))).trans ?_)))))) rfl ?_
              exact ⟨A, ⟨c, rfl⟩, (own_rdT (show World.ownsRow _ (w.heap.size + 3) 23 2 (.slice A acc.length c) acc.length (Sp.tyCells acc) from by have := hown1.out; (repeat (first | with_reducible assumption | (with_reducible refine ownsRow_setCell_below ?_ (by first | (simp; done) | (simp; omega)) _) | (with_reducible refine World.ownsRow.alloc ?_ _) | (with_reducible refine World.ownsRow.drew ?_))))).2, by (repeat (first | with_reducible assumption | with_reducible exact Below.refl _ _ | (with_reducible refine Below.setCell ?_ (by first | exact Nat.le_refl _ | omega | (simp; done) | (simp; omega)) _) | (with_reducible refine Below.alloc ?_ (by first | exact Nat.le_refl _ | omega | (simp; done) | (simp; omega)) _) | (with_reducible refine Below.drew ?_)))⟩
          · have hR : R = (Sp.sig0, 9) := by rw [hX'.out, if_neg h0]
            have h9 : fe = 9 := by rcases hfe with h | h; exact absurd h h0; exact h
            subst hR
            subst h9
            clear hX' hfe h0
            go_wp2
            (try simp only [Exit.inBlock, Exit.then]); refine bodyPost_ret (results_ct rfl _ _ _ rfl (sig_load _ w.heap.size (x := .slice none 0 0) (y := .int .i64 0) (z := .string ⟨#[]⟩) (u := .bool false) (by (repeat (first | with_reducible assumption | (with_reducible apply World.cell?_setCell_same) | (with_reducible refine cell_alloc _ _ ?_) | (refine (World.cell?_setCell_other _ _ _ _ (by first | (simp; done) | (intro q; simp at q; done) | (intro q; simp at q; omega))).trans ?_)))) (by (repeat (first | with_reducible assumption | (with_reducible apply World.cell?_setCell_same) | (with_reducible refine cell_alloc _ _ ?_) | (refine (World.cell?_setCell_other _ _ _ _ (by first | (simp; done) | (intro q; simp at q; done) | (intro q; simp at q; omega))).trans ?_)))) (by (repeat (first | with_reducible assumption | (with_reducible apply World.cell?_setCell_same) | (with_reducible refine cell_alloc _ _ ?_) | (refine (World.cell?_setCell_other _ _ _ _ (by first | (simp; done) | (intro q; simp at q; done) | (intro q; simp at q; omega))).trans ?_)))) (by (repeat (first | with_reducible assumption | (with_reducible apply World.cell?_setCell_same) | (with_reducible refine cell_alloc _ _ ?_) | (refine (World.cell?_setCell_other _ _ _ _ (by first | (simp; done) | (intro q; simp at q; done) | (intro q; simp at q; omega))).trans ?_)))))) rfl ?_
            exact ⟨none, ⟨0, rfl⟩, rdT_nil _ _, by (repeat (first | with_reducible assumption | with_reducible exact Below.refl _ _ | (with_reducible refine Below.setCell ?_ (by first | exact Nat.le_refl _ | omega | (simp; done) | (simp; omega)) _) | (with_reducible refine Below.alloc ?_ (by first | exact Nat.le_refl _ | omega | (simp; done) | (simp; omega)) _) | (with_reducible refine Below.drew ?_)))⟩
      · have hpf : Lib.hasPrefix t.data.toList [41] = false := by rw [Bool.eq_false_iff]; intro r; exact h41 (hp.1 r)
        rw [hpf] at k2
        rw [if_neg h41] at hX2
        have k3 := Lib.hid (fun W hc hf hT => reads1_any (w.heap.size + 1 + 1) t W (by omega) hc hf hT)
        have hrs := Sp.readS_size t
        have hX := Lib.hid hX2
        clear hX2 hp hp0 hpf h41
        generalize Sp.readS t = q at k3 hX hrs
        obtain ⟨c20, f20⟩ := H2.out
        have hlt0 := blk_lt H0.out
        go_wp2_with fail
        refine (k2.out _).mono ?_
        rintro e w1 ⟨rfl, rfl⟩
        clear k2
        go_wp2_with fail
        have k4 := k3.out (w1.alloc (.cells #[.int .i64 0, .string ⟨#[]⟩] 23)) (kept_cell ((Below.refl w1.heap.size w1).alloc (Nat.le_refl _) _) _ _ ⟨c20, f20⟩).1 (kept_cell ((Below.refl w1.heap.size w1).alloc (Nat.le_refl _) _) _ _ ⟨c20, f20⟩).2 (T0.out.below (hb.alloc hb.size _))
        clear k3
        have G0 := Lib.hid (blk_old (o := .cells #[.int .i64 0, .string ⟨#[]⟩] 23) H0.out)
        have G1 := Lib.hid (blk_old (o := .cells #[.int .i64 0, .string ⟨#[]⟩] 23) H1.out)
        have GT := Lib.hid (blk_new w1 (.cells #[.int .i64 0, .string ⟨#[]⟩] 23))
        have hbt := hb.alloc hb.size (.cells #[.int .i64 0, .string ⟨#[]⟩] 23)
        have hsz1 : w1.heap.size < (w1.alloc (.cells #[.int .i64 0, .string ⟨#[]⟩] 23)).heap.size := by simp
        have hownt := Lib.hid (hown.alloc (.cells #[.int .i64 0, .string ⟨#[]⟩] 23))
        have hkk := Lib.hid (hown.lt)
        clear hown hrd c00 c01 c02 c03 c10 c11 c12 c13 f00 f01 f02 f03 f10 f11 f12 f13 c20 f20 H0 H1 H2
        generalize w1.alloc (.cells #[.int .i64 0, .string ⟨#[]⟩] 23) = W at *
        cases q with
        | none =>
          have hR : R = (Sp.sig0, 9) := by rw [hX.out]; rfl
          subst hR
          clear hX hrs
          refine k4.mono ?_
          rintro e w2 ⟨rfl, hb2⟩
          obtain ⟨⟨c00, c01, c02, c03⟩, f00, f01, f02, f03⟩ := blk4 (blk_below G0.out hb2)
          obtain ⟨⟨c30, c31⟩, f30, f31⟩ := blk2 (blk_below GT.out hb2)
          have hb' := below_then hbt hbt.size hb2
          have hlt2 := blk_lt (blk_below G0.out hb2)
          clear G0 G1 GT hb2 hbt hb hownt
          unfold Sp.tyV Sp.t0
          go_wp2
          (try simp only [Exit.inBlock, Exit.then]); refine bodyPost_ret (results_ct rfl _ _ _ rfl (sig_load _ w.heap.size (x := .slice none 0 0) (y := .int .i64 0) (z := .string ⟨#[]⟩) (u := .bool false) (by (repeat (first | with_reducible assumption | (with_reducible apply World.cell?_setCell_same) | (with_reducible refine cell_alloc _ _ ?_) | (refine (World.cell?_setCell_other _ _ _ _ (by first | (simp; done) | (intro q; simp at q; done) | (intro q; simp at q; omega))).trans ?_)))) (by (repeat (first | with_reducible assumption | (with_reducible apply World.cell?_setCell_same) | (with_reducible refine cell_alloc _ _ ?_) | (refine (World.cell?_setCell_other _ _ _ _ (by first | (simp; done) | (intro q; simp at q; done) | (intro q; simp at q; omega))).trans ?_)))) (by (repeat (first | with_reducible assumption | (with_reducible apply World.cell?_setCell_same) | (with_reducible refine cell_alloc _ _ ?_) | (refine (World.cell?_setCell_other _ _ _ _ (by first | (simp; done) | (intro q; simp at q; done) | (intro q; simp at q; omega))).trans ?_)))) (by (repeat (first | with_reducible assumption | (with_reducible apply World.cell?_setCell_same) | (with_reducible refine cell_alloc _ _ ?_) | (refine (World.cell?_setCell_other _ _ _ _ (by first | (simp; done) | (intro q; simp at q; done) | (intro q; simp at q; omega))).trans ?_)))))) rfl ?_
          exact ⟨none, ⟨0, rfl⟩, rdT_nil _ _, by (repeat (first | with_reducible assumption | with_reducible exact Below.refl _ _ | (with_reducible refine Below.setCell ?_ (by first | exact Nat.le_refl _ | omega | (simp; done) | (simp; omega)) _) | (with_reducible refine Below.alloc ?_ (by first | exact Nat.le_refl _ | omega | (simp; done) | (simp; omega)) _) | (with_reducible refine Below.drew ?_)))⟩
        | some q =>
          obtain ⟨⟨qd, qn⟩, qr⟩ := q
          have hqr : qr.size < t.size := (hrs _ rfl).1
          have hX' := Lib.hid (show R = Sp.endS (Sp.ahead (acc ++ [(qd, qn)]) (Sp.argsF g qr)) by rw [hX.out, ← Sp.ahead_cons])
          clear hX hrs
          refine k4.mono ?_
          rintro e w2 ⟨rfl, hg2, hcb, hfb⟩
          have I0 := Lib.hid (blk_grown G0.out hg2 (by intro e; injection e with e; omega))
          have I1 := Lib.hid (blk_grown G1.out hg2 (by intro e; injection e with e; omega))
          have IT := Lib.hid (blk_grown GT.out hg2 (by intro e; injection e with e; omega))
          have hown2 := Lib.hid (hownt.out.kept hg2 (by
            cases hk : (Value.slice A acc.length c).ownBlock with
            | none => exact .inl rfl
            | some k => exact .inr (fun e => by injection e with e; have := hkk.out k hk; omega)))
          obtain ⟨⟨c10, c11, c12, c13⟩, f10, f11, f12, f13⟩ := blk4 I1.out
          obtain ⟨⟨c30, c31⟩, f30, f31⟩ := blk2 IT.out
          have hb' := hbt.grown hg2 hbt.size (fun k hk => by simp at hk; omega)
          have hlt2 := blk_lt IT.out
          clear G0 G1 GT hg2 hbt hb hownt
          have I2 := Lib.hid (And.intro hcb hfb)
          have hn48 : (acc.length + 1) * 24 ≤ 140737488355328 := by omega
          have hn63 : acc.length + 1 ≤ maxLen := by unfold maxLen; omega
          clear hcb hfb
          unfold Sp.tyV
          go_wp2_with (at_builtin; refine wpList_append_own _ rfl _ _ 35 rfl (w.heap.size + 3) 23 i0 (.agg #[.int .i64 0, .string ⟨#[]⟩]) 2 24 Tryd.underlying35 hi hz0 hz1 hz2 rfl (by decide) (.slice A acc.length c) acc.length (Sp.tyCells acc) rfl ((own_set (own_set hown2.out (fun k hk => by have := hkk.out k hk; omega) _) (fun k hk => by have := hkk.out k hk; omega) _).alloc _) ⟨w2.heap.size, 0, none⟩ 1 1 [.int .i64 qd, .string qn] ?x1 rfl ?x2 ?x3 hn63 hn48 ?x4 ?x5)
          case x1 => rfl
          case x2 =>
            have hnew := blk2 (blk_new ((w2.setCell ⟨w1.heap.size, 0, none⟩ (.int .i64 qd)).setCell ⟨w1.heap.size, 1, none⟩ (.string qn)) (.cells #[.int .i64 qd, .string qn] 23))
            simp only [Go.Deep.nblk_setCell] at hnew
            intro j u hj
            match j, hj with
            | 0, hj => simp at hj; subst hj; rw [Addr.add_mid]; exact hnew.1.1
            | 1, hj => simp at hj; subst hj; rw [Addr.add_mid]; exact hnew.1.2
            | j + 2, hj => simp at hj
          case x3 =>
            intro u hu
            simp at hu
            rcases hu with rfl | rfl <;> rfl
          case x4 => simp; omega
          · intro v' w3 hown3 hg3 _
            obtain ⟨A', c', rfl⟩ := own_sl hown3
            have hne : ∀ k, (k < w.heap.size + 3) → some k ≠ (Value.slice A acc.length c).ownBlock := fun k hk e => by have := hkk.out k e.symm; omega
            have J0 := Lib.hid (blk_grown (blk_old (blk_other (blk_other I0.out _ _ (by show _ ≠ _; simp; omega)) _ _ (by show _ ≠ _; simp; omega))) hg3 (hne _ (by omega)))
            have J1 := Lib.hid (blk_grown (blk_old (blk_other (blk_other I1.out _ _ (by show _ ≠ _; simp; omega)) _ _ (by show _ ≠ _; simp; omega))) hg3 (hne _ (by omega)))
            have hbz : w.heap.size ≤ w2.heap.size := hb'.size
            have hbw : Below w.heap.size w (((w2.setCell ⟨w1.heap.size, 0, none⟩ (.int .i64 qd)).setCell ⟨w1.heap.size, 1, none⟩ (.string qn)).alloc (.cells #[.int .i64 qd, .string qn] 23)) := by (repeat (first | with_reducible assumption | with_reducible exact Below.refl _ _ | (with_reducible refine Below.setCell ?_ (by first | exact Nat.le_refl _ | omega | (simp; done) | (simp; omega)) _) | (with_reducible refine Below.alloc ?_ (by first | exact Nat.le_refl _ | omega | (simp; done) | (simp; omega)) _) | (with_reducible refine Below.drew ?_)))
            have hb3 := hbw.grown hg3 hbw.size (fun k hk => by have := hkk.out k hk; omega)
            have J2 := Lib.hid (kept_grown hg3 (a := ⟨w.heap.size + 1 + 1, 0, none⟩) (v := .string qr) (kept_cell ((Below.refl _ _).alloc (Nat.le_refl _) _) _ _ ⟨by have := I2.out.1; (repeat (first | with_reducible assumption | (with_reducible apply World.cell?_setCell_same) | (with_reducible refine cell_alloc _ _ ?_) | (refine (World.cell?_setCell_other _ _ _ _ (by first | (simp; done) | (intro q; simp at q; done) | (intro q; simp at q; omega))).trans ?_))), by simpa using I2.out.2⟩) (hne _ (by simp)))
            obtain ⟨⟨d10, d11, d12, d13⟩, g10, g11, g12, g13⟩ := blk4 J1.out
            clear I0 I1 I2 IT c10 c11 c12 c13 f10 f11 f12 f13 c30 c31 f30 f31 hb' hbw hg3 hown2 hlt2
            go_wp2
            go_roundw
            case rel =>
              refine ⟨qr, g, acc ++ [(qd, qn)], A', c', rfl, Lib.hid (blk_other J0.out _ _ (by show _ ≠ _; simp)), Lib.hid ?_, Lib.hid ⟨by have := J2.out.1; (repeat (first | with_reducible assumption | (with_reducible apply World.cell?_setCell_same) | (with_reducible refine cell_alloc _ _ ?_) | (refine (World.cell?_setCell_other _ _ _ _ (by first | (simp; done) | (intro q; simp at q; done) | (intro q; simp at q; omega))).trans ?_))), by have := J2.out.2; simpa using this⟩, ?_, by (repeat (first | with_reducible assumption | with_reducible exact Below.refl _ _ | (with_reducible refine Below.setCell ?_ (by first | exact Nat.le_refl _ | omega | (simp; done) | (simp; omega)) _) | (with_reducible refine Below.alloc ?_ (by first | exact Nat.le_refl _ | omega | (simp; done) | (simp; omega)) _) | (with_reducible refine Below.drew ?_))), by omega, by simp; omega, hX'⟩
              · have := blk_set (i := 0) J1.out (.slice A' (acc.length + 1) c')
                simpa using this
              · have hq := hown3
                rw [show Sp.tyCells acc ++ [Value.int .i64 qd, Value.string qn] = Sp.tyCells (acc ++ [(qd, qn)]) by rw [Sp.tyCells_append]; rfl] at hq
                have := ownsRow_setCell_below hq (a := ⟨w.heap.size + 1, 0, none⟩) (by show _ < _; simp) (.slice A' (acc.length + 1) c')
                simpa using this
            case measure => simp [strOf]; omega
  · have hpf : Lib.hasPrefix s.data.toList [40] = false := by rw [Bool.eq_false_iff]; intro r; exact h40 (hp.1 r)
    rw [e40, hpf] at k1
    have hR : R = (Sp.sig0, 9) := by rw [HE.out, if_neg h40]
    subst hR
    clear HE hp hpf e40
    generalize (⟨(Lib.trimPrefix s.data.toList [40]).toArray⟩ : ByteArray) = tp at k1
    go_enter Tryd.func27, Tryd.ntmps27
    go_wp2_with fail
    refine (k1.out _).mono ?_
    rintro e w1 ⟨rfl, rfl⟩
    go_wp2
    (try simp only [Exit.inBlock, Exit.then]); refine bodyPost_ret (results_ct rfl _ _ _ rfl (sig_load _ w.heap.size (x := .slice none 0 0) (y := .int .i64 0) (z := .string ⟨#[]⟩) (u := .bool false) (by simp) (by simp) (by simp) (by simp))) rfl ?_
    exact ⟨none, 0, rfl, rdT_nil _ _, by (repeat (first | with_reducible assumption | with_reducible exact Below.refl _ _ | (with_reducible refine Below.setCell ?_ (by first | exact Nat.le_refl _ | omega | (simp; done) | (simp; omega)) _) | (with_reducible refine Below.alloc ?_ (by first | exact Nat.le_refl _ | omega | (simp; done) | (simp; omega)) _) | (with_reducible refine Below.drew ?_)))⟩
end Go.Proofs.YthpfknlgfkecpaaDoor
end
section
/-
  Walk of the reference's Field; what its next tells.
-/
set_option linter.unusedVariables false
set_option linter.unusedSimpArgs false
namespace Go.Proofs.YthpfknlgfkecpaaDoor
open Go.RowKit Go.Lib

namespace Sp
theorem readS_rest (s : ByteArray) (q : Ty × ByteArray) (h : readS s = some q) : ∃ k : Nat, 0 < k ∧ k ≤ s.size ∧ q.2 = s.extract k s.size := by
  by_cases c4 : 4 < cnt s
  · rw [readS_deep s c4] at h
    cases h
  by_cases cI : bt s (cnt s) = 73
  · have hc : cnt s < s.size := by
      by_cases hc : cnt s < s.size
      · exact hc
      · rw [bt_end s _ hc] at cI
        cases cI
    rw [readS_I s cI] at h
    split at h
    · injection h with h
      subst h
      exact ⟨cnt s + 1, by omega, by omega, tail_extract s⟩
    · cases h
  by_cases cL : bt s (cnt s) = 76
  · have hc : cnt s < s.size := by
      by_cases hc : cnt s < s.size
      · exact hc
      · rw [bt_end s _ hc] at cL
        cases cL
    obtain ⟨E, g1, g2, g3, g4, g5⟩ := readS_class s cL hc (by omega)
    rw [g5] at h
    split at h
    · cases h
    · injection h with h
      subst h
      exact ⟨E + 1, by omega, by omega, rfl⟩
  · rw [readS_none s cI cL] at h
    cases h
theorem refNext_facts (s : ByteArray) : (readS s = none ∧ refNextS s = (t0, 0)) ∨ ∃ (t : Ty) (r : ByteArray) (k : Nat), readS s = some (t, r) ∧ 0 < k ∧ k ≤ s.size ∧ refNextS s = (t, (k : Int)) ∧ r = s.extract k s.size ∧ r.size = s.size - k := by
  cases h : readS s with
  | none => exact .inl ⟨rfl, by rw [refNextS, h]⟩
  | some q =>
    obtain ⟨k, h0, h1, h2⟩ := readS_rest s q h
    have hz : q.2.size = s.size - k := by rw [h2]; simp
    refine .inr ⟨q.1, q.2, k, rfl, h0, h1, ?_, h2, hz⟩
    rw [refNextS, h]
    simp only
    rw [hz]
    refine Prod.ext rfl ?_
    simp only
    omega
theorem readS_empty (s : ByteArray) (h : s.size = 0) : readS s = none := by
  apply readS_none
  · rw [bt_end s _ (by omega)]; decide
  · rw [bt_end s _ (by omega)]; decide
end Sp

set_option maxHeartbeats 8000000 in
set_option maxRecDepth 100000 in
theorem refField_any (s : ByteArray) (w : World) (hs : s.size ≤ 1099511627776) :
    Calls Tryd.prog 19 #[.string s] w fun e w' => e = .returned (.tuple #[Sp.tyV (Sp.fieldS s).1, .int .i64 (Sp.fieldS s).2]) ∧ Below w.heap.size w w' := by
  have HE := Lib.hid (show Sp.fieldS s = _ by rw [Sp.fieldS])
  have k1 := Lib.hid (fun W => refNext2_any s W hs)
  have HF := Sp.refNext_facts s
  generalize Sp.fieldS s = R at HE ⊢
  generalize Sp.readS s = q at *
  generalize Sp.refNextS s = n at *
  rcases HF with ⟨rfl, rfl⟩ | ⟨⟨td, tn⟩, r, k, rfl, h0, h1, rfl, h2, h3⟩
  · have hR : R = (Sp.t0, 9) := HE.out
    subst hR
    clear HE
    unfold Sp.tyV Sp.t0 at k1
    unfold Sp.tyV Sp.t0
    go_enter Tryd.func19, Tryd.ntmps19
    go_wp2_with fail
    refine (k1.out _).mono ?_
    rintro e w1 ⟨rfl, hb⟩
    obtain ⟨⟨c0, c1⟩, f0, f1⟩ := blk2 (blk_below (blk_new w _) hb)
    have hlt := blk_lt (blk_below (blk_new w _) hb)
    have hb' := below_then ((Below.refl w.heap.size w).alloc (Nat.le_refl _) _) (by simp) hb
    go_wp2
    (try simp only [Exit.inBlock, Exit.then]); refine bodyPost_ret (results_ct rfl _ _ _ rfl (ty_load _ w.heap.size 0 (x := .int .i64 0) (y := .string ⟨#[]⟩) (by (repeat (first | with_reducible assumption | (with_reducible apply World.cell?_setCell_same) | (with_reducible refine cell_alloc _ _ ?_) | (refine (World.cell?_setCell_other _ _ _ _ (by first | (simp; done) | (intro q; simp at q; done) | (intro q; simp at q; omega))).trans ?_)))) (by (repeat (first | with_reducible assumption | (with_reducible apply World.cell?_setCell_same) | (with_reducible refine cell_alloc _ _ ?_) | (refine (World.cell?_setCell_other _ _ _ _ (by first | (simp; done) | (intro q; simp at q; done) | (intro q; simp at q; omega))).trans ?_)))))) rfl ?_
    exact ⟨rfl, by (repeat (first | with_reducible assumption | with_reducible exact Below.refl _ _ | (with_reducible refine Below.setCell ?_ (by first | exact Nat.le_refl _ | omega | (simp; done) | (simp; omega)) _) | (with_reducible refine Below.alloc ?_ (by first | exact Nat.le_refl _ | omega | (simp; done) | (simp; omega)) _) | (with_reducible refine Below.drew ?_)))⟩
  · have hkz : ((k : Int) == 0) = false := by rw [beq_eq_false_iff_ne]; omega
    clear h2
    unfold Sp.tyV at k1
    unfold Sp.tyV
    by_cases hz : r.size = 0
    · have hR : R = ((td, tn), 0) := by rw [HE.out]; simp [hz]
      obtain rfl : k = s.size := by omega
      subst hR
      clear HE h3 hz h1
      go_enter Tryd.func19, Tryd.ntmps19
      go_wp2_with fail
      refine (k1.out _).mono ?_
      rintro e w1 ⟨rfl, hb⟩
      obtain ⟨⟨c0, c1⟩, f0, f1⟩ := blk2 (blk_below (blk_new w _) hb)
      have hlt := blk_lt (blk_below (blk_new w _) hb)
      have hb' := below_then ((Below.refl w.heap.size w).alloc (Nat.le_refl _) _) (by simp) hb
      go_wp2
      (try simp only [Exit.inBlock, Exit.then]); refine bodyPost_ret (results_ct rfl _ _ _ rfl (ty_load _ w.heap.size 0 (x := .int .i64 td) (y := .string tn) (by (repeat (first | with_reducible assumption | (with_reducible apply World.cell?_setCell_same) | (with_reducible refine cell_alloc _ _ ?_) | (refine (World.cell?_setCell_other _ _ _ _ (by first | (simp; done) | (intro q; simp at q; done) | (intro q; simp at q; omega))).trans ?_)))) (by (repeat (first | with_reducible assumption | (with_reducible apply World.cell?_setCell_same) | (with_reducible refine cell_alloc _ _ ?_) | (refine (World.cell?_setCell_other _ _ _ _ (by first | (simp; done) | (intro q; simp at q; done) | (intro q; simp at q; omega))).trans ?_)))))) rfl ?_
      exact ⟨rfl, by (repeat (first | with_reducible assumption | with_reducible exact Below.refl _ _ | (with_reducible refine Below.setCell ?_ (by first | exact Nat.le_refl _ | omega | (simp; done) | (simp; omega)) _) | (with_reducible refine Below.alloc ?_ (by first | exact Nat.le_refl _ | omega | (simp; done) | (simp; omega)) _) | (with_reducible refine Below.drew ?_)))⟩
    · have hR : R = (Sp.t0, 9) := by rw [HE.out]; simp [hz]
      have hks : ((k : Int) == (s.size : Int)) = false := by rw [beq_eq_false_iff_ne]; omega
      subst hR
      clear HE h3 hz h1
      unfold Sp.t0
      go_enter Tryd.func19, Tryd.ntmps19
      go_wp2_with fail
      refine (k1.out _).mono ?_
      rintro e w1 ⟨rfl, hb⟩
      obtain ⟨⟨c0, c1⟩, f0, f1⟩ := blk2 (blk_below (blk_new w _) hb)
      have hlt := blk_lt (blk_below (blk_new w _) hb)
      have hb' := below_then ((Below.refl w.heap.size w).alloc (Nat.le_refl _) _) (by simp) hb
      go_wp2
      (try simp only [Exit.inBlock, Exit.then]); refine bodyPost_ret (results_ct rfl _ _ _ rfl (ty_load _ w.heap.size 0 (x := .int .i64 0) (y := .string ⟨#[]⟩) (by (repeat (first | with_reducible assumption | (with_reducible apply World.cell?_setCell_same) | (with_reducible refine cell_alloc _ _ ?_) | (refine (World.cell?_setCell_other _ _ _ _ (by first | (simp; done) | (intro q; simp at q; done) | (intro q; simp at q; omega))).trans ?_)))) (by (repeat (first | with_reducible assumption | (with_reducible apply World.cell?_setCell_same) | (with_reducible refine cell_alloc _ _ ?_) | (refine (World.cell?_setCell_other _ _ _ _ (by first | (simp; done) | (intro q; simp at q; done) | (intro q; simp at q; omega))).trans ?_)))))) rfl ?_
      exact ⟨rfl, by (repeat (first | with_reducible assumption | with_reducible exact Below.refl _ _ | (with_reducible refine Below.setCell ?_ (by first | exact Nat.le_refl _ | omega | (simp; done) | (simp; omega)) _) | (with_reducible refine Below.alloc ?_ (by first | exact Nat.le_refl _ | omega | (simp; done) | (simp; omega)) _) | (with_reducible refine Below.drew ?_)))⟩
end Go.Proofs.YthpfknlgfkecpaaDoor
end
section
/-
  Walk of the reference's Method.
-/
set_option linter.unusedVariables false
set_option linter.unusedSimpArgs false
namespace Go.Proofs.YthpfknlgfkecpaaDoor
open Go.RowKit Go.Lib

theorem rsig_load (w : World) (b : Nat) {x y z u : Value} (h0 : w.cell? ⟨b, 0, none⟩ = some x) (h1 : w.cell? ⟨b, 1, none⟩ = some y) (h2 : w.cell? ⟨b, 2, none⟩ = some z) (h3 : w.cell? ⟨b, 3, none⟩ = some u) : (loadVar 40 ⟨b, 0, none⟩).run Tryd.prog w = .ok (.agg #[x, y, z, u]) w :=
  run_loadVar_mid w b 0 40 [x, y, z, u] _ (fun j v hj => by
    match j, hj with
    | 0, hj => simp at hj; subst hj; exact h0
    | 1, hj => simp at hj; subst hj; exact h1
    | 2, hj => simp at hj; subst hj; exact h2
    | 3, hj => simp at hj; subst hj; exact h3
    | j + 4, hj => simp at hj) Tryd.underlying40 rfl (by kernel_rfl)

set_option maxHeartbeats 8000000 in
set_option maxRecDepth 100000 in
theorem refMethod_any (s : ByteArray) (w : World) (hs : s.size ≤ 1099511627776) :
    Calls Tryd.prog 28 #[.string s] w fun e w' => ∃ A c, e = .returned (.tuple #[Sp.sigV A c (Sp.methodS s).1, .int .i64 (Sp.methodS s).2]) ∧ RdT w' A (Sp.methodS s).1.1 ∧ Below w.heap.size w w' := by
  obtain ⟨i0, hi, hz0, hz1, hz2⟩ := info_parts infoTy
  have HE := Lib.hid (show Sp.methodS s = _ by rw [Sp.methodS])
  generalize Sp.methodS s = R at HE ⊢
  by_cases hz : s.size = 0
  · have hR : R = (Sp.sig0, 9) := by rw [HE.out, if_neg (by rw [Sp.bt_end s 0 (by omega)]; decide)]
    have hs0 := str_empty s hz
    subst hs0
    subst hR
    clear HE
    go_enter Tryd.func28, Tryd.ntmps28
    go_wp2
    (try simp only [Exit.inBlock, Exit.then]); refine bodyPost_ret (results_ct rfl _ _ _ rfl (rsig_load _ w.heap.size (x := .slice none 0 0) (y := .int .i64 0) (z := .string ⟨#[]⟩) (u := .bool false) (by simp) (by simp) (by simp) (by simp))) rfl ?_
    exact ⟨none, 0, rfl, rdT_nil _ _, by (repeat (first | with_reducible assumption | with_reducible exact Below.refl _ _ | (with_reducible refine Below.setCell ?_ (by first | exact Nat.le_refl _ | omega | (simp; done) | (simp; omega)) _) | (with_reducible refine Below.alloc ?_ (by first | exact Nat.le_refl _ | omega | (simp; done) | (simp; omega)) _) | (with_reducible refine Below.drew ?_)))⟩
  have hne : (s.toList == []) = false := by
    rw [Bool.eq_false_iff]
    intro r
    have := (bytes_beq_iff s ⟨#[]⟩).1 (by simpa using r)
    rw [this] at hz
    exact hz rfl
  have hpos : 0 < s.size := by omega
  have hk0 := idx_str0 s hpos
  by_cases h40 : Sp.bt s 0 = 40
  · rw [if_pos h40] at HE
    rw [h40] at hk0
    have htz : (s.extract 1 s.size).size + 1 ≤ s.size := by simp; omega
    clear h40 hz
    generalize hq0 : s.extract 1 s.size = t0 at *
    go_enter Tryd.func28, Tryd.ntmps28
    go_wp2
    go_loopw [0] (fun v4 wr => ∃ (t : ByteArray) (f : Nat) (acc : List Sp.Ty) (A : Option Addr) (c : Nat), v4 = .string t
        ∧ Hid (wr.heap[w.heap.size]? = some (.cells #[.slice none 0 0, .int .i64 0, .string ⟨#[]⟩, .bool false] 40 (0, 0)))
        ∧ Hid (wr.heap[w.heap.size + 1]? = some (.cells #[.slice A acc.length c, .int .i64 0, .string ⟨#[]⟩, .bool false] 40 (0, 0)))
        ∧ wr.ownsRow (w.heap.size + 2) 23 2 (.slice A acc.length c) acc.length (Sp.tyCells acc)
        ∧ Below w.heap.size w wr ∧ t.size + 1 ≤ f ∧ t.size + acc.length ≤ s.size ∧ Hid (R = Sp.endS (Sp.ahead acc (Sp.argsF f t)))) (fun v4 _ => (strOf v4).size)
    case atStart =>
      refine ⟨t0, s.size, [], none, 0, rfl, Lib.hid ?_, Lib.hid ?_, ⟨rfl, .inl ⟨rfl, rfl⟩⟩, ?_, htz, by simp; omega, Lib.hid (by rw [Sp.ahead_nil]; exact HE.out)⟩
      · exact blk_old (blk_new _ _)
      · have := blk_new (w.alloc (.cells #[.slice none 0 0, .int .i64 0, .string ⟨#[]⟩, .bool false] 40)) (.cells #[.slice none 0 0, .int .i64 0, .string ⟨#[]⟩, .bool false] 40)
        simpa using this
      · (repeat (first | with_reducible assumption | with_reducible exact Below.refl _ _ | (with_reducible refine Below.setCell ?_ (by first | exact Nat.le_refl _ | omega | (simp; done) | (simp; omega)) _) | (with_reducible refine Below.alloc ?_ (by first | exact Nat.le_refl _ | omega | (simp; done) | (simp; omega)) _) | (with_reducible refine Below.drew ?_)))
    case round =>
      clear HE
      obtain ⟨t, f, acc, A, c, rfl, H0, H1, hown, hb, hf, hal, hX⟩ := hrel
      have hlt := blk_lt H1.out
      obtain ⟨g, rfl⟩ : ∃ g, f = g + 1 := ⟨f - 1, by omega⟩
      have hX2 := hX.out
      rw [Sp.argsF] at hX2
      clear hX
      obtain ⟨⟨c00, c01, c02, c03⟩, f00, f01, f02, f03⟩ := blk4 H0.out
      obtain ⟨⟨c10, c11, c12, c13⟩, f10, f11, f12, f13⟩ := blk4 H1.out
      have hrd := Lib.hid (own_rdT hown).2
      have hna := own_len hown
      by_cases hz : t.size = 0
      · have hR : R = (Sp.sig0, 9) := by
          rw [hX2, if_neg (by rw [Sp.bt_end t 0 (by omega)]; decide), Sp.readS_empty t hz]
          rfl
        have hs0 := str_empty t hz
        subst hs0
        subst hR
        clear hX2 hz
        go_wp2
        (try simp only [Exit.inBlock, Exit.then]); refine bodyPost_ret (results_ct rfl _ _ _ rfl (rsig_load _ w.heap.size (x := .slice none 0 0) (y := .int .i64 0) (z := .string ⟨#[]⟩) (u := .bool false) (by (repeat (first | with_reducible assumption | (with_reducible apply World.cell?_setCell_same) | (with_reducible refine cell_alloc _ _ ?_) | (refine (World.cell?_setCell_other _ _ _ _ (by first | (simp; done) | (intro q; simp at q; done) | (intro q; simp at q; omega))).trans ?_)))) (by (repeat (first | with_reducible assumption | (with_reducible apply World.cell?_setCell_same) | (with_reducible refine cell_alloc _ _ ?_) | (refine (World.cell?_setCell_other _ _ _ _ (by first | (simp; done) | (intro q; simp at q; done) | (intro q; simp at q; omega))).trans ?_)))) (by (repeat (first | with_reducible assumption | (with_reducible apply World.cell?_setCell_same) | (with_reducible refine cell_alloc _ _ ?_) | (refine (World.cell?_setCell_other _ _ _ _ (by first | (simp; done) | (intro q; simp at q; done) | (intro q; simp at q; omega))).trans ?_)))) (by (repeat (first | with_reducible assumption | (with_reducible apply World.cell?_setCell_same) | (with_reducible refine cell_alloc _ _ ?_) | (refine (World.cell?_setCell_other _ _ _ _ (by first | (simp; done) | (intro q; simp at q; done) | (intro q; simp at q; omega))).trans ?_)))))) rfl ?_
        exact ⟨none, ⟨0, rfl⟩, rdT_nil _ _, by (repeat (first | with_reducible assumption | with_reducible exact Below.refl _ _ | (with_reducible refine Below.setCell ?_ (by first | exact Nat.le_refl _ | omega | (simp; done) | (simp; omega)) _) | (with_reducible refine Below.alloc ?_ (by first | exact Nat.le_refl _ | omega | (simp; done) | (simp; omega)) _) | (with_reducible refine Below.drew ?_)))⟩
      have hne : (t.toList == []) = false := by
        rw [Bool.eq_false_iff]
        intro r
        have := (bytes_beq_iff t ⟨#[]⟩).1 (by simpa using r)
        rw [this] at hz
        exact hz rfl
      have hpos : 0 < t.size := by omega
      have hk0 := idx_str0 t hpos
      by_cases h41 : Sp.bt t 0 = 41
      · rw [if_pos h41] at hX2
        rw [h41] at hk0
        have hX := Lib.hid (show R = Sp.finS acc t by rw [hX2]; simp [Sp.ahead, Sp.endS])
        clear hX2
        have hown' := Lib.hid hown
        clear hown
        by_cases hv : t = ⟨#[41, 86]⟩
        · subst hv
          have hX' := Lib.hid (show R = Sp.doneS acc Sp.t0 true by rw [hX.out, Sp.finS, if_pos (show (⟨#[41, 86]⟩ : ByteArray) = Sp.B [41, 86] from rfl)])
          clear hX
          by_cases h16 : 16 < acc.length
          · have hR : R = (Sp.sig0, 3) := by rw [hX'.out, Sp.doneS, if_pos h16]
            have hz : (16 : Int) < (acc.length : Int) := by omega
            subst hR
            clear hX'
            go_wp2
            (try simp only [Exit.inBlock, Exit.then]); refine bodyPost_ret (results_ct rfl _ _ _ rfl (rsig_load _ w.heap.size (x := .slice none 0 0) (y := .int .i64 0) (z := .string ⟨#[]⟩) (u := .bool false) (by (repeat (first | with_reducible assumption | (with_reducible apply World.cell?_setCell_same) | (with_reducible refine cell_alloc _ _ ?_) | (refine (World.cell?_setCell_other _ _ _ _ (by first | (simp; done) | (intro q; simp at q; done) | (intro q; simp at q; omega))).trans ?_)))) (by (repeat (first | with_reducible assumption | (with_reducible apply World.cell?_setCell_same) | (with_reducible refine cell_alloc _ _ ?_) | (refine (World.cell?_setCell_other _ _ _ _ (by first | (simp; done) | (intro q; simp at q; done) | (intro q; simp at q; omega))).trans ?_)))) (by (repeat (first | with_reducible assumption | (with_reducible apply World.cell?_setCell_same) | (with_reducible refine cell_alloc _ _ ?_) | (refine (World.cell?_setCell_other _ _ _ _ (by first | (simp; done) | (intro q; simp at q; done) | (intro q; simp at q; omega))).trans ?_)))) (by (repeat (first | with_reducible assumption | (with_reducible apply World.cell?_setCell_same) | (with_reducible refine cell_alloc _ _ ?_) | (refine (World.cell?_setCell_other _ _ _ _ (by first | (simp; done) | (intro q; simp at q; done) | (intro q; simp at q; omega))).trans ?_)))))) rfl ?_
            exact ⟨none, ⟨0, rfl⟩, rdT_nil _ _, by (repeat (first | with_reducible assumption | with_reducible exact Below.refl _ _ | (with_reducible refine Below.setCell ?_ (by first | exact Nat.le_refl _ | omega | (simp; done) | (simp; omega)) _) | (with_reducible refine Below.alloc ?_ (by first | exact Nat.le_refl _ | omega | (simp; done) | (simp; omega)) _) | (with_reducible refine Below.drew ?_)))⟩
          · have hR : R = ((acc, Sp.t0, true), 0) := by rw [hX'.out, Sp.doneS, if_neg h16]
            have hz : ¬ (16 : Int) < (acc.length : Int) := by omega
            subst hR
            clear hX'
            go_wp2
            (try simp only [Exit.inBlock, Exit.then]); refine bodyPost_ret (results_ct rfl _ _ _ rfl (rsig_load _ w.heap.size (x := .slice A acc.length c) (y := .int .i64 0) (z := .string ⟨#[]⟩) (u := .bool true) (by (repeat (first | with_reducible assumption | (with_reducible apply World.cell?_setCell_same) | (with_reducible refine cell_alloc _ _ ?_) | (refine (World.cell?_setCell_other _ _ _ _ (by first | (simp; done) | (intro q; simp at q; done) | (intro q; simp at q; omega))).trans ?_)))) (by (repeat (first | with_reducible assumption | (with_reducible apply World.cell?_setCell_same) | (with_reducible refine cell_alloc _ _ ?_) | (refine (World.cell?_setCell_other _ _ _ _ (by first | (simp; done) | (intro q; simp at q; done) | (intro q; simp at q; omega))).trans ?_)))) (by (repeat (first | with_reducible assumption | (with_reducible apply World.cell?_setCell_same) | (with_reducible refine cell_alloc _ _ ?_) | (refine (World.cell?_setCell_other _ _ _ _ (by first | (simp; done) | (intro q; simp at q; done) | (intro q; simp at q; omega))).trans ?_)))) (by (repeat (first | with_reducible assumption | (with_reducible apply World.cell?_setCell_same) | (with_reducible refine cell_alloc _ _ ?_) | (refine (World.cell?_setCell_other _ _ _ _ (by first | (simp; done) | (intro q; simp at q; done) | (intro q; simp at q; omega))).trans ?_)))))) rfl ?_
            exact ⟨A, ⟨c, rfl⟩, (own_rdT (show World.ownsRow _ (w.heap.size + 2) 23 2 (.slice A acc.length c) acc.length (Sp.tyCells acc) from by have := hown'.out; (repeat (first | with_reducible assumption | (with_reducible refine ownsRow_setCell_below ?_ (by first | (simp; done) | (simp; omega)) _) | (with_reducible refine World.ownsRow.alloc ?_ _) | (with_reducible refine World.ownsRow.drew ?_))))).2, by (repeat (first | with_reducible assumption | with_reducible exact Below.refl _ _ | (with_reducible refine Below.setCell ?_ (by first | exact Nat.le_refl _ | omega | (simp; done) | (simp; omega)) _) | (with_reducible refine Below.alloc ?_ (by first | exact Nat.le_refl _ | omega | (simp; done) | (simp; omega)) _) | (with_reducible refine Below.drew ?_)))⟩
        · have hX' := Lib.hid (show R = if (Sp.fieldS (t.extract 1 t.size)).2 = 0 then Sp.doneS acc (Sp.fieldS (t.extract 1 t.size)).1 false else (Sp.sig0, 9) by rw [hX.out, Sp.finS, if_neg (show ¬ t = Sp.B [41, 86] from hv)])
          clear hX
          have hfs := (by simp; omega : (t.extract 1 t.size).size ≤ 1099511627776)
          have k3 := Lib.hid (fun W => refField_any (t.extract 1 t.size) W hfs)
          have hfe := Sp.fieldS_err (t.extract 1 t.size)
          have hvb : (t.toList == [41, 86]) = false := by
            rw [Bool.eq_false_iff]
            intro r
            exact hv ((bytes_beq_iff t ⟨#[41, 86]⟩).1 (by simpa using r))
          generalize Sp.fieldS (t.extract 1 t.size) = F at *
          obtain ⟨⟨fd, fn⟩, fe⟩ := F
          simp only [Sp.tyV] at k3 hX' hfe
          go_wp2_with fail
          refine (k3.out _).mono ?_
          rintro e w1 ⟨rfl, hb1⟩
          clear k3
          have G0 := Lib.hid (blk_below H0.out hb1)
          have G1 := Lib.hid (blk_below H1.out hb1)
          have hown1 := Lib.hid (own_below hown'.out hb1)
          have hb' := below_then hb (hb.size) hb1
          clear H0 H1 hown' hrd hb1 hb c00 c01 c02 c03 c10 c11 c12 c13 f00 f01 f02 f03 f10 f11 f12 f13
          obtain ⟨⟨c00, c01, c02, c03⟩, f00, f01, f02, f03⟩ := blk4 G0.out
          obtain ⟨⟨c10, c11, c12, c13⟩, f10, f11, f12, f13⟩ := blk4 G1.out
          have hlt1 := blk_lt G1.out
          have hlt0 := blk_lt G0.out
          by_cases h0 : fe = 0
          · have hX2 := Lib.hid (show R = Sp.doneS acc (fd, fn) false by rw [hX'.out, if_pos h0])
            clear hX' hfe
            subst h0
            by_cases h16 : 16 < acc.length
            · have hR : R = (Sp.sig0, 3) := by rw [hX2.out, Sp.doneS, if_pos h16]
              have hz : (16 : Int) < (acc.length : Int) := by omega
              subst hR
              clear hX2
              go_wp2
              (try simp only [Exit.inBlock, Exit.then]); refine bodyPost_ret (results_ct rfl _ _ _ rfl (rsig_load _ w.heap.size (x := .slice none 0 0) (y := .int .i64 0) (z := .string ⟨#[]⟩) (u := .bool false) (by (repeat (first | with_reducible assumption | (with_reducible apply World.cell?_setCell_same) | (with_reducible refine cell_alloc _ _ ?_) | (refine (World.cell?_setCell_other _ _ _ _ (by first | (simp; done) | (intro q; simp at q; done) | (intro q; simp at q; omega))).trans ?_)))) (by (repeat (first | with_reducible assumption | (with_reducible apply World.cell?_setCell_same) | (with_reducible refine cell_alloc _ _ ?_) | (refine (World.cell?_setCell_other _ _ _ _ (by first | (simp; done) | (intro q; simp at q; done) | (intro q; simp at q; omega))).trans ?_)))) (by (repeat (first | with_reducible assumption | (with_reducible apply World.cell?_setCell_same) | (with_reducible refine cell_alloc _ _ ?_) | (refine (World.cell?_setCell_other _ _ _ _ (by first | (simp; done) | (intro q; simp at q; done) | (intro q; simp at q; omega))).trans ?_)))) (by (repeat (first | with_reducible assumption | (with_reducible apply World.cell?_setCell_same) | (with_reducible refine cell_alloc _ _ ?_) | (refine (World.cell?_setCell_other _ _ _ _ (by first | (simp; done) | (intro q; simp at q; done) | (intro q; simp at q; omega))).trans ?_)))))) rfl ?_
              exact ⟨none, ⟨0, rfl⟩, rdT_nil _ _, by (repeat (first | with_reducible assumption | with_reducible exact Below.refl _ _ | (with_reducible refine Below.setCell ?_ (by first | exact Nat.le_refl _ | omega | (simp; done) | (simp; omega)) _) | (with_reducible refine Below.alloc ?_ (by first | exact Nat.le_refl _ | omega | (simp; done) | (simp; omega)) _) | (with_reducible refine Below.drew ?_)))⟩
            · have hR : R = ((acc, (fd, fn), false), 0) := by rw [hX2.out, Sp.doneS, if_neg h16]
              have hz : ¬ (16 : Int) < (acc.length : Int) := by omega
              subst hR
              clear hX2
              go_wp2
              (try simp only [Exit.inBlock, Exit.then]); refine bodyPost_ret (results_ct rfl _ _ _ rfl (rsig_load _ w.heap.size (x := .slice A acc.length c) (y := .int .i64 fd) (z := .string fn) (u := .bool false) (by (repeat (first | with_reducible assumption | (with_reducible apply World.cell?_setCell_same) | (with_reducible refine cell_alloc _ _ ?_) | (refine (World.cell?_setCell_other _ _ _ _ (by first | (simp; done) | (intro q; simp at q; done) | (intro q; simp at q; omega))).trans ?_)))) (by (repeat (first | with_reducible assumption | (with_reducible apply World.cell?_setCell_same) | (with_reducible refine cell_alloc _ _ ?_) | (refine (World.cell?_setCell_other _ _ _ _ (by first | (simp; done) | (intro q; simp at q; done) | (intro q; simp at q; omega))).trans ?_)))) (by (repeat (first | with_reducible assumption | (with_reducible apply World.cell?_setCell_same) | (with_reducible refine cell_alloc _ _ ?_) | (refine (World.cell?_setCell_other _ _ _ _ (by first | (simp; done) | (intro q; simp at q; done) | (intro q; simp at q; omega))).trans ?_)))) (by (repeat (first | with_reducible assumption | (with_reducible apply World.cell?_setCell_same) | (with_reducible refine cell_alloc _ _ ?_) | (refine (World.cell?_setCell_other _ _ _ _ (by first | (simp; done) | (intro q; simp at q; done) | (intro q; simp at q; omega))).trans ?_)))))) rfl ?_
              exact ⟨A, ⟨c, rfl⟩, (own_rdT (show World.ownsRow _ (w.heap.size + 2) 23 2 (.slice A acc.length c) acc.length (Sp.tyCells acc) from by have := hown1.out; (repeat (first | with_reducible assumption | (with_reducible refine ownsRow_setCell_below ?_ (by first | (simp; done) | (simp; omega)) _) | (with_reducible refine World.ownsRow.alloc ?_ _) | (with_reducible refine World.ownsRow.drew ?_))))).2, by (repeat (first | with_reducible assumption | with_reducible exact Below.refl _ _ | (with_reducible refine Below.setCell ?_ (by first | exact Nat.le_refl _ | omega | (simp; done) | (simp; omega)) _) | (with_reducible refine Below.alloc ?_ (by first | exact Nat.le_refl _ | omega | (simp; done) | (simp; omega)) _) | (with_reducible refine Below.drew ?_)))⟩
          · have hR : R = (Sp.sig0, 9) := by rw [hX'.out, if_neg h0]
            have h9 : fe = 9 := by rcases hfe with h | h; exact absurd h h0; exact h
            subst hR
            subst h9
            clear hX' hfe h0
            go_wp2
            (try simp only [Exit.inBlock, Exit.then]); refine bodyPost_ret (results_ct rfl _ _ _ rfl (rsig_load _ w.heap.size (x := .slice none 0 0) (y := .int .i64 0) (z := .string ⟨#[]⟩) (u := .bool false) (by (repeat (first | with_reducible assumption | (with_reducible apply World.cell?_setCell_same) | (with_reducible refine cell_alloc _ _ ?_) | (refine (World.cell?_setCell_other _ _ _ _ (by first | (simp; done) | (intro q; simp at q; done) | (intro q; simp at q; omega))).trans ?_)))) (by (repeat (first | with_reducible assumption | (with_reducible apply World.cell?_setCell_same) | (with_reducible refine cell_alloc _ _ ?_) | (refine (World.cell?_setCell_other _ _ _ _ (by first | (simp; done) | (intro q; simp at q; done) | (intro q; simp at q; omega))).trans ?_)))) (by (repeat (first | with_reducible assumption | (with_reducible apply World.cell?_setCell_same) | (with_reducible refine cell_alloc _ _ ?_) | (refine (World.cell?_setCell_other _ _ _ _ (by first | (simp; done) | (intro q; simp at q; done) | (intro q; simp at q; omega))).trans ?_)))) (by (repeat (first | with_reducible assumption | (with_reducible apply World.cell?_setCell_same) | (with_reducible refine cell_alloc _ _ ?_) | (refine (World.cell?_setCell_other _ _ _ _ (by first | (simp; done) | (intro q; simp at q; done) | (intro q; simp at q; omega))).trans ?_)))))) rfl ?_
            exact ⟨none, ⟨0, rfl⟩, rdT_nil _ _, by (repeat (first | with_reducible assumption | with_reducible exact Below.refl _ _ | (with_reducible refine Below.setCell ?_ (by first | exact Nat.le_refl _ | omega | (simp; done) | (simp; omega)) _) | (with_reducible refine Below.alloc ?_ (by first | exact Nat.le_refl _ | omega | (simp; done) | (simp; omega)) _) | (with_reducible refine Below.drew ?_)))⟩
      · rw [if_neg h41] at hX2
        have k3 := Lib.hid (fun W => refNext2_any t W (by omega))
        have HF := Sp.refNext_facts t
        have hX := Lib.hid hX2
        generalize hy : Sp.bt t 0 = y at *
        clear hX2
        generalize Sp.readS t = q at *
        generalize Sp.refNextS t = n at *
        have hkk := Lib.hid (hown.lt)
        rcases HF with ⟨rfl, rfl⟩ | ⟨⟨qd, qn⟩, qr, k, rfl, h0, h1, rfl, h2, h3⟩
        · have hR : R = (Sp.sig0, 9) := by rw [hX.out]; rfl
          subst hR
          clear hX
          unfold Sp.tyV Sp.t0 at k3
          go_wp2_with fail
          refine (k3.out _).mono ?_
          rintro e w2 ⟨rfl, hb2⟩
          have G0 := blk_below H0.out hb2
          have hb' := below_then hb hb.size hb2
          have hlt2 := blk_lt G0
          clear hb2 hb hown H0 H1 hrd c00 c01 c02 c03 f00 f01 f02 f03 c10 c11 c12 c13 f10 f11 f12 f13
          obtain ⟨⟨c00, c01, c02, c03⟩, f00, f01, f02, f03⟩ := blk4 G0
          clear G0
          go_wp2
          (try simp only [Exit.inBlock, Exit.then]); refine bodyPost_ret (results_ct rfl _ _ _ rfl (rsig_load _ w.heap.size (x := .slice none 0 0) (y := .int .i64 0) (z := .string ⟨#[]⟩) (u := .bool false) (by (repeat (first | with_reducible assumption | (with_reducible apply World.cell?_setCell_same) | (with_reducible refine cell_alloc _ _ ?_) | (refine (World.cell?_setCell_other _ _ _ _ (by first | (simp; done) | (intro q; simp at q; done) | (intro q; simp at q; omega))).trans ?_)))) (by (repeat (first | with_reducible assumption | (with_reducible apply World.cell?_setCell_same) | (with_reducible refine cell_alloc _ _ ?_) | (refine (World.cell?_setCell_other _ _ _ _ (by first | (simp; done) | (intro q; simp at q; done) | (intro q; simp at q; omega))).trans ?_)))) (by (repeat (first | with_reducible assumption | (with_reducible apply World.cell?_setCell_same) | (with_reducible refine cell_alloc _ _ ?_) | (refine (World.cell?_setCell_other _ _ _ _ (by first | (simp; done) | (intro q; simp at q; done) | (intro q; simp at q; omega))).trans ?_)))) (by (repeat (first | with_reducible assumption | (with_reducible apply World.cell?_setCell_same) | (with_reducible refine cell_alloc _ _ ?_) | (refine (World.cell?_setCell_other _ _ _ _ (by first | (simp; done) | (intro q; simp at q; done) | (intro q; simp at q; omega))).trans ?_)))))) rfl ?_
          exact ⟨none, ⟨0, rfl⟩, rdT_nil _ _, by (repeat (first | with_reducible assumption | with_reducible exact Below.refl _ _ | (with_reducible refine Below.setCell ?_ (by first | exact Nat.le_refl _ | omega | (simp; done) | (simp; omega)) _) | (with_reducible refine Below.alloc ?_ (by first | exact Nat.le_refl _ | omega | (simp; done) | (simp; omega)) _) | (with_reducible refine Below.drew ?_)))⟩
        · have hkz : ((k : Int) == 0) = false := by rw [beq_eq_false_iff_ne]; omega
          have hX' := Lib.hid (show R = Sp.endS (Sp.ahead (acc ++ [(qd, qn)]) (Sp.argsF g qr)) by rw [hX.out, ← Sp.ahead_cons])
          have h2' : t.extract k t.size = qr := h2.symm
          clear hX h2
          unfold Sp.tyV at k3
          go_wp2_with fail
          refine (k3.out _).mono ?_
          rintro e w2 ⟨rfl, hb2⟩
          have I0 := Lib.hid (blk_below H0.out hb2)
          have I1 := Lib.hid (blk_below H1.out hb2)
          have hown2 := Lib.hid (own_below hown hb2)
          have hb' := below_then hb hb.size hb2
          have hbs := hb2.size
          clear hb2 hb hown H0 H1 hrd c00 c01 c02 c03 f00 f01 f02 f03 c10 c11 c12 c13 f10 f11 f12 f13
          obtain ⟨⟨c10, c11, c12, c13⟩, f10, f11, f12, f13⟩ := blk4 I1.out
          have hlt2 := blk_lt I1.out
          have hn48 : (acc.length + 1) * 24 ≤ 140737488355328 := by omega
          have hn63 : acc.length + 1 ≤ maxLen := by unfold maxLen; omega
          go_wp2_with (at_builtin; refine wpList_append_own _ rfl _ _ 35 rfl (w.heap.size + 2) 23 i0 (.agg #[.int .i64 0, .string ⟨#[]⟩]) 2 24 Tryd.underlying35 hi hz0 hz1 hz2 rfl (by decide) (.slice A acc.length c) acc.length (Sp.tyCells acc) rfl ((hown2.out.alloc _).alloc _) ⟨w2.heap.size + 1, 0, none⟩ 1 1 [.int .i64 qd, .string qn] ?x1 rfl ?x2 ?x3 hn63 hn48 ?x4 ?x5)
          case x1 => rfl
          case x2 =>
            have hnew := blk2 (blk_new (w2.alloc (.cells #[.int .i64 qd, .string qn] 23)) (.cells #[.int .i64 qd, .string qn] 23))
            rw [show (w2.alloc (.cells #[.int .i64 qd, .string qn] 23)).heap.size = w2.heap.size + 1 by simp] at hnew
            intro j u hj
            match j, hj with
            | 0, hj => simp at hj; subst hj; rw [Addr.add_mid]; exact hnew.1.1
            | 1, hj => simp at hj; subst hj; rw [Addr.add_mid]; exact hnew.1.2
            | j + 2, hj => simp at hj
          case x3 =>
            intro u hu
            simp at hu
            rcases hu with rfl | rfl <;> rfl
          case x4 => simp; omega
          · intro v' w3 hown3 hg3 _
            obtain ⟨A', c', rfl⟩ := own_sl hown3
            have hne2 : ∀ k, (k < w.heap.size + 2) → some k ≠ (Value.slice A acc.length c).ownBlock := fun k hk e => by have := hkk.out k e.symm; omega
            have J0 := Lib.hid (blk_grown (blk_old (blk_old I0.out)) hg3 (hne2 _ (by omega)))
            have J1 := Lib.hid (blk_grown (blk_old (blk_old I1.out)) hg3 (hne2 _ (by omega)))
            have hbz : w.heap.size ≤ w2.heap.size := hb'.size
            have hbw : Below w.heap.size w ((w2.alloc (.cells #[.int .i64 qd, .string qn] 23)).alloc (.cells #[.int .i64 qd, .string qn] 23)) := by (repeat (first | with_reducible assumption | with_reducible exact Below.refl _ _ | (with_reducible refine Below.setCell ?_ (by first | exact Nat.le_refl _ | omega | (simp; done) | (simp; omega)) _) | (with_reducible refine Below.alloc ?_ (by first | exact Nat.le_refl _ | omega | (simp; done) | (simp; omega)) _) | (with_reducible refine Below.drew ?_)))
            have hb3 := hbw.grown hg3 hbw.size (fun k hk => by have := hkk.out k hk; omega)
            obtain ⟨⟨d10, d11, d12, d13⟩, g10, g11, g12, g13⟩ := blk4 J1.out
            clear I0 I1 c10 c11 c12 c13 f10 f11 f12 f13 hb' hbw hg3 hown2 hlt2
            go_wp2
            go_roundw
            case rel =>
              refine ⟨qr, g, acc ++ [(qd, qn)], A', c', by first | rfl | rw [h2'], Lib.hid (blk_other J0.out _ _ (by show _ ≠ _; simp)), Lib.hid ?_, ?_, by (repeat (first | with_reducible assumption | with_reducible exact Below.refl _ _ | (with_reducible refine Below.setCell ?_ (by first | exact Nat.le_refl _ | omega | (simp; done) | (simp; omega)) _) | (with_reducible refine Below.alloc ?_ (by first | exact Nat.le_refl _ | omega | (simp; done) | (simp; omega)) _) | (with_reducible refine Below.drew ?_))), by omega, by simp; omega, hX'⟩
              · have := blk_set (i := 0) J1.out (.slice A' (acc.length + 1) c')
                simpa using this
              · have hq := hown3
                rw [show Sp.tyCells acc ++ [Value.int .i64 qd, Value.string qn] = Sp.tyCells (acc ++ [(qd, qn)]) by rw [Sp.tyCells_append]; rfl] at hq
                have := ownsRow_setCell_below hq (a := ⟨w.heap.size + 1, 0, none⟩) (by show _ < _; simp) (.slice A' (acc.length + 1) c')
                simpa using this
            case measure => simp [strOf]; omega
  · have hR : R = (Sp.sig0, 9) := by rw [HE.out, if_neg h40]
    subst hR
    clear HE
    generalize Sp.bt s 0 = y at *
    go_enter Tryd.func28, Tryd.ntmps28
    go_wp2
    (try simp only [Exit.inBlock, Exit.then]); refine bodyPost_ret (results_ct rfl _ _ _ rfl (rsig_load _ w.heap.size (x := .slice none 0 0) (y := .int .i64 0) (z := .string ⟨#[]⟩) (u := .bool false) (by simp) (by simp) (by simp) (by simp))) rfl ?_
    exact ⟨none, 0, rfl, rdT_nil _ _, by (repeat (first | with_reducible assumption | with_reducible exact Below.refl _ _ | (with_reducible refine Below.setCell ?_ (by first | exact Nat.le_refl _ | omega | (simp; done) | (simp; omega)) _) | (with_reducible refine Below.alloc ?_ (by first | exact Nat.le_refl _ | omega | (simp; done) | (simp; omega)) _) | (with_reducible refine Below.drew ?_)))⟩
end Go.Proofs.YthpfknlgfkecpaaDoor
end
section
/-
  Plain words for Sign; the cells of a slice of types.
-/
set_option linter.unusedVariables false
set_option linter.unusedSimpArgs false
namespace Go.Proofs.YthpfknlgfkecpaaDoor
open Go.RowKit Go.Lib

namespace Sp
def typeB (t : Ty) : List UInt8 := List.replicate t.1.toNat 91 ++ nameB t.2
def argsB : List Ty → List UInt8
  | [] => []
  | t :: l => typeB t ++ argsB l
def namesZ : List Ty → Nat
  | [] => 0
  | t :: l => t.2.size + namesZ l
def allR (l : List Ty) : Bool := l.all rightS
def signS (m : Sig) : ByteArray × Int :=
  if allR m.1 = false then (⟨#[]⟩, 9)
  else if rightS m.2.1 = false ∨ (m.2.2 = true ∧ m.2.1 ≠ t0) then (⟨#[]⟩, 9)
  else if 16 < m.1.length then (⟨#[]⟩, 3)
  else (B (40 :: argsB m.1 ++ 41 :: (if m.2.2 = true then [86] else typeB m.2.1)), 0)
theorem writeS_some (t : Ty) (h : rightS t = true) : writeS t = (B (typeB t), 0) := by rw [writeS, if_pos h]; rfl
theorem writeS_none (t : Ty) (h : rightS t = false) : writeS t = (⟨#[]⟩, 9) := by rw [writeS, if_neg (by rw [h]; decide)]
theorem rightS_dims (t : Ty) (h : rightS t = true) : 0 ≤ t.1 ∧ t.1 ≤ 4 := by
  simp [rightS] at h
  exact h.1
theorem typeB_length (t : Ty) (h : rightS t = true) : (typeB t).length ≤ t.2.size + 6 := by
  have := rightS_dims t h
  have h2 : t.2.data.toList.length = t.2.size := rfl
  unfold typeB nameB
  split
  · simp; omega
  · simp only [List.length_append, List.length_replicate, List.length_cons, List.length_nil, h2]
    omega
theorem argsB_append : ∀ a b : List Ty, argsB (a ++ b) = argsB a ++ argsB b
  | [], _ => rfl
  | t :: a, b => by simp only [List.cons_append, argsB, argsB_append a b, List.append_assoc]
theorem namesZ_append : ∀ a b : List Ty, namesZ (a ++ b) = namesZ a + namesZ b
  | [], _ => by simp [namesZ]
  | t :: a, b => by simp only [List.cons_append, namesZ, namesZ_append a b]; omega
theorem namesZ_get : ∀ (l : List Ty) (t : Ty), t ∈ l → t.2.size ≤ namesZ l
  | [], _, h => by simp at h
  | a :: l, t, h => by
    rcases List.mem_cons.1 h with rfl | h
    · simp [namesZ]
    · have := namesZ_get l t h
      simp only [namesZ]
      omega
end Sp
theorem rdT_get2 {w : World} {b o : Nat} {l : List Sp.Ty} (h : w.rangeAt b o (Sp.tyCells l)) {j : Nat} (hj : j < l.length) : w.cell? ⟨b, o + j * 2, none⟩ = some (.int .i64 (l[j]).1) ∧ w.cell? ⟨b, o + j * 2 + 1, none⟩ = some (.string (l[j]).2) := by
  rw [Nat.mul_comm]
  exact rdT_get h hj
theorem cat_T (al tb : List UInt8) : (⟨(40 :: al).toArray⟩ ++ ⟨#[41]⟩ ++ Sp.B tb : ByteArray) = Sp.B (40 :: al ++ 41 :: tb) := by
  have : Sp.B (40 :: al) ++ Sp.B [41] ++ Sp.B tb = Sp.B (40 :: al ++ 41 :: tb) := by
    rw [Sp.B_append, Sp.B_append, List.append_assoc]
    rfl
  exact this
theorem str_B (l : List UInt8) : Lib.strCells (Sp.B l) = Lib.byteCells l := rfl
end Go.Proofs.YthpfknlgfkecpaaDoor
end
section
/-
  Plain words for chapter 3's code: classes as data; lists of structs in memory.
-/
set_option linter.unusedVariables false
set_option linter.unusedSimpArgs false
namespace Go.Proofs.YthpfknlgfkecpaaDoor
open Go.RowKit Go.Lib

/-! Lists of things of so many cells each. -/
def RdL {α : Type} (enc : α → List Value) (w : World) (A : Option Addr) (l : List α) : Prop := l.length ≤ 9223372036854775807 ∧ (0 < l.length → ∃ b o, A = some ⟨b, o, none⟩ ∧ w.rangeAt b o (l.flatMap enc))
theorem flat_length {α : Type} (enc : α → List Value) (n : Nat) (h : ∀ x, (enc x).length = n) : ∀ l : List α, (l.flatMap enc).length = l.length * n
  | [] => by simp
  | x :: l => by rw [List.flatMap_cons, List.length_append, h, flat_length enc n h l, List.length_cons, Nat.add_mul, Nat.one_mul, Nat.add_comm]
theorem flat_get {α : Type} (enc : α → List Value) (n : Nat) (h : ∀ x, (enc x).length = n) : ∀ (l : List α) (j i : Nat) (hj : j < l.length), i < n → (l.flatMap enc)[j * n + i]? = (enc l[j])[i]?
  | [], _, _, hj, _ => by simp at hj
  | x :: l, 0, i, _, hi => by
    rw [List.flatMap_cons, Nat.zero_mul, Nat.zero_add, List.getElem?_append_left (by rw [h]; exact hi)]
    rfl
  | x :: l, j + 1, i, hj, hi => by
    rw [List.flatMap_cons, List.getElem?_append_right (by rw [h, Nat.add_mul]; omega), h, show (j + 1) * n + i - n = j * n + i by rw [Nat.add_mul]; omega]
    exact flat_get enc n h l j i (by simpa using hj) hi
theorem rdL_get {α : Type} {enc : α → List Value} {w : World} {b o : Nat} {l : List α} (n : Nat) (h : ∀ x, (enc x).length = n) (hr : w.rangeAt b o (l.flatMap enc)) {j : Nat} (hj : j < l.length) (i : Nat) (hi : i < n) {v : Value} (hv : (enc l[j])[i]? = some v) : w.cell? ⟨b, o + j * n + i, none⟩ = some v := by
  have := hr (j * n + i) v (by rw [flat_get enc n h l j i hj hi, hv])
  rwa [← Nat.add_assoc] at this
theorem rdL_below {α : Type} {enc : α → List Value} {w w1 : World} {A : Option Addr} {l : List α} (h : RdL enc w A l) (hb : Below w.heap.size w w1) : RdL enc w1 A l := by
  refine ⟨h.1, fun h0 => ?_⟩
  obtain ⟨b, o, hA, hr⟩ := h.2 h0
  exact ⟨b, o, hA, fun j v hj => cell_below hb (hr j v hj)⟩
theorem rdL_nil {α : Type} (enc : α → List Value) (w : World) (A : Option Addr) : RdL enc w A [] := ⟨by simp, fun h => by simp at h⟩

namespace Sp
/-- A constant. -/
structure Cn where
  tag : Int
  text : ByteArray
  n : Int
  a : Int
  b : Int
  c : Int
/-- A handler. -/
structure Hn where
  fr : Int
  til : Int
  at_ : Int
  cls : Int
/-- A member. -/
structure Mb where
  flags : Int
  name : Int
  desc : Int
  stack : Int
  locals : Int
  code : ByteArray
  hs : List Hn
/-- A class. -/
structure Fl where
  pool : List Cn
  flags : Int
  this : Int
  super : Int
  ifaces : List Int
  fields : List Mb
  methods : List Mb
def cnC (c : Cn) : List Value := [.int .i64 c.tag, .string c.text, .int .i64 c.n, .int .i64 c.a, .int .i64 c.b, .int .i64 c.c]
def hnC (h : Hn) : List Value := [.int .i64 h.fr, .int .i64 h.til, .int .i64 h.at_, .int .i64 h.cls]
/-- A member, and where its handlers lie. -/
abbrev Mp := Mb × Option Addr × Nat
def mbC (m : Mp) : List Value := [.int .i64 m.1.flags, .int .i64 m.1.name, .int .i64 m.1.desc, .int .i64 m.1.stack, .int .i64 m.1.locals, .string m.1.code, .slice m.2.1 m.1.hs.length m.2.2]
theorem cnC_len (c : Cn) : (cnC c).length = 6 := rfl
theorem hnC_len (h : Hn) : (hnC h).length = 4 := rfl
theorem mbC_len (m : Mp) : (mbC m).length = 7 := rfl
def cnV (c : Cn) : Value := .agg #[.int .i64 c.tag, .string c.text, .int .i64 c.n, .int .i64 c.a, .int .i64 c.b, .int .i64 c.c]
def mbV (m : Mp) : Value := .agg #[.int .i64 m.1.flags, .int .i64 m.1.name, .int .i64 m.1.desc, .int .i64 m.1.stack, .int .i64 m.1.locals, .string m.1.code, .slice m.2.1 m.1.hs.length m.2.2]
/-- The link of a constant. -/
def get (p : List Cn) (i : Int) : Option Cn := if 1 ≤ i then p[(i - 1).toNat]? else none
def taggedS (p : List Cn) (i tag : Int) : Bool := match get p i with
  | some c => decide (c.tag = tag)
  | none => false
def cnameS (p : List Cn) (i : Int) : ByteArray × Bool := match get p i with
  | some c => if c.tag = 1 then (c.text, true) else (⟨#[]⟩, false)
  | none => (⟨#[]⟩, false)
def classNameS (p : List Cn) (i : Int) : ByteArray × Bool := match get p i with
  | some c => if c.tag = 4 then cnameS p c.a else (⟨#[]⟩, false)
  | none => (⟨#[]⟩, false)
/-- Where a class's lists lie. -/
structure At where
  A : Option Addr
  c : Nat
  I : Option Addr
  d : Nat
  X : Option Addr
  e : Nat
  Y : Option Addr
  g : Nat
end Sp
/-- Members are read, and their handlers. -/
def RdM (w : World) (A : Option Addr) (l : List Sp.Mp) : Prop := RdL Sp.mbC w A l ∧ ∀ m ∈ l, RdL Sp.hnC w m.2.1 m.1.hs
theorem rdM_below {w w1 : World} {A : Option Addr} {l : List Sp.Mp} (h : RdM w A l) (hb : Below w.heap.size w w1) : RdM w1 A l := ⟨rdL_below h.1 hb, fun m hm => rdL_below (h.2 m hm) hb⟩
/-- A class, with where its members' handlers lie. -/
structure FlP where
  pool : List Sp.Cn
  flags : Int
  this : Int
  super : Int
  ifaces : List Int
  fields : List Sp.Mp
  methods : List Sp.Mp
def FlP.fl (F : FlP) : Sp.Fl := ⟨F.pool, F.flags, F.this, F.super, F.ifaces, F.fields.map (·.1), F.methods.map (·.1)⟩
def flC (q : Sp.At) (F : FlP) : Array Value := #[.slice q.A F.pool.length q.c, .int .i64 F.flags, .int .i64 F.this, .int .i64 F.super, .slice q.I F.ifaces.length q.d, .slice q.X F.fields.length q.e, .slice q.Y F.methods.length q.g]
/-- The class is read. -/
structure RdF (w : World) (q : Sp.At) (F : FlP) : Prop where
  pool : RdL Sp.cnC w q.A F.pool
  ifaces : RdN .i64 w q.I F.ifaces
  fields : RdM w q.X F.fields
  methods : RdM w q.Y F.methods
theorem rdF_below {w w1 : World} {q : Sp.At} {F : FlP} (h : RdF w q F) (hb : Below w.heap.size w w1) : RdF w1 q F := ⟨rdL_below h.pool hb, rdN_below h.ifaces hb, rdM_below h.fields hb, rdM_below h.methods hb⟩
end Go.Proofs.YthpfknlgfkecpaaDoor
end
section
/-
  Walks of chapter 3's tagged, Name, bare, interface_, and the reference's.
-/
set_option linter.unusedVariables false
set_option linter.unusedSimpArgs false
namespace Go.Proofs.YthpfknlgfkecpaaDoor
open Go.RowKit Go.Lib

namespace Sp
theorem get_at (p : List Cn) (k : Nat) (h : k < p.length) : get p ((k : Int) + 1) = some p[k] := by
  unfold get
  rw [if_pos (by omega), show ((k : Int) + 1 - 1).toNat = k by omega, List.getElem?_eq_getElem h]
theorem get_low (p : List Cn) (i : Int) (h : ¬ 1 ≤ i) : get p i = none := by unfold get; rw [if_neg h]
theorem get_high (p : List Cn) (i : Int) (h : (p.length : Int) < i) : get p i = none := by
  unfold get
  split
  · rw [List.getElem?_eq_none]
    omega
  · rfl
theorem get_cases (p : List Cn) (i : Int) : (¬ 1 ≤ i ∧ get p i = none) ∨ (1 ≤ i ∧ (p.length : Int) < i ∧ get p i = none) ∨ ∃ (k : Nat) (h : k < p.length), i = (k : Int) + 1 ∧ get p i = some p[k] := by
  by_cases h1 : 1 ≤ i
  · by_cases h2 : (p.length : Int) < i
    · exact .inr (.inl ⟨h1, h2, get_high p i h2⟩)
    · obtain ⟨k, rfl⟩ : ∃ k : Nat, i = (k : Int) + 1 := ⟨(i - 1).toNat, by omega⟩
      exact .inr (.inr ⟨k, by omega, rfl, get_at p k (by omega)⟩)
  · exact .inl ⟨h1, get_low p i h1⟩
end Sp

/-- The cells of a constant. -/
theorem cn_cells {w : World} {b o : Nat} {p : List Sp.Cn} (hr : w.rangeAt b o (p.flatMap Sp.cnC)) {k : Nat} (hk : k < p.length) :
    w.cell? ⟨b, o + k * 6, none⟩ = some (.int .i64 p[k].tag) ∧ w.cell? ⟨b, o + k * 6 + 1, none⟩ = some (.string p[k].text) ∧ w.cell? ⟨b, o + k * 6 + 2, none⟩ = some (.int .i64 p[k].n) ∧ w.cell? ⟨b, o + k * 6 + 3, none⟩ = some (.int .i64 p[k].a) ∧ w.cell? ⟨b, o + k * 6 + 4, none⟩ = some (.int .i64 p[k].b) ∧ w.cell? ⟨b, o + k * 6 + 5, none⟩ = some (.int .i64 p[k].c) :=
  ⟨rdL_get 6 Sp.cnC_len hr hk 0 (by decide) rfl, rdL_get 6 Sp.cnC_len hr hk 1 (by decide) rfl, rdL_get 6 Sp.cnC_len hr hk 2 (by decide) rfl, rdL_get 6 Sp.cnC_len hr hk 3 (by decide) rfl, rdL_get 6 Sp.cnC_len hr hk 4 (by decide) rfl, rdL_get 6 Sp.cnC_len hr hk 5 (by decide) rfl⟩

set_option maxHeartbeats 4000000 in
set_option maxRecDepth 100000 in
theorem tagged_any (q : Sp.At) (F : FlP) (i tag : Int) (w : World) (hr : RdF w q F) (hi : -9223372036854775808 ≤ i ∧ i ≤ 9223372036854775807) :
    Calls Tryd.prog 63 #[.agg (flC q F), .int .i64 i, .int .i64 tag] w fun e w' => e = .returned (.bool (Sp.taggedS F.pool i tag)) ∧ Below w.heap.size w w' := by
  have hl := hr.pool.1
  have HP := Lib.hid hr.pool.2
  clear hr
  have HE := Lib.hid (show Sp.taggedS F.pool i tag = _ by rw [Sp.taggedS])
  generalize Sp.taggedS F.pool i tag = R at HE ⊢
  unfold flC
  rcases Sp.get_cases F.pool i with ⟨h1, h2⟩ | ⟨h1, h2, h3⟩ | ⟨k, hk, rfl, h3⟩
  · have hR : R = false := by rw [HE.out, h2]
    subst hR
    clear HE h2
    go_enter Tryd.func63, Tryd.ntmps63
    go_wp2
    go_ret
    exact ⟨by simp, by (repeat (first | with_reducible assumption | with_reducible exact Below.refl _ _ | (with_reducible refine Below.setCell ?_ (by first | exact Nat.le_refl _ | omega | (simp; done) | (simp; omega)) _) | (with_reducible refine Below.alloc ?_ (by first | exact Nat.le_refl _ | omega | (simp; done) | (simp; omega)) _) | (with_reducible refine Below.drew ?_)))⟩
  · have hR : R = false := by rw [HE.out, h3]
    subst hR
    have h4 : ¬ i ≤ (F.pool.length : Int) := by omega
    clear HE h3
    go_enter Tryd.func63, Tryd.ntmps63
    go_wp2
    go_ret
    exact ⟨by simp, by (repeat (first | with_reducible assumption | with_reducible exact Below.refl _ _ | (with_reducible refine Below.setCell ?_ (by first | exact Nat.le_refl _ | omega | (simp; done) | (simp; omega)) _) | (with_reducible refine Below.alloc ?_ (by first | exact Nat.le_refl _ | omega | (simp; done) | (simp; omega)) _) | (with_reducible refine Below.drew ?_)))⟩
  · obtain ⟨b, o, hA, hrg⟩ := HP.out (by omega)
    obtain ⟨c0, c1, c2, c3, c4, c5⟩ := cn_cells hrg hk
    have hb := World.block_lt_of_cell? _ _ c0
    have hR : R = decide (F.pool[k].tag = tag) := by rw [HE.out, h3]
    have h1 : (1 : Int) ≤ (k : Int) + 1 := by omega
    have h2 : (k : Int) + 1 ≤ (F.pool.length : Int) := by omega
    have h5 : (k : Int) < (F.pool.length : Int) := by omega
    have h6 : (k : Int) + 1 - 1 = (k : Int) := by omega
    subst hR
    clear HE h3 hrg c1 c2 c3 c4 c5
    rw [hA]
    generalize F.pool[k].tag = t at *
    go_enter Tryd.func63, Tryd.ntmps63
    go_wp2
    go_ret
    have hbe : (t == tag) = decide (t = tag) := by rw [Bool.eq_iff_iff]; simp
    exact ⟨by simp [hbe], by (repeat (first | with_reducible assumption | with_reducible exact Below.refl _ _ | (with_reducible refine Below.setCell ?_ (by first | exact Nat.le_refl _ | omega | (simp; done) | (simp; omega)) _) | (with_reducible refine Below.alloc ?_ (by first | exact Nat.le_refl _ | omega | (simp; done) | (simp; omega)) _) | (with_reducible refine Below.drew ?_)))⟩

set_option maxHeartbeats 4000000 in
set_option maxRecDepth 100000 in
theorem cname_any (q : Sp.At) (F : FlP) (i : Int) (w : World) (hr : RdF w q F) (hi : -9223372036854775808 ≤ i ∧ i ≤ 9223372036854775807) :
    Calls Tryd.prog 39 #[.agg (flC q F), .int .i64 i] w fun e w' => e = .returned (.tuple #[.string (Sp.cnameS F.pool i).1, .bool (Sp.cnameS F.pool i).2]) ∧ Below w.heap.size w w' := by
  have hl := hr.pool.1
  have HP := Lib.hid hr.pool.2
  have HE := Lib.hid (show Sp.cnameS F.pool i = _ by rw [Sp.cnameS])
  have HT := Lib.hid (show Sp.taggedS F.pool i 1 = _ by rw [Sp.taggedS])
  have k1 := Lib.hid (fun W hr => tagged_any q F i 1 W hr hi)
  have hr0 := Lib.hid hr
  clear hr
  generalize Sp.cnameS F.pool i = R at HE ⊢
  generalize Sp.taggedS F.pool i 1 = T at HT k1
  unfold flC at k1 ⊢
  have hB := (Below.refl w.heap.size w).alloc (Nat.le_refl _) (.cells #[.slice q.A F.pool.length q.c, .int .i64 F.flags, .int .i64 F.this, .int .i64 F.super, .slice q.I F.ifaces.length q.d, .slice q.X F.fields.length q.e, .slice q.Y F.methods.length q.g] 53)
  have hK := Lib.hid (blk_new w (.cells #[.slice q.A F.pool.length q.c, .int .i64 F.flags, .int .i64 F.this, .int .i64 F.super, .slice q.I F.ifaces.length q.d, .slice q.X F.fields.length q.e, .slice q.Y F.methods.length q.g] 53))
  go_enter Tryd.func39, Tryd.ntmps39
  go_wp2_with fail
  refine (k1.out _ (rdF_below hr0.out hB)).mono ?_
  rintro e w1 ⟨rfl, hb1⟩
  have K1 := Lib.hid (blk_below hK.out hb1)
  have B1 := below_then hB (by simp) hb1
  clear hK hb1 k1
  have c0 := (blk_cell K1.out 0 (.slice q.A F.pool.length q.c) rfl).1
  have hfail : T = false → R = (⟨#[]⟩, false) := by
    intro hT
    rw [HE.out]
    have := HT.out
    rw [hT] at this
    cases hg : Sp.get F.pool i with
    | none => rfl
    | some x =>
      rw [hg] at this
      simp only at this ⊢
      rw [if_neg]
      intro q
      rw [decide_eq_true q] at this
      cases this
  cases T with
  | false =>
    have hR := hfail rfl
    subst hR
    clear HE HT hfail
    go_wp2
    go_ret2
    exact ⟨rfl, B1⟩
  | true =>
    clear hfail
    rcases Sp.get_cases F.pool i with ⟨h1, h2⟩ | ⟨h1, h2, h3⟩ | ⟨k, hk, rfl, h3⟩
    · have := HT.out; rw [h2] at this; cases this
    · have := HT.out; rw [h3] at this; cases this
    · have ht : F.pool[k].tag = 1 := by have := HT.out; rw [h3] at this; simpa using this.symm
      have hR : R = (F.pool[k].text, true) := by rw [HE.out, h3]; simp only; rw [if_pos ht]
      obtain ⟨b, o, hA, hrg⟩ := HP.out (by omega)
      obtain ⟨d0, d1, d2, d3, d4, d5⟩ := cn_cells hrg hk
      have e1 := B1.cell (World.block_lt_of_cell? _ _ d1) |>.trans d1
      have h5 : (k : Int) < (F.pool.length : Int) := by omega
      have h6 : (k : Int) + 1 - 1 = (k : Int) := by omega
      clear HE HT h3 hrg d0 d1 d2 d3 d4 d5 ht
      rw [hA] at c0
      generalize F.pool[k].text = t at *
      subst hR
      go_wp2
      go_ret2
      exact ⟨rfl, B1⟩

set_option maxHeartbeats 4000000 in
set_option maxRecDepth 100000 in
theorem bare_any (m : Sp.Mp) (w : World) (hl : m.1.hs.length ≤ 9223372036854775807) :
    Calls Tryd.prog 121 #[Sp.mbV m] w fun e w' => e = .returned (.bool (decide (m.1.stack = 0) && decide (m.1.locals = 0) && decide (m.1.code.size = 0) && decide (m.1.hs.length = 0))) ∧ Below w.heap.size w w' := by
  obtain ⟨⟨fl, nm, ds, st, lc, cd, hs⟩, A, c⟩ := m
  unfold Sp.mbV
  simp only [] at hl ⊢
  by_cases h1 : st = 0
  · by_cases h2 : lc = 0
    · by_cases h3 : cd.size = 0
      · obtain rfl := str_empty cd h3
        subst h1 h2
        by_cases h4 : hs.length = 0
        · have h4b : (hs.length : Int) = 0 := by omega
          go_enter Tryd.func121, Tryd.ntmps121
          go_wp2
          go_ret
          exact ⟨by first | (simp [h4]; done) | (simp [h4]; rfl), by (repeat (first | with_reducible assumption | with_reducible exact Below.refl _ _ | (with_reducible refine Below.setCell ?_ (by first | exact Nat.le_refl _ | omega | (simp; done) | (simp; omega)) _) | (with_reducible refine Below.alloc ?_ (by first | exact Nat.le_refl _ | omega | (simp; done) | (simp; omega)) _) | (with_reducible refine Below.drew ?_)))⟩
        · have h4b : ((hs.length : Int) == 0) = false := by rw [beq_eq_false_iff_ne]; omega
          go_enter Tryd.func121, Tryd.ntmps121
          go_wp2
          go_ret
          exact ⟨by first | (simp [h4]; done) | (simp [h4]; rfl), by (repeat (first | with_reducible assumption | with_reducible exact Below.refl _ _ | (with_reducible refine Below.setCell ?_ (by first | exact Nat.le_refl _ | omega | (simp; done) | (simp; omega)) _) | (with_reducible refine Below.alloc ?_ (by first | exact Nat.le_refl _ | omega | (simp; done) | (simp; omega)) _) | (with_reducible refine Below.drew ?_)))⟩
      · have hne : (cd.toList == []) = false := by
          rw [Bool.eq_false_iff]
          intro r
          have := (bytes_beq_iff cd ⟨#[]⟩).1 (by simpa using r)
          rw [this] at h3
          exact h3 rfl
        subst h1 h2
        go_enter Tryd.func121, Tryd.ntmps121
        go_wp2
        go_ret
        exact ⟨by first | (simp [h3]; done) | (simp [h3]; rfl), by (repeat (first | with_reducible assumption | with_reducible exact Below.refl _ _ | (with_reducible refine Below.setCell ?_ (by first | exact Nat.le_refl _ | omega | (simp; done) | (simp; omega)) _) | (with_reducible refine Below.alloc ?_ (by first | exact Nat.le_refl _ | omega | (simp; done) | (simp; omega)) _) | (with_reducible refine Below.drew ?_)))⟩
    · have hb : (lc == 0) = false := by rw [beq_eq_false_iff_ne]; exact h2
      subst h1
      go_enter Tryd.func121, Tryd.ntmps121
      go_wp2
      go_ret
      exact ⟨by simp [h2], by (repeat (first | with_reducible assumption | with_reducible exact Below.refl _ _ | (with_reducible refine Below.setCell ?_ (by first | exact Nat.le_refl _ | omega | (simp; done) | (simp; omega)) _) | (with_reducible refine Below.alloc ?_ (by first | exact Nat.le_refl _ | omega | (simp; done) | (simp; omega)) _) | (with_reducible refine Below.drew ?_)))⟩
  · have hb : (st == 0) = false := by rw [beq_eq_false_iff_ne]; exact h1
    go_enter Tryd.func121, Tryd.ntmps121
    go_wp2
    go_ret
    exact ⟨by simp [h1], by (repeat (first | with_reducible assumption | with_reducible exact Below.refl _ _ | (with_reducible refine Below.setCell ?_ (by first | exact Nat.le_refl _ | omega | (simp; done) | (simp; omega)) _) | (with_reducible refine Below.alloc ?_ (by first | exact Nat.le_refl _ | omega | (simp; done) | (simp; omega)) _) | (with_reducible refine Below.drew ?_)))⟩
end Go.Proofs.YthpfknlgfkecpaaDoor
end
section
/-
  Walks of chapter 3's lean, interface_, described, link, constant.
-/
set_option linter.unusedVariables false
set_option linter.unusedSimpArgs false
namespace Go.Proofs.YthpfknlgfkecpaaDoor
open Go.RowKit Go.Lib

namespace Sp
def leanS (c : Cn) : Bool :=
  decide (1 ≤ c.tag) && decide (c.tag ≤ 7) && (decide (c.tag = 1) || decide (c.text.size = 0)) && (decide (c.tag = 2) || decide (c.n = 0)) && (decide (3 ≤ c.tag) || decide (c.a = 0)) && (decide (c.tag = 5) || decide (c.tag = 6) || (decide (c.b = 0) && decide (c.c = 0)))
def descS (s : ByteArray) (method : Bool) : Int := if method = true then (methodS s).2 else (fieldS s).2
def linkS (p : List Cn) (name desc : Int) (method : Bool) : Int :=
  if (cnameS p name).2 = false ∨ (cnameS p desc).2 = false then 7
  else if nameS (cnameS p name).1 = false then 8
  else descS (cnameS p desc).1 method
theorem size_zero (s : ByteArray) : (s.size = 0) = (s = ⟨#[]⟩) := by
  apply propext
  constructor
  · exact str_empty s
  · intro h; rw [h]; rfl
end Sp

set_option maxHeartbeats 8000000 in
set_option maxRecDepth 100000 in
theorem lean_any (c : Sp.Cn) (w : World) :
    Calls Tryd.prog 116 #[Sp.cnV c] w fun e w' => e = .returned (.bool (Sp.leanS c)) ∧ Below w.heap.size w w' := by
  obtain ⟨t, s, n, a, b, c⟩ := c
  unfold Sp.cnV
  simp only []
  have HS := Lib.hid (fun q : s.toList == [] => (bytes_beq_iff s ⟨#[]⟩).1 (by simpa using q))
  have HS2 := Lib.hid (Sp.size_zero s)
  by_cases h1 : t = 1
  · subst h1
    have HE := Lib.hid (show Sp.leanS ⟨1, s, n, a, b, c⟩ = (decide (n = 0) && decide (a = 0) && decide (b = 0) && decide (c = 0)) by simp [Sp.leanS, Bool.and_assoc])
    generalize Sp.leanS ⟨1, s, n, a, b, c⟩ = R at HE ⊢
    go_enter Tryd.func116, Tryd.ntmps116
    go_wp2
    all_goals (go_ret; exact ⟨by rw [HE.out]; simp [*], by (repeat (first | with_reducible assumption | with_reducible exact Below.refl _ _ | (with_reducible refine Below.setCell ?_ (by first | exact Nat.le_refl _ | omega | (simp; done) | (simp; omega)) _) | (with_reducible refine Below.alloc ?_ (by first | exact Nat.le_refl _ | omega | (simp; done) | (simp; omega)) _) | (with_reducible refine Below.drew ?_)))⟩)
  by_cases h2 : t = 2
  · subst h2
    have HE := Lib.hid (show Sp.leanS ⟨2, s, n, a, b, c⟩ = (decide (s.size = 0) && decide (a = 0) && decide (b = 0) && decide (c = 0)) by simp [Sp.leanS, Bool.and_assoc])
    generalize Sp.leanS ⟨2, s, n, a, b, c⟩ = R at HE ⊢
    by_cases hs : s.size = 0
    · obtain rfl := str_empty s hs
      go_enter Tryd.func116, Tryd.ntmps116
      go_wp2
      all_goals (go_ret; exact ⟨by rw [HE.out, decide_eq_true hs]; simp [*], by (repeat (first | with_reducible assumption | with_reducible exact Below.refl _ _ | (with_reducible refine Below.setCell ?_ (by first | exact Nat.le_refl _ | omega | (simp; done) | (simp; omega)) _) | (with_reducible refine Below.alloc ?_ (by first | exact Nat.le_refl _ | omega | (simp; done) | (simp; omega)) _) | (with_reducible refine Below.drew ?_)))⟩)
    · have hne : (s.toList == []) = false := by rw [Bool.eq_false_iff]; intro r; have := (bytes_beq_iff s ⟨#[]⟩).1 (by simpa using r); rw [this] at hs; exact hs rfl
      go_enter Tryd.func116, Tryd.ntmps116
      go_wp2
      all_goals (go_ret; exact ⟨by rw [HE.out, decide_eq_false hs]; simp [*], by (repeat (first | with_reducible assumption | with_reducible exact Below.refl _ _ | (with_reducible refine Below.setCell ?_ (by first | exact Nat.le_refl _ | omega | (simp; done) | (simp; omega)) _) | (with_reducible refine Below.alloc ?_ (by first | exact Nat.le_refl _ | omega | (simp; done) | (simp; omega)) _) | (with_reducible refine Below.drew ?_)))⟩)
  by_cases h3 : t = 3
  · subst h3
    have HE := Lib.hid (show Sp.leanS ⟨3, s, n, a, b, c⟩ = (decide (s.size = 0) && decide (n = 0) && decide (b = 0) && decide (c = 0)) by simp [Sp.leanS, Bool.and_assoc])
    generalize Sp.leanS ⟨3, s, n, a, b, c⟩ = R at HE ⊢
    by_cases hs : s.size = 0
    · obtain rfl := str_empty s hs
      go_enter Tryd.func116, Tryd.ntmps116
      go_wp2
      all_goals (go_ret; exact ⟨by rw [HE.out, decide_eq_true hs]; simp [*], by (repeat (first | with_reducible assumption | with_reducible exact Below.refl _ _ | (with_reducible refine Below.setCell ?_ (by first | exact Nat.le_refl _ | omega | (simp; done) | (simp; omega)) _) | (with_reducible refine Below.alloc ?_ (by first | exact Nat.le_refl _ | omega | (simp; done) | (simp; omega)) _) | (with_reducible refine Below.drew ?_)))⟩)
    · have hne : (s.toList == []) = false := by rw [Bool.eq_false_iff]; intro r; have := (bytes_beq_iff s ⟨#[]⟩).1 (by simpa using r); rw [this] at hs; exact hs rfl
      go_enter Tryd.func116, Tryd.ntmps116
      go_wp2
      all_goals (go_ret; exact ⟨by rw [HE.out, decide_eq_false hs]; simp [*], by (repeat (first | with_reducible assumption | with_reducible exact Below.refl _ _ | (with_reducible refine Below.setCell ?_ (by first | exact Nat.le_refl _ | omega | (simp; done) | (simp; omega)) _) | (with_reducible refine Below.alloc ?_ (by first | exact Nat.le_refl _ | omega | (simp; done) | (simp; omega)) _) | (with_reducible refine Below.drew ?_)))⟩)
  by_cases h4 : t = 4
  · subst h4
    have HE := Lib.hid (show Sp.leanS ⟨4, s, n, a, b, c⟩ = (decide (s.size = 0) && decide (n = 0) && decide (b = 0) && decide (c = 0)) by simp [Sp.leanS, Bool.and_assoc])
    generalize Sp.leanS ⟨4, s, n, a, b, c⟩ = R at HE ⊢
    by_cases hs : s.size = 0
    · obtain rfl := str_empty s hs
      go_enter Tryd.func116, Tryd.ntmps116
      go_wp2
      all_goals (go_ret; exact ⟨by rw [HE.out, decide_eq_true hs]; simp [*], by (repeat (first | with_reducible assumption | with_reducible exact Below.refl _ _ | (with_reducible refine Below.setCell ?_ (by first | exact Nat.le_refl _ | omega | (simp; done) | (simp; omega)) _) | (with_reducible refine Below.alloc ?_ (by first | exact Nat.le_refl _ | omega | (simp; done) | (simp; omega)) _) | (with_reducible refine Below.drew ?_)))⟩)
    · have hne : (s.toList == []) = false := by rw [Bool.eq_false_iff]; intro r; have := (bytes_beq_iff s ⟨#[]⟩).1 (by simpa using r); rw [this] at hs; exact hs rfl
      go_enter Tryd.func116, Tryd.ntmps116
      go_wp2
      all_goals (go_ret; exact ⟨by rw [HE.out, decide_eq_false hs]; simp [*], by (repeat (first | with_reducible assumption | with_reducible exact Below.refl _ _ | (with_reducible refine Below.setCell ?_ (by first | exact Nat.le_refl _ | omega | (simp; done) | (simp; omega)) _) | (with_reducible refine Below.alloc ?_ (by first | exact Nat.le_refl _ | omega | (simp; done) | (simp; omega)) _) | (with_reducible refine Below.drew ?_)))⟩)
  by_cases h7 : t = 7
  · subst h7
    have HE := Lib.hid (show Sp.leanS ⟨7, s, n, a, b, c⟩ = (decide (s.size = 0) && decide (n = 0) && decide (b = 0) && decide (c = 0)) by simp [Sp.leanS, Bool.and_assoc])
    generalize Sp.leanS ⟨7, s, n, a, b, c⟩ = R at HE ⊢
    by_cases hs : s.size = 0
    · obtain rfl := str_empty s hs
      go_enter Tryd.func116, Tryd.ntmps116
      go_wp2
      all_goals (go_ret; exact ⟨by rw [HE.out, decide_eq_true hs]; simp [*], by (repeat (first | with_reducible assumption | with_reducible exact Below.refl _ _ | (with_reducible refine Below.setCell ?_ (by first | exact Nat.le_refl _ | omega | (simp; done) | (simp; omega)) _) | (with_reducible refine Below.alloc ?_ (by first | exact Nat.le_refl _ | omega | (simp; done) | (simp; omega)) _) | (with_reducible refine Below.drew ?_)))⟩)
    · have hne : (s.toList == []) = false := by rw [Bool.eq_false_iff]; intro r; have := (bytes_beq_iff s ⟨#[]⟩).1 (by simpa using r); rw [this] at hs; exact hs rfl
      go_enter Tryd.func116, Tryd.ntmps116
      go_wp2
      all_goals (go_ret; exact ⟨by rw [HE.out, decide_eq_false hs]; simp [*], by (repeat (first | with_reducible assumption | with_reducible exact Below.refl _ _ | (with_reducible refine Below.setCell ?_ (by first | exact Nat.le_refl _ | omega | (simp; done) | (simp; omega)) _) | (with_reducible refine Below.alloc ?_ (by first | exact Nat.le_refl _ | omega | (simp; done) | (simp; omega)) _) | (with_reducible refine Below.drew ?_)))⟩)
  by_cases h5 : t = 5
  · subst h5
    have HE := Lib.hid (show Sp.leanS ⟨5, s, n, a, b, c⟩ = (decide (s.size = 0) && decide (n = 0)) by simp [Sp.leanS, Bool.and_assoc])
    generalize Sp.leanS ⟨5, s, n, a, b, c⟩ = R at HE ⊢
    by_cases hs : s.size = 0
    · obtain rfl := str_empty s hs
      go_enter Tryd.func116, Tryd.ntmps116
      go_wp2
      all_goals (go_ret; exact ⟨by rw [HE.out, decide_eq_true hs]; simp [*], by (repeat (first | with_reducible assumption | with_reducible exact Below.refl _ _ | (with_reducible refine Below.setCell ?_ (by first | exact Nat.le_refl _ | omega | (simp; done) | (simp; omega)) _) | (with_reducible refine Below.alloc ?_ (by first | exact Nat.le_refl _ | omega | (simp; done) | (simp; omega)) _) | (with_reducible refine Below.drew ?_)))⟩)
    · have hne : (s.toList == []) = false := by rw [Bool.eq_false_iff]; intro r; have := (bytes_beq_iff s ⟨#[]⟩).1 (by simpa using r); rw [this] at hs; exact hs rfl
      go_enter Tryd.func116, Tryd.ntmps116
      go_wp2
      all_goals (go_ret; exact ⟨by rw [HE.out, decide_eq_false hs]; simp [*], by (repeat (first | with_reducible assumption | with_reducible exact Below.refl _ _ | (with_reducible refine Below.setCell ?_ (by first | exact Nat.le_refl _ | omega | (simp; done) | (simp; omega)) _) | (with_reducible refine Below.alloc ?_ (by first | exact Nat.le_refl _ | omega | (simp; done) | (simp; omega)) _) | (with_reducible refine Below.drew ?_)))⟩)
  by_cases h6 : t = 6
  · subst h6
    have HE := Lib.hid (show Sp.leanS ⟨6, s, n, a, b, c⟩ = (decide (s.size = 0) && decide (n = 0)) by simp [Sp.leanS, Bool.and_assoc])
    generalize Sp.leanS ⟨6, s, n, a, b, c⟩ = R at HE ⊢
    by_cases hs : s.size = 0
    · obtain rfl := str_empty s hs
      go_enter Tryd.func116, Tryd.ntmps116
      go_wp2
      all_goals (go_ret; exact ⟨by rw [HE.out, decide_eq_true hs]; simp [*], by (repeat (first | with_reducible assumption | with_reducible exact Below.refl _ _ | (with_reducible refine Below.setCell ?_ (by first | exact Nat.le_refl _ | omega | (simp; done) | (simp; omega)) _) | (with_reducible refine Below.alloc ?_ (by first | exact Nat.le_refl _ | omega | (simp; done) | (simp; omega)) _) | (with_reducible refine Below.drew ?_)))⟩)
    · have hne : (s.toList == []) = false := by rw [Bool.eq_false_iff]; intro r; have := (bytes_beq_iff s ⟨#[]⟩).1 (by simpa using r); rw [this] at hs; exact hs rfl
      go_enter Tryd.func116, Tryd.ntmps116
      go_wp2
      all_goals (go_ret; exact ⟨by rw [HE.out, decide_eq_false hs]; simp [*], by (repeat (first | with_reducible assumption | with_reducible exact Below.refl _ _ | (with_reducible refine Below.setCell ?_ (by first | exact Nat.le_refl _ | omega | (simp; done) | (simp; omega)) _) | (with_reducible refine Below.alloc ?_ (by first | exact Nat.le_refl _ | omega | (simp; done) | (simp; omega)) _) | (with_reducible refine Below.drew ?_)))⟩)
  have HE : Sp.leanS ⟨t, s, n, a, b, c⟩ = false := by
    have q : (decide (1 ≤ t) && decide (t ≤ 7)) = false := by
      by_cases q1 : 1 ≤ t
      · have q2 : ¬ t ≤ 7 := by omega
        simp [q2]
      · simp [q1]
    simp only [Sp.leanS, q, Bool.false_and]
  have b1 : (t == 1) = false := by rw [beq_eq_false_iff_ne]; exact h1
  have b2 : (t == 2) = false := by rw [beq_eq_false_iff_ne]; exact h2
  have b3 : (t == 3) = false := by rw [beq_eq_false_iff_ne]; exact h3
  have b4 : (t == 4) = false := by rw [beq_eq_false_iff_ne]; exact h4
  have b5 : (t == 5) = false := by rw [beq_eq_false_iff_ne]; exact h5
  have b6 : (t == 6) = false := by rw [beq_eq_false_iff_ne]; exact h6
  have b7 : (t == 7) = false := by rw [beq_eq_false_iff_ne]; exact h7
  rw [HE]
  clear HE h1 h2 h3 h4 h5 h6 h7
  go_enter Tryd.func116, Tryd.ntmps116
  go_wp2
  go_ret
  exact ⟨by simp, by (repeat (first | with_reducible assumption | with_reducible exact Below.refl _ _ | (with_reducible refine Below.setCell ?_ (by first | exact Nat.le_refl _ | omega | (simp; done) | (simp; omega)) _) | (with_reducible refine Below.alloc ?_ (by first | exact Nat.le_refl _ | omega | (simp; done) | (simp; omega)) _) | (with_reducible refine Below.drew ?_)))⟩

set_option maxHeartbeats 4000000 in
set_option maxRecDepth 100000 in
theorem described_any (s : ByteArray) (m : Bool) (w : World) (hs : s.size ≤ 1099511627776) (hT : Tabs w) :
    Calls Tryd.prog 119 #[.string s, .bool m] w fun e w' => e = .returned (.int .i64 (Sp.descS s m)) ∧ Below w.heap.size w w' := by
  have k1 := Lib.hid (fun W hT => method_any s W hs hT)
  have k2 := Lib.hid (fun W hT => field_any s W hs hT)
  have HE := Lib.hid (show Sp.descS s m = _ by rw [Sp.descS])
  have T0 := Lib.hid hT
  clear hT
  generalize Sp.descS s m = R at HE ⊢
  generalize Sp.methodS s = M at *
  generalize Sp.fieldS s = F at *
  obtain ⟨⟨ml, ⟨md, mn⟩, mv⟩, me⟩ := M
  obtain ⟨⟨fd, fn⟩, fe⟩ := F
  unfold Sp.sigV at k1
  unfold Sp.tyV at k2
  simp only [] at k1 k2
  cases m with
  | true =>
    have hR : R = me := HE.out
    subst hR
    clear HE
    go_enter Tryd.func119, Tryd.ntmps119
    go_wp2_with fail
    refine (k1.out _ T0.out).mono ?_
    rintro e w1 ⟨A1, c1, rfl, _, hb⟩
    have hbz := hb.size
    go_wp2
    go_ret
    exact ⟨rfl, by (repeat (first | with_reducible assumption | with_reducible exact Below.refl _ _ | (with_reducible refine Below.setCell ?_ (by first | exact Nat.le_refl _ | omega | (simp; done) | (simp; omega)) _) | (with_reducible refine Below.alloc ?_ (by first | exact Nat.le_refl _ | omega | (simp; done) | (simp; omega)) _) | (with_reducible refine Below.drew ?_)))⟩
  | false =>
    have hR : R = fe := HE.out
    subst hR
    clear HE
    go_enter Tryd.func119, Tryd.ntmps119
    go_wp2_with fail
    refine (k2.out _ T0.out).mono ?_
    rintro e w1 ⟨rfl, hb⟩
    have hbz := hb.size
    go_wp2
    go_ret
    exact ⟨rfl, by (repeat (first | with_reducible assumption | with_reducible exact Below.refl _ _ | (with_reducible refine Below.setCell ?_ (by first | exact Nat.le_refl _ | omega | (simp; done) | (simp; omega)) _) | (with_reducible refine Below.alloc ?_ (by first | exact Nat.le_refl _ | omega | (simp; done) | (simp; omega)) _) | (with_reducible refine Below.drew ?_)))⟩

/-- A class in a box of its own, kept behind what only grew. -/
theorem flC_box {w : World} {b : Nat} {q : Sp.At} {F : FlP} {T : TypeId} (h : w.heap[b]? = some (.cells (flC q F) T (0, 0))) :
    w.cell? ⟨b, 0, none⟩ = some (.slice q.A F.pool.length q.c) ∧ w.cell? ⟨b, 1, none⟩ = some (.int .i64 F.flags) ∧ w.cell? ⟨b, 2, none⟩ = some (.int .i64 F.this) ∧ w.cell? ⟨b, 3, none⟩ = some (.int .i64 F.super) ∧ w.cell? ⟨b, 4, none⟩ = some (.slice q.I F.ifaces.length q.d) ∧ w.cell? ⟨b, 5, none⟩ = some (.slice q.X F.fields.length q.e) ∧ w.cell? ⟨b, 6, none⟩ = some (.slice q.Y F.methods.length q.g) :=
  ⟨(blk_cell h 0 _ rfl).1, (blk_cell h 1 _ rfl).1, (blk_cell h 2 _ rfl).1, (blk_cell h 3 _ rfl).1, (blk_cell h 4 _ rfl).1, (blk_cell h 5 _ rfl).1, (blk_cell h 6 _ rfl).1⟩

set_option maxHeartbeats 4000000 in
set_option maxRecDepth 100000 in
theorem link_any (q : Sp.At) (F : FlP) (i j : Int) (m : Bool) (w : World) (hr : RdF w q F) (hi : -9223372036854775808 ≤ i ∧ i ≤ 9223372036854775807) (hj : -9223372036854775808 ≤ j ∧ j ≤ 9223372036854775807)
    (hz : ∀ c ∈ F.pool, c.text.size ≤ 1099511627776) (hT : Tabs w) :
    Calls Tryd.prog 118 #[.agg (flC q F), .int .i64 i, .int .i64 j, .bool m] w fun e w' => e = .returned (.int .i64 (Sp.linkS F.pool i j m)) ∧ Below w.heap.size w w' := by
  have T0 := Lib.hid hT
  clear hT
  have hr0 := Lib.hid hr
  clear hr
  have hsz : ∀ i, (Sp.cnameS F.pool i).1.size ≤ 1099511627776 := by
    intro i
    unfold Sp.cnameS Sp.get
    split
    · rename_i c hc
      split at hc
      · split
        · exact hz _ (List.mem_of_getElem? hc)
        · exact Nat.zero_le _
      · cases hc
    · exact Nat.zero_le _
  have hs1 := hsz i
  have hs2 := hsz j
  clear hsz hz
  have k1 := Lib.hid (fun W hr => cname_any q F i W hr hi)
  have k2 := Lib.hid (fun W hr => cname_any q F j W hr hj)
  have k3 := Lib.hid (fun W hT => name_any (Sp.cnameS F.pool i).1 W (by omega) hT)
  have k4 := Lib.hid (fun W hT => described_any (Sp.cnameS F.pool j).1 m W (by omega) hT)
  have HE := Lib.hid (show Sp.linkS F.pool i j m = _ by rw [Sp.linkS])
  generalize Sp.linkS F.pool i j m = R at HE ⊢
  generalize Sp.cnameS F.pool i = N at *
  generalize Sp.cnameS F.pool j = D at *
  obtain ⟨n1, n2⟩ := N
  obtain ⟨d1, d2⟩ := D
  simp only [] at k1 k2 k3 k4 hs1 hs2
  have HE' := Lib.hid HE.out
  clear HE
  simp only [] at HE'
  generalize Sp.nameS n1 = nb at *
  generalize Sp.descS d1 m = db at *
  have hB := (Below.refl w.heap.size w).alloc (Nat.le_refl _) (.cells (flC q F) 53)
  have hK := Lib.hid (blk_new w (.cells (flC q F) 53))
  unfold flC at k1 k2
  have hfl : flC q F = #[.slice q.A F.pool.length q.c, .int .i64 F.flags, .int .i64 F.this, .int .i64 F.super, .slice q.I F.ifaces.length q.d, .slice q.X F.fields.length q.e, .slice q.Y F.methods.length q.g] := rfl
  rw [hfl] at hB ⊢
  clear hfl
  go_enter Tryd.func118, Tryd.ntmps118
  go_wp2_with fail
  refine (k1.out _ (rdF_below hr0.out hB)).mono ?_
  rintro e w1 ⟨rfl, hb1⟩
  have K1 := Lib.hid (blk_below hK.out hb1)
  have B1 := below_then hB (by simp) hb1
  have S1 := B1.size
  clear hK hB hb1 k1
  obtain ⟨c0, c1, c2, c3, c4, c5, c6⟩ := flC_box K1.out
  go_wp2_with fail
  refine (k2.out _ (rdF_below hr0.out B1)).mono ?_
  rintro e w2 ⟨rfl, hb2⟩
  have B2 := below_then B1 S1 hb2
  have S2 := B2.size
  clear K1 B1 S1 hb2 k2 c0 c1 c2 c3 c4 c5 c6
  cases n2 with
  | false =>
    have hR : R = 7 := by rw [HE'.out, if_pos (.inl rfl)]
    subst hR
    clear HE'
    go_wp2
    go_ret
    exact ⟨rfl, B2⟩
  | true =>
    cases d2 with
    | false =>
      have hR : R = 7 := by rw [HE'.out, if_pos (.inr rfl)]
      subst hR
      clear HE'
      go_wp2
      go_ret
      exact ⟨rfl, B2⟩
    | true =>
      have HF := Lib.hid (show R = if nb = false then 8 else db by rw [HE'.out, if_neg (by rintro (h | h) <;> cases h)])
      clear HE'
      go_wp2_with fail
      refine (k3.out _ (fun W h => Tabs.below (T0.out.below B2) h)).mono ?_
      rintro e w3 ⟨rfl, hb3⟩
      have B3 := below_then B2 S2 hb3
      have S3 := B3.size
      clear B2 S2 hb3 k3
      cases nb with
      | false =>
        have hR : R = 8 := HF.out
        subst hR
        clear HF
        go_wp2
        go_ret
        exact ⟨rfl, B3⟩
      | true =>
        have hR : R = db := HF.out
        subst hR
        clear HF
        go_wp2_with fail
        refine (k4.out _ (T0.out.below B3)).mono ?_
        rintro e w4 ⟨rfl, hb4⟩
        go_wp2
        go_ret
        exact ⟨rfl, below_then B3 S3 hb4⟩
end Go.Proofs.YthpfknlgfkecpaaDoor
end
section
/-
  Walk of chapter 3's constant. (Printed by gen_const.py.)
-/
set_option linter.unusedVariables false
set_option linter.unusedSimpArgs false
namespace Go.Proofs.YthpfknlgfkecpaaDoor
open Go.RowKit Go.Lib

namespace Sp
def textS (s : ByteArray) : Int := if (encS s).2 = 0 then (if 2000 < (runes s).length then 2 else 0) else (encS s).2
def namedS (p : List Cn) (tag a : Int) : Int :=
  if (cnameS p a).2 = false then 7 else if tag = 4 ∧ nameS (cnameS p a).1 = false then 8 else if tag = 7 then descS (cnameS p a).1 false else 0
def linkedS (p : List Cn) (tag a b c : Int) : Int := if taggedS p a 4 = false then 7 else linkS p b c (decide (tag = 6))
def constS (p : List Cn) (c : Cn) : Int :=
  if leanS c = false then 7
  else if c.tag = 1 then textS c.text
  else if c.tag = 5 ∨ c.tag = 6 then linkedS p c.tag c.a c.b c.c
  else if c.tag = 3 ∨ c.tag = 4 ∨ c.tag = 7 then namedS p c.tag c.a
  else 0
theorem lean_tag (c : Cn) (h : leanS c = true) : c.tag = 1 ∨ c.tag = 2 ∨ c.tag = 3 ∨ c.tag = 4 ∨ c.tag = 5 ∨ c.tag = 6 ∨ c.tag = 7 := by
  simp only [leanS, Bool.and_eq_true, decide_eq_true_eq] at h
  omega
theorem cname_size (p : List Cn) (hz : ∀ c ∈ p, c.text.size ≤ 1099511627776) (i : Int) : (cnameS p i).1.size ≤ 1099511627776 := by
  unfold cnameS get
  split
  · rename_i c hc
    split at hc
    · split
      · exact hz _ (List.mem_of_getElem? hc)
      · exact Nat.zero_le _
    · cases hc
  · exact Nat.zero_le _
end Sp
def In64 (i : Int) : Prop := -9223372036854775808 ≤ i ∧ i ≤ 9223372036854775807

set_option maxHeartbeats 8000000 in
set_option maxRecDepth 100000 in
theorem constant_any (q : Sp.At) (F : FlP) (c : Sp.Cn) (w : World) (hr : RdF w q F) (ha : In64 c.a) (hb : In64 c.b) (hc : In64 c.c) (hs : c.text.size ≤ 1099511627776)
    (hz : ∀ c ∈ F.pool, c.text.size ≤ 1099511627776) (hT : Tabs w) :
    Calls Tryd.prog 88 #[.agg (flC q F), Sp.cnV c] w fun e w' => e = .returned (.int .i64 (Sp.constS F.pool c)) ∧ Below w.heap.size w w' := by
  have T0 := Lib.hid hT
  clear hT
  have hr0 := Lib.hid hr
  clear hr
  have hsz := Sp.cname_size F.pool hz
  have htag := Sp.lean_tag c
  have k1 := Lib.hid (fun W => lean_any c W)
  have k2 := Lib.hid (fun W hT => encode_any c.text W (by omega) hT)
  have k3 := Lib.hid (fun W => len_any c.text W (by omega))
  have k4 := Lib.hid (fun W hr => tagged_any q F c.a 4 W hr ha)
  have k5 := Lib.hid (fun W hr m hT => link_any q F c.b c.c m W hr hb hc hz hT)
  have k6 := Lib.hid (fun W hr => cname_any q F c.a W hr ha)
  have k7 := Lib.hid (fun W hT => name_any (Sp.cnameS F.pool c.a).1 W (by have := hsz c.a; omega) hT)
  have k8 := Lib.hid (fun W hT => described_any (Sp.cnameS F.pool c.a).1 false W (hsz c.a) hT)
  have HE := Lib.hid (show Sp.constS F.pool c = _ by rw [Sp.constS, Sp.textS, Sp.namedS, Sp.linkedS])
  clear hsz hz ha hb hc hs
  generalize Sp.constS F.pool c = R at HE ⊢
  obtain ⟨t, s, n, a, b, c⟩ := c
  simp only [] at k1 k2 k3 k4 k5 k6 k7 k8 htag
  have HE' := Lib.hid HE.out
  clear HE
  simp only [] at HE'
  generalize Sp.leanS ⟨t, s, n, a, b, c⟩ = L at *
  generalize Sp.encS s = E at *
  generalize Sp.runes s = rn at *
  generalize Sp.taggedS F.pool a 4 = T at *
  generalize Sp.linkS F.pool b c = K at *
  generalize Sp.cnameS F.pool a = N at *
  obtain ⟨es, ee⟩ := E
  obtain ⟨n1, n2⟩ := N
  simp only [] at k2 k6 k7 k8 HE'
  generalize Sp.nameS n1 = nb at *
  generalize Sp.descS n1 false = db at *
  have hB := ((Below.refl w.heap.size w).alloc (Nat.le_refl _) (.cells (flC q F) 53)).alloc (by simp) (.cells #[.int .i64 t, .string s, .int .i64 n, .int .i64 a, .int .i64 b, .int .i64 c] 58)
  have hK := Lib.hid (blk_old (o := .cells #[.int .i64 t, .string s, .int .i64 n, .int .i64 a, .int .i64 b, .int .i64 c] 58) (blk_new w (.cells (flC q F) 53)))
  have hL := Lib.hid (blk_new (w.alloc (.cells (flC q F) 53)) (.cells #[.int .i64 t, .string s, .int .i64 n, .int .i64 a, .int .i64 b, .int .i64 c] 58))
  rw [show (w.alloc (.cells (flC q F) 53)).heap.size = w.heap.size + 1 by simp] at hL
  have hS : w.heap.size ≤ ((w.alloc (.cells (flC q F) 53)).alloc (.cells #[.int .i64 t, .string s, .int .i64 n, .int .i64 a, .int .i64 b, .int .i64 c] 58)).heap.size := hB.size
  unfold flC at k4 k5 k6
  unfold Sp.cnV at k1 ⊢
  simp only [] at k1 ⊢
  have hfl : flC q F = #[.slice q.A F.pool.length q.c, .int .i64 F.flags, .int .i64 F.this, .int .i64 F.super, .slice q.I F.ifaces.length q.d, .slice q.X F.fields.length q.e, .slice q.Y F.methods.length q.g] := rfl
  rw [hfl] at hB hS ⊢
  clear hfl
  go_enter Tryd.func88, Tryd.ntmps88
  go_wp2_with fail
  refine (k1.out _).mono ?_
  rintro e w1 ⟨rfl, hb1⟩
  have K1 := Lib.hid (blk_below hK.out hb1)
  have L1 := Lib.hid (blk_below hL.out hb1)
  have B1 := below_then hB hS hb1
  have S1 := B1.size
  clear hK hL hB hS hb1 k1
  cases L with
  | false =>
    have hR : R = 7 := by rw [HE'.out, if_pos rfl]
    subst hR
    clear HE' htag
    go_wp2
    go_ret
    exact ⟨rfl, B1⟩
  | true =>
    have HF := Lib.hid HE'.out
    rw [if_neg (by decide)] at HF
    clear HE'
    obtain ⟨c0, c1, c2, c3, c4, c5, c6⟩ := flC_box K1.out
    have d0 := (blk_cell L1.out 0 (.int .i64 t) rfl).1
    have d1 := (blk_cell L1.out 1 (.string s) rfl).1
    have d3 := (blk_cell L1.out 3 (.int .i64 a) rfl).1
    have d4 := (blk_cell L1.out 4 (.int .i64 b) rfl).1
    have d5 := (blk_cell L1.out 5 (.int .i64 c) rfl).1
    rcases htag rfl with rfl | rfl | rfl | rfl | rfl | rfl | rfl
    · clear htag
      have HG := Lib.hid (show R = if ee = 0 then (if 2000 < rn.length then 2 else 0) else ee by rw [HF.out, if_pos rfl])
      clear HF
      have HF := HG
      clear HG
      go_wp2_with fail
      refine (k2.out _ (T0.out.below B1)).mono ?_
      rintro e w2 ⟨rfl, hb2⟩
      have B2 := below_then B1 S1 hb2
      have S2 := B2.size
      have K2 := Lib.hid (blk_below K1.out hb2)
      have L2 := Lib.hid (blk_below L1.out hb2)
      clear hb2 B1 S1 K1 L1 c0 c1 c2 c3 c4 c5 c6 d0 d1 d3 d4 d5 k2
      obtain ⟨c0, c1, c2, c3, c4, c5, c6⟩ := flC_box K2.out
      have d0 := (blk_cell L2.out 0 (.int .i64 1) rfl).1
      have d1 := (blk_cell L2.out 1 (.string s) rfl).1
      have d3 := (blk_cell L2.out 3 (.int .i64 a) rfl).1
      have d4 := (blk_cell L2.out 4 (.int .i64 b) rfl).1
      have d5 := (blk_cell L2.out 5 (.int .i64 c) rfl).1
      by_cases he : ee = 0
      · subst he
        go_wp2_with fail
        refine (k3.out _).mono ?_
        rintro e w3 ⟨rfl, hb3⟩
        have B3 := below_then B2 S2 hb3
        have S3 := B3.size
        have K3 := Lib.hid (blk_below K2.out hb3)
        have L3 := Lib.hid (blk_below L2.out hb3)
        clear hb3 B2 S2 K2 L2 c0 c1 c2 c3 c4 c5 c6 d0 d1 d3 d4 d5 k3
        obtain ⟨c0, c1, c2, c3, c4, c5, c6⟩ := flC_box K3.out
        have d0 := (blk_cell L3.out 0 (.int .i64 1) rfl).1
        have d1 := (blk_cell L3.out 1 (.string s) rfl).1
        have d3 := (blk_cell L3.out 3 (.int .i64 a) rfl).1
        have d4 := (blk_cell L3.out 4 (.int .i64 b) rfl).1
        have d5 := (blk_cell L3.out 5 (.int .i64 c) rfl).1
        by_cases h2 : 2000 < rn.length
        · have hz : (2000 : Int) < (rn.length : Int) := by omega
          have hR : R = 2 := by rw [HF.out]; simp [h2]
          subst hR
          clear HF
          go_wp2
          go_ret
          exact ⟨rfl, B3⟩
        · have hz : ¬ (2000 : Int) < (rn.length : Int) := by omega
          have hR : R = 0 := by rw [HF.out]; simp [h2]
          subst hR
          clear HF
          go_wp2
          go_ret
          exact ⟨rfl, B3⟩
      · have heb : (ee == 0) = false := by rw [beq_eq_false_iff_ne]; exact he
        have hR : R = ee := by rw [HF.out, if_neg he]
        subst hR
        clear HF
        go_wp2
        go_ret
        exact ⟨rfl, B2⟩
    · clear htag
      have hR : R = 0 := by rw [HF.out, if_neg (by decide), if_neg (by decide), if_neg (by decide)]
      subst hR
      clear HF
      go_wp2
      go_ret
      exact ⟨rfl, B1⟩
    · clear htag
      have HG := Lib.hid (show R = if n2 = false then 7 else 0 by rw [HF.out, if_neg (by decide), if_neg (by decide), if_pos (by decide)]; cases n2 <;> cases nb <;> rfl)
      clear HF
      have HF := HG
      clear HG
      go_wp2_with fail
      refine (k6.out _ (rdF_below hr0.out B1)).mono ?_
      rintro e w2 ⟨rfl, hb2⟩
      have B2 := below_then B1 S1 hb2
      have S2 := B2.size
      have K2 := Lib.hid (blk_below K1.out hb2)
      have L2 := Lib.hid (blk_below L1.out hb2)
      clear hb2 B1 S1 K1 L1 c0 c1 c2 c3 c4 c5 c6 d0 d1 d3 d4 d5 k6
      obtain ⟨c0, c1, c2, c3, c4, c5, c6⟩ := flC_box K2.out
      have d0 := (blk_cell L2.out 0 (.int .i64 3) rfl).1
      have d1 := (blk_cell L2.out 1 (.string s) rfl).1
      have d3 := (blk_cell L2.out 3 (.int .i64 a) rfl).1
      have d4 := (blk_cell L2.out 4 (.int .i64 b) rfl).1
      have d5 := (blk_cell L2.out 5 (.int .i64 c) rfl).1
      cases n2 with
      | false =>
        have hR : R = 7 := by rw [HF.out, if_pos rfl]
        subst hR
        clear HF
        go_wp2
        go_ret
        exact ⟨rfl, B2⟩
      | true =>
        have hR : R = 0 := by rw [HF.out, if_neg (by decide)]
        subst hR
        clear HF
        go_wp2
        go_ret
        exact ⟨rfl, B2⟩
    · clear htag
      have HG := Lib.hid (show R = if n2 = false then 7 else if nb = false then 8 else 0 by rw [HF.out, if_neg (by decide), if_neg (by decide), if_pos (by decide)]; cases n2 <;> cases nb <;> rfl)
      clear HF
      have HF := HG
      clear HG
      go_wp2_with fail
      refine (k6.out _ (rdF_below hr0.out B1)).mono ?_
      rintro e w2 ⟨rfl, hb2⟩
      have B2 := below_then B1 S1 hb2
      have S2 := B2.size
      have K2 := Lib.hid (blk_below K1.out hb2)
      have L2 := Lib.hid (blk_below L1.out hb2)
      clear hb2 B1 S1 K1 L1 c0 c1 c2 c3 c4 c5 c6 d0 d1 d3 d4 d5 k6
      obtain ⟨c0, c1, c2, c3, c4, c5, c6⟩ := flC_box K2.out
      have d0 := (blk_cell L2.out 0 (.int .i64 4) rfl).1
      have d1 := (blk_cell L2.out 1 (.string s) rfl).1
      have d3 := (blk_cell L2.out 3 (.int .i64 a) rfl).1
      have d4 := (blk_cell L2.out 4 (.int .i64 b) rfl).1
      have d5 := (blk_cell L2.out 5 (.int .i64 c) rfl).1
      cases n2 with
      | false =>
        have hR : R = 7 := by rw [HF.out, if_pos rfl]
        subst hR
        clear HF
        go_wp2
        go_ret
        exact ⟨rfl, B2⟩
      | true =>
        go_wp2_with fail
        refine (k7.out _ (fun W h => Tabs.below (T0.out.below B2) h)).mono ?_
        rintro e w3 ⟨rfl, hb3⟩
        have B3 := below_then B2 S2 hb3
        have S3 := B3.size
        have K3 := Lib.hid (blk_below K2.out hb3)
        have L3 := Lib.hid (blk_below L2.out hb3)
        clear hb3 B2 S2 K2 L2 c0 c1 c2 c3 c4 c5 c6 d0 d1 d3 d4 d5 k7
        obtain ⟨c0, c1, c2, c3, c4, c5, c6⟩ := flC_box K3.out
        have d0 := (blk_cell L3.out 0 (.int .i64 4) rfl).1
        have d1 := (blk_cell L3.out 1 (.string s) rfl).1
        have d3 := (blk_cell L3.out 3 (.int .i64 a) rfl).1
        have d4 := (blk_cell L3.out 4 (.int .i64 b) rfl).1
        have d5 := (blk_cell L3.out 5 (.int .i64 c) rfl).1
        cases nb with
        | false =>
          have hR : R = 8 := by rw [HF.out, if_neg (by decide), if_pos rfl]
          subst hR
          clear HF
          go_wp2
          go_ret
          exact ⟨rfl, B3⟩
        | true =>
          have hR : R = 0 := by rw [HF.out, if_neg (by decide), if_neg (by decide)]
          subst hR
          clear HF
          go_wp2
          go_ret
          exact ⟨rfl, B3⟩
    · clear htag
      have HG := Lib.hid (show R = if T = false then 7 else K false by rw [HF.out, if_neg (by decide), if_pos (by decide)]; rfl)
      clear HF
      have HF := HG
      clear HG
      go_wp2_with fail
      refine (k4.out _ (rdF_below hr0.out B1)).mono ?_
      rintro e w2 ⟨rfl, hb2⟩
      have B2 := below_then B1 S1 hb2
      have S2 := B2.size
      have K2 := Lib.hid (blk_below K1.out hb2)
      have L2 := Lib.hid (blk_below L1.out hb2)
      clear hb2 B1 S1 K1 L1 c0 c1 c2 c3 c4 c5 c6 d0 d1 d3 d4 d5 k4
      obtain ⟨c0, c1, c2, c3, c4, c5, c6⟩ := flC_box K2.out
      have d0 := (blk_cell L2.out 0 (.int .i64 5) rfl).1
      have d1 := (blk_cell L2.out 1 (.string s) rfl).1
      have d3 := (blk_cell L2.out 3 (.int .i64 a) rfl).1
      have d4 := (blk_cell L2.out 4 (.int .i64 b) rfl).1
      have d5 := (blk_cell L2.out 5 (.int .i64 c) rfl).1
      cases T with
      | false =>
        have hR : R = 7 := by rw [HF.out, if_pos rfl]
        subst hR
        clear HF
        go_wp2
        go_ret
        exact ⟨rfl, B2⟩
      | true =>
        have k5n := Lib.hid (fun W hr hT => k5.out W hr false hT)
        clear k5
        go_wp2_with fail
        refine (k5n.out _ (rdF_below hr0.out B2) (T0.out.below B2)).mono ?_
        rintro e w3 ⟨rfl, hb3⟩
        have hR : R = K false := by rw [HF.out, if_neg (by decide)]
        subst hR
        clear HF
        go_wp2
        go_ret
        exact ⟨rfl, below_then B2 S2 hb3⟩
    · clear htag
      have HG := Lib.hid (show R = if T = false then 7 else K true by rw [HF.out, if_neg (by decide), if_pos (by decide)]; rfl)
      clear HF
      have HF := HG
      clear HG
      go_wp2_with fail
      refine (k4.out _ (rdF_below hr0.out B1)).mono ?_
      rintro e w2 ⟨rfl, hb2⟩
      have B2 := below_then B1 S1 hb2
      have S2 := B2.size
      have K2 := Lib.hid (blk_below K1.out hb2)
      have L2 := Lib.hid (blk_below L1.out hb2)
      clear hb2 B1 S1 K1 L1 c0 c1 c2 c3 c4 c5 c6 d0 d1 d3 d4 d5 k4
      obtain ⟨c0, c1, c2, c3, c4, c5, c6⟩ := flC_box K2.out
      have d0 := (blk_cell L2.out 0 (.int .i64 6) rfl).1
      have d1 := (blk_cell L2.out 1 (.string s) rfl).1
      have d3 := (blk_cell L2.out 3 (.int .i64 a) rfl).1
      have d4 := (blk_cell L2.out 4 (.int .i64 b) rfl).1
      have d5 := (blk_cell L2.out 5 (.int .i64 c) rfl).1
      cases T with
      | false =>
        have hR : R = 7 := by rw [HF.out, if_pos rfl]
        subst hR
        clear HF
        go_wp2
        go_ret
        exact ⟨rfl, B2⟩
      | true =>
        have k5n := Lib.hid (fun W hr hT => k5.out W hr true hT)
        clear k5
        go_wp2_with fail
        refine (k5n.out _ (rdF_below hr0.out B2) (T0.out.below B2)).mono ?_
        rintro e w3 ⟨rfl, hb3⟩
        have hR : R = K true := by rw [HF.out, if_neg (by decide)]
        subst hR
        clear HF
        go_wp2
        go_ret
        exact ⟨rfl, below_then B2 S2 hb3⟩
    · clear htag
      have HG := Lib.hid (show R = if n2 = false then 7 else db by rw [HF.out, if_neg (by decide), if_neg (by decide), if_pos (by decide)]; cases n2 <;> cases nb <;> rfl)
      clear HF
      have HF := HG
      clear HG
      go_wp2_with fail
      refine (k6.out _ (rdF_below hr0.out B1)).mono ?_
      rintro e w2 ⟨rfl, hb2⟩
      have B2 := below_then B1 S1 hb2
      have S2 := B2.size
      have K2 := Lib.hid (blk_below K1.out hb2)
      have L2 := Lib.hid (blk_below L1.out hb2)
      clear hb2 B1 S1 K1 L1 c0 c1 c2 c3 c4 c5 c6 d0 d1 d3 d4 d5 k6
      obtain ⟨c0, c1, c2, c3, c4, c5, c6⟩ := flC_box K2.out
      have d0 := (blk_cell L2.out 0 (.int .i64 7) rfl).1
      have d1 := (blk_cell L2.out 1 (.string s) rfl).1
      have d3 := (blk_cell L2.out 3 (.int .i64 a) rfl).1
      have d4 := (blk_cell L2.out 4 (.int .i64 b) rfl).1
      have d5 := (blk_cell L2.out 5 (.int .i64 c) rfl).1
      cases n2 with
      | false =>
        have hR : R = 7 := by rw [HF.out, if_pos rfl]
        subst hR
        clear HF
        go_wp2
        go_ret
        exact ⟨rfl, B2⟩
      | true =>
        go_wp2_with fail
        refine (k8.out _ (T0.out.below B2)).mono ?_
        rintro e w3 ⟨rfl, hb3⟩
        have hR : R = db := by rw [HF.out, if_neg (by decide)]
        subst hR
        clear HF
        go_wp2
        go_ret
        exact ⟨rfl, below_then B2 S2 hb3⟩
end Go.Proofs.YthpfknlgfkecpaaDoor
end
section
/-
  Walk of chapter 2's Sign.
-/
set_option linter.unusedVariables false
set_option linter.unusedSimpArgs false
namespace Go.Proofs.YthpfknlgfkecpaaDoor
open Go.RowKit Go.Lib

theorem blk_under {w w' : World} {Bn b : Nat} {p : Obj} (h : Below Bn w w') (hlt : b < Bn) (hp : w.heap[b]? = some p) : w'.heap[b]? = some p := (h.block b hlt).trans hp
theorem rdT_under {w w1 : World} {A : Option Addr} {l : List Sp.Ty} (h : RdT w A l) (hb : Below w.heap.size w w1) : RdT w1 A l := rdT_below h hb

set_option maxHeartbeats 8000000 in
set_option maxRecDepth 100000 in
theorem sign_any (A : Option Addr) (c : Nat) (l : List Sp.Ty) (d : Int) (n : ByteArray) (vd : Bool) (w : World) (hrd : RdT w A l) (hl : l.length ≤ 1099511627776) (hs : Sp.namesZ l + n.size ≤ 1099511627776) (hT : Tabs w) :
    Calls Tryd.prog 29 #[.agg #[.slice A l.length c, .int .i64 d, .string n, .bool vd]] w fun e w' => e = .returned (.tuple #[.string (Sp.signS (l, (d, n), vd)).1, .int .i64 (Sp.signS (l, (d, n), vd)).2]) ∧ Below w.heap.size w w' := by
  have T0 := Lib.hid hT
  clear hT
  have HE := Lib.hid (show Sp.signS (l, (d, n), vd) = _ by rw [Sp.signS])
  generalize Sp.signS (l, (d, n), vd) = R at HE ⊢
  have HC := Lib.hid hrd.2
  have hl63 := hrd.1
  clear hrd
  go_enter Tryd.func29, Tryd.ntmps29
  have hm := Lib.hid (blk_new w (.cells #[.slice A l.length c, .int .i64 d, .string n, .bool vd] 37))
  have hbm := (Below.refl w.heap.size w).alloc (Nat.le_refl _) (.cells #[.slice A l.length c, .int .i64 d, .string n, .bool vd] 37)
  have hfb := Lib.IsBuilderF.of (Lib.fresh_isBuilder 86 5 (w.alloc (.cells #[.slice A l.length c, .int .i64 d, .string n, .bool vd] 37)))
  have hsz : (w.alloc (.cells #[.slice A l.length c, .int .i64 d, .string n, .bool vd] 37)).heap.size = w.heap.size + 1 := by simp
  rw [hsz] at hfb
  go_wp2_with fail
  refine (writeString_k (w.heap.size + 1) (w.heap.size + 1) [] ⟨#[40]⟩ _ hfb (by show 0 + 1 ≤ _; omega) (by simp)).mono ?_
  rintro e w1 ⟨rfl, hB1, hb1, _⟩
  have hM1 := Lib.hid (blk_under hb1 (Nat.lt_succ_self _) (blk_old hm.out))
  have hbw1 : Below w.heap.size w w1 := ((hbm.alloc (by simp) _).trans (hb1.mono (by omega)))
  have hI1 : Lib.IsBuilderF 86 5 (w.heap.size + 1) (w.heap.size + 1) (Lib.byteCells [40]) w1 := .inr hB1
  clear hB1 hb1 hfb hbm hm
  obtain ⟨⟨c0, c1, c2, c3⟩, f0, f1, f2, f3⟩ := blk4 hM1.out
  go_wp2
  clear c0 c1 c2 c3 f0 f1 f2 f3
  go_loopw [15] (fun v15 wr => ∃ (k : Nat) (acc : List UInt8), v15 = .int .i64 k ∧ k ≤ l.length ∧ Lib.IsBuilderF 86 5 (w.heap.size + 1) (w.heap.size + 1) (Lib.byteCells acc) wr ∧ Below w.heap.size w wr ∧ Hid (wr.heap[w.heap.size]? = some (.cells #[.slice A l.length c, .int .i64 d, .string n, .bool vd] 37 (0, 0))) ∧ Hid (acc ++ Sp.argsB (l.drop k) = 40 :: Sp.argsB l) ∧ Hid (Sp.allR (l.drop k) = Sp.allR l) ∧ acc.length + Sp.namesZ (l.drop k) + 6 * (l.drop k).length ≤ Sp.namesZ l + 6 * l.length + 1) (fun v15 _ => l.length - (RowKit.intOf v15).toNat)
  case atStart => exact ⟨0, [40], by go_num, Nat.zero_le _, hI1, hbw1, hM1, Lib.hid rfl, Lib.hid rfl, by simp; omega⟩
  case round =>
    clear hI1 hbw1 hM1
    obtain ⟨k, acc, rfl, hk, hI, hb, hM, hacc, hall, hlen⟩ := hrel
    by_cases hlt : k < l.length
    · obtain ⟨b, o, rfl, hr⟩ := HC.out (by omega)
      obtain ⟨e0, e1⟩ := rdT_get2 hr hlt
      have E0 := cell_below hb e0
      have E1 := cell_below hb e1
      have hnz := Sp.namesZ_get l _ (List.getElem_mem hlt)
      have hd : l.drop k = l[k] :: l.drop (k + 1) := List.drop_eq_getElem_cons hlt
      have hacc2 := hacc.out
      have hall2 := hall.out
      rw [hd] at hacc2 hall2 hlen
      have hzk : (k : Int) < (l.length : Int) := by omega
      have hzl : (l.length : Int) ≤ 9223372036854775807 := by omega
      clear hacc hall hd e0 e1 hr
      generalize l[k] = t at *
      obtain ⟨td, tn⟩ := t
      simp only [] at E0 E1 hnz
      have hacc := Lib.hid hacc2
      have hall := Lib.hid hall2
      clear hacc2 hall2
      have k1 := Lib.hid (fun W hT => write_any td tn W (by omega) hT)
      unfold Sp.tyV at k1
      have hbz := hb.size
      go_wp2_with fail
      refine (k1.out _ (T0.out.below (hb.alloc hbz _))).mono ?_
      rintro e w2 ⟨rfl, hb2⟩
      clear k1
      have hI2 := isBuilderF_below (hI.alloc (.cells #[.int .i64 td, .string tn] 23)) hb2
      have hM2 := Lib.hid (blk_below (blk_old (o := .cells #[.int .i64 td, .string tn] 23) hM.out) hb2)
      have hb' := below_then (hb.alloc hbz (.cells #[.int .i64 td, .string tn] 23)) (by simp; omega) hb2
      have hlt2 := blk_lt hM2.out
      clear hI hM hb hb2 E0 E1
      cases hq : Sp.rightS (td, tn) with
      | false =>
        rw [Sp.writeS_none _ hq]
        have hR : R = (⟨#[]⟩, 9) := by
          rw [HE.out, if_pos]
          rw [← hall.out, Sp.allR, List.all_cons, hq]
          rfl
        subst hR
        clear HE hacc hall hq
        go_wp2
        go_ret2
        exact ⟨rfl, hb'⟩
      | true =>
        rw [Sp.writeS_some _ hq]
        have htl := Sp.typeB_length _ hq
        have hall' := Lib.hid (show Sp.allR (l.drop (k + 1)) = Sp.allR l by rw [← hall.out]; simp [Sp.allR, hq])
        have hacc' := Lib.hid (show (acc ++ Sp.typeB (td, tn)) ++ Sp.argsB (l.drop (k + 1)) = 40 :: Sp.argsB l by rw [← hacc.out, Sp.argsB, List.append_assoc])
        simp only [Sp.namesZ, List.length_cons, List.length_drop] at hlen
        clear hacc hall hq
        generalize Sp.typeB (td, tn) = tb at *
        have htz : (Sp.B tb).size = tb.length := Sp.B_size tb
        have hbz2 : (Lib.byteCells acc).length = acc.length := Lib.byteCells_length acc
        go_wp2_with fail
        refine (writeString_k (w.heap.size + 1) (w.heap.size + 1) (Lib.byteCells acc) (Sp.B tb) w2 hI2 (by omega) (by omega)).mono ?_
        rintro e w3 ⟨rfl, hB3, hb3, _⟩
        have hM3 := Lib.hid (blk_under hb3 (Nat.lt_succ_self _) hM2.out)
        have hI3 : Lib.IsBuilderF 86 5 (w.heap.size + 1) (w.heap.size + 1) (Lib.byteCells (acc ++ tb)) w3 := by rw [Lib.byteCells_append]; exact .inr hB3
        have hb3' := hb'.trans (hb3.mono (by omega))
        clear hB3 hb3 hb' hM2 hI2
        go_wp2
        go_roundw
        case rel => exact ⟨k + 1, acc ++ tb, by go_num, by omega, hI3, hb3', hM3, hacc', hall', by simp only [List.length_append, List.length_drop]; omega⟩
        case measure => simp [RowKit.intOf]; omega
    · obtain rfl : k = l.length := by omega
      have hzk : ¬ (l.length : Int) < (l.length : Int) := by omega
      have hall2 : Sp.allR l = true := by rw [← hall.out]; simp [Sp.allR]
      have hacc2 : acc = 40 :: Sp.argsB l := by rw [← hacc.out]; simp [Sp.argsB]
      subst hacc2
      have HE2 := HE.out
      rw [if_neg (by rw [hall2]; decide)] at HE2
      have hbz := hb.size
      have hlt2 := blk_lt hM.out
      have k2 := Lib.hid (fun W hT => write_any d n W (by omega) hT)
      unfold Sp.tyV at k2
      clear HE hall hacc hall2
      obtain ⟨⟨c0, c1, c2, c3⟩, f0, f1, f2, f3⟩ := blk4 hM.out
      have hla : (Sp.argsB l).length ≤ 8 * 1099511627776 := by simp at hlen; omega
      generalize Sp.argsB l = al at *
      go_wp2_with fail
      refine (k2.out _ (T0.out.below hb)).mono ?_
      rintro e w2 ⟨rfl, hb2⟩
      clear k2
      have hI2 := isBuilderF_below hI hb2
      have hM2 := Lib.hid (blk_below hM.out hb2)
      have hb' := below_then hb hbz hb2
      have hbs := hb2.size
      clear hI hM hb hb2 c0 c1 c2 c3 f0 f1 f2 f3
      obtain ⟨⟨c0, c1, c2, c3⟩, f0, f1, f2, f3⟩ := blk4 hM2.out
      cases hq : Sp.rightS (d, n) with
      | false =>
        rw [Sp.writeS_none _ hq]
        have hR : R = (⟨#[]⟩, 9) := by rw [HE2, if_pos (.inl hq)]
        subst hR
        clear HE2 hq
        go_wp2
        go_ret2
        exact ⟨rfl, hb'⟩
      | true =>
        rw [Sp.writeS_some _ hq]
        have htl := Sp.typeB_length _ hq
        have hdm := Sp.rightS_dims _ hq
        simp only [] at HE2 htl hdm
        rw [hq] at HE2
        clear hq
        generalize htb : Sp.typeB (d, n) = tb at *
        have HE3 := Lib.hid HE2
        clear HE2
        have hh16 : 16 < l.length ∨ ¬ 16 < l.length := by omega
        cases vd with
        | true =>
          by_cases hz : d = 0 ∧ n.size = 0
          · obtain ⟨hz1, hz2⟩ := hz
            obtain rfl := str_empty n hz2
            subst hz1
            have HE4 := Lib.hid (show R = if 16 < l.length then (⟨#[]⟩, 3) else (Sp.B (40 :: al ++ 41 :: [86]), 0) by rw [HE3.out, if_neg (by rintro (h | ⟨_, h⟩); exact absurd h (by decide); exact h rfl)]; rfl)
            clear HE3
            rcases hh16 with h16 | h16
            · have hR : R = (⟨#[]⟩, 3) := by rw [HE4.out, if_pos h16]
              have hz : (16 : Int) < (l.length : Int) := by omega
              subst hR
              clear HE4
              go_wp2
              go_ret2
              exact ⟨rfl, hb'⟩
            · have hR : R = (Sp.B (40 :: al ++ 41 :: [86]), 0) := by rw [HE4.out, if_neg h16]
              have hz : ¬ (16 : Int) < (l.length : Int) := by omega
              subst hR
              clear HE4
              go_wp2_with (go_at_call 55; refine (Tryd.Builder_String_any_k (w.heap.size + 1) (w.heap.size + 1) (40 :: al) _ hI2 (by omega)).mono ?_)
              rintro e w3 ⟨rfl, _, hb3, _⟩
              go_wp2
              go_ret2
              exact ⟨congrArg (fun x => Ending.returned (.tuple #[.string x, .int .i64 0])) (cat_T al _), hb'.trans (hb3.mono (by omega))⟩
          · have hR : R = (⟨#[]⟩, 9) := by
              rw [HE3.out, if_pos]
              refine .inr ⟨rfl, fun h => hz ?_⟩
              injection h with h1 h2
              exact ⟨h1, by rw [h2]; rfl⟩
            subst hR
            clear HE3
            by_cases h0 : d = 0
            · have hn0 : ¬ n.size = 0 := fun h => hz ⟨h0, h⟩
              have hne : (n.toList == []) = false := by
                rw [Bool.eq_false_iff]
                intro q
                have := (bytes_beq_iff n ⟨#[]⟩).1 (by simpa using q)
                rw [this] at hn0
                exact hn0 rfl
              subst h0
              go_wp2
              go_ret2
              exact ⟨rfl, hb'⟩
            · have hnb : (d == 0) = false := by rw [beq_eq_false_iff_ne]; exact h0
              go_wp2
              go_ret2
              exact ⟨rfl, hb'⟩
        | false =>
          have HE4 := Lib.hid (show R = if 16 < l.length then (⟨#[]⟩, 3) else (Sp.B (40 :: al ++ 41 :: tb), 0) by rw [HE3.out, if_neg (by rintro (h | ⟨h, _⟩) <;> exact absurd h (by decide))]; simp [htb])
          clear HE3
          rcases hh16 with h16 | h16
          · have hR : R = (⟨#[]⟩, 3) := by rw [HE4.out, if_pos h16]
            have hz : (16 : Int) < (l.length : Int) := by omega
            subst hR
            clear HE4
            go_wp2
            go_ret2
            exact ⟨rfl, hb'⟩
          · have hR : R = (Sp.B (40 :: al ++ 41 :: tb), 0) := by rw [HE4.out, if_neg h16]
            have hz : ¬ (16 : Int) < (l.length : Int) := by omega
            have htz : (Sp.B tb).size = tb.length := Sp.B_size tb
            subst hR
            clear HE4
            go_wp2_with (go_at_call 55; refine (Tryd.Builder_String_any_k (w.heap.size + 1) (w.heap.size + 1) (40 :: al) _ hI2 (by omega)).mono ?_)
            rintro e w3 ⟨rfl, _, hb3, _⟩
            go_wp2
            go_ret2
            exact ⟨congrArg (fun x => Ending.returned (.tuple #[.string x, .int .i64 0])) (cat_T al _), hb'.trans (hb3.mono (by omega))⟩
end Go.Proofs.YthpfknlgfkecpaaDoor
end
section
/-
  Walk of the reference's Sign.
-/
set_option linter.unusedVariables false
set_option linter.unusedSimpArgs false
namespace Go.Proofs.YthpfknlgfkecpaaDoor
open Go.RowKit Go.Lib

set_option maxHeartbeats 8000000 in
set_option maxRecDepth 100000 in
theorem refSign_any (A : Option Addr) (c : Nat) (l : List Sp.Ty) (d : Int) (n : ByteArray) (vd : Bool) (w : World) (hrd : RdT w A l) (hl : l.length ≤ 1099511627776) (hs : Sp.namesZ l + n.size ≤ 1099511627776) :
    Calls Tryd.prog 30 #[.agg #[.slice A l.length c, .int .i64 d, .string n, .bool vd]] w fun e w' => e = .returned (.tuple #[.string (Sp.signS (l, (d, n), vd)).1, .int .i64 (Sp.signS (l, (d, n), vd)).2]) ∧ Below w.heap.size w w' := by
  have HE := Lib.hid (show Sp.signS (l, (d, n), vd) = _ by rw [Sp.signS])
  generalize Sp.signS (l, (d, n), vd) = R at HE ⊢
  have HC := Lib.hid hrd.2
  have hl63 := hrd.1
  clear hrd
  go_enter Tryd.func30, Tryd.ntmps30
  have hm := Lib.hid (blk_new w (.cells #[.slice A l.length c, .int .i64 d, .string n, .bool vd] 40))
  have hbm := (Below.refl w.heap.size w).alloc (Nat.le_refl _) (.cells #[.slice A l.length c, .int .i64 d, .string n, .bool vd] 40)
  go_wp2
  go_loopw [4, 5] (fun v4 v5 wr => ∃ (k : Nat) (acc : List UInt8), v4 = .string (Sp.B acc) ∧ v5 = .int .i64 k ∧ k ≤ l.length ∧ Below w.heap.size w wr ∧ Hid (wr.heap[w.heap.size]? = some (.cells #[.slice A l.length c, .int .i64 d, .string n, .bool vd] 40 (0, 0))) ∧ Hid (acc ++ Sp.argsB (l.drop k) = 40 :: Sp.argsB l) ∧ Hid (Sp.allR (l.drop k) = Sp.allR l) ∧ acc.length + Sp.namesZ (l.drop k) + 6 * (l.drop k).length ≤ Sp.namesZ l + 6 * l.length + 1) (fun _ v5 _ => l.length - (RowKit.intOf v5).toNat)
  case atStart => exact ⟨0, [40], rfl, by go_num, Nat.zero_le _, hbm, hm, Lib.hid rfl, Lib.hid rfl, by simp; omega⟩
  case round =>
    clear hbm hm
    obtain ⟨k, acc, rfl, rfl, hk, hb, hM, hacc, hall, hlen⟩ := hrel
    obtain ⟨⟨c0, c1, c2, c3⟩, f0, f1, f2, f3⟩ := blk4 hM.out
    by_cases hlt : k < l.length
    · obtain ⟨b, o, rfl, hr⟩ := HC.out (by omega)
      obtain ⟨e0, e1⟩ := rdT_get2 hr hlt
      have E0 := cell_below hb e0
      have E1 := cell_below hb e1
      have hnz := Sp.namesZ_get l _ (List.getElem_mem hlt)
      have hd : l.drop k = l[k] :: l.drop (k + 1) := List.drop_eq_getElem_cons hlt
      have hacc2 := hacc.out
      have hall2 := hall.out
      rw [hd] at hacc2 hall2 hlen
      have hzk : (k : Int) < (l.length : Int) := by omega
      have hzl : (l.length : Int) ≤ 9223372036854775807 := by omega
      clear hacc hall hd e0 e1 hr
      generalize l[k] = t at *
      obtain ⟨td, tn⟩ := t
      simp only [] at E0 E1 hnz
      have hacc := Lib.hid hacc2
      have hall := Lib.hid hall2
      clear hacc2 hall2
      have k1 := Lib.hid (fun W => refWrite_any td tn W (by omega))
      unfold Sp.tyV at k1
      have hbz := hb.size
      go_wp2_with fail
      refine (k1.out _).mono ?_
      rintro e w2 ⟨rfl, hb2⟩
      clear k1
      have hM2 := Lib.hid (blk_below hM.out hb2)
      have hb' := below_then hb hbz hb2
      have hlt2 := blk_lt hM2.out
      clear hM hb hb2 E0 E1 c0 c1 c2 c3 f0 f1 f2 f3
      cases hq : Sp.rightS (td, tn) with
      | false =>
        rw [Sp.writeS_none _ hq]
        have hR : R = (⟨#[]⟩, 9) := by
          rw [HE.out, if_pos]
          rw [← hall.out, Sp.allR, List.all_cons, hq]
          rfl
        subst hR
        clear HE hacc hall hq
        go_wp2
        go_ret2
        exact ⟨rfl, hb'⟩
      | true =>
        rw [Sp.writeS_some _ hq]
        have htl := Sp.typeB_length _ hq
        have hall' := Lib.hid (show Sp.allR (l.drop (k + 1)) = Sp.allR l by rw [← hall.out]; simp [Sp.allR, hq])
        have hacc' := Lib.hid (show (acc ++ Sp.typeB (td, tn)) ++ Sp.argsB (l.drop (k + 1)) = 40 :: Sp.argsB l by rw [← hacc.out, Sp.argsB, List.append_assoc])
        simp only [Sp.namesZ, List.length_cons, List.length_drop] at hlen
        clear hacc hall hq
        generalize Sp.typeB (td, tn) = tb at *
        have htz : (Sp.B tb).size = tb.length := Sp.B_size tb
        have haz : (Sp.B acc).size = acc.length := Sp.B_size acc
        have hcat : Sp.B acc ++ Sp.B tb = Sp.B (acc ++ tb) := Sp.B_append acc tb
        go_wp2
        go_roundw
        case rel => exact ⟨k + 1, acc ++ tb, by first | rfl | rw [hcat], by go_num, by omega, hb', hM2, hacc', hall', by simp only [List.length_append, List.length_drop]; omega⟩
        case measure => simp [RowKit.intOf]; omega
    · obtain rfl : k = l.length := by omega
      have hzk : ¬ (l.length : Int) < (l.length : Int) := by omega
      have hall2 : Sp.allR l = true := by rw [← hall.out]; simp [Sp.allR]
      have hacc2 : acc = 40 :: Sp.argsB l := by rw [← hacc.out]; simp [Sp.argsB]
      subst hacc2
      have HE2 := HE.out
      rw [if_neg (by rw [hall2]; decide)] at HE2
      have hbz := hb.size
      have hlt2 := blk_lt hM.out
      have k2 := Lib.hid (fun W => refWrite_any d n W (by omega))
      unfold Sp.tyV at k2
      clear HE hall hacc hall2
      have hla : (Sp.argsB l).length ≤ 8 * 1099511627776 := by simp at hlen; omega
      generalize Sp.argsB l = al at *
      have haz : (Sp.B (40 :: al)).size = al.length + 1 := by rw [Sp.B_size]; rfl
      go_wp2_with fail
      refine (k2.out _).mono ?_
      rintro e w2 ⟨rfl, hb2⟩
      clear k2
      have hM2 := Lib.hid (blk_below hM.out hb2)
      have hb' := below_then hb hbz hb2
      have hbs := hb2.size
      clear hM hb hb2 c0 c1 c2 c3 f0 f1 f2 f3
      obtain ⟨⟨c0, c1, c2, c3⟩, f0, f1, f2, f3⟩ := blk4 hM2.out
      cases hq : Sp.rightS (d, n) with
      | false =>
        rw [Sp.writeS_none _ hq]
        have hR : R = (⟨#[]⟩, 9) := by rw [HE2, if_pos (.inl hq)]
        subst hR
        clear HE2 hq
        go_wp2
        go_ret2
        exact ⟨rfl, hb'⟩
      | true =>
        rw [Sp.writeS_some _ hq]
        have htl := Sp.typeB_length _ hq
        have hdm := Sp.rightS_dims _ hq
        simp only [] at HE2 htl hdm
        rw [hq] at HE2
        clear hq
        generalize htb : Sp.typeB (d, n) = tb at *
        have HE3 := Lib.hid HE2
        clear HE2
        have hh16 : 16 < l.length ∨ ¬ 16 < l.length := by omega
        cases vd with
        | true =>
          by_cases hz : d = 0 ∧ n.size = 0
          · obtain ⟨hz1, hz2⟩ := hz
            obtain rfl := str_empty n hz2
            subst hz1
            have HE4 := Lib.hid (show R = if 16 < l.length then (⟨#[]⟩, 3) else (Sp.B (40 :: al ++ 41 :: [86]), 0) by rw [HE3.out, if_neg (by rintro (h | ⟨_, h⟩); exact absurd h (by decide); exact h rfl)]; rfl)
            clear HE3
            rcases hh16 with h16 | h16
            · have hR : R = (⟨#[]⟩, 3) := by rw [HE4.out, if_pos h16]
              have hz : (16 : Int) < (l.length : Int) := by omega
              subst hR
              clear HE4
              go_wp2
              go_ret2
              exact ⟨rfl, hb'⟩
            · have hR : R = (Sp.B (40 :: al ++ 41 :: [86]), 0) := by rw [HE4.out, if_neg h16]
              have hz : ¬ (16 : Int) < (l.length : Int) := by omega
              subst hR
              clear HE4
              go_wp2
              go_ret2
              exact ⟨congrArg (fun x => Ending.returned (.tuple #[.string x, .int .i64 0])) (show Sp.B (40 :: al) ++ Sp.B [41, 86] = Sp.B (40 :: al ++ 41 :: [86]) from Sp.B_append _ _), hb'⟩
          · have hR : R = (⟨#[]⟩, 9) := by
              rw [HE3.out, if_pos]
              refine .inr ⟨rfl, fun h => hz ?_⟩
              injection h with h1 h2
              exact ⟨h1, by rw [h2]; rfl⟩
            subst hR
            clear HE3
            by_cases h0 : d = 0
            · have hn0 : ¬ n.size = 0 := fun h => hz ⟨h0, h⟩
              have hne : (n.toList == []) = false := by
                rw [Bool.eq_false_iff]
                intro q
                have := (bytes_beq_iff n ⟨#[]⟩).1 (by simpa using q)
                rw [this] at hn0
                exact hn0 rfl
              subst h0
              go_wp2
              go_ret2
              exact ⟨rfl, hb'⟩
            · have hnb : (d == 0) = false := by rw [beq_eq_false_iff_ne]; exact h0
              go_wp2
              go_ret2
              exact ⟨rfl, hb'⟩
        | false =>
          have HE4 := Lib.hid (show R = if 16 < l.length then (⟨#[]⟩, 3) else (Sp.B (40 :: al ++ 41 :: tb), 0) by rw [HE3.out, if_neg (by rintro (h | ⟨h, _⟩) <;> exact absurd h (by decide))]; simp [htb])
          clear HE3
          rcases hh16 with h16 | h16
          · have hR : R = (⟨#[]⟩, 3) := by rw [HE4.out, if_pos h16]
            have hz : (16 : Int) < (l.length : Int) := by omega
            subst hR
            clear HE4
            go_wp2
            go_ret2
            exact ⟨rfl, hb'⟩
          · have hR : R = (Sp.B (40 :: al ++ 41 :: tb), 0) := by rw [HE4.out, if_neg h16]
            have hz : ¬ (16 : Int) < (l.length : Int) := by omega
            have htz : (Sp.B tb).size = tb.length := Sp.B_size tb
            subst hR
            clear HE4
            go_wp2
            go_ret2
            exact ⟨congrArg (fun x => Ending.returned (.tuple #[.string x, .int .i64 0])) (cat_T al _), hb'⟩
end Go.Proofs.YthpfknlgfkecpaaDoor
end
section
/-
  Walks of the reference's Tagged, text, bare, described; of chapter 3's interface_.
-/
set_option linter.unusedVariables false
set_option linter.unusedSimpArgs false
namespace Go.Proofs.YthpfknlgfkecpaaDoor
open Go.RowKit Go.Lib

set_option maxHeartbeats 4000000 in
set_option maxRecDepth 100000 in
theorem refTagged_any (q : Sp.At) (F : FlP) (i tag : Int) (w : World) (hr : RdF w q F) (hi : -9223372036854775808 ≤ i ∧ i ≤ 9223372036854775807) :
    Calls Tryd.prog 64 #[.agg (flC q F), .int .i64 i, .int .i64 tag] w fun e w' => e = .returned (.bool (Sp.taggedS F.pool i tag)) ∧ Below w.heap.size w w' := by
  have hl := hr.pool.1
  have HP := Lib.hid hr.pool.2
  clear hr
  have HE := Lib.hid (show Sp.taggedS F.pool i tag = _ by rw [Sp.taggedS])
  generalize Sp.taggedS F.pool i tag = R at HE ⊢
  unfold flC
  rcases Sp.get_cases F.pool i with ⟨h1, h2⟩ | ⟨h1, h2, h3⟩ | ⟨k, hk, rfl, h3⟩
  · have hR : R = false := by rw [HE.out, h2]
    subst hR
    clear HE h2
    go_enter Tryd.func64, Tryd.ntmps64
    go_wp2
    go_ret
    exact ⟨by simp, by (repeat (first | with_reducible assumption | with_reducible exact Below.refl _ _ | (with_reducible refine Below.setCell ?_ (by first | exact Nat.le_refl _ | omega | (simp; done) | (simp; omega)) _) | (with_reducible refine Below.alloc ?_ (by first | exact Nat.le_refl _ | omega | (simp; done) | (simp; omega)) _) | (with_reducible refine Below.drew ?_)))⟩
  · have hR : R = false := by rw [HE.out, h3]
    subst hR
    have h4 : ¬ i ≤ (F.pool.length : Int) := by omega
    clear HE h3
    go_enter Tryd.func64, Tryd.ntmps64
    go_wp2
    go_ret
    exact ⟨by simp, by (repeat (first | with_reducible assumption | with_reducible exact Below.refl _ _ | (with_reducible refine Below.setCell ?_ (by first | exact Nat.le_refl _ | omega | (simp; done) | (simp; omega)) _) | (with_reducible refine Below.alloc ?_ (by first | exact Nat.le_refl _ | omega | (simp; done) | (simp; omega)) _) | (with_reducible refine Below.drew ?_)))⟩
  · obtain ⟨b, o, hA, hrg⟩ := HP.out (by omega)
    obtain ⟨c0, c1, c2, c3, c4, c5⟩ := cn_cells hrg hk
    have hb := World.block_lt_of_cell? _ _ c0
    have hR : R = decide (F.pool[k].tag = tag) := by rw [HE.out, h3]
    have h1 : (1 : Int) ≤ (k : Int) + 1 := by omega
    have h2 : (k : Int) + 1 ≤ (F.pool.length : Int) := by omega
    have h5 : (k : Int) < (F.pool.length : Int) := by omega
    have h6 : (k : Int) + 1 - 1 = (k : Int) := by omega
    subst hR
    clear HE h3 hrg c1 c2 c3 c4 c5
    rw [hA]
    generalize F.pool[k].tag = t at *
    go_enter Tryd.func64, Tryd.ntmps64
    go_wp2
    go_ret
    have hbe : (t == tag) = decide (t = tag) := by rw [Bool.eq_iff_iff]; simp
    exact ⟨by simp [hbe], by (repeat (first | with_reducible assumption | with_reducible exact Below.refl _ _ | (with_reducible refine Below.setCell ?_ (by first | exact Nat.le_refl _ | omega | (simp; done) | (simp; omega)) _) | (with_reducible refine Below.alloc ?_ (by first | exact Nat.le_refl _ | omega | (simp; done) | (simp; omega)) _) | (with_reducible refine Below.drew ?_)))⟩

set_option maxHeartbeats 4000000 in
set_option maxRecDepth 100000 in
theorem refBare_any (m : Sp.Mp) (w : World) (hl : m.1.hs.length ≤ 9223372036854775807) :
    Calls Tryd.prog 126 #[Sp.mbV m] w fun e w' => e = .returned (.bool (decide (m.1.stack = 0) && decide (m.1.locals = 0) && decide (m.1.code.size = 0) && decide (m.1.hs.length = 0))) ∧ Below w.heap.size w w' := by
  obtain ⟨⟨fl, nm, ds, st, lc, cd, hs⟩, A, c⟩ := m
  unfold Sp.mbV
  simp only [] at hl ⊢
  by_cases h1 : st = 0
  · by_cases h2 : lc = 0
    · by_cases h3 : cd.size = 0
      · obtain rfl := str_empty cd h3
        subst h1 h2
        by_cases h4 : hs.length = 0
        · have h4b : (hs.length : Int) = 0 := by omega
          go_enter Tryd.func126, Tryd.ntmps126
          go_wp2
          go_ret
          exact ⟨by first | (simp [h4]; done) | (simp [h4]; rfl), by (repeat (first | with_reducible assumption | with_reducible exact Below.refl _ _ | (with_reducible refine Below.setCell ?_ (by first | exact Nat.le_refl _ | omega | (simp; done) | (simp; omega)) _) | (with_reducible refine Below.alloc ?_ (by first | exact Nat.le_refl _ | omega | (simp; done) | (simp; omega)) _) | (with_reducible refine Below.drew ?_)))⟩
        · have h4b : ((hs.length : Int) == 0) = false := by rw [beq_eq_false_iff_ne]; omega
          go_enter Tryd.func126, Tryd.ntmps126
          go_wp2
          go_ret
          exact ⟨by first | (simp [h4]; done) | (simp [h4]; rfl), by (repeat (first | with_reducible assumption | with_reducible exact Below.refl _ _ | (with_reducible refine Below.setCell ?_ (by first | exact Nat.le_refl _ | omega | (simp; done) | (simp; omega)) _) | (with_reducible refine Below.alloc ?_ (by first | exact Nat.le_refl _ | omega | (simp; done) | (simp; omega)) _) | (with_reducible refine Below.drew ?_)))⟩
      · have hne : (cd.toList == []) = false := by
          rw [Bool.eq_false_iff]
          intro r
          have := (bytes_beq_iff cd ⟨#[]⟩).1 (by simpa using r)
          rw [this] at h3
          exact h3 rfl
        subst h1 h2
        go_enter Tryd.func126, Tryd.ntmps126
        go_wp2
        go_ret
        exact ⟨by first | (simp [h3]; done) | (simp [h3]; rfl), by (repeat (first | with_reducible assumption | with_reducible exact Below.refl _ _ | (with_reducible refine Below.setCell ?_ (by first | exact Nat.le_refl _ | omega | (simp; done) | (simp; omega)) _) | (with_reducible refine Below.alloc ?_ (by first | exact Nat.le_refl _ | omega | (simp; done) | (simp; omega)) _) | (with_reducible refine Below.drew ?_)))⟩
    · have hb : (lc == 0) = false := by rw [beq_eq_false_iff_ne]; exact h2
      subst h1
      go_enter Tryd.func126, Tryd.ntmps126
      go_wp2
      go_ret
      exact ⟨by simp [h2], by (repeat (first | with_reducible assumption | with_reducible exact Below.refl _ _ | (with_reducible refine Below.setCell ?_ (by first | exact Nat.le_refl _ | omega | (simp; done) | (simp; omega)) _) | (with_reducible refine Below.alloc ?_ (by first | exact Nat.le_refl _ | omega | (simp; done) | (simp; omega)) _) | (with_reducible refine Below.drew ?_)))⟩
  · have hb : (st == 0) = false := by rw [beq_eq_false_iff_ne]; exact h1
    go_enter Tryd.func126, Tryd.ntmps126
    go_wp2
    go_ret
    exact ⟨by simp [h1], by (repeat (first | with_reducible assumption | with_reducible exact Below.refl _ _ | (with_reducible refine Below.setCell ?_ (by first | exact Nat.le_refl _ | omega | (simp; done) | (simp; omega)) _) | (with_reducible refine Below.alloc ?_ (by first | exact Nat.le_refl _ | omega | (simp; done) | (simp; omega)) _) | (with_reducible refine Below.drew ?_)))⟩

set_option maxHeartbeats 4000000 in
set_option maxRecDepth 100000 in
theorem refDescribed_any (s : ByteArray) (m : Bool) (w : World) (hs : s.size ≤ 1099511627776) :
    Calls Tryd.prog 124 #[.string s, .bool m] w fun e w' => e = .returned (.int .i64 (Sp.descS s m)) ∧ Below w.heap.size w w' := by
  have k1 := Lib.hid (fun W => refMethod_any s W hs)
  have k2 := Lib.hid (fun W => refField_any s W hs)
  have HE := Lib.hid (show Sp.descS s m = _ by rw [Sp.descS])
  generalize Sp.descS s m = R at HE ⊢
  generalize Sp.methodS s = M at *
  generalize Sp.fieldS s = F at *
  obtain ⟨⟨ml, ⟨md, mn⟩, mv⟩, me⟩ := M
  obtain ⟨⟨fd, fn⟩, fe⟩ := F
  unfold Sp.sigV at k1
  unfold Sp.tyV at k2
  simp only [] at k1 k2
  cases m with
  | true =>
    have hR : R = me := HE.out
    subst hR
    clear HE
    go_enter Tryd.func124, Tryd.ntmps124
    go_wp2_with fail
    refine (k1.out _).mono ?_
    rintro e w1 ⟨A1, c1, rfl, _, hb⟩
    have hbz := hb.size
    go_wp2
    go_ret
    exact ⟨rfl, by (repeat (first | with_reducible assumption | with_reducible exact Below.refl _ _ | (with_reducible refine Below.setCell ?_ (by first | exact Nat.le_refl _ | omega | (simp; done) | (simp; omega)) _) | (with_reducible refine Below.alloc ?_ (by first | exact Nat.le_refl _ | omega | (simp; done) | (simp; omega)) _) | (with_reducible refine Below.drew ?_)))⟩
  | false =>
    have hR : R = fe := HE.out
    subst hR
    clear HE
    go_enter Tryd.func124, Tryd.ntmps124
    go_wp2_with fail
    refine (k2.out _).mono ?_
    rintro e w1 ⟨rfl, hb⟩
    have hbz := hb.size
    go_wp2
    go_ret
    exact ⟨rfl, by (repeat (first | with_reducible assumption | with_reducible exact Below.refl _ _ | (with_reducible refine Below.setCell ?_ (by first | exact Nat.le_refl _ | omega | (simp; done) | (simp; omega)) _) | (with_reducible refine Below.alloc ?_ (by first | exact Nat.le_refl _ | omega | (simp; done) | (simp; omega)) _) | (with_reducible refine Below.drew ?_)))⟩


set_option maxHeartbeats 4000000 in
set_option maxRecDepth 100000 in
theorem refText_any (q : Sp.At) (F : FlP) (k : Nat) (hk : k < F.pool.length) (w : World) (hr : RdF w q F) :
    Calls Tryd.prog 65 #[.agg (flC q F), .int .i64 ((k : Int) + 1)] w fun e w' => e = .returned (.string F.pool[k].text) ∧ Below w.heap.size w w' := by
  have hl := hr.pool.1
  obtain ⟨b, o, hA, hrg⟩ := hr.pool.2 (by omega)
  obtain ⟨c0, c1, c2, c3, c4, c5⟩ := cn_cells hrg hk
  have hb := World.block_lt_of_cell? _ _ c0
  have h5 : (k : Int) < (F.pool.length : Int) := by omega
  have h6 : (k : Int) + 1 - 1 = (k : Int) := by omega
  unfold flC
  rw [hA]
  clear hr hrg c0 c2 c3 c4 c5 hA
  generalize F.pool[k].text = t at *
  go_enter Tryd.func65, Tryd.ntmps65
  go_wp2
  go_ret
  exact ⟨rfl, by (repeat (first | with_reducible assumption | with_reducible exact Below.refl _ _ | (with_reducible refine Below.setCell ?_ (by first | exact Nat.le_refl _ | omega | (simp; done) | (simp; omega)) _) | (with_reducible refine Below.alloc ?_ (by first | exact Nat.le_refl _ | omega | (simp; done) | (simp; omega)) _) | (with_reducible refine Below.drew ?_)))⟩

/-- The flags of a class that may be. -/
def FlagsOk (f : Int) : Prop := f = 0 ∨ f = 2 ∨ f = 3

set_option maxHeartbeats 4000000 in
set_option maxRecDepth 100000 in
theorem interface_any (q : Sp.At) (F : FlP) (w : World) (hf : FlagsOk F.flags) :
    Calls Tryd.prog 120 #[.agg (flC q F)] w fun e w' => e = .returned (.bool (decide (F.flags = 3))) ∧ Below w.heap.size w w' := by
  unfold flC
  generalize F.flags = f at *
  rcases hf with rfl | rfl | rfl
  all_goals
    go_enter Tryd.func120, Tryd.ntmps120
    go_wp2
    go_ret
    exact ⟨by first | (simp; done) | (simp; decide +kernel), by (repeat (first | with_reducible assumption | with_reducible exact Below.refl _ _ | (with_reducible refine Below.setCell ?_ (by first | exact Nat.le_refl _ | omega | (simp; done) | (simp; omega)) _) | (with_reducible refine Below.alloc ?_ (by first | exact Nat.le_refl _ | omega | (simp; done) | (simp; omega)) _) | (with_reducible refine Below.drew ?_)))⟩
end Go.Proofs.YthpfknlgfkecpaaDoor
end
section
/-
  Walks of chapter 3's Find, the reference's Name and Find. (Printed by gen_find.py.)
-/
set_option linter.unusedVariables false
set_option linter.unusedSimpArgs false
namespace Go.Proofs.YthpfknlgfkecpaaDoor
open Go.RowKit Go.Lib

namespace Sp
def hitS (p : List Cn) (m : Mb) (name desc : ByteArray) : Bool := (cnameS p m.name).2 && (cnameS p m.desc).2 && decide ((cnameS p m.name).1 = name) && decide ((cnameS p m.desc).1 = desc)
def findF (p : List Cn) (name desc : ByteArray) : List Mb → Nat → Int
  | [], _ => -1
  | m :: l, i => if hitS p m name desc = true then (i : Int) else findF p name desc l (i + 1)
def findS (p : List Cn) (l : List Mb) (name desc : ByteArray) : Int := findF p name desc l 0
end Sp
/-- The cells of a member. -/
theorem mb_cells {w : World} {b o : Nat} {p : List Sp.Mp} (hr : w.rangeAt b o (p.flatMap Sp.mbC)) {k : Nat} (hk : k < p.length) :
    w.cell? ⟨b, o + k * 7, none⟩ = some (.int .i64 p[k].1.flags) ∧ w.cell? ⟨b, o + k * 7 + 1, none⟩ = some (.int .i64 p[k].1.name) ∧ w.cell? ⟨b, o + k * 7 + 2, none⟩ = some (.int .i64 p[k].1.desc) ∧ w.cell? ⟨b, o + k * 7 + 3, none⟩ = some (.int .i64 p[k].1.stack) ∧ w.cell? ⟨b, o + k * 7 + 4, none⟩ = some (.int .i64 p[k].1.locals) ∧ w.cell? ⟨b, o + k * 7 + 5, none⟩ = some (.string p[k].1.code) ∧ w.cell? ⟨b, o + k * 7 + 6, none⟩ = some (.slice p[k].2.1 p[k].1.hs.length p[k].2.2) :=
  ⟨rdL_get 7 Sp.mbC_len hr hk 0 (by decide) rfl, rdL_get 7 Sp.mbC_len hr hk 1 (by decide) rfl, rdL_get 7 Sp.mbC_len hr hk 2 (by decide) rfl, rdL_get 7 Sp.mbC_len hr hk 3 (by decide) rfl, rdL_get 7 Sp.mbC_len hr hk 4 (by decide) rfl, rdL_get 7 Sp.mbC_len hr hk 5 (by decide) rfl, rdL_get 7 Sp.mbC_len hr hk 6 (by decide) rfl⟩
theorem bytes_eqb (a b : ByteArray) : (a.toList == b.toList) = decide (a = b) := by
  rw [Bool.eq_iff_iff, decide_eq_true_eq]
  exact ⟨fun h => (bytes_beq_iff a b).1 (by simpa using h), fun h => by rw [h]; simp⟩


set_option maxHeartbeats 8000000 in
set_option maxRecDepth 100000 in
theorem find_any (q : Sp.At) (F : FlP) (name desc : ByteArray) (w : World) (hr : RdF w q F) (hm : ∀ m ∈ F.methods, In64 m.1.name ∧ In64 m.1.desc) :
    Calls Tryd.prog 40 #[.agg (flC q F), .string name, .string desc] w fun e w' => e = .returned (.int .i64 (Sp.findS F.pool (F.methods.map (·.1)) name desc)) ∧ Below w.heap.size w w' := by
  obtain ⟨pool, fl, th, su, ifs, flds, mths⟩ := F
  obtain ⟨qA, qc, qI, qd, qX, qe, qY, qg⟩ := q
  simp only [] at hm ⊢
  have hr0 := Lib.hid hr
  have hml := hr.methods.1.1
  have HM := Lib.hid hr.methods.1.2
  clear hr
  simp only [] at hml HM
  have HR := Lib.hid (show Sp.findF pool name desc (mths.map (·.1)) 0 = Sp.findS pool (mths.map (·.1)) name desc from rfl)
  generalize Sp.findS pool (mths.map (·.1)) name desc = R at HR ⊢
  have kn := Lib.hid (fun i (hi : In64 i) W hr => cname_any ⟨qA, qc, qI, qd, qX, qe, qY, qg⟩ ⟨pool, fl, th, su, ifs, flds, mths⟩ i W hr hi)
  have hmm := Lib.hid hm
  clear hm
  simp only [] at kn
  have hK := Lib.hid (blk_new w (.cells (flC ⟨qA, qc, qI, qd, qX, qe, qY, qg⟩ ⟨pool, fl, th, su, ifs, flds, mths⟩) 53))
  have hB := (Below.refl w.heap.size w).alloc (Nat.le_refl _) (.cells (flC ⟨qA, qc, qI, qd, qX, qe, qY, qg⟩ ⟨pool, fl, th, su, ifs, flds, mths⟩) 53)
  unfold flC at kn
  simp only [] at kn
  have hfl : flC ⟨qA, qc, qI, qd, qX, qe, qY, qg⟩ ⟨pool, fl, th, su, ifs, flds, mths⟩ = #[.slice qA pool.length qc, .int .i64 fl, .int .i64 th, .int .i64 su, .slice qI ifs.length qd, .slice qX flds.length qe, .slice qY mths.length qg] := rfl
  rw [hfl] at hB ⊢
  clear hfl
  go_enter Tryd.func40, Tryd.ntmps40
  go_wp2
  go_loopw [16] (fun vk wr => ∃ k : Nat, vk = .int .i64 k ∧ k ≤ mths.length ∧ Below w.heap.size w wr ∧ Hid (wr.heap[w.heap.size]? = some (.cells (flC ⟨qA, qc, qI, qd, qX, qe, qY, qg⟩ ⟨pool, fl, th, su, ifs, flds, mths⟩) 53 (0, 0))) ∧ Hid (Sp.findF pool name desc ((mths.map (·.1)).drop k) k = R)) (fun vk _ => mths.length - (RowKit.intOf vk).toNat)
  case atStart => exact ⟨0, by go_num, Nat.zero_le _, hB, hK, HR⟩
  case round =>
    clear hB hK HR
    obtain ⟨k, rfl, hk, hb, hK, hf⟩ := hrel
    have hbz := hb.size
    have hlb := blk_lt hK.out
    obtain ⟨c0, c1, c2, c3, c4, c5, c6⟩ := flC_box hK.out
    by_cases hlt : k < mths.length
    · obtain ⟨b, o, rfl, hrg⟩ := HM.out (by omega)
      obtain ⟨d0, d1, d2, d3, d4, d5, d6⟩ := mb_cells hrg hlt
      have D0 := cell_below hb d0
      have D1 := cell_below hb d1
      have D2 := cell_below hb d2
      have D3 := cell_below hb d3
      have D4 := cell_below hb d4
      have D5 := cell_below hb d5
      have D6 := cell_below hb d6
      have hzk : (k : Int) < (mths.length : Int) := by omega
      have hin := hmm.out _ (List.getElem_mem hlt)
      have hd : (mths.map (·.1)).drop k = mths[k].1 :: (mths.map (·.1)).drop (k + 1) := by
        rw [List.drop_eq_getElem_cons (by simpa using hlt), List.getElem_map]
      have hf2 := hf.out
      rw [hd, Sp.findF] at hf2
      clear hf hd hrg d0 d1 d2 d3 d4 d5 d6
      generalize mths[k] = m at *
      obtain ⟨⟨mf, mn, md, ms, ml, mc, mh⟩, mA, mcap⟩ := m
      simp only [] at D0 D1 D2 D3 D4 D5 D6 hin hf2
      have n1 := Lib.hid (fun W hr => kn.out mn hin.1 W hr)
      have n2 := Lib.hid (fun W hr => kn.out md hin.2 W hr)
      have hhit : Sp.hitS pool ⟨mf, mn, md, ms, ml, mc, mh⟩ name desc = ((Sp.cnameS pool mn).2 && (Sp.cnameS pool md).2 && ((Sp.cnameS pool mn).1.toList == name.toList) && ((Sp.cnameS pool md).1.toList == desc.toList)) := by rw [Sp.hitS, bytes_eqb, bytes_eqb]
      rw [hhit] at hf2
      clear hhit hin
      generalize Sp.cnameS pool mn = N at *
      generalize Sp.cnameS pool md = D at *
      obtain ⟨na, nb⟩ := N
      obtain ⟨da, db⟩ := D
      simp only [] at n1 n2 hf2
      have hf3 := Lib.hid hf2
      clear hf2
      have hbt := hb.alloc hbz (.cells #[.int .i64 mf, .int .i64 mn, .int .i64 md, .int .i64 ms, .int .i64 ml, .string mc, .slice mA mh.length mcap] 65)
      have hKt := Lib.hid (blk_old (o := .cells #[.int .i64 mf, .int .i64 mn, .int .i64 md, .int .i64 ms, .int .i64 ml, .string mc, .slice mA mh.length mcap] 65) hK.out)
      have hLt := Lib.hid (blk_new wr (.cells #[.int .i64 mf, .int .i64 mn, .int .i64 md, .int .i64 ms, .int .i64 ml, .string mc, .slice mA mh.length mcap] 65))
      have hbtz := hbt.size
      have hrw := Lib.hid (rdF_below hr0.out (show Below w.heap.size w _ from hbt))
      go_wp2_with fail
      refine (n1.out _ hrw.out).mono ?_
      rintro e w4 ⟨rfl, hb4⟩
      have K4 := Lib.hid (blk_below hKt.out hb4)
      have L4 := Lib.hid (blk_below hLt.out hb4)
      have B4 := below_then hbt hbtz hb4
      have S4 := B4.size
      clear hK hb hb4 n1 hrw hbt hKt hLt hbtz c0 c1 c2 c3 c4 c5 c6 D0 D1 D2 D3 D4 D5 D6 hlb
      obtain ⟨c0, c1, c2, c3, c4, c5, c6⟩ := flC_box K4.out
      have l2 := (blk_cell L4.out 2 (.int .i64 md) rfl).1
      go_wp2_with fail
      refine (n2.out _ (rdF_below hr0.out B4)).mono ?_
      rintro e w5 ⟨rfl, hb5⟩
      have K5 := Lib.hid (blk_below K4.out hb5)
      have B5 := below_then B4 S4 hb5
      clear K4 L4 B4 S4 hb5 n2 c0 c1 c2 c3 c4 c5 c6 l2
      have hmiss : (nb && db && (na.toList == name.toList) && (da.toList == desc.toList)) = false → Hid (Sp.findF pool name desc ((mths.map (·.1)).drop (k + 1)) (k + 1) = R) := fun h => Lib.hid (by rw [← hf3.out, h]; rfl)
      have hhit : (nb && db && (na.toList == name.toList) && (da.toList == desc.toList)) = true → R = (k : Int) := fun h => by rw [← hf3.out, h]; rfl
      clear hf3
      have hm1 := Lib.hid hmiss
      have hm2 := Lib.hid hhit
      clear hmiss hhit
      cases nb with
      | false =>
        have hf4 := hm1.out rfl
        clear hm1 hm2
        go_wp2
        go_roundw
        case rel => exact ⟨k + 1, by go_num, by omega, B5, K5, hf4⟩
        case measure => simp [RowKit.intOf]; omega
      | true =>
        cases db with
        | false =>
          have hf4 := hm1.out rfl
          clear hm1 hm2
          go_wp2
          go_roundw
          case rel => exact ⟨k + 1, by go_num, by omega, B5, K5, hf4⟩
          case measure => simp [RowKit.intOf]; omega
        | true =>
          cases e1 : (na.toList == name.toList) with
          | false =>
            have hf4 := hm1.out (by rw [e1]; rfl)
            clear hm1 hm2
            go_wp2
            go_roundw
            case rel => exact ⟨k + 1, by go_num, by omega, B5, K5, hf4⟩
            case measure => simp [RowKit.intOf]; omega
          | true =>
            cases e2 : (da.toList == desc.toList) with
            | false =>
              have hf4 := hm1.out (by rw [e1, e2]; rfl)
              clear hm1 hm2
              go_wp2
              go_roundw
              case rel => exact ⟨k + 1, by go_num, by omega, B5, K5, hf4⟩
              case measure => simp [RowKit.intOf]; omega
            | true =>
              have hR : R = (k : Int) := hm2.out (by rw [e1, e2]; rfl)
              subst hR
              clear hm1 hm2
              go_wp2
              go_ret
              exact ⟨rfl, B5⟩
    · obtain rfl : k = mths.length := by omega
      have hzk : ¬ (mths.length : Int) < (mths.length : Int) := by omega
      have hR : R = -1 := by rw [← hf.out, List.drop_eq_nil_of_le (by simp)]; rfl
      subst hR
      clear hf
      go_wp2
      go_ret
      exact ⟨rfl, hb⟩

end Go.Proofs.YthpfknlgfkecpaaDoor
end
section
/-
  Walks of the reference's Name and Find.
-/
set_option linter.unusedVariables false
set_option linter.unusedSimpArgs false
namespace Go.Proofs.YthpfknlgfkecpaaDoor
open Go.RowKit Go.Lib

set_option maxHeartbeats 4000000 in
set_option maxRecDepth 100000 in
theorem refCname_any (q : Sp.At) (F : FlP) (i : Int) (w : World) (hr : RdF w q F) (hi : -9223372036854775808 ≤ i ∧ i ≤ 9223372036854775807) :
    Calls Tryd.prog 41 #[.agg (flC q F), .int .i64 i] w fun e w' => e = .returned (.tuple #[.string (Sp.cnameS F.pool i).1, .bool (Sp.cnameS F.pool i).2]) ∧ Below w.heap.size w w' := by
  have hl := hr.pool.1
  have HP := Lib.hid hr.pool.2
  have HE := Lib.hid (show Sp.cnameS F.pool i = _ by rw [Sp.cnameS])
  have HT := Lib.hid (show Sp.taggedS F.pool i 1 = _ by rw [Sp.taggedS])
  have k1 := Lib.hid (fun W hr => refTagged_any q F i 1 W hr hi)
  have hr0 := Lib.hid hr
  clear hr
  generalize Sp.cnameS F.pool i = R at HE ⊢
  generalize Sp.taggedS F.pool i 1 = T at HT k1
  unfold flC at k1 ⊢
  have hB := (Below.refl w.heap.size w).alloc (Nat.le_refl _) (.cells #[.slice q.A F.pool.length q.c, .int .i64 F.flags, .int .i64 F.this, .int .i64 F.super, .slice q.I F.ifaces.length q.d, .slice q.X F.fields.length q.e, .slice q.Y F.methods.length q.g] 53)
  have hK := Lib.hid (blk_new w (.cells #[.slice q.A F.pool.length q.c, .int .i64 F.flags, .int .i64 F.this, .int .i64 F.super, .slice q.I F.ifaces.length q.d, .slice q.X F.fields.length q.e, .slice q.Y F.methods.length q.g] 53))
  go_enter Tryd.func41, Tryd.ntmps41
  go_wp2_with fail
  refine (k1.out _ (rdF_below hr0.out hB)).mono ?_
  rintro e w1 ⟨rfl, hb1⟩
  have K1 := Lib.hid (blk_below hK.out hb1)
  have B1 := below_then hB (by simp) hb1
  clear hK hb1 k1
  have hfail : T = false → R = (⟨#[]⟩, false) := by
    intro hT
    rw [HE.out]
    have := HT.out
    rw [hT] at this
    cases hg : Sp.get F.pool i with
    | none => rfl
    | some x =>
      rw [hg] at this
      simp only at this ⊢
      rw [if_neg]
      intro q
      rw [decide_eq_true q] at this
      cases this
  cases T with
  | false =>
    have hR := hfail rfl
    subst hR
    clear HE HT hfail
    go_wp2
    go_ret2
    exact ⟨rfl, B1⟩
  | true =>
    clear hfail
    rcases Sp.get_cases F.pool i with ⟨h1, h2⟩ | ⟨h1, h2, h3⟩ | ⟨k, hk, rfl, h3⟩
    · have := HT.out; rw [h2] at this; cases this
    · have := HT.out; rw [h3] at this; cases this
    · have ht : F.pool[k].tag = 1 := by have := HT.out; rw [h3] at this; simpa using this.symm
      have hR : R = (F.pool[k].text, true) := by rw [HE.out, h3]; simp only; rw [if_pos ht]
      have k2 := Lib.hid (fun W hr => refText_any q F k hk W hr)
      have rr := Lib.hid (rdF_below hr0.out B1)
      have S1 := B1.size
      obtain ⟨c0, c1, c2, c3, c4, c5, c6⟩ := flC_box K1.out
      clear HE HT h3 ht
      generalize F.pool[k].text = t at *
      subst hR
      unfold flC at k2
      go_wp2_with fail
      refine (k2.out _ rr.out).mono ?_
      rintro e w2 ⟨rfl, hb2⟩
      go_wp2
      go_ret2
      exact ⟨rfl, below_then B1 S1 hb2⟩


set_option maxHeartbeats 8000000 in
set_option maxRecDepth 100000 in
theorem refFind_any (q : Sp.At) (F : FlP) (name desc : ByteArray) (w : World) (hr : RdF w q F) (hm : ∀ m ∈ F.methods, In64 m.1.name ∧ In64 m.1.desc) :
    Calls Tryd.prog 44 #[.agg (flC q F), .string name, .string desc] w fun e w' => e = .returned (.int .i64 (Sp.findS F.pool (F.methods.map (·.1)) name desc)) ∧ Below w.heap.size w w' := by
  obtain ⟨pool, fl, th, su, ifs, flds, mths⟩ := F
  obtain ⟨qA, qc, qI, qd, qX, qe, qY, qg⟩ := q
  simp only [] at hm ⊢
  have hr0 := Lib.hid hr
  have hml := hr.methods.1.1
  have HM := Lib.hid hr.methods.1.2
  clear hr
  simp only [] at hml HM
  have HR := Lib.hid (show Sp.findF pool name desc (mths.map (·.1)) 0 = Sp.findS pool (mths.map (·.1)) name desc from rfl)
  generalize Sp.findS pool (mths.map (·.1)) name desc = R at HR ⊢
  have kn := Lib.hid (fun i (hi : In64 i) W hr => refCname_any ⟨qA, qc, qI, qd, qX, qe, qY, qg⟩ ⟨pool, fl, th, su, ifs, flds, mths⟩ i W hr hi)
  have hmm := Lib.hid hm
  clear hm
  simp only [] at kn
  have hK := Lib.hid (blk_new w (.cells (flC ⟨qA, qc, qI, qd, qX, qe, qY, qg⟩ ⟨pool, fl, th, su, ifs, flds, mths⟩) 53))
  have hB := (Below.refl w.heap.size w).alloc (Nat.le_refl _) (.cells (flC ⟨qA, qc, qI, qd, qX, qe, qY, qg⟩ ⟨pool, fl, th, su, ifs, flds, mths⟩) 53)
  unfold flC at kn
  simp only [] at kn
  have hfl : flC ⟨qA, qc, qI, qd, qX, qe, qY, qg⟩ ⟨pool, fl, th, su, ifs, flds, mths⟩ = #[.slice qA pool.length qc, .int .i64 fl, .int .i64 th, .int .i64 su, .slice qI ifs.length qd, .slice qX flds.length qe, .slice qY mths.length qg] := rfl
  rw [hfl] at hB ⊢
  clear hfl
  go_enter Tryd.func44, Tryd.ntmps44
  go_wp2
  go_loopw [7] (fun vk wr => ∃ k : Nat, vk = .int .i64 k ∧ k ≤ mths.length ∧ Below w.heap.size w wr ∧ Hid (wr.heap[w.heap.size]? = some (.cells (flC ⟨qA, qc, qI, qd, qX, qe, qY, qg⟩ ⟨pool, fl, th, su, ifs, flds, mths⟩) 53 (0, 0))) ∧ Hid (Sp.findF pool name desc ((mths.map (·.1)).drop k) k = R)) (fun vk _ => mths.length - (RowKit.intOf vk).toNat)
  case atStart => exact ⟨0, by go_num, Nat.zero_le _, hB, hK, HR⟩
  case round =>
    clear hB hK HR
    obtain ⟨k, rfl, hk, hb, hK, hf⟩ := hrel
    have hbz := hb.size
    have hlb := blk_lt hK.out
    obtain ⟨c0, c1, c2, c3, c4, c5, c6⟩ := flC_box hK.out
    by_cases hlt : k < mths.length
    · obtain ⟨b, o, rfl, hrg⟩ := HM.out (by omega)
      obtain ⟨d0, d1, d2, d3, d4, d5, d6⟩ := mb_cells hrg hlt
      have D0 := cell_below hb d0
      have D1 := cell_below hb d1
      have D2 := cell_below hb d2
      have D3 := cell_below hb d3
      have D4 := cell_below hb d4
      have D5 := cell_below hb d5
      have D6 := cell_below hb d6
      have hzk : (k : Int) < (mths.length : Int) := by omega
      have hin := hmm.out _ (List.getElem_mem hlt)
      have hd : (mths.map (·.1)).drop k = mths[k].1 :: (mths.map (·.1)).drop (k + 1) := by
        rw [List.drop_eq_getElem_cons (by simpa using hlt), List.getElem_map]
      have hf2 := hf.out
      rw [hd, Sp.findF] at hf2
      clear hf hd hrg d0 d1 d2 d3 d4 d5 d6
      generalize mths[k] = m at *
      obtain ⟨⟨mf, mn, md, ms, ml, mc, mh⟩, mA, mcap⟩ := m
      simp only [] at D0 D1 D2 D3 D4 D5 D6 hin hf2
      have n1 := Lib.hid (fun W hr => kn.out mn hin.1 W hr)
      have n2 := Lib.hid (fun W hr => kn.out md hin.2 W hr)
      have hhit : Sp.hitS pool ⟨mf, mn, md, ms, ml, mc, mh⟩ name desc = ((Sp.cnameS pool mn).2 && (Sp.cnameS pool md).2 && ((Sp.cnameS pool mn).1.toList == name.toList) && ((Sp.cnameS pool md).1.toList == desc.toList)) := by rw [Sp.hitS, bytes_eqb, bytes_eqb]
      rw [hhit] at hf2
      clear hhit hin
      generalize Sp.cnameS pool mn = N at *
      generalize Sp.cnameS pool md = D at *
      obtain ⟨na, nb⟩ := N
      obtain ⟨da, db⟩ := D
      simp only [] at n1 n2 hf2
      have hf3 := Lib.hid hf2
      clear hf2
      have hbt := hb.alloc hbz (.cells #[.int .i64 mf, .int .i64 mn, .int .i64 md, .int .i64 ms, .int .i64 ml, .string mc, .slice mA mh.length mcap] 65)
      have hKt := Lib.hid (blk_old (o := .cells #[.int .i64 mf, .int .i64 mn, .int .i64 md, .int .i64 ms, .int .i64 ml, .string mc, .slice mA mh.length mcap] 65) hK.out)
      have hLt := Lib.hid (blk_new wr (.cells #[.int .i64 mf, .int .i64 mn, .int .i64 md, .int .i64 ms, .int .i64 ml, .string mc, .slice mA mh.length mcap] 65))
      have hbtz := hbt.size
      have hrw := Lib.hid (rdF_below hr0.out (show Below w.heap.size w _ from hbt))
      go_wp2_with fail
      refine (n1.out _ hrw.out).mono ?_
      rintro e w4 ⟨rfl, hb4⟩
      have K4 := Lib.hid (blk_below hKt.out hb4)
      have L4 := Lib.hid (blk_below hLt.out hb4)
      have B4 := below_then hbt hbtz hb4
      have S4 := B4.size
      clear hK hb hb4 n1 hrw hbt hKt hLt hbtz c0 c1 c2 c3 c4 c5 c6 D0 D1 D2 D3 D4 D5 D6 hlb
      obtain ⟨c0, c1, c2, c3, c4, c5, c6⟩ := flC_box K4.out
      have l2 := (blk_cell L4.out 2 (.int .i64 md) rfl).1
      go_wp2_with fail
      refine (n2.out _ (rdF_below hr0.out B4)).mono ?_
      rintro e w5 ⟨rfl, hb5⟩
      have K5 := Lib.hid (blk_below K4.out hb5)
      have B5 := below_then B4 S4 hb5
      clear K4 L4 B4 S4 hb5 n2 c0 c1 c2 c3 c4 c5 c6 l2
      have hmiss : (nb && db && (na.toList == name.toList) && (da.toList == desc.toList)) = false → Hid (Sp.findF pool name desc ((mths.map (·.1)).drop (k + 1)) (k + 1) = R) := fun h => Lib.hid (by rw [← hf3.out, h]; rfl)
      have hhit : (nb && db && (na.toList == name.toList) && (da.toList == desc.toList)) = true → R = (k : Int) := fun h => by rw [← hf3.out, h]; rfl
      clear hf3
      have hm1 := Lib.hid hmiss
      have hm2 := Lib.hid hhit
      clear hmiss hhit
      cases nb with
      | false =>
        have hf4 := hm1.out rfl
        clear hm1 hm2
        go_wp2
        go_roundw
        case rel => exact ⟨k + 1, by go_num, by omega, B5, K5, hf4⟩
        case measure => simp [RowKit.intOf]; omega
      | true =>
        cases db with
        | false =>
          have hf4 := hm1.out rfl
          clear hm1 hm2
          go_wp2
          go_roundw
          case rel => exact ⟨k + 1, by go_num, by omega, B5, K5, hf4⟩
          case measure => simp [RowKit.intOf]; omega
        | true =>
          cases e1 : (na.toList == name.toList) with
          | false =>
            have hf4 := hm1.out (by rw [e1]; rfl)
            clear hm1 hm2
            go_wp2
            go_roundw
            case rel => exact ⟨k + 1, by go_num, by omega, B5, K5, hf4⟩
            case measure => simp [RowKit.intOf]; omega
          | true =>
            cases e2 : (da.toList == desc.toList) with
            | false =>
              have hf4 := hm1.out (by rw [e1, e2]; rfl)
              clear hm1 hm2
              go_wp2
              go_roundw
              case rel => exact ⟨k + 1, by go_num, by omega, B5, K5, hf4⟩
              case measure => simp [RowKit.intOf]; omega
            | true =>
              have hR : R = (k : Int) := hm2.out (by rw [e1, e2]; rfl)
              subst hR
              clear hm1 hm2
              go_wp2
              go_ret
              exact ⟨rfl, B5⟩
    · obtain rfl : k = mths.length := by omega
      have hzk : ¬ (mths.length : Int) < (mths.length : Int) := by omega
      have hR : R = -1 := by rw [← hf.out, List.drop_eq_nil_of_le (by simp)]; rfl
      subst hR
      clear hf
      go_wp2
      go_ret
      exact ⟨rfl, hb⟩
end Go.Proofs.YthpfknlgfkecpaaDoor
end
section
/-
  Walk of the reference's named.
-/
set_option linter.unusedVariables false
set_option linter.unusedSimpArgs false
namespace Go.Proofs.YthpfknlgfkecpaaDoor
open Go.RowKit Go.Lib

namespace Sp
theorem cname_tag (p : List Cn) (i : Int) : (cnameS p i).2 = taggedS p i 1 := by
  unfold cnameS taggedS
  cases get p i with
  | none => rfl
  | some c =>
    simp only
    by_cases h : c.tag = 1
    · rw [if_pos h]; simp [h]
    · rw [if_neg h]; simp [h]
theorem tag_at (p : List Cn) (i t : Int) (h : taggedS p i t = true) : ∃ (k : Nat) (hk : k < p.length), i = (k : Int) + 1 ∧ p[k].tag = t ∧ get p i = some p[k] := by
  unfold taggedS at h
  rcases get_cases p i with ⟨_, h2⟩ | ⟨_, _, h3⟩ | ⟨k, hk, h1, h3⟩
  · rw [h2] at h; cases h
  · rw [h3] at h; cases h
  · rw [h3] at h
    exact ⟨k, hk, h1, by simpa using h, h3⟩
theorem cname_at (p : List Cn) (i : Int) (h : taggedS p i 1 = true) : ∃ (k : Nat) (hk : k < p.length), i = (k : Int) + 1 ∧ cnameS p i = (p[k].text, true) := by
  obtain ⟨k, hk, h1, h2, h3⟩ := tag_at p i 1 h
  exact ⟨k, hk, h1, by unfold cnameS; rw [h3]; simp only; rw [if_pos h2]⟩
end Sp

set_option maxHeartbeats 8000000 in
set_option maxRecDepth 100000 in
theorem refNamed_any (q : Sp.At) (F : FlP) (m : Sp.Mp) (me : Bool) (w : World) (hr : RdF w q F) (h1 : In64 m.1.name) (h2 : In64 m.1.desc) (hz : ∀ c ∈ F.pool, c.text.size ≤ 1099511627776) :
    Calls Tryd.prog 125 #[.agg (flC q F), Sp.mbV m, .bool me] w fun e w' => e = .returned (.int .i64 (Sp.linkS F.pool m.1.name m.1.desc me)) ∧ Below w.heap.size w w' := by
  obtain ⟨pool, fl, th, su, ifs, flds, mths⟩ := F
  obtain ⟨qA, qc, qI, qd, qX, qe, qY, qg⟩ := q
  obtain ⟨⟨mf, mn, md, ms, ml, mc, mh⟩, mA, mcap⟩ := m
  simp only [] at h1 h2 hz ⊢
  have hr0 := Lib.hid hr
  clear hr
  have HE := Lib.hid (show Sp.linkS pool mn md me = _ by rw [Sp.linkS])
  have hn := Lib.hid (Sp.cname_at pool mn)
  have hd := Lib.hid (Sp.cname_at pool md)
  have HE2 := Lib.hid HE.out
  rw [Sp.cname_tag, Sp.cname_tag] at HE2
  clear HE
  have k1 := Lib.hid (fun W hr => refTagged_any ⟨qA, qc, qI, qd, qX, qe, qY, qg⟩ ⟨pool, fl, th, su, ifs, flds, mths⟩ mn 1 W hr h1)
  have k2 := Lib.hid (fun W hr => refTagged_any ⟨qA, qc, qI, qd, qX, qe, qY, qg⟩ ⟨pool, fl, th, su, ifs, flds, mths⟩ md 1 W hr h2)
  have kt := Lib.hid (fun k (hk : k < pool.length) W hr => refText_any ⟨qA, qc, qI, qd, qX, qe, qY, qg⟩ ⟨pool, fl, th, su, ifs, flds, mths⟩ k hk W hr)
  have hz' := Lib.hid (fun k (hk : k < pool.length) => hz _ (List.getElem_mem hk))
  clear hz
  generalize Sp.linkS pool mn md me = R at HE2 ⊢
  simp only [] at k1 k2 kt
  generalize Sp.taggedS pool mn 1 = T at *
  generalize Sp.taggedS pool md 1 = U at *
  have hB := ((Below.refl w.heap.size w).alloc (Nat.le_refl _) (.cells (flC ⟨qA, qc, qI, qd, qX, qe, qY, qg⟩ ⟨pool, fl, th, su, ifs, flds, mths⟩) 53)).alloc (by simp) (.cells #[.int .i64 mf, .int .i64 mn, .int .i64 md, .int .i64 ms, .int .i64 ml, .string mc, .slice mA mh.length mcap] 65)
  have hK := Lib.hid (blk_old (o := .cells #[.int .i64 mf, .int .i64 mn, .int .i64 md, .int .i64 ms, .int .i64 ml, .string mc, .slice mA mh.length mcap] 65) (blk_new w (.cells (flC ⟨qA, qc, qI, qd, qX, qe, qY, qg⟩ ⟨pool, fl, th, su, ifs, flds, mths⟩) 53)))
  have hL := Lib.hid (blk_new (w.alloc (.cells (flC ⟨qA, qc, qI, qd, qX, qe, qY, qg⟩ ⟨pool, fl, th, su, ifs, flds, mths⟩) 53)) (.cells #[.int .i64 mf, .int .i64 mn, .int .i64 md, .int .i64 ms, .int .i64 ml, .string mc, .slice mA mh.length mcap] 65))
  rw [show (w.alloc (.cells (flC ⟨qA, qc, qI, qd, qX, qe, qY, qg⟩ ⟨pool, fl, th, su, ifs, flds, mths⟩) 53)).heap.size = w.heap.size + 1 by simp] at hL
  have hS := hB.size
  unfold flC at k1 k2 kt
  unfold Sp.mbV
  have hfl : flC ⟨qA, qc, qI, qd, qX, qe, qY, qg⟩ ⟨pool, fl, th, su, ifs, flds, mths⟩ = #[.slice qA pool.length qc, .int .i64 fl, .int .i64 th, .int .i64 su, .slice qI ifs.length qd, .slice qX flds.length qe, .slice qY mths.length qg] := rfl
  rw [hfl] at hB hS ⊢
  clear hfl
  simp only [] at k1 k2 kt ⊢
  go_enter Tryd.func125, Tryd.ntmps125
  go_wp2_with fail
  refine (k1.out _ (rdF_below hr0.out hB)).mono ?_
  rintro e w1 ⟨rfl, hb1⟩
  have K1 := Lib.hid (blk_below hK.out hb1)
  have L1 := Lib.hid (blk_below hL.out hb1)
  have B1 := below_then hB hS hb1
  have S1 := B1.size
  clear hK hL hB hS hb1 k1
  obtain ⟨c0, c1, c2, c3, c4, c5, c6⟩ := flC_box K1.out
  have e1 := (blk_cell L1.out 1 (.int .i64 mn) rfl).1
  have e2 := (blk_cell L1.out 2 (.int .i64 md) rfl).1
  go_wp2_with fail
  refine (k2.out _ (rdF_below hr0.out B1)).mono ?_
  rintro e w2 ⟨rfl, hb2⟩
  have K2 := Lib.hid (blk_below K1.out hb2)
  have L2 := Lib.hid (blk_below L1.out hb2)
  have B2 := below_then B1 S1 hb2
  have S2 := B2.size
  clear K1 L1 B1 S1 hb2 k2 c0 c1 c2 c3 c4 c5 c6 e1 e2
  cases T with
  | false =>
    have hR : R = 7 := by rw [HE2.out, if_pos (.inl rfl)]
    subst hR
    clear HE2
    go_wp2
    go_ret
    exact ⟨rfl, B2⟩
  | true =>
    cases U with
    | false =>
      have hR : R = 7 := by rw [HE2.out, if_pos (.inr rfl)]
      subst hR
      clear HE2
      go_wp2
      go_ret
      exact ⟨rfl, B2⟩
    | true =>
      obtain ⟨k, hk, rfl, hkn⟩ := hn.out rfl
      obtain ⟨j, hj, rfl, hjn⟩ := hd.out rfl
      have HF := Lib.hid HE2.out
      rw [if_neg (by rintro (h | h) <;> cases h), hkn, hjn] at HF
      have hs1 := hz'.out k hk
      have hs2 := hz'.out j hj
      have t1 := Lib.hid (fun W hr => kt.out k hk W hr)
      have t2 := Lib.hid (fun W hr => kt.out j hj W hr)
      clear HE2 hkn hjn hn hd kt hz'
      generalize pool[k].text = s1 at *
      generalize pool[j].text = s2 at *
      have k3 := Lib.hid (fun W => refName_any s1 W hs1)
      have k4 := Lib.hid (fun W => refDescribed_any s2 me W hs2)
      rw [Sp.refName_eq] at k3
      simp only [] at HF
      generalize Sp.nameS s1 = nb at *
      generalize Sp.descS s2 me = db at *
      obtain ⟨c0, c1, c2, c3, c4, c5, c6⟩ := flC_box K2.out
      have e1 := (blk_cell L2.out 1 (.int .i64 ((k : Int) + 1)) rfl).1
      go_wp2_with fail
      refine (t1.out _ (rdF_below hr0.out B2)).mono ?_
      rintro e w3 ⟨rfl, hb3⟩
      have K3 := Lib.hid (blk_below K2.out hb3)
      have L3 := Lib.hid (blk_below L2.out hb3)
      have B3 := below_then B2 S2 hb3
      have S3 := B3.size
      clear K2 L2 B2 S2 hb3 t1 c0 c1 c2 c3 c4 c5 c6 e1
      go_wp2_with fail
      refine (k3.out _).mono ?_
      rintro e w4 ⟨rfl, hb4⟩
      have K4 := Lib.hid (blk_below K3.out hb4)
      have L4 := Lib.hid (blk_below L3.out hb4)
      have B4 := below_then B3 S3 hb4
      have S4 := B4.size
      clear K3 L3 B3 S3 hb4 k3
      cases nb with
      | false =>
        have hR : R = 8 := HF.out
        subst hR
        clear HF
        go_wp2
        go_ret
        exact ⟨rfl, B4⟩
      | true =>
        have hR : R = db := HF.out
        subst hR
        clear HF
        obtain ⟨c0, c1, c2, c3, c4, c5, c6⟩ := flC_box K4.out
        have e2 := (blk_cell L4.out 2 (.int .i64 ((j : Int) + 1)) rfl).1
        go_wp2_with fail
        refine (t2.out _ (rdF_below hr0.out B4)).mono ?_
        rintro e w5 ⟨rfl, hb5⟩
        have B5 := below_then B4 S4 hb5
        have S5 := B5.size
        clear K4 L4 B4 S4 hb5 t2 c0 c1 c2 c3 c4 c5 c6 e2
        go_wp2_with fail
        refine (k4.out _).mono ?_
        rintro e w6 ⟨rfl, hb6⟩
        go_wp2
        go_ret
        exact ⟨rfl, below_then B5 S5 hb6⟩
end Go.Proofs.YthpfknlgfkecpaaDoor
end
section
/-
  Maps in memory as functions from keys to values; what a call keeps outside of some blocks.
-/
set_option linter.unusedVariables false
set_option linter.unusedSimpArgs false
namespace Go.Proofs.YthpfknlgfkecpaaDoor
open Go.RowKit Go.Maps

/-- Every element reads as itself. -/
def heldR (v : Value) : Option (DataW Value × List MemPlace) := some (.held v, [])

/-- Block b is a map of at most n entries that is the function f. -/
def MapV (P : Program) (w : World) (k : TypeId) (b n : Nat) (f : Value → Option Value) : Prop :=
  ∃ D : DataW Value, w.ownsMap P k heldR b n D ∧ ∀ key kl, keyOf P k key = some kl → Maps.has D kl = (f key).isSome ∧ ∀ v, f key = some v → ∀ z, D.atKey kl z = .held v

section
variable {P : Program} {w : World} {k : TypeId} {b n : Nat} {f f' : Value → Option Value}

theorem mapV_made (w : World) (P : Program) (k : TypeId) : MapV P (w.alloc (.map #[] 0)) k w.heap.size 0 (fun _ => none) :=
  ⟨_, World.ownsMap_made w P k heldR, fun key kl h => ⟨rfl, fun v hv => by cases hv⟩⟩

theorem mapV_lt (h : MapV P w k b n f) : b < w.heap.size := by
  obtain ⟨D, h, _⟩ := h
  exact h.lt

theorem mapV_block {w' : World} (h : MapV P w k b n f) (hb : w'.heap[b]? = w.heap[b]?) : MapV P w' k b n f := by
  obtain ⟨D, ⟨es, clock, h1, h2, h3, h4⟩, h⟩ := h
  exact ⟨D, ⟨es, clock, hb.trans h1, h2, h3, h4⟩, h⟩

theorem mapV_mono {n' : Nat} (h : MapV P w k b n f) (hn : n ≤ n') : MapV P w k b n' f := by
  obtain ⟨D, h1, h2⟩ := h
  exact ⟨D, h1.mono hn, h2⟩

theorem mapV_congr (h : MapV P w k b n f) (hf : ∀ x, f' x = f x) : MapV P w k b n f' := by
  rw [show f' = f from funext hf]
  exact h

theorem mapV_key (h : MapV P w k b n f) {m : Nat} (es : Array MapEntry) (clock : Nat) (hb : w.heap[b]? = some (.map es clock)) : es.size ≤ n := by
  obtain ⟨D, ⟨es', clock', h1, h2, h3, h4⟩, h⟩ := h
  rw [hb] at h1
  cases h1
  exact h3

theorem mapV_look {t e : TypeId} (h : MapV P w k b n f) (K : Keyed P k) (ht : P.underlying t = some (.map k e)) {z : Value} (hz : (zeroValue e).run P w = .ok z w) {key : Value} {kl : Lit} (hkey : keyOf P k key = some kl) :
    (Instr.lookup t (.map (some b)) key true).run P w = .ok (.tuple #[(f key).getD z, .bool (f key).isSome]) w ∧ (Instr.lookup t (.map (some b)) key false).run P w = .ok ((f key).getD z) w := by
  obtain ⟨D, h1, h2⟩ := h
  obtain ⟨e1, e2⟩ := h2 key kl hkey
  obtain ⟨v, ps, hrun, hv⟩ := h1.look_ok (t := t) (zd := .held z) (zp := []) K ht hz rfl hkey
  obtain ⟨v', ps', hrun', hv'⟩ := h1.lookup (t := t) (zd := .held z) (zp := []) K ht hz rfl hkey
  have hat : D.atKey kl (.held z) = .held ((f key).getD z) := by
    cases hf : f key with
    | none =>
      rw [hf] at e1
      rw [Maps.atKey_of_not_has e1]
      rfl
    | some u => rw [e2 u hf]; rfl
  rw [hat] at hv hv'
  simp only [heldR, Option.some.injEq, Prod.mk.injEq, DataW.held.injEq] at hv hv'
  rw [hrun, hrun', hv.1, hv'.1, e1]
  exact ⟨rfl, rfl⟩

theorem mapV_alloc (h : MapV P w k b n f) (o : Obj) : MapV P (w.alloc o) k b n f := mapV_block h (Below.heap_alloc _ _ _ (mapV_lt h))
theorem mapV_drew (h : MapV P w k b n f) : MapV P w.drew k b n f := h
theorem mapV_set (h : MapV P w k b n f) {a : Addr} (hne : b ≠ a.block) (v : Value) : MapV P (w.setCell a v) k b n f := mapV_block h (Below.heap_setCell _ _ _ _ hne)
theorem mapV_grown {w' : World} {row : Option Nat} (h : MapV P w k b n f) (hg : w.grownBy w' row) (hne : row ≠ some b) : MapV P w' k b n f := mapV_block h (hg.block _ (mapV_lt h) (fun e => hne e.symm))
theorem mapV_map (h : MapV P w k b n f) : ∃ es clock, w.heap[b]? = some (.map es clock) := by
  obtain ⟨D, ⟨es, clock, h1, _⟩, _⟩ := h
  exact ⟨es, clock, h1⟩
theorem row_ne_map {base : Nat} {e : TypeId} {size m : Nat} {v : Value} {xs : List Value} (hr : w.ownsRow base e size v m xs) (hm : MapV P w k b n f) : v.ownBlock ≠ some b := by
  intro q
  obtain ⟨es, clock, h1⟩ := mapV_map hm
  rcases hr.2 with ⟨rfl, _⟩ | ⟨g, cap, cur, rfl, hb, hg, _⟩
  · cases q
  · have : g = b := by simpa [Value.ownBlock] using q
    subst this
    rw [h1] at hg
    cases hg
theorem box_ne_map {tb : Nat} {C : Array Value} {T : TypeId} {fr : Nat × Nat} (hb : w.heap[tb]? = some (.cells C T fr)) (hm : MapV P w k b n f) : tb ≠ b := by
  intro q
  subst q
  obtain ⟨es, clock, h1⟩ := mapV_map hm
  rw [h1] at hb
  cases hb

end

/-- 'v, ok := m[k]'. -/
theorem wpList_lookup_mapV_ok {P : Program} (w : World) {ops : Array Oper} {rest : List Oper} {o : Oper} {a : Act} {Q : Exit → Act → World → Prop}
    (hg : o.guard = none) (m x : Operand) (t : TypeId) (hop : o.op = Op.lookup t m x true)
    (k e : TypeId) (K : Keyed P k) (ht : P.underlying t = some (.map k e)) {z : Value} (hz : (zeroValue e).run P w = .ok z w) (b n : Nat) (f : Value → Option Value)
    (hm : a.eval m = .map (some b)) (hown : MapV P w k b n f) (key : Value) (kl : Lit) (hx : a.eval x = key) (hkey : keyOf P k key = some kl) (r : Option Value) (hr : f key = r)
    (hK : wpList P ops Q rest (a.put o.dst (.tuple #[r.getD z, .bool r.isSome])) w) :
    wpList P ops Q (o :: rest) a w := by
  subst hr
  refine wpList_plain hg fun K' hK' => ?_
  have hrun := (mapV_look (t := t) hown K ht hz hkey).1
  unfold Oper.wp
  simp [execOp, hop, hm, hx, hrun, Result.andThen]
  exact hK' _ _ hK

/-- 'm[k]'. -/
theorem wpList_lookup_mapV {P : Program} (w : World) {ops : Array Oper} {rest : List Oper} {o : Oper} {a : Act} {Q : Exit → Act → World → Prop}
    (hg : o.guard = none) (m x : Operand) (t : TypeId) (hop : o.op = Op.lookup t m x false)
    (k e : TypeId) (K : Keyed P k) (ht : P.underlying t = some (.map k e)) {z : Value} (hz : (zeroValue e).run P w = .ok z w) (b n : Nat) (f : Value → Option Value)
    (hm : a.eval m = .map (some b)) (hown : MapV P w k b n f) (key : Value) (kl : Lit) (hx : a.eval x = key) (hkey : keyOf P k key = some kl) (r : Option Value) (hr : f key = r)
    (hK : wpList P ops Q rest (a.put o.dst (r.getD z)) w) :
    wpList P ops Q (o :: rest) a w := by
  subst hr
  refine wpList_plain hg fun K' hK' => ?_
  have hrun := (mapV_look (t := t) hown K ht hz hkey).2
  unfold Oper.wp
  simp [execOp, hop, hm, hx, hrun, Result.andThen]
  exact hK' _ _ hK

/-- 'm[k] = v', as a run. -/
theorem mapV_update {P : Program} {w : World} {k t e : TypeId} {b n : Nat} {f f' : Value → Option Value} (h : MapV P w k b n f) (K : Keyed P k) (ht : P.underlying t = some (.map k e)) (hn : n < maxLen) {key val : Value} {kl : Lit}
    (hkey : keyOf P k key = some kl) (hf : f' key = some val) (ho : ∀ x, x ≠ key → f' x = f x) :
    ∃ w', (Instr.mapUpdate t (.map (some b)) key val).run P w = .ok () w' ∧ MapV P w' k b (n + 1) f' ∧ w.grownBy w' (some b) := by
  obtain ⟨D, h1, h2⟩ := h
  obtain ⟨w', hrun, hown, hg⟩ := h1.update (t := t) (d := .held val) (ps := []) K ht hn hkey rfl
  refine ⟨w', hrun, ⟨_, hown, fun key' kl' hk' => ?_⟩, hg⟩
  by_cases hx : key' = key
  · subst hx
    obtain rfl : kl' = kl := by rw [hkey] at hk'; exact (Option.some.inj hk').symm
    refine ⟨by rw [hf]; exact Maps.has_put_same h1.isMap (K.key hkey) _, fun v hv z => ?_⟩
    rw [hf] at hv
    cases hv
    exact Maps.atKey_put_same h1.isMap (K.key hkey) _ _
  · have hne : kl' ≠ kl := fun q => hx (K.inj (by rw [hk', q]) hkey)
    obtain ⟨e1, e2⟩ := h2 key' kl' hk'
    rw [ho key' hx]
    exact ⟨by rw [Maps.has_put_other hne]; exact e1, fun v hv z => by rw [Maps.atKey_put_other hne]; exact e2 v hv z⟩

/-- 'm[k] = v'. -/
theorem wpList_mapUpdate_mapV {P : Program} (w : World) {ops : Array Oper} {rest : List Oper} {o : Oper} {a : Act} {Q : Exit → Act → World → Prop}
    (hg : o.guard = none) (m x v : Operand) (t : TypeId) (hop : o.op = Op.mapUpdate t m x v)
    (k e : TypeId) (K : Keyed P k) (ht : P.underlying t = some (.map k e)) (b n : Nat) (f f' : Value → Option Value)
    (hm : a.eval m = .map (some b)) (hown : MapV P w k b n f) (hn : n < maxLen) (key val : Value) (kl : Lit) (hx : a.eval x = key) (hv : a.eval v = val) (hkey : keyOf P k key = some kl)
    (hf : f' key = some val) (ho : ∀ x, x ≠ key → f' x = f x)
    (hK : ∀ w', MapV P w' k b (n + 1) f' → w.grownBy w' (some b) → wpList P ops Q rest (a.put o.dst undef) w') :
    wpList P ops Q (o :: rest) a w := by
  refine wpList_plain hg fun K' hK' => ?_
  obtain ⟨w', hrun, r1, r2⟩ := mapV_update (t := t) hown K ht hn hkey hf ho
  unfold Oper.wp
  simp [execOp, hop, hm, hx, hv, hrun, Result.andThen]
  exact hK' _ _ (hK w' r1 r2)

/-- 'delete(m, k)'. -/
theorem wpList_delete_mapV {P : Program} (w : World) {ops : Array Oper} {rest : List Oper} {o : Oper} {a : Act} {Q : Exit → Act → World → Prop}
    (hg : o.guard = none) (m x : Operand) (t k : TypeId) (hop : o.op = Op.call { callee := Callee.builtin Builtin.delete, args := #[m, x], argTypes := #[t, k] })
    (e : TypeId) (K : Keyed P k) (ht : P.underlying t = some (.map k e)) (b n : Nat) (f f' : Value → Option Value)
    (hm : a.eval m = .map (some b)) (hown : MapV P w k b n f) (key : Value) (kl : Lit) (hx : a.eval x = key) (hkey : keyOf P k key = some kl)
    (hf : f' key = none) (ho : ∀ x, x ≠ key → f' x = f x)
    (hK : ∀ w', MapV P w' k b n f' → w.grownBy w' (some b) → wpList P ops Q rest (a.put o.dst (.tuple #[])) w') :
    wpList P ops Q (o :: rest) a w := by
  obtain ⟨D, h1, h2⟩ := hown
  refine wpList_delete_own w hg m x t k hop e K ht heldR b n D hm h1 key kl hx hkey fun w' hw ht' => ?_
  refine hK w' ⟨_, hw, fun key' kl' hk' => ?_⟩ ht'.grown
  by_cases hx : key' = key
  · subst hx
    obtain rfl : kl' = kl := by rw [hkey] at hk'; exact (Option.some.inj hk').symm
    refine ⟨by rw [hf]; exact Maps.has_del_same, fun v hv z => ?_⟩
    rw [hf] at hv
    cases hv
  · have hne : kl' ≠ kl := fun q => hx (K.inj (by rw [hk', q]) hkey)
    obtain ⟨e1, e2⟩ := h2 key' kl' hk'
    rw [ho key' hx]
    exact ⟨by rw [Maps.has_del_other hne]; exact e1, fun v hv z => by rw [Maps.atKey_del_other hne]; exact e2 v hv z⟩

/-! What stays outside of some blocks. -/
/-- Outside of the blocks S, w' is as w was; there may be new blocks. -/
structure Keeps (S : Nat → Prop) (w w' : World) : Prop where
  os : w'.os = w.os
  tape : w'.tape = w.tape
  output : w'.output = w.output
  size : w.heap.size ≤ w'.heap.size
  block : ∀ k, k < w.heap.size → ¬ S k → w'.heap[k]? = w.heap[k]?

section
variable {S S' : Nat → Prop} {w w1 w2 : World}
theorem Keeps.refl (S : Nat → Prop) (w : World) : Keeps S w w := ⟨rfl, rfl, rfl, Nat.le_refl _, fun _ _ _ => rfl⟩
theorem Keeps.trans (h : Keeps S w w1) (k : Keeps S w1 w2) : Keeps S w w2 :=
  ⟨k.os.trans h.os, k.tape.trans h.tape, k.output.trans h.output, Nat.le_trans h.size k.size, fun i hi hs => (k.block i (Nat.lt_of_lt_of_le hi h.size) hs).trans (h.block i hi hs)⟩
/-- Behind w1 blocks may be written that were not there at w. -/
theorem Keeps.then (h : Keeps S w w1) (k : Keeps S' w1 w2) (hs : ∀ i, S' i → S i ∨ w.heap.size ≤ i) : Keeps S w w2 :=
  ⟨k.os.trans h.os, k.tape.trans h.tape, k.output.trans h.output, Nat.le_trans h.size k.size, fun i hi hn => (k.block i (Nat.lt_of_lt_of_le hi h.size) (fun q => (hs i q).elim hn (fun r => by omega))).trans (h.block i hi hn)⟩
theorem Keeps.mono (h : Keeps S w w1) (hs : ∀ i, S i → S' i) : Keeps S' w w1 := ⟨h.os, h.tape, h.output, h.size, fun i hi hn => h.block i hi (fun q => hn (hs i q))⟩
theorem Keeps.of_below (h : Below w.heap.size w w1) : Keeps S w w1 := ⟨h.os, h.tape, h.output, h.size, fun i hi _ => h.block i hi⟩
theorem Keeps.of_grown {row : Option Nat} (h : w.grownBy w1 row) (hr : ∀ k, row = some k → S k ∨ w.heap.size ≤ k) : Keeps S w w1 :=
  ⟨h.os, h.tape, h.output, h.size, fun i hi hn => h.block i hi (fun e => (hr i e.symm).elim hn (fun r => by omega))⟩
theorem Keeps.below {B : Nat} (h : Keeps S w w1) (hB : B ≤ w.heap.size) (hs : ∀ i, S i → B ≤ i) : Below B w w1 :=
  ⟨h.os, h.tape, h.output, h.size, fun i hi => h.block i (Nat.lt_of_lt_of_le hi hB) (fun q => by have := hs i q; omega)⟩
theorem Keeps.alloc (h : Keeps S w w1) (o : Obj) : Keeps S w (w1.alloc o) :=
  h.trans ⟨rfl, rfl, rfl, by simp, fun k hk _ => Below.heap_alloc _ _ _ hk⟩
theorem Keeps.drew (h : Keeps S w w1) : Keeps S w w1.drew := ⟨h.os, h.tape, h.output, h.size, h.block⟩
theorem Keeps.drewN (h : Keeps S w w1) (n : Nat) : Keeps S w (w1.drewN n) := ⟨h.os, h.tape, h.output, h.size, h.block⟩
theorem Keeps.setCell (h : Keeps S w w1) {a : Addr} (ha : S a.block ∨ w.heap.size ≤ a.block) (v : Value) : Keeps S w (w1.setCell a v) :=
  ⟨h.os, h.tape, h.output, by simpa [World.setCell] using h.size, fun i hi hn => (Below.heap_setCell _ _ _ _ (fun e => by subst e; exact ha.elim hn (fun r => by omega))).trans (h.block i hi hn)⟩
theorem Keeps.cell (h : Keeps S w w1) {a : Addr} {v : Value} (hc : w.cell? a = some v) (hn : ¬ S a.block) : w1.cell? a = some v :=
  (World.cell?_of_block (h.block a.block (World.block_lt_of_cell? w a hc) hn)).trans hc
theorem Keeps.obj (h : Keeps S w w1) {b : Nat} {o : Obj} (hc : w.heap[b]? = some o) (hn : ¬ S b) : w1.heap[b]? = some o :=
  (h.block b (by obtain ⟨q, _⟩ := Array.getElem?_eq_some_iff.1 hc; exact q) hn).trans hc
theorem Keeps.mapV {P : Program} {k : TypeId} {b n : Nat} {f : Value → Option Value} (h : Keeps S w w1) (hm : MapV P w k b n f) (hn : ¬ S b) : MapV P w1 k b n f :=
  mapV_block hm (h.block b (mapV_lt hm) hn)
theorem Keeps.row {base : Nat} {e : TypeId} {size : Nat} {v : Value} {n : Nat} {xs : List Value} (h : Keeps S w w1) (hr : w.ownsRow base e size v n xs) (hn : ∀ k, v.ownBlock = some k → ¬ S k) : w1.ownsRow base e size v n xs := by
  refine ⟨hr.1, ?_⟩
  rcases hr.2 with h2 | ⟨g, cap, cur, rfl, hb, hg, rest⟩
  · exact .inl h2
  · exact .inr ⟨g, cap, cur, rfl, hb, h.obj hg (hn g rfl), rest⟩
end
end Go.Proofs.YthpfknlgfkecpaaDoor
end
section
/-
  Walk of chapter 3's members.
-/
set_option linter.unusedVariables false
set_option linter.unusedSimpArgs false
namespace Go.Proofs.YthpfknlgfkecpaaDoor
open Go.RowKit Go.Lib Go.Maps Go.WideMaps

namespace Sp
def inS (had : List (ByteArray × ByteArray)) (k : ByteArray × ByteArray) : Bool := had.any fun p => decide (p.1 = k.1) && decide (p.2 = k.2)
theorem inS_iff (had : List (ByteArray × ByteArray)) (a b : ByteArray) : inS had (a, b) = true ↔ (a, b) ∈ had := by
  unfold inS
  rw [List.any_eq_true]
  constructor
  · rintro ⟨⟨c, d⟩, hp, he⟩
    simp at he
    obtain ⟨rfl, rfl⟩ := he
    exact hp
  · intro h
    exact ⟨(a, b), h, by simp⟩
/-- The error of some members, in order; had: the names that were there before. -/
def memF (chk : Mb → Int) (key : Mb → ByteArray × ByteArray) : List (ByteArray × ByteArray) → List Mb → Int
  | _, [] => 0
  | had, m :: l => if chk m ≠ 0 then chk m else if inS had (key m) = true then 15 else memF chk key (key m :: had) l
def memS (chk : Mb → Int) (key : Mb → ByteArray × ByteArray) (l : List Mb) : Int := if 200 < l.length then 3 else memF chk key [] l
def keyM (p : List Cn) (method : Bool) (m : Mb) : ByteArray × ByteArray := ((cnameS p m.name).1, if method = true then (cnameS p m.desc).1 else ⟨#[]⟩)
open Classical in
/-- The names that were there, as a map. -/
noncomputable def hadF (had : List (ByteArray × ByteArray)) (x : Value) : Option Value := if ∃ p ∈ had, x = .agg #[.string p.1, .string p.2] then some (.int .i64 1) else none
theorem hadF_in {had : List (ByteArray × ByteArray)} {a b : ByteArray} (h : (a, b) ∈ had) : hadF had (.agg #[.string a, .string b]) = some (.int .i64 1) := by
  unfold hadF
  rw [if_pos ⟨(a, b), h, rfl⟩]
theorem hadF_out {had : List (ByteArray × ByteArray)} {a b : ByteArray} (h : (a, b) ∉ had) : hadF had (.agg #[.string a, .string b]) = none := by
  unfold hadF
  rw [if_neg]
  rintro ⟨⟨c, d⟩, hp, he⟩
  simp at he
  obtain ⟨rfl, rfl⟩ := he
  exact h hp
theorem hadF_put (had : List (ByteArray × ByteArray)) (a b : ByteArray) (x : Value) (h : x ≠ .agg #[.string a, .string b]) : hadF ((a, b) :: had) x = hadF had x := by
  unfold hadF
  congr 1
  apply propext
  constructor
  · rintro ⟨p, hp, he⟩
    rcases List.mem_cons.1 hp with rfl | hp
    · exact absurd he h
    · exact ⟨p, hp, he⟩
  · rintro ⟨p, hp, he⟩
    exact ⟨p, List.mem_cons_of_mem _ hp, he⟩
theorem hadF_nil (x : Value) : hadF [] x = none := by
  unfold hadF
  rw [if_neg]
  rintro ⟨p, hp, _⟩
  cases hp
end Sp

theorem keyArr : ArrKey Tryd.prog 154 9 2 := ⟨Tryd.underlying154, by kernel_rfl, by kernel_rfl, by kernel_rfl⟩
theorem keyLaw2 : Keyed Tryd.prog 154 := Keyed.of_law (deep_law_laid (m := 2) (by kernel_rfl) (by omega) (by exact of_decide_eq_true (by kernel_rfl)) (by kernel_rfl) (by rw [Tryd.underlying154]))
theorem zeroInt (w : World) : (zeroValue 3).run Tryd.prog w = .ok (.int .i64 0) w := by kernel_rfl
theorem keyOf2 (a b : ByteArray) (ha : a.size ≤ maxLen) (hb : b.size ≤ maxLen) : keyOf Tryd.prog 154 (.agg #[.string a, .string b]) = some (.string (keyBytes [.string a.data.toList, .string b.data.toList])) := by
  have A := keyArr
  obtain ⟨m, hm⟩ : ∃ m, Tryd.prog.types.size = m + 1 := ⟨Tryd.prog.types.size - 1, by have : 0 < Tryd.prog.types.size := of_decide_eq_true (by kernel_rfl); omega⟩
  have hkt := A.keyType ⟨m, hm⟩
  unfold keyOf
  simp only [A.hu]
  rw [if_pos (by simp [hkt, Value.formed, A.hu, A.size]), hm]
  unfold Program.keyLits
  simp only [A.hu, Value.cells]
  rw [if_pos (by rw [A.size]; rfl), show List.range 2 = [0, 1] from rfl, List.mapM_cons, List.mapM_cons, List.mapM_nil]
  simp [A.one, Program.keyLits, Tryd.underlying9, ha, hb]

set_option maxHeartbeats 16000000 in
set_option maxRecDepth 100000 in
theorem members_any (q : Sp.At) (F : FlP) (l : List Sp.Mp) (A : Option Addr) (c : Nat) (f : FuncId) (method : Bool) (chk : Sp.Mb → Int) (w : World) (hr : RdF w q F) (hm : RdM w A l) (hI : ∀ m ∈ l, In64 m.1.name ∧ In64 m.1.desc)
    (hz : ∀ c ∈ F.pool, c.text.size ≤ 1099511627776) (hent : ∀ (args : Array Value) W, (callFunc f args).run Tryd.prog W = .ok (.enter f args) W)
    (hchk : ∀ m ∈ l, ∀ W, Below w.heap.size w W → Calls Tryd.prog f #[.agg (flC q F), Sp.mbV m] W fun e W' => e = .returned (.int .i64 (chk m.1)) ∧ Below W.heap.size W W') :
    Calls Tryd.prog 90 #[.agg (flC q F), .slice A l.length c, .func (.func f) #[] #[], .bool method] w fun e w' => e = .returned (.int .i64 (Sp.memS chk (Sp.keyM F.pool method) (l.map (·.1)))) ∧ Below w.heap.size w w' := by
  have hmm := @run_makeMap Tryd.prog
  have HE := Lib.hid (show Sp.memS chk (Sp.keyM F.pool method) (l.map (·.1)) = _ by rw [Sp.memS])
  generalize Sp.memS chk (Sp.keyM F.pool method) (l.map (·.1)) = R at HE ⊢
  rw [List.length_map] at HE
  have hr0 := Lib.hid hr
  have hl := hm.1.1
  have HM := Lib.hid hm.1.2
  have HI := Lib.hid hI
  have HC := Lib.hid hchk
  have hzs := Lib.hid (Sp.cname_size F.pool hz)
  have kn := Lib.hid (fun i (hi : In64 i) W hr => cname_any q F i W hr hi)
  have hfl : flC q F = #[.slice q.A F.pool.length q.c, .int .i64 F.flags, .int .i64 F.this, .int .i64 F.super, .slice q.I F.ifaces.length q.d, .slice q.X F.fields.length q.e, .slice q.Y F.methods.length q.g] := rfl
  have hK := Lib.hid (blk_new w (.cells (flC q F) 53))
  have hB := (Below.refl w.heap.size w).alloc (Nat.le_refl _) (.cells (flC q F) 53)
  rw [hfl] at HC kn hB
  clear hr hm hI hchk hz
  by_cases h200 : 200 < l.length
  · have hR : R = 3 := by rw [HE.out, if_pos h200]
    have hzz : (200 : Int) < (l.length : Int) := by omega
    subst hR
    rw [hfl]
    clear HE hK hfl
    go_enter Tryd.func90, Tryd.ntmps90
    go_wp2
    go_step3
    go_wp2
    (try rw [Exit.noGoto_ret])
    go_ret
    exact ⟨rfl, hB⟩
  have hzz : decide ((200 : Int) < (l.length : Int)) = false := decide_eq_false (by omega)
  have HF := Lib.hid (show Sp.memF chk (Sp.keyM F.pool method) [] (l.map (·.1)) = R by rw [HE.out, if_neg h200])
  have K0 := Lib.hid (blk_old (o := .map #[] 0) hK.out)
  have B0 := Lib.hid (hB.alloc (by simp) (.map #[] 0))
  have M0 : Hid (MapV Tryd.prog ((w.alloc (.cells (flC q F) 53)).alloc (.map #[] 0)) 154 (w.heap.size + 1) 0 (Sp.hadF [])) := Lib.hid (by
    have := mapV_made (w.alloc (.cells (flC q F) 53)) Tryd.prog 154
    rw [show (w.alloc (.cells (flC q F) 53)).heap.size = w.heap.size + 1 by simp] at this
    exact mapV_congr this (fun x => by rw [Sp.hadF_nil]))
  clear HE hK hB
  rw [hfl] at K0 M0 ⊢
  clear hfl
  have hone : ((l.length : Int) == 1) = true ∨ (((l.length : Int) == 1) = false) := by cases ((l.length : Int) == 1) <;> simp
  go_enter Tryd.func90, Tryd.ntmps90
  go_wp2
  go_step3
  go_wp2
  go_step3
  go_wp2
  go_loopw [20] (fun v20 wr => ∃ (k : Nat) (had : List (ByteArray × ByteArray)), v20 = .int .i64 k ∧ k ≤ l.length ∧ Hid (Below w.heap.size w wr) ∧ Hid (wr.heap[w.heap.size]? = some (.cells #[.slice q.A F.pool.length q.c, .int .i64 F.flags, .int .i64 F.this, .int .i64 F.super, .slice q.I F.ifaces.length q.d, .slice q.X F.fields.length q.e, .slice q.Y F.methods.length q.g] 53 (0, 0))) ∧ Hid (((l.length : Int) == 1) = false → MapV Tryd.prog wr 154 (w.heap.size + 1) k (Sp.hadF had)) ∧ Hid (((l.length : Int) == 1) = true → k = 0 → had = []) ∧ Hid (Sp.memF chk (Sp.keyM F.pool method) had ((l.drop k).map (·.1)) = R)) (fun v20 _ => l.length - (RowKit.intOf v20).toNat)
  case atStart => exact ⟨0, [], by go_num, Nat.zero_le _, B0, K0, Lib.hid (fun _ => M0.out), Lib.hid (fun _ _ => rfl), HF⟩
  case round =>
    clear B0 K0 M0 HF
    obtain ⟨k, had, rfl, hk, HB, hK, hM, h0, hf⟩ := hrel
    have hb := HB.out
    have hbz := hb.size
    have hlb := blk_lt hK.out
    obtain ⟨c0, c1, c2, c3, c4, c5, c6⟩ := flC_box hK.out
    by_cases hlt : k < l.length
    · obtain ⟨b, o, rfl, hrg⟩ := HM.out (by omega)
      obtain ⟨d0, d1, d2, d3, d4, d5, d6⟩ := mb_cells hrg hlt
      have D0 := cell_below hb d0
      have D1 := cell_below hb d1
      have D2 := cell_below hb d2
      have D3 := cell_below hb d3
      have D4 := cell_below hb d4
      have D5 := cell_below hb d5
      have D6 := cell_below hb d6
      have hzk : (k : Int) < (l.length : Int) := by omega
      have hin := HI.out _ (List.getElem_mem hlt)
      have hcm := Lib.hid (HC.out _ (List.getElem_mem hlt))
      have hf2 := hf.out
      rw [List.drop_eq_getElem_cons hlt, List.map_cons, Sp.memF] at hf2
      have hf3 := Lib.hid hf2
      clear hf hf2 hrg d0 d1 d2 d3 d4 d5 d6
      generalize l[k] = m at *
      obtain ⟨⟨mf, mn, md, ms, ml, mc, mh⟩, mA, mcap⟩ := m
      simp only [] at D0 D1 D2 D3 D4 D5 D6 hin hcm hf3
      obtain ⟨hin1, hin2⟩ := hin
      have hin1 := Lib.hid hin1
      have hin2 := Lib.hid hin2
      unfold Sp.mbV at hcm
      simp only [] at hcm
      have hbt := hb.alloc hbz (.cells #[.int .i64 mf, .int .i64 mn, .int .i64 md, .int .i64 ms, .int .i64 ml, .string mc, .slice mA mh.length mcap] 65)
      have hKt := Lib.hid (blk_old (o := .cells #[.int .i64 mf, .int .i64 mn, .int .i64 md, .int .i64 ms, .int .i64 ml, .string mc, .slice mA mh.length mcap] 65) hK.out)
      have hMt := Lib.hid (blk_new wr (.cells #[.int .i64 mf, .int .i64 mn, .int .i64 md, .int .i64 ms, .int .i64 ml, .string mc, .slice mA mh.length mcap] 65))
      have hMa := Lib.hid (fun h => mapV_alloc (hM.out h) (.cells #[.int .i64 mf, .int .i64 mn, .int .i64 md, .int .i64 ms, .int .i64 ml, .string mc, .slice mA mh.length mcap] 65))
      have hbtz := hbt.size
      generalize hcv : chk ⟨mf, mn, md, ms, ml, mc, mh⟩ = cv at *
      go_wp2_with fail
      refine (hcm.out _ hbt).mono ?_
      rintro e w2 ⟨rfl, hb2⟩
      have K2 := Lib.hid (blk_below hKt.out hb2)
      have M2 := Lib.hid (blk_below hMt.out hb2)
      have A2 := Lib.hid (fun h => mapV_block (hMa.out h) (hb2.block _ (mapV_lt (hMa.out h))))
      have B2 := below_then hbt hbtz hb2
      have S2 := B2.size
      clear hb HB hK hM hlb c0 c1 c2 c3 c4 c5 c6 D0 D1 D2 D3 D4 D5 D6 hcm hbt hKt hMt hMa hbtz hb2 hcv
      by_cases hcz : cv = 0
      · subst hcz
        have hf4 := Lib.hid hf3.out
        rw [if_neg (by simp)] at hf4
        clear hf3
        rcases hone with h1 | h1
        · have hl1 : l.length = 1 := by have := beq_iff_eq.1 h1; omega
          have hk0 : k = 0 := by omega
          subst hk0
          have hd := h0.out h1 rfl
          subst hd
          rw [if_neg (by simp [Sp.inS])] at hf4
          have A3 : Hid (((l.length : Int) == 1) = false → MapV Tryd.prog w2 154 (w.heap.size + 1) (0 + 1) (Sp.hadF [Sp.keyM F.pool method ⟨mf, mn, md, ms, ml, mc, mh⟩])) := Lib.hid (fun h => by rw [h1] at h; cases h)
          have A4 : Hid (((l.length : Int) == 1) = true → 0 + 1 = 0 → [Sp.keyM F.pool method ⟨mf, mn, md, ms, ml, mc, mh⟩] = ([] : List (ByteArray × ByteArray))) := Lib.hid (fun _ h => by omega)
          have B2' := Lib.hid B2
          have hl1 := Lib.hid hl1
          clear h0 A2 B2
          go_wp2
          go_roundw
          case rel =>
            have e := hl1.out
            rw [e] at A3 A4 ⊢
            (repeat apply Exists.intro)
            exact ⟨⟨0 + 1, _, by go_num, by omega, B2', K2, A3, A4, hf4⟩, rfl⟩
          case measure => have := hl1.out; simp [RowKit.intOf]; omega
        · obtain ⟨c0, c1, c2, c3, c4, c5, c6⟩ := flC_box K2.out
          have e1 := (blk_cell M2.out 1 (.int .i64 mn) rfl).1
          have A3 := Lib.hid (A2.out h1)
          clear A2 h0
          have hn1 := Lib.hid (hzs.out mn)
          have hn2 := Lib.hid (hzs.out md)
          have kn1 := Lib.hid (fun W hr => kn.out mn hin1.out W hr)
          have kn2 := Lib.hid (fun W hr => kn.out md hin2.out W hr)
          have hkey : Sp.keyM F.pool method ⟨mf, mn, md, ms, ml, mc, mh⟩ = ((Sp.cnameS F.pool mn).1, if method = true then (Sp.cnameS F.pool md).1 else ⟨#[]⟩) := rfl
          rw [hkey] at hf4
          have hf5 := Lib.hid hf4
          clear hf4 hkey kn hzs
          generalize Sp.cnameS F.pool mn = N1 at *
          generalize Sp.cnameS F.pool md = N2 at *
          obtain ⟨n1, z1⟩ := N1
          obtain ⟨n2, z2⟩ := N2
          simp only [] at hn1 hn2 kn1 kn2 hf5
          have hB3 := Lib.hid (B2.alloc S2 (.cells #[.string ⟨#[]⟩, .string ⟨#[]⟩] 154))
          have hz3 := hB3.out.size
          have hR3 := Lib.hid (rdF_below hr0.out (hB3.out))
          have hlb2 := blk_lt K2.out
          have hlm2 := blk_lt M2.out
          have hml := mapV_lt A3.out
          have hbm : w.heap.size + 1 ≠ w2.heap.size := by omega
          have K3 := Lib.hid (blk_old (o := .cells #[.string ⟨#[]⟩, .string ⟨#[]⟩] 154) K2.out)
          have M3 := Lib.hid (blk_old (o := .cells #[.string ⟨#[]⟩, .string ⟨#[]⟩] 154) M2.out)
          have A5 := Lib.hid (mapV_alloc A3.out (.cells #[.string ⟨#[]⟩, .string ⟨#[]⟩] 154))
          have C3 := Lib.hid (blk_new w2 (.cells #[.string ⟨#[]⟩, .string ⟨#[]⟩] 154))
          clear B2 K2 A3
          go_wp2_with fail
          refine (kn1.out _ hR3.out).mono ?_
          rintro e w4 ⟨rfl, hb4⟩
          have hB4 := Lib.hid (below_then hB3.out hz3 hb4)
          have hz4 := hB4.out.size
          have K4 := Lib.hid (blk_below K3.out hb4)
          have M4 := Lib.hid (blk_below M3.out hb4)
          have C4 := Lib.hid (blk_below C3.out hb4)
          have A6 := Lib.hid (mapV_block A5.out (hb4.block _ (mapV_lt A5.out)))
          have hlk4 := blk_lt K4.out
          have hlm4 := blk_lt M4.out
          have hlc4 := blk_lt C4.out
          clear hb4 K3 M3 C3 A5 hB3 hz3 hR3 kn1 c0 c1 c2 c3 c4 c5 c6 e1 hml M2
          obtain ⟨a0, g0⟩ := blk_cell C4.out 0 _ rfl
          obtain ⟨a1, g1⟩ := blk_cell C4.out 1 _ rfl
          have K5 := Lib.hid (blk_other K4.out ⟨w2.heap.size, 0, none⟩ (.string n1) (by simp; omega))
          have M5 := Lib.hid (blk_other M4.out ⟨w2.heap.size, 0, none⟩ (.string n1) (by simp; omega))
          have C5 : Hid ((w4.setCell ⟨w2.heap.size, 0, none⟩ (.string n1)).heap[w2.heap.size]? = some (.cells #[.string n1, .string ⟨#[]⟩] 154 (0, 0))) := Lib.hid (blk_set (i := 0) C4.out (.string n1))
          have MM := Lib.hid (mapV_set A6.out (a := ⟨w2.heap.size, 0, none⟩) (by simp; omega) (.string n1))
          have B5 := Lib.hid (hB4.out.setCell (p := ⟨w2.heap.size, 0, none⟩) (by simp; omega) (.string n1))
          clear A6
          cases method
          · simp only [Bool.false_eq_true, if_false] at hf5
            clear kn2
            have kS := Lib.hid (keyOf2 n1 ⟨#[]⟩ (by have := hn1.out; unfold maxLen; omega) (by decide))
            have P1 := Lib.hid (Sp.hadF_in (had := (n1, ⟨#[]⟩) :: had) (List.mem_cons_self ..))
            have P2 := Lib.hid (Sp.hadF_put had n1 ⟨#[]⟩)
            by_cases hi : Sp.inS had (n1, ⟨#[]⟩) = true
            · have hR : R = 15 := by have := hf5.out; first | rw [if_pos hi] at this; exact this.symm | (simp [hi] at this; exact this.symm)
              have HA := Lib.hid (Sp.hadF_in ((Sp.inS_iff _ _ _).1 hi))
              subst hR
              clear hf5 hi
              go_wp2_with (at_lookup; refine wpList_lookup_mapV _ rfl _ _ 153 rfl 154 3 keyLaw2 Tryd.underlying153 (zeroInt _) (w.heap.size + 1) k (Sp.hadF had) rfl MM.out _ _ rfl kS.out (some (.int .i64 1)) HA.out ?_)
              (try rw [Exit.noGoto_ret])
              go_ret
              exact ⟨rfl, B5.out⟩
            · have HA := Lib.hid (Sp.hadF_out (fun q => hi ((Sp.inS_iff _ _ _).2 q)))
              have hf6 := Lib.hid (show Sp.memF chk (Sp.keyM F.pool false) ((n1, ⟨#[]⟩) :: had) ((l.drop (k + 1)).map (·.1)) = R by have := hf5.out; first | (rw [if_neg hi] at this; exact this) | (simp [hi] at this; exact this))
              clear hf5 hi
              go_wp2_with (first | (at_lookup; refine wpList_lookup_mapV _ rfl _ _ 153 rfl 154 3 keyLaw2 Tryd.underlying153 (zeroInt _) (w.heap.size + 1) k (Sp.hadF had) rfl MM.out _ _ rfl kS.out none HA.out ?_) | (at_mapUpdate; refine wpList_mapUpdate_mapV _ rfl _ _ _ 153 rfl 154 3 keyLaw2 Tryd.underlying153 (w.heap.size + 1) k (Sp.hadF had) (Sp.hadF ((n1, ⟨#[]⟩) :: had)) rfl MM.out ?y1 _ _ _ rfl rfl kS.out P1.out P2.out ?_))
              case y1 => unfold maxLen; omega
              intro w9 m9 hg9
              have K9 := Lib.hid (blk_grown K5.out hg9 (by intro e; injection e; omega))
              have B9 := Lib.hid (B5.out.grown hg9 (by have := B5.out.size; omega) (fun q hq => by injection hq with hq; omega))
              have M9 := Lib.hid (fun (_ : ((l.length : Int) == 1) = false) => m9)
              have h9 : Hid (((l.length : Int) == 1) = true → k + 1 = 0 → (n1, ⟨#[]⟩) :: had = []) := Lib.hid (fun _ h => by omega)
              clear m9 hg9 MM
              go_wp2
              go_roundw
              case rel => exact ⟨k + 1, _, by go_num, by omega, B9, K9, M9, h9, hf6⟩
              case measure => simp [RowKit.intOf]; omega
          · simp only [if_true] at hf5
            obtain ⟨c0, c1, c2, c3, c4, c5, c6⟩ := flC_box K4.out
            have e2 := (blk_cell M4.out 2 (.int .i64 md) rfl).1
            have hR5 := Lib.hid (rdF_below hr0.out B5.out)
            have hz5 := B5.out.size
            go_wp2_with fail
            refine (kn2.out _ hR5.out).mono ?_
            rintro e w6 ⟨rfl, hb6⟩
            have hB6 := Lib.hid (below_then B5.out hz5 hb6)
            have hz6 := hB6.out.size
            have K6 := Lib.hid (blk_below K5.out hb6)
            have M6 := Lib.hid (blk_below M5.out hb6)
            have C6 := Lib.hid (blk_below C5.out hb6)
            have A7 := Lib.hid (mapV_block MM.out (hb6.block _ (mapV_lt MM.out)))
            have hlk6 := blk_lt K6.out
            have hlm6 := blk_lt M6.out
            have hlc6 := blk_lt C6.out
            clear hb6 K5 M5 C5 MM B5 hz5 hR5 kn2 c0 c1 c2 c3 c4 c5 c6 e2 a0 a1 g0 g1 K4 M4 C4 hB4
            obtain ⟨a0, g0⟩ := blk_cell C6.out 0 _ rfl
            obtain ⟨a1, g1⟩ := blk_cell C6.out 1 _ rfl
            have K7 := Lib.hid (blk_other K6.out ⟨w2.heap.size, 1, none⟩ (.string n2) (by simp; omega))
            have MN := Lib.hid (mapV_set A7.out (a := ⟨w2.heap.size, 1, none⟩) (by simp; omega) (.string n2))
            have B7 := Lib.hid (hB6.out.setCell (p := ⟨w2.heap.size, 1, none⟩) (by simp; omega) (.string n2))
            clear A7 K6 hB6
            have kS := Lib.hid (keyOf2 n1 n2 (by have := hn1.out; unfold maxLen; omega) (by have := hn2.out; unfold maxLen; omega))
            have P1 := Lib.hid (Sp.hadF_in (had := (n1, n2) :: had) (List.mem_cons_self ..))
            have P2 := Lib.hid (Sp.hadF_put had n1 n2)
            by_cases hi : Sp.inS had (n1, n2) = true
            · have hR : R = 15 := by have := hf5.out; first | rw [if_pos hi] at this; exact this.symm | (simp [hi] at this; exact this.symm)
              have HA := Lib.hid (Sp.hadF_in ((Sp.inS_iff _ _ _).1 hi))
              subst hR
              clear hf5 hi
              go_wp2_with (at_lookup; refine wpList_lookup_mapV _ rfl _ _ 153 rfl 154 3 keyLaw2 Tryd.underlying153 (zeroInt _) (w.heap.size + 1) k (Sp.hadF had) rfl MN.out _ _ rfl kS.out (some (.int .i64 1)) HA.out ?_)
              (try rw [Exit.noGoto_ret])
              go_ret
              exact ⟨rfl, B7.out⟩
            · have HA := Lib.hid (Sp.hadF_out (fun q => hi ((Sp.inS_iff _ _ _).2 q)))
              have hf6 := Lib.hid (show Sp.memF chk (Sp.keyM F.pool true) ((n1, n2) :: had) ((l.drop (k + 1)).map (·.1)) = R by have := hf5.out; first | (rw [if_neg hi] at this; exact this) | (simp [hi] at this; exact this))
              clear hf5 hi
              go_wp2_with (first | (at_lookup; refine wpList_lookup_mapV _ rfl _ _ 153 rfl 154 3 keyLaw2 Tryd.underlying153 (zeroInt _) (w.heap.size + 1) k (Sp.hadF had) rfl MN.out _ _ rfl kS.out none HA.out ?_) | (at_mapUpdate; refine wpList_mapUpdate_mapV _ rfl _ _ _ 153 rfl 154 3 keyLaw2 Tryd.underlying153 (w.heap.size + 1) k (Sp.hadF had) (Sp.hadF ((n1, n2) :: had)) rfl MN.out ?y1 _ _ _ rfl rfl kS.out P1.out P2.out ?_))
              case y1 => unfold maxLen; omega
              intro w9 m9 hg9
              have K9 := Lib.hid (blk_grown K7.out hg9 (by intro e; injection e; omega))
              have B9 := Lib.hid (B7.out.grown hg9 (by have := B7.out.size; omega) (fun q hq => by injection hq with hq; omega))
              have M9 := Lib.hid (fun (_ : ((l.length : Int) == 1) = false) => m9)
              have h9 : Hid (((l.length : Int) == 1) = true → k + 1 = 0 → (n1, n2) :: had = []) := Lib.hid (fun _ h => by omega)
              clear m9 hg9 MN
              go_wp2
              go_roundw
              case rel => exact ⟨k + 1, _, by go_num, by omega, B9, K9, M9, h9, hf6⟩
              case measure => simp [RowKit.intOf]; omega
      · have hcb : (cv != 0) = true := by simp [hcz]
        have hR : R = cv := by rw [← hf3.out, if_pos hcz]
        subst hR
        clear hf3 hcz
        go_wp2
        (try rw [Exit.noGoto_ret])
        go_ret
        exact ⟨rfl, B2⟩
    · obtain rfl : k = l.length := by omega
      have hzk : ¬ (l.length : Int) < (l.length : Int) := by omega
      have hR : R = 0 := by rw [← hf.out, List.drop_length]; rfl
      subst hR
      clear hf
      go_wp2
      (try rw [Exit.noGoto_ret])
      go_ret
      exact ⟨rfl, hb⟩
end Go.Proofs.YthpfknlgfkecpaaDoor
end
