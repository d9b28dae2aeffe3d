/-
  Texts of the proof, joined.
-/
import Derived.Test.YtjjlcoimaihdoaaGreatDoorJh2
set_option linter.unusedVariables false
set_option linter.unusedSimpArgs false
namespace Go.Proofs.YtjjlcoimaihdoaaGreatDoor
open Go.RowKit Go.Lib
theorem infoTy : (Tryz.prog.info? 38).map (fun i => (i.zero, i.size, i.bytes)) = some (some (.agg #[.int .i64 0, .string ⟨#[]⟩]), 2, 24) := by kernel_rfl
theorem sig_load (w : World) (b : Nat) {x y z u : Value} (h0 : w.cell? ⟨b, 0, none⟩ = some x) (h1 : w.cell? ⟨b, 1, none⟩ = some y) (h2 : w.cell? ⟨b, 2, none⟩ = some z) (h3 : w.cell? ⟨b, 3, none⟩ = some u) : (loadVar 303 ⟨b, 0, none⟩).run Tryz.prog w = .ok (.agg #[x, y, z, u]) w :=
 run_loadVar_mid w b 0 303 [x, y, z, u] _ (fun j v hj => by
  match j, hj with
  | 0, hj => simp at hj; subst hj; exact h0
  | 1, hj => simp at hj; subst hj; exact h1
  | 2, hj => simp at hj; subst hj; exact h2
  | 3, hj => simp at hj; subst hj; exact h3
  | j + 4, hj => simp at hj) Tryz.underlying303 rfl (by kernel_rfl)
namespace Sp
theorem trimPre (s : ByteArray) (h : bt s 0 = 40) : (⟨(Lib.trimPrefix s.data.toList (⟨#[40]⟩ : ByteArray).data.toList).toArray⟩ : ByteArray) = s.extract 1 s.size := by
 have hp := (pre_bt s 40 (by decide)).2 h
 apply ext_list
 have e : (⟨#[40]⟩ : ByteArray).data.toList = [40] := rfl
 rw [e]
 unfold Lib.trimPrefix
 rw [hp]
 simp
 exact (List.take_of_length_le (by rw [List.length_tail]; exact Nat.le_refl _)).symm
end Sp
set_option maxHeartbeats 8000000 in
set_option maxRecDepth 100000 in
theorem method_any (s : ByteArray) (w : World) (hs : s.size ≤ 1099511627776) (hT : Tabs w) :
  Calls Tryz.prog 238 #[.string s] w fun e w' => ∃ A c, e = .returned (.tuple #[Sp.sigV A c (Sp.methodS s).1, .int .i64 (Sp.methodS s).2]) ∧ RdT w' A (Sp.methodS s).1.1 ∧ Below w.heap.size w w' := by
 obtain ⟨i0, hi, hz0, hz1, hz2⟩ := info_parts infoTy
 have T0 := Lib.hid hT
 clear hT
 have HE := Lib.hid (show Sp.methodS s = _ by rw [Sp.methodS])
 generalize Sp.methodS s = R at HE ⊢
 have k1 := Lib.hid (fun W => Tryz.strings_CutPrefix s ⟨#[40]⟩ W)
 have hp := Sp.pre_bt s 40 (by decide)
 have e40 : (⟨#[40]⟩ : ByteArray).data.toList = [40] := rfl
 by_cases h40 : Sp.bt s 0 = 40
 ·have h1 := hp.2 h40
  have hpos := Sp.pre_size s 40 h1
  rw [Sp.trimPre s h40, e40, h1] at k1
  rw [if_pos h40] at HE
  have htz : (s.extract 1 s.size).size + 1 ≤ s.size := by simp; omega
  generalize s.extract 1 s.size = t0 at *
  clear hp h1 e40
  go_enter Tryz.func238, Tryz.ntmps238
  go_wp2_with fail
  refine (k1.out _).mono ?_
  rintro e w1 ⟨rfl, rfl⟩
  go_wp2_with fail
  refine (reads_any _ _).mono ?_
  rintro e w1 ⟨rfl, rfl⟩
  go_wp2
  go_loopw [4] (fun v4 wr => ∃ (t : ByteArray) (f : Nat) (acc : List Sp.Ty) (A : Option Addr) (c : Nat), v4 = .string t
    ∧ Hid (wr.heap[w.heap.size]? = some (.cells #[.slice none 0 0, .int .i64 0, .string ⟨#[]⟩, .bool false] 303 (0, 0)))
    ∧ Hid (wr.heap[w.heap.size + 1]? = some (.cells #[.slice A acc.length c, .int .i64 0, .string ⟨#[]⟩, .bool false] 303 (0, 0)))
    ∧ Hid (wr.cell? ⟨w.heap.size + 1 + 1, 0, none⟩ = some (.string t) ∧ wr.frozen? ⟨w.heap.size + 1 + 1, 0, none⟩ = false)
    ∧ wr.ownsRow (w.heap.size + 3) 38 2 (.slice A acc.length c) acc.length (Sp.tyCells acc)
    ∧ Below w.heap.size w wr ∧ t.size + 1 ≤ f ∧ t.size + acc.length ≤ s.size ∧ Hid (R = Sp.endS (Sp.ahead acc (Sp.argsF f t)))) (fun v4 _ => (strOf v4).size)
  case atStart =>
   refine ⟨t0, s.size, [], none, 0, rfl, Lib.hid ?_, Lib.hid ?_, Lib.hid ?_, ⟨rfl, .inl ⟨rfl, rfl⟩⟩, ?_, htz, by simp; omega, Lib.hid (by rw [Sp.ahead_nil]; exact HE.out)⟩
   ·exact blk_old (blk_old (blk_new _ _))
   ·exact blk_old (by have := blk_new (w.alloc (.cells #[.slice none 0 0, .int .i64 0, .string ⟨#[]⟩, .bool false] 303)) (.cells #[.slice none 0 0, .int .i64 0, .string ⟨#[]⟩, .bool false] 303); simpa using this)
   ·have := blk_new ((w.alloc (.cells #[.slice none 0 0, .int .i64 0, .string ⟨#[]⟩, .bool false] 303)).alloc (.cells #[.slice none 0 0, .int .i64 0, .string ⟨#[]⟩, .bool false] 303)) (.cells #[.string t0] 9)
    exact blk1 (by simpa using this)
   ·(repeat (first | with_reducible assumption | with_reducible exact Below.refl _ _ | (with_reducible refine Below.setCell ?_ (by first | exact Nat.le_refl _ | omega | (simp; done) | (simp; omega)) _) | (with_reducible refine Below.alloc ?_ (by first | exact Nat.le_refl _ | omega | (simp; done) | (simp; omega)) _) | (with_reducible refine Below.drew ?_)))
  case round =>
   clear HE
   obtain ⟨t, f, acc, A, c, rfl, H0, H1, H2, hown, hb, hf, hal, hX⟩ := hrel
   have hlt := World.block_lt_of_cell? _ _ H2.out.1
   obtain ⟨g, rfl⟩ : ∃ g, f = g + 1 := ⟨f - 1, by omega⟩
   have k2 := Lib.hid (fun W => Tryz.strings_HasPrefix t ⟨#[41]⟩ W)
   have e41 : (⟨#[41]⟩ : ByteArray).data.toList = [41] := rfl
   rw [e41] at k2
   have hp := Sp.pre_bt t 41 (by decide)
   have hp0 := Sp.pre_size t 41
   have hX2 := hX.out
   rw [Sp.argsF] at hX2
   clear hX
   obtain ⟨⟨c00, c01, c02, c03⟩, f00, f01, f02, f03⟩ := blk4 H0.out
   obtain ⟨⟨c10, c11, c12, c13⟩, f10, f11, f12, f13⟩ := blk4 H1.out
   have hrd := Lib.hid (own_rdT hown).2
   have hna := own_len hown
   by_cases h41 : Sp.bt t 0 = 41
   ·have hpp := hp.2 h41
    have htp := hp0 hpp
    rw [if_pos h41] at hX2
    rw [hpp] at k2
    have hX := Lib.hid (show R = Sp.finS acc t by rw [hX2]; simp [Sp.ahead, Sp.endS])
    clear hX2 hp hp0 hpp
    have hown' := Lib.hid hown
    clear hown
    go_wp2_with fail
    refine (k2.out _).mono ?_
    rintro e w1 ⟨rfl, rfl⟩
    clear k2
    by_cases hv : t = ⟨#[41, 86]⟩
    ·subst hv
     have hX' := Lib.hid (show R = Sp.doneS acc Sp.t0 true by rw [hX.out, Sp.finS, if_pos (show (⟨#[41, 86]⟩ : ByteArray) = Sp.B [41, 86] from rfl)])
     clear hX
     by_cases h16 : 16 < acc.length
     ·have hR : R = (Sp.sig0, 3) := by rw [hX'.out, Sp.doneS, if_pos h16]
      have hz : (16 : Int) < (acc.length : Int) := by omega
      subst hR
      clear hX'
      go_wp2
      (try simp only [Exit.inBlock, Exit.then]); refine bodyPost_ret (results_ct rfl _ _ _ rfl (sig_load _ w.heap.size (x := .slice none 0 0) (y := .int .i64 0) (z := .string ⟨#[]⟩) (u := .bool false) (by (repeat (first | with_reducible assumption | (with_reducible apply World.cell?_setCell_same) | (with_reducible refine cell_alloc _ _ ?_) | (refine (World.cell?_setCell_other _ _ _ _ (by first | (simp; done) | (intro q; simp at q; done) | (intro q; simp at q; omega))).trans ?_)))) (by (repeat (first | with_reducible assumption | (with_reducible apply World.cell?_setCell_same) | (with_reducible refine cell_alloc _ _ ?_) | (refine (World.cell?_setCell_other _ _ _ _ (by first | (simp; done) | (intro q; simp at q; done) | (intro q; simp at q; omega))).trans ?_)))) (by (repeat (first | with_reducible assumption | (with_reducible apply World.cell?_setCell_same) | (with_reducible refine cell_alloc _ _ ?_) | (refine (World.cell?_setCell_other _ _ _ _ (by first | (simp; done) | (intro q; simp at q; done) | (intro q; simp at q; omega))).trans ?_)))) (by (repeat (first | with_reducible assumption | (with_reducible apply World.cell?_setCell_same) | (with_reducible refine cell_alloc _ _ ?_) | (refine (World.cell?_setCell_other _ _ _ _ (by first | (simp; done) | (intro q; simp at q; done) | (intro q; simp at q; omega))).trans ?_)))))) rfl ?_
      exact ⟨none, ⟨0, rfl⟩, rdT_nil _ _, by (repeat (first | with_reducible assumption | with_reducible exact Below.refl _ _ | (with_reducible refine Below.setCell ?_ (by first | exact Nat.le_refl _ | omega | (simp; done) | (simp; omega)) _) | (with_reducible refine Below.alloc ?_ (by first | exact Nat.le_refl _ | omega | (simp; done) | (simp; omega)) _) | (with_reducible refine Below.drew ?_)))⟩
     ·have hR : R = ((acc, Sp.t0, true), 0) := by rw [hX'.out, Sp.doneS, if_neg h16]
      have hz : ¬ (16 : Int) < (acc.length : Int) := by omega
      subst hR
      clear hX'
      go_wp2
      (try simp only [Exit.inBlock, Exit.then]); refine bodyPost_ret (results_ct rfl _ _ _ rfl (sig_load _ w.heap.size (x := .slice A acc.length c) (y := .int .i64 0) (z := .string ⟨#[]⟩) (u := .bool true) (by (repeat (first | with_reducible assumption | (with_reducible apply World.cell?_setCell_same) | (with_reducible refine cell_alloc _ _ ?_) | (refine (World.cell?_setCell_other _ _ _ _ (by first | (simp; done) | (intro q; simp at q; done) | (intro q; simp at q; omega))).trans ?_)))) (by (repeat (first | with_reducible assumption | (with_reducible apply World.cell?_setCell_same) | (with_reducible refine cell_alloc _ _ ?_) | (refine (World.cell?_setCell_other _ _ _ _ (by first | (simp; done) | (intro q; simp at q; done) | (intro q; simp at q; omega))).trans ?_)))) (by (repeat (first | with_reducible assumption | (with_reducible apply World.cell?_setCell_same) | (with_reducible refine cell_alloc _ _ ?_) | (refine (World.cell?_setCell_other _ _ _ _ (by first | (simp; done) | (intro q; simp at q; done) | (intro q; simp at q; omega))).trans ?_)))) (by (repeat (first | with_reducible assumption | (with_reducible apply World.cell?_setCell_same) | (with_reducible refine cell_alloc _ _ ?_) | (refine (World.cell?_setCell_other _ _ _ _ (by first | (simp; done) | (intro q; simp at q; done) | (intro q; simp at q; omega))).trans ?_)))))) rfl ?_
      exact ⟨A, ⟨c, rfl⟩, (own_rdT (show World.ownsRow _ (w.heap.size + 3) 38 2 (.slice A acc.length c) acc.length (Sp.tyCells acc) from by have := hown'.out; (repeat (first | with_reducible assumption | (with_reducible refine ownsRow_setCell_below ?_ (by first | (simp; done) | (simp; omega)) _) | (with_reducible refine World.ownsRow.alloc ?_ _) | (with_reducible refine World.ownsRow.drew ?_))))).2, by (repeat (first | with_reducible assumption | with_reducible exact Below.refl _ _ | (with_reducible refine Below.setCell ?_ (by first | exact Nat.le_refl _ | omega | (simp; done) | (simp; omega)) _) | (with_reducible refine Below.alloc ?_ (by first | exact Nat.le_refl _ | omega | (simp; done) | (simp; omega)) _) | (with_reducible refine Below.drew ?_)))⟩
    ·have hX' := Lib.hid (show R = if (Sp.fieldS (t.extract 1 t.size)).2 = 0 then Sp.doneS acc (Sp.fieldS (t.extract 1 t.size)).1 false else (Sp.sig0, 9) by rw [hX.out, Sp.finS, if_neg (show ¬ t = Sp.B [41, 86] from hv)])
     clear hX
     have hfs := (by simp; omega : (t.extract 1 t.size).size ≤ 1099511627776)
     have k3 := Lib.hid (fun W hT => field_any (t.extract 1 t.size) W hfs hT)
     have hfe := Sp.fieldS_err (t.extract 1 t.size)
     have hvb : (t.toList == [41, 86]) = false := by
      rw [Bool.eq_false_iff]
      intro r
      exact hv ((bytes_beq_iff t ⟨#[41, 86]⟩).1 (by simpa using r))
     generalize Sp.fieldS (t.extract 1 t.size) = F at *
     obtain ⟨⟨fd, fn⟩, fe⟩ := F
     simp only [Sp.tyV] at k3 hX' hfe
     go_wp2_with fail
     refine (k3.out _ (T0.out.below hb)).mono ?_
     rintro e w1 ⟨rfl, hb1⟩
     clear k3
     have G0 := Lib.hid (blk_below H0.out hb1)
     have G1 := Lib.hid (blk_below H1.out hb1)
     have hown1 := Lib.hid (own_below hown'.out hb1)
     have hb' := below_then hb (hb.size) hb1
     clear H0 H1 H2 hown' hrd hb1 hb c00 c01 c02 c03 c10 c11 c12 c13 f00 f01 f02 f03 f10 f11 f12 f13
     obtain ⟨⟨c00, c01, c02, c03⟩, f00, f01, f02, f03⟩ := blk4 G0.out
     obtain ⟨⟨c10, c11, c12, c13⟩, f10, f11, f12, f13⟩ := blk4 G1.out
     have hlt1 := blk_lt G1.out
     have hlt0 := blk_lt G0.out
     by_cases h0 : fe = 0
     ·have hX2 := Lib.hid (show R = Sp.doneS acc (fd, fn) false by rw [hX'.out, if_pos h0])
      clear hX' hfe
      subst h0
      by_cases h16 : 16 < acc.length
      ·have hR : R = (Sp.sig0, 3) := by rw [hX2.out, Sp.doneS, if_pos h16]
       have hz : (16 : Int) < (acc.length : Int) := by omega
       subst hR
       clear hX2
       go_wp2
       (try simp only [Exit.inBlock, Exit.then]); refine bodyPost_ret (results_ct rfl _ _ _ rfl (sig_load _ w.heap.size (x := .slice none 0 0) (y := .int .i64 0) (z := .string ⟨#[]⟩) (u := .bool false) (by (repeat (first | with_reducible assumption | (with_reducible apply World.cell?_setCell_same) | (with_reducible refine cell_alloc _ _ ?_) | (refine (World.cell?_setCell_other _ _ _ _ (by first | (simp; done) | (intro q; simp at q; done) | (intro q; simp at q; omega))).trans ?_)))) (by (repeat (first | with_reducible assumption | (with_reducible apply World.cell?_setCell_same) | (with_reducible refine cell_alloc _ _ ?_) | (refine (World.cell?_setCell_other _ _ _ _ (by first | (simp; done) | (intro q; simp at q; done) | (intro q; simp at q; omega))).trans ?_)))) (by (repeat (first | with_reducible assumption | (with_reducible apply World.cell?_setCell_same) | (with_reducible refine cell_alloc _ _ ?_) | (refine (World.cell?_setCell_other _ _ _ _ (by first | (simp; done) | (intro q; simp at q; done) | (intro q; simp at q; omega))).trans ?_)))) (by (repeat (first | with_reducible assumption | (with_reducible apply World.cell?_setCell_same) | (with_reducible refine cell_alloc _ _ ?_) | (refine (World.cell?_setCell_other _ _ _ _ (by first | (simp; done) | (intro q; simp at q; done) | (intro q; simp at q; omega))).trans ?_)))))) rfl ?_
       exact ⟨none, ⟨0, rfl⟩, rdT_nil _ _, by (repeat (first | with_reducible assumption | with_reducible exact Below.refl _ _ | (with_reducible refine Below.setCell ?_ (by first | exact Nat.le_refl _ | omega | (simp; done) | (simp; omega)) _) | (with_reducible refine Below.alloc ?_ (by first | exact Nat.le_refl _ | omega | (simp; done) | (simp; omega)) _) | (with_reducible refine Below.drew ?_)))⟩
      ·have hR : R = ((acc, (fd, fn), false), 0) := by rw [hX2.out, Sp.doneS, if_neg h16]
       have hz : ¬ (16 : Int) < (acc.length : Int) := by omega
       subst hR
       clear hX2
       go_wp2
       (try simp only [Exit.inBlock, Exit.then]); refine bodyPost_ret (results_ct rfl _ _ _ rfl (sig_load _ w.heap.size (x := .slice A acc.length c) (y := .int .i64 fd) (z := .string fn) (u := .bool false) (by (repeat (first | with_reducible assumption | (with_reducible apply World.cell?_setCell_same) | (with_reducible refine cell_alloc _ _ ?_) | (refine (World.cell?_setCell_other _ _ _ _ (by first | (simp; done) | (intro q; simp at q; done) | (intro q; simp at q; omega))).trans ?_)))) (by (repeat (first | with_reducible assumption | (with_reducible apply World.cell?_setCell_same) | (with_reducible refine cell_alloc _ _ ?_) | (refine (World.cell?_setCell_other _ _ _ _ (by first | (simp; done) | (intro q; simp at q; done) | (intro q; simp at q; omega))).trans ?_)))) (by (repeat (first | with_reducible assumption | (with_reducible apply World.cell?_setCell_same) | (with_reducible refine cell_alloc _ _ ?_) | (refine (World.cell?_setCell_other _ _ _ _ (by first | (simp; done) | (intro q; simp at q; done) | (intro q; simp at q; omega))).trans ?_)))) (by (repeat (first | with_reducible assumption | (with_reducible apply World.cell?_setCell_same) | (with_reducible refine cell_alloc _ _ ?_) | (refine (World.cell?_setCell_other _ _ _ _ (by first | (simp; done) | (intro q; simp at q; done) | (intro q; simp at q; omega))).trans ?_)))))) rfl ?_
       exact ⟨A, ⟨c, rfl⟩, (own_rdT (show World.ownsRow _ (w.heap.size + 3) 38 2 (.slice A acc.length c) acc.length (Sp.tyCells acc) from by have := hown1.out; (repeat (first | with_reducible assumption | (with_reducible refine ownsRow_setCell_below ?_ (by first | (simp; done) | (simp; omega)) _) | (with_reducible refine World.ownsRow.alloc ?_ _) | (with_reducible refine World.ownsRow.drew ?_))))).2, by (repeat (first | with_reducible assumption | with_reducible exact Below.refl _ _ | (with_reducible refine Below.setCell ?_ (by first | exact Nat.le_refl _ | omega | (simp; done) | (simp; omega)) _) | (with_reducible refine Below.alloc ?_ (by first | exact Nat.le_refl _ | omega | (simp; done) | (simp; omega)) _) | (with_reducible refine Below.drew ?_)))⟩
     ·have hR : R = (Sp.sig0, 9) := by rw [hX'.out, if_neg h0]
      have h9 : fe = 9 := by rcases hfe with h | h; exact absurd h h0; exact h
      subst hR
      subst h9
      clear hX' hfe h0
      go_wp2
      (try simp only [Exit.inBlock, Exit.then]); refine bodyPost_ret (results_ct rfl _ _ _ rfl (sig_load _ w.heap.size (x := .slice none 0 0) (y := .int .i64 0) (z := .string ⟨#[]⟩) (u := .bool false) (by (repeat (first | with_reducible assumption | (with_reducible apply World.cell?_setCell_same) | (with_reducible refine cell_alloc _ _ ?_) | (refine (World.cell?_setCell_other _ _ _ _ (by first | (simp; done) | (intro q; simp at q; done) | (intro q; simp at q; omega))).trans ?_)))) (by (repeat (first | with_reducible assumption | (with_reducible apply World.cell?_setCell_same) | (with_reducible refine cell_alloc _ _ ?_) | (refine (World.cell?_setCell_other _ _ _ _ (by first | (simp; done) | (intro q; simp at q; done) | (intro q; simp at q; omega))).trans ?_)))) (by (repeat (first | with_reducible assumption | (with_reducible apply World.cell?_setCell_same) | (with_reducible refine cell_alloc _ _ ?_) | (refine (World.cell?_setCell_other _ _ _ _ (by first | (simp; done) | (intro q; simp at q; done) | (intro q; simp at q; omega))).trans ?_)))) (by (repeat (first | with_reducible assumption | (with_reducible apply World.cell?_setCell_same) | (with_reducible refine cell_alloc _ _ ?_) | (refine (World.cell?_setCell_other _ _ _ _ (by first | (simp; done) | (intro q; simp at q; done) | (intro q; simp at q; omega))).trans ?_)))))) rfl ?_
      exact ⟨none, ⟨0, rfl⟩, rdT_nil _ _, by (repeat (first | with_reducible assumption | with_reducible exact Below.refl _ _ | (with_reducible refine Below.setCell ?_ (by first | exact Nat.le_refl _ | omega | (simp; done) | (simp; omega)) _) | (with_reducible refine Below.alloc ?_ (by first | exact Nat.le_refl _ | omega | (simp; done) | (simp; omega)) _) | (with_reducible refine Below.drew ?_)))⟩
   ·have hpf : Lib.hasPrefix t.data.toList [41] = false := by rw [Bool.eq_false_iff]; intro r; exact h41 (hp.1 r)
    rw [hpf] at k2
    rw [if_neg h41] at hX2
    have k3 := Lib.hid (fun W hc hf hT => reads1_any (w.heap.size + 1 + 1) t W (by omega) hc hf hT)
    have hrs := Sp.readS_size t
    have hX := Lib.hid hX2
    clear hX2 hp hp0 hpf h41
    generalize Sp.readS t = q at k3 hX hrs
    obtain ⟨c20, f20⟩ := H2.out
    have hlt0 := blk_lt H0.out
    go_wp2_with fail
    refine (k2.out _).mono ?_
    rintro e w1 ⟨rfl, rfl⟩
    clear k2
    go_wp2_with fail
    have k4 := k3.out (w1.alloc (.cells #[.int .i64 0, .string ⟨#[]⟩] 38)) (kept_cell ((Below.refl w1.heap.size w1).alloc (Nat.le_refl _) _) _ _ ⟨c20, f20⟩).1 (kept_cell ((Below.refl w1.heap.size w1).alloc (Nat.le_refl _) _) _ _ ⟨c20, f20⟩).2 (T0.out.below (hb.alloc hb.size _))
    clear k3
    have G0 := Lib.hid (blk_old (o := .cells #[.int .i64 0, .string ⟨#[]⟩] 38) H0.out)
    have G1 := Lib.hid (blk_old (o := .cells #[.int .i64 0, .string ⟨#[]⟩] 38) H1.out)
    have GT := Lib.hid (blk_new w1 (.cells #[.int .i64 0, .string ⟨#[]⟩] 38))
    have hbt := hb.alloc hb.size (.cells #[.int .i64 0, .string ⟨#[]⟩] 38)
    have hsz1 : w1.heap.size < (w1.alloc (.cells #[.int .i64 0, .string ⟨#[]⟩] 38)).heap.size := by simp
    have hownt := Lib.hid (hown.alloc (.cells #[.int .i64 0, .string ⟨#[]⟩] 38))
    have hkk := Lib.hid (hown.lt)
    clear hown hrd c00 c01 c02 c03 c10 c11 c12 c13 f00 f01 f02 f03 f10 f11 f12 f13 c20 f20 H0 H1 H2
    generalize w1.alloc (.cells #[.int .i64 0, .string ⟨#[]⟩] 38) = W at *
    cases q with
    | none =>
     have hR : R = (Sp.sig0, 9) := by rw [hX.out]; rfl
     subst hR
     clear hX hrs
     refine k4.mono ?_
     rintro e w2 ⟨rfl, hb2⟩
     obtain ⟨⟨c00, c01, c02, c03⟩, f00, f01, f02, f03⟩ := blk4 (blk_below G0.out hb2)
     obtain ⟨⟨c30, c31⟩, f30, f31⟩ := blk2 (blk_below GT.out hb2)
     have hb' := below_then hbt hbt.size hb2
     have hlt2 := blk_lt (blk_below G0.out hb2)
     clear G0 G1 GT hb2 hbt hb hownt
     unfold Sp.tyV Sp.t0
     go_wp2
     (try simp only [Exit.inBlock, Exit.then]); refine bodyPost_ret (results_ct rfl _ _ _ rfl (sig_load _ w.heap.size (x := .slice none 0 0) (y := .int .i64 0) (z := .string ⟨#[]⟩) (u := .bool false) (by (repeat (first | with_reducible assumption | (with_reducible apply World.cell?_setCell_same) | (with_reducible refine cell_alloc _ _ ?_) | (refine (World.cell?_setCell_other _ _ _ _ (by first | (simp; done) | (intro q; simp at q; done) | (intro q; simp at q; omega))).trans ?_)))) (by (repeat (first | with_reducible assumption | (with_reducible apply World.cell?_setCell_same) | (with_reducible refine cell_alloc _ _ ?_) | (refine (World.cell?_setCell_other _ _ _ _ (by first | (simp; done) | (intro q; simp at q; done) | (intro q; simp at q; omega))).trans ?_)))) (by (repeat (first | with_reducible assumption | (with_reducible apply World.cell?_setCell_same) | (with_reducible refine cell_alloc _ _ ?_) | (refine (World.cell?_setCell_other _ _ _ _ (by first | (simp; done) | (intro q; simp at q; done) | (intro q; simp at q; omega))).trans ?_)))) (by (repeat (first | with_reducible assumption | (with_reducible apply World.cell?_setCell_same) | (with_reducible refine cell_alloc _ _ ?_) | (refine (World.cell?_setCell_other _ _ _ _ (by first | (simp; done) | (intro q; simp at q; done) | (intro q; simp at q; omega))).trans ?_)))))) rfl ?_
     exact ⟨none, ⟨0, rfl⟩, rdT_nil _ _, by (repeat (first | with_reducible assumption | with_reducible exact Below.refl _ _ | (with_reducible refine Below.setCell ?_ (by first | exact Nat.le_refl _ | omega | (simp; done) | (simp; omega)) _) | (with_reducible refine Below.alloc ?_ (by first | exact Nat.le_refl _ | omega | (simp; done) | (simp; omega)) _) | (with_reducible refine Below.drew ?_)))⟩
    | some q =>
     obtain ⟨⟨qd, qn⟩, qr⟩ := q
     have hqr : qr.size < t.size := (hrs _ rfl).1
     have hX' := Lib.hid (show R = Sp.endS (Sp.ahead (acc ++ [(qd, qn)]) (Sp.argsF g qr)) by rw [hX.out, ← Sp.ahead_cons])
     clear hX hrs
     refine k4.mono ?_
     rintro e w2 ⟨rfl, hg2, hcb, hfb⟩
     have I0 := Lib.hid (blk_grown G0.out hg2 (by intro e; injection e with e; omega))
     have I1 := Lib.hid (blk_grown G1.out hg2 (by intro e; injection e with e; omega))
     have IT := Lib.hid (blk_grown GT.out hg2 (by intro e; injection e with e; omega))
     have hown2 := Lib.hid (hownt.out.kept hg2 (by
      cases hk : (Value.slice A acc.length c).ownBlock with
      | none => exact .inl rfl
      | some k => exact .inr (fun e => by injection e with e; have := hkk.out k hk; omega)))
     obtain ⟨⟨c10, c11, c12, c13⟩, f10, f11, f12, f13⟩ := blk4 I1.out
     obtain ⟨⟨c30, c31⟩, f30, f31⟩ := blk2 IT.out
     have hb' := hbt.grown hg2 hbt.size (fun k hk => by simp at hk; omega)
     have hlt2 := blk_lt IT.out
     clear G0 G1 GT hg2 hbt hb hownt
     have I2 := Lib.hid (And.intro hcb hfb)
     have hn48 : (acc.length + 1) * 24 ≤ 140737488355328 := by omega
     have hn63 : acc.length + 1 ≤ maxLen := by unfold maxLen; omega
     clear hcb hfb
     unfold Sp.tyV
     go_wp2_with (at_builtin; refine wpList_append_own _ rfl _ _ 47 rfl (w.heap.size + 3) 38 i0 (.agg #[.int .i64 0, .string ⟨#[]⟩]) 2 24 Tryz.underlying47 hi hz0 hz1 hz2 rfl (by decide) (.slice A acc.length c) acc.length (Sp.tyCells acc) rfl ((own_set (own_set hown2.out (fun k hk => by have := hkk.out k hk; omega) _) (fun k hk => by have := hkk.out k hk; omega) _).alloc _) ⟨w2.heap.size, 0, none⟩ 1 1 [.int .i64 qd, .string qn] ?x1 rfl ?x2 ?x3 hn63 hn48 ?x4 ?x5)
     case x1 => rfl
     case x2 =>
      have hnew := blk2 (blk_new ((w2.setCell ⟨w1.heap.size, 0, none⟩ (.int .i64 qd)).setCell ⟨w1.heap.size, 1, none⟩ (.string qn)) (.cells #[.int .i64 qd, .string qn] 38))
      simp only [Go.Deep.nblk_setCell] at hnew
      intro j u hj
      match j, hj with
      | 0, hj => simp at hj; subst hj; rw [Addr.add_mid]; exact hnew.1.1
      | 1, hj => simp at hj; subst hj; rw [Addr.add_mid]; exact hnew.1.2
      | j + 2, hj => simp at hj
     case x3 =>
      intro u hu
      simp at hu
      rcases hu with rfl | rfl <;> rfl
     case x4 => simp; omega
     ·intro v' w3 hown3 hg3 _
      obtain ⟨A', c', rfl⟩ := own_sl hown3
      have hne : ∀ k, (k < w.heap.size + 3) → some k ≠ (Value.slice A acc.length c).ownBlock := fun k hk e => by have := hkk.out k e.symm; omega
      have J0 := Lib.hid (blk_grown (blk_old (blk_other (blk_other I0.out _ _ (by show _ ≠ _; simp; omega)) _ _ (by show _ ≠ _; simp; omega))) hg3 (hne _ (by omega)))
      have J1 := Lib.hid (blk_grown (blk_old (blk_other (blk_other I1.out _ _ (by show _ ≠ _; simp; omega)) _ _ (by show _ ≠ _; simp; omega))) hg3 (hne _ (by omega)))
      have hbz : w.heap.size ≤ w2.heap.size := hb'.size
      have hbw : Below w.heap.size w (((w2.setCell ⟨w1.heap.size, 0, none⟩ (.int .i64 qd)).setCell ⟨w1.heap.size, 1, none⟩ (.string qn)).alloc (.cells #[.int .i64 qd, .string qn] 38)) := by (repeat (first | with_reducible assumption | with_reducible exact Below.refl _ _ | (with_reducible refine Below.setCell ?_ (by first | exact Nat.le_refl _ | omega | (simp; done) | (simp; omega)) _) | (with_reducible refine Below.alloc ?_ (by first | exact Nat.le_refl _ | omega | (simp; done) | (simp; omega)) _) | (with_reducible refine Below.drew ?_)))
      have hb3 := hbw.grown hg3 hbw.size (fun k hk => by have := hkk.out k hk; omega)
      have J2 := Lib.hid (kept_grown hg3 (a := ⟨w.heap.size + 1 + 1, 0, none⟩) (v := .string qr) (kept_cell ((Below.refl _ _).alloc (Nat.le_refl _) _) _ _ ⟨by have := I2.out.1; (repeat (first | with_reducible assumption | (with_reducible apply World.cell?_setCell_same) | (with_reducible refine cell_alloc _ _ ?_) | (refine (World.cell?_setCell_other _ _ _ _ (by first | (simp; done) | (intro q; simp at q; done) | (intro q; simp at q; omega))).trans ?_))), by simpa using I2.out.2⟩) (hne _ (by simp)))
      obtain ⟨⟨d10, d11, d12, d13⟩, g10, g11, g12, g13⟩ := blk4 J1.out
      clear I0 I1 I2 IT c10 c11 c12 c13 f10 f11 f12 f13 c30 c31 f30 f31 hb' hbw hg3 hown2 hlt2
      go_wp2
      go_roundw
      case rel =>
       refine ⟨qr, g, acc ++ [(qd, qn)], A', c', rfl, Lib.hid (blk_other J0.out _ _ (by show _ ≠ _; simp)), Lib.hid ?_, Lib.hid ⟨by have := J2.out.1; (repeat (first | with_reducible assumption | (with_reducible apply World.cell?_setCell_same) | (with_reducible refine cell_alloc _ _ ?_) | (refine (World.cell?_setCell_other _ _ _ _ (by first | (simp; done) | (intro q; simp at q; done) | (intro q; simp at q; omega))).trans ?_))), by have := J2.out.2; simpa using this⟩, ?_, by (repeat (first | with_reducible assumption | with_reducible exact Below.refl _ _ | (with_reducible refine Below.setCell ?_ (by first | exact Nat.le_refl _ | omega | (simp; done) | (simp; omega)) _) | (with_reducible refine Below.alloc ?_ (by first | exact Nat.le_refl _ | omega | (simp; done) | (simp; omega)) _) | (with_reducible refine Below.drew ?_))), by omega, by simp; omega, hX'⟩
       ·have := blk_set (i := 0) J1.out (.slice A' (acc.length + 1) c')
        simpa using this
       ·have hq := hown3
        rw [show Sp.tyCells acc ++ [Value.int .i64 qd, Value.string qn] = Sp.tyCells (acc ++ [(qd, qn)]) by rw [Sp.tyCells_append]; rfl] at hq
        have := ownsRow_setCell_below hq (a := ⟨w.heap.size + 1, 0, none⟩) (by show _ < _; simp) (.slice A' (acc.length + 1) c')
        simpa using this
      case measure => simp [strOf]; omega
 ·have hpf : Lib.hasPrefix s.data.toList [40] = false := by rw [Bool.eq_false_iff]; intro r; exact h40 (hp.1 r)
  rw [e40, hpf] at k1
  have hR : R = (Sp.sig0, 9) := by rw [HE.out, if_neg h40]
  subst hR
  clear HE hp hpf e40
  generalize (⟨(Lib.trimPrefix s.data.toList [40]).toArray⟩ : ByteArray) = tp at k1
  go_enter Tryz.func238, Tryz.ntmps238
  go_wp2_with fail
  refine (k1.out _).mono ?_
  rintro e w1 ⟨rfl, rfl⟩
  go_wp2
  (try simp only [Exit.inBlock, Exit.then]); refine bodyPost_ret (results_ct rfl _ _ _ rfl (sig_load _ w.heap.size (x := .slice none 0 0) (y := .int .i64 0) (z := .string ⟨#[]⟩) (u := .bool false) (by simp) (by simp) (by simp) (by simp))) rfl ?_
  exact ⟨none, 0, rfl, rdT_nil _ _, by (repeat (first | with_reducible assumption | with_reducible exact Below.refl _ _ | (with_reducible refine Below.setCell ?_ (by first | exact Nat.le_refl _ | omega | (simp; done) | (simp; omega)) _) | (with_reducible refine Below.alloc ?_ (by first | exact Nat.le_refl _ | omega | (simp; done) | (simp; omega)) _) | (with_reducible refine Below.drew ?_)))⟩
namespace Sp
theorem readS_rest (s : ByteArray) (q : Ty × ByteArray) (h : readS s = some q) : ∃ k : Nat, 0 < k ∧ k ≤ s.size ∧ q.2 = s.extract k s.size := by
 by_cases c4 : 4 < cnt s
 ·rw [readS_deep s c4] at h
  cases h
 by_cases cI : bt s (cnt s) = 73
 ·have hc : cnt s < s.size := by
   by_cases hc : cnt s < s.size
   ·exact hc
   ·rw [bt_end s _ hc] at cI
    cases cI
  rw [readS_I s cI] at h
  split at h
  ·injection h with h
   subst h
   exact ⟨cnt s + 1, by omega, by omega, tail_extract s⟩
  ·cases h
 by_cases cL : bt s (cnt s) = 76
 ·have hc : cnt s < s.size := by
   by_cases hc : cnt s < s.size
   ·exact hc
   ·rw [bt_end s _ hc] at cL
    cases cL
  obtain ⟨E, g1, g2, g3, g4, g5⟩ := readS_class s cL hc (by omega)
  rw [g5] at h
  split at h
  ·cases h
  ·injection h with h
   subst h
   exact ⟨E + 1, by omega, by omega, rfl⟩
 ·rw [readS_none s cI cL] at h
  cases h
theorem refNext_facts (s : ByteArray) : (readS s = none ∧ refNextS s = (t0, 0)) ∨ ∃ (t : Ty) (r : ByteArray) (k : Nat), readS s = some (t, r) ∧ 0 < k ∧ k ≤ s.size ∧ refNextS s = (t, (k : Int)) ∧ r = s.extract k s.size ∧ r.size = s.size - k := by
 cases h : readS s with
 | none => exact .inl ⟨rfl, by rw [refNextS, h]⟩
 | some q =>
  obtain ⟨k, h0, h1, h2⟩ := readS_rest s q h
  have hz : q.2.size = s.size - k := by rw [h2]; simp
  refine .inr ⟨q.1, q.2, k, rfl, h0, h1, ?_, h2, hz⟩
  rw [refNextS, h]
  simp only
  rw [hz]
  refine Prod.ext rfl ?_
  simp only
  omega
theorem readS_empty (s : ByteArray) (h : s.size = 0) : readS s = none := by
 apply readS_none
 ·rw [bt_end s _ (by omega)]; decide
 ·rw [bt_end s _ (by omega)]; decide
end Sp
set_option maxHeartbeats 8000000 in
set_option maxRecDepth 100000 in
theorem refField_any (s : ByteArray) (w : World) (hs : s.size ≤ 1099511627776) :
  Calls Tryz.prog 207 #[.string s] w fun e w' => e = .returned (.tuple #[Sp.tyV (Sp.fieldS s).1, .int .i64 (Sp.fieldS s).2]) ∧ Below w.heap.size w w' := by
 have HE := Lib.hid (show Sp.fieldS s = _ by rw [Sp.fieldS])
 have k1 := Lib.hid (fun W => refNext2_any s W hs)
 have HF := Sp.refNext_facts s
 generalize Sp.fieldS s = R at HE ⊢
 generalize Sp.readS s = q at *
 generalize Sp.refNextS s = n at *
 rcases HF with ⟨rfl, rfl⟩ | ⟨⟨td, tn⟩, r, k, rfl, h0, h1, rfl, h2, h3⟩
 ·have hR : R = (Sp.t0, 9) := HE.out
  subst hR
  clear HE
  unfold Sp.tyV Sp.t0 at k1
  unfold Sp.tyV Sp.t0
  go_enter Tryz.func207, Tryz.ntmps207
  go_wp2_with fail
  refine (k1.out _).mono ?_
  rintro e w1 ⟨rfl, hb⟩
  obtain ⟨⟨c0, c1⟩, f0, f1⟩ := blk2 (blk_below (blk_new w _) hb)
  have hlt := blk_lt (blk_below (blk_new w _) hb)
  have hb' := below_then ((Below.refl w.heap.size w).alloc (Nat.le_refl _) _) (by simp) hb
  go_wp2
  (try simp only [Exit.inBlock, Exit.then]); refine bodyPost_ret (results_ct rfl _ _ _ rfl (ty_load _ w.heap.size 0 (x := .int .i64 0) (y := .string ⟨#[]⟩) (by (repeat (first | with_reducible assumption | (with_reducible apply World.cell?_setCell_same) | (with_reducible refine cell_alloc _ _ ?_) | (refine (World.cell?_setCell_other _ _ _ _ (by first | (simp; done) | (intro q; simp at q; done) | (intro q; simp at q; omega))).trans ?_)))) (by (repeat (first | with_reducible assumption | (with_reducible apply World.cell?_setCell_same) | (with_reducible refine cell_alloc _ _ ?_) | (refine (World.cell?_setCell_other _ _ _ _ (by first | (simp; done) | (intro q; simp at q; done) | (intro q; simp at q; omega))).trans ?_)))))) rfl ?_
  exact ⟨rfl, by (repeat (first | with_reducible assumption | with_reducible exact Below.refl _ _ | (with_reducible refine Below.setCell ?_ (by first | exact Nat.le_refl _ | omega | (simp; done) | (simp; omega)) _) | (with_reducible refine Below.alloc ?_ (by first | exact Nat.le_refl _ | omega | (simp; done) | (simp; omega)) _) | (with_reducible refine Below.drew ?_)))⟩
 ·have hkz : ((k : Int) == 0) = false := by rw [beq_eq_false_iff_ne]; omega
  clear h2
  unfold Sp.tyV at k1
  unfold Sp.tyV
  by_cases hz : r.size = 0
  ·have hR : R = ((td, tn), 0) := by rw [HE.out]; simp [hz]
   obtain rfl : k = s.size := by omega
   subst hR
   clear HE h3 hz h1
   go_enter Tryz.func207, Tryz.ntmps207
   go_wp2_with fail
   refine (k1.out _).mono ?_
   rintro e w1 ⟨rfl, hb⟩
   obtain ⟨⟨c0, c1⟩, f0, f1⟩ := blk2 (blk_below (blk_new w _) hb)
   have hlt := blk_lt (blk_below (blk_new w _) hb)
   have hb' := below_then ((Below.refl w.heap.size w).alloc (Nat.le_refl _) _) (by simp) hb
   go_wp2
   (try simp only [Exit.inBlock, Exit.then]); refine bodyPost_ret (results_ct rfl _ _ _ rfl (ty_load _ w.heap.size 0 (x := .int .i64 td) (y := .string tn) (by (repeat (first | with_reducible assumption | (with_reducible apply World.cell?_setCell_same) | (with_reducible refine cell_alloc _ _ ?_) | (refine (World.cell?_setCell_other _ _ _ _ (by first | (simp; done) | (intro q; simp at q; done) | (intro q; simp at q; omega))).trans ?_)))) (by (repeat (first | with_reducible assumption | (with_reducible apply World.cell?_setCell_same) | (with_reducible refine cell_alloc _ _ ?_) | (refine (World.cell?_setCell_other _ _ _ _ (by first | (simp; done) | (intro q; simp at q; done) | (intro q; simp at q; omega))).trans ?_)))))) rfl ?_
   exact ⟨rfl, by (repeat (first | with_reducible assumption | with_reducible exact Below.refl _ _ | (with_reducible refine Below.setCell ?_ (by first | exact Nat.le_refl _ | omega | (simp; done) | (simp; omega)) _) | (with_reducible refine Below.alloc ?_ (by first | exact Nat.le_refl _ | omega | (simp; done) | (simp; omega)) _) | (with_reducible refine Below.drew ?_)))⟩
  ·have hR : R = (Sp.t0, 9) := by rw [HE.out]; simp [hz]
   have hks : ((k : Int) == (s.size : Int)) = false := by rw [beq_eq_false_iff_ne]; omega
   subst hR
   clear HE h3 hz h1
   unfold Sp.t0
   go_enter Tryz.func207, Tryz.ntmps207
   go_wp2_with fail
   refine (k1.out _).mono ?_
   rintro e w1 ⟨rfl, hb⟩
   obtain ⟨⟨c0, c1⟩, f0, f1⟩ := blk2 (blk_below (blk_new w _) hb)
   have hlt := blk_lt (blk_below (blk_new w _) hb)
   have hb' := below_then ((Below.refl w.heap.size w).alloc (Nat.le_refl _) _) (by simp) hb
   go_wp2
   (try simp only [Exit.inBlock, Exit.then]); refine bodyPost_ret (results_ct rfl _ _ _ rfl (ty_load _ w.heap.size 0 (x := .int .i64 0) (y := .string ⟨#[]⟩) (by (repeat (first | with_reducible assumption | (with_reducible apply World.cell?_setCell_same) | (with_reducible refine cell_alloc _ _ ?_) | (refine (World.cell?_setCell_other _ _ _ _ (by first | (simp; done) | (intro q; simp at q; done) | (intro q; simp at q; omega))).trans ?_)))) (by (repeat (first | with_reducible assumption | (with_reducible apply World.cell?_setCell_same) | (with_reducible refine cell_alloc _ _ ?_) | (refine (World.cell?_setCell_other _ _ _ _ (by first | (simp; done) | (intro q; simp at q; done) | (intro q; simp at q; omega))).trans ?_)))))) rfl ?_
   exact ⟨rfl, by (repeat (first | with_reducible assumption | with_reducible exact Below.refl _ _ | (with_reducible refine Below.setCell ?_ (by first | exact Nat.le_refl _ | omega | (simp; done) | (simp; omega)) _) | (with_reducible refine Below.alloc ?_ (by first | exact Nat.le_refl _ | omega | (simp; done) | (simp; omega)) _) | (with_reducible refine Below.drew ?_)))⟩
theorem rsig_load (w : World) (b : Nat) {x y z u : Value} (h0 : w.cell? ⟨b, 0, none⟩ = some x) (h1 : w.cell? ⟨b, 1, none⟩ = some y) (h2 : w.cell? ⟨b, 2, none⟩ = some z) (h3 : w.cell? ⟨b, 3, none⟩ = some u) : (loadVar 272 ⟨b, 0, none⟩).run Tryz.prog w = .ok (.agg #[x, y, z, u]) w :=
 run_loadVar_mid w b 0 272 [x, y, z, u] _ (fun j v hj => by
  match j, hj with
  | 0, hj => simp at hj; subst hj; exact h0
  | 1, hj => simp at hj; subst hj; exact h1
  | 2, hj => simp at hj; subst hj; exact h2
  | 3, hj => simp at hj; subst hj; exact h3
  | j + 4, hj => simp at hj) Tryz.underlying272 rfl (by kernel_rfl)
set_option maxHeartbeats 8000000 in
set_option maxRecDepth 100000 in
theorem refMethod_any (s : ByteArray) (w : World) (hs : s.size ≤ 1099511627776) :
  Calls Tryz.prog 202 #[.string s] w fun e w' => ∃ A c, e = .returned (.tuple #[Sp.sigV A c (Sp.methodS s).1, .int .i64 (Sp.methodS s).2]) ∧ RdT w' A (Sp.methodS s).1.1 ∧ Below w.heap.size w w' := by
 obtain ⟨i0, hi, hz0, hz1, hz2⟩ := info_parts infoTy
 have HE := Lib.hid (show Sp.methodS s = _ by rw [Sp.methodS])
 generalize Sp.methodS s = R at HE ⊢
 by_cases hz : s.size = 0
 ·have hR : R = (Sp.sig0, 9) := by rw [HE.out, if_neg (by rw [Sp.bt_end s 0 (by omega)]; decide)]
  have hs0 := str_empty s hz
  subst hs0
  subst hR
  clear HE
  go_enter Tryz.func202, Tryz.ntmps202
  go_wp2
  (try simp only [Exit.inBlock, Exit.then]); refine bodyPost_ret (results_ct rfl _ _ _ rfl (rsig_load _ w.heap.size (x := .slice none 0 0) (y := .int .i64 0) (z := .string ⟨#[]⟩) (u := .bool false) (by simp) (by simp) (by simp) (by simp))) rfl ?_
  exact ⟨none, 0, rfl, rdT_nil _ _, by (repeat (first | with_reducible assumption | with_reducible exact Below.refl _ _ | (with_reducible refine Below.setCell ?_ (by first | exact Nat.le_refl _ | omega | (simp; done) | (simp; omega)) _) | (with_reducible refine Below.alloc ?_ (by first | exact Nat.le_refl _ | omega | (simp; done) | (simp; omega)) _) | (with_reducible refine Below.drew ?_)))⟩
 have hne : (s.toList == []) = false := by
  rw [Bool.eq_false_iff]
  intro r
  have := (bytes_beq_iff s ⟨#[]⟩).1 (by simpa using r)
  rw [this] at hz
  exact hz rfl
 have hpos : 0 < s.size := by omega
 have hk0 := idx_str0 s hpos
 by_cases h40 : Sp.bt s 0 = 40
 ·rw [if_pos h40] at HE
  rw [h40] at hk0
  have htz : (s.extract 1 s.size).size + 1 ≤ s.size := by simp; omega
  clear h40 hz
  generalize hq0 : s.extract 1 s.size = t0 at *
  go_enter Tryz.func202, Tryz.ntmps202
  go_wp2
  go_loopw [0] (fun v4 wr => ∃ (t : ByteArray) (f : Nat) (acc : List Sp.Ty) (A : Option Addr) (c : Nat), v4 = .string t
    ∧ Hid (wr.heap[w.heap.size]? = some (.cells #[.slice none 0 0, .int .i64 0, .string ⟨#[]⟩, .bool false] 272 (0, 0)))
    ∧ Hid (wr.heap[w.heap.size + 1]? = some (.cells #[.slice A acc.length c, .int .i64 0, .string ⟨#[]⟩, .bool false] 272 (0, 0)))
    ∧ wr.ownsRow (w.heap.size + 2) 38 2 (.slice A acc.length c) acc.length (Sp.tyCells acc)
    ∧ Below w.heap.size w wr ∧ t.size + 1 ≤ f ∧ t.size + acc.length ≤ s.size ∧ Hid (R = Sp.endS (Sp.ahead acc (Sp.argsF f t)))) (fun v4 _ => (strOf v4).size)
  case atStart =>
   refine ⟨t0, s.size, [], none, 0, rfl, Lib.hid ?_, Lib.hid ?_, ⟨rfl, .inl ⟨rfl, rfl⟩⟩, ?_, htz, by simp; omega, Lib.hid (by rw [Sp.ahead_nil]; exact HE.out)⟩
   ·exact blk_old (blk_new _ _)
   ·have := blk_new (w.alloc (.cells #[.slice none 0 0, .int .i64 0, .string ⟨#[]⟩, .bool false] 272)) (.cells #[.slice none 0 0, .int .i64 0, .string ⟨#[]⟩, .bool false] 272)
    simpa using this
   ·(repeat (first | with_reducible assumption | with_reducible exact Below.refl _ _ | (with_reducible refine Below.setCell ?_ (by first | exact Nat.le_refl _ | omega | (simp; done) | (simp; omega)) _) | (with_reducible refine Below.alloc ?_ (by first | exact Nat.le_refl _ | omega | (simp; done) | (simp; omega)) _) | (with_reducible refine Below.drew ?_)))
  case round =>
   clear HE
   obtain ⟨t, f, acc, A, c, rfl, H0, H1, hown, hb, hf, hal, hX⟩ := hrel
   have hlt := blk_lt H1.out
   obtain ⟨g, rfl⟩ : ∃ g, f = g + 1 := ⟨f - 1, by omega⟩
   have hX2 := hX.out
   rw [Sp.argsF] at hX2
   clear hX
   obtain ⟨⟨c00, c01, c02, c03⟩, f00, f01, f02, f03⟩ := blk4 H0.out
   obtain ⟨⟨c10, c11, c12, c13⟩, f10, f11, f12, f13⟩ := blk4 H1.out
   have hrd := Lib.hid (own_rdT hown).2
   have hna := own_len hown
   by_cases hz : t.size = 0
   ·have hR : R = (Sp.sig0, 9) := by
     rw [hX2, if_neg (by rw [Sp.bt_end t 0 (by omega)]; decide), Sp.readS_empty t hz]
     rfl
    have hs0 := str_empty t hz
    subst hs0
    subst hR
    clear hX2 hz
    go_wp2
    (try simp only [Exit.inBlock, Exit.then]); refine bodyPost_ret (results_ct rfl _ _ _ rfl (rsig_load _ w.heap.size (x := .slice none 0 0) (y := .int .i64 0) (z := .string ⟨#[]⟩) (u := .bool false) (by (repeat (first | with_reducible assumption | (with_reducible apply World.cell?_setCell_same) | (with_reducible refine cell_alloc _ _ ?_) | (refine (World.cell?_setCell_other _ _ _ _ (by first | (simp; done) | (intro q; simp at q; done) | (intro q; simp at q; omega))).trans ?_)))) (by (repeat (first | with_reducible assumption | (with_reducible apply World.cell?_setCell_same) | (with_reducible refine cell_alloc _ _ ?_) | (refine (World.cell?_setCell_other _ _ _ _ (by first | (simp; done) | (intro q; simp at q; done) | (intro q; simp at q; omega))).trans ?_)))) (by (repeat (first | with_reducible assumption | (with_reducible apply World.cell?_setCell_same) | (with_reducible refine cell_alloc _ _ ?_) | (refine (World.cell?_setCell_other _ _ _ _ (by first | (simp; done) | (intro q; simp at q; done) | (intro q; simp at q; omega))).trans ?_)))) (by (repeat (first | with_reducible assumption | (with_reducible apply World.cell?_setCell_same) | (with_reducible refine cell_alloc _ _ ?_) | (refine (World.cell?_setCell_other _ _ _ _ (by first | (simp; done) | (intro q; simp at q; done) | (intro q; simp at q; omega))).trans ?_)))))) rfl ?_
    exact ⟨none, ⟨0, rfl⟩, rdT_nil _ _, by (repeat (first | with_reducible assumption | with_reducible exact Below.refl _ _ | (with_reducible refine Below.setCell ?_ (by first | exact Nat.le_refl _ | omega | (simp; done) | (simp; omega)) _) | (with_reducible refine Below.alloc ?_ (by first | exact Nat.le_refl _ | omega | (simp; done) | (simp; omega)) _) | (with_reducible refine Below.drew ?_)))⟩
   have hne : (t.toList == []) = false := by
    rw [Bool.eq_false_iff]
    intro r
    have := (bytes_beq_iff t ⟨#[]⟩).1 (by simpa using r)
    rw [this] at hz
    exact hz rfl
   have hpos : 0 < t.size := by omega
   have hk0 := idx_str0 t hpos
   by_cases h41 : Sp.bt t 0 = 41
   ·rw [if_pos h41] at hX2
    rw [h41] at hk0
    have hX := Lib.hid (show R = Sp.finS acc t by rw [hX2]; simp [Sp.ahead, Sp.endS])
    clear hX2
    have hown' := Lib.hid hown
    clear hown
    by_cases hv : t = ⟨#[41, 86]⟩
    ·subst hv
     have hX' := Lib.hid (show R = Sp.doneS acc Sp.t0 true by rw [hX.out, Sp.finS, if_pos (show (⟨#[41, 86]⟩ : ByteArray) = Sp.B [41, 86] from rfl)])
     clear hX
     by_cases h16 : 16 < acc.length
     ·have hR : R = (Sp.sig0, 3) := by rw [hX'.out, Sp.doneS, if_pos h16]
      have hz : (16 : Int) < (acc.length : Int) := by omega
      subst hR
      clear hX'
      go_wp2
      (try simp only [Exit.inBlock, Exit.then]); refine bodyPost_ret (results_ct rfl _ _ _ rfl (rsig_load _ w.heap.size (x := .slice none 0 0) (y := .int .i64 0) (z := .string ⟨#[]⟩) (u := .bool false) (by (repeat (first | with_reducible assumption | (with_reducible apply World.cell?_setCell_same) | (with_reducible refine cell_alloc _ _ ?_) | (refine (World.cell?_setCell_other _ _ _ _ (by first | (simp; done) | (intro q; simp at q; done) | (intro q; simp at q; omega))).trans ?_)))) (by (repeat (first | with_reducible assumption | (with_reducible apply World.cell?_setCell_same) | (with_reducible refine cell_alloc _ _ ?_) | (refine (World.cell?_setCell_other _ _ _ _ (by first | (simp; done) | (intro q; simp at q; done) | (intro q; simp at q; omega))).trans ?_)))) (by (repeat (first | with_reducible assumption | (with_reducible apply World.cell?_setCell_same) | (with_reducible refine cell_alloc _ _ ?_) | (refine (World.cell?_setCell_other _ _ _ _ (by first | (simp; done) | (intro q; simp at q; done) | (intro q; simp at q; omega))).trans ?_)))) (by (repeat (first | with_reducible assumption | (with_reducible apply World.cell?_setCell_same) | (with_reducible refine cell_alloc _ _ ?_) | (refine (World.cell?_setCell_other _ _ _ _ (by first | (simp; done) | (intro q; simp at q; done) | (intro q; simp at q; omega))).trans ?_)))))) rfl ?_
      exact ⟨none, ⟨0, rfl⟩, rdT_nil _ _, by (repeat (first | with_reducible assumption | with_reducible exact Below.refl _ _ | (with_reducible refine Below.setCell ?_ (by first | exact Nat.le_refl _ | omega | (simp; done) | (simp; omega)) _) | (with_reducible refine Below.alloc ?_ (by first | exact Nat.le_refl _ | omega | (simp; done) | (simp; omega)) _) | (with_reducible refine Below.drew ?_)))⟩
     ·have hR : R = ((acc, Sp.t0, true), 0) := by rw [hX'.out, Sp.doneS, if_neg h16]
      have hz : ¬ (16 : Int) < (acc.length : Int) := by omega
      subst hR
      clear hX'
      go_wp2
      (try simp only [Exit.inBlock, Exit.then]); refine bodyPost_ret (results_ct rfl _ _ _ rfl (rsig_load _ w.heap.size (x := .slice A acc.length c) (y := .int .i64 0) (z := .string ⟨#[]⟩) (u := .bool true) (by (repeat (first | with_reducible assumption | (with_reducible apply World.cell?_setCell_same) | (with_reducible refine cell_alloc _ _ ?_) | (refine (World.cell?_setCell_other _ _ _ _ (by first | (simp; done) | (intro q; simp at q; done) | (intro q; simp at q; omega))).trans ?_)))) (by (repeat (first | with_reducible assumption | (with_reducible apply World.cell?_setCell_same) | (with_reducible refine cell_alloc _ _ ?_) | (refine (World.cell?_setCell_other _ _ _ _ (by first | (simp; done) | (intro q; simp at q; done) | (intro q; simp at q; omega))).trans ?_)))) (by (repeat (first | with_reducible assumption | (with_reducible apply World.cell?_setCell_same) | (with_reducible refine cell_alloc _ _ ?_) | (refine (World.cell?_setCell_other _ _ _ _ (by first | (simp; done) | (intro q; simp at q; done) | (intro q; simp at q; omega))).trans ?_)))) (by (repeat (first | with_reducible assumption | (with_reducible apply World.cell?_setCell_same) | (with_reducible refine cell_alloc _ _ ?_) | (refine (World.cell?_setCell_other _ _ _ _ (by first | (simp; done) | (intro q; simp at q; done) | (intro q; simp at q; omega))).trans ?_)))))) rfl ?_
      exact ⟨A, ⟨c, rfl⟩, (own_rdT (show World.ownsRow _ (w.heap.size + 2) 38 2 (.slice A acc.length c) acc.length (Sp.tyCells acc) from by have := hown'.out; (repeat (first | with_reducible assumption | (with_reducible refine ownsRow_setCell_below ?_ (by first | (simp; done) | (simp; omega)) _) | (with_reducible refine World.ownsRow.alloc ?_ _) | (with_reducible refine World.ownsRow.drew ?_))))).2, by (repeat (first | with_reducible assumption | with_reducible exact Below.refl _ _ | (with_reducible refine Below.setCell ?_ (by first | exact Nat.le_refl _ | omega | (simp; done) | (simp; omega)) _) | (with_reducible refine Below.alloc ?_ (by first | exact Nat.le_refl _ | omega | (simp; done) | (simp; omega)) _) | (with_reducible refine Below.drew ?_)))⟩
    ·have hX' := Lib.hid (show R = if (Sp.fieldS (t.extract 1 t.size)).2 = 0 then Sp.doneS acc (Sp.fieldS (t.extract 1 t.size)).1 false else (Sp.sig0, 9) by rw [hX.out, Sp.finS, if_neg (show ¬ t = Sp.B [41, 86] from hv)])
     clear hX
     have hfs := (by simp; omega : (t.extract 1 t.size).size ≤ 1099511627776)
     have k3 := Lib.hid (fun W => refField_any (t.extract 1 t.size) W hfs)
     have hfe := Sp.fieldS_err (t.extract 1 t.size)
     have hvb : (t.toList == [41, 86]) = false := by
      rw [Bool.eq_false_iff]
      intro r
      exact hv ((bytes_beq_iff t ⟨#[41, 86]⟩).1 (by simpa using r))
     generalize Sp.fieldS (t.extract 1 t.size) = F at *
     obtain ⟨⟨fd, fn⟩, fe⟩ := F
     simp only [Sp.tyV] at k3 hX' hfe
     go_wp2_with fail
     refine (k3.out _).mono ?_
     rintro e w1 ⟨rfl, hb1⟩
     clear k3
     have G0 := Lib.hid (blk_below H0.out hb1)
     have G1 := Lib.hid (blk_below H1.out hb1)
     have hown1 := Lib.hid (own_below hown'.out hb1)
     have hb' := below_then hb (hb.size) hb1
     clear H0 H1 hown' hrd hb1 hb c00 c01 c02 c03 c10 c11 c12 c13 f00 f01 f02 f03 f10 f11 f12 f13
     obtain ⟨⟨c00, c01, c02, c03⟩, f00, f01, f02, f03⟩ := blk4 G0.out
     obtain ⟨⟨c10, c11, c12, c13⟩, f10, f11, f12, f13⟩ := blk4 G1.out
     have hlt1 := blk_lt G1.out
     have hlt0 := blk_lt G0.out
     by_cases h0 : fe = 0
     ·have hX2 := Lib.hid (show R = Sp.doneS acc (fd, fn) false by rw [hX'.out, if_pos h0])
      clear hX' hfe
      subst h0
      by_cases h16 : 16 < acc.length
      ·have hR : R = (Sp.sig0, 3) := by rw [hX2.out, Sp.doneS, if_pos h16]
       have hz : (16 : Int) < (acc.length : Int) := by omega
       subst hR
       clear hX2
       go_wp2
       (try simp only [Exit.inBlock, Exit.then]); refine bodyPost_ret (results_ct rfl _ _ _ rfl (rsig_load _ w.heap.size (x := .slice none 0 0) (y := .int .i64 0) (z := .string ⟨#[]⟩) (u := .bool false) (by (repeat (first | with_reducible assumption | (with_reducible apply World.cell?_setCell_same) | (with_reducible refine cell_alloc _ _ ?_) | (refine (World.cell?_setCell_other _ _ _ _ (by first | (simp; done) | (intro q; simp at q; done) | (intro q; simp at q; omega))).trans ?_)))) (by (repeat (first | with_reducible assumption | (with_reducible apply World.cell?_setCell_same) | (with_reducible refine cell_alloc _ _ ?_) | (refine (World.cell?_setCell_other _ _ _ _ (by first | (simp; done) | (intro q; simp at q; done) | (intro q; simp at q; omega))).trans ?_)))) (by (repeat (first | with_reducible assumption | (with_reducible apply World.cell?_setCell_same) | (with_reducible refine cell_alloc _ _ ?_) | (refine (World.cell?_setCell_other _ _ _ _ (by first | (simp; done) | (intro q; simp at q; done) | (intro q; simp at q; omega))).trans ?_)))) (by (repeat (first | with_reducible assumption | (with_reducible apply World.cell?_setCell_same) | (with_reducible refine cell_alloc _ _ ?_) | (refine (World.cell?_setCell_other _ _ _ _ (by first | (simp; done) | (intro q; simp at q; done) | (intro q; simp at q; omega))).trans ?_)))))) rfl ?_
       exact ⟨none, ⟨0, rfl⟩, rdT_nil _ _, by (repeat (first | with_reducible assumption | with_reducible exact Below.refl _ _ | (with_reducible refine Below.setCell ?_ (by first | exact Nat.le_refl _ | omega | (simp; done) | (simp; omega)) _) | (with_reducible refine Below.alloc ?_ (by first | exact Nat.le_refl _ | omega | (simp; done) | (simp; omega)) _) | (with_reducible refine Below.drew ?_)))⟩
      ·have hR : R = ((acc, (fd, fn), false), 0) := by rw [hX2.out, Sp.doneS, if_neg h16]
       have hz : ¬ (16 : Int) < (acc.length : Int) := by omega
       subst hR
       clear hX2
       go_wp2
       (try simp only [Exit.inBlock, Exit.then]); refine bodyPost_ret (results_ct rfl _ _ _ rfl (rsig_load _ w.heap.size (x := .slice A acc.length c) (y := .int .i64 fd) (z := .string fn) (u := .bool false) (by (repeat (first | with_reducible assumption | (with_reducible apply World.cell?_setCell_same) | (with_reducible refine cell_alloc _ _ ?_) | (refine (World.cell?_setCell_other _ _ _ _ (by first | (simp; done) | (intro q; simp at q; done) | (intro q; simp at q; omega))).trans ?_)))) (by (repeat (first | with_reducible assumption | (with_reducible apply World.cell?_setCell_same) | (with_reducible refine cell_alloc _ _ ?_) | (refine (World.cell?_setCell_other _ _ _ _ (by first | (simp; done) | (intro q; simp at q; done) | (intro q; simp at q; omega))).trans ?_)))) (by (repeat (first | with_reducible assumption | (with_reducible apply World.cell?_setCell_same) | (with_reducible refine cell_alloc _ _ ?_) | (refine (World.cell?_setCell_other _ _ _ _ (by first | (simp; done) | (intro q; simp at q; done) | (intro q; simp at q; omega))).trans ?_)))) (by (repeat (first | with_reducible assumption | (with_reducible apply World.cell?_setCell_same) | (with_reducible refine cell_alloc _ _ ?_) | (refine (World.cell?_setCell_other _ _ _ _ (by first | (simp; done) | (intro q; simp at q; done) | (intro q; simp at q; omega))).trans ?_)))))) rfl ?_
       exact ⟨A, ⟨c, rfl⟩, (own_rdT (show World.ownsRow _ (w.heap.size + 2) 38 2 (.slice A acc.length c) acc.length (Sp.tyCells acc) from by have := hown1.out; (repeat (first | with_reducible assumption | (with_reducible refine ownsRow_setCell_below ?_ (by first | (simp; done) | (simp; omega)) _) | (with_reducible refine World.ownsRow.alloc ?_ _) | (with_reducible refine World.ownsRow.drew ?_))))).2, by (repeat (first | with_reducible assumption | with_reducible exact Below.refl _ _ | (with_reducible refine Below.setCell ?_ (by first | exact Nat.le_refl _ | omega | (simp; done) | (simp; omega)) _) | (with_reducible refine Below.alloc ?_ (by first | exact Nat.le_refl _ | omega | (simp; done) | (simp; omega)) _) | (with_reducible refine Below.drew ?_)))⟩
     ·have hR : R = (Sp.sig0, 9) := by rw [hX'.out, if_neg h0]
      have h9 : fe = 9 := by rcases hfe with h | h; exact absurd h h0; exact h
      subst hR
      subst h9
      clear hX' hfe h0
      go_wp2
      (try simp only [Exit.inBlock, Exit.then]); refine bodyPost_ret (results_ct rfl _ _ _ rfl (rsig_load _ w.heap.size (x := .slice none 0 0) (y := .int .i64 0) (z := .string ⟨#[]⟩) (u := .bool false) (by (repeat (first | with_reducible assumption | (with_reducible apply World.cell?_setCell_same) | (with_reducible refine cell_alloc _ _ ?_) | (refine (World.cell?_setCell_other _ _ _ _ (by first | (simp; done) | (intro q; simp at q; done) | (intro q; simp at q; omega))).trans ?_)))) (by (repeat (first | with_reducible assumption | (with_reducible apply World.cell?_setCell_same) | (with_reducible refine cell_alloc _ _ ?_) | (refine (World.cell?_setCell_other _ _ _ _ (by first | (simp; done) | (intro q; simp at q; done) | (intro q; simp at q; omega))).trans ?_)))) (by (repeat (first | with_reducible assumption | (with_reducible apply World.cell?_setCell_same) | (with_reducible refine cell_alloc _ _ ?_) | (refine (World.cell?_setCell_other _ _ _ _ (by first | (simp; done) | (intro q; simp at q; done) | (intro q; simp at q; omega))).trans ?_)))) (by (repeat (first | with_reducible assumption | (with_reducible apply World.cell?_setCell_same) | (with_reducible refine cell_alloc _ _ ?_) | (refine (World.cell?_setCell_other _ _ _ _ (by first | (simp; done) | (intro q; simp at q; done) | (intro q; simp at q; omega))).trans ?_)))))) rfl ?_
      exact ⟨none, ⟨0, rfl⟩, rdT_nil _ _, by (repeat (first | with_reducible assumption | with_reducible exact Below.refl _ _ | (with_reducible refine Below.setCell ?_ (by first | exact Nat.le_refl _ | omega | (simp; done) | (simp; omega)) _) | (with_reducible refine Below.alloc ?_ (by first | exact Nat.le_refl _ | omega | (simp; done) | (simp; omega)) _) | (with_reducible refine Below.drew ?_)))⟩
   ·rw [if_neg h41] at hX2
    have k3 := Lib.hid (fun W => refNext2_any t W (by omega))
    have HF := Sp.refNext_facts t
    have hX := Lib.hid hX2
    generalize hy : Sp.bt t 0 = y at *
    clear hX2
    generalize Sp.readS t = q at *
    generalize Sp.refNextS t = n at *
    have hkk := Lib.hid (hown.lt)
    rcases HF with ⟨rfl, rfl⟩ | ⟨⟨qd, qn⟩, qr, k, rfl, h0, h1, rfl, h2, h3⟩
    ·have hR : R = (Sp.sig0, 9) := by rw [hX.out]; rfl
     subst hR
     clear hX
     unfold Sp.tyV Sp.t0 at k3
     go_wp2_with fail
     refine (k3.out _).mono ?_
     rintro e w2 ⟨rfl, hb2⟩
     have G0 := blk_below H0.out hb2
     have hb' := below_then hb hb.size hb2
     have hlt2 := blk_lt G0
     clear hb2 hb hown H0 H1 hrd c00 c01 c02 c03 f00 f01 f02 f03 c10 c11 c12 c13 f10 f11 f12 f13
     obtain ⟨⟨c00, c01, c02, c03⟩, f00, f01, f02, f03⟩ := blk4 G0
     clear G0
     go_wp2
     (try simp only [Exit.inBlock, Exit.then]); refine bodyPost_ret (results_ct rfl _ _ _ rfl (rsig_load _ w.heap.size (x := .slice none 0 0) (y := .int .i64 0) (z := .string ⟨#[]⟩) (u := .bool false) (by (repeat (first | with_reducible assumption | (with_reducible apply World.cell?_setCell_same) | (with_reducible refine cell_alloc _ _ ?_) | (refine (World.cell?_setCell_other _ _ _ _ (by first | (simp; done) | (intro q; simp at q; done) | (intro q; simp at q; omega))).trans ?_)))) (by (repeat (first | with_reducible assumption | (with_reducible apply World.cell?_setCell_same) | (with_reducible refine cell_alloc _ _ ?_) | (refine (World.cell?_setCell_other _ _ _ _ (by first | (simp; done) | (intro q; simp at q; done) | (intro q; simp at q; omega))).trans ?_)))) (by (repeat (first | with_reducible assumption | (with_reducible apply World.cell?_setCell_same) | (with_reducible refine cell_alloc _ _ ?_) | (refine (World.cell?_setCell_other _ _ _ _ (by first | (simp; done) | (intro q; simp at q; done) | (intro q; simp at q; omega))).trans ?_)))) (by (repeat (first | with_reducible assumption | (with_reducible apply World.cell?_setCell_same) | (with_reducible refine cell_alloc _ _ ?_) | (refine (World.cell?_setCell_other _ _ _ _ (by first | (simp; done) | (intro q; simp at q; done) | (intro q; simp at q; omega))).trans ?_)))))) rfl ?_
     exact ⟨none, ⟨0, rfl⟩, rdT_nil _ _, by (repeat (first | with_reducible assumption | with_reducible exact Below.refl _ _ | (with_reducible refine Below.setCell ?_ (by first | exact Nat.le_refl _ | omega | (simp; done) | (simp; omega)) _) | (with_reducible refine Below.alloc ?_ (by first | exact Nat.le_refl _ | omega | (simp; done) | (simp; omega)) _) | (with_reducible refine Below.drew ?_)))⟩
    ·have hkz : ((k : Int) == 0) = false := by rw [beq_eq_false_iff_ne]; omega
     have hX' := Lib.hid (show R = Sp.endS (Sp.ahead (acc ++ [(qd, qn)]) (Sp.argsF g qr)) by rw [hX.out, ← Sp.ahead_cons])
     have h2' : t.extract k t.size = qr := h2.symm
     clear hX h2
     unfold Sp.tyV at k3
     go_wp2_with fail
     refine (k3.out _).mono ?_
     rintro e w2 ⟨rfl, hb2⟩
     have I0 := Lib.hid (blk_below H0.out hb2)
     have I1 := Lib.hid (blk_below H1.out hb2)
     have hown2 := Lib.hid (own_below hown hb2)
     have hb' := below_then hb hb.size hb2
     have hbs := hb2.size
     clear hb2 hb hown H0 H1 hrd c00 c01 c02 c03 f00 f01 f02 f03 c10 c11 c12 c13 f10 f11 f12 f13
     obtain ⟨⟨c10, c11, c12, c13⟩, f10, f11, f12, f13⟩ := blk4 I1.out
     have hlt2 := blk_lt I1.out
     have hn48 : (acc.length + 1) * 24 ≤ 140737488355328 := by omega
     have hn63 : acc.length + 1 ≤ maxLen := by unfold maxLen; omega
     go_wp2_with (at_builtin; refine wpList_append_own _ rfl _ _ 47 rfl (w.heap.size + 2) 38 i0 (.agg #[.int .i64 0, .string ⟨#[]⟩]) 2 24 Tryz.underlying47 hi hz0 hz1 hz2 rfl (by decide) (.slice A acc.length c) acc.length (Sp.tyCells acc) rfl ((hown2.out.alloc _).alloc _) ⟨w2.heap.size + 1, 0, none⟩ 1 1 [.int .i64 qd, .string qn] ?x1 rfl ?x2 ?x3 hn63 hn48 ?x4 ?x5)
     case x1 => rfl
     case x2 =>
      have hnew := blk2 (blk_new (w2.alloc (.cells #[.int .i64 qd, .string qn] 38)) (.cells #[.int .i64 qd, .string qn] 38))
      rw [show (w2.alloc (.cells #[.int .i64 qd, .string qn] 38)).heap.size = w2.heap.size + 1 by simp] at hnew
      intro j u hj
      match j, hj with
      | 0, hj => simp at hj; subst hj; rw [Addr.add_mid]; exact hnew.1.1
      | 1, hj => simp at hj; subst hj; rw [Addr.add_mid]; exact hnew.1.2
      | j + 2, hj => simp at hj
     case x3 =>
      intro u hu
      simp at hu
      rcases hu with rfl | rfl <;> rfl
     case x4 => simp; omega
     ·intro v' w3 hown3 hg3 _
      obtain ⟨A', c', rfl⟩ := own_sl hown3
      have hne2 : ∀ k, (k < w.heap.size + 2) → some k ≠ (Value.slice A acc.length c).ownBlock := fun k hk e => by have := hkk.out k e.symm; omega
      have J0 := Lib.hid (blk_grown (blk_old (blk_old I0.out)) hg3 (hne2 _ (by omega)))
      have J1 := Lib.hid (blk_grown (blk_old (blk_old I1.out)) hg3 (hne2 _ (by omega)))
      have hbz : w.heap.size ≤ w2.heap.size := hb'.size
      have hbw : Below w.heap.size w ((w2.alloc (.cells #[.int .i64 qd, .string qn] 38)).alloc (.cells #[.int .i64 qd, .string qn] 38)) := by (repeat (first | with_reducible assumption | with_reducible exact Below.refl _ _ | (with_reducible refine Below.setCell ?_ (by first | exact Nat.le_refl _ | omega | (simp; done) | (simp; omega)) _) | (with_reducible refine Below.alloc ?_ (by first | exact Nat.le_refl _ | omega | (simp; done) | (simp; omega)) _) | (with_reducible refine Below.drew ?_)))
      have hb3 := hbw.grown hg3 hbw.size (fun k hk => by have := hkk.out k hk; omega)
      obtain ⟨⟨d10, d11, d12, d13⟩, g10, g11, g12, g13⟩ := blk4 J1.out
      clear I0 I1 c10 c11 c12 c13 f10 f11 f12 f13 hb' hbw hg3 hown2 hlt2
      go_wp2
      go_roundw
      case rel =>
       refine ⟨qr, g, acc ++ [(qd, qn)], A', c', by first | rfl | rw [h2'], Lib.hid (blk_other J0.out _ _ (by show _ ≠ _; simp)), Lib.hid ?_, ?_, by (repeat (first | with_reducible assumption | with_reducible exact Below.refl _ _ | (with_reducible refine Below.setCell ?_ (by first | exact Nat.le_refl _ | omega | (simp; done) | (simp; omega)) _) | (with_reducible refine Below.alloc ?_ (by first | exact Nat.le_refl _ | omega | (simp; done) | (simp; omega)) _) | (with_reducible refine Below.drew ?_))), by omega, by simp; omega, hX'⟩
       ·have := blk_set (i := 0) J1.out (.slice A' (acc.length + 1) c')
        simpa using this
       ·have hq := hown3
        rw [show Sp.tyCells acc ++ [Value.int .i64 qd, Value.string qn] = Sp.tyCells (acc ++ [(qd, qn)]) by rw [Sp.tyCells_append]; rfl] at hq
        have := ownsRow_setCell_below hq (a := ⟨w.heap.size + 1, 0, none⟩) (by show _ < _; simp) (.slice A' (acc.length + 1) c')
        simpa using this
      case measure => simp [strOf]; omega
 ·have hR : R = (Sp.sig0, 9) := by rw [HE.out, if_neg h40]
  subst hR
  clear HE
  generalize Sp.bt s 0 = y at *
  go_enter Tryz.func202, Tryz.ntmps202
  go_wp2
  (try simp only [Exit.inBlock, Exit.then]); refine bodyPost_ret (results_ct rfl _ _ _ rfl (rsig_load _ w.heap.size (x := .slice none 0 0) (y := .int .i64 0) (z := .string ⟨#[]⟩) (u := .bool false) (by simp) (by simp) (by simp) (by simp))) rfl ?_
  exact ⟨none, 0, rfl, rdT_nil _ _, by (repeat (first | with_reducible assumption | with_reducible exact Below.refl _ _ | (with_reducible refine Below.setCell ?_ (by first | exact Nat.le_refl _ | omega | (simp; done) | (simp; omega)) _) | (with_reducible refine Below.alloc ?_ (by first | exact Nat.le_refl _ | omega | (simp; done) | (simp; omega)) _) | (with_reducible refine Below.drew ?_)))⟩
namespace Sp
end Sp
def RdL {α : Type} (enc : α → List Value) (w : World) (A : Option Addr) (l : List α) : Prop := l.length ≤ 9223372036854775807 ∧ (0 < l.length → ∃ b o, A = some ⟨b, o, none⟩ ∧ w.rangeAt b o (l.flatMap enc))
theorem flat_length {α : Type} (enc : α → List Value) (n : Nat) (h : ∀ x, (enc x).length = n) : ∀ l : List α, (l.flatMap enc).length = l.length * n
 | [] => by simp
 | x :: l => by rw [List.flatMap_cons, List.length_append, h, flat_length enc n h l, List.length_cons, Nat.add_mul, Nat.one_mul, Nat.add_comm]
theorem flat_get {α : Type} (enc : α → List Value) (n : Nat) (h : ∀ x, (enc x).length = n) : ∀ (l : List α) (j i : Nat) (hj : j < l.length), i < n → (l.flatMap enc)[j * n + i]? = (enc l[j])[i]?
 | [], _, _, hj, _ => by simp at hj
 | x :: l, 0, i, _, hi => by
  rw [List.flatMap_cons, Nat.zero_mul, Nat.zero_add, List.getElem?_append_left (by rw [h]; exact hi)]
  rfl
 | x :: l, j + 1, i, hj, hi => by
  rw [List.flatMap_cons, List.getElem?_append_right (by rw [h, Nat.add_mul]; omega), h, show (j + 1) * n + i - n = j * n + i by rw [Nat.add_mul]; omega]
  exact flat_get enc n h l j i (by simpa using hj) hi
theorem rdL_get {α : Type} {enc : α → List Value} {w : World} {b o : Nat} {l : List α} (n : Nat) (h : ∀ x, (enc x).length = n) (hr : w.rangeAt b o (l.flatMap enc)) {j : Nat} (hj : j < l.length) (i : Nat) (hi : i < n) {v : Value} (hv : (enc l[j])[i]? = some v) : w.cell? ⟨b, o + j * n + i, none⟩ = some v := by
 have := hr (j * n + i) v (by rw [flat_get enc n h l j i hj hi, hv])
 rwa [← Nat.add_assoc] at this
theorem rdL_below {α : Type} {enc : α → List Value} {w w1 : World} {A : Option Addr} {l : List α} (h : RdL enc w A l) (hb : Below w.heap.size w w1) : RdL enc w1 A l := by
 refine ⟨h.1, fun h0 => ?_⟩
 obtain ⟨b, o, hA, hr⟩ := h.2 h0
 exact ⟨b, o, hA, fun j v hj => cell_below hb (hr j v hj)⟩
theorem rdL_nil {α : Type} (enc : α → List Value) (w : World) (A : Option Addr) : RdL enc w A [] := ⟨by simp, fun h => by simp at h⟩
namespace Sp
structure Cn where
 tag : Int
 text : ByteArray
 n : Int
 a : Int
 b : Int
 c : Int
structure Hn where
 fr : Int
 til : Int
 at_ : Int
 cls : Int
structure Mb where
 flags : Int
 name : Int
 desc : Int
 stack : Int
 locals : Int
 code : ByteArray
 hs : List Hn
structure Fl where
 pool : List Cn
 flags : Int
 this : Int
 super : Int
 ifaces : List Int
 fields : List Mb
 methods : List Mb
def cnC (c : Cn) : List Value := [.int .i64 c.tag, .string c.text, .int .i64 c.n, .int .i64 c.a, .int .i64 c.b, .int .i64 c.c]
def hnC (h : Hn) : List Value := [.int .i64 h.fr, .int .i64 h.til, .int .i64 h.at_, .int .i64 h.cls]
abbrev Mp := Mb × Option Addr × Nat
def mbC (m : Mp) : List Value := [.int .i64 m.1.flags, .int .i64 m.1.name, .int .i64 m.1.desc, .int .i64 m.1.stack, .int .i64 m.1.locals, .string m.1.code, .slice m.2.1 m.1.hs.length m.2.2]
theorem cnC_len (c : Cn) : (cnC c).length = 6 := rfl
theorem hnC_len (h : Hn) : (hnC h).length = 4 := rfl
theorem mbC_len (m : Mp) : (mbC m).length = 7 := rfl
def cnV (c : Cn) : Value := .agg #[.int .i64 c.tag, .string c.text, .int .i64 c.n, .int .i64 c.a, .int .i64 c.b, .int .i64 c.c]
def mbV (m : Mp) : Value := .agg #[.int .i64 m.1.flags, .int .i64 m.1.name, .int .i64 m.1.desc, .int .i64 m.1.stack, .int .i64 m.1.locals, .string m.1.code, .slice m.2.1 m.1.hs.length m.2.2]
def get (p : List Cn) (i : Int) : Option Cn := if 1 ≤ i then p[(i - 1).toNat]? else none
def taggedS (p : List Cn) (i tag : Int) : Bool := match get p i with
 | some c => decide (c.tag = tag)
 | none => false
def cnameS (p : List Cn) (i : Int) : ByteArray × Bool := match get p i with
 | some c => if c.tag = 1 then (c.text, true) else (⟨#[]⟩, false)
 | none => (⟨#[]⟩, false)
structure At where
 A : Option Addr
 c : Nat
 I : Option Addr
 d : Nat
 X : Option Addr
 e : Nat
 Y : Option Addr
 g : Nat
end Sp
def RdM (w : World) (A : Option Addr) (l : List Sp.Mp) : Prop := RdL Sp.mbC w A l ∧ ∀ m ∈ l, RdL Sp.hnC w m.2.1 m.1.hs
theorem rdM_below {w w1 : World} {A : Option Addr} {l : List Sp.Mp} (h : RdM w A l) (hb : Below w.heap.size w w1) : RdM w1 A l := ⟨rdL_below h.1 hb, fun m hm => rdL_below (h.2 m hm) hb⟩
structure FlP where
 pool : List Sp.Cn
 flags : Int
 this : Int
 super : Int
 ifaces : List Int
 fields : List Sp.Mp
 methods : List Sp.Mp
def FlP.fl (F : FlP) : Sp.Fl := ⟨F.pool, F.flags, F.this, F.super, F.ifaces, F.fields.map (·.1), F.methods.map (·.1)⟩
def flC (q : Sp.At) (F : FlP) : Array Value := #[.slice q.A F.pool.length q.c, .int .i64 F.flags, .int .i64 F.this, .int .i64 F.super, .slice q.I F.ifaces.length q.d, .slice q.X F.fields.length q.e, .slice q.Y F.methods.length q.g]
structure RdF (w : World) (q : Sp.At) (F : FlP) : Prop where
 pool : RdL Sp.cnC w q.A F.pool
 ifaces : RdN .i64 w q.I F.ifaces
 fields : RdM w q.X F.fields
 methods : RdM w q.Y F.methods
theorem rdF_below {w w1 : World} {q : Sp.At} {F : FlP} (h : RdF w q F) (hb : Below w.heap.size w w1) : RdF w1 q F := ⟨rdL_below h.pool hb, rdN_below h.ifaces hb, rdM_below h.fields hb, rdM_below h.methods hb⟩
namespace Sp
theorem get_at (p : List Cn) (k : Nat) (h : k < p.length) : get p ((k : Int) + 1) = some p[k] := by
 unfold get
 rw [if_pos (by omega), show ((k : Int) + 1 - 1).toNat = k by omega, List.getElem?_eq_getElem h]
theorem get_low (p : List Cn) (i : Int) (h : ¬ 1 ≤ i) : get p i = none := by unfold get; rw [if_neg h]
theorem get_high (p : List Cn) (i : Int) (h : (p.length : Int) < i) : get p i = none := by
 unfold get
 split
 ·rw [List.getElem?_eq_none]
  omega
 ·rfl
theorem get_cases (p : List Cn) (i : Int) : (¬ 1 ≤ i ∧ get p i = none) ∨ (1 ≤ i ∧ (p.length : Int) < i ∧ get p i = none) ∨ ∃ (k : Nat) (h : k < p.length), i = (k : Int) + 1 ∧ get p i = some p[k] := by
 by_cases h1 : 1 ≤ i
 ·by_cases h2 : (p.length : Int) < i
  ·exact .inr (.inl ⟨h1, h2, get_high p i h2⟩)
  ·obtain ⟨k, rfl⟩ : ∃ k : Nat, i = (k : Int) + 1 := ⟨(i - 1).toNat, by omega⟩
   exact .inr (.inr ⟨k, by omega, rfl, get_at p k (by omega)⟩)
 ·exact .inl ⟨h1, get_low p i h1⟩
end Sp
theorem cn_cells {w : World} {b o : Nat} {p : List Sp.Cn} (hr : w.rangeAt b o (p.flatMap Sp.cnC)) {k : Nat} (hk : k < p.length) :
  w.cell? ⟨b, o + k * 6, none⟩ = some (.int .i64 p[k].tag) ∧ w.cell? ⟨b, o + k * 6 + 1, none⟩ = some (.string p[k].text) ∧ w.cell? ⟨b, o + k * 6 + 2, none⟩ = some (.int .i64 p[k].n) ∧ w.cell? ⟨b, o + k * 6 + 3, none⟩ = some (.int .i64 p[k].a) ∧ w.cell? ⟨b, o + k * 6 + 4, none⟩ = some (.int .i64 p[k].b) ∧ w.cell? ⟨b, o + k * 6 + 5, none⟩ = some (.int .i64 p[k].c) :=
 ⟨rdL_get 6 Sp.cnC_len hr hk 0 (by decide) rfl, rdL_get 6 Sp.cnC_len hr hk 1 (by decide) rfl, rdL_get 6 Sp.cnC_len hr hk 2 (by decide) rfl, rdL_get 6 Sp.cnC_len hr hk 3 (by decide) rfl, rdL_get 6 Sp.cnC_len hr hk 4 (by decide) rfl, rdL_get 6 Sp.cnC_len hr hk 5 (by decide) rfl⟩
set_option maxHeartbeats 4000000 in
set_option maxRecDepth 100000 in
theorem tagged_any (q : Sp.At) (F : FlP) (i tag : Int) (w : World) (hr : RdF w q F) (hi : -9223372036854775808 ≤ i ∧ i ≤ 9223372036854775807) :
  Calls Tryz.prog 198 #[.agg (flC q F), .int .i64 i, .int .i64 tag] w fun e w' => e = .returned (.bool (Sp.taggedS F.pool i tag)) ∧ Below w.heap.size w w' := by
 have hl := hr.pool.1
 have HP := Lib.hid hr.pool.2
 clear hr
 have HE := Lib.hid (show Sp.taggedS F.pool i tag = _ by rw [Sp.taggedS])
 generalize Sp.taggedS F.pool i tag = R at HE ⊢
 unfold flC
 rcases Sp.get_cases F.pool i with ⟨h1, h2⟩ | ⟨h1, h2, h3⟩ | ⟨k, hk, rfl, h3⟩
 ·have hR : R = false := by rw [HE.out, h2]
  subst hR
  clear HE h2
  go_enter Tryz.func198, Tryz.ntmps198
  go_wp2
  go_ret
  exact ⟨by simp, by (repeat (first | with_reducible assumption | with_reducible exact Below.refl _ _ | (with_reducible refine Below.setCell ?_ (by first | exact Nat.le_refl _ | omega | (simp; done) | (simp; omega)) _) | (with_reducible refine Below.alloc ?_ (by first | exact Nat.le_refl _ | omega | (simp; done) | (simp; omega)) _) | (with_reducible refine Below.drew ?_)))⟩
 ·have hR : R = false := by rw [HE.out, h3]
  subst hR
  have h4 : ¬ i ≤ (F.pool.length : Int) := by omega
  clear HE h3
  go_enter Tryz.func198, Tryz.ntmps198
  go_wp2
  go_ret
  exact ⟨by simp, by (repeat (first | with_reducible assumption | with_reducible exact Below.refl _ _ | (with_reducible refine Below.setCell ?_ (by first | exact Nat.le_refl _ | omega | (simp; done) | (simp; omega)) _) | (with_reducible refine Below.alloc ?_ (by first | exact Nat.le_refl _ | omega | (simp; done) | (simp; omega)) _) | (with_reducible refine Below.drew ?_)))⟩
 ·obtain ⟨b, o, hA, hrg⟩ := HP.out (by omega)
  obtain ⟨c0, c1, c2, c3, c4, c5⟩ := cn_cells hrg hk
  have hb := World.block_lt_of_cell? _ _ c0
  have hR : R = decide (F.pool[k].tag = tag) := by rw [HE.out, h3]
  have h1 : (1 : Int) ≤ (k : Int) + 1 := by omega
  have h2 : (k : Int) + 1 ≤ (F.pool.length : Int) := by omega
  have h5 : (k : Int) < (F.pool.length : Int) := by omega
  have h6 : (k : Int) + 1 - 1 = (k : Int) := by omega
  subst hR
  clear HE h3 hrg c1 c2 c3 c4 c5
  rw [hA]
  generalize F.pool[k].tag = t at *
  go_enter Tryz.func198, Tryz.ntmps198
  go_wp2
  go_ret
  have hbe : (t == tag) = decide (t = tag) := by rw [Bool.eq_iff_iff]; simp
  exact ⟨by simp [hbe], by (repeat (first | with_reducible assumption | with_reducible exact Below.refl _ _ | (with_reducible refine Below.setCell ?_ (by first | exact Nat.le_refl _ | omega | (simp; done) | (simp; omega)) _) | (with_reducible refine Below.alloc ?_ (by first | exact Nat.le_refl _ | omega | (simp; done) | (simp; omega)) _) | (with_reducible refine Below.drew ?_)))⟩
set_option maxHeartbeats 4000000 in
set_option maxRecDepth 100000 in
theorem cname_any (q : Sp.At) (F : FlP) (i : Int) (w : World) (hr : RdF w q F) (hi : -9223372036854775808 ≤ i ∧ i ≤ 9223372036854775807) :
  Calls Tryz.prog 199 #[.agg (flC q F), .int .i64 i] w fun e w' => e = .returned (.tuple #[.string (Sp.cnameS F.pool i).1, .bool (Sp.cnameS F.pool i).2]) ∧ Below w.heap.size w w' := by
 have hl := hr.pool.1
 have HP := Lib.hid hr.pool.2
 have HE := Lib.hid (show Sp.cnameS F.pool i = _ by rw [Sp.cnameS])
 have HT := Lib.hid (show Sp.taggedS F.pool i 1 = _ by rw [Sp.taggedS])
 have k1 := Lib.hid (fun W hr => tagged_any q F i 1 W hr hi)
 have hr0 := Lib.hid hr
 clear hr
 generalize Sp.cnameS F.pool i = R at HE ⊢
 generalize Sp.taggedS F.pool i 1 = T at HT k1
 unfold flC at k1 ⊢
 have hB := (Below.refl w.heap.size w).alloc (Nat.le_refl _) (.cells #[.slice q.A F.pool.length q.c, .int .i64 F.flags, .int .i64 F.this, .int .i64 F.super, .slice q.I F.ifaces.length q.d, .slice q.X F.fields.length q.e, .slice q.Y F.methods.length q.g] 26)
 have hK := Lib.hid (blk_new w (.cells #[.slice q.A F.pool.length q.c, .int .i64 F.flags, .int .i64 F.this, .int .i64 F.super, .slice q.I F.ifaces.length q.d, .slice q.X F.fields.length q.e, .slice q.Y F.methods.length q.g] 26))
 go_enter Tryz.func199, Tryz.ntmps199
 go_wp2_with fail
 refine (k1.out _ (rdF_below hr0.out hB)).mono ?_
 rintro e w1 ⟨rfl, hb1⟩
 have K1 := Lib.hid (blk_below hK.out hb1)
 have B1 := below_then hB (by simp) hb1
 clear hK hb1 k1
 have c0 := (blk_cell K1.out 0 (.slice q.A F.pool.length q.c) rfl).1
 have hfail : T = false → R = (⟨#[]⟩, false) := by
  intro hT
  rw [HE.out]
  have := HT.out
  rw [hT] at this
  cases hg : Sp.get F.pool i with
  | none => rfl
  | some x =>
   rw [hg] at this
   simp only at this ⊢
   rw [if_neg]
   intro q
   rw [decide_eq_true q] at this
   cases this
 cases T with
 | false =>
  have hR := hfail rfl
  subst hR
  clear HE HT hfail
  go_wp2
  go_ret2
  exact ⟨rfl, B1⟩
 | true =>
  clear hfail
  rcases Sp.get_cases F.pool i with ⟨h1, h2⟩ | ⟨h1, h2, h3⟩ | ⟨k, hk, rfl, h3⟩
  ·have := HT.out; rw [h2] at this; cases this
  ·have := HT.out; rw [h3] at this; cases this
  ·have ht : F.pool[k].tag = 1 := by have := HT.out; rw [h3] at this; simpa using this.symm
   have hR : R = (F.pool[k].text, true) := by rw [HE.out, h3]; simp only; rw [if_pos ht]
   obtain ⟨b, o, hA, hrg⟩ := HP.out (by omega)
   obtain ⟨d0, d1, d2, d3, d4, d5⟩ := cn_cells hrg hk
   have e1 := B1.cell (World.block_lt_of_cell? _ _ d1) |>.trans d1
   have h5 : (k : Int) < (F.pool.length : Int) := by omega
   have h6 : (k : Int) + 1 - 1 = (k : Int) := by omega
   clear HE HT h3 hrg d0 d1 d2 d3 d4 d5 ht
   rw [hA] at c0
   generalize F.pool[k].text = t at *
   subst hR
   go_wp2
   go_ret2
   exact ⟨rfl, B1⟩
set_option maxHeartbeats 4000000 in
set_option maxRecDepth 100000 in
theorem bare_any (m : Sp.Mp) (w : World) (hl : m.1.hs.length ≤ 9223372036854775807) :
  Calls Tryz.prog 261 #[Sp.mbV m] w fun e w' => e = .returned (.bool (decide (m.1.stack = 0) && decide (m.1.locals = 0) && decide (m.1.code.size = 0) && decide (m.1.hs.length = 0))) ∧ Below w.heap.size w w' := by
 obtain ⟨⟨fl, nm, ds, st, lc, cd, hs⟩, A, c⟩ := m
 unfold Sp.mbV
 simp only [] at hl ⊢
 by_cases h1 : st = 0
 ·by_cases h2 : lc = 0
  ·by_cases h3 : cd.size = 0
   ·obtain rfl := str_empty cd h3
    subst h1 h2
    by_cases h4 : hs.length = 0
    ·have h4b : (hs.length : Int) = 0 := by omega
     go_enter Tryz.func261, Tryz.ntmps261
     go_wp2
     go_ret
     exact ⟨by first | (simp [h4]; done) | (simp [h4]; rfl), by (repeat (first | with_reducible assumption | with_reducible exact Below.refl _ _ | (with_reducible refine Below.setCell ?_ (by first | exact Nat.le_refl _ | omega | (simp; done) | (simp; omega)) _) | (with_reducible refine Below.alloc ?_ (by first | exact Nat.le_refl _ | omega | (simp; done) | (simp; omega)) _) | (with_reducible refine Below.drew ?_)))⟩
    ·have h4b : ((hs.length : Int) == 0) = false := by rw [beq_eq_false_iff_ne]; omega
     go_enter Tryz.func261, Tryz.ntmps261
     go_wp2
     go_ret
     exact ⟨by first | (simp [h4]; done) | (simp [h4]; rfl), by (repeat (first | with_reducible assumption | with_reducible exact Below.refl _ _ | (with_reducible refine Below.setCell ?_ (by first | exact Nat.le_refl _ | omega | (simp; done) | (simp; omega)) _) | (with_reducible refine Below.alloc ?_ (by first | exact Nat.le_refl _ | omega | (simp; done) | (simp; omega)) _) | (with_reducible refine Below.drew ?_)))⟩
   ·have hne : (cd.toList == []) = false := by
     rw [Bool.eq_false_iff]
     intro r
     have := (bytes_beq_iff cd ⟨#[]⟩).1 (by simpa using r)
     rw [this] at h3
     exact h3 rfl
    subst h1 h2
    go_enter Tryz.func261, Tryz.ntmps261
    go_wp2
    go_ret
    exact ⟨by first | (simp [h3]; done) | (simp [h3]; rfl), by (repeat (first | with_reducible assumption | with_reducible exact Below.refl _ _ | (with_reducible refine Below.setCell ?_ (by first | exact Nat.le_refl _ | omega | (simp; done) | (simp; omega)) _) | (with_reducible refine Below.alloc ?_ (by first | exact Nat.le_refl _ | omega | (simp; done) | (simp; omega)) _) | (with_reducible refine Below.drew ?_)))⟩
  ·have hb : (lc == 0) = false := by rw [beq_eq_false_iff_ne]; exact h2
   subst h1
   go_enter Tryz.func261, Tryz.ntmps261
   go_wp2
   go_ret
   exact ⟨by simp [h2], by (repeat (first | with_reducible assumption | with_reducible exact Below.refl _ _ | (with_reducible refine Below.setCell ?_ (by first | exact Nat.le_refl _ | omega | (simp; done) | (simp; omega)) _) | (with_reducible refine Below.alloc ?_ (by first | exact Nat.le_refl _ | omega | (simp; done) | (simp; omega)) _) | (with_reducible refine Below.drew ?_)))⟩
 ·have hb : (st == 0) = false := by rw [beq_eq_false_iff_ne]; exact h1
  go_enter Tryz.func261, Tryz.ntmps261
  go_wp2
  go_ret
  exact ⟨by simp [h1], by (repeat (first | with_reducible assumption | with_reducible exact Below.refl _ _ | (with_reducible refine Below.setCell ?_ (by first | exact Nat.le_refl _ | omega | (simp; done) | (simp; omega)) _) | (with_reducible refine Below.alloc ?_ (by first | exact Nat.le_refl _ | omega | (simp; done) | (simp; omega)) _) | (with_reducible refine Below.drew ?_)))⟩
namespace Sp
def leanS (c : Cn) : Bool :=
 decide (1 ≤ c.tag) && decide (c.tag ≤ 7) && (decide (c.tag = 1) || decide (c.text.size = 0)) && (decide (c.tag = 2) || decide (c.n = 0)) && (decide (3 ≤ c.tag) || decide (c.a = 0)) && (decide (c.tag = 5) || decide (c.tag = 6) || (decide (c.b = 0) && decide (c.c = 0)))
def descS (s : ByteArray) (method : Bool) : Int := if method = true then (methodS s).2 else (fieldS s).2
def linkS (p : List Cn) (name desc : Int) (method : Bool) : Int :=
 if (cnameS p name).2 = false ∨ (cnameS p desc).2 = false then 7
 else if nameS (cnameS p name).1 = false then 8
 else descS (cnameS p desc).1 method
theorem size_zero (s : ByteArray) : (s.size = 0) = (s = ⟨#[]⟩) := by
 apply propext
 constructor
 ·exact str_empty s
 ·intro h; rw [h]; rfl
end Sp
set_option maxHeartbeats 8000000 in
set_option maxRecDepth 100000 in
theorem lean_any (c : Sp.Cn) (w : World) :
  Calls Tryz.prog 256 #[Sp.cnV c] w fun e w' => e = .returned (.bool (Sp.leanS c)) ∧ Below w.heap.size w w' := by
 obtain ⟨t, s, n, a, b, c⟩ := c
 unfold Sp.cnV
 simp only []
 have HS := Lib.hid (fun q : s.toList == [] => (bytes_beq_iff s ⟨#[]⟩).1 (by simpa using q))
 have HS2 := Lib.hid (Sp.size_zero s)
 by_cases h1 : t = 1
 ·subst h1
  have HE := Lib.hid (show Sp.leanS ⟨1, s, n, a, b, c⟩ = (decide (n = 0) && decide (a = 0) && decide (b = 0) && decide (c = 0)) by simp [Sp.leanS, Bool.and_assoc])
  generalize Sp.leanS ⟨1, s, n, a, b, c⟩ = R at HE ⊢
  go_enter Tryz.func256, Tryz.ntmps256
  go_wp2
  all_goals (go_ret; exact ⟨by rw [HE.out]; simp [*], by (repeat (first | with_reducible assumption | with_reducible exact Below.refl _ _ | (with_reducible refine Below.setCell ?_ (by first | exact Nat.le_refl _ | omega | (simp; done) | (simp; omega)) _) | (with_reducible refine Below.alloc ?_ (by first | exact Nat.le_refl _ | omega | (simp; done) | (simp; omega)) _) | (with_reducible refine Below.drew ?_)))⟩)
 by_cases h2 : t = 2
 ·subst h2
  have HE := Lib.hid (show Sp.leanS ⟨2, s, n, a, b, c⟩ = (decide (s.size = 0) && decide (a = 0) && decide (b = 0) && decide (c = 0)) by simp [Sp.leanS, Bool.and_assoc])
  generalize Sp.leanS ⟨2, s, n, a, b, c⟩ = R at HE ⊢
  by_cases hs : s.size = 0
  ·obtain rfl := str_empty s hs
   go_enter Tryz.func256, Tryz.ntmps256
   go_wp2
   all_goals (go_ret; exact ⟨by rw [HE.out, decide_eq_true hs]; simp [*], by (repeat (first | with_reducible assumption | with_reducible exact Below.refl _ _ | (with_reducible refine Below.setCell ?_ (by first | exact Nat.le_refl _ | omega | (simp; done) | (simp; omega)) _) | (with_reducible refine Below.alloc ?_ (by first | exact Nat.le_refl _ | omega | (simp; done) | (simp; omega)) _) | (with_reducible refine Below.drew ?_)))⟩)
  ·have hne : (s.toList == []) = false := by rw [Bool.eq_false_iff]; intro r; have := (bytes_beq_iff s ⟨#[]⟩).1 (by simpa using r); rw [this] at hs; exact hs rfl
   go_enter Tryz.func256, Tryz.ntmps256
   go_wp2
   all_goals (go_ret; exact ⟨by rw [HE.out, decide_eq_false hs]; simp [*], by (repeat (first | with_reducible assumption | with_reducible exact Below.refl _ _ | (with_reducible refine Below.setCell ?_ (by first | exact Nat.le_refl _ | omega | (simp; done) | (simp; omega)) _) | (with_reducible refine Below.alloc ?_ (by first | exact Nat.le_refl _ | omega | (simp; done) | (simp; omega)) _) | (with_reducible refine Below.drew ?_)))⟩)
 by_cases h3 : t = 3
 ·subst h3
  have HE := Lib.hid (show Sp.leanS ⟨3, s, n, a, b, c⟩ = (decide (s.size = 0) && decide (n = 0) && decide (b = 0) && decide (c = 0)) by simp [Sp.leanS, Bool.and_assoc])
  generalize Sp.leanS ⟨3, s, n, a, b, c⟩ = R at HE ⊢
  by_cases hs : s.size = 0
  ·obtain rfl := str_empty s hs
   go_enter Tryz.func256, Tryz.ntmps256
   go_wp2
   all_goals (go_ret; exact ⟨by rw [HE.out, decide_eq_true hs]; simp [*], by (repeat (first | with_reducible assumption | with_reducible exact Below.refl _ _ | (with_reducible refine Below.setCell ?_ (by first | exact Nat.le_refl _ | omega | (simp; done) | (simp; omega)) _) | (with_reducible refine Below.alloc ?_ (by first | exact Nat.le_refl _ | omega | (simp; done) | (simp; omega)) _) | (with_reducible refine Below.drew ?_)))⟩)
  ·have hne : (s.toList == []) = false := by rw [Bool.eq_false_iff]; intro r; have := (bytes_beq_iff s ⟨#[]⟩).1 (by simpa using r); rw [this] at hs; exact hs rfl
   go_enter Tryz.func256, Tryz.ntmps256
   go_wp2
   all_goals (go_ret; exact ⟨by rw [HE.out, decide_eq_false hs]; simp [*], by (repeat (first | with_reducible assumption | with_reducible exact Below.refl _ _ | (with_reducible refine Below.setCell ?_ (by first | exact Nat.le_refl _ | omega | (simp; done) | (simp; omega)) _) | (with_reducible refine Below.alloc ?_ (by first | exact Nat.le_refl _ | omega | (simp; done) | (simp; omega)) _) | (with_reducible refine Below.drew ?_)))⟩)
 by_cases h4 : t = 4
 ·subst h4
  have HE := Lib.hid (show Sp.leanS ⟨4, s, n, a, b, c⟩ = (decide (s.size = 0) && decide (n = 0) && decide (b = 0) && decide (c = 0)) by simp [Sp.leanS, Bool.and_assoc])
  generalize Sp.leanS ⟨4, s, n, a, b, c⟩ = R at HE ⊢
  by_cases hs : s.size = 0
  ·obtain rfl := str_empty s hs
   go_enter Tryz.func256, Tryz.ntmps256
   go_wp2
   all_goals (go_ret; exact ⟨by rw [HE.out, decide_eq_true hs]; simp [*], by (repeat (first | with_reducible assumption | with_reducible exact Below.refl _ _ | (with_reducible refine Below.setCell ?_ (by first | exact Nat.le_refl _ | omega | (simp; done) | (simp; omega)) _) | (with_reducible refine Below.alloc ?_ (by first | exact Nat.le_refl _ | omega | (simp; done) | (simp; omega)) _) | (with_reducible refine Below.drew ?_)))⟩)
  ·have hne : (s.toList == []) = false := by rw [Bool.eq_false_iff]; intro r; have := (bytes_beq_iff s ⟨#[]⟩).1 (by simpa using r); rw [this] at hs; exact hs rfl
   go_enter Tryz.func256, Tryz.ntmps256
   go_wp2
   all_goals (go_ret; exact ⟨by rw [HE.out, decide_eq_false hs]; simp [*], by (repeat (first | with_reducible assumption | with_reducible exact Below.refl _ _ | (with_reducible refine Below.setCell ?_ (by first | exact Nat.le_refl _ | omega | (simp; done) | (simp; omega)) _) | (with_reducible refine Below.alloc ?_ (by first | exact Nat.le_refl _ | omega | (simp; done) | (simp; omega)) _) | (with_reducible refine Below.drew ?_)))⟩)
 by_cases h7 : t = 7
 ·subst h7
  have HE := Lib.hid (show Sp.leanS ⟨7, s, n, a, b, c⟩ = (decide (s.size = 0) && decide (n = 0) && decide (b = 0) && decide (c = 0)) by simp [Sp.leanS, Bool.and_assoc])
  generalize Sp.leanS ⟨7, s, n, a, b, c⟩ = R at HE ⊢
  by_cases hs : s.size = 0
  ·obtain rfl := str_empty s hs
   go_enter Tryz.func256, Tryz.ntmps256
   go_wp2
   all_goals (go_ret; exact ⟨by rw [HE.out, decide_eq_true hs]; simp [*], by (repeat (first | with_reducible assumption | with_reducible exact Below.refl _ _ | (with_reducible refine Below.setCell ?_ (by first | exact Nat.le_refl _ | omega | (simp; done) | (simp; omega)) _) | (with_reducible refine Below.alloc ?_ (by first | exact Nat.le_refl _ | omega | (simp; done) | (simp; omega)) _) | (with_reducible refine Below.drew ?_)))⟩)
  ·have hne : (s.toList == []) = false := by rw [Bool.eq_false_iff]; intro r; have := (bytes_beq_iff s ⟨#[]⟩).1 (by simpa using r); rw [this] at hs; exact hs rfl
   go_enter Tryz.func256, Tryz.ntmps256
   go_wp2
   all_goals (go_ret; exact ⟨by rw [HE.out, decide_eq_false hs]; simp [*], by (repeat (first | with_reducible assumption | with_reducible exact Below.refl _ _ | (with_reducible refine Below.setCell ?_ (by first | exact Nat.le_refl _ | omega | (simp; done) | (simp; omega)) _) | (with_reducible refine Below.alloc ?_ (by first | exact Nat.le_refl _ | omega | (simp; done) | (simp; omega)) _) | (with_reducible refine Below.drew ?_)))⟩)
 by_cases h5 : t = 5
 ·subst h5
  have HE := Lib.hid (show Sp.leanS ⟨5, s, n, a, b, c⟩ = (decide (s.size = 0) && decide (n = 0)) by simp [Sp.leanS, Bool.and_assoc])
  generalize Sp.leanS ⟨5, s, n, a, b, c⟩ = R at HE ⊢
  by_cases hs : s.size = 0
  ·obtain rfl := str_empty s hs
   go_enter Tryz.func256, Tryz.ntmps256
   go_wp2
   all_goals (go_ret; exact ⟨by rw [HE.out, decide_eq_true hs]; simp [*], by (repeat (first | with_reducible assumption | with_reducible exact Below.refl _ _ | (with_reducible refine Below.setCell ?_ (by first | exact Nat.le_refl _ | omega | (simp; done) | (simp; omega)) _) | (with_reducible refine Below.alloc ?_ (by first | exact Nat.le_refl _ | omega | (simp; done) | (simp; omega)) _) | (with_reducible refine Below.drew ?_)))⟩)
  ·have hne : (s.toList == []) = false := by rw [Bool.eq_false_iff]; intro r; have := (bytes_beq_iff s ⟨#[]⟩).1 (by simpa using r); rw [this] at hs; exact hs rfl
   go_enter Tryz.func256, Tryz.ntmps256
   go_wp2
   all_goals (go_ret; exact ⟨by rw [HE.out, decide_eq_false hs]; simp [*], by (repeat (first | with_reducible assumption | with_reducible exact Below.refl _ _ | (with_reducible refine Below.setCell ?_ (by first | exact Nat.le_refl _ | omega | (simp; done) | (simp; omega)) _) | (with_reducible refine Below.alloc ?_ (by first | exact Nat.le_refl _ | omega | (simp; done) | (simp; omega)) _) | (with_reducible refine Below.drew ?_)))⟩)
 by_cases h6 : t = 6
 ·subst h6
  have HE := Lib.hid (show Sp.leanS ⟨6, s, n, a, b, c⟩ = (decide (s.size = 0) && decide (n = 0)) by simp [Sp.leanS, Bool.and_assoc])
  generalize Sp.leanS ⟨6, s, n, a, b, c⟩ = R at HE ⊢
  by_cases hs : s.size = 0
  ·obtain rfl := str_empty s hs
   go_enter Tryz.func256, Tryz.ntmps256
   go_wp2
   all_goals (go_ret; exact ⟨by rw [HE.out, decide_eq_true hs]; simp [*], by (repeat (first | with_reducible assumption | with_reducible exact Below.refl _ _ | (with_reducible refine Below.setCell ?_ (by first | exact Nat.le_refl _ | omega | (simp; done) | (simp; omega)) _) | (with_reducible refine Below.alloc ?_ (by first | exact Nat.le_refl _ | omega | (simp; done) | (simp; omega)) _) | (with_reducible refine Below.drew ?_)))⟩)
  ·have hne : (s.toList == []) = false := by rw [Bool.eq_false_iff]; intro r; have := (bytes_beq_iff s ⟨#[]⟩).1 (by simpa using r); rw [this] at hs; exact hs rfl
   go_enter Tryz.func256, Tryz.ntmps256
   go_wp2
   all_goals (go_ret; exact ⟨by rw [HE.out, decide_eq_false hs]; simp [*], by (repeat (first | with_reducible assumption | with_reducible exact Below.refl _ _ | (with_reducible refine Below.setCell ?_ (by first | exact Nat.le_refl _ | omega | (simp; done) | (simp; omega)) _) | (with_reducible refine Below.alloc ?_ (by first | exact Nat.le_refl _ | omega | (simp; done) | (simp; omega)) _) | (with_reducible refine Below.drew ?_)))⟩)
 have HE : Sp.leanS ⟨t, s, n, a, b, c⟩ = false := by
  have q : (decide (1 ≤ t) && decide (t ≤ 7)) = false := by
   by_cases q1 : 1 ≤ t
   ·have q2 : ¬ t ≤ 7 := by omega
    simp [q2]
   ·simp [q1]
  simp only [Sp.leanS, q, Bool.false_and]
 have b1 : (t == 1) = false := by rw [beq_eq_false_iff_ne]; exact h1
 have b2 : (t == 2) = false := by rw [beq_eq_false_iff_ne]; exact h2
 have b3 : (t == 3) = false := by rw [beq_eq_false_iff_ne]; exact h3
 have b4 : (t == 4) = false := by rw [beq_eq_false_iff_ne]; exact h4
 have b5 : (t == 5) = false := by rw [beq_eq_false_iff_ne]; exact h5
 have b6 : (t == 6) = false := by rw [beq_eq_false_iff_ne]; exact h6
 have b7 : (t == 7) = false := by rw [beq_eq_false_iff_ne]; exact h7
 rw [HE]
 clear HE h1 h2 h3 h4 h5 h6 h7
 go_enter Tryz.func256, Tryz.ntmps256
 go_wp2
 go_ret
 exact ⟨by simp, by (repeat (first | with_reducible assumption | with_reducible exact Below.refl _ _ | (with_reducible refine Below.setCell ?_ (by first | exact Nat.le_refl _ | omega | (simp; done) | (simp; omega)) _) | (with_reducible refine Below.alloc ?_ (by first | exact Nat.le_refl _ | omega | (simp; done) | (simp; omega)) _) | (with_reducible refine Below.drew ?_)))⟩
set_option maxHeartbeats 4000000 in
set_option maxRecDepth 100000 in
theorem described_any (s : ByteArray) (m : Bool) (w : World) (hs : s.size ≤ 1099511627776) (hT : Tabs w) :
  Calls Tryz.prog 259 #[.string s, .bool m] w fun e w' => e = .returned (.int .i64 (Sp.descS s m)) ∧ Below w.heap.size w w' := by
 have k1 := Lib.hid (fun W hT => method_any s W hs hT)
 have k2 := Lib.hid (fun W hT => field_any s W hs hT)
 have HE := Lib.hid (show Sp.descS s m = _ by rw [Sp.descS])
 have T0 := Lib.hid hT
 clear hT
 generalize Sp.descS s m = R at HE ⊢
 generalize Sp.methodS s = M at *
 generalize Sp.fieldS s = F at *
 obtain ⟨⟨ml, ⟨md, mn⟩, mv⟩, me⟩ := M
 obtain ⟨⟨fd, fn⟩, fe⟩ := F
 unfold Sp.sigV at k1
 unfold Sp.tyV at k2
 simp only [] at k1 k2
 cases m with
 | true =>
  have hR : R = me := HE.out
  subst hR
  clear HE
  go_enter Tryz.func259, Tryz.ntmps259
  go_wp2_with fail
  refine (k1.out _ T0.out).mono ?_
  rintro e w1 ⟨A1, c1, rfl, _, hb⟩
  have hbz := hb.size
  go_wp2
  go_ret
  exact ⟨rfl, by (repeat (first | with_reducible assumption | with_reducible exact Below.refl _ _ | (with_reducible refine Below.setCell ?_ (by first | exact Nat.le_refl _ | omega | (simp; done) | (simp; omega)) _) | (with_reducible refine Below.alloc ?_ (by first | exact Nat.le_refl _ | omega | (simp; done) | (simp; omega)) _) | (with_reducible refine Below.drew ?_)))⟩
 | false =>
  have hR : R = fe := HE.out
  subst hR
  clear HE
  go_enter Tryz.func259, Tryz.ntmps259
  go_wp2_with fail
  refine (k2.out _ T0.out).mono ?_
  rintro e w1 ⟨rfl, hb⟩
  have hbz := hb.size
  go_wp2
  go_ret
  exact ⟨rfl, by (repeat (first | with_reducible assumption | with_reducible exact Below.refl _ _ | (with_reducible refine Below.setCell ?_ (by first | exact Nat.le_refl _ | omega | (simp; done) | (simp; omega)) _) | (with_reducible refine Below.alloc ?_ (by first | exact Nat.le_refl _ | omega | (simp; done) | (simp; omega)) _) | (with_reducible refine Below.drew ?_)))⟩
theorem flC_box {w : World} {b : Nat} {q : Sp.At} {F : FlP} {T : TypeId} (h : w.heap[b]? = some (.cells (flC q F) T (0, 0))) :
  w.cell? ⟨b, 0, none⟩ = some (.slice q.A F.pool.length q.c) ∧ w.cell? ⟨b, 1, none⟩ = some (.int .i64 F.flags) ∧ w.cell? ⟨b, 2, none⟩ = some (.int .i64 F.this) ∧ w.cell? ⟨b, 3, none⟩ = some (.int .i64 F.super) ∧ w.cell? ⟨b, 4, none⟩ = some (.slice q.I F.ifaces.length q.d) ∧ w.cell? ⟨b, 5, none⟩ = some (.slice q.X F.fields.length q.e) ∧ w.cell? ⟨b, 6, none⟩ = some (.slice q.Y F.methods.length q.g) :=
 ⟨(blk_cell h 0 _ rfl).1, (blk_cell h 1 _ rfl).1, (blk_cell h 2 _ rfl).1, (blk_cell h 3 _ rfl).1, (blk_cell h 4 _ rfl).1, (blk_cell h 5 _ rfl).1, (blk_cell h 6 _ rfl).1⟩
set_option maxHeartbeats 4000000 in
set_option maxRecDepth 100000 in
theorem link_any (q : Sp.At) (F : FlP) (i j : Int) (m : Bool) (w : World) (hr : RdF w q F) (hi : -9223372036854775808 ≤ i ∧ i ≤ 9223372036854775807) (hj : -9223372036854775808 ≤ j ∧ j ≤ 9223372036854775807)
  (hz : ∀ c ∈ F.pool, c.text.size ≤ 1099511627776) (hT : Tabs w) :
  Calls Tryz.prog 258 #[.agg (flC q F), .int .i64 i, .int .i64 j, .bool m] w fun e w' => e = .returned (.int .i64 (Sp.linkS F.pool i j m)) ∧ Below w.heap.size w w' := by
 have T0 := Lib.hid hT
 clear hT
 have hr0 := Lib.hid hr
 clear hr
 have hsz : ∀ i, (Sp.cnameS F.pool i).1.size ≤ 1099511627776 := by
  intro i
  unfold Sp.cnameS Sp.get
  split
  ·rename_i c hc
   split at hc
   ·split
    ·exact hz _ (List.mem_of_getElem? hc)
    ·exact Nat.zero_le _
   ·cases hc
  ·exact Nat.zero_le _
 have hs1 := hsz i
 have hs2 := hsz j
 clear hsz hz
 have k1 := Lib.hid (fun W hr => cname_any q F i W hr hi)
 have k2 := Lib.hid (fun W hr => cname_any q F j W hr hj)
 have k3 := Lib.hid (fun W hT => name_any (Sp.cnameS F.pool i).1 W (by omega) hT)
 have k4 := Lib.hid (fun W hT => described_any (Sp.cnameS F.pool j).1 m W (by omega) hT)
 have HE := Lib.hid (show Sp.linkS F.pool i j m = _ by rw [Sp.linkS])
 generalize Sp.linkS F.pool i j m = R at HE ⊢
 generalize Sp.cnameS F.pool i = N at *
 generalize Sp.cnameS F.pool j = D at *
 obtain ⟨n1, n2⟩ := N
 obtain ⟨d1, d2⟩ := D
 simp only [] at k1 k2 k3 k4 hs1 hs2
 have HE' := Lib.hid HE.out
 clear HE
 simp only [] at HE'
 generalize Sp.nameS n1 = nb at *
 generalize Sp.descS d1 m = db at *
 have hB := (Below.refl w.heap.size w).alloc (Nat.le_refl _) (.cells (flC q F) 26)
 have hK := Lib.hid (blk_new w (.cells (flC q F) 26))
 unfold flC at k1 k2
 have hfl : flC q F = #[.slice q.A F.pool.length q.c, .int .i64 F.flags, .int .i64 F.this, .int .i64 F.super, .slice q.I F.ifaces.length q.d, .slice q.X F.fields.length q.e, .slice q.Y F.methods.length q.g] := rfl
 rw [hfl] at hB ⊢
 clear hfl
 go_enter Tryz.func258, Tryz.ntmps258
 go_wp2_with fail
 refine (k1.out _ (rdF_below hr0.out hB)).mono ?_
 rintro e w1 ⟨rfl, hb1⟩
 have K1 := Lib.hid (blk_below hK.out hb1)
 have B1 := below_then hB (by simp) hb1
 have S1 := B1.size
 clear hK hB hb1 k1
 obtain ⟨c0, c1, c2, c3, c4, c5, c6⟩ := flC_box K1.out
 go_wp2_with fail
 refine (k2.out _ (rdF_below hr0.out B1)).mono ?_
 rintro e w2 ⟨rfl, hb2⟩
 have B2 := below_then B1 S1 hb2
 have S2 := B2.size
 clear K1 B1 S1 hb2 k2 c0 c1 c2 c3 c4 c5 c6
 cases n2 with
 | false =>
  have hR : R = 7 := by rw [HE'.out, if_pos (.inl rfl)]
  subst hR
  clear HE'
  go_wp2
  go_ret
  exact ⟨rfl, B2⟩
 | true =>
  cases d2 with
  | false =>
   have hR : R = 7 := by rw [HE'.out, if_pos (.inr rfl)]
   subst hR
   clear HE'
   go_wp2
   go_ret
   exact ⟨rfl, B2⟩
  | true =>
   have HF := Lib.hid (show R = if nb = false then 8 else db by rw [HE'.out, if_neg (by rintro (h | h) <;> cases h)])
   clear HE'
   go_wp2_with fail
   refine (k3.out _ (fun W h => Tabs.below (T0.out.below B2) h)).mono ?_
   rintro e w3 ⟨rfl, hb3⟩
   have B3 := below_then B2 S2 hb3
   have S3 := B3.size
   clear B2 S2 hb3 k3
   cases nb with
   | false =>
    have hR : R = 8 := HF.out
    subst hR
    clear HF
    go_wp2
    go_ret
    exact ⟨rfl, B3⟩
   | true =>
    have hR : R = db := HF.out
    subst hR
    clear HF
    go_wp2_with fail
    refine (k4.out _ (T0.out.below B3)).mono ?_
    rintro e w4 ⟨rfl, hb4⟩
    go_wp2
    go_ret
    exact ⟨rfl, below_then B3 S3 hb4⟩
end Go.Proofs.YtjjlcoimaihdoaaGreatDoor
