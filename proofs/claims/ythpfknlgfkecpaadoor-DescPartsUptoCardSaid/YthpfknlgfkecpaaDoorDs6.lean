/-
  Walks of the reference's next and Field.
-/
import Derived.Test.YthpfknlgfkecpaaDoorDsPl
set_option linter.unusedVariables false
set_option linter.unusedSimpArgs false
namespace Go.Proofs.YthpfknlgfkecpaaDoor
open Go.RowKit Go.Lib

namespace Sp
def refNextS (s : ByteArray) : Ty × Int := match readS s with
  | none => (t0, 0)
  | some q => (q.1, (s.size : Int) - q.2.size)
end Sp

set_option maxHeartbeats 8000000 in
set_option maxRecDepth 100000 in
theorem refNext2_any (s : ByteArray) (w : World) (hs : s.size ≤ 1099511627776) :
    Calls Tryd.prog 50 #[.string s] w fun e w' => e = .returned (.tuple #[Sp.tyV (Sp.refNextS s).1, .int .i64 (Sp.refNextS s).2]) ∧ Below w.heap.size w w' := by
  have hcs := (Sp.trim_split s).2.2
  go_enter Tryd.func50, Tryd.ntmps50
  go_wp2
  go_loopw [9] (fun _ wr => ∃ j : Nat, j ≤ Sp.cnt s ∧ wr = (w.alloc (.cells #[.int .i64 0, .string ⟨#[]⟩] 23)).alloc (.cells #[.int .i64 j, .string ⟨#[]⟩] 23)) (fun _ wr => s.size - (RowKit.intOf ((wr.cell? ⟨w.heap.size + 1, 0, none⟩).getD undef)).toNat)
  case atStart => exact ⟨0, Nat.zero_le _, rfl⟩
  case round =>
    obtain ⟨j, hj, rfl⟩ := hrel
    by_cases hlt : j < Sp.cnt s
    · have hck := idx_str s j (by omega)
      rw [Sp.cnt_bt s j hlt] at hck
      have hz : (j : Int) < (s.size : Int) := by omega
      go_wp2
      go_roundw
      case rel => exact ⟨j + 1, by omega, by simp⟩
      case measure => simp [RowKit.intOf]; omega
    · obtain rfl : j = Sp.cnt s := by omega
      have D1 := Sp.readS_deep s
      have D2 := Sp.readS_I s
      have D3 := Sp.readS_none s
      have D4 := Sp.readS_L s
      have D5 := Sp.trim_head s
      have D6 := Sp.bt_end s
      have D7 := fun j => Sp.tail_get s j
      have Dc := Sp.readS_class s
      generalize hcc : Sp.cnt s = c at *
      by_cases hdeep : 4 < c
      · have hR : Sp.refNextS s = (Sp.t0, 0) := by rw [Sp.refNextS, D1 hdeep]
        have hz4 : (4 : Int) < (c : Int) := by omega
        have hck := fun h => idx_str s c h
        by_cases hend : c < s.size
        · have hk := idx_str s c hend
          have hne : ¬ Sp.bt s c = 91 := D5 hend
          generalize Sp.bt s c = y at *
          clear hck Dc D1 D2 D3 D4 D5 D6 D7
          go_wp2
          (try simp only [Exit.inBlock, Exit.then]); refine bodyPost_ret (results_ct rfl _ _ _ rfl (ty_load _ w.heap.size 0 (x := .int .i64 0) (y := .string ⟨#[]⟩) (by simp) (by simp))) rfl ?_
          exact ⟨by first | rfl | (rw [hR]; rfl), (((Below.refl _ _).alloc (Nat.le_refl _) _).alloc (by simp) _)⟩
        · have hz : ¬ (c : Int) < (s.size : Int) := by omega
          clear hck Dc D1 D2 D3 D4 D5 D6 D7
          go_wp2
          (try simp only [Exit.inBlock, Exit.then]); refine bodyPost_ret (results_ct rfl _ _ _ rfl (ty_load _ w.heap.size 0 (x := .int .i64 0) (y := .string ⟨#[]⟩) (by simp) (by simp))) rfl ?_
          exact ⟨by first | rfl | (rw [hR]; rfl), (((Below.refl _ _).alloc (Nat.le_refl _) _).alloc (by simp) _)⟩
      have hz4 : ¬ (4 : Int) < (c : Int) := by omega
      by_cases hend : c < s.size
      · have hk := idx_str s c hend
        have hne : ¬ Sp.bt s c = 91 := D5 hend
        have hz : (c : Int) < (s.size : Int) := by omega
        have hzc : ((c : Int) == (s.size : Int)) = false := by rw [beq_eq_false_iff_ne]; omega
        by_cases y1 : Sp.bt s c = 73
        · have hts := (D7 0 hend).2
          have q0 : (0 : Int) ≤ (c : Int) := by omega
          have q4 : (c : Int) ≤ 4 := by omega
          have hri : Sp.rightS ((c : Int), ⟨#[]⟩) = true := by
            simp only [Sp.rightS, decide_eq_true q0, decide_eq_true q4, Bool.true_and]
            rfl
          have hR : Sp.refNextS s = (((c : Int), ⟨#[]⟩), (c : Int) + 1) := by
            rw [Sp.refNextS, D2 y1, if_pos hri]
            simp only [Prod.mk.injEq, true_and]
            rw [hts]
            omega
          rw [y1] at hk
          clear Dc D1 D2 D3 D4 D5 D6 D7 y1 hne
          go_wp2
          (try simp only [Exit.inBlock, Exit.then]); refine bodyPost_ret (results_ct rfl _ _ _ rfl (ty_load _ w.heap.size 0 (x := .int .i64 c) (y := .string ⟨#[]⟩) (by simp) (by simp))) rfl ?_
          exact ⟨by first | rfl | (rw [hR]; rfl), (((Below.refl _ _).alloc (Nat.le_refl _) _).alloc (by simp) _)⟩
        by_cases y2 : Sp.bt s c = 76
        · rw [y2] at hk
          obtain ⟨E, g1, g2, g3, g4, g5⟩ := Dc y2 hend (by omega)
          have hnm : (s.extract (c + 1) E).size ≤ 1099511627776 := by simp; omega
          have k1 := Lib.hid (fun W => refName_any (s.extract (c + 1) E) W (by omega))
          rw [Sp.refName_eq] at k1
          have hR := Lib.hid (show Sp.refNextS s = if E = s.size ∨ Sp.nameS (s.extract (c + 1) E) = false then (Sp.t0, 0) else (((c : Int), s.extract (c + 1) E), (E : Int) + 1) by
            rw [Sp.refNextS, g5]
            by_cases q : E = s.size ∨ Sp.nameS (s.extract (c + 1) E) = false
            · rw [if_pos q, if_pos q]
            · rw [if_neg q, if_neg q]
              have hx : (s.extract (E + 1) s.size).size = s.size - (E + 1) := by simp
              simp only [hx]
              have : E < s.size := by omega
              refine Prod.ext rfl ?_
              simp only []
              omega)
          clear Dc D1 D2 D3 D4 D5 D6 D7 g5 hne y2
          generalize hN : s.extract (c + 1) E = nm at *
          generalize Sp.nameS nm = v at *
          go_wp2
          go_loop [6] (fun v6 => ∃ j : Nat, c + 1 ≤ j ∧ j ≤ E ∧ v6 = .int .i64 j) (fun v6 => E - (RowKit.intOf v6).toNat)
          case atStart => exact ⟨c + 1, Nat.le_refl _, g1, by go_num⟩
          case round =>
            obtain ⟨j, hj1, hj2, rfl⟩ := hrel
            by_cases hlt : j < E
            · have hjs : j < s.size := by omega
              have hzj : (j : Int) < (s.size : Int) := by omega
              have hkj := idx_str s j hjs
              have hny := g3 j hj1 hlt
              generalize Sp.bt s j = y at hkj hny
              go_wp2
              go_round
              case rel => exact ⟨j + 1, by omega, by omega, by go_num⟩
              case measure => simp [RowKit.intOf]; omega
            · obtain rfl : j = E := by omega
              clear g3
              have hfin : Hid (∀ W1, Below ((w.alloc (.cells #[.int .i64 0, .string ⟨#[]⟩] 23)).alloc (.cells #[.int .i64 c, .string nm] 23)).heap.size ((w.alloc (.cells #[.int .i64 0, .string ⟨#[]⟩] 23)).alloc (.cells #[.int .i64 c, .string nm] 23)) W1 → Below w.heap.size w W1) := Lib.hid (fun W1 h => below_then (((Below.refl _ _).alloc (Nat.le_refl _) _).alloc (by simp) _) (by simp; omega) h)
              by_cases hE : j = s.size
              · have hR' : Sp.refNextS s = (Sp.t0, 0) := by rw [hR.out, if_pos (.inl hE)]
                have hze : ¬ (j : Int) < (s.size : Int) := by omega
                subst hE
                clear hR
                go_wp2_with fail
                refine (k1.out _).mono ?_
                rintro e w1 ⟨rfl, hb⟩
                obtain ⟨c0, f0⟩ := kept_cell hb ⟨w.heap.size, 0, none⟩ (.int .i64 0) (by simp)
                obtain ⟨c1, f1⟩ := kept_cell hb ⟨w.heap.size, 1, none⟩ (.string ⟨#[]⟩) (by simp)
                have hb' := hfin.out _ hb
                go_wp2
                (try simp only [Exit.inBlock, Exit.then]); refine bodyPost_ret (results_ct rfl _ _ _ rfl (ty_load _ w.heap.size 0 (x := .int .i64 0) (y := .string ⟨#[]⟩) (by (repeat (first | with_reducible assumption | (with_reducible apply World.cell?_setCell_same) | (with_reducible refine cell_alloc _ _ ?_) | (refine (World.cell?_setCell_other _ _ _ _ (by first | (simp; done) | (intro q; simp at q; done) | (intro q; simp at q; omega))).trans ?_)))) (by (repeat (first | with_reducible assumption | (with_reducible apply World.cell?_setCell_same) | (with_reducible refine cell_alloc _ _ ?_) | (refine (World.cell?_setCell_other _ _ _ _ (by first | (simp; done) | (intro q; simp at q; done) | (intro q; simp at q; omega))).trans ?_)))))) rfl ?_
                exact ⟨by first | rfl | (rw [hR']; rfl), (hb'.setCell (p := ⟨w.heap.size, 0, none⟩) (Nat.le_refl _) _).setCell (p := ⟨w.heap.size, 1, none⟩) (Nat.le_refl _) _⟩
              · have hlt2 : j < s.size := by omega
                have hkE := idx_str s j hlt2
                rw [g4 hlt2] at hkE
                have hzl : (j : Int) < (s.size : Int) := by omega
                have hzb : ((j : Int) == (s.size : Int)) = false := by rw [beq_eq_false_iff_ne]; omega
                cases v with
                | false =>
                  have hR' : Sp.refNextS s = (Sp.t0, 0) := by rw [hR.out, if_pos (.inr rfl)]
                  clear hR
                  go_wp2_with fail
                  refine (k1.out _).mono ?_
                  rintro e w1 ⟨rfl, hb⟩
                  obtain ⟨c0, f0⟩ := kept_cell hb ⟨w.heap.size, 0, none⟩ (.int .i64 0) (by simp)
                  obtain ⟨c1, f1⟩ := kept_cell hb ⟨w.heap.size, 1, none⟩ (.string ⟨#[]⟩) (by simp)
                  have hb' := hfin.out _ hb
                  go_wp2
                  (try simp only [Exit.inBlock, Exit.then]); refine bodyPost_ret (results_ct rfl _ _ _ rfl (ty_load _ w.heap.size 0 (x := .int .i64 0) (y := .string ⟨#[]⟩) (by (repeat (first | with_reducible assumption | (with_reducible apply World.cell?_setCell_same) | (with_reducible refine cell_alloc _ _ ?_) | (refine (World.cell?_setCell_other _ _ _ _ (by first | (simp; done) | (intro q; simp at q; done) | (intro q; simp at q; omega))).trans ?_)))) (by (repeat (first | with_reducible assumption | (with_reducible apply World.cell?_setCell_same) | (with_reducible refine cell_alloc _ _ ?_) | (refine (World.cell?_setCell_other _ _ _ _ (by first | (simp; done) | (intro q; simp at q; done) | (intro q; simp at q; omega))).trans ?_)))))) rfl ?_
                  exact ⟨by first | rfl | (rw [hR']; rfl), (hb'.setCell (p := ⟨w.heap.size, 0, none⟩) (Nat.le_refl _) _).setCell (p := ⟨w.heap.size, 1, none⟩) (Nat.le_refl _) _⟩
                | true =>
                  have hR' : Sp.refNextS s = (((c : Int), nm), (j : Int) + 1) := by rw [hR.out, if_neg (by simp; omega)]
                  clear hR
                  go_wp2_with fail
                  refine (k1.out _).mono ?_
                  rintro e w1 ⟨rfl, hb⟩
                  obtain ⟨c0, f0⟩ := kept_cell hb ⟨w.heap.size, 0, none⟩ (.int .i64 0) (by simp)
                  obtain ⟨c1, f1⟩ := kept_cell hb ⟨w.heap.size, 1, none⟩ (.string ⟨#[]⟩) (by simp)
                  obtain ⟨c2, f2⟩ := kept_cell hb ⟨w.heap.size + 1, 0, none⟩ (.int .i64 c) (by simp)
                  obtain ⟨c3, f3⟩ := kept_cell hb ⟨w.heap.size + 1, 1, none⟩ (.string nm) (by simp)
                  have hb' := hfin.out _ hb
                  go_wp2
                  (try simp only [Exit.inBlock, Exit.then]); refine bodyPost_ret (results_ct rfl _ _ _ rfl (ty_load _ w.heap.size 0 (x := .int .i64 c) (y := .string nm) (by (repeat (first | with_reducible assumption | (with_reducible apply World.cell?_setCell_same) | (with_reducible refine cell_alloc _ _ ?_) | (refine (World.cell?_setCell_other _ _ _ _ (by first | (simp; done) | (intro q; simp at q; done) | (intro q; simp at q; omega))).trans ?_)))) (by (repeat (first | with_reducible assumption | (with_reducible apply World.cell?_setCell_same) | (with_reducible refine cell_alloc _ _ ?_) | (refine (World.cell?_setCell_other _ _ _ _ (by first | (simp; done) | (intro q; simp at q; done) | (intro q; simp at q; omega))).trans ?_)))))) rfl ?_
                  exact ⟨by first | rfl | (rw [hR']; rfl), (hb'.setCell (p := ⟨w.heap.size, 0, none⟩) (Nat.le_refl _) _).setCell (p := ⟨w.heap.size, 1, none⟩) (Nat.le_refl _) _⟩
        · have hR : Sp.refNextS s = (Sp.t0, 0) := by rw [Sp.refNextS, D3 y1 y2]
          generalize Sp.bt s c = y at *
          clear Dc D1 D2 D3 D4 D5 D6 D7
          go_wp2
          (try simp only [Exit.inBlock, Exit.then]); refine bodyPost_ret (results_ct rfl _ _ _ rfl (ty_load _ w.heap.size 0 (x := .int .i64 0) (y := .string ⟨#[]⟩) (by simp) (by simp))) rfl ?_
          exact ⟨by first | rfl | (rw [hR]; rfl), (((Below.refl _ _).alloc (Nat.le_refl _) _).alloc (by simp) _)⟩
      · have hR : Sp.refNextS s = (Sp.t0, 0) := by rw [Sp.refNextS, D3 (by rw [D6 c hend]; decide) (by rw [D6 c hend]; decide)]
        have hz : ¬ (c : Int) < (s.size : Int) := by omega
        have hce : c = s.size := by omega
        clear Dc D1 D2 D3 D4 D5 D6 D7
        go_wp2
        (try simp only [Exit.inBlock, Exit.then]); refine bodyPost_ret (results_ct rfl _ _ _ rfl (ty_load _ w.heap.size 0 (x := .int .i64 0) (y := .string ⟨#[]⟩) (by simp) (by simp))) rfl ?_
        exact ⟨by first | rfl | (rw [hR]; rfl), (((Below.refl _ _).alloc (Nat.le_refl _) _).alloc (by simp) _)⟩
end Go.Proofs.YthpfknlgfkecpaaDoor
