/-
  The law DescArrays: its walk.
-/
import Derived.Test.YthpfknlgfkecpaaDoorDsShown
import Derived.Test.YthpfknlgfkecpaaDoorDsL2
set_option linter.unusedVariables false
set_option linter.unusedSimpArgs false
namespace Go.Proofs.YthpfknlgfkecpaaDoor
open Go.RowKit Go.Lib

def okN : Value → Nat
  | .bool true => 1
  | _ => 0
namespace Sp
theorem right_move (d e : Int) (n : ByteArray) (h : rightS (d, n) = true) (h0 : 0 ≤ e) (h4 : e ≤ 4) : rightS (e, n) = true := by
  simp only [rightS, Bool.and_eq_true, Bool.or_eq_true, decide_eq_true_eq] at h ⊢
  exact ⟨⟨h0, h4⟩, h.2⟩
theorem arr_step (e : Int) (n : ByteArray) (h : rightS (e, n) = true) (h4 : e ≠ 4) : arrS (e, n) = ((e + 1, n), true) ∧ elemS (e + 1, n) = ((e, n), true) ∧ isRefS (e + 1, n) = true := by
  have hd := rightS_dims _ h
  simp only at hd
  have h1 := right_move e (e + 1) n h (by omega) (by omega)
  refine ⟨?_, ?_, ?_⟩
  · rw [arrS, if_pos ⟨h, h4⟩]
  · rw [elemS, if_pos ⟨h1, by show e + 1 ≠ 0; omega⟩]
    simp only [Prod.mk.injEq, and_true]
    omega
  · simp only [isRefS, h1, Bool.true_and, Bool.or_eq_true, decide_eq_true_eq]
    left
    omega
theorem arr_stop (e : Int) (n : ByteArray) (h : rightS (e, n) = false ∨ e = 4) : arrS (e, n) = (t0, false) := by
  rw [arrS, if_neg]
  rintro ⟨h1, h2⟩
  rcases h with h | h
  · rw [h] at h1; cases h1
  · exact h2 h
end Sp

set_option maxHeartbeats 8000000 in
set_option maxRecDepth 100000 in
theorem walkDescArrays (t : Sp.Ty) (w : World) (hd : -9223372036854775808 ≤ t.1 ∧ t.1 ≤ 9223372036854775807) (hn63 : t.2.size ≤ maxLen) (hT : Tabs w) :
    Calls Tryd.prog 5 #[Sp.tyV t] w fun e w' => e = .returned (.bool true) ∧ Below w.heap.size w w' := by
  obtain ⟨d, n⟩ := t
  simp only [] at hd hn63
  unfold maxLen at hn63
  have T0 := Lib.hid hT
  clear hT
  unfold Sp.tyV
  simp only []
  have hk := Lib.hid (fun W hT => shown2_any W hT)
  go_enter Tryd.func5, Tryd.ntmps5
  have hK := Lib.hid (blk_new w (.cells #[.int .i64 d, .string n] 23))
  have hB := (Below.refl w.heap.size w).alloc (Nat.le_refl _) (.cells #[.int .i64 d, .string n] 23)
  have hS : w.heap.size ≤ (w.alloc (.cells #[.int .i64 d, .string n] 23)).heap.size := by simp
  go_wp2_with fail
  generalize w.alloc (.cells #[.int .i64 d, .string n] 23) = W0 at *
  refine (hk.out _ (T0.out.below hB)).mono ?_
  rintro e w1 ⟨rfl, hb1⟩
  clear hk
  have hK1 := Lib.hid (blk_below hK.out hb1)
  have hB1 := below_then hB hS hb1
  have hS1 := hB1.size
  clear hK hB hS hb1
  obtain ⟨⟨c0, c1⟩, f0, f1⟩ := blk2 hK1.out
  by_cases hbig : 50000 < n.size
  · have hz : (50000 : Int) < (n.size : Int) := by omega
    go_wp2
    go_ret
    exact ⟨rfl, hB1⟩
  have hz : ¬ (50000 : Int) < (n.size : Int) := by omega
  have hns : n.size ≤ 1099511627776 := by omega
  have k1 := Lib.hid (fun W hT => write_any d n W hns hT)
  unfold Sp.tyV at k1
  go_wp2_with fail
  refine (k1.out _ (T0.out.below hB1)).mono ?_
  rintro e w2 ⟨rfl, hb2⟩
  have hK2 := Lib.hid (blk_below hK1.out hb2)
  have hB2 := below_then hB1 hS1 hb2
  have hS2 := hB2.size
  clear hK1 hB1 hS1 hb2 c0 c1 f0 f1 k1 hbig hz
  obtain ⟨⟨c0, c1⟩, f0, f1⟩ := blk2 hK2.out
  have hlt := blk_lt hK2.out
  have hw := Sp.write_ok (d, n)
  generalize Sp.writeS (d, n) = R at *
  obtain ⟨rs, re⟩ := R
  simp only [] at hw
  have hw' := Lib.hid hw
  clear hw
  go_wp2
  clear c0 c1 f0 f1
  go_loopw [6, 8] (fun v6 v8 wr => ∃ (j : Nat) (ok : Bool), v6 = .int .i64 j ∧ v8 = .bool ok ∧ Hid (wr.heap[w.heap.size]? = some (.cells #[.int .i64 d, .string n] 23 (0, 0))) ∧ Hid (wr.heap[w2.heap.size]? = some (.cells #[.int .i64 (d + j), .string n] 23 (0, 0))) ∧ Below w.heap.size w wr ∧ Hid ((Sp.rightS (d, n) = true ∧ d + j ≤ 4 ∧ (ok = false → d + j = 4)) ∨ (Sp.rightS (d, n) = false ∧ j = 0))) (fun v6 v8 _ => 10 - (RowKit.intOf v6).toNat + okN v8)
  case atStart =>
    refine ⟨0, true, by go_num, rfl, Lib.hid (blk_old hK2.out), Lib.hid ?_, hB2.alloc hS2 _, Lib.hid ?_⟩
    · have := blk_new w2 (.cells #[.int .i64 d, .string n] 23)
      simpa using this
    · cases hr : Sp.rightS (d, n) with
      | true => exact .inl ⟨rfl, by have := Sp.rightS_dims _ hr; simp only at this; omega, by intro q; cases q⟩
      | false => exact .inr ⟨rfl, rfl⟩
  case round =>
    clear hK2 hB2
    obtain ⟨j, ok, rfl, rfl, hK, hX, hB, hrel⟩ := hrel
    have hSr := hB.size
    have hXl := blk_lt hX.out
    have hKl := blk_lt hK.out
    obtain ⟨⟨c0, c1⟩, f0, f1⟩ := blk2 hK.out
    obtain ⟨⟨x0, x1⟩, g0, g1⟩ := blk2 hX.out
    have hj10 : (j : Int) < 10 := by rcases hrel.out with ⟨h1, h2, _⟩ | ⟨_, h⟩; have := Sp.rightS_dims _ h1; simp only at this; omega; omega
    cases ok with
    | true =>
      have k2 := Lib.hid (fun W hT => arr_any (d + j) n W hns (by rcases hrel.out with ⟨h1, h2, _⟩ | ⟨_, h⟩; have := Sp.rightS_dims _ h1; simp only at this; omega; omega) hT)
      unfold Sp.tyV at k2
      by_cases hgo : Sp.rightS (d, n) = true ∧ d + (j : Int) ≠ 4
      · obtain ⟨hr, h4⟩ := hgo
        have hd0 := Sp.rightS_dims _ hr
        simp only at hd0
        have hle : d + (j : Int) ≤ 4 := by rcases hrel.out with ⟨_, h2, _⟩ | ⟨h, _⟩; exact h2; rw [hr] at h; cases h
        obtain ⟨a1, a2, a3⟩ := Sp.arr_step (d + j) n (Sp.right_move d (d + j) n hr (by omega) hle) h4
        rw [a1] at k2
        have k3 := Lib.hid (fun W hT => elem_any (d + j + 1) n W hns (by omega) hT)
        have k4 := Lib.hid (fun W hT => isRef_any (d + j + 1) n W hns hT)
        rw [a2] at k3
        rw [a3] at k4
        unfold Sp.tyV at k3 k4
        clear a1 a2 a3 hrel
        have hb63 : -9223372036854775808 ≤ d + (j : Int) ∧ d + (j : Int) + 1 ≤ 9223372036854775807 := by omega
        go_wp2_with fail
        refine (k2.out _ (T0.out.below hB)).mono ?_
        rintro e w3 ⟨rfl, hb3⟩
        have hK3 := Lib.hid (blk_below hK.out hb3)
        have hX3 := Lib.hid (blk_below hX.out hb3)
        have hB3 := below_then hB hSr hb3
        have hS3 := hB3.size
        clear hK hX hB hSr hb3 k2 c0 c1 f0 f1 x0 x1 g0 g1 hXl hKl
        obtain ⟨⟨x0, x1⟩, g0, g1⟩ := blk2 hX3.out
        go_wp2_with fail
        refine (k3.out _ (T0.out.below (hB3.alloc hS3 _))).mono ?_
        rintro e w4 ⟨rfl, hb4⟩
        have hK4 := Lib.hid (blk_below (blk_old hK3.out) hb4)
        have hX4 := Lib.hid (blk_below (blk_old hX3.out) hb4)
        have hY4 := Lib.hid (blk_below (blk_new w3 (.cells #[.int .i64 (d + j + 1), .string n] 23)) hb4)
        have hB4 := below_then (hB3.alloc hS3 _) (by simp; omega) hb4
        have hS4 := hB4.size
        clear hK3 hX3 hB3 hS3 hb4 k3 x0 x1 g0 g1
        obtain ⟨⟨x0, x1⟩, g0, g1⟩ := blk2 hX4.out
        obtain ⟨⟨y0, y1⟩, i0, i1⟩ := blk2 hY4.out
        have hXl := blk_lt hX4.out
        have hYl := blk_lt hY4.out
        go_wp2_with fail
        refine (k4.out _ (T0.out.below (hB4.alloc hS4 _))).mono ?_
        rintro e w5 ⟨rfl, hb5⟩
        have hK5 := Lib.hid (blk_below (blk_old hK4.out) hb5)
        have hX5 := Lib.hid (blk_below (blk_old hX4.out) hb5)
        have hY5 := Lib.hid (blk_below (blk_old hY4.out) hb5)
        have hB5 := below_then (hB4.alloc hS4 _) (by simp; omega) hb5
        have hS5 := hB5.size
        clear hK4 hX4 hY4 hB4 hS4 hb5 k4 x0 x1 g0 g1 y0 y1 i0 i1 hXl hYl
        obtain ⟨⟨x0, x1⟩, g0, g1⟩ := blk2 hX5.out
        obtain ⟨⟨y0, y1⟩, i0, i1⟩ := blk2 hY5.out
        go_wp2
        go_roundw
        case rel =>
          refine ⟨j + 1, true, by go_num, rfl, Lib.hid (blk_other (blk_other hK5.out _ _ (by show _ ≠ _; simp; omega)) _ _ (by show _ ≠ _; simp; omega)), Lib.hid ?_, by (repeat (first | with_reducible assumption | with_reducible exact Below.refl _ _ | (with_reducible refine Below.setCell ?_ (by first | exact Nat.le_refl _ | omega | (simp; done) | (simp; omega)) _) | (with_reducible refine Below.alloc ?_ (by first | exact Nat.le_refl _ | omega | (simp; done) | (simp; omega)) _) | (with_reducible refine Below.drew ?_))), Lib.hid (.inl ⟨hr, by omega, by intro q; cases q⟩)⟩
          have := blk_set (i := 1) (blk_set (i := 0) hX5.out (.int .i64 (d + j + 1))) (.string n)
          rw [show d + ((j + 1 : Nat) : Int) = d + j + 1 by omega]
          simpa using this
        case measure => simp [RowKit.intOf, okN]; omega
      · have hstop : Sp.rightS (d, n) = false ∨ d + (j : Int) = 4 := by
          cases hr : Sp.rightS (d, n) with
          | false => exact .inl rfl
          | true => exact .inr (by by_cases q : d + (j : Int) = 4; exact q; exact absurd ⟨hr, q⟩ hgo)
        have hs : Sp.arrS (d + j, n) = (Sp.t0, false) := by
          refine Sp.arr_stop _ _ ?_
          rcases hstop with h | h
          · left
            rcases hrel.out with ⟨h1, _⟩ | ⟨_, h2⟩
            · rw [h] at h1; cases h1
            · subst h2; simpa using h
          · exact .inr h
        rw [hs] at k2
        unfold Sp.t0 at k2
        clear hs
        go_wp2_with fail
        refine (k2.out _ (T0.out.below hB)).mono ?_
        rintro e w3 ⟨rfl, hb3⟩
        have hK3 := Lib.hid (blk_below hK.out hb3)
        have hX3 := Lib.hid (blk_below hX.out hb3)
        have hB3 := below_then hB hSr hb3
        have hS3 := hB3.size
        clear hK hX hB hSr hb3 k2 c0 c1 f0 f1 x0 x1 g0 g1 hXl hKl
        go_wp2
        go_roundw
        case rel =>
          refine ⟨j, false, by go_num, rfl, Lib.hid (blk_old hK3.out), Lib.hid (blk_old hX3.out), hB3.alloc hS3 _, Lib.hid ?_⟩
          rcases hrel.out with ⟨h1, h2, _⟩ | h
          · refine .inl ⟨h1, h2, fun _ => ?_⟩
            rcases hstop with q | q
            · rw [h1] at q; cases q
            · exact q
          · exact .inr h
        case measure => simp [RowKit.intOf, okN]
    | false =>
      by_cases hr : Sp.rightS (d, n) = true
      · have hre : re = 0 := hw'.out.2 hr
        have hj4 : d + (j : Int) = 4 := by rcases hrel.out with ⟨_, _, h⟩ | ⟨h, _⟩; exact h rfl; rw [hr] at h; cases h
        have hd0 := Sp.rightS_dims _ hr
        simp only at hd0
        subst hre
        have hjd : (j : Int) = 4 - d := by omega
        have hbd : -9223372036854775808 ≤ 4 - d ∧ 4 - d ≤ 9223372036854775807 := by omega
        clear hrel hw' hr
        rw [hjd]
        go_wp2
        go_ret
        exact ⟨by simp, hB⟩
      · have hre : (re == 0) = false := by rw [beq_eq_false_iff_ne]; exact fun h => hr (hw'.out.1 h)
        have hj0 : j = 0 := by rcases hrel.out with ⟨h, _⟩ | ⟨_, h⟩; exact absurd h hr; exact h
        subst hj0
        clear hrel hw' hr
        go_wp2
        go_ret
        exact ⟨by simp, hB⟩
end Go.Proofs.YthpfknlgfkecpaaDoor
