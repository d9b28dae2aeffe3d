/-
  Texts of the proof, joined.
-/
import Derived.Test.YtjjlcoimaihdoaaGreatDoorJh7
import Derived.Test.YtjjlcoimaihdoaaGreatDoorJh5
import Derived.Deep.RegionHeld3
import Derived.Deep.RegionWith
import Derived.Deep.DeepCutAuto
import Derived.Test.YtjjlcoimaihdoaaGreatDoorJh6
set_option linter.unusedVariables false
set_option linter.unusedSimpArgs false
namespace Go.Proofs.YtjjlcoimaihdoaaGreatDoor
open Go.RowKit Go.Lib
theorem lawSmall_lit (w : World) :
  Calls Tryz.prog 88 #[] w fun e w' => ∃ b, e = .returned (.agg #[.slice (some ⟨b, 0, none⟩) 4 4, .int .i64 0, .int .i64 2, .int .i64 4, .slice none 0 0, .slice none 0 0, .slice none 0 0]) ∧ w.heap.size ≤ b ∧ w'.heap[b]? = some (.cells (Sp.smallP.flatMap Sp.cnC).toArray 145 (0, 0)) ∧ Below w.heap.size w w' := lawSmall_any w
structure Bx (W : World) (x b : Nat) (C P : Array Value) : Prop where
 box : W.heap[x]? = some (.cells C 26 (0, 0))
 pool : W.heap[b]? = some (.cells P 145 (0, 0))
section
variable {W W' : World} {x b : Nat} {C P : Array Value}
theorem Bx.below (h : Bx W x b C P) (hb : Below W.heap.size W W') : Bx W' x b C P := ⟨blk_below h.box hb, blk_below h.pool hb⟩
theorem Bx.alloc (h : Bx W x b C P) (o : Obj) : Bx (W.alloc o) x b C P := ⟨blk_old h.box, blk_old h.pool⟩
theorem bx7 {c0 c1 c2 c3 c4 c5 c6 : Value} (h : Bx W x b #[c0, c1, c2, c3, c4, c5, c6] P) : W.cell? ⟨x, 0, none⟩ = some c0 ∧ W.cell? ⟨x, 1, none⟩ = some c1 ∧ W.cell? ⟨x, 2, none⟩ = some c2 ∧ W.cell? ⟨x, 3, none⟩ = some c3 ∧ W.cell? ⟨x, 4, none⟩ = some c4 ∧ W.cell? ⟨x, 5, none⟩ = some c5 ∧ W.cell? ⟨x, 6, none⟩ = some c6 :=
 ⟨(blk_cell h.box 0 _ rfl).1, (blk_cell h.box 1 _ rfl).1, (blk_cell h.box 2 _ rfl).1, (blk_cell h.box 3 _ rfl).1, (blk_cell h.box 4 _ rfl).1, (blk_cell h.box 5 _ rfl).1, (blk_cell h.box 6 _ rfl).1⟩
theorem Bx.lt (h : Bx W x b C P) : x < W.heap.size ∧ b < W.heap.size := ⟨blk_lt h.box, blk_lt h.pool⟩
end
theorem own_rdL {α : Type} {enc : α → List Value} {n : Nat} (hn : ∀ x, (enc x).length = n) (h0 : 0 < n) {w : World} {base m c : Nat} {e : TypeId} {A : Option Addr} {l : List α} (h : w.ownsRow base e n (.slice A m c) m (l.flatMap enc)) : m = l.length ∧ RdL enc w A l := by
 have hl : (l.flatMap enc).length = m * n := h.1
 rw [flat_length enc n hn] at hl
 have hm : m = l.length := (Nat.eq_of_mul_eq_mul_right h0 hl).symm
 have hx : m ≤ 9223372036854775807 := by
  rcases h.2 with ⟨_, h0⟩ | ⟨g, cap, cur, hv, h1, h2, h3, h4, h5⟩
  ·omega
  ·have := h4; unfold maxLen at this; omega
 refine ⟨hm, by omega, fun h0 => ?_⟩
 obtain ⟨g, hA⟩ : ∃ g, A = some ⟨g, 0, none⟩ := by
  rcases h.2 with ⟨_, h1⟩ | ⟨g, cap, cur, hv, _⟩
  ·omega
  ·exact ⟨g, by injection hv⟩
 subst hA
 refine ⟨g, 0, rfl, fun j v hj => ?_⟩
 have hc := h.cells (g := g) rfl j v hj
 rw [show (⟨g, 0, none⟩ : Addr).add j = ⟨g, 0 + j, none⟩ by unfold Addr.add; split <;> simp_all] at hc
 exact hc
theorem infoCn : (Tryz.prog.info? 145).map (fun i => (i.zero, i.size, i.bytes)) = some (some (.agg #[.int .i64 0, .string ⟨#[]⟩, .int .i64 0, .int .i64 0, .int .i64 0, .int .i64 0]), 6, 56) := by kernel_rfl
theorem own_ne_box {w : World} {base n size x : Nat} {e T : TypeId} {v : Value} {xs : List Value} {C : Array Value} {fr : Nat × Nat} (h : w.ownsRow base e size v n xs) (hb : w.heap[x]? = some (.cells C T fr)) (hT : T ≠ e) : v.ownBlock ≠ some x := fun q => by
 rcases h.2 with ⟨rfl, _⟩ | ⟨g, cap, cur, rfl, _, hgb, _⟩
 ·simp [Value.ownBlock] at q
 ·have : g = x := by simpa [Value.ownBlock] using q
  subst this
  rw [hb] at hgb
  injection hgb with hgb
  injection hgb with _ e _
  exact hT e
set_option maxHeartbeats 16000000 in
set_option maxRecDepth 100000 in
theorem fileShown_any (w : World) (hT : Tabs w) :
  Calls Tryz.prog 20 #[] w fun e w' => e = .returned (.bool true) ∧ Below w.heap.size w w' := by
 have T0 := Lib.hid hT
 clear hT
 go_enter Tryz.func20, Tryz.ntmps20
 go_wp2_with fail
 refine (lawSmall_lit w).mono ?_
 rintro e w1 ⟨b1, rfl, hb1, hP1, B1⟩
 have A1 := Lib.hid (B1.alloc B1.size (.cells #[.slice (some ⟨b1, 0, none⟩) 4 4, .int .i64 0, .int .i64 2, .int .i64 4, .slice none 0 0, .slice none 0 0, .slice none 0 0] 26))
 have X1 := Lib.hid (show Bx (w1.alloc (.cells #[.slice (some ⟨b1, 0, none⟩) 4 4, .int .i64 0, .int .i64 2, .int .i64 4, .slice none 0 0, .slice none 0 0, .slice none 0 0] 26)) w1.heap.size b1 #[.slice (some ⟨b1, 0, none⟩) 4 4, .int .i64 0, .int .i64 2, .int .i64 4, .slice none 0 0, .slice none 0 0, .slice none 0 0] (Sp.smallP.flatMap Sp.cnC).toArray from ⟨blk_new _ _, blk_old hP1⟩)
 clear hP1 B1
 have S1 := A1.out.size
 go_upto_region 2 with fail
 generalize w1.alloc (.cells #[.slice (some ⟨b1, 0, none⟩) 4 4, .int .i64 0, .int .i64 2, .int .i64 4, .slice none 0 0, .slice none 0 0, .slice none 0 0] 26) = W1 at *
 generalize w1.heap.size = x1 at *
 obtain ⟨c0, c1, c2, c3, c4, c5, c6⟩ := bx7 X1.out
 have ke := Lib.hid (show Calls Tryz.prog 89 #[.agg #[.slice (some ⟨b1, 0, none⟩) 4 4, .int .i64 0, .int .i64 2, .int .i64 4, .slice none 0 0, .slice none 0 0, .slice none 0 0]] W1 (fun e w' => e = .returned (.tuple #[.string (Sp.encodeF smallF.fl).1, .int .i64 (Sp.encodeF smallF.fl).2]) ∧ Below W1.heap.size W1 w') from fileEnc_any (smallQ b1) smallF W1 (rdF_small X1.out.pool) okSmall (T0.out.below A1.out) (by rw [ex3]; omega))
 rw [encS1] at ke
 simp only [] at ke
 have hS := Lib.hid (show (Go.strOfNums (Sp.bytesS smallF.fl)).size = 33 by rw [Sp.size_nums, ex3])
 have hS2 := Lib.hid (show (Go.strOfNums (Sp.bytesS smallF.fl)).extract 0 13 = ⟨#[67, 82, 85, 88, 0, 4, 1, 0, 1, 65, 4, 0, 1]⟩ by kernel_rfl)
 generalize Go.strOfNums (Sp.bytesS smallF.fl) = S at *
 go_wp2_with fail
 refine ke.out.mono ?_
 rintro e w2 ⟨rfl, hb2⟩
 have A2 := Lib.hid (below_then A1.out S1 hb2)
 have X2 := Lib.hid (X1.out.below hb2)
 have S2 := A2.out.size
 clear hb2 ke X1 A1 S1 c0 c1 c2 c3 c4 c5 c6
 go_wp2_with fail
 refine (lawSmall_lit w2).mono ?_
 rintro e w3 ⟨b3, rfl, hb3, hP3, B3⟩
 have D3 := Lib.hid (B3.alloc B3.size (.cells #[.slice (some ⟨b3, 0, none⟩) 4 4, .int .i64 0, .int .i64 2, .int .i64 4, .slice none 0 0, .slice none 0 0, .slice none 0 0] 26))
 have Y3 := Lib.hid (show Bx (w3.alloc (.cells #[.slice (some ⟨b3, 0, none⟩) 4 4, .int .i64 0, .int .i64 2, .int .i64 4, .slice none 0 0, .slice none 0 0, .slice none 0 0] 26)) w3.heap.size b3 #[.slice (some ⟨b3, 0, none⟩) 4 4, .int .i64 0, .int .i64 2, .int .i64 4, .slice none 0 0, .slice none 0 0, .slice none 0 0] (Sp.smallP.flatMap Sp.cnC).toArray from ⟨blk_new _ _, blk_old hP3⟩)
 have hbx3 : b3 < w3.heap.size := blk_lt hP3
 have hsx3 : w2.heap.size ≤ w3.heap.size := B3.size
 clear hP3 B3
 go_upto_region 4 with fail
 generalize w3.alloc (.cells #[.slice (some ⟨b3, 0, none⟩) 4 4, .int .i64 0, .int .i64 2, .int .i64 4, .slice none 0 0, .slice none 0 0, .slice none 0 0] 26) = W3 at *
 generalize w3.heap.size = x3 at *
 obtain ⟨e0, g0⟩ := blk_cell Y3.out.box 2 _ rfl
 have E3 := Lib.hid (D3.out.setCell (p := ⟨x3, 2, none⟩) hsx3 (.int .i64 1))
 have X3 := Lib.hid (show Bx (W3.setCell ⟨x3, 2, none⟩ (.int .i64 1)) x3 b3 #[.slice (some ⟨b3, 0, none⟩) 4 4, .int .i64 0, .int .i64 1, .int .i64 4, .slice none 0 0, .slice none 0 0, .slice none 0 0] (Sp.smallP.flatMap Sp.cnC).toArray from ⟨blk_set Y3.out.box _, blk_other Y3.out.pool _ _ (by simp; omega)⟩)
 clear D3 Y3
 go_upto_region 5 with fail
 clear e0 g0
 generalize W3.setCell ⟨x3, 2, none⟩ (.int .i64 1) = V3 at *
 have A3 := Lib.hid (below_then A2.out S2 E3.out)
 have S3 := A3.out.size
 have Z2 := Lib.hid (X2.out.below E3.out)
 clear X2
 have X2 := Z2
 clear Z2
 clear E3 A2 S2
 go_wp2_with fail
 refine (lawSmall_lit V3).mono ?_
 rintro e w4 ⟨b4, rfl, hb4, hP4, B4⟩
 have D4 := Lib.hid (B4.alloc B4.size (.cells #[.slice (some ⟨b4, 0, none⟩) 4 4, .int .i64 0, .int .i64 2, .int .i64 4, .slice none 0 0, .slice none 0 0, .slice none 0 0] 26))
 have Y4 := Lib.hid (show Bx (w4.alloc (.cells #[.slice (some ⟨b4, 0, none⟩) 4 4, .int .i64 0, .int .i64 2, .int .i64 4, .slice none 0 0, .slice none 0 0, .slice none 0 0] 26)) w4.heap.size b4 #[.slice (some ⟨b4, 0, none⟩) 4 4, .int .i64 0, .int .i64 2, .int .i64 4, .slice none 0 0, .slice none 0 0, .slice none 0 0] (Sp.smallP.flatMap Sp.cnC).toArray from ⟨blk_new _ _, blk_old hP4⟩)
 have hbx4 : b4 < w4.heap.size := blk_lt hP4
 have hsx4 : V3.heap.size ≤ w4.heap.size := B4.size
 clear hP4 B4
 go_upto_region 6 with fail
 generalize w4.alloc (.cells #[.slice (some ⟨b4, 0, none⟩) 4 4, .int .i64 0, .int .i64 2, .int .i64 4, .slice none 0 0, .slice none 0 0, .slice none 0 0] 26) = W4 at *
 generalize w4.heap.size = x4 at *
 obtain ⟨e0, g0⟩ := blk_cell Y4.out.box 1 _ rfl
 have E4 := Lib.hid (D4.out.setCell (p := ⟨x4, 1, none⟩) hsx4 (.int .i64 1))
 have X4 := Lib.hid (show Bx (W4.setCell ⟨x4, 1, none⟩ (.int .i64 1)) x4 b4 #[.slice (some ⟨b4, 0, none⟩) 4 4, .int .i64 1, .int .i64 2, .int .i64 4, .slice none 0 0, .slice none 0 0, .slice none 0 0] (Sp.smallP.flatMap Sp.cnC).toArray from ⟨blk_set Y4.out.box _, blk_other Y4.out.pool _ _ (by simp; omega)⟩)
 clear D4 Y4
 go_upto_region 7 with fail
 clear e0 g0
 generalize W4.setCell ⟨x4, 1, none⟩ (.int .i64 1) = V4 at *
 have A4 := Lib.hid (below_then A3.out S3 E4.out)
 have S4 := A4.out.size
 have Z2 := Lib.hid (X2.out.below E4.out)
 clear X2
 have X2 := Z2
 clear Z2
 have Z3 := Lib.hid (X3.out.below E4.out)
 clear X3
 have X3 := Z3
 clear Z3
 clear E4 A3 S3
 go_wp2_with fail
 refine (lawSmall_lit V4).mono ?_
 rintro e w5 ⟨b5, rfl, hb5, hP5, B5⟩
 have D5 := Lib.hid (B5.alloc B5.size (.cells #[.slice (some ⟨b5, 0, none⟩) 4 4, .int .i64 0, .int .i64 2, .int .i64 4, .slice none 0 0, .slice none 0 0, .slice none 0 0] 26))
 have Y5 := Lib.hid (show Bx (w5.alloc (.cells #[.slice (some ⟨b5, 0, none⟩) 4 4, .int .i64 0, .int .i64 2, .int .i64 4, .slice none 0 0, .slice none 0 0, .slice none 0 0] 26)) w5.heap.size b5 #[.slice (some ⟨b5, 0, none⟩) 4 4, .int .i64 0, .int .i64 2, .int .i64 4, .slice none 0 0, .slice none 0 0, .slice none 0 0] (Sp.smallP.flatMap Sp.cnC).toArray from ⟨blk_new _ _, blk_old hP5⟩)
 have hbx5 : b5 < w5.heap.size := blk_lt hP5
 have hsx5 : V4.heap.size ≤ w5.heap.size := B5.size
 clear hP5 B5
 go_upto_region 8 with fail
 generalize w5.alloc (.cells #[.slice (some ⟨b5, 0, none⟩) 4 4, .int .i64 0, .int .i64 2, .int .i64 4, .slice none 0 0, .slice none 0 0, .slice none 0 0] 26) = W5 at *
 generalize w5.heap.size = x5 at *
 obtain ⟨e0, g0⟩ := blk_cell Y5.out.box 0 _ rfl
 obtain ⟨i0, hi, hz0, hz1, hz2⟩ := info_parts infoCn
 have hsz5 := D5.out.size
 have hlx5 := Y5.out.lt.1
 have hown : Hid (W5.ownsRow V4.heap.size 145 6 (.slice (some ⟨b5, 0, none⟩) 4 4) 4 (Sp.smallP.flatMap Sp.cnC)) := Lib.hid ⟨rfl, .inr ⟨b5, 4, _, rfl, hb5, Y5.out.pool, Nat.le_refl _, by unfold maxLen; omega, rfl, rfl⟩⟩
 go_wp2_with (at_builtin; refine wpList_append_own _ rfl _ _ 22 rfl V4.heap.size 145 i0 (.agg #[.int .i64 0, .string ⟨#[]⟩, .int .i64 0, .int .i64 0, .int .i64 0, .int .i64 0]) 6 56 Tryz.underlying22 hi hz0 hz1 hz2 rfl (by decide) _ 4 _ rfl (hown.out.alloc _) ⟨W5.heap.size, 0, none⟩ 1 1 [.int .i64 4, .string ⟨#[]⟩, .int .i64 0, .int .i64 9, .int .i64 0, .int .i64 0] rfl rfl ?x2 ?x3 ?x4 ?x5 ?x6 ?_)
 case x2 =>
  intro j u hj
  match j, hj with
  | 0, hj => simp at hj; subst hj; simp [Addr.add]
  | 1, hj => simp at hj; subst hj; simp [Addr.add]
  | 2, hj => simp at hj; subst hj; simp [Addr.add]
  | 3, hj => simp at hj; subst hj; simp [Addr.add]
  | 4, hj => simp at hj; subst hj; simp [Addr.add]
  | 5, hj => simp at hj; subst hj; simp [Addr.add]
  | (j + 6), hj => simp at hj
 case x3 => intro u hu; simp at hu; rcases hu with rfl | rfl | rfl | rfl | rfl | rfl <;> rfl
 case x4 => unfold maxLen; omega
 case x5 => omega
 case x6 => simp; omega
 intro v' w6 hown' hg6 _
 obtain ⟨A6, k6, rfl⟩ := own_sl hown'
 have D6 := Lib.hid ((D5.out.alloc hsz5 _).grown hg6 (by simp; omega) (fun q hq => by simp [Value.ownBlock] at hq; omega))
 have K6 := Lib.hid (blk_grown (blk_old Y5.out.box) hg6 (by simp [Value.ownBlock]; omega))
 have S6 := D6.out.size
 clear e0 g0 D5 Y5 hown hg6 hi hz0 hz1 hz2
 obtain ⟨e0, g0⟩ := blk_cell K6.out 0 _ rfl
 have E6 := Lib.hid (D6.out.setCell (p := ⟨x5, 0, none⟩) hsx5 (.slice A6 (4 + 1) k6))
 have K7 := Lib.hid (show (w6.setCell ⟨x5, 0, none⟩ (.slice A6 (4 + 1) k6)).heap[x5]? = some (.cells #[.slice A6 5 k6, .int .i64 0, .int .i64 2, .int .i64 4, .slice none 0 0, .slice none 0 0, .slice none 0 0] 26 (0, 0)) from blk_set K6.out _)
 have hrow := (Keeps.refl (fun i => i = x5) w6).setCell (a := ⟨x5, 0, none⟩) (.inl rfl) (.slice A6 (4 + 1) k6) |>.row hown' (fun k hk e => own_ne_box hown' K6.out (by decide) (e ▸ hk))
 have R6 := Lib.hid (show RdL Sp.cnC (w6.setCell ⟨x5, 0, none⟩ (.slice A6 (4 + 1) k6)) A6 exPool.pool from (own_rdL Sp.cnC_len (by decide) (l := exPool.pool) hrow).2)
 clear hown' hrow K6 D6
 go_upto_region 9 with fail
 clear e0 g0
 generalize w6.setCell ⟨x5, 0, none⟩ (.slice A6 (4 + 1) k6) = V6 at *
 have A6' := Lib.hid (below_then A4.out S4 E6.out)
 have S6' := A6'.out.size
 have Z2 := Lib.hid (X2.out.below E6.out)
 have Z3 := Lib.hid (X3.out.below E6.out)
 have Z4 := Lib.hid (X4.out.below E6.out)
 clear X2 X3 X4 E6 A4 S4 S6
 have X2 := Z2
 have X3 := Z3
 have X4 := Z4
 clear Z2 Z3 Z4
 go_wp2_with fail
 refine (lawSmall_lit V6).mono ?_
 rintro e w7 ⟨b7, rfl, hb7, hP7, B7⟩
 have D7 := Lib.hid (B7.alloc B7.size (.cells #[.slice (some ⟨b7, 0, none⟩) 4 4, .int .i64 0, .int .i64 2, .int .i64 4, .slice none 0 0, .slice none 0 0, .slice none 0 0] 26))
 have Y7 := Lib.hid (show Bx (w7.alloc (.cells #[.slice (some ⟨b7, 0, none⟩) 4 4, .int .i64 0, .int .i64 2, .int .i64 4, .slice none 0 0, .slice none 0 0, .slice none 0 0] 26)) w7.heap.size b7 #[.slice (some ⟨b7, 0, none⟩) 4 4, .int .i64 0, .int .i64 2, .int .i64 4, .slice none 0 0, .slice none 0 0, .slice none 0 0] (Sp.smallP.flatMap Sp.cnC).toArray from ⟨blk_new _ _, blk_old hP7⟩)
 have hbx7 : b7 < w7.heap.size := blk_lt hP7
 have hsx7 : V6.heap.size ≤ w7.heap.size := B7.size
 clear hP7 B7
 go_upto_region 10 with fail
 generalize w7.alloc (.cells #[.slice (some ⟨b7, 0, none⟩) 4 4, .int .i64 0, .int .i64 2, .int .i64 4, .slice none 0 0, .slice none 0 0, .slice none 0 0] 26) = W7 at *
 generalize w7.heap.size = x7 at *
 obtain ⟨e0, g0⟩ := blk_cell Y7.out.box 5 _ rfl
 have hlx7 := Y7.out.lt.1
 have D8 := Lib.hid ((D7.out.setCell (p := ⟨x7, 5, none⟩) hsx7 (.slice (some ⟨W7.heap.size, 0, none⟩) 1 1)).alloc (by have := D7.out.size; simpa using this) (.cells #[.int .i64 0, .int .i64 1, .int .i64 1, .int .i64 0, .int .i64 0, .string ⟨#[]⟩, .slice none 0 0] 131))
 have K8 := Lib.hid (show ((W7.setCell ⟨x7, 5, none⟩ (.slice (some ⟨W7.heap.size, 0, none⟩) 1 1)).alloc (.cells #[.int .i64 0, .int .i64 1, .int .i64 1, .int .i64 0, .int .i64 0, .string ⟨#[]⟩, .slice none 0 0] 131)).heap[x7]? = some (.cells #[.slice (some ⟨b7, 0, none⟩) 4 4, .int .i64 0, .int .i64 2, .int .i64 4, .slice none 0 0, .slice (some ⟨W7.heap.size, 0, none⟩) 1 1, .slice none 0 0] 26 (0, 0)) from blk_old (blk_set Y7.out.box _))
 have P8 := Lib.hid (blk_old (o := (.cells #[.int .i64 0, .int .i64 1, .int .i64 1, .int .i64 0, .int .i64 0, .string ⟨#[]⟩, .slice none 0 0] 131)) (blk_other Y7.out.pool ⟨x7, 5, none⟩ (.slice (some ⟨W7.heap.size, 0, none⟩) 1 1) (by simp; omega)))
 have M8 : Hid (((W7.setCell ⟨x7, 5, none⟩ (.slice (some ⟨W7.heap.size, 0, none⟩) 1 1)).alloc (.cells #[.int .i64 0, .int .i64 1, .int .i64 1, .int .i64 0, .int .i64 0, .string ⟨#[]⟩, .slice none 0 0] 131)).heap[W7.heap.size]? = some (.cells #[.int .i64 0, .int .i64 1, .int .i64 1, .int .i64 0, .int .i64 0, .string ⟨#[]⟩, .slice none 0 0] 131)) := Lib.hid (by have := blk_new (W7.setCell ⟨x7, 5, none⟩ (.slice (some ⟨W7.heap.size, 0, none⟩) 1 1)) (.cells #[.int .i64 0, .int .i64 1, .int .i64 1, .int .i64 0, .int .i64 0, .string ⟨#[]⟩, .slice none 0 0] 131); simpa using this)
 go_upto_region 11 with fail
 clear e0 g0 D7 Y7
 generalize (W7.setCell ⟨x7, 5, none⟩ (.slice (some ⟨W7.heap.size, 0, none⟩) 1 1)).alloc (.cells #[.int .i64 0, .int .i64 1, .int .i64 1, .int .i64 0, .int .i64 0, .string ⟨#[]⟩, .slice none 0 0] 131) = V7 at *
 clear hbx5 hsx5 hsz5 hlx5 hbx7 hsx7 hlx7 hbx3 hsx3 hbx4 hsx4
 have A8 := Lib.hid (below_then A6'.out S6' D8.out)
 have S8 := A8.out.size
 have X2 := Lib.hid (X2.out.below D8.out)
 have X3 := Lib.hid (X3.out.below D8.out)
 have X4 := Lib.hid (X4.out.below D8.out)
 have K7 := Lib.hid (blk_below K7.out D8.out)
 have R6 := Lib.hid (rdL_below R6.out D8.out)
 generalize W7.heap.size = m7 at *
 have TT := Lib.hid (fun W (hb : Below V7.heap.size V7 W) => T0.out.below (below_then A8.out S8 hb))
 have r1 := Lib.hid (fun W (hb : Below V7.heap.size V7 W) => show Calls Tryz.prog 90 #[.agg #[.slice (some ⟨b1, 0, none⟩) 4 4, .int .i64 0, .int .i64 2, .int .i64 4, .slice none 0 0, .slice none 0 0, .slice none 0 0]] W (fun e w' => e = .returned (.int .i64 (Sp.encodeF smallF.fl).2) ∧ Below W.heap.size W w') from fileRight_any (smallQ b1) smallF W (rdF_small (X2.out.below hb).pool) okSmall (TT.out W hb) (by rw [ex3]; omega))
 have r3 := Lib.hid (fun W (hb : Below V7.heap.size V7 W) => show Calls Tryz.prog 90 #[.agg #[.slice (some ⟨b3, 0, none⟩) 4 4, .int .i64 0, .int .i64 1, .int .i64 4, .slice none 0 0, .slice none 0 0, .slice none 0 0]] W (fun e w' => e = .returned (.int .i64 (Sp.encodeF exThis.fl).2) ∧ Below W.heap.size W w') from fileRight_any (smallQ b3) exThis W ⟨(rdF_small (X3.out.below hb).pool).pool, rdN_nil _ _ _, ⟨rdL_nil _ _ _, fun m hm => by cases hm⟩, ⟨rdL_nil _ _ _, fun m hm => by cases hm⟩⟩ okThis (TT.out W hb) (by rw [len4]; omega))
 have r4 := Lib.hid (fun W (hb : Below V7.heap.size V7 W) => show Calls Tryz.prog 90 #[.agg #[.slice (some ⟨b4, 0, none⟩) 4 4, .int .i64 1, .int .i64 2, .int .i64 4, .slice none 0 0, .slice none 0 0, .slice none 0 0]] W (fun e w' => e = .returned (.int .i64 (Sp.encodeF exFlags.fl).2) ∧ Below W.heap.size W w') from fileRight_any (smallQ b4) exFlags W ⟨(rdF_small (X4.out.below hb).pool).pool, rdN_nil _ _ _, ⟨rdL_nil _ _ _, fun m hm => by cases hm⟩, ⟨rdL_nil _ _ _, fun m hm => by cases hm⟩⟩ okFlags (TT.out W hb) (by rw [len5]; omega))
 have r5 := Lib.hid (fun W (hb : Below V7.heap.size V7 W) => show Calls Tryz.prog 90 #[.agg #[.slice A6 5 k6, .int .i64 0, .int .i64 2, .int .i64 4, .slice none 0 0, .slice none 0 0, .slice none 0 0]] W (fun e w' => e = .returned (.int .i64 (Sp.encodeF exPool.fl).2) ∧ Below W.heap.size W w') from fileRight_any ⟨A6, k6, none, 0, none, 0, none, 0⟩ exPool W ⟨rdL_below R6.out hb, rdN_nil _ _ _, ⟨rdL_nil _ _ _, fun m hm => by cases hm⟩, ⟨rdL_nil _ _ _, fun m hm => by cases hm⟩⟩ okPool (TT.out W hb) (by rw [len6]; omega))
 have r7 := Lib.hid (fun W (hb : Below V7.heap.size V7 W) => show Calls Tryz.prog 90 #[.agg #[.slice (some ⟨b7, 0, none⟩) 4 4, .int .i64 0, .int .i64 2, .int .i64 4, .slice none 0 0, .slice (some ⟨m7, 0, none⟩) 1 1, .slice none 0 0]] W (fun e w' => e = .returned (.int .i64 (Sp.encodeF (exField none 0).fl).2) ∧ Below W.heap.size W w') from fileRight_any ⟨some ⟨b7, 0, none⟩, 4, none, 0, some ⟨m7, 0, none⟩, 1, none, 0⟩ (exField none 0) W ⟨rdL_blk (blk_below P8.out hb) rfl (by decide), rdN_nil _ _ _, ⟨rdL_blk (blk_below M8.out hb) rfl (by decide), fun m hm => by simp [exField] at hm; subst hm; exact rdL_nil _ _ _⟩, ⟨rdL_nil _ _ _, fun m hm => by cases hm⟩⟩ (okField none 0) (TT.out W hb) (by rw [len7]; omega))
 rw [encS1] at r1
 rw [ex4] at r3
 rw [ex5] at r4
 rw [ex6] at r5
 rw [ex7] at r7
 simp only [] at r1
 have X5 := Lib.hid (show Bx V7 x5 b7 _ _ from ⟨K7.out, P8.out⟩)
 have X7 := Lib.hid (show Bx V7 x7 b7 _ _ from ⟨K8.out, P8.out⟩)
 clear K7 K8 P8 M8 R6 D8 A6' S6' TT
 have s1 := hS.out
 have s2 := hS2.out
 have s3 : decide ((13 : Int) < (S.size : Int)) = true := decide_eq_true (by omega)
 clear hS hS2
 have H0 := Lib.hid (Below.refl V7.heap.size V7)
 have C2 := bx7 X2.out
 obtain ⟨c0, c1, c2, c3, c4, c5, c6⟩ := C2
 go_wp2_with fail
 refine (r1.out _ H0.out).mono ?_
 rintro e u1 ⟨rfl, h1⟩
 clear c0 c1 c2 c3 c4 c5 c6
 obtain ⟨c0, c1, c2, c3, c4, c5, c6⟩ := bx7 (X3.out.below h1)
 have G1 := Lib.hid h1
 go_wp2_with fail
 refine (r3.out _ G1.out).mono ?_
 rintro e u2 ⟨rfl, h2⟩
 have G2 := Lib.hid (below_then G1.out G1.out.size h2)
 clear c0 c1 c2 c3 c4 c5 c6 h2
 obtain ⟨c0, c1, c2, c3, c4, c5, c6⟩ := bx7 (X4.out.below G2.out)
 go_wp2_with fail
 refine (r4.out _ G2.out).mono ?_
 rintro e u3 ⟨rfl, h3⟩
 have G3 := Lib.hid (below_then G2.out G2.out.size h3)
 clear c0 c1 c2 c3 c4 c5 c6 h3
 obtain ⟨c0, c1, c2, c3, c4, c5, c6⟩ := bx7 (X5.out.below G3.out)
 go_wp2_with fail
 refine (r5.out _ G3.out).mono ?_
 rintro e u4 ⟨rfl, h4⟩
 have G4 := Lib.hid (below_then G3.out G3.out.size h4)
 clear c0 c1 c2 c3 c4 c5 c6 h4
 obtain ⟨c0, c1, c2, c3, c4, c5, c6⟩ := bx7 (X7.out.below G4.out)
 go_wp2_with fail
 refine (r7.out _ G4.out).mono ?_
 rintro e u5 ⟨rfl, h5⟩
 have G5 := Lib.hid (below_then G4.out G4.out.size h5)
 clear c0 c1 c2 c3 c4 c5 c6 h5
 go_wp2
 go_ret
 exact ⟨by first | rfl | simp, below_then A8.out S8 G5.out⟩
 all_goals exfalso
 all_goals first | omega | (rename_i hq; exact hq (by rw [s2]; first | rfl | decide | kernel_rfl)) | (rename_i hq; rw [s2] at hq; simp at hq; done)
namespace Sp
def manyR {α : Type} (read : ByteArray → Int → α × ByteArray × Int) : Nat → ByteArray → Int → List α × ByteArray × Int
 | 0, s, e => ([], s, e)
 | n + 1, s, e => if e = 0 then ((read s e).1 :: (manyR read n (read s e).2.1 (read s e).2.2).1, (manyR read n (read s e).2.1 (read s e).2.2).2) else ([], s, e)
theorem manyR_err {α : Type} (read : ByteArray → Int → α × ByteArray × Int) (n : Nat) (s : ByteArray) (e : Int) (h : ¬ e = 0) : manyR read n s e = ([], s, e) := by
 cases n with
 | zero => rfl
 | succ n => rw [manyR, if_neg h]
theorem manyR_ok {α : Type} (read : ByteArray → Int → α × ByteArray × Int) (n : Nat) (s : ByteArray) : manyR read (n + 1) s 0 = ((read s 0).1 :: (manyR read n (read s 0).2.1 (read s 0).2.2).1, (manyR read n (read s 0).2.1 (read s 0).2.2).2) := by
 rw [manyR, if_pos rfl]
end Sp
def Sp.hnV (h : Sp.Hn) : Value := .agg #[.int .i64 h.fr, .int .i64 h.til, .int .i64 h.at_, .int .i64 h.cls]
theorem infoHn : (Tryz.prog.info? 239).map (fun i => (i.zero, i.size, i.bytes)) = some (some (.agg #[.int .i64 0, .int .i64 0, .int .i64 0, .int .i64 0]), 4, 32) := by kernel_rfl
theorem infoI : (Tryz.prog.info? 3).map (fun i => (i.zero, i.size, i.bytes)) = some (some (.int .i64 0), 1, 8) := by kernel_rfl
theorem grown_rd {w w' : World} {rb : Nat} {s : ByteArray} {e : Int} {row : Option Nat} (h : Rd w rb s e) (hg : w.grownBy w' row) (hne : some rb ≠ row) : Rd w' rb s e := blk_grown h hg hne
set_option maxHeartbeats 8000000 in
set_option maxRecDepth 100000 in
theorem manyCn_any (read : ByteArray → Int → Sp.Cn × ByteArray × Int) (f : FuncId) (v : Value) (rb : Nat) (s : ByteArray) (e : Int) (n : Nat) (w : World) (h : Rd w rb s e) (hs : s.size ≤ 1099511627776) (hn : n ≤ 2)
  (hrs : ∀ s e, (read s e).2.1.size ≤ s.size) (bd : Array Value) (hvv : v = .func (.func f) bd #[]) (hent : ∀ W, (callFunc f bd).run Tryz.prog W = .ok (.enter f bd) W)
  (hread : ∀ (s1 : ByteArray) (e1 : Int) (W : World), Keeps (fun i => i = rb) w W → Rd W rb s1 e1 → s1.size ≤ 1099511627776 → Calls Tryz.prog f bd W fun x W' => x = .returned (Sp.cnV (read s1 e1).1) ∧ Rd W' rb (read s1 e1).2.1 (read s1 e1).2.2 ∧ Keeps (fun i => i = rb) W W') :
  Calls Tryz.prog 163 #[.pointer (some ⟨rb, 0, none⟩), .int .i64 n, v] w fun x w' => ∃ A c, x = .returned (.slice A (Sp.manyR read (Sp.numR s e n).1.toNat (Sp.numR s e n).2.1 (Sp.numR s e n).2.2).1.length c) ∧
   w'.ownsRow w.heap.size 145 6 (.slice A (Sp.manyR read (Sp.numR s e n).1.toNat (Sp.numR s e n).2.1 (Sp.numR s e n).2.2).1.length c) (Sp.manyR read (Sp.numR s e n).1.toNat (Sp.numR s e n).2.1 (Sp.numR s e n).2.2).1.length ((Sp.manyR read (Sp.numR s e n).1.toNat (Sp.numR s e n).2.1 (Sp.numR s e n).2.2).1.flatMap Sp.cnC) ∧
   Rd w' rb (Sp.manyR read (Sp.numR s e n).1.toNat (Sp.numR s e n).2.1 (Sp.numR s e n).2.2).2.1 (Sp.manyR read (Sp.numR s e n).1.toNat (Sp.numR s e n).2.1 (Sp.numR s e n).2.2).2.2 ∧ Keeps (fun i => i = rb) w w' := by
 obtain ⟨i0, hi, hz0, hz1, hz2⟩ := info_parts infoCn
 subst hvv
 have kn := Lib.hid (number_any rb s e n w h hs (by omega))
 have hnv := Sp.num_two s e n hn
 have hz := Sp.num_len s e n
 have hlr := blk_lt h
 have hrd := Lib.hid hread
 have hrz := Lib.hid hrs
 clear hread h hrs
 generalize Sp.numR s e n = N at *
 obtain ⟨v, s0, e0⟩ := N
 simp only [] at kn hnv hz ⊢
 obtain ⟨m, rfl⟩ := Int.eq_ofNat_of_zero_le hnv.1
 rw [Int.toNat_natCast]
 generalize hF : Sp.manyR read m s0 e0 = F
 have HF := Lib.hid (show (([] : List Sp.Cn) ++ (Sp.manyR read m s0 e0).1, (Sp.manyR read m s0 e0).2) = F by rw [hF]; rfl)
 clear hF
 have hs0 : s0.size ≤ 1099511627776 := by omega
 have hm : m ≤ 65535 := by omega
 clear hnv hz hs
 go_enter Tryz.func163, Tryz.ntmps163
 go_wp2_with fail
 refine kn.out.mono ?_
 rintro x w1 ⟨rfl, hR1, hK1⟩
 have HR := Lib.hid hR1
 have HK := Lib.hid hK1
 have HO := Lib.hid (World.ownsRow_nil w1 w.heap.size 145 6)
 clear kn hR1 hK1
 go_wp2
 go_loopw [7, 8] (fun v7 v8 wr => ∃ (k : Nat) (acc : List Sp.Cn) (s1 : ByteArray) (e1 : Int), v8 = .int .i64 k ∧ acc.length + k ≤ 65535 ∧ s1.size ≤ 1099511627776 ∧ Hid (wr.ownsRow w.heap.size 145 6 v7 acc.length (acc.flatMap Sp.cnC)) ∧ Hid (Rd wr rb s1 e1) ∧ Hid (Keeps (fun i => i = rb) w wr) ∧ Hid ((acc ++ (Sp.manyR read k s1 e1).1, (Sp.manyR read k s1 e1).2) = F)) (fun _ v8 _ => (RowKit.intOf v8).toNat)
 case atStart => exact ⟨m, [], s0, e0, by first | rfl | go_num, by simp; omega, hs0, HO, HR, HK, HF⟩
 case round =>
  clear HR HK HO HF
  obtain ⟨k, acc, s1, e1, rfl, hak, hs1, hO, hR, hK, hf⟩ := hrel
  obtain ⟨r1, g1⟩ := blk_cell hR.out 1 _ rfl
  have hlb := blk_lt hR.out
  have hksz := hK.out.size
  have hback : ∀ (hq : (Sp.manyR read k s1 e1) = ([], s1, e1)), F = (acc, s1, e1) := fun hq => by rw [← hf.out, hq]; simp
  have hbk := Lib.hid hback
  clear hback
  by_cases hk0 : k = 0
  ·subst hk0
   have hF := hbk.out rfl
   subst hF
   obtain ⟨A, c, rfl⟩ := own_sl hO.out
   have h1 := hO.out
   have h2 := hR.out
   have h3 := hK.out
   clear hf hbk
   go_wp2
   go_ret
   exact ⟨A, c, rfl, h1, h2, h3⟩
  ·have hzk : (0 : Int) < (k : Int) := by omega
   by_cases he : e1 = 0
   ·subst he
    obtain ⟨k', rfl⟩ : ∃ k', k = k' + 1 := ⟨k - 1, by omega⟩
    have hf2 := hf.out
    rw [Sp.manyR_ok] at hf2
    have kr := Lib.hid (hrd.out s1 0 wr hK.out hR.out hs1)
    have hrz1 := hrz.out s1 0
    clear hf hbk hk0
    generalize read s1 0 = N at *
    obtain ⟨el, s2, e2⟩ := N
    simp only [] at kr hf2 hrz1
    have hf3 := Lib.hid (show ((acc ++ [el]) ++ (Sp.manyR read k' s2 e2).1, (Sp.manyR read k' s2 e2).2) = F by rw [← hf2, List.append_assoc]; rfl)
    clear hf2
    obtain ⟨ct, cs, cn, ca, cb, cc⟩ := el
    unfold Sp.cnV at kr
    simp only [] at kr
    have hent' := hent
    go_wp2_with fail
    refine kr.out.mono ?_
    rintro x w4 ⟨rfl, hR4, hK4⟩
    have hbase := own_base hO.out
    have hO4 := Lib.hid (hK4.row hO.out (fun q hq e => by have := hbase q hq; omega))
    have hKK := Lib.hid (hK.out.trans hK4)
    have hR4' := Lib.hid hR4
    have hsz4 := hKK.out.size
    have hl4 := blk_lt hR4
    clear hO hR hK hR4 hK4 kr r1 g1 hlb hksz
    go_wp2_with (at_builtin; refine wpList_append_own _ rfl _ _ 22 rfl w.heap.size 145 i0 (.agg #[.int .i64 0, .string ⟨#[]⟩, .int .i64 0, .int .i64 0, .int .i64 0, .int .i64 0]) 6 56 Tryz.underlying22 hi hz0 hz1 hz2 rfl (by decide) _ acc.length (acc.flatMap Sp.cnC) rfl (hO4.out.alloc _) ⟨w4.heap.size, 0, none⟩ 1 1 ([.int .i64 ct, .string cs, .int .i64 cn, .int .i64 ca, .int .i64 cb, .int .i64 cc]) rfl rfl ?x2 ?x3 ?x4 ?x5 ?x6 ?_)
    try case x2 =>
     intro j u hj
     match j, hj with
     | 0, hj => simp at hj; subst hj; simp [Addr.add]
     | 1, hj => simp at hj; subst hj; simp [Addr.add]
     | 2, hj => simp at hj; subst hj; simp [Addr.add]
     | 3, hj => simp at hj; subst hj; simp [Addr.add]
     | 4, hj => simp at hj; subst hj; simp [Addr.add]
     | 5, hj => simp at hj; subst hj; simp [Addr.add]
     | (j + 6), hj => simp at hj
    try case x3 => intro u hu; simp at hu; rcases hu with rfl | rfl | rfl | rfl | rfl | rfl <;> rfl
    try case x4 => unfold maxLen; omega
    try case x5 => omega
    try case x6 => first | omega | (simp; omega)
    intro v' w5 hown' hg5 _
    have hO5 := Lib.hid (show w5.ownsRow w.heap.size 145 6 v' (acc ++ [(⟨ct, cs, cn, ca, cb, cc⟩ : Sp.Cn)]).length ((acc ++ [(⟨ct, cs, cn, ca, cb, cc⟩ : Sp.Cn)]).flatMap Sp.cnC) by rw [List.flatMap_append, List.length_append]; exact hown')
    have hR5 := Lib.hid (grown_rd (blk_old hR4'.out) hg5 (fun q => by have := hbase _ q.symm; omega))
    have hK5 := Lib.hid ((hKK.out.alloc _).then (Keeps.of_grown (S := fun i => w.heap.size ≤ i) hg5 (fun q hq => .inl (hbase q hq))) (fun i q => .inr q))
    clear hown' hg5 hO4 hR4' hKK hbase
    go_wp2
    go_roundw
    case rel => exact ⟨k', acc ++ [(⟨ct, cs, cn, ca, cb, cc⟩ : Sp.Cn)], s2, e2, by first | rfl | go_num | (simp; done) | (simp; omega), by simp; omega, by omega, hO5, hR5, hK5, hf3⟩
    case measure => first | (simp [RowKit.intOf]; done) | (simp [RowKit.intOf]; omega)
   ·have heb : (e1 == 0) = false := by simp [he]
    have hF := hbk.out (Sp.manyR_err read k s1 e1 he)
    subst hF
    obtain ⟨A, c, rfl⟩ := own_sl hO.out
    have h1 := hO.out
    have h2 := hR.out
    have h3 := hK.out
    clear hf hbk
    go_wp2
    go_ret
    exact ⟨A, c, rfl, h1, h2, h3⟩
set_option maxHeartbeats 8000000 in
set_option maxRecDepth 100000 in
theorem manyHn_any (read : ByteArray → Int → Sp.Hn × ByteArray × Int) (f : FuncId) (v : Value) (rb : Nat) (s : ByteArray) (e : Int) (n : Nat) (w : World) (h : Rd w rb s e) (hs : s.size ≤ 1099511627776) (hn : n ≤ 2)
  (hrs : ∀ s e, (read s e).2.1.size ≤ s.size) (bd : Array Value) (hvv : v = .func (.func f) #[] bd) (hent : ∀ W, (callFunc f bd).run Tryz.prog W = .ok (.enter f bd) W)
  (hread : ∀ (s1 : ByteArray) (e1 : Int) (W : World), Keeps (fun i => i = rb) w W → Rd W rb s1 e1 → s1.size ≤ 1099511627776 → Calls Tryz.prog f bd W fun x W' => x = .returned (Sp.hnV (read s1 e1).1) ∧ Rd W' rb (read s1 e1).2.1 (read s1 e1).2.2 ∧ Keeps (fun i => i = rb) W W') :
  Calls Tryz.prog 225 #[.pointer (some ⟨rb, 0, none⟩), .int .i64 n, v] w fun x w' => ∃ A c, x = .returned (.slice A (Sp.manyR read (Sp.numR s e n).1.toNat (Sp.numR s e n).2.1 (Sp.numR s e n).2.2).1.length c) ∧
   w'.ownsRow w.heap.size 239 4 (.slice A (Sp.manyR read (Sp.numR s e n).1.toNat (Sp.numR s e n).2.1 (Sp.numR s e n).2.2).1.length c) (Sp.manyR read (Sp.numR s e n).1.toNat (Sp.numR s e n).2.1 (Sp.numR s e n).2.2).1.length ((Sp.manyR read (Sp.numR s e n).1.toNat (Sp.numR s e n).2.1 (Sp.numR s e n).2.2).1.flatMap Sp.hnC) ∧
   Rd w' rb (Sp.manyR read (Sp.numR s e n).1.toNat (Sp.numR s e n).2.1 (Sp.numR s e n).2.2).2.1 (Sp.manyR read (Sp.numR s e n).1.toNat (Sp.numR s e n).2.1 (Sp.numR s e n).2.2).2.2 ∧ Keeps (fun i => i = rb) w w' := by
 obtain ⟨i0, hi, hz0, hz1, hz2⟩ := info_parts infoHn
 subst hvv
 have kn := Lib.hid (number_any rb s e n w h hs (by omega))
 have hnv := Sp.num_two s e n hn
 have hz := Sp.num_len s e n
 have hlr := blk_lt h
 have hrd := Lib.hid hread
 have hrz := Lib.hid hrs
 clear hread h hrs
 generalize Sp.numR s e n = N at *
 obtain ⟨v, s0, e0⟩ := N
 simp only [] at kn hnv hz ⊢
 obtain ⟨m, rfl⟩ := Int.eq_ofNat_of_zero_le hnv.1
 rw [Int.toNat_natCast]
 generalize hF : Sp.manyR read m s0 e0 = F
 have HF := Lib.hid (show (([] : List Sp.Hn) ++ (Sp.manyR read m s0 e0).1, (Sp.manyR read m s0 e0).2) = F by rw [hF]; rfl)
 clear hF
 have hs0 : s0.size ≤ 1099511627776 := by omega
 have hm : m ≤ 65535 := by omega
 clear hnv hz hs
 go_enter Tryz.func225, Tryz.ntmps225
 go_wp2_with fail
 refine kn.out.mono ?_
 rintro x w1 ⟨rfl, hR1, hK1⟩
 have HR := Lib.hid hR1
 have HK := Lib.hid hK1
 have HO := Lib.hid (World.ownsRow_nil w1 w.heap.size 239 4)
 clear kn hR1 hK1
 go_wp2
 go_loopw [7, 8] (fun v7 v8 wr => ∃ (k : Nat) (acc : List Sp.Hn) (s1 : ByteArray) (e1 : Int), v8 = .int .i64 k ∧ acc.length + k ≤ 65535 ∧ s1.size ≤ 1099511627776 ∧ Hid (wr.ownsRow w.heap.size 239 4 v7 acc.length (acc.flatMap Sp.hnC)) ∧ Hid (Rd wr rb s1 e1) ∧ Hid (Keeps (fun i => i = rb) w wr) ∧ Hid ((acc ++ (Sp.manyR read k s1 e1).1, (Sp.manyR read k s1 e1).2) = F)) (fun _ v8 _ => (RowKit.intOf v8).toNat)
 case atStart => exact ⟨m, [], s0, e0, by first | rfl | go_num, by simp; omega, hs0, HO, HR, HK, HF⟩
 case round =>
  clear HR HK HO HF
  obtain ⟨k, acc, s1, e1, rfl, hak, hs1, hO, hR, hK, hf⟩ := hrel
  obtain ⟨r1, g1⟩ := blk_cell hR.out 1 _ rfl
  have hlb := blk_lt hR.out
  have hksz := hK.out.size
  have hback : ∀ (hq : (Sp.manyR read k s1 e1) = ([], s1, e1)), F = (acc, s1, e1) := fun hq => by rw [← hf.out, hq]; simp
  have hbk := Lib.hid hback
  clear hback
  by_cases hk0 : k = 0
  ·subst hk0
   have hF := hbk.out rfl
   subst hF
   obtain ⟨A, c, rfl⟩ := own_sl hO.out
   have h1 := hO.out
   have h2 := hR.out
   have h3 := hK.out
   clear hf hbk
   go_wp2
   go_ret
   exact ⟨A, c, rfl, h1, h2, h3⟩
  ·have hzk : (0 : Int) < (k : Int) := by omega
   by_cases he : e1 = 0
   ·subst he
    obtain ⟨k', rfl⟩ : ∃ k', k = k' + 1 := ⟨k - 1, by omega⟩
    have hf2 := hf.out
    rw [Sp.manyR_ok] at hf2
    have kr := Lib.hid (hrd.out s1 0 wr hK.out hR.out hs1)
    have hrz1 := hrz.out s1 0
    clear hf hbk hk0
    generalize read s1 0 = N at *
    obtain ⟨el, s2, e2⟩ := N
    simp only [] at kr hf2 hrz1
    have hf3 := Lib.hid (show ((acc ++ [el]) ++ (Sp.manyR read k' s2 e2).1, (Sp.manyR read k' s2 e2).2) = F by rw [← hf2, List.append_assoc]; rfl)
    clear hf2
    obtain ⟨hf, ht, ha, hc⟩ := el
    unfold Sp.hnV at kr
    simp only [] at kr
    have hent' := hent
    go_wp2_with fail
    refine kr.out.mono ?_
    rintro x w4 ⟨rfl, hR4, hK4⟩
    have hbase := own_base hO.out
    have hO4 := Lib.hid (hK4.row hO.out (fun q hq e => by have := hbase q hq; omega))
    have hKK := Lib.hid (hK.out.trans hK4)
    have hR4' := Lib.hid hR4
    have hsz4 := hKK.out.size
    have hl4 := blk_lt hR4
    clear hO hR hK hR4 hK4 kr r1 g1 hlb hksz
    go_wp2_with (at_builtin; refine wpList_append_own _ rfl _ _ 129 rfl w.heap.size 239 i0 (.agg #[.int .i64 0, .int .i64 0, .int .i64 0, .int .i64 0]) 4 32 Tryz.underlying129 hi hz0 hz1 hz2 rfl (by decide) _ acc.length (acc.flatMap Sp.hnC) rfl (hO4.out.alloc _) ⟨w4.heap.size, 0, none⟩ 1 1 ([.int .i64 hf, .int .i64 ht, .int .i64 ha, .int .i64 hc]) rfl rfl ?x2 ?x3 ?x4 ?x5 ?x6 ?_)
    try case x2 =>
     intro j u hj
     match j, hj with
     | 0, hj => simp at hj; subst hj; simp [Addr.add]
     | 1, hj => simp at hj; subst hj; simp [Addr.add]
     | 2, hj => simp at hj; subst hj; simp [Addr.add]
     | 3, hj => simp at hj; subst hj; simp [Addr.add]
     | (j + 4), hj => simp at hj
    try case x3 => intro u hu; simp at hu; rcases hu with rfl | rfl | rfl | rfl <;> rfl
    try case x4 => unfold maxLen; omega
    try case x5 => omega
    try case x6 => first | omega | (simp; omega)
    intro v' w5 hown' hg5 _
    have hO5 := Lib.hid (show w5.ownsRow w.heap.size 239 4 v' (acc ++ [(⟨hf, ht, ha, hc⟩ : Sp.Hn)]).length ((acc ++ [(⟨hf, ht, ha, hc⟩ : Sp.Hn)]).flatMap Sp.hnC) by rw [List.flatMap_append, List.length_append]; exact hown')
    have hR5 := Lib.hid (grown_rd (blk_old hR4'.out) hg5 (fun q => by have := hbase _ q.symm; omega))
    have hK5 := Lib.hid ((hKK.out.alloc _).then (Keeps.of_grown (S := fun i => w.heap.size ≤ i) hg5 (fun q hq => .inl (hbase q hq))) (fun i q => .inr q))
    clear hown' hg5 hO4 hR4' hKK hbase
    go_wp2
    go_roundw
    case rel => exact ⟨k', acc ++ [(⟨hf, ht, ha, hc⟩ : Sp.Hn)], s2, e2, by first | rfl | go_num | (simp; done) | (simp; omega), by simp; omega, by omega, hO5, hR5, hK5, hf3⟩
    case measure => first | (simp [RowKit.intOf]; done) | (simp [RowKit.intOf]; omega)
   ·have heb : (e1 == 0) = false := by simp [he]
    have hF := hbk.out (Sp.manyR_err read k s1 e1 he)
    subst hF
    obtain ⟨A, c, rfl⟩ := own_sl hO.out
    have h1 := hO.out
    have h2 := hR.out
    have h3 := hK.out
    clear hf hbk
    go_wp2
    go_ret
    exact ⟨A, c, rfl, h1, h2, h3⟩
set_option maxHeartbeats 8000000 in
set_option maxRecDepth 100000 in
theorem manyI_any (read : ByteArray → Int → Int × ByteArray × Int) (f : FuncId) (v : Value) (rb : Nat) (s : ByteArray) (e : Int) (n : Nat) (w : World) (h : Rd w rb s e) (hs : s.size ≤ 1099511627776) (hn : n ≤ 2)
  (hrs : ∀ s e, (read s e).2.1.size ≤ s.size) (bd : Array Value) (hvv : v = .func (.func f) #[] bd) (hent : ∀ W, (callFunc f bd).run Tryz.prog W = .ok (.enter f bd) W)
  (hread : ∀ (s1 : ByteArray) (e1 : Int) (W : World), Keeps (fun i => i = rb) w W → Rd W rb s1 e1 → s1.size ≤ 1099511627776 → Calls Tryz.prog f bd W fun x W' => x = .returned (Value.int .i64 (read s1 e1).1) ∧ Rd W' rb (read s1 e1).2.1 (read s1 e1).2.2 ∧ Keeps (fun i => i = rb) W W') :
  Calls Tryz.prog 167 #[.pointer (some ⟨rb, 0, none⟩), .int .i64 n, v] w fun x w' => ∃ A c, x = .returned (.slice A (Sp.manyR read (Sp.numR s e n).1.toNat (Sp.numR s e n).2.1 (Sp.numR s e n).2.2).1.length c) ∧
   w'.ownsRow w.heap.size 3 1 (.slice A (Sp.manyR read (Sp.numR s e n).1.toNat (Sp.numR s e n).2.1 (Sp.numR s e n).2.2).1.length c) (Sp.manyR read (Sp.numR s e n).1.toNat (Sp.numR s e n).2.1 (Sp.numR s e n).2.2).1.length ((Sp.manyR read (Sp.numR s e n).1.toNat (Sp.numR s e n).2.1 (Sp.numR s e n).2.2).1.flatMap intC) ∧
   Rd w' rb (Sp.manyR read (Sp.numR s e n).1.toNat (Sp.numR s e n).2.1 (Sp.numR s e n).2.2).2.1 (Sp.manyR read (Sp.numR s e n).1.toNat (Sp.numR s e n).2.1 (Sp.numR s e n).2.2).2.2 ∧ Keeps (fun i => i = rb) w w' := by
 obtain ⟨i0, hi, hz0, hz1, hz2⟩ := info_parts infoI
 subst hvv
 have kn := Lib.hid (number_any rb s e n w h hs (by omega))
 have hnv := Sp.num_two s e n hn
 have hz := Sp.num_len s e n
 have hlr := blk_lt h
 have hrd := Lib.hid hread
 have hrz := Lib.hid hrs
 clear hread h hrs
 generalize Sp.numR s e n = N at *
 obtain ⟨v, s0, e0⟩ := N
 simp only [] at kn hnv hz ⊢
 obtain ⟨m, rfl⟩ := Int.eq_ofNat_of_zero_le hnv.1
 rw [Int.toNat_natCast]
 generalize hF : Sp.manyR read m s0 e0 = F
 have HF := Lib.hid (show (([] : List Int) ++ (Sp.manyR read m s0 e0).1, (Sp.manyR read m s0 e0).2) = F by rw [hF]; rfl)
 clear hF
 have hs0 : s0.size ≤ 1099511627776 := by omega
 have hm : m ≤ 65535 := by omega
 clear hnv hz hs
 go_enter Tryz.func167, Tryz.ntmps167
 go_wp2_with fail
 refine kn.out.mono ?_
 rintro x w1 ⟨rfl, hR1, hK1⟩
 have HR := Lib.hid hR1
 have HK := Lib.hid hK1
 have HO := Lib.hid (World.ownsRow_nil w1 w.heap.size 3 1)
 clear kn hR1 hK1
 go_wp2
 go_loopw [7, 8] (fun v7 v8 wr => ∃ (k : Nat) (acc : List Int) (s1 : ByteArray) (e1 : Int), v8 = .int .i64 k ∧ acc.length + k ≤ 65535 ∧ s1.size ≤ 1099511627776 ∧ Hid (wr.ownsRow w.heap.size 3 1 v7 acc.length (acc.flatMap intC)) ∧ Hid (Rd wr rb s1 e1) ∧ Hid (Keeps (fun i => i = rb) w wr) ∧ Hid ((acc ++ (Sp.manyR read k s1 e1).1, (Sp.manyR read k s1 e1).2) = F)) (fun _ v8 _ => (RowKit.intOf v8).toNat)
 case atStart => exact ⟨m, [], s0, e0, by first | rfl | go_num, by simp; omega, hs0, HO, HR, HK, HF⟩
 case round =>
  clear HR HK HO HF
  obtain ⟨k, acc, s1, e1, rfl, hak, hs1, hO, hR, hK, hf⟩ := hrel
  obtain ⟨r1, g1⟩ := blk_cell hR.out 1 _ rfl
  have hlb := blk_lt hR.out
  have hksz := hK.out.size
  have hback : ∀ (hq : (Sp.manyR read k s1 e1) = ([], s1, e1)), F = (acc, s1, e1) := fun hq => by rw [← hf.out, hq]; simp
  have hbk := Lib.hid hback
  clear hback
  by_cases hk0 : k = 0
  ·subst hk0
   have hF := hbk.out rfl
   subst hF
   obtain ⟨A, c, rfl⟩ := own_sl hO.out
   have h1 := hO.out
   have h2 := hR.out
   have h3 := hK.out
   clear hf hbk
   go_wp2
   go_ret
   exact ⟨A, c, rfl, h1, h2, h3⟩
  ·have hzk : (0 : Int) < (k : Int) := by omega
   by_cases he : e1 = 0
   ·subst he
    obtain ⟨k', rfl⟩ : ∃ k', k = k' + 1 := ⟨k - 1, by omega⟩
    have hf2 := hf.out
    rw [Sp.manyR_ok] at hf2
    have kr := Lib.hid (hrd.out s1 0 wr hK.out hR.out hs1)
    have hrz1 := hrz.out s1 0
    clear hf hbk hk0
    generalize read s1 0 = N at *
    obtain ⟨el, s2, e2⟩ := N
    simp only [] at kr hf2 hrz1
    have hf3 := Lib.hid (show ((acc ++ [el]) ++ (Sp.manyR read k' s2 e2).1, (Sp.manyR read k' s2 e2).2) = F by rw [← hf2, List.append_assoc]; rfl)
    clear hf2
    have hq0 : True := trivial
    have hent' := hent
    go_wp2_with fail
    refine kr.out.mono ?_
    rintro x w4 ⟨rfl, hR4, hK4⟩
    have hbase := own_base hO.out
    have hO4 := Lib.hid (hK4.row hO.out (fun q hq e => by have := hbase q hq; omega))
    have hKK := Lib.hid (hK.out.trans hK4)
    have hR4' := Lib.hid hR4
    have hsz4 := hKK.out.size
    have hl4 := blk_lt hR4
    clear hO hR hK hR4 hK4 kr r1 g1 hlb hksz
    go_wp2_with (at_builtin; refine wpList_append_own _ rfl _ _ 23 rfl w.heap.size 3 i0 (.int .i64 0) 1 8 Tryz.underlying23 hi hz0 hz1 hz2 rfl (by decide) _ acc.length (acc.flatMap intC) rfl (hO4.out.alloc _) ⟨w4.heap.size, 0, none⟩ 1 1 ([.int .i64 el]) rfl rfl ?x2 ?x3 ?x4 ?x5 ?x6 ?_)
    try case x2 =>
     intro j u hj
     match j, hj with
     | 0, hj => simp at hj; subst hj; simp [Addr.add]
     | (j + 1), hj => simp at hj
    try case x3 => intro u hu; simp at hu; rcases hu with rfl <;> rfl
    try case x4 => unfold maxLen; omega
    try case x5 => omega
    try case x6 => first | omega | (simp; omega)
    intro v' w5 hown' hg5 _
    have hO5 := Lib.hid (show w5.ownsRow w.heap.size 3 1 v' (acc ++ [(el : Int)]).length ((acc ++ [(el : Int)]).flatMap intC) by rw [List.flatMap_append, List.length_append]; exact hown')
    have hR5 := Lib.hid (grown_rd (blk_old hR4'.out) hg5 (fun q => by have := hbase _ q.symm; omega))
    have hK5 := Lib.hid ((hKK.out.alloc _).then (Keeps.of_grown (S := fun i => w.heap.size ≤ i) hg5 (fun q hq => .inl (hbase q hq))) (fun i q => .inr q))
    clear hown' hg5 hO4 hR4' hKK hbase
    go_wp2
    go_roundw
    case rel => exact ⟨k', acc ++ [(el : Int)], s2, e2, by first | rfl | go_num | (simp; done) | (simp; omega), by simp; omega, by omega, hO5, hR5, hK5, hf3⟩
    case measure => first | (simp [RowKit.intOf]; done) | (simp [RowKit.intOf]; omega)
   ·have heb : (e1 == 0) = false := by simp [he]
    have hF := hbk.out (Sp.manyR_err read k s1 e1 he)
    subst hF
    obtain ⟨A, c, rfl⟩ := own_sl hO.out
    have h1 := hO.out
    have h2 := hR.out
    have h3 := hK.out
    clear hf hbk
    go_wp2
    go_ret
    exact ⟨A, c, rfl, h1, h2, h3⟩
namespace Sp
def handR (s : ByteArray) (e : Int) : Hn × ByteArray × Int :=
 (⟨(listR 4 s e).1.getD 0 0, (listR 4 s e).1.getD 1 0, (listR 4 s e).1.getD 2 0, (listR 4 s e).1.getD 3 0⟩, (listR 4 s e).2)
theorem list_four (s : ByteArray) (e : Int) : ∃ a b c d, (listR 4 s e).1 = [a, b, c, d] := ⟨_, _, _, _, rfl⟩
theorem list_len (s : ByteArray) (e : Int) : ∀ (k : Nat), ∀ (s : ByteArray) (e : Int), (listR k s e).2.1.size ≤ s.size
 | 0, s, e => Nat.le_refl _
 | k + 1, s, e => by
  rw [listR]
  exact Nat.le_trans (list_len s e k _ _) (num_len s e 2)
end Sp
theorem hn_load {w : World} {b : Nat} {c0 c1 c2 c3 : Value} {T : TypeId} (h : w.heap[b]? = some (.cells #[c0, c1, c2, c3] T (0, 0))) : (loadVar 239 ⟨b, 0, none⟩).run Tryz.prog w = .ok (.agg #[c0, c1, c2, c3]) w :=
 run_loadVar_mid w b 0 239 [c0, c1, c2, c3] _ (fun j v hj => by rw [Nat.zero_add]; exact (blk_cell h j v (by rw [← Array.getElem?_toList]; exact hj)).1) Tryz.underlying239 rfl (by kernel_rfl)
theorem cells4m {W : World} {x : Nat} {c0 c1 c2 c3 : Value} {T : TypeId} (h : W.heap[x]? = some (.cells #[c0, c1, c2, c3] T (0, 0))) : W.cell? ⟨x, 0, none⟩ = some c0 ∧ W.cell? ⟨x, 1, none⟩ = some c1 ∧ W.cell? ⟨x, 2, none⟩ = some c2 ∧ W.cell? ⟨x, 3, none⟩ = some c3 :=
 ⟨(blk_cell h 0 _ rfl).1, (blk_cell h 1 _ rfl).1, (blk_cell h 2 _ rfl).1, (blk_cell h 3 _ rfl).1⟩
theorem frz4m {W : World} {x : Nat} {c0 c1 c2 c3 : Value} {T : TypeId} (h : W.heap[x]? = some (.cells #[c0, c1, c2, c3] T (0, 0))) : W.frozen? ⟨x, 0, none⟩ = false ∧ W.frozen? ⟨x, 1, none⟩ = false ∧ W.frozen? ⟨x, 2, none⟩ = false ∧ W.frozen? ⟨x, 3, none⟩ = false :=
 ⟨(blk_cell h 0 _ rfl).2, (blk_cell h 1 _ rfl).2, (blk_cell h 2 _ rfl).2, (blk_cell h 3 _ rfl).2⟩
set_option maxHeartbeats 4000000 in
set_option maxRecDepth 100000 in
theorem rint_any (rb vb : Nat) (s : ByteArray) (e : Int) (T : TypeId) (w : World) (h : Rd w rb s e) (hv : w.heap[vb]? = some (.cells #[.pointer (some ⟨rb, 0, none⟩)] T (0, 0))) (hs : s.size ≤ 1099511627776) :
  Calls Tryz.prog 168 #[.pointer (some ⟨vb, 0, none⟩)] w fun x w' => x = .returned (.int .i64 (Sp.numR s e 2).1) ∧ Rd w' rb (Sp.numR s e 2).2.1 (Sp.numR s e 2).2.2 ∧ Keeps (fun i => i = rb) w w' := by
 have kn := Lib.hid (number_any rb s e 2 w h hs (by decide))
 obtain ⟨v0, g0⟩ := blk_cell hv 0 _ rfl
 have hlv := blk_lt hv
 clear h
 generalize Sp.numR s e 2 = N at *
 obtain ⟨v, s1, e1⟩ := N
 simp only [] at kn ⊢
 go_enter Tryz.func168, Tryz.ntmps168
 go_wp2_with fail
 refine kn.out.mono ?_
 rintro x w1 ⟨rfl, hR1, hK1⟩
 clear kn
 go_wp2
 go_ret
 exact ⟨rfl, hR1, hK1⟩
set_option maxHeartbeats 4000000 in
set_option maxRecDepth 100000 in
theorem rhand_any (rb vb : Nat) (s : ByteArray) (e : Int) (T : TypeId) (w : World) (h : Rd w rb s e) (hv : w.heap[vb]? = some (.cells #[.pointer (some ⟨rb, 0, none⟩)] T (0, 0))) (hs : s.size ≤ 1099511627776) :
  Calls Tryz.prog 226 #[.pointer (some ⟨vb, 0, none⟩)] w fun x w' => x = .returned (Sp.hnV (Sp.handR s e).1) ∧ Rd w' rb (Sp.handR s e).2.1 (Sp.handR s e).2.2 ∧ Keeps (fun i => i = rb) w w' := by
 have hlr := blk_lt h
 have hlv := blk_lt hv
 have hne : rb ≠ w.heap.size := by omega
 have hzb0 : w.heap.size ≤ w.heap.size := Nat.le_refl _
 have hR2 := Lib.hid (blk_old (o := .cells #[.int .i64 0, .int .i64 0, .int .i64 0, .int .i64 0] 239) (blk_old (o := .cells #[.int .i64 0, .int .i64 0, .int .i64 0, .int .i64 0] 239) h))
 have hV2 := Lib.hid (blk_old (o := .cells #[.int .i64 0, .int .i64 0, .int .i64 0, .int .i64 0] 239) (blk_old (o := .cells #[.int .i64 0, .int .i64 0, .int .i64 0, .int .i64 0] 239) hv))
 have hZ2 := Lib.hid (blk_old (o := .cells #[.int .i64 0, .int .i64 0, .int .i64 0, .int .i64 0] 239) (blk_new w (.cells #[.int .i64 0, .int .i64 0, .int .i64 0, .int .i64 0] 239)))
 have hM2 := Lib.hid (blk_new (w.alloc (.cells #[.int .i64 0, .int .i64 0, .int .i64 0, .int .i64 0] 239)) (.cells #[.int .i64 0, .int .i64 0, .int .i64 0, .int .i64 0] 239))
 rw [show (w.alloc (.cells #[.int .i64 0, .int .i64 0, .int .i64 0, .int .i64 0] 239)).heap.size = w.heap.size + 1 by simp] at hM2
 have hK2 := Lib.hid (((Keeps.refl (fun i => i = rb) w).alloc (.cells #[.int .i64 0, .int .i64 0, .int .i64 0, .int .i64 0] 239)).alloc (.cells #[.int .i64 0, .int .i64 0, .int .i64 0, .int .i64 0] 239))
 obtain ⟨a, b, c, d, hL⟩ := Sp.list_four s e
 unfold Sp.handR
 rw [hL]
 have hLL := Lib.hid hL
 clear hL h hv
 generalize hFF : Sp.listR 4 s e = F at *
 obtain ⟨Fl, Fs, Fe⟩ := F
 have hFH := Lib.hid hFF
 clear hFF
 simp only [] at hLL ⊢
 go_enter Tryz.func226, Tryz.ntmps226
 go_upto_region 2 with fail
 generalize (w.alloc (.cells #[.int .i64 0, .int .i64 0, .int .i64 0, .int .i64 0] 239)).alloc (.cells #[.int .i64 0, .int .i64 0, .int .i64 0, .int .i64 0] 239) = W2 at *
 generalize hmb : w.heap.size + 1 = mb at *
 generalize hzb : w.heap.size = zb at *
 have hlm := blk_lt hM2.out
 have hlz2 := blk_lt hZ2.out
 have hlr2 := blk_lt hR2.out
 have kl := Lib.hid (list_any rb mb W2.heap.size s e [0, 1, 2, 3] _ 239 247 4 4 (W2.alloc (.cells (ptrC mb [0, 1, 2, 3]) 247)) (blk_old hR2.out) (blk_old hM2.out) (blk_new _ _) (by omega) (by omega) (by omega) (by simp) rfl (by decide) hs)
 unfold ptrC at kl
 simp only [List.map_cons, List.map_nil] at kl
 rw [hFH.out] at kl
 simp only [] at kl
 rw [hLL.out] at kl
 simp only [Sp.putC] at kl
 have hlz' : w.heap.size ≤ zb := by omega
 obtain ⟨v0, g0⟩ := blk_cell hV2.out 0 _ rfl
 have hlv2 := blk_lt hV2.out
 go_wp2_with fail
 refine kl.out.mono ?_
 rintro x w3 ⟨rfl, hR3, hM3, hK3⟩
 have hZ3 := Lib.hid (hK3.obj (blk_old hZ2.out) (by omega))
 have hKf := Lib.hid ((hK2.out.alloc _).then hK3 (fun i q => q.elim .inl (fun r => .inr (by omega))))
 have hR3' := Lib.hid hR3
 have hM3' := Lib.hid (show w3.heap[mb]? = some (.cells #[.int .i64 a, .int .i64 b, .int .i64 c, .int .i64 d] 239 (0, 0)) from hM3)
 have hlz3 := blk_lt hZ3.out
 have hlm3 := blk_lt hM3
 have hne2 : rb ≠ zb := hne
 clear hR3 hM3 hK3 kl hR2 hZ2 hM2 hK2 v0 g0 hV2 hlv2
 obtain ⟨c0, c1, c2, c3⟩ := cells4m hM3'.out
 obtain ⟨d0, d1, d2, d3⟩ := cells4m hZ3.out
 obtain ⟨f0, f1, f2, f3⟩ := frz4m hZ3.out
 have hfin := Lib.hid (blk_set (i := 3) (blk_set (i := 2) (blk_set (i := 1) (blk_set (i := 0) hZ3.out (.int .i64 a)) (.int .i64 b)) (.int .i64 c)) (.int .i64 d))
 go_wp2
 (try simp only [Exit.inBlock, Exit.then])
 refine bodyPost_ret (results_c rfl _ _ _ rfl (hn_load hfin.out)) rfl ?_
 refine ⟨rfl, ?_, ?_⟩
 ·exact blk_other (blk_other (blk_other (blk_other hR3'.out ⟨zb, 0, none⟩ _ hne2) ⟨zb, 1, none⟩ _ hne2) ⟨zb, 2, none⟩ _ hne2) ⟨zb, 3, none⟩ _ hne2
 ·exact (((hKf.out.setCell (a := ⟨zb, 0, none⟩) (.inr hlz') _).setCell (a := ⟨zb, 1, none⟩) (.inr hlz') _).setCell (a := ⟨zb, 2, none⟩) (.inr hlz') _).setCell (a := ⟨zb, 3, none⟩) (.inr hlz') _
namespace Sp
def manyN {α : Type} (read : ByteArray → Int → α × ByteArray × Int) (n : Nat) (s : ByteArray) (e : Int) : List α × ByteArray × Int := manyR read (numR s e n).1.toNat (numR s e n).2.1 (numR s e n).2.2
def codeR (f : Mb) (s : ByteArray) (e : Int) : Mb × ByteArray × Int :=
 let a := numR s e 1
 let b := numR a.2.1 a.2.2 1
 let l := numR b.2.1 b.2.2 2
 let c := takeR l.2.1 l.2.2 l.1.toNat
 let h := manyN handR 1 c.2.1 c.2.2
 (⟨f.flags, f.name, f.desc, a.1, b.1, c.1, h.1⟩, h.2)
def methodR (s : ByteArray) (e : Int) : Mb × ByteArray × Int :=
 if (fieldR s e).1.flags = 2 then fieldR s e else codeR (fieldR s e).1 (fieldR s e).2.1 (fieldR s e).2.2
theorem field_shape (s : ByteArray) (e : Int) : ∃ fl nm ds s1 e1, fieldR s e = (⟨fl, nm, ds, 0, 0, ⟨#[]⟩, []⟩, s1, e1) ∧ s1.size ≤ s.size := by
 refine ⟨_, _, _, _, _, rfl, ?_⟩
 exact Nat.le_trans (num_len _ _ 2) (Nat.le_trans (num_len _ _ 2) (num_len s e 1))
end Sp
theorem own_mono {w : World} {b b' : Nat} {e : TypeId} {size n : Nat} {v : Value} {xs : List Value} (h : w.ownsRow b' e size v n xs) (hb : b ≤ b') : w.ownsRow b e size v n xs :=
 ⟨h.1, h.2.imp id (fun ⟨g, cap, cur, hv, hg, r⟩ => ⟨g, cap, cur, hv, Nat.le_trans hb hg, r⟩)⟩
theorem set_cell {w : World} {v : Value} {a m i : Nat} {x : Value} (h : w.cell? ⟨a, 0, none⟩ = some v) (hne : a ≠ m) : (w.setCell ⟨m, i, none⟩ x).cell? ⟨a, 0, none⟩ = some v :=
 (World.cell?_setCell_other _ _ _ _ (fun q => hne (by injection q with q1 _; exact q1.symm))).trans h
set_option maxHeartbeats 8000000 in
set_option maxRecDepth 100000 in
theorem rmethod_any (rb : Nat) (s : ByteArray) (e : Int) (w : World) (h : Rd w rb s e) (hs : s.size ≤ 1099511627776) :
  Calls Tryz.prog 171 #[.pointer (some ⟨rb, 0, none⟩)] w fun x w' => ∃ A c, x = .returned (Sp.mbV ((Sp.methodR s e).1, A, c)) ∧ w'.ownsRow w.heap.size 239 4 (.slice A (Sp.methodR s e).1.hs.length c) (Sp.methodR s e).1.hs.length ((Sp.methodR s e).1.hs.flatMap Sp.hnC) ∧ Rd w' rb (Sp.methodR s e).2.1 (Sp.methodR s e).2.2 ∧ Keeps (fun i => i = rb) w w' := by
 have hlr := blk_lt h
 have hR2 := Lib.hid (blk_old (o := .cells #[.int .i64 0, .int .i64 0, .int .i64 0, .int .i64 0, .int .i64 0, .string ⟨#[]⟩, .slice none 0 0] 131) (blk_old (o := .cells #[.pointer (some ⟨rb, 0, none⟩)] 240) h))
 have hV2 := Lib.hid (blk_old (o := .cells #[.int .i64 0, .int .i64 0, .int .i64 0, .int .i64 0, .int .i64 0, .string ⟨#[]⟩, .slice none 0 0] 131) (blk_new w (.cells #[.pointer (some ⟨rb, 0, none⟩)] 240)))
 have hZ2 := Lib.hid (blk_new (w.alloc (.cells #[.pointer (some ⟨rb, 0, none⟩)] 240)) (.cells #[.int .i64 0, .int .i64 0, .int .i64 0, .int .i64 0, .int .i64 0, .string ⟨#[]⟩, .slice none 0 0] 131))
 rw [show (w.alloc (.cells #[.pointer (some ⟨rb, 0, none⟩)] 240)).heap.size = w.heap.size + 1 by simp] at hZ2
 have hK2 := Lib.hid (((Keeps.refl (fun i => i = rb) w).alloc (.cells #[.pointer (some ⟨rb, 0, none⟩)] 240)).alloc (.cells #[.int .i64 0, .int .i64 0, .int .i64 0, .int .i64 0, .int .i64 0, .string ⟨#[]⟩, .slice none 0 0] 131))
 have HE := Lib.hid (show Sp.methodR s e = _ by rw [Sp.methodR])
 generalize Sp.methodR s e = R at *
 obtain ⟨fl, nm, ds, s1, e1, hfr, hs1⟩ := Sp.field_shape s e
 have HE1 := HE.out
 have kf := Lib.hid (fun W hr => rfield_any rb s e W hr hs)
 rw [hfr] at HE1 kf
 simp only [] at HE1 kf
 have HE2 := Lib.hid HE1
 clear HE HE1 hfr h
 go_enter Tryz.func171, Tryz.ntmps171
 go_upto_region 1 with fail
 generalize (w.alloc (.cells #[.pointer (some ⟨rb, 0, none⟩)] 240)).alloc (.cells #[.int .i64 0, .int .i64 0, .int .i64 0, .int .i64 0, .int .i64 0, .string ⟨#[]⟩, .slice none 0 0] 131) = W2 at *
 have hlv := blk_lt hV2.out
 have hlz := blk_lt hZ2.out
 have hkz := hK2.out.size
 obtain ⟨v0, g0⟩ := blk_cell hV2.out 0 _ rfl
 go_wp2_with fail
 refine (kf.out _ hR2.out).mono ?_
 unfold Sp.mbV
 simp only []
 rintro x w3 ⟨rfl, hR3, hK3⟩
 have hV3 := Lib.hid (hK3.obj hV2.out (by omega))
 have hZ3 := Lib.hid (hK3.obj hZ2.out (by omega))
 have hKa := Lib.hid (hK2.out.trans hK3)
 have hl3 := hK3.size
 have hR4 := Lib.hid (blk_old (o := .cells #[.int .i64 fl, .int .i64 nm, .int .i64 ds, .int .i64 0, .int .i64 0, .string ⟨#[]⟩, .slice none 0 0] 131) hR3)
 have hV4 := Lib.hid (blk_old (o := .cells #[.int .i64 fl, .int .i64 nm, .int .i64 ds, .int .i64 0, .int .i64 0, .string ⟨#[]⟩, .slice none 0 0] 131) hV3.out)
 have hZ4 := Lib.hid (blk_old (o := .cells #[.int .i64 fl, .int .i64 nm, .int .i64 ds, .int .i64 0, .int .i64 0, .string ⟨#[]⟩, .slice none 0 0] 131) hZ3.out)
 have hM4 := Lib.hid (blk_new w3 (.cells #[.int .i64 fl, .int .i64 nm, .int .i64 ds, .int .i64 0, .int .i64 0, .string ⟨#[]⟩, .slice none 0 0] 131))
 have hK4 := Lib.hid (hKa.out.alloc (.cells #[.int .i64 fl, .int .i64 nm, .int .i64 ds, .int .i64 0, .int .i64 0, .string ⟨#[]⟩, .slice none 0 0] 131))
 clear hR2 hV2 hZ2 hK2 kf hR3 hK3 hV3 hZ3 hKa v0 g0
 go_upto_region 2 with fail
 generalize w3.alloc (.cells #[.int .i64 fl, .int .i64 nm, .int .i64 ds, .int .i64 0, .int .i64 0, .string ⟨#[]⟩, .slice none 0 0] 131) = W4 at *
 have hmb : w.heap.size + 2 ≤ w3.heap.size := by omega
 generalize w3.heap.size = mb at *
 generalize hvb : w.heap.size = vb at *
 have hlz' : w.heap.size ≤ vb + 1 := by omega
 have hne2 : rb ≠ vb + 1 := by omega
 by_cases hf2 : fl = 2
 ·subst hf2
  have hR : R = (⟨2, nm, ds, 0, 0, ⟨#[]⟩, []⟩, s1, e1) := by rw [HE2.out, if_pos rfl]
  subst hR
  clear HE2
  obtain ⟨c0, c1, c2, c3, c4, c5, c6⟩ := cells7m hM4.out
  obtain ⟨d0, d1, d2, d3, d4, d5, d6⟩ := cells7m hZ4.out
  obtain ⟨f0, f1, f2, f3, f4, f5, f6⟩ := frz7m hZ4.out
  have hlm4 := blk_lt hM4.out
  have hlz4 := blk_lt hZ4.out
  have hfin := Lib.hid (blk_set (i := 6) (blk_set (i := 5) (blk_set (i := 4) (blk_set (i := 3) (blk_set (i := 2) (blk_set (i := 1) (blk_set (i := 0) hZ4.out (.int .i64 2)) (.int .i64 nm)) (.int .i64 ds)) (.int .i64 0)) (.int .i64 0)) (.string ⟨#[]⟩)) (.slice none 0 0))
  go_wp2
  (try simp only [Exit.inBlock, Exit.then])
  refine bodyPost_ret (results_c rfl _ _ _ rfl (mb_load hfin.out)) rfl ?_
  refine ⟨none, 0, rfl, World.ownsRow_nil _ _ _ _, ?_, ?_⟩
  ·exact blk_other (blk_other (blk_other (blk_other (blk_other (blk_other (blk_other hR4.out ⟨vb + 1, 0, none⟩ _ hne2) ⟨vb + 1, 1, none⟩ _ hne2) ⟨vb + 1, 2, none⟩ _ hne2) ⟨vb + 1, 3, none⟩ _ hne2) ⟨vb + 1, 4, none⟩ _ hne2) ⟨vb + 1, 5, none⟩ _ hne2) ⟨vb + 1, 6, none⟩ _ hne2
  ·exact ((((((hK4.out.setCell (a := ⟨vb + 1, 0, none⟩) (.inr hlz') _).setCell (a := ⟨vb + 1, 1, none⟩) (.inr hlz') _).setCell (a := ⟨vb + 1, 2, none⟩) (.inr hlz') _).setCell (a := ⟨vb + 1, 3, none⟩) (.inr hlz') _).setCell (a := ⟨vb + 1, 4, none⟩) (.inr hlz') _).setCell (a := ⟨vb + 1, 5, none⟩) (.inr hlz') _).setCell (a := ⟨vb + 1, 6, none⟩) (.inr hlz') _
 ·have hf2b : (fl == 2) = false := by simp [hf2]
  rw [if_neg hf2] at HE2
  simp only [Sp.codeR] at HE2
  clear hf2
  have hne3 : rb ≠ vb := by omega
  have hne4 : rb ≠ mb := by omega
  have hne5 : vb ≠ mb := by omega
  have hne6 : vb + 1 ≠ mb := by omega
  have hlem : w.heap.size ≤ mb := by omega
  have hz1 := Sp.num_len s1 e1 1
  have hR4d : Rd W4.drew rb s1 e1 := hR4.out
  have kA := Lib.hid (number_any rb s1 e1 1 W4.drew hR4d (by omega) (by decide))
  clear hR4d
  generalize Sp.numR s1 e1 1 = NA at *
  obtain ⟨va, s2, e2⟩ := NA
  simp only [] at kA hz1 HE2
  have hz2 := Sp.num_len s2 e2 1
  have kB := Lib.hid (fun W hr => number_any rb s2 e2 1 W hr (by omega) (by decide))
  generalize Sp.numR s2 e2 1 = NB at *
  obtain ⟨vc, s3, e3⟩ := NB
  simp only [] at kB hz2 HE2
  have c0 := (blk_cell hM4.out 0 _ rfl).1
  have hlm4 := blk_lt hM4.out
  have hlv4 := blk_lt hV4.out
  go_upto_region 4 with fail
  clear c0
  go_cut [3] (fun x3 wx => x3 = .pointer (some ⟨mb, 0, none⟩) ∧ Hid (Rd wx rb s3 e3) ∧ Hid (wx.heap[mb]? = some (.cells #[.int .i64 fl, .int .i64 nm, .int .i64 ds, .int .i64 va, .int .i64 vc, .string ⟨#[]⟩, .slice none 0 0] 131 (0, 0))) ∧ Hid (wx.heap[vb + 1]? = some (.cells #[.int .i64 0, .int .i64 0, .int .i64 0, .int .i64 0, .int .i64 0, .string ⟨#[]⟩, .slice none 0 0] 131 (0, 0))) ∧ Hid (wx.heap[vb]? = some (.cells #[.pointer (some ⟨rb, 0, none⟩)] 240 (0, 0))) ∧ Hid (Keeps (fun i => i = rb) w wx))
  case first =>
   have hS0 : W4.drew.cell? ⟨vb, 0, none⟩ = some (.pointer (some ⟨rb, 0, none⟩)) := (blk_cell hV4.out 0 _ rfl).1
   go_wp2_with fail
   go_region_held3 (fun w' => w'.cell? ⟨vb, 0, none⟩ = some (.pointer (some ⟨rb, 0, none⟩))) (first | with_reducible assumption) (first | (go_at_call 165; refine kA.out.mono ?_; rintro x w5 ⟨rfl, hR5, hK5⟩; have hS5 : w5.cell? ⟨vb, 0, none⟩ = some (.pointer (some ⟨rb, 0, none⟩)) := hK5.cell hS0 (fun q => hne3 q.symm)) | (go_at_call 165; refine (kB.out w5 hR5).mono ?_; rintro x w6 ⟨rfl, hR6, hK6⟩; have hS6 : w6.cell? ⟨vb, 0, none⟩ = some (.pointer (some ⟨rb, 0, none⟩)) := hK6.cell hS5 (fun q => hne3 q.symm); have hM6 := hK6.obj (hK5.obj hM4.out (fun q => hne4 q.symm)) (fun q => hne4 q.symm); obtain ⟨q3, p3⟩ := blk_cell hM6 3 _ rfl; obtain ⟨q4, p4⟩ := blk_cell hM6 4 _ rfl; have hlm6 := blk_lt hM6; have hT1 : (w6.setCell ⟨mb, 3, none⟩ (.int .i64 va)).cell? ⟨vb, 0, none⟩ = some (.pointer (some ⟨rb, 0, none⟩)) := set_cell hS6 hne5; have hT2 : (w6.setCell ⟨mb, 4, none⟩ (.int .i64 vc)).cell? ⟨vb, 0, none⟩ = some (.pointer (some ⟨rb, 0, none⟩)) := set_cell hS6 hne5; have hT3 : ((w6.setCell ⟨mb, 3, none⟩ (.int .i64 va)).setCell ⟨mb, 4, none⟩ (.int .i64 vc)).cell? ⟨vb, 0, none⟩ = some (.pointer (some ⟨rb, 0, none⟩)) := set_cell hT1 hne5; have hT4 : ((w6.setCell ⟨mb, 4, none⟩ (.int .i64 vc)).setCell ⟨mb, 3, none⟩ (.int .i64 va)).cell? ⟨vb, 0, none⟩ = some (.pointer (some ⟨rb, 0, none⟩)) := set_cell hT2 hne5))
   all_goals
    have hZ6 := hK6.obj (hK5.obj hZ4.out (by omega)) (by omega)
    have hV6 := hK6.obj (hK5.obj hV4.out (by omega)) (by omega)
    have hKw : Keeps (fun i => i = rb) w w6 := (hK4.out.drew.trans hK5).trans hK6
    go_wp2
    go_meet
    refine ⟨rfl, Lib.hid (blk_other (blk_other hR6 ⟨mb, 3, none⟩ _ hne4) ⟨mb, 4, none⟩ _ hne4), Lib.hid (blk_set (i := 4) (blk_set (i := 3) hM6 (.int .i64 va)) (.int .i64 vc)), Lib.hid (blk_other (blk_other hZ6 ⟨mb, 3, none⟩ _ hne6) ⟨mb, 4, none⟩ _ hne6), Lib.hid (blk_other (blk_other hV6 ⟨mb, 3, none⟩ _ hne5) ⟨mb, 4, none⟩ _ hne5), Lib.hid ((hKw.setCell (a := ⟨mb, 3, none⟩) (.inr hlem) _).setCell (a := ⟨mb, 4, none⟩) (.inr hlem) _)⟩
  case rest =>
   clear hR4 hM4 hZ4 hV4 hK4 kA kB
   obtain ⟨rfl, hR5, hM5, hZ5, hV5, hK5⟩ := hcut
   have hz3 := Sp.num_len s3 e3 2
   have hv2 := Sp.num_two s3 e3 2 (by decide)
   have hR5d : Rd wc.drew rb s3 e3 := hR5.out
   have kC := Lib.hid (number_any rb s3 e3 2 wc.drew hR5d (by omega) (by decide))
   clear hR5d
   generalize Sp.numR s3 e3 2 = NC at *
   obtain ⟨lv, s4, e4⟩ := NC
   simp only [] at kC hz3 hv2 HE2
   obtain ⟨k, rfl⟩ := Int.eq_ofNat_of_zero_le hv2.1
   rw [Int.toNat_natCast] at HE2
   have hz4 := Sp.take_len s4 e4 k
   have kD := Lib.hid (fun W hr => take_any rb s4 e4 k W hr (by omega) (by omega))
   generalize Sp.takeR s4 e4 k = TD at *
   obtain ⟨cd, s5, e5⟩ := TD
   simp only [] at kD hz4 HE2
   have hlv5 := blk_lt hV5.out
   go_upto_region 5 with fail
   go_cut [3] (fun x3 wx => x3 = .pointer (some ⟨mb, 0, none⟩) ∧ Hid (Rd wx rb s5 e5) ∧ Hid (wx.heap[mb]? = some (.cells #[.int .i64 fl, .int .i64 nm, .int .i64 ds, .int .i64 va, .int .i64 vc, .string cd, .slice none 0 0] 131 (0, 0))) ∧ Hid (wx.heap[vb + 1]? = some (.cells #[.int .i64 0, .int .i64 0, .int .i64 0, .int .i64 0, .int .i64 0, .string ⟨#[]⟩, .slice none 0 0] 131 (0, 0))) ∧ Hid (wx.heap[vb]? = some (.cells #[.pointer (some ⟨rb, 0, none⟩)] 240 (0, 0))) ∧ Hid (Keeps (fun i => i = rb) w wx))
   case first =>
    have hS0 : wc.drew.cell? ⟨vb, 0, none⟩ = some (.pointer (some ⟨rb, 0, none⟩)) := (blk_cell hV5.out 0 _ rfl).1
    go_wp2_with fail
    go_region_held3 (fun w' => w'.cell? ⟨vb, 0, none⟩ = some (.pointer (some ⟨rb, 0, none⟩))) (first | with_reducible assumption) (first | (go_at_call 165; refine kC.out.mono ?_; rintro x w5 ⟨rfl, hR6, hK6⟩; have hS5 : w5.cell? ⟨vb, 0, none⟩ = some (.pointer (some ⟨rb, 0, none⟩)) := hK6.cell hS0 (fun q => hne3 q.symm)) | (go_at_call 162; refine (kD.out w5 hR6).mono ?_; rintro x w6 ⟨rfl, hR7, hK7⟩; have hS6 : w6.cell? ⟨vb, 0, none⟩ = some (.pointer (some ⟨rb, 0, none⟩)) := hK7.cell hS5 (fun q => hne3 q.symm); have hM6 := hK7.obj (hK6.obj hM5.out (fun q => hne4 q.symm)) (fun q => hne4 q.symm); obtain ⟨q5, p5⟩ := blk_cell hM6 5 _ rfl; have hlm6 := blk_lt hM6; have hT1 : (w6.setCell ⟨mb, 5, none⟩ (.string cd)).cell? ⟨vb, 0, none⟩ = some (.pointer (some ⟨rb, 0, none⟩)) := set_cell hS6 hne5))
    all_goals
     have hZ6 := hK7.obj (hK6.obj hZ5.out (by omega)) (by omega)
     have hV6 := hK7.obj (hK6.obj hV5.out (by omega)) (by omega)
     have hKw : Keeps (fun i => i = rb) w w6 := (hK5.out.drew.trans hK6).trans hK7
     go_wp2
     go_meet
     refine ⟨rfl, Lib.hid (blk_other hR7 ⟨mb, 5, none⟩ _ hne4), Lib.hid (blk_set (i := 5) hM6 (.string cd)), Lib.hid (blk_other hZ6 ⟨mb, 5, none⟩ _ hne6), Lib.hid (blk_other hV6 ⟨mb, 5, none⟩ _ hne5), Lib.hid (hKw.setCell (a := ⟨mb, 5, none⟩) (.inr hlem) _)⟩
   case rest =>
    clear hR5 hM5 hZ5 hV5 hK5 kC kD hlv5
    obtain ⟨rfl, hR6, hM6, hZ6, hV6, hK6⟩ := hcut
    have km := Lib.hid (manyHn_any Sp.handR 226 (.func (.func 226) #[] #[.pointer (some ⟨vb, 0, none⟩)]) rb s5 e5 1 wc hR6.out (by omega) (by decide) (fun s e => Sp.list_len s e 4 s e) #[.pointer (some ⟨vb, 0, none⟩)] rfl (fun W => by kernel_rfl)
     (fun s1 e1 W hKw hRw hsz => rhand_any rb vb s1 e1 _ W hRw (hKw.obj hV6.out (fun q => hne3 q.symm)) hsz))
    simp only [Sp.manyN] at HE2
    generalize Sp.manyR Sp.handR (Sp.numR s5 e5 1).1.toNat (Sp.numR s5 e5 1).2.1 (Sp.numR s5 e5 1).2.2 = HN at *
    obtain ⟨hs', s6, e6⟩ := HN
    simp only [] at km HE2
    have hR := HE2.out
    subst hR
    clear HE2
    obtain ⟨v0, g0⟩ := blk_cell hV6.out 0 _ rfl
    have hlv6 := blk_lt hV6.out
    go_wp2_with fail
    refine km.out.mono ?_
    rintro x w7 ⟨A, c, rfl, hO7, hR7, hK7⟩
    have hlm6 := blk_lt hM6.out
    have hlz6 := blk_lt hZ6.out
    have hM7 := Lib.hid (hK7.obj hM6.out (fun q => hne4 q.symm))
    have hZ7 := Lib.hid (hK7.obj hZ6.out (fun q => hne2 q.symm))
    have hKf := Lib.hid (hK6.out.trans hK7)
    have hbase := own_base hO7
    have hO := Lib.hid hO7
    have hR8 := blk_other hR7 ⟨mb, 6, none⟩ (.slice A hs'.length c) hne4
    have hR9 := Lib.hid hR8
    have hZ8 := Lib.hid (blk_other hZ7.out ⟨mb, 6, none⟩ (.slice A hs'.length c) hne6)
    have hb := Lib.hid hbase
    clear hR7 hK7 hO7 km v0 g0 hlv6 hR6 hM6 hZ6 hV6 hK6 hbase hR8
    obtain ⟨c0, c1, c2, c3, c4, c5, c6⟩ := cells7m hM7.out
    obtain ⟨q0, q1, q2, q3, q4, q5, q6⟩ := frz7m hM7.out
    obtain ⟨d0, d1, d2, d3, d4, d5, d6⟩ := cells7m hZ7.out
    obtain ⟨f0, f1, f2, f3, f4, f5, f6⟩ := frz7m hZ7.out
    have hlm7 := blk_lt hM7.out
    have hlz7 := blk_lt hZ7.out
    have hfin := Lib.hid (blk_set (i := 6) (blk_set (i := 5) (blk_set (i := 4) (blk_set (i := 3) (blk_set (i := 2) (blk_set (i := 1) (blk_set (i := 0) hZ8.out (.int .i64 fl)) (.int .i64 nm)) (.int .i64 ds)) (.int .i64 va)) (.int .i64 vc)) (.string cd)) (.slice A hs'.length c))
    go_wp2
    (try simp only [Exit.inBlock, Exit.then])
    refine bodyPost_ret (results_c rfl _ _ _ rfl (mb_load hfin.out)) rfl ?_
    have hR8 := hR9.out
    refine ⟨A, c, rfl, ?_, ?_, ?_⟩
    ·refine own_mono (Keeps.row (S := fun i => i = mb ∨ i = vb + 1) (((((((((Keeps.refl (fun i => i = mb ∨ i = vb + 1) w7).setCell (a := ⟨mb, 6, none⟩) (.inl (.inl rfl)) _).setCell (a := ⟨vb + 1, 0, none⟩) (.inl (.inr rfl)) _).setCell (a := ⟨vb + 1, 1, none⟩) (.inl (.inr rfl)) _).setCell (a := ⟨vb + 1, 2, none⟩) (.inl (.inr rfl)) _).setCell (a := ⟨vb + 1, 3, none⟩) (.inl (.inr rfl)) _).setCell (a := ⟨vb + 1, 4, none⟩) (.inl (.inr rfl)) _).setCell (a := ⟨vb + 1, 5, none⟩) (.inl (.inr rfl)) _).setCell (a := ⟨vb + 1, 6, none⟩) (.inl (.inr rfl)) _) hO.out (fun k hk q => ?_)) (by omega)
     have := hb.out k hk
     rcases q with q | q <;> omega
    ·exact (blk_other (blk_other (blk_other (blk_other (blk_other (blk_other (blk_other hR8 ⟨vb + 1, 0, none⟩ _ hne2) ⟨vb + 1, 1, none⟩ _ hne2) ⟨vb + 1, 2, none⟩ _ hne2) ⟨vb + 1, 3, none⟩ _ hne2) ⟨vb + 1, 4, none⟩ _ hne2) ⟨vb + 1, 5, none⟩ _ hne2) ⟨vb + 1, 6, none⟩ _ hne2)
    ·exact ((((((((hKf.out.setCell (a := ⟨mb, 6, none⟩) (.inr hlem) _).setCell (a := ⟨vb + 1, 0, none⟩) (.inr hlz') _).setCell (a := ⟨vb + 1, 1, none⟩) (.inr hlz') _).setCell (a := ⟨vb + 1, 2, none⟩) (.inr hlz') _).setCell (a := ⟨vb + 1, 3, none⟩) (.inr hlz') _).setCell (a := ⟨vb + 1, 4, none⟩) (.inr hlz') _).setCell (a := ⟨vb + 1, 5, none⟩) (.inr hlz') _).setCell (a := ⟨vb + 1, 6, none⟩) (.inr hlz') _)
def OwnM (w : World) (B : Nat) (L : List Sp.Mp) : Prop := ∀ m ∈ L, w.ownsRow B 239 4 (.slice m.2.1 m.1.hs.length m.2.2) m.1.hs.length (m.1.hs.flatMap Sp.hnC)
theorem OwnM.keep {S : Nat → Prop} {w w' : World} {B : Nat} {L : List Sp.Mp} (h : OwnM w B L) (hk : Keeps S w w') (hS : ∀ i, B ≤ i → ¬ S i) : OwnM w' B L := fun m hm => hk.row (h m hm) (fun k hq => hS k (own_base (h m hm) k hq))
theorem OwnM.alloc {w : World} {B : Nat} {L : List Sp.Mp} (h : OwnM w B L) (o : Obj) : OwnM (w.alloc o) B L := fun m hm => (h m hm).alloc o
theorem OwnM.drew {w : World} {B : Nat} {L : List Sp.Mp} (h : OwnM w B L) : OwnM w.drew B L := h
theorem rows_apart {w : World} {b b' n n' size size' x : Nat} {e e' : TypeId} {v v' : Value} {xs xs' : List Value} (h : w.ownsRow b e size v n xs) (h' : w.ownsRow b' e' size' v' n' xs') (hT : e ≠ e') (hx : v.ownBlock = some x) : v'.ownBlock ≠ some x := fun q => by
 rcases h'.2 with ⟨rfl, _⟩ | ⟨g, cap, cur, rfl, _, hgb, _⟩
 ·simp [Value.ownBlock] at q
 ·have : g = x := by simpa [Value.ownBlock] using q
  subst this
  exact own_ne_box h hgb (fun q => hT q.symm) hx
theorem OwnM.row {w w' : World} {B b n size : Nat} {L : List Sp.Mp} {e : TypeId} {v : Value} {xs : List Value} (h : OwnM w B L) (hr : w.ownsRow b e size v n xs) (hT : e ≠ 239) (hk : Keeps (fun i => v.ownBlock = some i) w w') : OwnM w' B L := fun m hm => hk.row (h m hm) (fun k hq hv => rows_apart (h m hm) hr (fun q => hT q.symm) hq hv)
theorem OwnM.snoc {w : World} {B : Nat} {L : List Sp.Mp} {m : Sp.Mp} (h : OwnM w B L) (hm : w.ownsRow B 239 4 (.slice m.2.1 m.1.hs.length m.2.2) m.1.hs.length (m.1.hs.flatMap Sp.hnC)) : OwnM w B (L ++ [m]) := fun q hq => by
 rcases List.mem_append.1 hq with h1 | h1
 ·exact h q h1
 ·rw [List.mem_singleton.1 h1]
  exact hm
theorem infoMb : (Tryz.prog.info? 131).map (fun i => (i.zero, i.size, i.bytes)) = some (some (.agg #[.int .i64 0, .int .i64 0, .int .i64 0, .int .i64 0, .int .i64 0, .string ⟨#[]⟩, .slice none 0 0]), 7, 80) := by kernel_rfl
set_option maxHeartbeats 8000000 in
set_option maxRecDepth 100000 in
theorem manyMb_any (read : ByteArray → Int → Sp.Mb × ByteArray × Int) (f : FuncId) (v : Value) (rb : Nat) (s : ByteArray) (e : Int) (n : Nat) (w : World) (h : Rd w rb s e) (hs : s.size ≤ 1099511627776) (hn : n ≤ 2)
  (hrs : ∀ s e, (read s e).2.1.size ≤ s.size) (bd : Array Value) (hvv : v = .func (.func f) bd #[]) (hent : ∀ W, (callFunc f bd).run Tryz.prog W = .ok (.enter f bd) W)
  (hread : ∀ (s1 : ByteArray) (e1 : Int) (W : World), Keeps (fun i => i = rb) w W → Rd W rb s1 e1 → s1.size ≤ 1099511627776 → Calls Tryz.prog f bd W fun x W' => ∃ A c, x = .returned (Sp.mbV ((read s1 e1).1, A, c)) ∧ W'.ownsRow W.heap.size 239 4 (.slice A (read s1 e1).1.hs.length c) (read s1 e1).1.hs.length ((read s1 e1).1.hs.flatMap Sp.hnC) ∧ Rd W' rb (read s1 e1).2.1 (read s1 e1).2.2 ∧ Keeps (fun i => i = rb) W W') :
  Calls Tryz.prog 169 #[.pointer (some ⟨rb, 0, none⟩), .int .i64 n, v] w fun x w' => ∃ A c L, L.map (·.1) = (Sp.manyN read n s e).1 ∧ x = .returned (.slice A L.length c) ∧
   w'.ownsRow w.heap.size 131 7 (.slice A L.length c) L.length (L.flatMap Sp.mbC) ∧ OwnM w' w.heap.size L ∧
   Rd w' rb (Sp.manyN read n s e).2.1 (Sp.manyN read n s e).2.2 ∧ Keeps (fun i => i = rb) w w' := by
 obtain ⟨i0, hi, hz0, hz1, hz2⟩ := info_parts infoMb
 subst hvv
 unfold Sp.manyN
 have kn := Lib.hid (number_any rb s e n w h hs (by omega))
 have hnv := Sp.num_two s e n hn
 have hz := Sp.num_len s e n
 have hlr := blk_lt h
 have hrd := Lib.hid hread
 have hrz := Lib.hid hrs
 clear hread h hrs
 generalize Sp.numR s e n = N at *
 obtain ⟨v, s0, e0⟩ := N
 simp only [] at kn hnv hz ⊢
 obtain ⟨m, rfl⟩ := Int.eq_ofNat_of_zero_le hnv.1
 rw [Int.toNat_natCast]
 generalize hF : Sp.manyR read m s0 e0 = F
 have HF := Lib.hid (show (([] : List Sp.Mp).map (·.1) ++ (Sp.manyR read m s0 e0).1, (Sp.manyR read m s0 e0).2) = F by rw [hF]; rfl)
 clear hF
 have hs0 : s0.size ≤ 1099511627776 := by omega
 have hm : m ≤ 65535 := by omega
 clear hnv hz hs
 go_enter Tryz.func169, Tryz.ntmps169
 go_wp2_with fail
 refine kn.out.mono ?_
 rintro x w1 ⟨rfl, hR1, hK1⟩
 have HR := Lib.hid hR1
 have HK := Lib.hid hK1
 have HO := Lib.hid (World.ownsRow_nil w1 w.heap.size 131 7)
 have HM := Lib.hid (show OwnM w1 w.heap.size [] from fun m hm => by simp at hm)
 clear kn hR1 hK1
 go_wp2
 go_loopw [7, 8] (fun v7 v8 wr => ∃ (k : Nat) (acc : List Sp.Mp) (s1 : ByteArray) (e1 : Int), v8 = .int .i64 k ∧ acc.length + k ≤ 65535 ∧ s1.size ≤ 1099511627776 ∧ Hid (wr.ownsRow w.heap.size 131 7 v7 acc.length (acc.flatMap Sp.mbC)) ∧ Hid (OwnM wr w.heap.size acc) ∧ Hid (Rd wr rb s1 e1) ∧ Hid (Keeps (fun i => i = rb) w wr) ∧ Hid ((acc.map (·.1) ++ (Sp.manyR read k s1 e1).1, (Sp.manyR read k s1 e1).2) = F)) (fun _ v8 _ => (RowKit.intOf v8).toNat)
 case atStart => exact ⟨m, [], s0, e0, by first | rfl | go_num, by simp; omega, hs0, HO, HM, HR, HK, HF⟩
 case round =>
  clear HR HK HO HF HM
  obtain ⟨k, acc, s1, e1, rfl, hak, hs1, hO, hM, hR, hK, hf⟩ := hrel
  obtain ⟨r1, g1⟩ := blk_cell hR.out 1 _ rfl
  have hlb := blk_lt hR.out
  have hksz := hK.out.size
  have hback : ∀ (hq : (Sp.manyR read k s1 e1) = ([], s1, e1)), F = (acc.map (·.1), s1, e1) := fun hq => by rw [← hf.out, hq]; simp
  have hbk := Lib.hid hback
  clear hback
  by_cases hk0 : k = 0
  ·subst hk0
   have hF := hbk.out rfl
   subst hF
   obtain ⟨A, c, rfl⟩ := own_sl hO.out
   have h1 := hO.out
   have h2 := hR.out
   have h3 := hK.out
   have h4 := hM.out
   clear hf hbk
   go_wp2
   go_ret
   exact ⟨A, c, acc, rfl, rfl, h1, h4, h2, h3⟩
  ·have hzk : (0 : Int) < (k : Int) := by omega
   by_cases he : e1 = 0
   ·subst he
    obtain ⟨k', rfl⟩ : ∃ k', k = k' + 1 := ⟨k - 1, by omega⟩
    have hf2 := hf.out
    rw [Sp.manyR_ok] at hf2
    have kr := Lib.hid (hrd.out s1 0 wr hK.out hR.out hs1)
    have hrz1 := hrz.out s1 0
    clear hf hbk hk0
    generalize read s1 0 = N at *
    obtain ⟨el, s2, e2⟩ := N
    simp only [] at kr hf2 hrz1
    have hent' := hent
    go_wp2_with fail
    refine kr.out.mono ?_
    rintro x w4 ⟨Ah, ch, rfl, hH4, hR4, hK4⟩
    have hf3 := Lib.hid (show (((acc ++ [(el, Ah, ch)]).map (·.1)) ++ (Sp.manyR read k' s2 e2).1, (Sp.manyR read k' s2 e2).2) = F by rw [← hf2, List.map_append, List.append_assoc]; rfl)
    clear hf2
    have hbase := own_base hO.out
    have hO4 := Lib.hid (hK4.row hO.out (fun q hq e => by have := hbase q hq; omega))
    have hM4 := Lib.hid (hM.out.keep hK4 (fun i hi q => by omega))
    have hMs := Lib.hid (OwnM.snoc hM4.out (m := (el, Ah, ch)) (own_mono hH4 (by omega)))
    have hKK := Lib.hid (hK.out.trans hK4)
    have hR4' := Lib.hid hR4
    have hsz4 := hKK.out.size
    have hl4 := blk_lt hR4
    clear hO hR hK hR4 hK4 kr r1 g1 hlb hksz hM hM4 hH4
    obtain ⟨mf, mn, md, ms, ml, mc, mh⟩ := el
    unfold Sp.mbV
    simp only []
    go_wp2_with (at_builtin; refine wpList_append_own _ rfl _ _ 24 rfl w.heap.size 131 i0 (.agg #[.int .i64 0, .int .i64 0, .int .i64 0, .int .i64 0, .int .i64 0, .string ⟨#[]⟩, .slice none 0 0]) 7 80 Tryz.underlying24 hi hz0 hz1 hz2 rfl (by decide) _ acc.length (acc.flatMap Sp.mbC) rfl (hO4.out.alloc _) ⟨w4.heap.size, 0, none⟩ 1 1 ([.int .i64 mf, .int .i64 mn, .int .i64 md, .int .i64 ms, .int .i64 ml, .string mc, .slice Ah mh.length ch]) rfl rfl ?x2 ?x3 ?x4 ?x5 ?x6 ?_)
    try case x2 =>
     intro j u hj
     match j, hj with
     | 0, hj => simp at hj; subst hj; simp [Addr.add]
     | 1, hj => simp at hj; subst hj; simp [Addr.add]
     | 2, hj => simp at hj; subst hj; simp [Addr.add]
     | 3, hj => simp at hj; subst hj; simp [Addr.add]
     | 4, hj => simp at hj; subst hj; simp [Addr.add]
     | 5, hj => simp at hj; subst hj; simp [Addr.add]
     | 6, hj => simp at hj; subst hj; simp [Addr.add]
     | (j + 7), hj => simp at hj
    try case x3 => intro u hu; simp at hu; rcases hu with rfl | rfl | rfl | rfl | rfl | rfl | rfl <;> rfl
    try case x4 => unfold maxLen; omega
    try case x5 => omega
    try case x6 => first | omega | (simp; omega)
    intro v' w5 hown' hg5 _
    have hO5 := Lib.hid (show w5.ownsRow w.heap.size 131 7 v' (acc ++ [((⟨mf, mn, md, ms, ml, mc, mh⟩, Ah, ch) : Sp.Mp)]).length ((acc ++ [((⟨mf, mn, md, ms, ml, mc, mh⟩, Ah, ch) : Sp.Mp)]).flatMap Sp.mbC) by rw [List.flatMap_append, List.length_append]; exact hown')
    have hM5 := Lib.hid ((hMs.out.alloc _).row (hO4.out.alloc _) (by decide) (Keeps.of_grown hg5 (fun q hq => .inl hq)))
    have hR5 := Lib.hid (grown_rd (blk_old hR4'.out) hg5 (fun q => by have := hbase _ q.symm; omega))
    have hK5 := Lib.hid ((hKK.out.alloc _).then (Keeps.of_grown (S := fun i => w.heap.size ≤ i) hg5 (fun q hq => .inl (hbase q hq))) (fun i q => .inr q))
    clear hown' hg5 hO4 hR4' hKK hbase hMs
    go_wp2
    go_roundw
    case rel => exact ⟨k', acc ++ [((⟨mf, mn, md, ms, ml, mc, mh⟩, Ah, ch) : Sp.Mp)], s2, e2, by first | rfl | go_num | (simp; done) | (simp; omega), by simp; omega, by omega, hO5, hM5, hR5, hK5, hf3⟩
    case measure => first | (simp [RowKit.intOf]; done) | (simp [RowKit.intOf]; omega)
   ·have heb : (e1 == 0) = false := by simp [he]
    have hF := hbk.out (Sp.manyR_err read k s1 e1 he)
    subst hF
    obtain ⟨A, c, rfl⟩ := own_sl hO.out
    have h1 := hO.out
    have h2 := hR.out
    have h3 := hK.out
    have h4 := hM.out
    clear hf hbk
    go_wp2
    go_ret
    exact ⟨A, c, acc, rfl, rfl, h1, h4, h2, h3⟩
namespace Sp
def zeroFl : Fl := ⟨[], 0, 0, 0, [], [], []⟩
def bodyR (s : ByteArray) (e : Int) : Fl × ByteArray × Int :=
 let p := manyN constR 2 s e
 let fl := numR p.2.1 p.2.2 1
 let th := numR fl.2.1 fl.2.2 2
 let su := numR th.2.1 th.2.2 2
 let i := manyN (fun s e => numR s e 2) 1 su.2.1 su.2.2
 let f := manyN fieldR 1 i.2.1 i.2.2
 let m := manyN methodR 1 f.2.1 f.2.2
 (⟨p.1, fl.1, th.1, su.1, i.1, f.1, m.1⟩, m.2)
def headR (b : ByteArray) : ByteArray × Int := ((takeR b 0 4).2.1, if (takeR b 0 4).2.2 = 0 ∧ (takeR b 0 4).1 ≠ ⟨#[67, 82, 85, 88]⟩ then 4 else (takeR b 0 4).2.2)
def endR (s : ByteArray) (e : Int) : Int := if e = 0 ∧ s ≠ ⟨#[]⟩ then 6 else e
def doneR (f : Fl) (e : Int) : Fl × Int :=
 if e = 0 then (if partsS f = 0 then (f, 0) else (zeroFl, partsS f)) else (zeroFl, e)
def parseS (b : ByteArray) : Fl × Int :=
 if 65536 < b.size then (zeroFl, 2) else
 let x := bodyR (headR b).1 (headR b).2
 doneR x.1 (endR x.2.1 x.2.2)
theorem putL_snoc (n : Int) : ∀ m, putL n (m + 1) = putL (n / 256) m ++ [n % 256]
 | 0 => by simp [putL]
 | m + 1 => by
  have e : n / 2 ^ (8 * (m + 1)) = n / 256 / 2 ^ (8 * m) := by
   rw [Int.ediv_ediv_of_nonneg (by decide), show 8 * (m + 1) = 8 + 8 * m by omega, Int.pow_add]
   rfl
  rw [putL, putL_snoc n m, putL, e]
  rfl
theorem putL_mod (v k : Int) (m : Nat) (hm : m ≤ 7) : putL (v + 72057594037927936 * k) m = putL v m := by
 match m, hm with
 | 0, _ => rfl
 | 1, _ => simp [putL]; omega
 | 2, _ => simp [putL]; omega
 | 3, _ => simp [putL]; omega
 | 4, _ => simp [putL]; omega
 | 5, _ => simp [putL]; omega
 | 6, _ => simp [putL]; omega
 | 7, _ => simp [putL]; omega
theorem snoc_cases (l : List Int) : l = [] ∨ ∃ L c, l = L ++ [c] := (List.eq_nil_or_concat l).imp id (fun ⟨L, c, h⟩ => ⟨L, c, by rw [h, List.concat_eq_append]⟩)
theorem numV_put : ∀ (m : Nat) (l : List Int), m ≤ 8 → By l → l.length = m → putL (numV l) m = l
 | 0, l, _, _, h => by
  obtain rfl := List.length_eq_zero_iff.1 h
  rfl
 | m + 1, l, hm, hb, h => by
  rcases snoc_cases l with rfl | ⟨L, c, rfl⟩
  ·simp at h
  ·have hL : L.length = m := by simpa using h
   have hc := hb c (by simp)
   have ih := numV_put m L (by omega) (fun x hx => hb x (by simp [hx])) hL
   rw [numV_snoc, putL_snoc]
   have h1 : (IntKind.i64.wrap (numV L * 256) + c) % 256 = c := by rw [IntKind.wrap_i64]; omega
   have h2 : (IntKind.i64.wrap (numV L * 256) + c) / 256 = numV L + 72057594037927936 * ((IntKind.i64.wrap (numV L * 256) - numV L * 256) / 18446744073709551616) := by rw [IntKind.wrap_i64]; omega
   rw [h1, h2, putL_mod _ _ _ (by omega), ih]
theorem numV_in (l : List Int) (h : By l) : In64 (numV l) := by
 rcases snoc_cases l with rfl | ⟨L, c, rfl⟩
 ·exact ⟨by decide, by decide⟩
 ·rw [numV_snoc]
  obtain ⟨a, b, d⟩ := wrap256 (numV L)
  have := h c (by simp)
  unfold In64
  omega
theorem num_in (s : ByteArray) (e : Int) (n : Nat) : In64 (numR s e n).1 := numV_in _ (by_nums _)
theorem nums_ext (s : ByteArray) (n : Nat) : nums s = nums (s.extract 0 n) ++ nums (s.extract n s.size) := by
 unfold nums
 rw [← List.map_append]
 congr 1
 rw [ByteArray.data_extract, ByteArray.data_extract]
 simp only [Array.toList_extract, List.extract_eq_take_drop, List.drop_zero, Nat.sub_zero]
 rw [show s.size - n = (s.data.toList.drop n).length by rw [List.length_drop]; rfl, List.take_length, List.take_append_drop]
theorem take_inv (s : ByteArray) (e : Int) (n : Nat) (h : (takeR s e n).2.2 = 0) : e = 0 ∧ nums s = nums (takeR s e n).1 ++ nums (takeR s e n).2.1 ∧ (takeR s e n).1.size = n := by
 unfold takeR at h ⊢
 by_cases he : e = 0
 ·subst he
  rw [if_pos rfl] at h ⊢
  by_cases hq : s.size < n
  ·rw [if_pos hq] at h
   simp at h
  ·rw [if_neg hq]
   exact ⟨rfl, nums_ext s n, by rw [ByteArray.size_extract]; omega⟩
 ·rw [if_neg he] at h
  exact absurd h he
theorem num_inv (s : ByteArray) (e : Int) (n : Nat) (hn : n ≤ 8) (h : (numR s e n).2.2 = 0) : e = 0 ∧ nums s = putL (numR s e n).1 n ++ nums (numR s e n).2.1 := by
 obtain ⟨h1, h2, h3⟩ := take_inv s e n h
 refine ⟨h1, ?_⟩
 show nums s = putL (numV (nums (takeR s e n).1)) n ++ nums (takeR s e n).2.1
 rw [numV_put n _ hn (by_nums _) (by rw [nums_length, h3]), ← h2]
theorem list_inv : ∀ (k : Nat) (s : ByteArray) (e : Int), (listR k s e).2.2 = 0 → e = 0 ∧ nums s = putsL (listR k s e).1 ++ nums (listR k s e).2.1
 | 0, s, e, h => ⟨h, rfl⟩
 | k + 1, s, e, h => by
  rw [listR] at h ⊢
  obtain ⟨a, b⟩ := list_inv k _ _ h
  obtain ⟨c, d⟩ := num_inv s e 2 (by decide) a
  refine ⟨c, ?_⟩
  rw [d, b]
  simp only [putsL, List.append_assoc]
def Inv {α : Type} (read : ByteArray → Int → α × ByteArray × Int) (enc : α → List Int) : Prop := ∀ s e, (read s e).2.2 = 0 → e = 0 ∧ nums s = enc (read s e).1 ++ nums (read s e).2.1
theorem field_inv : Inv fieldR fieldB := fun s e h => by
 obtain ⟨a3, b3⟩ := num_inv _ _ 2 (by decide) h
 obtain ⟨a2, b2⟩ := num_inv _ _ 2 (by decide) a3
 obtain ⟨a1, b1⟩ := num_inv s e 1 (by decide) a2
 refine ⟨a1, ?_⟩
 rw [b1, b2, b3]
 unfold fieldR fieldB
 simp only [putsL, List.append_assoc, List.append_nil, List.nil_append]
theorem hand_inv : Inv handR handB := fun s e h => by
 obtain ⟨a1, b1⟩ := list_inv 4 s e h
 refine ⟨a1, ?_⟩
 obtain ⟨a, b, c, d, hf⟩ := list_four s e
 unfold handR handB
 rw [b1, hf]
 rfl
theorem many_inv {α : Type} {read : ByteArray → Int → α × ByteArray × Int} {enc : α → List Int} (hI : Inv read enc) : ∀ (n : Nat) (s : ByteArray) (e : Int), (manyR read n s e).2.2 = 0 → e = 0 ∧ nums s = (manyR read n s e).1.flatMap enc ++ nums (manyR read n s e).2.1 ∧ (manyR read n s e).1.length = n
 | 0, s, e, h => ⟨h, rfl, rfl⟩
 | n + 1, s, e, h => by
  by_cases he : e = 0
  ·subst he
   rw [manyR_ok] at h ⊢
   obtain ⟨a, b, c⟩ := many_inv hI n _ _ h
   obtain ⟨_, d⟩ := hI s 0 a
   refine ⟨rfl, ?_, by simp [c]⟩
   rw [d, b]
   simp only [List.flatMap_cons, List.append_assoc]
  ·rw [manyR_err _ _ _ _ he] at h
   exact absurd h he
theorem manyN_inv {α : Type} {read : ByteArray → Int → α × ByteArray × Int} {enc : α → List Int} (hI : Inv read enc) (m : Nat) (hm : m ≤ 2) : Inv (manyN read m) (fun l => putL (l.length : Int) m ++ l.flatMap enc) := fun s e h => by
 unfold manyN at h ⊢
 obtain ⟨a, b, c⟩ := many_inv hI _ _ _ h
 obtain ⟨d, f⟩ := num_inv s e m (by omega) a
 have hn := num_two s e m hm
 refine ⟨d, ?_⟩
 rw [f, b]
 simp only [c]
 rw [Int.toNat_of_nonneg hn.1, List.append_assoc]
theorem constT_inv (t : Int) (s : ByteArray) (e : Int) (h : (constT t s e).2.2 = 0) : e = 0 ∧ putL t 1 ++ nums s = constB (constT t s e).1 ++ nums (constT t s e).2.1 := by
 unfold constT at h ⊢
 by_cases h1 : t = 1
 ·subst h1
  rw [if_pos rfl] at h ⊢
  simp only [] at h ⊢
  by_cases hz : (takeR (numR s e 2).2.1 (numR s e 2).2.2 (numR s e 2).1.toNat).2.2 = 0
  ·rw [if_pos hz] at h
   obtain ⟨a, b, c⟩ := take_inv _ _ _ hz
   obtain ⟨d, f⟩ := num_inv s e 2 (by decide) a
   have hn := num_two s e 2 (by decide)
   generalize (takeR (numR s e 2).2.1 (numR s e 2).2.2 (numR s e 2).1.toNat) = T at *
   obtain ⟨tt, s2, e2⟩ := T
   simp only [] at *
   refine ⟨d, ?_⟩
   rcases dec_inv tt with ⟨q, _⟩ | q | ⟨l, q1, q2, q3, q4⟩
   ·rw [q] at h
    simp at h
   ·rw [q] at h
    simp at h
   ·have hu := enc_utf l q1 q4
    unfold constB
    simp only [q3, hu, if_true]
    rw [← q2, f, b, c, Int.toNat_of_nonneg hn.1]
    simp only [putsL, List.append_assoc, List.append_nil, List.nil_append]
  ·rw [if_neg hz] at h
   exact absurd h hz
 ·rw [if_neg h1] at h ⊢
  by_cases h2 : t = 2
  ·subst h2
   rw [if_pos rfl] at h ⊢
   simp only [] at h ⊢
   obtain ⟨d, f⟩ := num_inv s e 8 (by decide) h
   refine ⟨d, ?_⟩
   rw [f]
   simp [constB]
  ·rw [if_neg h2] at h ⊢
   by_cases h3 : t = 3 ∨ t = 4 ∨ t = 7
   ·rw [if_pos h3] at h ⊢
    simp only [] at h ⊢
    obtain ⟨d, f⟩ := num_inv s e 2 (by decide) h
    refine ⟨d, ?_⟩
    have h5 : ¬ (t = 5 ∨ t = 6) := by omega
    rw [f]
    simp only [constB, if_neg h1, if_neg h2, if_neg h5, putsL, List.append_assoc, List.append_nil, List.nil_append]
   ·rw [if_neg h3] at h ⊢
    by_cases h5 : t = 5 ∨ t = 6
    ·rw [if_pos h5] at h ⊢
     simp only [] at h ⊢
     obtain ⟨a3, b3⟩ := num_inv _ _ 2 (by decide) h
     obtain ⟨a2, b2⟩ := num_inv _ _ 2 (by decide) a3
     obtain ⟨a1, b1⟩ := num_inv s e 2 (by decide) a2
     refine ⟨a1, ?_⟩
     rw [b1, b2, b3]
     simp only [constB, if_neg h1, if_neg h2, if_pos h5, putsL, List.append_assoc, List.append_nil, List.nil_append]
    ·rw [if_neg h5] at h
     simp only [] at h
     split at h
     ·simp at h
     ·rename_i q
      exact absurd h q
theorem const_inv : Inv constR constB := fun s e h => by
 unfold constR at h ⊢
 obtain ⟨a, b⟩ := constT_inv _ _ _ h
 obtain ⟨d, f⟩ := num_inv s e 1 (by decide) a
 exact ⟨d, by rw [f, b]⟩
theorem code_inv (m : Mb) (s : ByteArray) (e : Int) (h : (codeR m s e).2.2 = 0) : e = 0 ∧ nums s = codeB (codeR m s e).1 ++ nums (codeR m s e).2.1 := by
 unfold codeR at h ⊢
 simp only [] at h ⊢
 obtain ⟨a5, b5⟩ := manyN_inv hand_inv 1 (by decide) _ _ h
 obtain ⟨a4, b4, c4⟩ := take_inv _ _ _ a5
 obtain ⟨a3, b3⟩ := num_inv _ _ 2 (by decide) a4
 obtain ⟨a2, b2⟩ := num_inv _ _ 1 (by decide) a3
 obtain ⟨a1, b1⟩ := num_inv s e 1 (by decide) a2
 have hn := num_two (numR (numR s e 1).2.1 (numR s e 1).2.2 1).2.1 (numR (numR s e 1).2.1 (numR s e 1).2.2 1).2.2 2 (by decide)
 refine ⟨a1, ?_⟩
 rw [b1, b2, b3, b4, b5]
 unfold codeB
 simp only [c4]
 rw [Int.toNat_of_nonneg hn.1]
 simp only [putsL, List.append_assoc, List.append_nil, List.nil_append]
theorem method_inv : Inv methodR methodB := fun s e h => by
 unfold methodR at h ⊢
 by_cases hf : (fieldR s e).1.flags = 2
 ·rw [if_pos hf] at h ⊢
  obtain ⟨a, b⟩ := field_inv s e h
  refine ⟨a, ?_⟩
  rw [b]
  unfold methodB fieldB
  rw [if_pos hf, List.append_nil]
 ·rw [if_neg hf] at h ⊢
  obtain ⟨a, b⟩ := code_inv _ _ _ h
  obtain ⟨c, d⟩ := field_inv s e a
  refine ⟨c, ?_⟩
  rw [d, b]
  unfold methodB fieldB
  have hg : ¬ (codeR (fieldR s e).1 (fieldR s e).2.1 (fieldR s e).2.2).1.flags = 2 := hf
  rw [if_neg hg]
  simp only [List.append_assoc]
  rfl
theorem puts_flat : ∀ l : List Int, putsL l = l.flatMap (fun n => putL n 2)
 | [] => rfl
 | n :: l => by rw [putsL, List.flatMap_cons, puts_flat l]
theorem body_inv (s : ByteArray) (e : Int) (h : (bodyR s e).2.2 = 0) : e = 0 ∧ bytesS (bodyR s e).1 ++ nums (bodyR s e).2.1 = [67, 82, 85, 88] ++ nums s := by
 unfold bodyR at h ⊢
 simp only [] at h ⊢
 obtain ⟨a7, b7⟩ := manyN_inv method_inv 1 (by decide) _ _ h
 obtain ⟨a6, b6⟩ := manyN_inv field_inv 1 (by decide) _ _ a7
 obtain ⟨a5, b5⟩ := manyN_inv (read := fun s e => numR s e 2) (enc := fun n => putL n 2) (fun s e h => num_inv s e 2 (by decide) h) 1 (by decide) _ _ a6
 obtain ⟨a4, b4⟩ := num_inv _ _ 2 (by decide) a5
 obtain ⟨a3, b3⟩ := num_inv _ _ 2 (by decide) a4
 obtain ⟨a2, b2⟩ := num_inv _ _ 1 (by decide) a3
 obtain ⟨a1, b1⟩ := manyN_inv const_inv 2 (by decide) s e a2
 refine ⟨a1, ?_⟩
 rw [b1, b2, b3, b4, b5, b6, b7]
 unfold bytesS
 simp only [puts_flat, List.flatMap_cons, List.flatMap_nil, List.append_assoc, List.append_nil, List.nil_append]
theorem nums_nil {s : ByteArray} (h : s = ⟨#[]⟩) : nums s = [] := by
 subst h
 rfl
theorem head_inv (b : ByteArray) (h : (headR b).2 = 0) : nums b = [67, 82, 85, 88] ++ nums (headR b).1 := by
 unfold headR at h ⊢
 simp only [] at h ⊢
 split at h
 ·simp at h
 ·rename_i q
  obtain ⟨d, f, _⟩ := take_inv b 0 4 h
  have ht : (takeR b 0 4).1 = ⟨#[67, 82, 85, 88]⟩ := Classical.byContradiction fun r => q ⟨h, r⟩
  rw [f, ht]
  rfl
theorem parse_eq (b : ByteArray) (hl : ¬ 65536 < b.size) : parseS b = doneR (bodyR (headR b).1 (headR b).2).1 (endR (bodyR (headR b).1 (headR b).2).2.1 (bodyR (headR b).1 (headR b).2).2.2) := by
 unfold parseS
 rw [if_neg hl]
theorem many_all {α : Type} {read : ByteArray → Int → α × ByteArray × Int} {P : α → Prop} (h : ∀ s e, P (read s e).1) : ∀ (n : Nat) (s : ByteArray) (e : Int), ∀ x ∈ (manyR read n s e).1, P x
 | 0, s, e, x, hx => by simp [manyR] at hx
 | n + 1, s, e, x, hx => by
  by_cases he : e = 0
  ·subst he
   rw [manyR_ok] at hx
   rcases List.mem_cons.1 hx with rfl | hx
   ·exact h s 0
   ·exact many_all h n _ _ x hx
  ·rw [manyR_err _ _ _ _ he] at hx
   simp at hx
theorem many_len {α : Type} {read : ByteArray → Int → α × ByteArray × Int} (h : ∀ s e, (read s e).2.1.size ≤ s.size) : ∀ (n : Nat) (s : ByteArray) (e : Int), (manyR read n s e).2.1.size ≤ s.size
 | 0, s, e => Nat.le_refl _
 | n + 1, s, e => by
  by_cases he : e = 0
  ·subst he
   rw [manyR_ok]
   exact Nat.le_trans (many_len h n _ _) (h s 0)
  ·rw [manyR_err _ _ _ _ he]
   exact Nat.le_refl _
theorem manyN_len {α : Type} {read : ByteArray → Int → α × ByteArray × Int} (h : ∀ s e, (read s e).2.1.size ≤ s.size) (n : Nat) (s : ByteArray) (e : Int) : (manyN read n s e).2.1.size ≤ s.size := Nat.le_trans (many_len h _ _ _) (num_len s e n)
theorem field_len (s : ByteArray) (e : Int) : (fieldR s e).2.1.size ≤ s.size := Nat.le_trans (num_len _ _ 2) (Nat.le_trans (num_len _ _ 2) (num_len s e 1))
theorem hand_len (s : ByteArray) (e : Int) : (handR s e).2.1.size ≤ s.size := list_len s e 4 s e
theorem const_len (s : ByteArray) (e : Int) : (constR s e).2.1.size ≤ s.size := by
 unfold constR constT
 have h1 := num_len s e 1
 generalize numR s e 1 = N at *
 obtain ⟨t, s1, e1⟩ := N
 simp only [] at h1 ⊢
 have h2 := num_len s1 e1 2
 have h3 := num_len s1 e1 8
 split
 ·exact Nat.le_trans (take_len _ _ _) (Nat.le_trans h2 h1)
 ·split
  ·exact Nat.le_trans h3 h1
  ·split
   ·exact Nat.le_trans h2 h1
   ·split
    ·exact Nat.le_trans (num_len _ _ 2) (Nat.le_trans (num_len _ _ 2) (Nat.le_trans h2 h1))
    ·exact h1
theorem code_len (m : Mb) (s : ByteArray) (e : Int) : (codeR m s e).2.1.size ≤ s.size := by
 unfold codeR
 simp only []
 exact Nat.le_trans (manyN_len hand_len 1 _ _) (Nat.le_trans (take_len _ _ _) (Nat.le_trans (num_len _ _ 2) (Nat.le_trans (num_len _ _ 1) (num_len s e 1))))
theorem method_len (s : ByteArray) (e : Int) : (methodR s e).2.1.size ≤ s.size := by
 unfold methodR
 split
 ·exact field_len s e
 ·exact Nat.le_trans (code_len _ _ _) (field_len s e)
theorem utf_small : ∀ l : List Int, (utfL l).length ≤ 4 * (encL l).length
 | [] => by simp [utfL, encL]
 | r :: l => by
  have h1 := encZ_length r
  have h2 := encodeRuneZ_length r
  have ih := utf_small l
  rw [encL_cons]
  simp only [utfL, List.flatMap_cons, List.length_append] at ih ⊢
  omega
theorem dec_small (b : ByteArray) : (decS b).1.size ≤ 1048576 := by
 rcases dec_inv b with ⟨q, _⟩ | q | ⟨l, q1, q2, q3, q4⟩
 ·rw [q]
  decide
 ·rw [q]
  decide
 ·rw [q3]
  have := utf_small l
  rw [size_nums]
  omega
theorem in64_zero : In64 0 := ⟨by decide, by decide⟩
theorem in64_one : In64 1 := ⟨by decide, by decide⟩
theorem in64_two : In64 2 := ⟨by decide, by decide⟩
theorem none_size : (⟨#[]⟩ : ByteArray).size ≤ 1099511627776 := by decide
def CnOk (c : Cn) : Prop := In64 c.tag ∧ In64 c.n ∧ In64 c.a ∧ In64 c.b ∧ In64 c.c ∧ c.text.size ≤ 1099511627776
theorem const_ok (s : ByteArray) (e : Int) : CnOk (constR s e).1 := by
 unfold constR constT
 have h1 := num_in s e 1
 generalize numR s e 1 = N at *
 obtain ⟨t, s1, e1⟩ := N
 simp only [] at h1 ⊢
 split
 ·exact ⟨in64_one, in64_zero, in64_zero, in64_zero, in64_zero, Nat.le_trans (dec_small _) (by decide)⟩
 ·split
  ·exact ⟨in64_two, num_in _ _ _, in64_zero, in64_zero, in64_zero, none_size⟩
  ·split
   ·exact ⟨h1, in64_zero, num_in _ _ _, in64_zero, in64_zero, none_size⟩
   ·split
    ·exact ⟨h1, in64_zero, num_in _ _ _, num_in _ _ _, num_in _ _ _, none_size⟩
    ·exact ⟨h1, in64_zero, in64_zero, in64_zero, in64_zero, none_size⟩
def MbOk (m : Mb) : Prop := In64 m.flags ∧ In64 m.name ∧ In64 m.desc ∧ In64 m.stack ∧ In64 m.locals ∧ m.code.size ≤ 65535 ∧ ∀ h ∈ m.hs, In64 h.fr ∧ In64 h.til ∧ In64 h.at_ ∧ In64 h.cls
theorem none_size2 : (⟨#[]⟩ : ByteArray).size ≤ 65535 := by decide
theorem field_ok (s : ByteArray) (e : Int) : MbOk (fieldR s e).1 := ⟨num_in _ _ _, num_in _ _ _, num_in _ _ _, in64_zero, in64_zero, none_size2, fun h hh => by cases hh⟩
theorem hand_ok (s : ByteArray) (e : Int) : In64 (handR s e).1.fr ∧ In64 (handR s e).1.til ∧ In64 (handR s e).1.at_ ∧ In64 (handR s e).1.cls := ⟨num_in _ _ _, num_in _ _ _, num_in _ _ _, num_in _ _ _⟩
theorem method_ok (s : ByteArray) (e : Int) : MbOk (methodR s e).1 := by
 unfold methodR
 split
 ·exact field_ok s e
 ·obtain ⟨h1, h2, h3, _⟩ := field_ok s e
  unfold codeR
  refine ⟨h1, h2, h3, num_in _ _ _, num_in _ _ _, ?_, many_all hand_ok _ _ _⟩
  have h2 := num_two (numR (numR (fieldR s e).2.1 (fieldR s e).2.2 1).2.1 (numR (fieldR s e).2.1 (fieldR s e).2.2 1).2.2 1).2.1 (numR (numR (fieldR s e).2.1 (fieldR s e).2.2 1).2.1 (numR (fieldR s e).2.1 (fieldR s e).2.2 1).2.2 1).2.2 2 (by decide)
  refine Nat.le_trans (take_size _ _ _) ?_
  omega
theorem manyN_all {α : Type} {read : ByteArray → Int → α × ByteArray × Int} {P : α → Prop} (h : ∀ s e, P (read s e).1) (n : Nat) (s : ByteArray) (e : Int) : ∀ x ∈ (manyN read n s e).1, P x := many_all h _ _ _
theorem body_ok (s : ByteArray) (e : Int) (F : FlP) (h : F.fl = (bodyR s e).1) : FlOk F := by
 unfold bodyR at h
 simp only [] at h
 have k1 := manyN_all const_ok 2 s e
 generalize manyN constR 2 s e = M at *
 obtain ⟨pool, s2, e2⟩ := M
 simp only [] at h k1
 have k2 := num_in s2 e2 1
 generalize numR s2 e2 1 = M at *
 obtain ⟨fl, s3, e3⟩ := M
 simp only [] at h k2
 have k3 := num_in s3 e3 2
 generalize numR s3 e3 2 = M at *
 obtain ⟨th, s4, e4⟩ := M
 simp only [] at h k3
 have k4 := num_in s4 e4 2
 generalize numR s4 e4 2 = M at *
 obtain ⟨su, s5, e5⟩ := M
 simp only [] at h k4
 have k5 := manyN_all (fun s e => num_in s e 2) 1 s5 e5
 generalize manyN (fun s e => numR s e 2) 1 s5 e5 = M at *
 obtain ⟨ifs, s6, e6⟩ := M
 simp only [] at h k5
 have k6 := manyN_all field_ok 1 s6 e6
 generalize manyN fieldR 1 s6 e6 = M at *
 obtain ⟨fds, s7, e7⟩ := M
 simp only [] at h k6
 have k7 := manyN_all method_ok 1 s7 e7
 generalize manyN methodR 1 s7 e7 = M at *
 obtain ⟨mths, s8, e8⟩ := M
 simp only [] at h k7
 obtain ⟨p, f, t, u, i, x, y⟩ := F
 unfold FlP.fl at h
 simp only [Fl.mk.injEq] at h
 obtain ⟨rfl, rfl, rfl, rfl, rfl, rfl, rfl⟩ := h
 refine ⟨k2, k3, k4, k5, k1, fun m hm => ?_, fun m hm => ?_⟩
 ·have h2 := k6 m.1 (List.mem_map_of_mem hm)
  exact ⟨h2.1, h2.2.1, h2.2.2.1⟩
 ·obtain ⟨a, b, c, d, f, g, i⟩ := k7 m.1 (List.mem_map_of_mem hm)
  exact ⟨a, b, c, d, f, Nat.le_trans g (by decide), i⟩
end Sp
def Rq (w : World) (rb : Nat) (s : ByteArray) (e : Int) : Prop := w.heap[rb]? = some (.cells #[.string s, .int .i64 e] 254 (0, 0))
namespace Sp
def numU (l : List Int) : Int := l.foldl (fun n c => (n * 256) % 18446744073709551616 + c) 0
theorem numU_snoc (l : List Int) (c : Int) : numU (l ++ [c]) = (numU l * 256) % 18446744073709551616 + c := by
 unfold numU
 rw [List.foldl_append]
 rfl
theorem numU_numV : ∀ (n : Nat) (l : List Int), l.length = n → By l → IntKind.i64.wrap (numU l) = numV l
 | 0, l, hn, _ => by
  obtain rfl := List.length_eq_zero_iff.1 hn
  rw [IntKind.wrap_i64]
  rfl
 | n + 1, l, hn, h => by
  rcases snoc_cases l with rfl | ⟨L, c, rfl⟩
  ·simp at hn
  ·have ih := numU_numV n L (by simpa using hn) (fun x hx => h x (by simp [hx]))
   have hc := h c (by simp)
   rw [numU_snoc, numV_snoc, ← ih]
   simp only [IntKind.wrap_i64]
   omega
end Sp
set_option maxHeartbeats 4000000 in
set_option maxRecDepth 100000 in
theorem qtake_any (rb : Nat) (s : ByteArray) (e : Int) (n : Nat) (w : World) (h : Rq w rb s e) (hs : s.size ≤ 1099511627776) (hn : n ≤ 1099511627776) :
  Calls Tryz.prog 172 #[.pointer (some ⟨rb, 0, none⟩), .int .i64 n] w fun x w' => x = .returned (.string (Sp.takeR s e n).1) ∧ Rq w' rb (Sp.takeR s e n).2.1 (Sp.takeR s e n).2.2 ∧ Keeps (fun i => i = rb) w w' := by
 obtain ⟨c0, f0⟩ := blk_cell h 0 _ rfl
 obtain ⟨c1, f1⟩ := blk_cell h 1 _ rfl
 have hlt := blk_lt h
 unfold Sp.takeR
 by_cases he : e = 0
 ·subst he
  rw [if_pos rfl]
  by_cases hq : s.size < n
  ·rw [if_pos hq]
   have hz : (s.size : Int) < (n : Int) := by omega
   have hS := blk_set (i := 1) h (.int .i64 5)
   go_enter Tryz.func172, Tryz.ntmps172
   go_wp2
   go_ret
   exact ⟨rfl, hS, (Keeps.refl (fun i => i = rb) w).setCell (a := ⟨rb, _, none⟩) (.inl rfl) _⟩
  ·rw [if_neg hq]
   have hz : ¬ (s.size : Int) < (n : Int) := by omega
   have hz0 : (0 : Int) ≤ (n : Int) := by omega
   have hz1 : (n : Int) ≤ (s.size : Int) := by omega
   have hS := blk_set (i := 0) h (.string (s.extract n s.size))
   go_enter Tryz.func172, Tryz.ntmps172
   go_wp2
   go_ret
   exact ⟨rfl, hS, (Keeps.refl (fun i => i = rb) w).setCell (a := ⟨rb, _, none⟩) (.inl rfl) _⟩
 ·rw [if_neg he]
  have hb : (e == 0) = false := by simp [he]
  have hb2 : (e != 0) = true := by simp [he]
  go_enter Tryz.func172, Tryz.ntmps172
  go_wp2
  go_ret
  exact ⟨rfl, h, Keeps.refl _ w⟩
set_option maxHeartbeats 4000000 in
set_option maxRecDepth 100000 in
theorem qnumber_any (rb : Nat) (s : ByteArray) (e : Int) (n : Nat) (w : World) (h : Rq w rb s e) (hs : s.size ≤ 1099511627776) (hn : n ≤ 1000) :
  Calls Tryz.prog 173 #[.pointer (some ⟨rb, 0, none⟩), .int .i64 n] w fun x w' => x = .returned (.int .i64 (Sp.numR s e n).1) ∧ Rq w' rb (Sp.numR s e n).2.1 (Sp.numR s e n).2.2 ∧ Keeps (fun i => i = rb) w w' := by
 have kt := Lib.hid (qtake_any rb s e n w h hs (by omega))
 have hz := Sp.take_size s e n
 unfold Sp.numR
 simp only []
 clear h
 generalize Sp.takeR s e n = T at *
 obtain ⟨t, s', e'⟩ := T
 simp only [] at kt hz ⊢
 go_enter Tryz.func173, Tryz.ntmps173
 go_wp2_with fail
 refine kt.out.mono ?_
 rintro x w1 ⟨rfl, hR1, hK1⟩
 clear kt
 have HR := Lib.hid hR1
 have HK := Lib.hid hK1
 clear hR1 hK1
 go_wp2
 go_loopw [6, 7] (fun v6 v7 wr => ∃ k : Nat, v7 = .int .i64 k ∧ k ≤ t.size ∧ v6 = .int .u64 (Sp.numU ((Sp.nums t).take k)) ∧ wr = w1) (fun _ v7 _ => t.size - (RowKit.intOf v7).toNat)
 case atStart => exact ⟨0, by go_num, Nat.zero_le _, rfl, rfl⟩
 case round =>
  obtain ⟨k, rfl, hk, rfl, rfl⟩ := hrel
  have hzz : t.size ≤ 1000 := by omega
  by_cases hlt : k < t.size
  ·have hzk : (k : Int) < (t.size : Int) := by omega
   have hz0 : (0 : Int) ≤ (k : Int) := by omega
   have hstep : Sp.numU ((Sp.nums t).take (k + 1)) = (Sp.numU ((Sp.nums t).take k) * 256) % 18446744073709551616 + ((t.data.toList.getD k 0).toNat : Int) := by
    rw [List.take_add_one, Sp.nums_get t k hlt]
    exact Sp.numU_snoc _ _
   have hHs := Lib.hid hstep
   clear hstep
   go_wp2
   refine ⟨⟨k + 1, by first | rfl | simp, by omega, ?_, trivial⟩, by simp [RowKit.intOf]; omega⟩
   have hw : ∀ n : Int, IntKind.u64.wrap n = n % 18446744073709551616 := fun n => by simp [IntKind.wrap, IntKind.bits, IntKind.signed]
   have hgd : t.data.toList.getD k 0 = t[k]'hlt := by
    rw [List.getD_eq_getElem?_getD, List.getElem?_eq_getElem (show k < t.data.toList.length from hlt)]
    rfl
   have h1 := hHs.out
   rw [hgd] at h1
   have hb := (t[k]'hlt).toNat_lt
   rw [h1, hw, hw, hw]
   congr 1
   omega
  ·obtain rfl : k = t.size := by omega
   have hzk : ¬ (t.size : Int) < (t.size : Int) := by omega
   have htk : (Sp.nums t).take t.size = Sp.nums t := List.take_of_length_le (by rw [nums_length]; exact Nat.le_refl _)
   rw [htk]
   have hv := Lib.hid (Sp.numU_numV _ (Sp.nums t) rfl (Sp.by_nums t))
   go_wp2
   go_ret
   exact ⟨by rw [← hv.out, ← wrap64_eq]; rfl, HR.out, HK.out⟩
end Go.Proofs.YtjjlcoimaihdoaaGreatDoor
