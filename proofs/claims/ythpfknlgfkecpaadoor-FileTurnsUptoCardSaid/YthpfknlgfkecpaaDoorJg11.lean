/-
  Texts of the proof, joined: each says at its head what it proves.
-/
import Derived.Test.YthpfknlgfkecpaaDoorJg10
section
/-
  Walk of chapter 3's examples. (Printed by gen_fshown.py.)
-/
set_option linter.unusedVariables false
set_option linter.unusedSimpArgs false
namespace Go.Proofs.YthpfknlgfkecpaaDoor
open Go.RowKit Go.Lib

theorem lawSmall_lit (w : World) :
    Calls Tryd.prog 56 #[] w fun e w' => ∃ b, e = .returned (.agg #[.slice (some ⟨b, 0, none⟩) 4 4, .int .i64 0, .int .i64 2, .int .i64 4, .slice none 0 0, .slice none 0 0, .slice none 0 0]) ∧ w.heap.size ≤ b ∧ w'.heap[b]? = some (.cells (Sp.smallP.flatMap Sp.cnC).toArray 58 (0, 0)) ∧ Below w.heap.size w w' := lawSmall_any w
/-- A class of the examples: its box and its pool. -/
structure Bx (W : World) (x b : Nat) (C P : Array Value) : Prop where
  box : W.heap[x]? = some (.cells C 53 (0, 0))
  pool : W.heap[b]? = some (.cells P 58 (0, 0))
section
variable {W W' : World} {x b : Nat} {C P : Array Value}
theorem Bx.below (h : Bx W x b C P) (hb : Below W.heap.size W W') : Bx W' x b C P := ⟨blk_below h.box hb, blk_below h.pool hb⟩
theorem Bx.alloc (h : Bx W x b C P) (o : Obj) : Bx (W.alloc o) x b C P := ⟨blk_old h.box, blk_old h.pool⟩
theorem Bx.other (h : Bx W x b C P) (a : Addr) (v : Value) (h1 : x ≠ a.block) (h2 : b ≠ a.block) : Bx (W.setCell a v) x b C P := ⟨blk_other h.box a v h1, blk_other h.pool a v h2⟩
theorem bx7 {c0 c1 c2 c3 c4 c5 c6 : Value} (h : Bx W x b #[c0, c1, c2, c3, c4, c5, c6] P) : W.cell? ⟨x, 0, none⟩ = some c0 ∧ W.cell? ⟨x, 1, none⟩ = some c1 ∧ W.cell? ⟨x, 2, none⟩ = some c2 ∧ W.cell? ⟨x, 3, none⟩ = some c3 ∧ W.cell? ⟨x, 4, none⟩ = some c4 ∧ W.cell? ⟨x, 5, none⟩ = some c5 ∧ W.cell? ⟨x, 6, none⟩ = some c6 :=
  ⟨(blk_cell h.box 0 _ rfl).1, (blk_cell h.box 1 _ rfl).1, (blk_cell h.box 2 _ rfl).1, (blk_cell h.box 3 _ rfl).1, (blk_cell h.box 4 _ rfl).1, (blk_cell h.box 5 _ rfl).1, (blk_cell h.box 6 _ rfl).1⟩
theorem Bx.lt (h : Bx W x b C P) : x < W.heap.size ∧ b < W.heap.size := ⟨blk_lt h.box, blk_lt h.pool⟩
end

theorem own_rdL {α : Type} {enc : α → List Value} {n : Nat} (hn : ∀ x, (enc x).length = n) (h0 : 0 < n) {w : World} {base m c : Nat} {e : TypeId} {A : Option Addr} {l : List α} (h : w.ownsRow base e n (.slice A m c) m (l.flatMap enc)) : m = l.length ∧ RdL enc w A l := by
  have hl : (l.flatMap enc).length = m * n := h.1
  rw [flat_length enc n hn] at hl
  have hm : m = l.length := (Nat.eq_of_mul_eq_mul_right h0 hl).symm
  have hx : m ≤ 9223372036854775807 := by
    rcases h.2 with ⟨_, h0⟩ | ⟨g, cap, cur, hv, h1, h2, h3, h4, h5⟩
    · omega
    · have := h4; unfold maxLen at this; omega
  refine ⟨hm, by omega, fun h0 => ?_⟩
  obtain ⟨g, hA⟩ : ∃ g, A = some ⟨g, 0, none⟩ := by
    rcases h.2 with ⟨_, h1⟩ | ⟨g, cap, cur, hv, _⟩
    · omega
    · exact ⟨g, by injection hv⟩
  subst hA
  refine ⟨g, 0, rfl, fun j v hj => ?_⟩
  have hc := h.cells (g := g) rfl j v hj
  rw [show (⟨g, 0, none⟩ : Addr).add j = ⟨g, 0 + j, none⟩ by unfold Addr.add; split <;> simp_all] at hc
  exact hc
theorem infoCn : (Tryd.prog.info? 58).map (fun i => (i.zero, i.size, i.bytes)) = some (some (.agg #[.int .i64 0, .string ⟨#[]⟩, .int .i64 0, .int .i64 0, .int .i64 0, .int .i64 0]), 6, 56) := by kernel_rfl
theorem own_ne_box {w : World} {base n size x : Nat} {e T : TypeId} {v : Value} {xs : List Value} {C : Array Value} {fr : Nat × Nat} (h : w.ownsRow base e size v n xs) (hb : w.heap[x]? = some (.cells C T fr)) (hT : T ≠ e) : v.ownBlock ≠ some x := fun q => by
  rcases h.2 with ⟨rfl, _⟩ | ⟨g, cap, cur, rfl, _, hgb, _⟩
  · simp [Value.ownBlock] at q
  · have : g = x := by simpa [Value.ownBlock] using q
    subst this
    rw [hb] at hgb
    injection hgb with hgb
    injection hgb with _ e _
    exact hT e

set_option maxHeartbeats 16000000 in
set_option maxRecDepth 100000 in
theorem fileShown_any (w : World) (hT : Tabs w) :
    Calls Tryd.prog 32 #[] w fun e w' => e = .returned (.bool true) ∧ Below w.heap.size w w' := by
  have T0 := Lib.hid hT
  clear hT
  go_enter Tryd.func32, Tryd.ntmps32
  go_wp2_with fail
  refine (lawSmall_lit w).mono ?_
  rintro e w1 ⟨b1, rfl, hb1, hP1, B1⟩
  have A1 := Lib.hid (B1.alloc B1.size (.cells #[.slice (some ⟨b1, 0, none⟩) 4 4, .int .i64 0, .int .i64 2, .int .i64 4, .slice none 0 0, .slice none 0 0, .slice none 0 0] 53))
  have X1 := Lib.hid (show Bx (w1.alloc (.cells #[.slice (some ⟨b1, 0, none⟩) 4 4, .int .i64 0, .int .i64 2, .int .i64 4, .slice none 0 0, .slice none 0 0, .slice none 0 0] 53)) w1.heap.size b1 #[.slice (some ⟨b1, 0, none⟩) 4 4, .int .i64 0, .int .i64 2, .int .i64 4, .slice none 0 0, .slice none 0 0, .slice none 0 0] (Sp.smallP.flatMap Sp.cnC).toArray from ⟨blk_new _ _, blk_old hP1⟩)
  clear hP1 B1
  have S1 := A1.out.size
  go_upto_region 2 with fail
  generalize w1.alloc (.cells #[.slice (some ⟨b1, 0, none⟩) 4 4, .int .i64 0, .int .i64 2, .int .i64 4, .slice none 0 0, .slice none 0 0, .slice none 0 0] 53) = W1 at *
  generalize w1.heap.size = x1 at *
  obtain ⟨c0, c1, c2, c3, c4, c5, c6⟩ := bx7 X1.out
  have ke := Lib.hid (show Calls Tryd.prog 34 #[.agg #[.slice (some ⟨b1, 0, none⟩) 4 4, .int .i64 0, .int .i64 2, .int .i64 4, .slice none 0 0, .slice none 0 0, .slice none 0 0]] W1 (fun e w' => e = .returned (.tuple #[.string (Sp.encodeF smallF.fl).1, .int .i64 (Sp.encodeF smallF.fl).2]) ∧ Below W1.heap.size W1 w') from fileEnc_any (smallQ b1) smallF W1 (rdF_small X1.out.pool) okSmall (T0.out.below A1.out) (by rw [ex3]; omega))
  rw [encS1] at ke
  simp only [] at ke
  have hS := Lib.hid (show (Go.strOfNums (Sp.bytesS smallF.fl)).size = 33 by rw [Sp.size_nums, ex3])
  have hS2 := Lib.hid (show (Go.strOfNums (Sp.bytesS smallF.fl)).extract 0 13 = ⟨#[67, 82, 85, 88, 0, 4, 1, 0, 1, 65, 4, 0, 1]⟩ by kernel_rfl)
  generalize Go.strOfNums (Sp.bytesS smallF.fl) = S at *
  go_wp2_with fail
  refine ke.out.mono ?_
  rintro e w2 ⟨rfl, hb2⟩
  have A2 := Lib.hid (below_then A1.out S1 hb2)
  have X2 := Lib.hid (X1.out.below hb2)
  have S2 := A2.out.size
  clear hb2 ke X1 A1 S1 c0 c1 c2 c3 c4 c5 c6

  go_wp2_with fail
  refine (lawSmall_lit w2).mono ?_
  rintro e w3 ⟨b3, rfl, hb3, hP3, B3⟩
  have D3 := Lib.hid (B3.alloc B3.size (.cells #[.slice (some ⟨b3, 0, none⟩) 4 4, .int .i64 0, .int .i64 2, .int .i64 4, .slice none 0 0, .slice none 0 0, .slice none 0 0] 53))
  have Y3 := Lib.hid (show Bx (w3.alloc (.cells #[.slice (some ⟨b3, 0, none⟩) 4 4, .int .i64 0, .int .i64 2, .int .i64 4, .slice none 0 0, .slice none 0 0, .slice none 0 0] 53)) w3.heap.size b3 #[.slice (some ⟨b3, 0, none⟩) 4 4, .int .i64 0, .int .i64 2, .int .i64 4, .slice none 0 0, .slice none 0 0, .slice none 0 0] (Sp.smallP.flatMap Sp.cnC).toArray from ⟨blk_new _ _, blk_old hP3⟩)
  have hbx3 : b3 < w3.heap.size := blk_lt hP3
  have hsx3 : w2.heap.size ≤ w3.heap.size := B3.size
  clear hP3 B3
  go_upto_region 4 with fail
  generalize w3.alloc (.cells #[.slice (some ⟨b3, 0, none⟩) 4 4, .int .i64 0, .int .i64 2, .int .i64 4, .slice none 0 0, .slice none 0 0, .slice none 0 0] 53) = W3 at *
  generalize w3.heap.size = x3 at *
  obtain ⟨e0, g0⟩ := blk_cell Y3.out.box 2 _ rfl
  have E3 := Lib.hid (D3.out.setCell (p := ⟨x3, 2, none⟩) hsx3 (.int .i64 1))
  have X3 := Lib.hid (show Bx (W3.setCell ⟨x3, 2, none⟩ (.int .i64 1)) x3 b3 #[.slice (some ⟨b3, 0, none⟩) 4 4, .int .i64 0, .int .i64 1, .int .i64 4, .slice none 0 0, .slice none 0 0, .slice none 0 0] (Sp.smallP.flatMap Sp.cnC).toArray from ⟨blk_set Y3.out.box _, blk_other Y3.out.pool _ _ (by simp; omega)⟩)
  clear D3 Y3
  go_upto_region 5 with fail
  clear e0 g0
  generalize W3.setCell ⟨x3, 2, none⟩ (.int .i64 1) = V3 at *
  have A3 := Lib.hid (below_then A2.out S2 E3.out)
  have S3 := A3.out.size
  have Z2 := Lib.hid (X2.out.below E3.out)
  clear X2
  have X2 := Z2
  clear Z2
  clear E3 A2 S2

  go_wp2_with fail
  refine (lawSmall_lit V3).mono ?_
  rintro e w4 ⟨b4, rfl, hb4, hP4, B4⟩
  have D4 := Lib.hid (B4.alloc B4.size (.cells #[.slice (some ⟨b4, 0, none⟩) 4 4, .int .i64 0, .int .i64 2, .int .i64 4, .slice none 0 0, .slice none 0 0, .slice none 0 0] 53))
  have Y4 := Lib.hid (show Bx (w4.alloc (.cells #[.slice (some ⟨b4, 0, none⟩) 4 4, .int .i64 0, .int .i64 2, .int .i64 4, .slice none 0 0, .slice none 0 0, .slice none 0 0] 53)) w4.heap.size b4 #[.slice (some ⟨b4, 0, none⟩) 4 4, .int .i64 0, .int .i64 2, .int .i64 4, .slice none 0 0, .slice none 0 0, .slice none 0 0] (Sp.smallP.flatMap Sp.cnC).toArray from ⟨blk_new _ _, blk_old hP4⟩)
  have hbx4 : b4 < w4.heap.size := blk_lt hP4
  have hsx4 : V3.heap.size ≤ w4.heap.size := B4.size
  clear hP4 B4
  go_upto_region 6 with fail
  generalize w4.alloc (.cells #[.slice (some ⟨b4, 0, none⟩) 4 4, .int .i64 0, .int .i64 2, .int .i64 4, .slice none 0 0, .slice none 0 0, .slice none 0 0] 53) = W4 at *
  generalize w4.heap.size = x4 at *
  obtain ⟨e0, g0⟩ := blk_cell Y4.out.box 1 _ rfl
  have E4 := Lib.hid (D4.out.setCell (p := ⟨x4, 1, none⟩) hsx4 (.int .i64 1))
  have X4 := Lib.hid (show Bx (W4.setCell ⟨x4, 1, none⟩ (.int .i64 1)) x4 b4 #[.slice (some ⟨b4, 0, none⟩) 4 4, .int .i64 1, .int .i64 2, .int .i64 4, .slice none 0 0, .slice none 0 0, .slice none 0 0] (Sp.smallP.flatMap Sp.cnC).toArray from ⟨blk_set Y4.out.box _, blk_other Y4.out.pool _ _ (by simp; omega)⟩)
  clear D4 Y4
  go_upto_region 7 with fail
  clear e0 g0
  generalize W4.setCell ⟨x4, 1, none⟩ (.int .i64 1) = V4 at *
  have A4 := Lib.hid (below_then A3.out S3 E4.out)
  have S4 := A4.out.size
  have Z2 := Lib.hid (X2.out.below E4.out)
  clear X2
  have X2 := Z2
  clear Z2
  have Z3 := Lib.hid (X3.out.below E4.out)
  clear X3
  have X3 := Z3
  clear Z3
  clear E4 A3 S3

  go_wp2_with fail
  refine (lawSmall_lit V4).mono ?_
  rintro e w5 ⟨b5, rfl, hb5, hP5, B5⟩
  have D5 := Lib.hid (B5.alloc B5.size (.cells #[.slice (some ⟨b5, 0, none⟩) 4 4, .int .i64 0, .int .i64 2, .int .i64 4, .slice none 0 0, .slice none 0 0, .slice none 0 0] 53))
  have Y5 := Lib.hid (show Bx (w5.alloc (.cells #[.slice (some ⟨b5, 0, none⟩) 4 4, .int .i64 0, .int .i64 2, .int .i64 4, .slice none 0 0, .slice none 0 0, .slice none 0 0] 53)) w5.heap.size b5 #[.slice (some ⟨b5, 0, none⟩) 4 4, .int .i64 0, .int .i64 2, .int .i64 4, .slice none 0 0, .slice none 0 0, .slice none 0 0] (Sp.smallP.flatMap Sp.cnC).toArray from ⟨blk_new _ _, blk_old hP5⟩)
  have hbx5 : b5 < w5.heap.size := blk_lt hP5
  have hsx5 : V4.heap.size ≤ w5.heap.size := B5.size
  clear hP5 B5
  go_upto_region 8 with fail
  generalize w5.alloc (.cells #[.slice (some ⟨b5, 0, none⟩) 4 4, .int .i64 0, .int .i64 2, .int .i64 4, .slice none 0 0, .slice none 0 0, .slice none 0 0] 53) = W5 at *
  generalize w5.heap.size = x5 at *
  obtain ⟨e0, g0⟩ := blk_cell Y5.out.box 0 _ rfl
  obtain ⟨i0, hi, hz0, hz1, hz2⟩ := info_parts infoCn
  have hsz5 := D5.out.size
  have hlx5 := Y5.out.lt.1
  have hown : Hid (W5.ownsRow V4.heap.size 58 6 (.slice (some ⟨b5, 0, none⟩) 4 4) 4 (Sp.smallP.flatMap Sp.cnC)) := Lib.hid ⟨rfl, .inr ⟨b5, 4, _, rfl, hb5, Y5.out.pool, Nat.le_refl _, by unfold maxLen; omega, rfl, rfl⟩⟩
  go_wp2_with (at_builtin; refine wpList_append_own _ rfl _ _ 49 rfl V4.heap.size 58 i0 (.agg #[.int .i64 0, .string ⟨#[]⟩, .int .i64 0, .int .i64 0, .int .i64 0, .int .i64 0]) 6 56 Tryd.underlying49 hi hz0 hz1 hz2 rfl (by decide) _ 4 _ rfl (hown.out.alloc _) ⟨W5.heap.size, 0, none⟩ 1 1 [.int .i64 4, .string ⟨#[]⟩, .int .i64 0, .int .i64 9, .int .i64 0, .int .i64 0] rfl rfl ?x2 ?x3 ?x4 ?x5 ?x6 ?_)
  case x2 =>
    intro j u hj
    match j, hj with
    | 0, hj => simp at hj; subst hj; simp [Addr.add]
    | 1, hj => simp at hj; subst hj; simp [Addr.add]
    | 2, hj => simp at hj; subst hj; simp [Addr.add]
    | 3, hj => simp at hj; subst hj; simp [Addr.add]
    | 4, hj => simp at hj; subst hj; simp [Addr.add]
    | 5, hj => simp at hj; subst hj; simp [Addr.add]
    | (j + 6), hj => simp at hj
  case x3 => intro u hu; simp at hu; rcases hu with rfl | rfl | rfl | rfl | rfl | rfl <;> rfl
  case x4 => unfold maxLen; omega
  case x5 => omega
  case x6 => simp; omega
  intro v' w6 hown' hg6 _
  obtain ⟨A6, k6, rfl⟩ := own_sl hown'
  have D6 := Lib.hid ((D5.out.alloc hsz5 _).grown hg6 (by simp; omega) (fun q hq => by simp [Value.ownBlock] at hq; omega))
  have K6 := Lib.hid (blk_grown (blk_old Y5.out.box) hg6 (by simp [Value.ownBlock]; omega))
  have S6 := D6.out.size
  clear e0 g0 D5 Y5 hown hg6 hi hz0 hz1 hz2
  obtain ⟨e0, g0⟩ := blk_cell K6.out 0 _ rfl
  have E6 := Lib.hid (D6.out.setCell (p := ⟨x5, 0, none⟩) hsx5 (.slice A6 (4 + 1) k6))
  have K7 := Lib.hid (show (w6.setCell ⟨x5, 0, none⟩ (.slice A6 (4 + 1) k6)).heap[x5]? = some (.cells #[.slice A6 5 k6, .int .i64 0, .int .i64 2, .int .i64 4, .slice none 0 0, .slice none 0 0, .slice none 0 0] 53 (0, 0)) from blk_set K6.out _)
  have hrow := (Keeps.refl (fun i => i = x5) w6).setCell (a := ⟨x5, 0, none⟩) (.inl rfl) (.slice A6 (4 + 1) k6) |>.row hown' (fun k hk e => own_ne_box hown' K6.out (by decide) (e ▸ hk))
  have R6 := Lib.hid (show RdL Sp.cnC (w6.setCell ⟨x5, 0, none⟩ (.slice A6 (4 + 1) k6)) A6 exPool.pool from (own_rdL Sp.cnC_len (by decide) (l := exPool.pool) hrow).2)
  clear hown' hrow K6 D6
  go_upto_region 9 with fail
  clear e0 g0
  generalize w6.setCell ⟨x5, 0, none⟩ (.slice A6 (4 + 1) k6) = V6 at *
  have A6' := Lib.hid (below_then A4.out S4 E6.out)
  have S6' := A6'.out.size
  have Z2 := Lib.hid (X2.out.below E6.out)
  have Z3 := Lib.hid (X3.out.below E6.out)
  have Z4 := Lib.hid (X4.out.below E6.out)
  clear X2 X3 X4 E6 A4 S4 S6
  have X2 := Z2
  have X3 := Z3
  have X4 := Z4
  clear Z2 Z3 Z4
  go_wp2_with fail
  refine (lawSmall_lit V6).mono ?_
  rintro e w7 ⟨b7, rfl, hb7, hP7, B7⟩
  have D7 := Lib.hid (B7.alloc B7.size (.cells #[.slice (some ⟨b7, 0, none⟩) 4 4, .int .i64 0, .int .i64 2, .int .i64 4, .slice none 0 0, .slice none 0 0, .slice none 0 0] 53))
  have Y7 := Lib.hid (show Bx (w7.alloc (.cells #[.slice (some ⟨b7, 0, none⟩) 4 4, .int .i64 0, .int .i64 2, .int .i64 4, .slice none 0 0, .slice none 0 0, .slice none 0 0] 53)) w7.heap.size b7 #[.slice (some ⟨b7, 0, none⟩) 4 4, .int .i64 0, .int .i64 2, .int .i64 4, .slice none 0 0, .slice none 0 0, .slice none 0 0] (Sp.smallP.flatMap Sp.cnC).toArray from ⟨blk_new _ _, blk_old hP7⟩)
  have hbx7 : b7 < w7.heap.size := blk_lt hP7
  have hsx7 : V6.heap.size ≤ w7.heap.size := B7.size
  clear hP7 B7
  go_upto_region 10 with fail
  generalize w7.alloc (.cells #[.slice (some ⟨b7, 0, none⟩) 4 4, .int .i64 0, .int .i64 2, .int .i64 4, .slice none 0 0, .slice none 0 0, .slice none 0 0] 53) = W7 at *
  generalize w7.heap.size = x7 at *
  obtain ⟨e0, g0⟩ := blk_cell Y7.out.box 5 _ rfl
  have hlx7 := Y7.out.lt.1
  have D8 := Lib.hid ((D7.out.setCell (p := ⟨x7, 5, none⟩) hsx7 (.slice (some ⟨W7.heap.size, 0, none⟩) 1 1)).alloc (by have := D7.out.size; simpa using this) (.cells #[.int .i64 0, .int .i64 1, .int .i64 1, .int .i64 0, .int .i64 0, .string ⟨#[]⟩, .slice none 0 0] 65))
  have K8 := Lib.hid (show ((W7.setCell ⟨x7, 5, none⟩ (.slice (some ⟨W7.heap.size, 0, none⟩) 1 1)).alloc (.cells #[.int .i64 0, .int .i64 1, .int .i64 1, .int .i64 0, .int .i64 0, .string ⟨#[]⟩, .slice none 0 0] 65)).heap[x7]? = some (.cells #[.slice (some ⟨b7, 0, none⟩) 4 4, .int .i64 0, .int .i64 2, .int .i64 4, .slice none 0 0, .slice (some ⟨W7.heap.size, 0, none⟩) 1 1, .slice none 0 0] 53 (0, 0)) from blk_old (blk_set Y7.out.box _))
  have P8 := Lib.hid (blk_old (o := (.cells #[.int .i64 0, .int .i64 1, .int .i64 1, .int .i64 0, .int .i64 0, .string ⟨#[]⟩, .slice none 0 0] 65)) (blk_other Y7.out.pool ⟨x7, 5, none⟩ (.slice (some ⟨W7.heap.size, 0, none⟩) 1 1) (by simp; omega)))
  have M8 : Hid (((W7.setCell ⟨x7, 5, none⟩ (.slice (some ⟨W7.heap.size, 0, none⟩) 1 1)).alloc (.cells #[.int .i64 0, .int .i64 1, .int .i64 1, .int .i64 0, .int .i64 0, .string ⟨#[]⟩, .slice none 0 0] 65)).heap[W7.heap.size]? = some (.cells #[.int .i64 0, .int .i64 1, .int .i64 1, .int .i64 0, .int .i64 0, .string ⟨#[]⟩, .slice none 0 0] 65)) := Lib.hid (by have := blk_new (W7.setCell ⟨x7, 5, none⟩ (.slice (some ⟨W7.heap.size, 0, none⟩) 1 1)) (.cells #[.int .i64 0, .int .i64 1, .int .i64 1, .int .i64 0, .int .i64 0, .string ⟨#[]⟩, .slice none 0 0] 65); simpa using this)
  go_upto_region 11 with fail
  clear e0 g0 D7 Y7
  generalize (W7.setCell ⟨x7, 5, none⟩ (.slice (some ⟨W7.heap.size, 0, none⟩) 1 1)).alloc (.cells #[.int .i64 0, .int .i64 1, .int .i64 1, .int .i64 0, .int .i64 0, .string ⟨#[]⟩, .slice none 0 0] 65) = V7 at *
  clear hbx5 hsx5 hsz5 hlx5 hbx7 hsx7 hlx7 hbx3 hsx3 hbx4 hsx4
  have A8 := Lib.hid (below_then A6'.out S6' D8.out)
  have S8 := A8.out.size
  have X2 := Lib.hid (X2.out.below D8.out)
  have X3 := Lib.hid (X3.out.below D8.out)
  have X4 := Lib.hid (X4.out.below D8.out)
  have K7 := Lib.hid (blk_below K7.out D8.out)
  have R6 := Lib.hid (rdL_below R6.out D8.out)
  generalize W7.heap.size = m7 at *
  have TT := Lib.hid (fun W (hb : Below V7.heap.size V7 W) => T0.out.below (below_then A8.out S8 hb))
  have r1 := Lib.hid (fun W (hb : Below V7.heap.size V7 W) => show Calls Tryd.prog 36 #[.agg #[.slice (some ⟨b1, 0, none⟩) 4 4, .int .i64 0, .int .i64 2, .int .i64 4, .slice none 0 0, .slice none 0 0, .slice none 0 0]] W (fun e w' => e = .returned (.int .i64 (Sp.encodeF smallF.fl).2) ∧ Below W.heap.size W w') from fileRight_any (smallQ b1) smallF W (rdF_small (X2.out.below hb).pool) okSmall (TT.out W hb) (by rw [ex3]; omega))
  have r3 := Lib.hid (fun W (hb : Below V7.heap.size V7 W) => show Calls Tryd.prog 36 #[.agg #[.slice (some ⟨b3, 0, none⟩) 4 4, .int .i64 0, .int .i64 1, .int .i64 4, .slice none 0 0, .slice none 0 0, .slice none 0 0]] W (fun e w' => e = .returned (.int .i64 (Sp.encodeF exThis.fl).2) ∧ Below W.heap.size W w') from fileRight_any (smallQ b3) exThis W ⟨(rdF_small (X3.out.below hb).pool).pool, rdN_nil _ _ _, ⟨rdL_nil _ _ _, fun m hm => by cases hm⟩, ⟨rdL_nil _ _ _, fun m hm => by cases hm⟩⟩ okThis (TT.out W hb) (by rw [len4]; omega))
  have r4 := Lib.hid (fun W (hb : Below V7.heap.size V7 W) => show Calls Tryd.prog 36 #[.agg #[.slice (some ⟨b4, 0, none⟩) 4 4, .int .i64 1, .int .i64 2, .int .i64 4, .slice none 0 0, .slice none 0 0, .slice none 0 0]] W (fun e w' => e = .returned (.int .i64 (Sp.encodeF exFlags.fl).2) ∧ Below W.heap.size W w') from fileRight_any (smallQ b4) exFlags W ⟨(rdF_small (X4.out.below hb).pool).pool, rdN_nil _ _ _, ⟨rdL_nil _ _ _, fun m hm => by cases hm⟩, ⟨rdL_nil _ _ _, fun m hm => by cases hm⟩⟩ okFlags (TT.out W hb) (by rw [len5]; omega))
  have r5 := Lib.hid (fun W (hb : Below V7.heap.size V7 W) => show Calls Tryd.prog 36 #[.agg #[.slice A6 5 k6, .int .i64 0, .int .i64 2, .int .i64 4, .slice none 0 0, .slice none 0 0, .slice none 0 0]] W (fun e w' => e = .returned (.int .i64 (Sp.encodeF exPool.fl).2) ∧ Below W.heap.size W w') from fileRight_any ⟨A6, k6, none, 0, none, 0, none, 0⟩ exPool W ⟨rdL_below R6.out hb, rdN_nil _ _ _, ⟨rdL_nil _ _ _, fun m hm => by cases hm⟩, ⟨rdL_nil _ _ _, fun m hm => by cases hm⟩⟩ okPool (TT.out W hb) (by rw [len6]; omega))
  have r7 := Lib.hid (fun W (hb : Below V7.heap.size V7 W) => show Calls Tryd.prog 36 #[.agg #[.slice (some ⟨b7, 0, none⟩) 4 4, .int .i64 0, .int .i64 2, .int .i64 4, .slice none 0 0, .slice (some ⟨m7, 0, none⟩) 1 1, .slice none 0 0]] W (fun e w' => e = .returned (.int .i64 (Sp.encodeF (exField none 0).fl).2) ∧ Below W.heap.size W w') from fileRight_any ⟨some ⟨b7, 0, none⟩, 4, none, 0, some ⟨m7, 0, none⟩, 1, none, 0⟩ (exField none 0) W ⟨rdL_blk (blk_below P8.out hb) rfl (by decide), rdN_nil _ _ _, ⟨rdL_blk (blk_below M8.out hb) rfl (by decide), fun m hm => by simp [exField] at hm; subst hm; exact rdL_nil _ _ _⟩, ⟨rdL_nil _ _ _, fun m hm => by cases hm⟩⟩ (okField none 0) (TT.out W hb) (by rw [len7]; omega))
  rw [encS1] at r1
  rw [ex4] at r3
  rw [ex5] at r4
  rw [ex6] at r5
  rw [ex7] at r7
  simp only [] at r1
  have X5 := Lib.hid (show Bx V7 x5 b7 _ _ from ⟨K7.out, P8.out⟩)
  have X7 := Lib.hid (show Bx V7 x7 b7 _ _ from ⟨K8.out, P8.out⟩)
  clear K7 K8 P8 M8 R6 D8 A6' S6' TT
  have s1 := hS.out
  have s2 := hS2.out
  have s3 : decide ((13 : Int) < (S.size : Int)) = true := decide_eq_true (by omega)
  clear hS hS2
  have H0 := Lib.hid (Below.refl V7.heap.size V7)
  have C2 := bx7 X2.out
  obtain ⟨c0, c1, c2, c3, c4, c5, c6⟩ := C2
  go_wp2_with fail
  refine (r1.out _ H0.out).mono ?_
  rintro e u1 ⟨rfl, h1⟩
  clear c0 c1 c2 c3 c4 c5 c6
  obtain ⟨c0, c1, c2, c3, c4, c5, c6⟩ := bx7 (X3.out.below h1)
  have G1 := Lib.hid h1
  go_wp2_with fail
  refine (r3.out _ G1.out).mono ?_
  rintro e u2 ⟨rfl, h2⟩
  have G2 := Lib.hid (below_then G1.out G1.out.size h2)
  clear c0 c1 c2 c3 c4 c5 c6 h2
  obtain ⟨c0, c1, c2, c3, c4, c5, c6⟩ := bx7 (X4.out.below G2.out)
  go_wp2_with fail
  refine (r4.out _ G2.out).mono ?_
  rintro e u3 ⟨rfl, h3⟩
  have G3 := Lib.hid (below_then G2.out G2.out.size h3)
  clear c0 c1 c2 c3 c4 c5 c6 h3
  obtain ⟨c0, c1, c2, c3, c4, c5, c6⟩ := bx7 (X5.out.below G3.out)
  go_wp2_with fail
  refine (r5.out _ G3.out).mono ?_
  rintro e u4 ⟨rfl, h4⟩
  have G4 := Lib.hid (below_then G3.out G3.out.size h4)
  clear c0 c1 c2 c3 c4 c5 c6 h4
  obtain ⟨c0, c1, c2, c3, c4, c5, c6⟩ := bx7 (X7.out.below G4.out)
  go_wp2_with fail
  refine (r7.out _ G4.out).mono ?_
  rintro e u5 ⟨rfl, h5⟩
  have G5 := Lib.hid (below_then G4.out G4.out.size h5)
  clear c0 c1 c2 c3 c4 c5 c6 h5
  go_wp2
  go_ret
  exact ⟨by first | rfl | simp, below_then A8.out S8 G5.out⟩
  all_goals exfalso
  all_goals first | omega | (rename_i hq; exact hq (by rw [s2]; first | rfl | decide | kernel_rfl)) | (rename_i hq; rw [s2] at hq; simp at hq; done)
end Go.Proofs.YthpfknlgfkecpaaDoor
end
