/-
  Walk of cruciblelaw2.same: two signatures that are the same.
-/
import Derived.Test.YthpfknlgfkecpaaDoorDsSpS
set_option linter.unusedVariables false
set_option linter.unusedSimpArgs false
namespace Go.Proofs.YthpfknlgfkecpaaDoor
open Go.RowKit Go.Lib

set_option maxHeartbeats 8000000 in
set_option maxRecDepth 100000 in
theorem same_any (m : Sp.Sig) (A A' : Option Addr) (c c' : Nat) (w : World) (h1 : RdT w A m.1) (h2 : RdT w A' m.1) :
    Calls Tryd.prog 31 #[Sp.sigV A c m, Sp.sigV A' c' m] w fun e w' => e = .returned (.bool true) ∧ Below w.heap.size w w' := by
  obtain ⟨l, ⟨d, n⟩, v⟩ := m
  simp only [] at h1 h2
  have hl63 := h1.1
  have HC := Lib.hid h1.2
  have HD := Lib.hid h2.2
  clear h1 h2
  unfold Sp.sigV
  simp only []
  go_enter Tryd.func31, Tryd.ntmps31
  go_wp2
  go_loopw [5] (fun v5 wr => ∃ k : Nat, v5 = .int .i64 k ∧ k ≤ l.length ∧ Below w.heap.size w wr ∧ Hid (wr.heap[w.heap.size]? = some (.cells #[.slice A l.length c, .int .i64 d, .string n, .bool v] 37 (0, 0))) ∧ Hid (wr.heap[w.heap.size + 1]? = some (.cells #[.slice A' l.length c', .int .i64 d, .string n, .bool v] 40 (0, 0)))) (fun v5 _ => l.length - (RowKit.intOf v5).toNat)
  case atStart =>
    refine ⟨0, by go_num, Nat.zero_le _, by (repeat (first | with_reducible assumption | with_reducible exact Below.refl _ _ | (with_reducible refine Below.setCell ?_ (by first | exact Nat.le_refl _ | omega | (simp; done) | (simp; omega)) _) | (with_reducible refine Below.alloc ?_ (by first | exact Nat.le_refl _ | omega | (simp; done) | (simp; omega)) _) | (with_reducible refine Below.drew ?_))), Lib.hid (blk_old (blk_new _ _)), Lib.hid ?_⟩
    have := blk_new (w.alloc (.cells #[.slice A l.length c, .int .i64 d, .string n, .bool v] 37)) (.cells #[.slice A' l.length c', .int .i64 d, .string n, .bool v] 40)
    simpa using this
  case round =>
    obtain ⟨k, rfl, hk, hb, hM, hN⟩ := hrel
    obtain ⟨⟨c0, c1, c2, c3⟩, f0, f1, f2, f3⟩ := blk4 hM.out
    obtain ⟨⟨d0, d1, d2, d3⟩, g0, g1, g2, g3⟩ := blk4 hN.out
    by_cases hlt : k < l.length
    · obtain ⟨b, o, rfl, hr⟩ := HC.out (by omega)
      obtain ⟨b', o', rfl, hr'⟩ := HD.out (by omega)
      obtain ⟨e0, e1⟩ := rdT_get2 hr hlt
      obtain ⟨e2, e3⟩ := rdT_get2 hr' hlt
      have E0 := cell_below hb e0
      have E1 := cell_below hb e1
      have E2 := cell_below hb e2
      have E3 := cell_below hb e3
      have hzk : (k : Int) < (l.length : Int) := by omega
      have hz0 : (0 : Int) ≤ (k : Int) := by omega
      clear e0 e1 e2 e3 hr hr'
      generalize l[k] = t at *
      obtain ⟨td, tn⟩ := t
      simp only [] at E0 E1 E2 E3
      have hbd := hb.drew
      go_wp2
      go_region
      all_goals
        go_wp2
        go_roundw
        case rel => exact ⟨k + 1, by go_num, by omega, hbd, Lib.hid hM.out, Lib.hid hN.out⟩
        case measure => simp [RowKit.intOf]; omega
    · obtain rfl : k = l.length := by omega
      have hzk : ¬ (l.length : Int) < (l.length : Int) := by omega
      go_wp2
      go_ret
      exact ⟨rfl, hb⟩
end Go.Proofs.YthpfknlgfkecpaaDoor
