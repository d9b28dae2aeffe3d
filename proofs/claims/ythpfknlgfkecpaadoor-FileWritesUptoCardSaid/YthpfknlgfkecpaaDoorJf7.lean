/-
  Texts of the proof, joined: each says at its head what it proves.
-/
import Derived.Test.YthpfknlgfkecpaaDoorJFileNamesx3
import Derived.Lib.ConvBytes
section
/-
  Walks of the reference's two and one.
-/
set_option linter.unusedVariables false
set_option linter.unusedSimpArgs false
namespace Go.Proofs.YthpfknlgfkecpaaDoor
open Go.RowKit Go.Lib

theorem putsL_one (n : Int) (h0 : 0 ≤ n) (h1 : n ≤ 65535) : Sp.putsL [n] = [n / 256, n % 256] := by
  simp only [Sp.putsL, Sp.putL, List.append_nil]
  rw [show n / 2 ^ (8 * 1) % 256 = n / 256 by omega, show n / 2 ^ (8 * 0) % 256 = n % 256 by omega]
theorem putL_one (n : Int) (h0 : 0 ≤ n) (h1 : n ≤ 255) : Sp.putL n 1 = [n] := by
  simp only [Sp.putL]
  rw [show n / 2 ^ (8 * 0) % 256 = n by omega]

set_option maxHeartbeats 4000000 in
set_option maxRecDepth 100000 in
theorem two_any (n : Int) (h0 : 0 ≤ n) (h1 : n ≤ 65535) (w : World) :
    Calls Tryd.prog 95 #[.int .i64 n] w fun e w' => e = .returned (.string (Go.strOfNums (Sp.putsL [n]))) ∧ Below w.heap.size w w' := by
  rw [putsL_one n h0 h1]
  have q0 : 0 ≤ n / 256 := by omega
  have q1 : n / 256 ≤ 255 := by omega
  have r0 : 0 ≤ n % 256 := by omega
  have r1 : n % 256 ≤ 255 := by omega
  have hcv := conv_lit w [n / 256, n % 256] 2 #[.int .u8 (n / 256), .int .u8 (n % 256)] rfl (by simp [numc])
  go_enter Tryd.func95, Tryd.ntmps95
  go_wp2
  go_ret
  exact ⟨rfl, by (repeat (first | with_reducible assumption | with_reducible exact Below.refl _ _ | (with_reducible refine Below.setCell ?_ (by first | exact Nat.le_refl _ | omega | (simp; done) | (simp; omega)) _) | (with_reducible refine Below.alloc ?_ (by first | exact Nat.le_refl _ | omega | (simp; done) | (simp; omega)) _) | (with_reducible refine Below.drew ?_)))⟩

set_option maxHeartbeats 4000000 in
set_option maxRecDepth 100000 in
theorem one_any (n : Int) (h0 : 0 ≤ n) (h1 : n ≤ 255) (w : World) :
    Calls Tryd.prog 97 #[.int .i64 n] w fun e w' => e = .returned (.string (Go.strOfNums (Sp.putL n 1))) ∧ Below w.heap.size w w' := by
  rw [putL_one n h0 h1]
  have hcv := conv_lit w [n] 1 #[.int .u8 n] rfl (by simp [numc])
  go_enter Tryd.func97, Tryd.ntmps97
  go_wp2
  go_ret
  exact ⟨rfl, by (repeat (first | with_reducible assumption | with_reducible exact Below.refl _ _ | (with_reducible refine Below.setCell ?_ (by first | exact Nat.le_refl _ | omega | (simp; done) | (simp; omega)) _) | (with_reducible refine Below.alloc ?_ (by first | exact Nat.le_refl _ | omega | (simp; done) | (simp; omega)) _) | (with_reducible refine Below.drew ?_)))⟩
end Go.Proofs.YthpfknlgfkecpaaDoor
end
