/-
  Texts of the proof, joined: each says at its head what it proves.
-/
import Derived.Test.YtfjplmbknegidaaGreatDoorJk23
section
/-
  Walk of chapter 3's Right.
-/
set_option linter.unusedVariables false
set_option linter.unusedSimpArgs false
namespace Go.Proofs.YtfjplmbknegidaaGreatDoor
open Go.RowKit Go.Lib

set_option maxHeartbeats 4000000 in
set_option maxRecDepth 100000 in
theorem fileRight_any (q : Sp.At) (F : FlP) (w : World) (hr : RdF w q F) (hF : FlOk F) (hT : Tabs w) (hlen : (Sp.bytesS F.fl).length ≤ 900000000) :
    Calls Tryz.prog 48 #[.agg (flC q F)] w fun e w' => e = .returned (.int .i64 (Sp.encodeF F.fl).2) ∧ Below w.heap.size w w' := by
  have hK := Lib.hid (blk_new w (.cells (flC q F) 63))
  have hB := (Below.refl w.heap.size w).alloc (Nat.le_refl _) (.cells (flC q F) 63)
  have KE : ∀ X : Array Value, X = flC q F → Hid (∀ W, Below w.heap.size w W → Calls Tryz.prog 64 #[.agg X] W fun e w' => e = .returned (.tuple #[.string (Sp.encodeF F.fl).1, .int .i64 (Sp.encodeF F.fl).2]) ∧ Below W.heap.size W w') := by
    rintro X rfl
    exact Lib.hid (fun W hb => fileEnc_any q F W (rdF_below hr hb) hF (hT.below hb) hlen)
  generalize Sp.encodeF F.fl = R at KE ⊢
  clear hr hF hT hlen
  obtain ⟨r1, r2⟩ := R
  obtain ⟨pool, fl, th, su, ifs, flds, mths⟩ := F
  obtain ⟨qA, qc, qI, qd, qX, qe, qY, qg⟩ := q
  have ke := KE #[.slice qA pool.length qc, .int .i64 fl, .int .i64 th, .int .i64 su, .slice qI ifs.length qd, .slice qX flds.length qe, .slice qY mths.length qg] rfl
  clear KE
  have hfl : flC ⟨qA, qc, qI, qd, qX, qe, qY, qg⟩ ⟨pool, fl, th, su, ifs, flds, mths⟩ = #[.slice qA pool.length qc, .int .i64 fl, .int .i64 th, .int .i64 su, .slice qI ifs.length qd, .slice qX flds.length qe, .slice qY mths.length qg] := rfl
  rw [hfl] at hK hB ⊢
  clear hfl
  simp only [] at ke
  obtain ⟨c0, c1, c2, c3, c4, c5, c6⟩ := flC_box (q := ⟨qA, qc, qI, qd, qX, qe, qY, qg⟩) (F := ⟨pool, fl, th, su, ifs, flds, mths⟩) hK.out
  simp only [] at c0 c1 c2 c3 c4 c5 c6
  go_enter Tryz.func48, Tryz.ntmps48
  go_wp2_with fail
  refine (ke.out _ hB).mono ?_
  rintro e w1 ⟨rfl, hb1⟩
  have B1 := below_then hB hB.size hb1
  clear hB hK hb1 ke c0 c1 c2 c3 c4 c5 c6
  go_wp2
  go_ret
  exact ⟨rfl, B1⟩
end Go.Proofs.YtfjplmbknegidaaGreatDoor
end
