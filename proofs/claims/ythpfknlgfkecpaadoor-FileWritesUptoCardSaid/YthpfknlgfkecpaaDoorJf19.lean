/-
  Texts of the proof, joined: each says at its head what it proves.
-/
import Derived.Test.YthpfknlgfkecpaaDoorJf5
import Derived.Test.YthpfknlgfkecpaaDoorJf17
import Derived.Test.YthpfknlgfkecpaaDoorJFileNamesx3
import Derived.Test.YthpfknlgfkecpaaDoorJf18
import Derived.Deep.RegionHeld3
import Derived.Deep.RegionWith
section
/-
  Walk of FileWrites. (Printed by gen_fwf.py.)
-/
set_option linter.unusedVariables false
set_option linter.unusedSimpArgs false
namespace Go.Proofs.YthpfknlgfkecpaaDoor
open Go.RowKit Go.Lib


set_option maxHeartbeats 8000000 in
set_option maxRecDepth 100000 in
theorem fileWrites_any (q : Sp.At) (F : FlP) (w : World) (hr : RdF w q F) (hF : FlOk F) (hT : Tabs w) (hN : Sp.textN F.pool + Sp.codeN (F.methods.map (·.1)) + Sp.codeN (F.fields.map (·.1)) ≤ 4611686018427387904) :
    Calls Tryd.prog 9 #[.agg (flC q F)] w fun e w' => e = .returned (.bool true) ∧ Below w.heap.size w w' := by
  have hK := Lib.hid (blk_new w (.cells (flC q F) 53))
  have hB := (Below.refl w.heap.size w).alloc (Nat.le_refl _) (.cells (flC q F) 53)
  have KS : ∀ X : Array Value, X = flC q F →
      Hid (∀ W, Below w.heap.size w W → Calls Tryd.prog 33 #[.agg X] W fun e w' => e = .returned (.bool (Sp.smallS F.fl)) ∧ Below W.heap.size W w') ∧
      Hid (Sp.smallS F.fl = true → ∀ W, Below w.heap.size w W → Calls Tryd.prog 36 #[.agg X] W fun e w' => e = .returned (.int .i64 (Sp.encodeF F.fl).2) ∧ Below W.heap.size W w') ∧
      Hid (Sp.smallS F.fl = true → ∀ W, Below w.heap.size w W → Calls Tryd.prog 37 #[.agg X] W fun e w' => e = .returned (.int .i64 (Sp.encodeF F.fl).2) ∧ Below W.heap.size W w') ∧
      Hid (Sp.smallS F.fl = true → ∀ W, Below w.heap.size w W → Calls Tryd.prog 34 #[.agg X] W fun e w' => e = .returned (.tuple #[.string (Sp.encodeF F.fl).1, .int .i64 (Sp.encodeF F.fl).2]) ∧ Below W.heap.size W w') ∧
      Hid (Sp.smallS F.fl = true → ∀ W, Below w.heap.size w W → Calls Tryd.prog 35 #[.agg X] W fun e w' => e = .returned (.tuple #[.string (Sp.encodeF F.fl).1, .int .i64 (Sp.encodeF F.fl).2]) ∧ Below W.heap.size W w') := by
    rintro X rfl
    exact ⟨Lib.hid (fun W hb => small_any q F W (rdF_below hr hb) hN), Lib.hid (fun hs W hb => fileRight_any q F W (rdF_below hr hb) hF (hT.below hb) (Sp.small_bytes hs)), Lib.hid (fun hs W hb => refFright_any q F W (rdF_below hr hb) hF (Sp.small_bytes hs)), Lib.hid (fun hs W hb => fileEnc_any q F W (rdF_below hr hb) hF (hT.below hb) (Sp.small_bytes hs)), Lib.hid (fun hs W hb => refFenc_any q F W (rdF_below hr hb) hF (Sp.small_bytes hs))⟩
  have hsh := Lib.hid (fun W (hb : Below w.heap.size w W) => fileShown_any W (hT.below hb))
  clear hr hF hT hN
  obtain ⟨pool, fl, th, su, ifs, flds, mths⟩ := F
  obtain ⟨qA, qc, qI, qd, qX, qe, qY, qg⟩ := q
  obtain ⟨ks, kr, kq, ke, kf⟩ := KS #[.slice qA pool.length qc, .int .i64 fl, .int .i64 th, .int .i64 su, .slice qI ifs.length qd, .slice qX flds.length qe, .slice qY mths.length qg] rfl
  clear KS
  have hfl : flC ⟨qA, qc, qI, qd, qX, qe, qY, qg⟩ ⟨pool, fl, th, su, ifs, flds, mths⟩ = #[.slice qA pool.length qc, .int .i64 fl, .int .i64 th, .int .i64 su, .slice qI ifs.length qd, .slice qX flds.length qe, .slice qY mths.length qg] := rfl
  rw [hfl] at hK hB ⊢
  clear hfl
  unfold FlP.fl at ks kr kq ke kf
  simp only [] at ks kr kq ke kf
  generalize Sp.smallS ⟨pool, fl, th, su, ifs, flds.map (·.1), mths.map (·.1)⟩ = sm at *
  generalize Sp.encodeF ⟨pool, fl, th, su, ifs, flds.map (·.1), mths.map (·.1)⟩ = EF at *
  obtain ⟨eb, er⟩ := EF
  simp only [] at kr kq ke kf
  go_enter Tryd.func9, Tryd.ntmps9
  go_wp2_with fail
  refine (hsh.out _ hB).mono ?_
  rintro e w1 ⟨rfl, hb1⟩
  have B1 := below_then hB hB.size hb1
  have K1 := Lib.hid (blk_below hK.out hb1)
  have z1 := B1.size
  clear hB hK hb1 hsh
  obtain ⟨c0, c1, c2, c3, c4, c5, c6⟩ := flC_box (q := ⟨qA, qc, qI, qd, qX, qe, qY, qg⟩) (F := ⟨pool, fl, th, su, ifs, flds, mths⟩) K1.out
  simp only [] at c0 c1 c2 c3 c4 c5 c6
  go_wp2_with fail
  refine (ks.out _ B1).mono ?_
  rintro e w2 ⟨rfl, hb2⟩
  have B2 := below_then B1 z1 hb2
  have K2 := Lib.hid (blk_below K1.out hb2)
  have z2 := B2.size
  clear B1 K1 z1 hb2 ks c0 c1 c2 c3 c4 c5 c6
  cases sm with
  | false =>
    go_wp2
    go_ret
    exact ⟨rfl, B2⟩
  | true =>
    obtain ⟨c0, c1, c2, c3, c4, c5, c6⟩ := flC_box (q := ⟨qA, qc, qI, qd, qX, qe, qY, qg⟩) (F := ⟨pool, fl, th, su, ifs, flds, mths⟩) K2.out
    simp only [] at c0 c1 c2 c3 c4 c5 c6
    go_wp2_with fail
    refine (ke.out (by simp) _ B2).mono ?_
    rintro e w3 ⟨rfl, hb3⟩
    have B3 := below_then B2 z2 hb3
    have K3 := Lib.hid (blk_below K2.out hb3)
    have z3 := B3.size
    clear B2 K2 z2 hb3 c0 c1 c2 c3 c4 c5 c6
    clear ke
    obtain ⟨c0, c1, c2, c3, c4, c5, c6⟩ := flC_box (q := ⟨qA, qc, qI, qd, qX, qe, qY, qg⟩) (F := ⟨pool, fl, th, su, ifs, flds, mths⟩) K3.out
    simp only [] at c0 c1 c2 c3 c4 c5 c6
    go_wp2_with fail
    refine (kf.out (by simp) _ B3).mono ?_
    rintro e w4 ⟨rfl, hb4⟩
    have B4 := below_then B3 z3 hb4
    have K4 := Lib.hid (blk_below K3.out hb4)
    have z4 := B4.size
    clear B3 K3 z3 hb4 c0 c1 c2 c3 c4 c5 c6
    clear kf
    obtain ⟨c0, c1, c2, c3, c4, c5, c6⟩ := flC_box (q := ⟨qA, qc, qI, qd, qX, qe, qY, qg⟩) (F := ⟨pool, fl, th, su, ifs, flds, mths⟩) K4.out
    simp only [] at c0 c1 c2 c3 c4 c5 c6
    have hmk := Lib.hid (show ∀ w', Below w4.heap.size w4 w' → (w'.cell? ⟨w.heap.size, 0, none⟩ = some (.slice qA pool.length qc) ∧ w'.cell? ⟨w.heap.size, 1, none⟩ = some (.int .i64 fl) ∧ w'.cell? ⟨w.heap.size, 2, none⟩ = some (.int .i64 th) ∧ w'.cell? ⟨w.heap.size, 3, none⟩ = some (.int .i64 su) ∧ w'.cell? ⟨w.heap.size, 4, none⟩ = some (.slice qI ifs.length qd) ∧ w'.cell? ⟨w.heap.size, 5, none⟩ = some (.slice qX flds.length qe) ∧ w'.cell? ⟨w.heap.size, 6, none⟩ = some (.slice qY mths.length qg)) from fun w' h => ⟨cell_below h c0, cell_below h c1, cell_below h c2, cell_below h c3, cell_below h c4, cell_below h c5, cell_below h c6⟩)
    have hBd := Lib.hid (Below.refl w4.heap.size w4).drew
    have j0 := Lib.hid (fun W (h : Below w4.heap.size w4 W) => (kr.out (by simp) W (below_then B4 z4 h)).mono (fun e W' q => And.intro q.1 (below_then h h.size q.2)))
    have j1 := Lib.hid (fun W (h : Below w4.heap.size w4 W) => (kq.out (by simp) W (below_then B4 z4 h)).mono (fun e W' q => And.intro q.1 (below_then h h.size q.2)))
    go_wp2_with fail
    go_region_held3 (fun w' => w'.cell? ⟨w.heap.size, 0, none⟩ = some (.slice qA pool.length qc) ∧ w'.cell? ⟨w.heap.size, 1, none⟩ = some (.int .i64 fl) ∧ w'.cell? ⟨w.heap.size, 2, none⟩ = some (.int .i64 th) ∧ w'.cell? ⟨w.heap.size, 3, none⟩ = some (.int .i64 su) ∧ w'.cell? ⟨w.heap.size, 4, none⟩ = some (.slice qI ifs.length qd) ∧ w'.cell? ⟨w.heap.size, 5, none⟩ = some (.slice qX flds.length qe) ∧ w'.cell? ⟨w.heap.size, 6, none⟩ = some (.slice qY mths.length qg)) (first | exact hmk.out _ hBd.out | exact hmk.out _ (by with_reducible assumption)) (first | (go_at_call 36; (first | with_reducible refine (j0.out _ hBd.out).mono ?_ | with_reducible refine (j0.out _ (by with_reducible assumption)).mono ?_); rintro e wz ⟨rfl, hz⟩) | (go_at_call 37; (first | with_reducible refine (j1.out _ hBd.out).mono ?_ | with_reducible refine (j1.out _ (by with_reducible assumption)).mono ?_); rintro e wz ⟨rfl, hz⟩))
    clear hmk hBd
    go_wp2
    go_ret
    exact ⟨by first | rfl | simp, below_then B4 z4 hz⟩
theorem walkFileWrites (q : Sp.At) (F : FlP) (w : World) (h : FlIn w q F) (hT : Tabs w) (hb : F.bulk ≤ 1048576) :
    Calls Tryd.prog 9 #[.agg (flC q F)] w fun e w' => e = .returned (.bool true) ∧ Below w.heap.size w w' :=
  fileWrites_any q F w h.rd (h.ok hb) hT (FlP.sizes hb)
end Go.Proofs.YthpfknlgfkecpaaDoor
end
