/-
  Texts of the proof, joined: each says at its head what it proves.
-/
import Derived.Test.YthpfknlgfkecpaaDoorJf10
import Derived.Test.YthpfknlgfkecpaaDoorJf16
section
/-
  Walks of the reference's Right and Encode. (Printed by gen_fwf.py.)
-/
set_option linter.unusedVariables false
set_option linter.unusedSimpArgs false
namespace Go.Proofs.YthpfknlgfkecpaaDoor
open Go.RowKit Go.Lib

namespace Sp
theorem encode_parts {F : Fl} (h : (encodeF F).2 = 0) : partsS F = 0 ∧ (encodeF F).1 = Go.strOfNums (bytesS F) := by
  unfold encodeF at h ⊢
  by_cases hp : partsS F = 0
  · rw [if_neg (by simp [hp])] at h ⊢
    by_cases hb : 65536 < (bytesS F).length
    · rw [if_pos hb] at h; cases h
    · rw [if_neg hb]; exact ⟨hp, rfl⟩
  · rw [if_pos hp] at h; exact absurd h hp
theorem encode_none {F : Fl} (h : ¬ (encodeF F).2 = 0) : (encodeF F).1 = ⟨#[]⟩ := by
  unfold encodeF at h ⊢
  by_cases hp : partsS F = 0
  · rw [if_neg (by simp [hp])] at h ⊢
    by_cases hb : 65536 < (bytesS F).length
    · rw [if_pos hb]
    · rw [if_neg hb] at h; exact absurd rfl h
  · rw [if_pos hp]
end Sp

set_option maxHeartbeats 4000000 in
set_option maxRecDepth 100000 in
theorem refFright_any (q : Sp.At) (F : FlP) (w : World) (hr : RdF w q F) (hF : FlOk F) (hlen : (Sp.bytesS F.fl).length ≤ 900000000) :
    Calls Tryd.prog 37 #[.agg (flC q F)] w fun e w' => e = .returned (.int .i64 (Sp.encodeF F.fl).2) ∧ Below w.heap.size w w' := by
  have hK := Lib.hid (blk_new w (.cells (flC q F) 53))
  have hB := (Below.refl w.heap.size w).alloc (Nat.le_refl _) (.cells (flC q F) 53)
  have KE : ∀ X : Array Value, X = flC q F → Hid (∀ W, Below w.heap.size w W → Calls Tryd.prog 62 #[.agg X] W fun e w' => e = .returned (.int .i64 (Sp.partsS F.fl)) ∧ Below W.heap.size W w') ∧ Hid (Sp.partsS F.fl = 0 → ∀ W, Below w.heap.size w W → Calls Tryd.prog 61 #[.agg X] W fun e w' => e = .returned (.string (Go.strOfNums (Sp.bytesS F.fl))) ∧ Below W.heap.size W w') := by
    rintro X rfl
    exact ⟨Lib.hid (fun W hb => refParts_any q F W (rdF_below hr hb) hF), Lib.hid (fun hp W hb => refFbytes_any q F W (rdF_below hr hb) hF hp hlen)⟩
  have HE := Lib.hid (show (Sp.encodeF F.fl).2 = _ by rw [Sp.encodeF])
  have HZ := Lib.hid (show (Go.strOfNums (Sp.bytesS F.fl)).size = (Sp.bytesS F.fl).length from Go.strOfNums_size _)
  generalize (Sp.encodeF F.fl).2 = R at HE ⊢
  generalize Sp.partsS F.fl = P at *
  generalize Go.strOfNums (Sp.bytesS F.fl) = BS at *
  generalize (Sp.bytesS F.fl).length = LL at *
  clear hr hF
  obtain ⟨pool, fl, th, su, ifs, flds, mths⟩ := F
  obtain ⟨qA, qc, qI, qd, qX, qe, qY, qg⟩ := q
  obtain ⟨kp, kb⟩ := KE #[.slice qA pool.length qc, .int .i64 fl, .int .i64 th, .int .i64 su, .slice qI ifs.length qd, .slice qX flds.length qe, .slice qY mths.length qg] rfl
  clear KE
  have hfl : flC ⟨qA, qc, qI, qd, qX, qe, qY, qg⟩ ⟨pool, fl, th, su, ifs, flds, mths⟩ = #[.slice qA pool.length qc, .int .i64 fl, .int .i64 th, .int .i64 su, .slice qI ifs.length qd, .slice qX flds.length qe, .slice qY mths.length qg] := rfl
  rw [hfl] at hK hB ⊢
  clear hfl
  (try simp only [] at kp kb)
  obtain ⟨c0, c1, c2, c3, c4, c5, c6⟩ := flC_box (q := ⟨qA, qc, qI, qd, qX, qe, qY, qg⟩) (F := ⟨pool, fl, th, su, ifs, flds, mths⟩) hK.out
  simp only [] at c0 c1 c2 c3 c4 c5 c6
  go_enter Tryd.func37, Tryd.ntmps37
  go_wp2_with fail
  refine (kp.out _ hB).mono ?_
  rintro e w1 ⟨rfl, hb1⟩
  have B1 := below_then hB hB.size hb1
  have K1 := Lib.hid (blk_below hK.out hb1)
  have z1 := B1.size
  clear hB hK hb1 kp c0 c1 c2 c3 c4 c5 c6
  by_cases hp : P = 0
  rotate_left
  · have hpb : (P != 0) = true := by simp [hp]
    have hR : R = P := by rw [HE.out, if_pos hp]
    subst hR
    clear HE
    go_wp2
    go_ret
    exact ⟨rfl, B1⟩
  subst hp
  obtain ⟨c0, c1, c2, c3, c4, c5, c6⟩ := flC_box (q := ⟨qA, qc, qI, qd, qX, qe, qY, qg⟩) (F := ⟨pool, fl, th, su, ifs, flds, mths⟩) K1.out
  simp only [] at c0 c1 c2 c3 c4 c5 c6
  go_wp2_with fail
  refine (kb.out (by simp) _ B1).mono ?_
  rintro e w2 ⟨rfl, hb2⟩
  have B2 := below_then B1 z1 hb2
  have hz := HZ.out
  clear B1 K1 z1 hb2 kb HZ c0 c1 c2 c3 c4 c5 c6
  by_cases hq : 65536 < LL
  · have hR : R = 2 := by rw [HE.out, if_neg (by simp), if_pos hq]
    have hzb : decide ((65536 : Int) < (BS.size : Int)) = true := decide_eq_true (by omega)
    subst hR
    clear HE
    go_wp2
    go_ret
    exact ⟨rfl, B2⟩
  · have hR : R = 0 := by rw [HE.out, if_neg (by simp), if_neg hq]
    have hzb : decide ((65536 : Int) < (BS.size : Int)) = false := decide_eq_false (by omega)
    subst hR
    clear HE
    go_wp2
    go_ret
    exact ⟨rfl, B2⟩

set_option maxHeartbeats 4000000 in
set_option maxRecDepth 100000 in
theorem refFenc_any (q : Sp.At) (F : FlP) (w : World) (hr : RdF w q F) (hF : FlOk F) (hlen : (Sp.bytesS F.fl).length ≤ 900000000) :
    Calls Tryd.prog 35 #[.agg (flC q F)] w fun e w' => e = .returned (.tuple #[.string (Sp.encodeF F.fl).1, .int .i64 (Sp.encodeF F.fl).2]) ∧ Below w.heap.size w w' := by
  have hK := Lib.hid (blk_new w (.cells (flC q F) 53))
  have hB := (Below.refl w.heap.size w).alloc (Nat.le_refl _) (.cells (flC q F) 53)
  have KE : ∀ X : Array Value, X = flC q F → Hid (∀ W, Below w.heap.size w W → Calls Tryd.prog 37 #[.agg X] W fun e w' => e = .returned (.int .i64 (Sp.encodeF F.fl).2) ∧ Below W.heap.size W w') ∧ Hid (Sp.partsS F.fl = 0 → ∀ W, Below w.heap.size w W → Calls Tryd.prog 61 #[.agg X] W fun e w' => e = .returned (.string (Go.strOfNums (Sp.bytesS F.fl))) ∧ Below W.heap.size W w') := by
    rintro X rfl
    exact ⟨Lib.hid (fun W hb => refFright_any q F W (rdF_below hr hb) hF hlen), Lib.hid (fun hp W hb => refFbytes_any q F W (rdF_below hr hb) hF hp hlen)⟩
  have HE := Lib.hid (fun h => Sp.encode_parts (F := F.fl) h)
  have HN := Lib.hid (fun h => Sp.encode_none (F := F.fl) h)
  generalize Sp.encodeF F.fl = R at *
  generalize Sp.partsS F.fl = P at *
  generalize Go.strOfNums (Sp.bytesS F.fl) = BS at *
  obtain ⟨rb, re⟩ := R
  clear hr hF hlen
  obtain ⟨pool, fl, th, su, ifs, flds, mths⟩ := F
  obtain ⟨qA, qc, qI, qd, qX, qe, qY, qg⟩ := q
  obtain ⟨kp, kb⟩ := KE #[.slice qA pool.length qc, .int .i64 fl, .int .i64 th, .int .i64 su, .slice qI ifs.length qd, .slice qX flds.length qe, .slice qY mths.length qg] rfl
  clear KE
  have hfl : flC ⟨qA, qc, qI, qd, qX, qe, qY, qg⟩ ⟨pool, fl, th, su, ifs, flds, mths⟩ = #[.slice qA pool.length qc, .int .i64 fl, .int .i64 th, .int .i64 su, .slice qI ifs.length qd, .slice qX flds.length qe, .slice qY mths.length qg] := rfl
  rw [hfl] at hK hB ⊢
  clear hfl
  (try simp only [] at kp kb)
  obtain ⟨c0, c1, c2, c3, c4, c5, c6⟩ := flC_box (q := ⟨qA, qc, qI, qd, qX, qe, qY, qg⟩) (F := ⟨pool, fl, th, su, ifs, flds, mths⟩) hK.out
  simp only [] at c0 c1 c2 c3 c4 c5 c6
  go_enter Tryd.func35, Tryd.ntmps35
  go_wp2_with fail
  refine (kp.out _ hB).mono ?_
  rintro e w1 ⟨rfl, hb1⟩
  have B1 := below_then hB hB.size hb1
  have K1 := Lib.hid (blk_below hK.out hb1)
  have z1 := B1.size
  clear hB hK hb1 kp c0 c1 c2 c3 c4 c5 c6
  by_cases hp : re = 0
  rotate_left
  · have hpb : (re != 0) = true := by simp [hp]
    have hR : rb = ⟨#[]⟩ := HN.out hp
    subst hR
    clear HE HN
    go_wp2
    (first | go_ret2 | go_ret)
    exact ⟨rfl, B1⟩
  subst hp
  obtain ⟨h0, h1⟩ := HE.out rfl
  have hR : rb = BS := h1
  subst hR
  obtain ⟨c0, c1, c2, c3, c4, c5, c6⟩ := flC_box (q := ⟨qA, qc, qI, qd, qX, qe, qY, qg⟩) (F := ⟨pool, fl, th, su, ifs, flds, mths⟩) K1.out
  simp only [] at c0 c1 c2 c3 c4 c5 c6
  clear HE HN
  go_wp2_with fail
  refine (kb.out h0 _ B1).mono ?_
  rintro e w2 ⟨rfl, hb2⟩
  have B2 := below_then B1 z1 hb2
  clear B1 K1 z1 hb2 kb c0 c1 c2 c3 c4 c5 c6
  go_wp2
  (first | go_ret2 | go_ret)
  exact ⟨rfl, B2⟩
end Go.Proofs.YthpfknlgfkecpaaDoor
end
