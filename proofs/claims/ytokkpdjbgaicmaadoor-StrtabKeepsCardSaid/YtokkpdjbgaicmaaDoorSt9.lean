/-
  Walk of chapter 16's shown.
-/
import Derived.Test.YtokkpdjbgaicmaaDoorSt8
set_option linter.unusedVariables false
set_option linter.unusedSimpArgs false
namespace Go.Proofs.YtokkpdjbgaicmaaDoor
open Go.RowKit Go.Lib Go.Maps

namespace Sp
def sA : ByteArray := ⟨#[97]⟩
def sE : ByteArray := ⟨#[195, 169]⟩
def sB : ByteArray := ⟨#[98]⟩
theorem v_A : validD sA.data.toList = true := by decide +kernel
theorem v_E : validD sE.data.toList = true := by decide +kernel
theorem v_B : validD sB.data.toList = true := by decide +kernel
theorem n_A : (runes sA).length = 1 := by decide +kernel
theorem n_E : (runes sE).length = 1 := by decide +kernel
theorem ne_AE : ¬ sA = sE := by decide +kernel
theorem ne_EA : ¬ sE = sA := by decide +kernel
theorem ne_AB : ¬ sA = sB := by decide +kernel
theorem ne_EB : ¬ sE = sB := by decide +kernel
theorem en1 : enterS [] sA 5 = 0 := by simp [enterS, v_A, atT, lenA]
theorem en2 : enterS [(sA, 5)] sE 9 = 0 := by simp [enterS, v_E, atT, lenA, ne_AE]
theorem en3 : enterS [(sA, 5), (sE, 9)] sA 7 = 15 := by simp [enterS, v_A, atT, lenA]
theorem en4 : enterS [(sA, 5), (sE, 9)] sB 5 = 15 := by simp [enterS, v_B, atT, lenA]
theorem en5 : enterS [(sE, 9)] sA 5 = 0 := by simp [enterS, v_A, atT, lenA, ne_EA]
theorem nx1 : nextE [] sA 5 = [(sA, 5)] := by simp [nextE, en1]
theorem nx2 : nextE [(sA, 5)] sE 9 = [(sA, 5), (sE, 9)] := by simp [nextE, en2]
theorem nx3 : nextE [(sA, 5), (sE, 9)] sA 7 = [(sA, 5), (sE, 9)] := by simp [nextE, en3]
theorem nx4 : nextE [(sA, 5), (sE, 9)] sB 5 = [(sA, 5), (sE, 9)] := by simp [nextE, en4]
theorem nx5 : nextE [(sE, 9)] sA 5 = [(sE, 9), (sA, 5)] := by simp [nextE, en5]
theorem fd1 : atT [(sA, 5), (sE, 9)] sE = some 9 := by simp [atT, ne_AE]
theorem rn1 : runesN [(sA, 5), (sE, 9)] = 2 := by simp [runesN, n_A, n_E]
theorem ot1 : outE fiveG [(sA, 5), (sE, 9)] 2 = [sA] := by simp [outE, fiveG]
theorem kp1 : keptE fiveG [(sA, 5), (sE, 9)] 2 = [(sE, 9)] := by simp [keptE, fiveG]
theorem fd2 : atT [(sE, 9)] sA = none := by simp [atT, ne_EA]
theorem ds1 : Dist [(sA, 5), (sE, 9)] := by simp [Dist, ne_AE]
theorem ds2 : Dist [(sE, 9), (sA, 5)] := by simp [Dist, ne_EA]
end Sp

theorem grow_low {w W W' : World} {S : Nat → Prop} (h1 : Below w.heap.size w W) (h2 : ∀ i, S i → w.heap.size ≤ i) (h3 : Keeps S W W') : Below w.heap.size w W' ∧ ∀ i, Grow S W W' i → w.heap.size ≤ i :=
  ⟨h1.trans (h3.below h1.size h2), fun i q => q.elim (h2 i) (fun r => Nat.le_trans h1.size r.1)⟩

set_option maxHeartbeats 16000000 in
set_option maxRecDepth 100000 in
theorem shown16_any (w : World) (hT : Tabs w) :
    Calls Tryd.prog 5 #[] w fun e w' => e = .returned (.bool true) ∧ Below w.heap.size w w' := by
  have T0 := Lib.hid hT
  clear hT
  go_enter Tryd.func5, Tryd.ntmps5
  go_wp2_with fail
  refine (new_any _).mono ?_
  rintro e w1 ⟨tb, ba, bo, rfl, hb1, t1⟩
  have HT1 := Lib.hid t1
  have B1 := Lib.hid hb1
  clear hb1 t1
  have D1 : Hid (∀ i, (fun k => w.heap.size ≤ k ∧ k < w1.heap.size) i → w.heap.size ≤ i) := Lib.hid (fun i q => q.1)
  generalize (fun k => w.heap.size ≤ k ∧ k < w1.heap.size) = S1 at *
  go_wp2_with fail
  refine (enter_any _ tb 0 [] ba bo none 0 Sp.sA 5 _ HT1.out (by decide) (by decide) (by decide) (T0.out.below B1.out)).mono ?_
  rw [Sp.en1, Sp.nx1]
  rintro e w2 ⟨A2, c2, rfl, k2, t2⟩
  obtain ⟨B2, D2⟩ := grow_low (w := w) B1.out D1.out k2
  have HT2 := Lib.hid t2
  have B2 := Lib.hid B2
  have D2 := Lib.hid D2
  clear HT1 B1 D1 k2 t2
  generalize Grow S1 w1 w2 = S2 at *
  go_wp2_with fail
  refine (enter_any _ tb 1 _ ba bo A2 c2 Sp.sE 9 _ HT2.out (by decide) (by decide) (by decide) (T0.out.below B2.out)).mono ?_
  rw [Sp.en2, Sp.nx2]
  rintro e w3 ⟨A3, c3, rfl, k3, t3⟩
  obtain ⟨B3, D3⟩ := grow_low (w := w) B2.out D2.out k3
  have HT3 := Lib.hid t3
  have B3 := Lib.hid B3
  have D3 := Lib.hid D3
  clear HT2 B2 D2 k3 t3
  generalize Grow S2 w2 w3 = S3 at *
  go_wp2_with fail
  refine (enter_any _ tb 2 _ ba bo A3 c3 Sp.sA 7 _ HT3.out (by decide) (by decide) (by decide) (T0.out.below B3.out)).mono ?_
  rw [Sp.en3, Sp.nx3]
  rintro e w4 ⟨A4, c4, rfl, k4, t4⟩
  obtain ⟨B4, D4⟩ := grow_low (w := w) B3.out D3.out k4
  have HT4 := Lib.hid t4
  have B4 := Lib.hid B4
  have D4 := Lib.hid D4
  clear HT3 B3 D3 k4 t4
  generalize Grow S3 w3 w4 = S4 at *
  go_wp2_with fail
  refine (enter_any _ tb 3 _ ba bo A4 c4 Sp.sB 5 _ HT4.out (by decide) (by decide) (by decide) (T0.out.below B4.out)).mono ?_
  rw [Sp.en4, Sp.nx4]
  rintro e w5 ⟨A5, c5, rfl, k5, t5⟩
  obtain ⟨B5, D5⟩ := grow_low (w := w) B4.out D4.out k5
  have HT5 := Lib.hid t5
  have B5 := Lib.hid B5
  have D5 := Lib.hid D5
  clear HT4 B4 D4 k5 t5
  generalize Grow S4 w4 w5 = S5 at *
  go_wp2_with fail
  refine (find_any _ tb _ _ ba bo A5 c5 Sp.sE _ HT5.out (by decide)).mono ?_
  rw [Sp.fd1]
  rintro e w5 ⟨rfl, rfl⟩
  go_wp2_with fail
  refine (runesT_any _ tb _ _ ba bo A5 c5 _ HT5.out).mono ?_
  rw [Sp.rn1]
  rintro e w5 ⟨rfl, rfl⟩
  go_wp2_with fail
  refine (prune_any _ noS tb _ _ ba bo A5 c5 20 #[] fiveG (fun _ _ => True) _ HT5.out Sp.ds1 (by decide) (by simp) (five_gone _) trivial (fun _ q => q.elim)).mono ?_
  rw [show ([(Sp.sA, 5), (Sp.sE, 9)] : List Sp.En).length = 2 from rfl, Sp.ot1, Sp.kp1]
  rintro e w6 ⟨O, oc, A6, c6, rfl, ro, _, k6, t6, fr⟩
  have k6' : Keeps S5 w5 w6 := k6.mono (fun i q => q.elim id (fun r => r.elim))
  have B6 := (grow_low (w := w) (S := S5) B5.out D5.out k6').1
  have D6 : ∀ i, Plus S5 (.slice A6 ([(Sp.sE, 9)] : List Sp.En).length c6) i → w.heap.size ≤ i := fun i q => q.elim (D5.out i) (fun r => by have := fr.two i r; have := B5.out.size; omega)
  have NO := Lib.hid (fun k hk => (fr.one k hk).2)
  have HT6 := Lib.hid t6
  have B6 := Lib.hid B6
  have D6 := Lib.hid D6
  have RO := Lib.hid ro
  clear HT5 B5 D5 k6 k6' t6 ro fr
  generalize Plus S5 (.slice A6 ([(Sp.sE, 9)] : List Sp.En).length c6) = S6 at *
  go_wp2_with fail
  refine (find_any _ tb _ _ ba bo A6 c6 Sp.sA _ HT6.out (by decide)).mono ?_
  rw [Sp.fd2]
  rintro e w6 ⟨rfl, rfl⟩
  go_wp2_with fail
  refine (enter_any _ tb 4 _ ba bo A6 c6 Sp.sA 5 _ HT6.out (by decide) (by decide) (by decide) (T0.out.below B6.out)).mono ?_
  rw [Sp.en5, Sp.nx5]
  rintro e w7 ⟨A7, c7, rfl, k7, t7⟩
  obtain ⟨B7, D7⟩ := grow_low (w := w) B6.out D6.out k7
  have HT7 := Lib.hid t7
  have B7 := Lib.hid B7
  have D7 := Lib.hid D7
  clear HT6 B6 D6 t7
  go_wp2_with fail
  refine (all_any _ tb _ _ ba bo A7 c7 _ HT7.out Sp.ds2 (by decide)).mono ?_
  rintro e w8 ⟨L, lc, rfl, rl, hb8⟩
  obtain ⟨b, o, rfl, hr⟩ := rl.2 (by decide)
  have d0 := rdL_get 2 Sp.enC_len hr (j := 0) (by decide) 0 (by decide) rfl
  have d1 := rdL_get 2 Sp.enC_len hr (j := 1) (by decide) 1 (by decide) rfl
  obtain ⟨b2, o2, rfl, hr2⟩ := RO.out.2 (by decide)
  have f0 := rdL_get 1 strC_len hr2 (j := 0) (by decide) 0 (by decide) rfl
  have f0' := hb8.cell (World.block_lt_of_cell? _ _ (k7.cell f0 ?q)) |>.trans (k7.cell f0 ?q)
  case q => exact NO.out b2 rfl
  have B8 := Lib.hid (below_then B7.out B7.out.size hb8)
  simp only [Nat.zero_mul, Nat.add_zero, Nat.one_mul, List.getElem_cons_zero, List.getElem_cons_succ, List.length_cons, List.length_nil] at d0 d1 f0'
  have e0 : Sp.sA = ⟨#[97]⟩ := rfl
  have e1 : Sp.sE = ⟨#[195, 169]⟩ := rfl
  rw [e0] at f0'
  rw [e1] at d0
  clear hr hr2 rl hb8 k7 f0 e0 e1 RO
  go_wp2_with fail
  go_ret
  exact ⟨rfl, B8.out⟩
end Go.Proofs.YtokkpdjbgaicmaaDoor
