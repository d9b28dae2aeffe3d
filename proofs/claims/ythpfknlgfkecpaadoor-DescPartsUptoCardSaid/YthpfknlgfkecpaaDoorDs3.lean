/-
  Walks of chapter 2's Write and the reference's.
-/
import Derived.Test.YthpfknlgfkecpaaDoorDs2
import Derived.Deep.RegionWith
set_option linter.unusedVariables false
set_option linter.unusedSimpArgs false
namespace Go.Proofs.YthpfknlgfkecpaaDoor
open Go.RowKit Go.Lib

namespace Sp
theorem rep_one (k : Nat) : (⟨(Lib.repeatL (⟨#[91]⟩ : ByteArray).data.toList k).toArray⟩ : ByteArray) = B (List.replicate k 91) := by
  have : Lib.repeatL (⟨#[91]⟩ : ByteArray).data.toList k = List.replicate k 91 := by
    have := Lib.repeatL_replicate 91 1 k
    simpa using this
  rw [this]; rfl
theorem rep_size (k : Nat) : (B (List.replicate k 91)).size = k := by rw [B_size]; simp
theorem nameB_some (k : Nat) (n : ByteArray) (h : ¬ n.size = 0) : (B (List.replicate k 91) ++ ⟨#[76]⟩) ++ n ++ ⟨#[59]⟩ = B (List.replicate k 91 ++ nameB n) := by
  have e1 : (⟨#[76]⟩ : ByteArray) = B [76] := rfl
  have e2 : (⟨#[59]⟩ : ByteArray) = B [59] := rfl
  have e3 : n = B n.data.toList := rfl
  rw [nameB, if_neg h]
  conv => lhs; rw [e1, e2, e3]
  rw [B_append, B_append, B_append]
  simp
theorem nameB_none (k : Nat) (n : ByteArray) (h : n.size = 0) : B (List.replicate k 91) ++ ⟨#[73]⟩ = B (List.replicate k 91 ++ nameB n) := by
  have e1 : (⟨#[73]⟩ : ByteArray) = B [73] := rfl
  rw [nameB, if_pos h, e1, B_append]
end Sp

set_option maxHeartbeats 8000000 in
set_option maxRecDepth 100000 in
theorem write_any (d : Int) (n : ByteArray) (w : World) (hs : n.size ≤ 1099511627776) (hT : Tabs w) :
    Calls Tryd.prog 17 #[Sp.tyV (d, n)] w fun e w' => e = .returned (.tuple #[.string (Sp.writeS (d, n)).1, .int .i64 (Sp.writeS (d, n)).2]) ∧ Below w.heap.size w w' := by
  have h1 := Lib.hid (fun W hT => right_any d n W hs hT)
  have T0 := Lib.hid hT
  clear hT
  have HE := Lib.hid (show Sp.writeS (d, n) = _ by rw [Sp.writeS])
  have hrg : Sp.rightS (d, n) = true → 0 ≤ d ∧ d ≤ 4 := by
    intro q
    simp [Sp.rightS] at q
    exact q.1
  simp only [] at HE
  generalize Sp.writeS (d, n) = R at HE ⊢
  generalize Sp.rightS (d, n) = v at h1 HE hrg
  unfold Sp.tyV at h1 ⊢
  simp only [] at h1 ⊢
  go_enter Tryd.func17, Tryd.ntmps17
  go_wp2_with fail
  refine (h1.out _ (T0.out.below ((Below.refl _ _).alloc (Nat.le_refl _) _))).mono ?_
  rintro e w1 ⟨rfl, hb⟩
  obtain ⟨c0, f0⟩ := kept_cell hb ⟨w.heap.size, 0, none⟩ (.int .i64 d) (by simp)
  obtain ⟨c1, f1⟩ := kept_cell hb ⟨w.heap.size, 1, none⟩ (.string n) (by simp)
  have hb' := below_then ((Below.refl w.heap.size w).alloc (Nat.le_refl _) _) (by simp) hb
  have S1 := hb'.size
  cases v with
  | false =>
    have hR : R = (⟨#[]⟩, 9) := by rw [HE.out]; simp
    subst hR
    clear HE
    go_wp2
    go_ret2
    exact ⟨rfl, hb'⟩
  | true =>
    have hrg := hrg rfl
    obtain ⟨k, rfl⟩ : ∃ k : Nat, d = k := ⟨d.toNat, by omega⟩
    have hrep := Lib.hid (fun W => Tryd.strings_Repeat ⟨#[91]⟩ k W (by omega) (by show 1 * k ≤ _; omega))
    rw [Sp.rep_one] at hrep
    have hrs := Sp.rep_size k
    have hR : R = (Sp.B (List.replicate k 91 ++ Sp.nameB n), 0) := by rw [HE.out]; simp
    clear HE
    by_cases q2 : n.size = 0
    · rw [← Sp.nameB_none k n q2] at hR
      obtain rfl := str_empty n q2
      subst hR
      go_wp2_with fail
      refine (hrep.out _).mono ?_
      rintro e w2 ⟨rfl, hb2⟩
      go_wp2
      go_ret2
      exact ⟨by simp, below_then hb' S1 hb2⟩
    · rw [← Sp.nameB_some k n q2] at hR
      have hne : (n.toList == []) = false := by
        rw [Bool.eq_false_iff]
        intro q
        have := (bytes_beq_iff n ⟨#[]⟩).1 (by simpa using q)
        rw [this] at q2
        exact q2 rfl
      subst hR
      go_wp2_with fail
      go_region_with (go_at_call 48; refine (hrep.out _).mono ?_; rintro e w2 ⟨rfl, hb2⟩; obtain ⟨c0', f0'⟩ := kept_cell hb2 ⟨w.heap.size, 0, none⟩ (.int .i64 k) ⟨c0, f0⟩; obtain ⟨c1', f1'⟩ := kept_cell hb2 ⟨w.heap.size, 1, none⟩ (.string n) ⟨c1, f1⟩)
      all_goals
        go_wp2
        go_ret2
        refine ⟨by simp, ?_⟩
        first | exact below_then hb' S1 hb2 | exact below_then hb'.drew S1 hb2

set_option maxHeartbeats 8000000 in
set_option maxRecDepth 100000 in
theorem refWrite_any (d : Int) (n : ByteArray) (w : World) (hs : n.size ≤ 1099511627776) :
    Calls Tryd.prog 20 #[Sp.tyV (d, n)] w fun e w' => e = .returned (.tuple #[.string (Sp.writeS (d, n)).1, .int .i64 (Sp.writeS (d, n)).2]) ∧ Below w.heap.size w w' := by
  have h1 := Lib.hid (fun W => refRight_any d n W hs)
  have HE := Lib.hid (show Sp.writeS (d, n) = _ by rw [Sp.writeS])
  have hrg : Sp.rightS (d, n) = true → 0 ≤ d ∧ d ≤ 4 := by
    intro q
    simp [Sp.rightS] at q
    exact q.1
  simp only [] at HE
  generalize Sp.writeS (d, n) = R at HE ⊢
  generalize Sp.rightS (d, n) = v at h1 HE hrg
  unfold Sp.tyV at h1 ⊢
  simp only [] at h1 ⊢
  go_enter Tryd.func20, Tryd.ntmps20
  go_wp2_with fail
  refine (h1.out _).mono ?_
  rintro e w1 ⟨rfl, hb⟩
  obtain ⟨c0, f0⟩ := kept_cell hb ⟨w.heap.size, 0, none⟩ (.int .i64 d) (by simp)
  obtain ⟨c1, f1⟩ := kept_cell hb ⟨w.heap.size, 1, none⟩ (.string n) (by simp)
  have hb' := below_then ((Below.refl w.heap.size w).alloc (Nat.le_refl _) _) (by simp) hb
  have S1 := hb'.size
  cases v with
  | false =>
    have hR : R = (⟨#[]⟩, 9) := by rw [HE.out]; simp
    subst hR
    clear HE
    go_wp2
    go_ret2
    exact ⟨rfl, hb'⟩
  | true =>
    have hrg := hrg rfl
    obtain ⟨k, rfl⟩ : ∃ k : Nat, d = k := ⟨d.toNat, by omega⟩
    have hrs := Sp.rep_size k
    have hR : R = (Sp.B (List.replicate k 91 ++ Sp.nameB n), 0) := by rw [HE.out]; simp
    clear HE
    go_wp2
    go_loop [5, 6] (fun v5 v6 => ∃ j : Nat, j ≤ k ∧ v6 = .int .i64 j ∧ v5 = .string (Sp.B (List.replicate j 91))) (fun _ v6 => k - (RowKit.intOf v6).toNat)
    case atStart => exact ⟨0, Nat.zero_le _, rfl, rfl⟩
    case round =>
      obtain ⟨j, hj, rfl, rfl⟩ := hrel
      by_cases hlt : j < k
      · have hz : (j : Int) < (k : Int) := by omega
        have e1 : Sp.B (List.replicate j 91) ++ ⟨#[91]⟩ = Sp.B (List.replicate (j + 1) 91) := by
          rw [show (⟨#[91]⟩ : ByteArray) = Sp.B [91] from rfl, Sp.B_append, List.replicate_succ']
        have hjs := Sp.rep_size j
        go_wp2
        go_round
        case rel => exact ⟨j + 1, by omega, by go_num, by first | rw [← e1] | rw [e1]⟩
        case measure => simp [RowKit.intOf]; omega
      · have hz : ¬ (j : Int) < (k : Int) := by omega
        obtain rfl : j = k := by omega
        by_cases q2 : n.size = 0
        · rw [← Sp.nameB_none j n q2] at hR
          obtain rfl := str_empty n q2
          go_wp2
          go_ret2
          exact ⟨by simp [hR], hb'⟩
        · rw [← Sp.nameB_some j n q2] at hR
          have hne : (n.toList == []) = false := by
            rw [Bool.eq_false_iff]
            intro q
            have := (bytes_beq_iff n ⟨#[]⟩).1 (by simpa using q)
            rw [this] at q2
            exact q2 rfl
          go_wp2
          go_ret2
          exact ⟨by simp [hR], hb'⟩
end Go.Proofs.YthpfknlgfkecpaaDoor
