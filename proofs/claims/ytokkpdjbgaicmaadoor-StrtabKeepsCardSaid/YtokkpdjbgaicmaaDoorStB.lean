/-
  Walks of the reference's own decoder: crucibleref1.next, Runes and Name.
-/
import Derived.Test.YtokkpdjbgaicmaaDoorStA
set_option linter.unusedVariables false
set_option linter.unusedSimpArgs false
namespace Go.Proofs.YtokkpdjbgaicmaaDoor
open Go.RowKit Go.Lib

namespace Sp
def contG (s : ByteArray) : Nat → Nat → Int → Option Int
  | 0, _, r => some r
  | f + 1, i, r => if 128 ≤ bt s i ∧ bt s i < 192 then contG s f (i + 1) (r * 64 + bt s i - 128) else none
def finN (n r : Int) : Int × Int := if n = 3 ∧ r < 2048 ∨ n = 4 ∧ (r < 65536 ∨ 1114111 < r) ∨ 55296 ≤ r ∧ r < 57344 then (0, 0) else (r, n)
def goN (s : ByteArray) (n : Nat) (r0 : Int) : Int × Int :=
  if s.size < n then (0, 0) else match contG s (n - 1) 1 r0 with | none => (0, 0) | some r => finN n r
/-- What the reference's next tells. -/
def refNext (s : ByteArray) : Int × Int :=
  if bt s 0 < 128 then (bt s 0, 1)
  else if 194 ≤ bt s 0 ∧ bt s 0 < 224 then goN s 2 (bt s 0 - 192)
  else if 224 ≤ bt s 0 ∧ bt s 0 < 240 then goN s 3 (bt s 0 - 224)
  else if 240 ≤ bt s 0 ∧ bt s 0 < 245 then goN s 4 (bt s 0 - 240)
  else (0, 0)
end Sp

theorem idx_str (s : ByteArray) (k : Nat) (hk : k < s.size) : ∀ W : World, (Instr.index 9 (.string s) (.int .i64 (k : Int))).run Tryd.prog W = .ok (.int .u8 (Sp.bt s k)) W := by
  intro W
  rw [run_index_string W 9 s .i64 _ Tryd.underlying9, dif_pos ⟨by omega, by omega⟩]
  simp only [Int.toNat_natCast, Sp.bt_in s k hk]
theorem idx_str0 (s : ByteArray) (hk : 0 < s.size) : ∀ W : World, (Instr.index 9 (.string s) (.int .i64 0)).run Tryd.prog W = .ok (.int .u8 (Sp.bt s 0)) W := idx_str s 0 hk

set_option maxHeartbeats 8000000 in
theorem refNext_any (s : ByteArray) (w : World) (h00 : 0 < s.size) (hs : s.size ≤ 140737488351232) :
    Calls Tryd.prog 24 #[.string s] w fun e w' => e = .returned (.tuple #[.int .i64 (Sp.refNext s).1, .int .i64 (Sp.refNext s).2]) ∧ w' = w := by
  have hb0 := Sp.bt_range s 0
  have hi0 := idx_str0 s h00
  have HE := Lib.hid (show Sp.refNext s = _ by rw [Sp.refNext])
  generalize Sp.refNext s = R at HE ⊢
  generalize hc : Sp.bt s 0 = c at *
  clear hc
  by_cases c1 : c < 128
  · have hR : Hid (R = (c, 1)) := Lib.hid (by rw [HE.out, if_pos c1])
    clear HE
    go_enter Tryd.func24, Tryd.ntmps24
    go_wp2
    go_ret2
    exact ⟨by rw [hR.out]; rfl, rfl⟩
  by_cases c2 : 194 ≤ c ∧ c < 224
  · have hR : Hid (R = Sp.goN s 2 (c - 192)) := Lib.hid (by rw [HE.out, if_neg c1, if_pos c2])
    clear HE
    obtain ⟨ca, cb⟩ := c2
    by_cases hn : s.size < 2
    · have hR2 : Hid (R = (0, 0)) := Lib.hid (by rw [hR.out, Sp.goN, if_pos hn])
      have hnz : (s.size : Int) < 2 := by omega
      clear hR
      go_enter Tryd.func24, Tryd.ntmps24
      go_wp2
      go_ret2
      exact ⟨by rw [hR2.out]; rfl, rfl⟩
    have hnz : ¬ (s.size : Int) < 2 := by omega
    have hR2 : Hid (R = match Sp.contG s 1 1 (c - 192) with | none => (0, 0) | some r => Sp.finN 2 r) := Lib.hid (by rw [hR.out, Sp.goN, if_neg hn]; rfl)
    clear hR
    go_enter Tryd.func24, Tryd.ntmps24
    go_wp2
    go_loop [6, 7] (fun v6 v7 => ∃ (k : Nat) (r : Int), v6 = .int .i64 r ∧ v7 = .int .i64 k ∧ 1 ≤ k ∧ k ≤ 2 ∧ 0 ≤ r ∧ r ≤ 100000000000 ∧ Hid (r < 32 * 64 ^ (k - 1)) ∧ Hid (Sp.contG s 1 1 (c - 192) = Sp.contG s (2 - k) k r)) (fun _ v7 => 2 - (RowKit.intOf v7).toNat)
    case atStart => exact ⟨1, c - 192, rfl, rfl, by omega, by omega, by omega, by omega, Lib.hid (by omega), Lib.hid rfl⟩
    case round =>
      obtain ⟨k, r, rfl, rfl, hk1, hk2, hr0, hr1, hrk, hcg⟩ := hrel
      by_cases hlt : k < 2
      · have hik := idx_str s k (by omega)
        have hbk := Sp.bt_range s k
        have hst := Lib.hid (show Sp.contG s 1 1 (c - 192) = if 128 ≤ Sp.bt s k ∧ Sp.bt s k < 192 then Sp.contG s (2 - (k + 1)) (k + 1) (r * 64 + Sp.bt s k - 128) else none by
          rw [hcg.out]
          obtain ⟨d, hd⟩ : ∃ d, 2 - k = d + 1 := ⟨2 - k - 1, by omega⟩
          rw [hd, show 2 - (k + 1) = d by omega, Sp.contG])
        clear hcg
        generalize hx : Sp.bt s k = x at *
        clear hx
        by_cases cx : 128 ≤ x ∧ x < 192
        · have hst2 := Lib.hid (show Sp.contG s 1 1 (c - 192) = Sp.contG s (2 - (k + 1)) (k + 1) (r * 64 + x - 128) by rw [hst.out, if_pos cx])
          obtain ⟨cxa, cxb⟩ := cx
          have hrk2 : r * 64 + x - 128 ≤ 100000000000 := by
            have := hrk.out
            have : k = 1 ∨ k = 2 ∨ k = 3 := by omega
            rcases this with rfl | rfl | rfl <;> omega
          have hrk3 := Lib.hid (show r * 64 + x - 128 < 32 * 64 ^ (k + 1 - 1) by
            have := hrk.out
            have : k = 1 ∨ k = 2 ∨ k = 3 := by omega
            rcases this with rfl | rfl | rfl <;> omega)
          clear hst
          go_wp2
          go_round
          case rel => exact ⟨k + 1, r * 64 + x - 128, by go_num, by go_num, by omega, by omega, by omega, by omega, hrk3, hst2⟩
          case measure => simp [RowKit.intOf]; omega
        · have hR3 : Hid (R = (0, 0)) := Lib.hid (by rw [hR2.out, hst.out, if_neg cx])
          clear hR2 hst
          by_cases cxa : x < 128
          · clear cx
            go_wp2
            go_ret2
            exact ⟨by rw [hR3.out]; rfl, rfl⟩
          · have cxb : 192 ≤ x := by omega
            clear cx
            go_wp2
            go_ret2
            exact ⟨by rw [hR3.out]; rfl, rfl⟩
      · obtain rfl : k = 2 := by omega
        have hR3 : Hid (R = Sp.finN 2 r) := Lib.hid (by rw [hR2.out, hcg.out]; rfl)
        clear hR2 hcg hlt hk1 hk2
        go_wp2
        all_goals go_ret2
        all_goals
          refine ⟨?_, rfl⟩
          rw [hR3.out]
          unfold Sp.finN
          repeat' split
          all_goals first | rfl | (exfalso; omega) | (exfalso; simp_all; done) | (exfalso; simp_all; omega)
  by_cases c3 : 224 ≤ c ∧ c < 240
  · have hR : Hid (R = Sp.goN s 3 (c - 224)) := Lib.hid (by rw [HE.out, if_neg c1, if_neg c2, if_pos c3])
    clear HE
    obtain ⟨ca, cb⟩ := c3
    by_cases hn : s.size < 3
    · have hR2 : Hid (R = (0, 0)) := Lib.hid (by rw [hR.out, Sp.goN, if_pos hn])
      have hnz : (s.size : Int) < 3 := by omega
      clear hR
      go_enter Tryd.func24, Tryd.ntmps24
      go_wp2
      go_ret2
      exact ⟨by rw [hR2.out]; rfl, rfl⟩
    have hnz : ¬ (s.size : Int) < 3 := by omega
    have hR2 : Hid (R = match Sp.contG s 2 1 (c - 224) with | none => (0, 0) | some r => Sp.finN 3 r) := Lib.hid (by rw [hR.out, Sp.goN, if_neg hn]; rfl)
    clear hR
    go_enter Tryd.func24, Tryd.ntmps24
    go_wp2
    go_loop [6, 7] (fun v6 v7 => ∃ (k : Nat) (r : Int), v6 = .int .i64 r ∧ v7 = .int .i64 k ∧ 1 ≤ k ∧ k ≤ 3 ∧ 0 ≤ r ∧ r ≤ 100000000000 ∧ Hid (r < 32 * 64 ^ (k - 1)) ∧ Hid (Sp.contG s 2 1 (c - 224) = Sp.contG s (3 - k) k r)) (fun _ v7 => 3 - (RowKit.intOf v7).toNat)
    case atStart => exact ⟨1, c - 224, rfl, rfl, by omega, by omega, by omega, by omega, Lib.hid (by omega), Lib.hid rfl⟩
    case round =>
      obtain ⟨k, r, rfl, rfl, hk1, hk2, hr0, hr1, hrk, hcg⟩ := hrel
      by_cases hlt : k < 3
      · have hik := idx_str s k (by omega)
        have hbk := Sp.bt_range s k
        have hst := Lib.hid (show Sp.contG s 2 1 (c - 224) = if 128 ≤ Sp.bt s k ∧ Sp.bt s k < 192 then Sp.contG s (3 - (k + 1)) (k + 1) (r * 64 + Sp.bt s k - 128) else none by
          rw [hcg.out]
          obtain ⟨d, hd⟩ : ∃ d, 3 - k = d + 1 := ⟨3 - k - 1, by omega⟩
          rw [hd, show 3 - (k + 1) = d by omega, Sp.contG])
        clear hcg
        generalize hx : Sp.bt s k = x at *
        clear hx
        by_cases cx : 128 ≤ x ∧ x < 192
        · have hst2 := Lib.hid (show Sp.contG s 2 1 (c - 224) = Sp.contG s (3 - (k + 1)) (k + 1) (r * 64 + x - 128) by rw [hst.out, if_pos cx])
          obtain ⟨cxa, cxb⟩ := cx
          have hrk2 : r * 64 + x - 128 ≤ 100000000000 := by
            have := hrk.out
            have : k = 1 ∨ k = 2 ∨ k = 3 := by omega
            rcases this with rfl | rfl | rfl <;> omega
          have hrk3 := Lib.hid (show r * 64 + x - 128 < 32 * 64 ^ (k + 1 - 1) by
            have := hrk.out
            have : k = 1 ∨ k = 2 ∨ k = 3 := by omega
            rcases this with rfl | rfl | rfl <;> omega)
          clear hst
          go_wp2
          go_round
          case rel => exact ⟨k + 1, r * 64 + x - 128, by go_num, by go_num, by omega, by omega, by omega, by omega, hrk3, hst2⟩
          case measure => simp [RowKit.intOf]; omega
        · have hR3 : Hid (R = (0, 0)) := Lib.hid (by rw [hR2.out, hst.out, if_neg cx])
          clear hR2 hst
          by_cases cxa : x < 128
          · clear cx
            go_wp2
            go_ret2
            exact ⟨by rw [hR3.out]; rfl, rfl⟩
          · have cxb : 192 ≤ x := by omega
            clear cx
            go_wp2
            go_ret2
            exact ⟨by rw [hR3.out]; rfl, rfl⟩
      · obtain rfl : k = 3 := by omega
        have hR3 : Hid (R = Sp.finN 3 r) := Lib.hid (by rw [hR2.out, hcg.out]; rfl)
        clear hR2 hcg hlt hk1 hk2
        go_wp2
        all_goals go_ret2
        all_goals
          refine ⟨?_, rfl⟩
          rw [hR3.out]
          unfold Sp.finN
          repeat' split
          all_goals first | rfl | (exfalso; omega) | (exfalso; simp_all; done) | (exfalso; simp_all; omega)
  by_cases c4 : 240 ≤ c ∧ c < 245
  · have hR : Hid (R = Sp.goN s 4 (c - 240)) := Lib.hid (by rw [HE.out, if_neg c1, if_neg c2, if_neg c3, if_pos c4])
    clear HE
    obtain ⟨ca, cb⟩ := c4
    by_cases hn : s.size < 4
    · have hR2 : Hid (R = (0, 0)) := Lib.hid (by rw [hR.out, Sp.goN, if_pos hn])
      have hnz : (s.size : Int) < 4 := by omega
      clear hR
      go_enter Tryd.func24, Tryd.ntmps24
      go_wp2
      go_ret2
      exact ⟨by rw [hR2.out]; rfl, rfl⟩
    have hnz : ¬ (s.size : Int) < 4 := by omega
    have hR2 : Hid (R = match Sp.contG s 3 1 (c - 240) with | none => (0, 0) | some r => Sp.finN 4 r) := Lib.hid (by rw [hR.out, Sp.goN, if_neg hn]; rfl)
    clear hR
    go_enter Tryd.func24, Tryd.ntmps24
    go_wp2
    go_loop [6, 7] (fun v6 v7 => ∃ (k : Nat) (r : Int), v6 = .int .i64 r ∧ v7 = .int .i64 k ∧ 1 ≤ k ∧ k ≤ 4 ∧ 0 ≤ r ∧ r ≤ 100000000000 ∧ Hid (r < 32 * 64 ^ (k - 1)) ∧ Hid (Sp.contG s 3 1 (c - 240) = Sp.contG s (4 - k) k r)) (fun _ v7 => 4 - (RowKit.intOf v7).toNat)
    case atStart => exact ⟨1, c - 240, rfl, rfl, by omega, by omega, by omega, by omega, Lib.hid (by omega), Lib.hid rfl⟩
    case round =>
      obtain ⟨k, r, rfl, rfl, hk1, hk2, hr0, hr1, hrk, hcg⟩ := hrel
      by_cases hlt : k < 4
      · have hik := idx_str s k (by omega)
        have hbk := Sp.bt_range s k
        have hst := Lib.hid (show Sp.contG s 3 1 (c - 240) = if 128 ≤ Sp.bt s k ∧ Sp.bt s k < 192 then Sp.contG s (4 - (k + 1)) (k + 1) (r * 64 + Sp.bt s k - 128) else none by
          rw [hcg.out]
          obtain ⟨d, hd⟩ : ∃ d, 4 - k = d + 1 := ⟨4 - k - 1, by omega⟩
          rw [hd, show 4 - (k + 1) = d by omega, Sp.contG])
        clear hcg
        generalize hx : Sp.bt s k = x at *
        clear hx
        by_cases cx : 128 ≤ x ∧ x < 192
        · have hst2 := Lib.hid (show Sp.contG s 3 1 (c - 240) = Sp.contG s (4 - (k + 1)) (k + 1) (r * 64 + x - 128) by rw [hst.out, if_pos cx])
          obtain ⟨cxa, cxb⟩ := cx
          have hrk2 : r * 64 + x - 128 ≤ 100000000000 := by
            have := hrk.out
            have : k = 1 ∨ k = 2 ∨ k = 3 := by omega
            rcases this with rfl | rfl | rfl <;> omega
          have hrk3 := Lib.hid (show r * 64 + x - 128 < 32 * 64 ^ (k + 1 - 1) by
            have := hrk.out
            have : k = 1 ∨ k = 2 ∨ k = 3 := by omega
            rcases this with rfl | rfl | rfl <;> omega)
          clear hst
          go_wp2
          go_round
          case rel => exact ⟨k + 1, r * 64 + x - 128, by go_num, by go_num, by omega, by omega, by omega, by omega, hrk3, hst2⟩
          case measure => simp [RowKit.intOf]; omega
        · have hR3 : Hid (R = (0, 0)) := Lib.hid (by rw [hR2.out, hst.out, if_neg cx])
          clear hR2 hst
          by_cases cxa : x < 128
          · clear cx
            go_wp2
            go_ret2
            exact ⟨by rw [hR3.out]; rfl, rfl⟩
          · have cxb : 192 ≤ x := by omega
            clear cx
            go_wp2
            go_ret2
            exact ⟨by rw [hR3.out]; rfl, rfl⟩
      · obtain rfl : k = 4 := by omega
        have hR3 : Hid (R = Sp.finN 4 r) := Lib.hid (by rw [hR2.out, hcg.out]; rfl)
        clear hR2 hcg hlt hk1 hk2
        go_wp2
        all_goals go_ret2
        all_goals
          refine ⟨?_, rfl⟩
          rw [hR3.out]
          unfold Sp.finN
          repeat' split
          all_goals first | rfl | (exfalso; omega) | (exfalso; simp_all; done) | (exfalso; simp_all; omega)
  have hR : Hid (R = (0, 0)) := Lib.hid (by rw [HE.out, if_neg c1, if_neg c2, if_neg c3, if_neg c4])
  have d1 : ¬ c < 128 := c1
  by_cases e : c < 194
  · clear HE c1 c2 c3 c4
    go_enter Tryd.func24, Tryd.ntmps24
    go_wp2
    go_ret2
    exact ⟨by rw [hR.out]; rfl, rfl⟩
  · have e2 : 245 ≤ c := by omega
    clear HE c1 c2 c3 c4
    go_enter Tryd.func24, Tryd.ntmps24
    go_wp2
    go_ret2
    exact ⟨by rw [hR.out]; rfl, rfl⟩
end Go.Proofs.YtokkpdjbgaicmaaDoor
