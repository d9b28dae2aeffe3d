/-
  The law DescBack: its walk. (Printed by gen_back.py.)
-/
import Derived.Test.YthpfknlgfkecpaaDoorDsShown
import Derived.Test.YthpfknlgfkecpaaDoorDsSame
import Derived.Test.YthpfknlgfkecpaaDoorDs10
import Derived.Test.YthpfknlgfkecpaaDoorDsL2
set_option linter.unusedVariables false
set_option linter.unusedSimpArgs false
namespace Go.Proofs.YthpfknlgfkecpaaDoor
open Go.RowKit Go.Lib

namespace Sp
theorem namesZ_argsB : ∀ l : List Ty, allR l = true → namesZ l ≤ (argsB l).length
  | [], _ => by simp [namesZ]
  | t :: l, h => by
    simp only [allR, List.all_cons, Bool.and_eq_true] at h
    have ih := namesZ_argsB l h.2
    have : t.2.size ≤ (typeB t).length := by
      have h2 : t.2.data.toList.length = t.2.size := rfl
      unfold typeB nameB
      split <;> simp only [List.length_append, List.length_replicate, List.length_cons, List.length_nil] <;> omega
    simp only [namesZ, argsB, List.length_append]
    omega
theorem argsB_max : ∀ l : List Ty, allR l = true → (argsB l).length ≤ namesZ l + 6 * l.length
  | [], _ => by simp [argsB]
  | t :: l, h => by
    simp only [allR, List.all_cons, Bool.and_eq_true] at h
    have ih := argsB_max l h.2
    have := typeB_length t h.1
    simp only [namesZ, argsB, List.length_append, List.length_cons]
    omega
theorem name_typeB (t : Ty) : t.2.size ≤ (typeB t).length := by
  have h2 : t.2.data.toList.length = t.2.size := rfl
  unfold typeB nameB
  split <;> simp only [List.length_append, List.length_replicate, List.length_cons, List.length_nil] <;> omega
/-- What Method tells of a text is no longer than the text. -/
theorem method_sizes (s : ByteArray) (h : (methodS s).2 = 0) : namesZ (methodS s).1.1 + (methodS s).1.2.1.2.size ≤ s.size ∧ (methodS s).1.1.length ≤ s.size := by
  have h1 := (method_inv s h).1
  have h2 := sign_inv (methodS s).1 (by rw [h1])
  obtain ⟨a1, a2, a3, a4, a5⟩ := h2
  rw [h1] at a5
  simp only at a5
  have b1 := namesZ_argsB _ a1
  have b2 := argsB_len _ a1
  have hz := congrArg ByteArray.size a5
  rw [B_size, List.length_append, List.length_cons, List.length_cons] at hz
  by_cases hv : (methodS s).1.2.2 = true
  · have h0 : t0.2.size = 0 := rfl
    rw [a3 hv, h0]
    omega
  · rw [if_neg hv] at hz
    have := name_typeB (methodS s).1.2.1
    omega
theorem sign_size (m : Sig) (h : (signS m).2 = 0) : (signS m).1.size ≤ namesZ m.1 + m.2.1.2.size + 6 * m.1.length + 8 := by
  obtain ⟨a1, a2, a3, a4, a5⟩ := sign_inv m h
  rw [a5, B_size, List.length_append, List.length_cons, List.length_cons]
  have := argsB_max _ a1
  have := typeB_length _ a2
  split
  · simp; omega
  · omega
end Sp

set_option maxHeartbeats 8000000 in
set_option maxRecDepth 100000 in
theorem walkDescBack (A : Option Addr) (c : Nat) (l : List Sp.Ty) (t : Sp.Ty) (v : Bool) (s : ByteArray) (w : World) (hrd : RdT w A l) (_hel : ∀ t ∈ l, (-9223372036854775808 ≤ t.1 ∧ t.1 ≤ 9223372036854775807) ∧ t.2.size ≤ maxLen) (_hd : -9223372036854775808 ≤ t.1 ∧ t.1 ≤ 9223372036854775807) (hs63 : s.size ≤ maxLen) (hT : Tabs w) (hbulk : Sp.namesZ l + l.length + t.2.size ≤ 1048576) (_hs : s.data.toList.length ≤ 1048576) :
    Calls Tryd.prog 7 #[Sp.sigV A c (l, t, v), .string s] w fun e w' => e = .returned (.bool true) ∧ Below w.heap.size w w' := by
  obtain ⟨d, n⟩ := t
  simp only [] at hbulk
  have hss0 : s.size ≤ 1048576 := _hs
  clear _hel _hd _hs hs63
  have T0 := Lib.hid hT
  have hl63 : l.length ≤ 1048576 := by omega
  clear hT
  unfold Sp.sigV
  simp only []
  have hk := Lib.hid (fun W hT => shown2_any W hT)
  have hrd0 := Lib.hid hrd
  clear hrd
  go_enter Tryd.func7, Tryd.ntmps7
  have hK := Lib.hid (blk_new w (.cells #[.slice A l.length c, .int .i64 d, .string n, .bool v] 37))
  have hB := (Below.refl w.heap.size w).alloc (Nat.le_refl _) (.cells #[.slice A l.length c, .int .i64 d, .string n, .bool v] 37)
  have hS : w.heap.size ≤ (w.alloc (.cells #[.slice A l.length c, .int .i64 d, .string n, .bool v] 37)).heap.size := by simp
  go_wp2_with fail
  generalize w.alloc (.cells #[.slice A l.length c, .int .i64 d, .string n, .bool v] 37) = W0 at *
  refine (hk.out _ (T0.out.below hB)).mono ?_
  rintro e w1 ⟨rfl, hb1⟩
  clear hk
  have K1 := Lib.hid (blk_below hK.out hb1)
  have B1 := below_then hB hS hb1
  have S1 := B1.size
  clear hK hB hS hb1
  obtain ⟨⟨c0, c1, c2, c3⟩, f0, f1, f2, f3⟩ := blk4 K1.out
  by_cases hbs : 50000 < s.size
  · have hz : (50000 : Int) < (s.size : Int) := by omega
    go_wp2
    go_ret
    exact ⟨rfl, B1⟩
  have hzs : ¬ (50000 : Int) < (s.size : Int) := by omega
  by_cases hbig : 1000 < l.length
  · have hz : (1000 : Int) < (l.length : Int) := by omega
    go_wp2
    go_ret
    exact ⟨rfl, B1⟩
  have hz : ¬ (1000 : Int) < (l.length : Int) := by omega
  have k1 := Lib.hid (fun W hrd hT => sign_any A c l d n v W hrd (by omega) (by omega) hT)
  have k2 := Lib.hid (fun (h : (Sp.signS (l, (d, n), v)).2 = 0) W hT => method_any (Sp.signS (l, (d, n), v)).1 W (by have := Sp.sign_size _ h; simp only [] at this; omega) hT)
  have e2 := Lib.hid (fun h => Sp.sign_method (l, (d, n), v) h)
  have k3 := Lib.hid (fun W hT => method_any s W (by omega) hT)
  have k5 := Lib.hid (fun W hT => field_any s W (by omega) hT)
  have hM0 := Lib.hid (fun h : (Sp.methodS s).2 = 0 => And.intro (Sp.method_inv s h).1 (Sp.method_sizes s h))
  have hF0 := Lib.hid (fun h : (Sp.fieldS s).2 = 0 => And.intro (Sp.field_write s h) (Sp.field_no_method s h))
  have hFz := Lib.hid (fun h : (Sp.fieldS s).2 = 0 => (show (Sp.fieldS s).1.2.size ≤ s.size from by have := (Sp.field_back s h).2; have q := Sp.name_typeB (Sp.fieldS s).1; have z := congrArg ByteArray.size this; rw [Sp.B_size] at z; omega))
  generalize Sp.signS (l, (d, n), v) = G at *
  generalize Sp.methodS s = M at *
  generalize Sp.fieldS s = F at *
  obtain ⟨gs, ge⟩ := G
  obtain ⟨⟨ml, ⟨md, mn⟩, mv⟩, me⟩ := M
  obtain ⟨⟨fd, fn⟩, fe⟩ := F
  unfold Sp.sigV at k3
  unfold Sp.tyV at k5
  simp only [] at k1 k2 k3 k5 e2 hM0 hF0 hFz
  go_wp2_with fail
  refine (k1.out _ (rdT_below hrd0.out (show Below w.heap.size w _ from B1)) (T0.out.below B1)).mono ?_
  rintro e w2 ⟨rfl, hb⟩
  have K2 := Lib.hid (blk_below K1.out hb)
  have B2 := below_then B1 S1 hb
  have S2 := B2.size
  clear hb B1 S1 K1 k1 c0 c1 c2 c3 f0 f1 f2 f3
  by_cases hg : ge = 0
  · have hq := e2.out hg
    have k2n := Lib.hid (fun W hT => k2.out hg W hT)
    clear k2
    rw [hq] at k2n
    unfold Sp.sigV at k2n
    (try simp only [] at k2n)
    subst hg
    clear hq
    go_wp2_with fail
    refine (k2n.out _ (T0.out.below B2)).mono ?_
    rintro e w3 ⟨A3, c3, rfl, hr3, hb⟩
    have K3 := Lib.hid (blk_below K2.out hb)
    have B3 := below_then B2 S2 hb
    have S3 := B3.size
    clear hb B2 S2 K2 k2n
    obtain ⟨⟨d0, d1, d2, d3⟩, g0, g1, g2, g3⟩ := blk4 K3.out
    have hlk := blk_lt K3.out
    have ks := Lib.hid (fun W h1 h2 => same_any (l, (d, n), v) A3 A c3 c W h1 h2)
    unfold Sp.sigV at ks
    simp only [] at ks
    have R3 := Lib.hid (rdT_below hrd0.out (show Below w.heap.size w _ from B3.alloc S3 (.cells #[.slice A3 l.length c3, .int .i64 d, .string n, .bool v] 37)))
    go_wp2_with fail
    refine (ks.out _ (rdT_below hr3 ((Below.refl _ _).alloc (Nat.le_refl _) _)) R3.out).mono ?_
    rintro e w4 ⟨rfl, hb⟩
    have B4 := below_then (B3.alloc S3 _) (by simp; omega) hb
    have S4 := B4.size
    clear hb B3 S3 K3 hr3 R3 ks d0 d1 d2 d3 g0 g1 g2 g3 hlk
    go_wp2_with fail
    refine (k3.out _ (T0.out.below B4)).mono ?_
    rintro e w5 ⟨A5, c5, rfl, hr5, hb⟩
    have B5 := below_then B4 S4 hb
    have S5 := B5.size
    clear hb
    by_cases hm : me = 0
    · obtain ⟨m1, m2, m3⟩ := hM0.out hm
      (try simp only [] at m1)
      (try simp only [] at m2)
      (try simp only [] at m3)
      have k4 := Lib.hid (fun W hrd hT => sign_any A5 c5 ml md mn mv W hrd (by omega) (by omega) hT)
      rw [m1] at k4
      clear m1 m2 m3
      subst hm
      go_wp2_with fail
      refine (k4.out _ (rdT_below hr5 ((Below.refl _ _).alloc (Nat.le_refl _) _)) (T0.out.below (B5.alloc S5 _))).mono ?_
      rintro e w6 ⟨rfl, hb⟩
      have B6 := below_then (B5.alloc S5 _) (by simp; omega) hb
      have S6 := B6.size
      clear hb k4
      go_wp2_with fail
      refine (k5.out _ (T0.out.below B6)).mono ?_
      rintro e w8 ⟨rfl, hb⟩
      have B8 := below_then B6 S6 hb
      have S8 := B8.size
      clear hb
      by_cases hf : fe = 0
      · exact absurd rfl (hF0.out hf).2
      · have hfb : (fe == 0) = false := by rw [beq_eq_false_iff_ne]; exact hf
        go_wp2
        go_ret
        exact ⟨by simp, B8.alloc S8 _⟩
    · have hmb : (me == 0) = false := by rw [beq_eq_false_iff_ne]; exact hm
      go_wp2_with fail
      refine (k5.out _ (T0.out.below (B5.alloc S5 _))).mono ?_
      rintro e w8 ⟨rfl, hb⟩
      have B8 := below_then (B5.alloc S5 _) (by simp; omega) hb
      have S8 := B8.size
      clear hb
      by_cases hf : fe = 0
      · have hw := (hF0.out hf).1
        have hnb : (me == 0) = false := by rw [beq_eq_false_iff_ne]; exact hm
        have hfz := hFz.out hf
        have k6 := Lib.hid (fun W hT => write_any fd fn W (by omega) hT)
        unfold Sp.tyV at k6
        (try simp only [] at k6)
        (try simp only [] at hw)
        (try simp only [] at hfz)
        rw [hw] at k6
        subst hf
        clear hw hfz
        go_wp2_with fail
        refine (k6.out _ (T0.out.below (B8.alloc S8 _))).mono ?_
        rintro e w9 ⟨rfl, hb⟩
        go_wp2
        go_ret
        exact ⟨by simp, below_then (B8.alloc S8 _) (by simp; omega) hb⟩
      · have hfb : (fe == 0) = false := by rw [beq_eq_false_iff_ne]; exact hf
        go_wp2
        go_ret
        exact ⟨by simp, B8.alloc S8 _⟩
  · have hgb : (ge == 0) = false := by rw [beq_eq_false_iff_ne]; exact hg
    clear k2 e2
    go_wp2_with fail
    refine (k3.out _ (T0.out.below B2)).mono ?_
    rintro e w5 ⟨A5, c5, rfl, hr5, hb⟩
    have B5 := below_then B2 S2 hb
    have S5 := B5.size
    clear hb
    by_cases hm : me = 0
    · obtain ⟨m1, m2, m3⟩ := hM0.out hm
      (try simp only [] at m1)
      (try simp only [] at m2)
      (try simp only [] at m3)
      have k4 := Lib.hid (fun W hrd hT => sign_any A5 c5 ml md mn mv W hrd (by omega) (by omega) hT)
      rw [m1] at k4
      clear m1 m2 m3
      subst hm
      go_wp2_with fail
      refine (k4.out _ (rdT_below hr5 ((Below.refl _ _).alloc (Nat.le_refl _) _)) (T0.out.below (B5.alloc S5 _))).mono ?_
      rintro e w6 ⟨rfl, hb⟩
      have B6 := below_then (B5.alloc S5 _) (by simp; omega) hb
      have S6 := B6.size
      clear hb k4
      go_wp2_with fail
      refine (k5.out _ (T0.out.below B6)).mono ?_
      rintro e w8 ⟨rfl, hb⟩
      have B8 := below_then B6 S6 hb
      have S8 := B8.size
      clear hb
      by_cases hf : fe = 0
      · exact absurd rfl (hF0.out hf).2
      · have hfb : (fe == 0) = false := by rw [beq_eq_false_iff_ne]; exact hf
        go_wp2
        go_ret
        exact ⟨by simp, B8.alloc S8 _⟩
    · have hmb : (me == 0) = false := by rw [beq_eq_false_iff_ne]; exact hm
      go_wp2_with fail
      refine (k5.out _ (T0.out.below (B5.alloc S5 _))).mono ?_
      rintro e w8 ⟨rfl, hb⟩
      have B8 := below_then (B5.alloc S5 _) (by simp; omega) hb
      have S8 := B8.size
      clear hb
      by_cases hf : fe = 0
      · have hw := (hF0.out hf).1
        have hnb : (me == 0) = false := by rw [beq_eq_false_iff_ne]; exact hm
        have hfz := hFz.out hf
        have k6 := Lib.hid (fun W hT => write_any fd fn W (by omega) hT)
        unfold Sp.tyV at k6
        (try simp only [] at k6)
        (try simp only [] at hw)
        (try simp only [] at hfz)
        rw [hw] at k6
        subst hf
        clear hw hfz
        go_wp2_with fail
        refine (k6.out _ (T0.out.below (B8.alloc S8 _))).mono ?_
        rintro e w9 ⟨rfl, hb⟩
        go_wp2
        go_ret
        exact ⟨by simp, below_then (B8.alloc S8 _) (by simp; omega) hb⟩
      · have hfb : (fe == 0) = false := by rw [beq_eq_false_iff_ne]; exact hf
        go_wp2
        go_ret
        exact ⟨by simp, B8.alloc S8 _⟩
end Go.Proofs.YthpfknlgfkecpaaDoor
