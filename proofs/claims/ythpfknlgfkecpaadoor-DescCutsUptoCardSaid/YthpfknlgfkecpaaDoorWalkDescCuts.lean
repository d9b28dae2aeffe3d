/-
  The law DescCuts: its walk.
-/
import Derived.Test.YthpfknlgfkecpaaDoorDsShown
import Derived.Test.YthpfknlgfkecpaaDoorDsL2
set_option linter.unusedVariables false
set_option linter.unusedSimpArgs false
namespace Go.Proofs.YthpfknlgfkecpaaDoor
open Go.RowKit Go.Lib

set_option maxHeartbeats 8000000 in
set_option maxRecDepth 100000 in
theorem walkDescCuts (t : Sp.Ty) (cut : Int) (more : ByteArray) (w : World) (hd : -9223372036854775808 ≤ t.1 ∧ t.1 ≤ 9223372036854775807) (hc0 : -9223372036854775808 ≤ cut) (hc1 : cut ≤ 9223372036854775807) (hm63 : more.size ≤ maxLen) (hT : Tabs w) (ht : t.2.size ≤ 1048576) (hm : more.data.toList.length ≤ 1048576) :
    Calls Tryd.prog 3 #[Sp.tyV t, .int .i64 cut, .string more] w fun e w' => e = .returned (.bool true) ∧ Below w.heap.size w w' := by
  obtain ⟨d, n⟩ := t
  have hms : more.size ≤ 1048576 := hm
  clear hm hm63
  simp only [] at hd ht
  have T0 := Lib.hid hT
  clear hT
  unfold Sp.tyV
  simp only []
  have hk := Lib.hid (fun W hT => shown2_any W hT)
  have k1 := Lib.hid (fun W hT => write_any d n W (by omega) hT)
  unfold Sp.tyV at k1
  go_enter Tryd.func3, Tryd.ntmps3
  have hK := Lib.hid (blk_new w (.cells #[.int .i64 d, .string n] 23))
  have hB := (Below.refl w.heap.size w).alloc (Nat.le_refl _) (.cells #[.int .i64 d, .string n] 23)
  have hS : w.heap.size ≤ (w.alloc (.cells #[.int .i64 d, .string n] 23)).heap.size := by simp
  go_wp2_with fail
  generalize w.alloc (.cells #[.int .i64 d, .string n] 23) = W0 at *
  refine (hk.out _ (T0.out.below hB)).mono ?_
  rintro e w1 ⟨rfl, hb1⟩
  clear hk
  have hK1 := Lib.hid (blk_below hK.out hb1)
  have hB1 := below_then hB hS hb1
  have hS1 := hB1.size
  clear hK hB hS hb1
  obtain ⟨⟨c0, c1⟩, f0, f1⟩ := blk2 hK1.out
  go_wp2_with fail
  refine (k1.out _ (T0.out.below hB1)).mono ?_
  rintro e w2 ⟨rfl, hb2⟩
  have hB2 := below_then hB1 hS1 hb2
  have hS2 := hB2.size
  clear hK1 hB1 hS1 hb2 c0 c1 f0 f1 k1
  cases hr : Sp.rightS (d, n) with
  | false =>
    rw [Sp.writeS_none _ hr]
    go_wp2
    go_ret
    exact ⟨rfl, hB2⟩
  | true =>
    rw [Sp.writeS_some _ hr]
    have hlen := Sp.typeB_length _ hr
    have hone := Sp.typeB_one _ hr
    have hcut := Sp.cut_none _ hr
    have hmore := Sp.more_none _ hr
    have hF0 := Sp.field_typeB _ hr
    simp only [] at hlen
    have hz := Sp.B_size (Sp.typeB (d, n))
    generalize Sp.typeB (d, n) = tb at *
    generalize Sp.B tb = s at *
    have hlen2 : s.size ≤ n.size + 6 := by omega
    have hone2 : 1 ≤ s.size := by omega
    rw [← hz] at hcut
    clear hz hlen hone
    have hn : (0 : Int) < (s.size : Int) := by omega
    have hzz : ¬ (s.size : Int) = 0 := by omega
    have hzb : ((s.size : Int) == 0) = false := by rw [beq_eq_false_iff_ne]; omega
    have g1 := Int.tmod_lt_of_pos cut hn
    have g2 : -(s.size : Int) < cut.tmod s.size := by
      have := Int.tmod_lt_of_pos (-cut) hn
      rw [Int.neg_tmod] at this
      omega
    generalize hm : cut.tmod (s.size : Int) = m at g1 g2
    have hkk : ∃ k : Nat, k < s.size ∧ (m = (k : Int) ∧ ¬ m < 0 ∨ m = -(k : Int) ∧ m < 0) := by
      by_cases q : m < 0
      · exact ⟨(-m).toNat, by omega, .inr ⟨by omega, q⟩⟩
      · exact ⟨m.toNat, by omega, .inl ⟨by omega, q⟩⟩
    obtain ⟨k, hk, hkm⟩ := hkk
    have hfc := Lib.hid (hcut k (by omega))
    have hxs : (s.extract 0 k).size ≤ 1099511627776 := by simp; omega
    have k2 := Lib.hid (fun W hT => field_any (s.extract 0 k) W hxs hT)
    have k3 := Lib.hid (fun W hT => field_any (s ++ more) W (by simp; omega) hT)
    have hmo := Lib.hid (hmore more)
    clear hcut hmore hF0
    generalize hp : s.extract 0 k = P at *
    have hcat : (s ++ more).size = s.size + more.size := by simp
    generalize hq : s ++ more = Q at *
    generalize Sp.fieldS P = FP at *
    generalize Sp.fieldS Q = FQ at *
    obtain ⟨⟨pd, pn⟩, pe⟩ := FP
    obtain ⟨⟨qd, qn⟩, qe⟩ := FQ
    have hpe : pe = 9 := hfc.out
    subst hpe
    unfold Sp.tyV at k2 k3
    simp only [] at k2 k3
    clear hfc
    have hqe : (¬ more.size = 0 → qe = 9) := hmo.out
    clear hmo
    rcases hkm with ⟨rfl, hm0⟩ | ⟨rfl, hm0⟩
    all_goals
      go_wp2_with fail
      refine (k2.out _ (T0.out.below hB2)).mono ?_
      rintro e w3 ⟨rfl, hb3⟩
      have hB3 := below_then hB2 hS2 hb3
      have hS3 := hB3.size
      clear hb3 hB2 hS2
      go_wp2_with fail
      refine (k3.out _ (T0.out.below (hB3.alloc hS3 _))).mono ?_
      rintro e w4 ⟨rfl, hb4⟩
      have hB4 := below_then (hB3.alloc hS3 _) (by simp; omega) hb4
      have hS4 := hB4.size
      clear hb4 hB3 hS3
      by_cases hmz : more.size = 0
      · obtain rfl := str_empty more hmz
        clear hqe
        by_cases q9 : qe = 9
        · subst q9
          go_wp2
          go_ret
          exact ⟨rfl, hB4.alloc hS4 _⟩
        · have q9b : (qe == 9) = false := by rw [beq_eq_false_iff_ne]; exact q9
          go_wp2
          go_ret
          exact ⟨rfl, hB4.alloc hS4 _⟩
      · have hq9 : qe = 9 := hqe hmz
        clear hqe
        subst hq9
        go_wp2
        go_ret
        exact ⟨rfl, hB4.alloc hS4 _⟩
end Go.Proofs.YthpfknlgfkecpaaDoor
