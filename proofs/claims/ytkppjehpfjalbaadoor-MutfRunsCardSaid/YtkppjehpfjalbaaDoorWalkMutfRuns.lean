/-
  The law MutfRuns: its walk.
-/
import Derived.Test.YtkppjehpfjalbaaDoorPl7
import Derived.BigQuiet
set_option linter.unusedVariables false
set_option linter.unusedSimpArgs false
namespace Go.Proofs.YtkppjehpfjalbaaDoor
open Go.RowKit Go.Lib

theorem ascii_enc (s : ByteArray) (hs : s.size ≤ 65535) (h : ∀ j, j < s.size → 0 < Sp.bt s j ∧ Sp.bt s j < 128) : Sp.encS s = (s, 0) := by
  have hn : (Sp.nums s).length = s.size := by rw [Sp.nums, List.length_map, ← Lib.size_eq]
  have hL : ∀ x ∈ Sp.nums s, 0 < x ∧ x < 128 := by
    intro x hx
    obtain ⟨j, hj, rfl⟩ := List.getElem_of_mem hx
    have h1 := h j (by omega)
    have h2 := Sp.bt_nums (Sp.nums s) (Sp.by_nums s) j
    rw [Sp.nums_str, List.getD_eq_getElem?_getD, List.getElem?_eq_getElem hj] at h2
    simp only [Option.getD_some] at h2
    omega
  obtain ⟨i1, i2, i3⟩ := Sp.ascii_same _ hL
  have h3 := Sp.enc_utf (Sp.nums s) i3 (by rw [i2]; omega)
  rw [i1, i2, Sp.nums_str] at h3
  exact h3

set_option maxHeartbeats 8000000 in
set_option maxRecDepth 100000 in
theorem walkMutfRuns (s : ByteArray) (c : Int) (w : World) (hs : s.size ≤ maxLen) (hc0 : -9223372036854775808 ≤ c) (hc1 : c ≤ 9223372036854775807) (hT : Tabs w) :
    Calls Tryd.prog 12 #[.string s, .int .i64 c] w fun e w' => e = .returned (.bool true) ∧ Below w.heap.size w w' := by
  unfold maxLen at hs
  have T0 := Lib.hid hT
  have hsh := Lib.hid (shown_any w hT)
  clear hT
  by_cases hl : 20000 < s.size
  · have hlz : (20000 : Int) < (s.size : Int) := by omega
    go_enter Tryd.func12, Tryd.ntmps12
    go_wp2_with fail
    refine hsh.out.mono ?_
    rintro e w1 ⟨rfl, hb1⟩
    go_wp2
    go_ret
    exact ⟨rfl, hb1⟩
  have hlz : ¬ (20000 : Int) < (s.size : Int) := by omega
  have hfin := Lib.hid (ascii_enc s (by omega))
  have h2 := Lib.hid (fun W => runes_any s W (by omega))
  have h3 := Lib.hid (fun W => len_any s W (by omega))
  have h4 := Lib.hid (fun W i p q => at_all s i W (by omega) p q)
  have h5 := Lib.hid (fun W hT => encode_any s W (by omega) hT)
  have hrg := Lib.hid (runes_range s)
  have hle := runes_le s
  generalize Sp.runes s = l at *
  generalize hE : Sp.encS s = E at h5 hfin
  have hE' := Lib.hid hE
  clear hE
  obtain ⟨es, ee⟩ := E
  simp only [] at h5
  go_enter Tryd.func12, Tryd.ntmps12
  go_wp2_with fail
  refine hsh.out.mono ?_
  rintro e w1 ⟨rfl, B1⟩
  have S1 := B1.size
  have T1 := Lib.hid (T0.out.below B1)
  go_wp2_with fail
  refine (h2.out _).mono ?_
  rintro e w3 ⟨A3, c3, rfl, R3, hb3⟩
  have B3 := below_then B1 S1 hb3
  have S3 := B3.size
  have T3 := Lib.hid (T1.out.below hb3)
  clear B1 S1 hb3 T1
  go_wp2_with fail
  refine (h3.out _).mono ?_
  rintro e w4 ⟨rfl, hb4⟩
  have B4 := below_then B3 S3 hb4
  have S4 := B4.size
  have RB := Lib.hid (rdN_below R3 hb4)
  have T4 := Lib.hid (T3.out.below hb4)
  clear B3 S3 hb4 R3 T3
  go_wp2
  go_loopw [7] (fun v wr => ∃ k : Nat, k ≤ l.length ∧ v = .int .i64 k ∧ Below w4.heap.size w4 wr) (fun v _ => l.length - (RowKit.intOf v).toNat)
  case atStart => exact ⟨0, Nat.zero_le _, rfl, Below.refl _ _⟩
  case round =>
    obtain ⟨k, hk, rfl, hbr⟩ := hrel
    have BR := below_then B4 S4 hbr
    have SR := BR.size
    by_cases hgo : k < l.length ∧ k < 200
    · obtain ⟨hlt, h200⟩ := hgo
      have hz1 : (k : Int) < (l.length : Int) := by omega
      have hz2 : (k : Int) < 200 := by omega
      have hat := Lib.hid (Sp.atL_in l k hlt)
      go_wp2_with fail
      refine (h4.out _ _ (by omega) (by omega)).mono ?_
      rintro e w5 ⟨rfl, hb5⟩
      rw [hat.out]
      have hb5' := below_then hbr hbr.size hb5
      obtain ⟨b2, o2, rfl, hcell2⟩ := (rdN_below RB.out hb5').2 (by omega)
      have hck2 := hcell2 k hlt
      clear hcell2 hat
      have hy := hrg.out (l.getD k 0) (by rw [List.getD_eq_getElem?_getD, List.getElem?_eq_getElem hlt]; exact List.getElem_mem hlt)
      generalize l.getD k 0 = y at hck2 hy ⊢
      go_wp2
      go_roundw
      case rel => exact ⟨k + 1, by omega, by go_num, hb5'⟩
      case measure => simp [RowKit.intOf]; omega
    · have hex : Hid (∀ K : Nat → Prop, K k → K k) := Lib.hid (fun _ h => h)
      have T5 := Lib.hid (T4.out.below hbr)
      clear hbr B4 S4 T4
      have hgoz : (k : Int) < (l.length : Int) → ¬ (k : Int) < 200 := by omega
      by_cases hlt : (k : Int) < (l.length : Int)
      all_goals
        first | have h200 := hgoz hlt | skip
        clear hgoz hgo
        go_wp2_with fail
        refine (h4.out _ _ hc0 hc1).mono ?_
        rintro e w5 ⟨rfl, hb5⟩
        have B5 := below_then BR SR hb5
        have S5 := B5.size
        have T6 := Lib.hid (T5.out.below hb5)
        clear BR SR hb5 T5
        obtain ⟨ar, ab, hat, hab, hcc⟩ : ∃ ar ab, Sp.atL l c = (ar, ab) ∧ (ab = false → ar = 0) ∧ (ab = (decide (0 ≤ c) && decide (c < (l.length : Int)))) := by
          by_cases hin : 0 ≤ c ∧ c < l.length
          · obtain ⟨n, rfl⟩ : ∃ n : Nat, c = n := ⟨c.toNat, by omega⟩
            exact ⟨_, _, Sp.atL_in l n (by omega), by simp, by simp [hin.2]⟩
          · refine ⟨_, _, Sp.atL_out l c hin, by simp, ?_⟩
            by_cases q : 0 ≤ c
            · have : ¬ c < (l.length : Int) := fun q2 => hin ⟨q, q2⟩
              simp [this]
            · simp [q]
        rw [hat]
        clear hat
        have hstep : ∀ (K : Prop), (∀ r, (ab = true ∨ ab = false) → K) → K := fun K h => h 0 (by cases ab <;> simp)
        have hthree : (0 ≤ c ∧ c < (l.length : Int)) ∨ (0 ≤ c ∧ ¬ c < (l.length : Int)) ∨ (¬ 0 ≤ c ∧ c < (l.length : Int)) := by omega
        rcases hthree with ⟨q0, q1⟩ | ⟨q0, q1⟩ | ⟨q0, q1⟩
        all_goals
          · skip
            simp only [q0, q1, decide_true, decide_false, Bool.and_true, Bool.and_false, Bool.true_and, Bool.false_and] at hcc
            subst hcc
            first | (have har := hab rfl; subst har) | skip
            clear hstep hex
            go_wp2
            go_loopw [12, 13] (fun v12 v13 wr => ∃ (j : Nat) (p : Bool), j ≤ s.size ∧ v13 = .int .i64 j ∧ v12 = .bool p ∧ Hid (p = true → ∀ i, i < j → 0 < Sp.bt s i ∧ Sp.bt s i < 128) ∧ Below w5.heap.size w5 wr) (fun _ v13 _ => s.size - (RowKit.intOf v13).toNat)
            case atStart => exact ⟨0, true, Nat.zero_le _, rfl, rfl, Lib.hid (fun _ i hi => absurd hi (Nat.not_lt_zero _)), Below.refl _ _⟩
            case round =>
              obtain ⟨j, p, hj, rfl, rfl, hp, hbr⟩ := hrel
              by_cases hjl : j < s.size
              · have hck := idx_str s j hjl
                have hnew : Hid (∀ y, Sp.bt s j = y → (p && decide (0 < y) && decide (y < 128)) = true → ∀ i, i < j + 1 → 0 < Sp.bt s i ∧ Sp.bt s i < 128) := Lib.hid (by
                  intro y hy hq i hi
                  simp at hq
                  by_cases hij : i = j
                  · subst hij; omega
                  · exact hp.out hq.1.1 i (by omega))
                generalize hyy : Sp.bt s j = y at hck
                have hnew2 := Lib.hid (hnew.out y hyy)
                clear hnew hyy hp
                cases p with
                | false =>
                  go_wp2
                  go_roundw
                  case rel => exact ⟨j + 1, false, by omega, by go_num, rfl, Lib.hid (fun q => by simp at q), hbr⟩
                  case measure => simp [RowKit.intOf]; omega
                | true =>
                  by_cases y1 : 0 < y
                  · by_cases y2 : y < 128
                    · have hnew3 := Lib.hid (hnew2.out (by simp [y1, y2]))
                      go_wp2
                      first | (go_quiet (fail); go_wp2) | skip
                      go_roundw
                      case rel => exact ⟨j + 1, true, by omega, by go_num, rfl, Lib.hid (fun _ => hnew3.out), by first | exact hbr | exact below_drewNv hbr _⟩
                      case measure => simp [RowKit.intOf]; omega
                    · go_wp2
                      first | (go_quiet (fail); go_wp2) | skip
                      go_roundw
                      case rel => exact ⟨j + 1, false, by omega, by go_num, rfl, Lib.hid (fun q => by simp at q), by first | exact hbr | exact below_drewNv hbr _⟩
                      case measure => simp [RowKit.intOf]; omega
                  · go_wp2
                    first | (go_quiet (fail); go_wp2) | skip
                    go_roundw
                    case rel => exact ⟨j + 1, false, by omega, by go_num, rfl, Lib.hid (fun q => by simp at q), by first | exact hbr | exact below_drewNv hbr _⟩
                    case measure => simp [RowKit.intOf]; omega
              · have BJ := below_then B5 S5 hbr
                have SJ := BJ.size
                have hjj : j = s.size := by omega
                subst hjj
                cases p with
                | false =>
                  go_wp2_with fail
                  refine (h5.out _ (T6.out.below hbr)).mono ?_
                  rintro e w6 ⟨rfl, hb6⟩
                  go_wp2
                  go_ret
                  exact ⟨by simp, below_then BJ SJ hb6⟩
                | true =>
                  have hf := hfin.out (hp.out rfl)
                  obtain ⟨rfl, rfl⟩ := Prod.mk.injEq .. ▸ hf
                  go_wp2_with fail
                  refine (h5.out _ (T6.out.below hbr)).mono ?_
                  rintro e w6 ⟨rfl, hb6⟩
                  go_wp2
                  go_ret
                  exact ⟨by simp, below_then BJ SJ hb6⟩
end Go.Proofs.YtkppjehpfjalbaaDoor
