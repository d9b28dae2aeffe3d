/-
  The law MutfBack: its walk.
-/
import Derived.Test.YtkppjehpfjalbaaDoorPl7
import Derived.Lib.SlicesS
set_option linter.unusedVariables false
set_option linter.unusedSimpArgs false
namespace Go.Proofs.YtkppjehpfjalbaaDoor
open Go.RowKit Go.Lib

set_option maxHeartbeats 8000000 in
set_option maxRecDepth 100000 in
theorem walkMutfBack (s t : ByteArray) (w : World) (hs : s.size ≤ maxLen) (ht : t.size ≤ maxLen) (hT : Tabs w) :
    Calls Tryd.prog 14 #[.string s, .string t] w fun e w' => e = .returned (.bool true) ∧ Below w.heap.size w w' := by
  unfold maxLen at hs ht
  have T0 := Lib.hid hT
  have hsh := Lib.hid (shown_any w hT)
  clear hT
  by_cases hl : 20000 < s.size
  · have hlz : (20000 : Int) < (s.size : Int) := by omega
    go_enter Tryd.func14, Tryd.ntmps14
    go_wp2_with fail
    refine hsh.out.mono ?_
    rintro e w1 ⟨rfl, hb1⟩
    go_wp2
    go_ret
    exact ⟨rfl, hb1⟩
  have hlz : ¬ (20000 : Int) < (s.size : Int) := by omega
  by_cases hl2 : 20000 < t.size
  · have hlz2 : (20000 : Int) < (t.size : Int) := by omega
    go_enter Tryd.func14, Tryd.ntmps14
    go_wp2_with fail
    refine hsh.out.mono ?_
    rintro e w1 ⟨rfl, hb1⟩
    go_wp2
    go_ret
    exact ⟨rfl, hb1⟩
  have hlz2 : ¬ (20000 : Int) < (t.size : Int) := by omega
  have h1 := Lib.hid (fun W hT => encode_any s W (by omega) hT)
  have h2 := Lib.hid (fun W hT => encode_any t W (by omega) hT)
  by_cases hok : (Sp.encS s).2 = 0 ∧ (Sp.encS t).2 = 0
  · obtain ⟨l, a1, a2, a3, a4, a5⟩ := Sp.enc_ok s hok.1
    obtain ⟨m, b1, b2, b3, b4, b5⟩ := Sp.enc_ok t hok.2
    have e7 : (Go.strOfNums (Sp.encL l)).size ≤ 65535 := by rw [Sp.size_nums]; omega
    have hnz : ∀ k, k < (Go.strOfNums (Sp.encL l)).size → 0 < Sp.bt (Go.strOfNums (Sp.encL l)) k := by
      intro k hk
      rw [Sp.size_nums] at hk
      rw [Sp.bt_nums _ (Sp.by_encL l a1), List.getD_eq_getElem?_getD, List.getElem?_eq_getElem hk]
      exact Sp.encL_nozero l a1 _ (List.getElem_mem hk)
    have hsame : (Go.strOfNums (Sp.encL l) = Go.strOfNums (Sp.encL m)) = (s = t) := by
      apply propext
      constructor
      · intro q
        rw [a2, b2, Sp.encL_inj l m a1 b1 (Sp.nums_inj (Sp.by_encL l a1) (Sp.by_encL m b1) q)]
      · intro q
        rw [← a3, ← b3, q]
    have h3 := Lib.hid (fun W => decode_any (Go.strOfNums (Sp.encL l)) W)
    simp only [Sp.dec_enc l a1 a4, ← a2] at h3
    have h4 := Lib.hid (fun W => runes_any s W (by omega))
    have h5 := Lib.hid (fun A c W q => make_any A c l W q)
    simp only [Sp.makeS_all l a1, ← a2] at h5
    rw [a3] at h4
    simp only [a5] at h1
    simp only [b5] at h2
    have hnz' := Lib.hid hnz
    have hsame' := Lib.hid hsame
    clear a1 a2 a3 a4 a5 b1 b2 b3 b4 b5 hok hnz hsame
    generalize Go.strOfNums (Sp.encL l) = A at *
    generalize Go.strOfNums (Sp.encL m) = B at *
    go_enter Tryd.func14, Tryd.ntmps14
    go_wp2_with fail
    refine hsh.out.mono ?_
    rintro e w1 ⟨rfl, B1⟩
    have S1 := B1.size
    have T1 := Lib.hid (T0.out.below B1)
    go_wp2_with fail
    refine (h1.out _ T1.out).mono ?_
    rintro e w2 ⟨rfl, hb2⟩
    have B2 := below_then B1 S1 hb2
    have S2 := B2.size
    have T2 := Lib.hid (T1.out.below hb2)
    clear B1 S1 hb2 T1
    go_wp2_with fail
    refine (h2.out _ T2.out).mono ?_
    rintro e w3 ⟨rfl, hb3⟩
    have B3 := below_then B2 S2 hb3
    have S3 := B3.size
    clear B2 S2 hb3 T2
    go_wp2
    go_loop [10] (fun v => ∃ k : Nat, k ≤ A.size ∧ v = .int .i64 k) (fun v => A.size - (RowKit.intOf v).toNat)
    case atStart => exact ⟨0, Nat.zero_le _, rfl⟩
    case round =>
      obtain ⟨k, hk, rfl⟩ := hrel
      by_cases hlt : k < A.size
      · have hck := idx_str A k hlt
        have hpos := hnz'.out k hlt
        generalize Sp.bt A k = y at hck hpos
        have hne : ¬ y = 0 := by omega
        go_wp2
        go_round
        case rel => exact ⟨k + 1, by omega, by go_num⟩
        case measure => simp [RowKit.intOf]; omega
      · go_wp2_with fail
        refine (h3.out _).mono ?_
        rintro e w4 ⟨rfl, hb4⟩
        have B4 := below_then B3 S3 hb4
        have S4 := B4.size
        go_wp2_with fail
        refine (h4.out _).mono ?_
        rintro e w5 ⟨A5, c5, rfl, hrd, hb5⟩
        have B5 := below_then B4 S4 hb5
        have S5 := B5.size
        go_wp2_with fail
        refine (h5.out _ _ _ hrd).mono ?_
        rintro e w6 ⟨rfl, rfl⟩
        go_wp2
        go_ret
        refine ⟨?_, B5⟩
        have hq : (A.toList == B.toList) = (s.toList == t.toList) := by rw [Bool.eq_iff_iff, bytes_beq_iff, bytes_beq_iff, hsame'.out]
        simp [hq]
  · have ha : (Sp.encS s).2 = 0 ∨ (Sp.encS s).2 = 4 := (Sp.enc_short s (by omega)).imp id (fun q => by rw [q])
    have hb : (Sp.encS t).2 = 0 ∨ (Sp.encS t).2 = 4 := (Sp.enc_short t (by omega)).imp id (fun q => by rw [q])
    generalize Sp.encS s = a at *
    generalize Sp.encS t = b at *
    obtain ⟨aa, ae⟩ := a
    obtain ⟨bb, be⟩ := b
    simp only [] at hok h1 h2 ha hb
    rcases ha with rfl | rfl <;> rcases hb with rfl | rfl
    · exact absurd ⟨rfl, rfl⟩ hok
    all_goals
      clear hok
      go_enter Tryd.func14, Tryd.ntmps14
      go_wp2_with fail
      refine hsh.out.mono ?_
      rintro e w1 ⟨rfl, B1⟩
      have S1 := B1.size
      have T1 := Lib.hid (T0.out.below B1)
      go_wp2_with fail
      refine (h1.out _ T1.out).mono ?_
      rintro e w2 ⟨rfl, hb2⟩
      have B2 := below_then B1 S1 hb2
      have S2 := B2.size
      have T2 := Lib.hid (T1.out.below hb2)
      clear B1 S1 hb2 T1
      go_wp2_with fail
      refine (h2.out _ T2.out).mono ?_
      rintro e w3 ⟨rfl, hb3⟩
      have B3 := below_then B2 S2 hb3
      go_wp2
      go_ret
      exact ⟨rfl, B3⟩
end Go.Proofs.YtkppjehpfjalbaaDoor
