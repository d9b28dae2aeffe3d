/-
  The law MutfJoins: its walk.
-/
import Derived.Test.YtkppjehpfjalbaaDoorPl6
set_option linter.unusedVariables false
set_option linter.unusedSimpArgs false
namespace Go.Proofs.YtkppjehpfjalbaaDoor
open Go.RowKit Go.Lib

/-- Any runes' place, told over two texts. -/
theorem joined_at (l m : List Int) (i : Int) (h0 : 0 ≤ i) : Sp.atL (l ++ m) i = if (l.length : Int) ≤ i then Sp.atL m (i - l.length) else Sp.atL l i := by
  rw [Sp.atL_app l m i h0]
  by_cases h : i < l.length
  · rw [if_pos h, if_neg (by omega)]
  · rw [if_neg h, if_pos (by omega)]

set_option maxHeartbeats 8000000 in
set_option maxRecDepth 100000 in
theorem walkMutfJoins (s t : ByteArray) (c : Int) (w : World) (hs : s.size ≤ maxLen) (ht : t.size ≤ maxLen) (hc0 : -9223372036854775808 ≤ c) (hc1 : c ≤ 9223372036854775807) (hT : Tabs w) :
    Calls Tryd.prog 9 #[.string s, .string t, .int .i64 c] w fun e w' => e = .returned (.bool true) ∧ Below w.heap.size w w' := by
  unfold maxLen at hs ht
  have T0 := Lib.hid hT
  have hsh := Lib.hid (shown_any w hT)
  clear hT
  by_cases hl : 10000 < s.size
  · have hlz : (10000 : Int) < (s.size : Int) := by omega
    go_enter Tryd.func9, Tryd.ntmps9
    go_wp2_with fail
    refine hsh.out.mono ?_
    rintro e w1 ⟨rfl, hb1⟩
    go_wp2
    go_ret
    exact ⟨rfl, hb1⟩
  have hlz : ¬ (10000 : Int) < (s.size : Int) := by omega
  by_cases hl2 : 10000 < t.size
  · have hlz2 : (10000 : Int) < (t.size : Int) := by omega
    go_enter Tryd.func9, Tryd.ntmps9
    go_wp2_with fail
    refine hsh.out.mono ?_
    rintro e w1 ⟨rfl, hb1⟩
    go_wp2
    go_ret
    exact ⟨rfl, hb1⟩
  have hlz2 : ¬ (10000 : Int) < (t.size : Int) := by omega
  have hst : (s ++ t).size ≤ 20000 := by rw [ByteArray.size_append]; omega
  have h1 := Lib.hid (fun W hT => encode_any s W (by omega) hT)
  have h2 := Lib.hid (fun W hT => encode_any t W (by omega) hT)
  have h3 := Lib.hid (fun W hT => encode_any (s ++ t) W (by omega) hT)
  by_cases hok : (Sp.encS s).2 = 0 ∧ (Sp.encS t).2 = 0
  · obtain ⟨l, a1, a2, a3, a4, a5⟩ := Sp.enc_ok s hok.1
    obtain ⟨m, b1, b2, b3, b4, b5⟩ := Sp.enc_ok t hok.2
    have hlm : ∀ r ∈ l ++ m, Scal r := fun r hr => (List.mem_append.1 hr).elim (a1 r) (b1 r)
    have e3 : s ++ t = Go.strOfNums (Sp.utfL (l ++ m)) := by rw [a2, b2, strOfNums_append, Sp.utfL_app]
    have hz : (Sp.encL (l ++ m)).length ≤ 65535 := by
      have := Sp.encL_long (l ++ m)
      have e4 := congrArg ByteArray.size e3
      rw [Sp.text_size] at e4
      omega
    have e5 : Sp.encS (s ++ t) = (Go.strOfNums (Sp.encL l) ++ Go.strOfNums (Sp.encL m), 0) := by rw [e3, Sp.enc_utf _ hlm hz, Sp.encL_app, strOfNums_append]
    have e6 : Sp.runes (s ++ t) = l ++ m := by rw [e3, Sp.runes_utf _ hlm]
    have e7 : (Go.strOfNums (Sp.encL l)).size ≤ 65535 := by rw [Sp.size_nums]; omega
    have e8 : (Go.strOfNums (Sp.encL m)).size ≤ 65535 := by rw [Sp.size_nums]; omega
    simp only [a5] at h1
    simp only [b5] at h2
    simp only [e5] at h3
    have hls : l.length ≤ s.size := by rw [← a3]; exact runes_le s
    have hmt : m.length ≤ t.size := by rw [← b3]; exact runes_le t
    have h4 := Lib.hid (fun W => len_any s W (by omega))
    have h5 := Lib.hid (fun W => len_any t W (by omega))
    have h6 := Lib.hid (fun W i p q => at_all (s ++ t) i W (by omega) p q)
    have h7 := Lib.hid (fun W i p q => at_all s i W (by omega) p q)
    have h8 := Lib.hid (fun W i p q => at_all t i W (by omega) p q)
    rw [a3] at h4 h7
    rw [b3] at h5 h8
    rw [e6] at h6
    have hj := Lib.hid (joined_at l m)
    have hcp := Lib.hid (fun n W => pick1_any c n W hc0 hc1)
    clear a1 a2 a3 a4 a5 b1 b2 b3 b4 b5 hlm e3 hz e5 e6 hok
    generalize Go.strOfNums (Sp.encL l) = A at *
    generalize Go.strOfNums (Sp.encL m) = B at *
    have hst2 := ByteArray.size_append (a := s) (b := t)
    go_enter Tryd.func9, Tryd.ntmps9
    go_wp2_with fail
    refine hsh.out.mono ?_
    rintro e w1 ⟨rfl, B1⟩
    have S1 := B1.size
    have T1 := Lib.hid (T0.out.below B1)
    go_wp2_with fail
    refine (h1.out _ T1.out).mono ?_
    rintro e w2 ⟨rfl, hb2⟩
    have B2 := below_then B1 S1 hb2
    have S2 := B2.size
    have T2 := Lib.hid (T1.out.below hb2)
    clear B1 S1 hb2 T1
    go_wp2_with fail
    refine (h2.out _ T2.out).mono ?_
    rintro e w3 ⟨rfl, hb3⟩
    have B3 := below_then B2 S2 hb3
    have S3 := B3.size
    have T3 := Lib.hid (T2.out.below hb3)
    clear B2 S2 hb3 T2
    go_wp2_with fail
    refine (h3.out _ T3.out).mono ?_
    rintro e w4 ⟨rfl, hb4⟩
    have B4 := below_then B3 S3 hb4
    have S4 := B4.size
    clear B3 S3 hb4 T3
    go_wp2_with fail
    refine (h4.out _).mono ?_
    rintro e w5 ⟨rfl, hb5⟩
    have B5 := below_then B4 S4 hb5
    have S5 := B5.size
    clear B4 S4 hb5
    go_wp2_with fail
    refine (h5.out _).mono ?_
    rintro e w6 ⟨rfl, hb6⟩
    have B6 := below_then B5 S5 hb6
    have S6 := B6.size
    clear B5 S5 hb6
    go_wp2_with fail
    refine (hcp.out _ _ (by omega) (by omega)).mono ?_
    rintro e w7 ⟨⟨i, rfl, hi0, hi1⟩, rfl⟩
    have hj1 := hj.out i hi0
    clear hj
    by_cases hin : (l.length : Int) ≤ i
    · rw [if_pos hin] at hj1
      go_wp2_with fail
      refine (h6.out _ i (by omega) (by omega)).mono ?_
      rintro e w8 ⟨rfl, hb8⟩
      have B8 := below_then B6 S6 hb8
      have S8 := B8.size
      clear B6 S6 hb8
      rw [hj1]
      go_wp2_with fail
      refine (h7.out _ i (by omega) (by omega)).mono ?_
      rintro e w9 ⟨rfl, hb9⟩
      have B9 := below_then B8 S8 hb9
      have S9 := B9.size
      clear B8 S8 hb9
      go_wp2_with fail
      refine (h8.out _ (i - l.length) (by omega) (by omega)).mono ?_
      rintro e w10 ⟨rfl, hb10⟩
      go_wp2
      go_ret
      exact ⟨by simp, below_then B9 S9 hb10⟩
    · rw [if_neg hin] at hj1
      go_wp2_with fail
      refine (h6.out _ i (by omega) (by omega)).mono ?_
      rintro e w8 ⟨rfl, hb8⟩
      have B8 := below_then B6 S6 hb8
      have S8 := B8.size
      clear B6 S6 hb8
      rw [hj1]
      go_wp2_with fail
      refine (h7.out _ i (by omega) (by omega)).mono ?_
      rintro e w9 ⟨rfl, hb9⟩
      have B9 := below_then B8 S8 hb9
      have S9 := B9.size
      clear B8 S8 hb9
      go_wp2
      go_ret
      exact ⟨by simp, B9⟩
  · generalize Sp.encS s = a at *
    generalize Sp.encS t = b at *
    generalize Sp.encS (s ++ t) = d at *
    obtain ⟨aa, ae⟩ := a
    obtain ⟨bb, be⟩ := b
    obtain ⟨dd, de⟩ := d
    simp only [] at hok h1 h2 h3
    have hst2 := ByteArray.size_append (a := s) (b := t)
    by_cases hae : ae = 0
    all_goals
      have hbe : ae = 0 → ¬ be = 0 := fun q r => hok ⟨q, r⟩
      clear hok
      go_enter Tryd.func9, Tryd.ntmps9
      go_wp2_with fail
      refine hsh.out.mono ?_
      rintro e w1 ⟨rfl, B1⟩
      have S1 := B1.size
      have T1 := Lib.hid (T0.out.below B1)
      go_wp2_with fail
      refine (h1.out _ T1.out).mono ?_
      rintro e w2 ⟨rfl, hb2⟩
      have B2 := below_then B1 S1 hb2
      have S2 := B2.size
      have T2 := Lib.hid (T1.out.below hb2)
      clear B1 S1 hb2 T1
      go_wp2_with fail
      refine (h2.out _ T2.out).mono ?_
      rintro e w3 ⟨rfl, hb3⟩
      have B3 := below_then B2 S2 hb3
      have S3 := B3.size
      have T3 := Lib.hid (T2.out.below hb3)
      clear B2 S2 hb3 T2
      go_wp2_with fail
      refine (h3.out _ T3.out).mono ?_
      rintro e w4 ⟨rfl, hb4⟩
      have B4 := below_then B3 S3 hb4
      have S4 := B4.size
      clear B3 S3 hb4 T3
    · subst hae
      have hbe := hbe rfl
      go_wp2
      go_ret
      exact ⟨rfl, B4⟩
    · clear hbe
      go_wp2
      go_ret
      exact ⟨rfl, B4⟩
end Go.Proofs.YtkppjehpfjalbaaDoor
