/-
  The law MutfAgain: its walk.
-/
import Derived.Test.YtkppjehpfjalbaaDoorPl6
set_option linter.unusedVariables false
set_option linter.unusedSimpArgs false
namespace Go.Proofs.YtkppjehpfjalbaaDoor
open Go.RowKit Go.Lib

set_option maxHeartbeats 4000000 in
theorem walkMutfAgain (s : ByteArray) (w : World) (hs : s.size ≤ maxLen) (hT : Tabs w) :
    Calls Tryd.prog 8 #[.string s] w fun e w' => e = .returned (.bool true) ∧ Below w.heap.size w w' := by
  unfold maxLen at hs
  have T0 := Lib.hid hT
  have hsh := Lib.hid (shown_any w hT)
  clear hT
  by_cases hl : 65535 < s.size
  · have hlz : (65535 : Int) < (s.size : Int) := by omega
    go_enter Tryd.func8, Tryd.ntmps8
    go_wp2_with fail
    refine hsh.out.mono ?_
    rintro e w1 ⟨rfl, hb1⟩
    go_wp2
    go_ret
    exact ⟨rfl, hb1⟩
  · have hlz : ¬ (65535 : Int) < (s.size : Int) := by omega
    have h1 := Lib.hid (fun W => decode_any s W)
    rcases Sp.dec_inv s with ⟨_, h2⟩ | h2 | ⟨l, i1, i2, i3, i4⟩
    · omega
    · simp only [h2] at h1
      clear h2
      go_enter Tryd.func8, Tryd.ntmps8
      go_wp2_with fail
      refine hsh.out.mono ?_
      rintro e w1 ⟨rfl, hb1⟩
      have S1 := hb1.size
      go_wp2_with fail
      refine (h1.out _).mono ?_
      rintro e w2 ⟨rfl, hb2⟩
      go_wp2
      go_ret
      exact ⟨by simp, below_then hb1 S1 hb2⟩
    · simp only [i3] at h1
      have hsz : (Go.strOfNums (Sp.utfL l)).size ≤ 1099511627776 := by
        rw [Sp.text_size]
        have hq : ∀ l : List Int, (Sp.utfL l).length ≤ 4 * (Sp.encL l).length := by
          intro l
          induction l with
          | nil => simp [Sp.utfL]
          | cons r l ih =>
            have q1 := encodeRuneZ_length r
            have q2 := Sp.encZ_length r
            rw [Sp.encL_cons, show Sp.utfL (r :: l) = encodeRuneZ r ++ Sp.utfL l by simp [Sp.utfL], List.length_append, List.length_append]
            omega
        have := hq l
        omega
      have h2 := Lib.hid (fun W hT => encode_any (Go.strOfNums (Sp.utfL l)) W hsz hT)
      simp only [Sp.enc_utf l i1 i4, ← i2] at h2
      clear i1 i2 i3 i4 hsz
      generalize Go.strOfNums (Sp.utfL l) = t at h1 h2
      go_enter Tryd.func8, Tryd.ntmps8
      go_wp2_with fail
      refine hsh.out.mono ?_
      rintro e w1 ⟨rfl, hb1⟩
      have S1 := hb1.size
      go_wp2_with fail
      refine (h1.out _).mono ?_
      rintro e w2 ⟨rfl, hb2⟩
      have hb2' := below_then hb1 S1 hb2
      have S2 := hb2'.size
      go_wp2_with fail
      refine (h2.out _ ((T0.out.below hb1).below hb2)).mono ?_
      rintro e w3 ⟨rfl, hb3⟩
      go_wp2
      go_ret
      exact ⟨by simp, below_then hb2' S2 hb3⟩
end Go.Proofs.YtkppjehpfjalbaaDoor
