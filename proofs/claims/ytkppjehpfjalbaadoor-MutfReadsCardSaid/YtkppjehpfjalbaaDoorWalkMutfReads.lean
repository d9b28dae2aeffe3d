/-
  The law MutfReads: its walk.
-/
import Derived.Test.YtkppjehpfjalbaaDoorMwShown
import Derived.Test.YtkppjehpfjalbaaDoorPl3
set_option linter.unusedVariables false
set_option linter.unusedSimpArgs false
namespace Go.Proofs.YtkppjehpfjalbaaDoor
open Go.RowKit Go.Lib

set_option maxHeartbeats 4000000 in
theorem walkMutfReads (s : ByteArray) (w : World) (hs : s.size ≤ maxLen) (hT : Tabs w) :
    Calls Tryd.prog 6 #[.string s] w fun e w' => e = .returned (.bool true) ∧ Below w.heap.size w w' := by
  unfold maxLen at hs
  have hsh := Lib.hid (shown_any w hT)
  clear hT
  by_cases hl : 100000 < s.size
  · have hlz : (100000 : Int) < (s.size : Int) := by omega
    go_enter Tryd.func6, Tryd.ntmps6
    go_wp2_with fail
    refine hsh.out.mono ?_
    rintro e w1 ⟨rfl, hb1⟩
    go_wp2
    go_ret
    exact ⟨rfl, hb1⟩
  · have hlz : ¬ (100000 : Int) < (s.size : Int) := by omega
    have hE := Sp.decS_eq s
    have h1 := Lib.hid (fun W => decode_any s W)
    have h2 := Lib.hid (fun W => refDecode_any s W (by omega))
    rw [← hE] at h2
    clear hE
    generalize Sp.decS s = v at h1 h2
    obtain ⟨vs, ve⟩ := v
    simp only [] at h1 h2
    go_enter Tryd.func6, Tryd.ntmps6
    go_wp2_with fail
    refine hsh.out.mono ?_
    rintro e w1 ⟨rfl, hb1⟩
    have S1 := hb1.size
    go_wp2_with fail
    refine (h1.out _).mono ?_
    rintro e w2 ⟨rfl, hb2⟩
    have hb2' := below_then hb1 S1 hb2
    have S2 := hb2'.size
    go_wp2_with fail
    refine (h2.out _).mono ?_
    rintro e w3 ⟨rfl, hb3⟩
    go_wp2
    go_ret
    exact ⟨by simp, below_then hb2' S2 hb3⟩
end Go.Proofs.YtkppjehpfjalbaaDoor
