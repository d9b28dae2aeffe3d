/-
  Walk of the reference's Name.
-/
import Derived.Test.YthpfknlgfkecpaaDoorMwRrunes
set_option linter.unusedVariables false
set_option linter.unusedSimpArgs false
namespace Go.Proofs.YthpfknlgfkecpaaDoor
open Go.RowKit Go.Lib

namespace Sp
def refNameS (s : ByteArray) : Bool := (refRunes s).2 && decide (1 ≤ (refRunes s).1.length) && decide ((refRunes s).1.length ≤ 64) && (refRunes s).1.all goodR
end Sp

set_option maxHeartbeats 8000000 in
set_option maxRecDepth 100000 in
theorem refName_any (s : ByteArray) (w : World) (hs : s.size ≤ 1099511627776) :
    Calls Tryd.prog 84 #[.string s] w fun e w' => e = .returned (.bool (Sp.refNameS s)) ∧ Below w.heap.size w w' := by
  have hq := Lib.hid (refRunes_any s w hs)
  have HE := Lib.hid (show Sp.refNameS s = _ by rw [Sp.refNameS])
  generalize Sp.refNameS s = R at HE ⊢
  generalize Sp.refRunes s = q at hq HE
  obtain ⟨l, ok⟩ := q
  simp only at hq HE
  go_enter Tryd.func84, Tryd.ntmps84
  go_wp2_with fail
  refine hq.out.mono ?_
  rintro e w1 ⟨A, c, rfl, ⟨hml, hrd⟩, hb1⟩
  clear hq
  have HC := Lib.hid hrd
  clear hrd
  cases ok with
  | false =>
    have hR : Hid (R = false) := Lib.hid (by rw [HE.out]; simp)
    clear HE
    go_wp2
    go_ret
    exact ⟨by rw [hR.out]; rfl, hb1⟩
  | true =>
    by_cases h1 : (l.length : Int) < 1
    · have hR : Hid (R = false) := Lib.hid (by rw [HE.out]; simp [show ¬ 1 ≤ l.length by omega])
      clear HE
      go_wp2
      go_ret
      exact ⟨by rw [hR.out]; rfl, hb1⟩
    by_cases h2 : 64 < (l.length : Int)
    · have hR : Hid (R = false) := Lib.hid (by rw [HE.out]; simp [show ¬ l.length ≤ 64 by omega])
      clear HE
      go_wp2
      go_ret
      exact ⟨by rw [hR.out]; rfl, hb1⟩
    have hR : Hid (R = l.all Sp.goodR) := Lib.hid (by rw [HE.out]; simp [show 1 ≤ l.length by omega, show l.length ≤ 64 by omega])
    have hll : (l.length : Int) ≤ 64 := by omega
    clear HE
    go_wp2
    go_loop [5] (fun n => ∃ k : Nat, k ≤ l.length ∧ n = .int .i64 k ∧ Hid ((l.drop k).all Sp.goodR = l.all Sp.goodR)) (fun n => l.length - (RowKit.intOf n).toNat)
    case atStart => exact ⟨0, Nat.zero_le _, rfl, Lib.hid (by simp)⟩
    case round =>
      obtain ⟨k, hk, rfl, hi⟩ := hrel
      by_cases hlt : k < l.length
      · obtain ⟨b, o, rfl, hcell⟩ := HC.out (by omega)
        have hck := hcell k hlt
        clear hcell
        have hd : Hid (l.drop k = l.getD k 0 :: l.drop (k + 1)) := Lib.hid (by rw [List.drop_eq_getElem_cons hlt]; simp [List.getD_eq_getElem?_getD, hlt])
        generalize l.getD k 0 = y at hck hd
        have hi2 := Lib.hid (show (Sp.goodR y && (l.drop (k + 1)).all Sp.goodR) = l.all Sp.goodR by rw [← hi.out, hd.out, List.all_cons])
        clear hi hd
        by_cases hg : Sp.goodR y = true
        · have hi3 := Lib.hid (show (l.drop (k + 1)).all Sp.goodR = l.all Sp.goodR by rw [← hi2.out, hg, Bool.true_and])
          simp only [Sp.goodR, Bool.and_eq_true, decide_eq_true_eq, Bool.not_eq_true', decide_eq_false_iff_not, List.mem_cons, List.not_mem_nil, or_false, not_or] at hg
          obtain ⟨⟨ha, hb⟩, hc1, hc2, hc3, hc4, hc5⟩ := hg
          have e1 : (y == 127) = false := by simpa using hb
          have e2 : (y == 59) = false := by simpa using hc1
          have e3 : (y == 91) = false := by simpa using hc2
          have e4 : (y == 40) = false := by simpa using hc3
          have e5 : (y == 41) = false := by simpa using hc4
          have e6 : (y == 46) = false := by simpa using hc5
          clear hi2 hb hc1 hc2 hc3 hc4 hc5
          go_wp2
          go_round
          case rel => exact ⟨k + 1, by omega, by go_num, hi3⟩
          case measure => simp [RowKit.intOf]; omega
        · have hR2 : Hid (R = false) := Lib.hid (by rw [hR.out, ← hi2.out]; simp [hg])
          have hbad : y ≤ 32 ∨ y = 127 ∨ y = 59 ∨ y = 91 ∨ y = 40 ∨ y = 41 ∨ y = 46 := by
            simp [Sp.goodR] at hg
            by_cases h32 : 32 < y
            · by_cases h127 : y = 127
              · exact .inr (.inl h127)
              · exact .inr (.inr (by have := hg h32 h127; omega))
            · exact .inl (by omega)
          clear hi2 hR hg
          rcases hbad with hy | rfl | rfl | rfl | rfl | rfl | rfl
          all_goals
            go_wp2
            go_ret
            exact ⟨by rw [hR2.out]; rfl, hb1⟩
      · have hR2 : Hid (R = true) := Lib.hid (by rw [hR.out, ← hi.out, List.drop_eq_nil_of_le (by omega)]; rfl)
        clear hi hR
        go_wp2
        go_ret
        exact ⟨by rw [hR2.out]; rfl, hb1⟩
end Go.Proofs.YthpfknlgfkecpaaDoor
