/-
  Texts of the proof, joined: each says at its head what it proves.
-/
import Derived.Test.YthpfknlgfkecpaaDoorJf18
import Derived.Test.YthpfknlgfkecpaaDoorJf6
import Derived.Test.YthpfknlgfkecpaaDoorJf11
import Derived.Deep.RegionHeld3
import Derived.Deep.RegionWith
section
/-
  Walk of FileAgain.
-/
set_option linter.unusedVariables false
set_option linter.unusedSimpArgs false
namespace Go.Proofs.YthpfknlgfkecpaaDoor
open Go.RowKit Go.Lib

set_option maxHeartbeats 8000000 in
set_option maxRecDepth 100000 in
theorem walkFileAgain (b : ByteArray) (w : World) (hb : b.size ≤ maxLen) (hT : Tabs w) :
    Calls Tryd.prog 14 #[.string b] w fun e w' => e = .returned (.bool true) ∧ Below w.heap.size w w' := by
  have hB0 := Below.refl w.heap.size w
  have hsh := Lib.hid (fun W (hb : Below w.heap.size w W) => fileShown_any W (hT.below hb))
  by_cases hl : 70000 < b.size
  · have hz : (70000 : Int) < (b.size : Int) := by omega
    go_enter Tryd.func14, Tryd.ntmps14
    go_wp2_with fail
    refine (hsh.out _ hB0).mono ?_
    rintro e w1 ⟨rfl, hb1⟩
    go_wp2
    go_ret
    exact ⟨rfl, hb1⟩
  · have hz : ¬ (70000 : Int) < (b.size : Int) := by omega
    have kpa := Lib.hid (fun W (h : Below w.heap.size w W) => fparse_any b W (hT.below h) (by omega))
    have hag := Sp.parse_again b
    have hby := fun h => (Sp.parse_inv b h).2.1
    have hno := Sp.parse_none b
    have hok := Sp.parse_ok b
    generalize Sp.parseS b = PS at *
    obtain ⟨f, er⟩ := PS
    simp only [] at kpa hag hby hno hok
    have hag1 := Lib.hid hag
    have hby1 := Lib.hid hby
    have hno1 := Lib.hid hno
    have hok1 := Lib.hid hok
    clear hag hby hno hok
    go_enter Tryd.func14, Tryd.ntmps14
    go_wp2_with fail
    refine (hsh.out _ hB0).mono ?_
    rintro e w1 ⟨rfl, hb1⟩
    clear hsh
    go_wp2_with fail
    refine (kpa.out _ hb1).mono ?_
    rintro x w2 ⟨q, F, hfl, rfl, hrd, hb2⟩
    have B2 := below_then hb1 hb1.size hb2
    have hF := hok1.out F hfl
    clear hb2 kpa hok1 hB0
    subst hfl
    have ke := Lib.hid (fun (h : er = 0) W (hb : Below w2.heap.size w2 W) => fileEnc_any q F W (rdF_below hrd hb) hF (hT.below (below_then B2 B2.size hb)) (by rw [hby1.out h, nums_length]; omega))
    have kr := Lib.hid (fun (h : er = 0) W (hb : Below w2.heap.size w2 W) => fileRight_any q F W (rdF_below hrd hb) hF (hT.below (below_then B2 B2.size hb)) (by rw [hby1.out h, nums_length]; omega))
    obtain ⟨pool, fl, th, su, ifs, flds, mths⟩ := F
    obtain ⟨qA, qc, qI, qd, qX, qe, qY, qg⟩ := q
    have hfl : flC ⟨qA, qc, qI, qd, qX, qe, qY, qg⟩ ⟨pool, fl, th, su, ifs, flds, mths⟩ = #[.slice qA pool.length qc, .int .i64 fl, .int .i64 th, .int .i64 su, .slice qI ifs.length qd, .slice qX flds.length qe, .slice qY mths.length qg] := rfl
    rw [hfl] at ke kr ⊢
    clear hfl
    have K3 := Lib.hid (blk_new w2 (.cells #[.slice qA pool.length qc, .int .i64 fl, .int .i64 th, .int .i64 su, .slice qI ifs.length qd, .slice qX flds.length qe, .slice qY mths.length qg] 53))
    have B3' := Lib.hid ((Below.refl w2.heap.size w2).alloc (Nat.le_refl _) (.cells #[.slice qA pool.length qc, .int .i64 fl, .int .i64 th, .int .i64 su, .slice qI ifs.length qd, .slice qX flds.length qe, .slice qY mths.length qg] 53))
    by_cases he : er = 0
    · subst he
      have k1 := Lib.hid (ke.out rfl)
      have k2 := Lib.hid (kr.out rfl)
      have hE := hag1.out rfl
      rw [hE] at k1 k2
      clear ke kr hag1 hby1 hno1 hrd hF hE
      simp only [] at k1 k2
      go_upto_region 7 with fail
      generalize w2.alloc (.cells #[.slice qA pool.length qc, .int .i64 fl, .int .i64 th, .int .i64 su, .slice qI ifs.length qd, .slice qX flds.length qe, .slice qY mths.length qg] 53) = W3 at *
      obtain ⟨c0, c1, c2, c3, c4, c5, c6⟩ := cells7m K3.out
      have hlf := blk_lt K3.out
      have tb : (b.toList == b.toList) = true := by simp
      go_wp2_with fail
      refine (k1.out W3 B3'.out).mono ?_
      rintro e w4 ⟨rfl, hb4⟩
      have B4 := Lib.hid (below_then B3'.out B3'.out.size hb4)
      have K4 := Lib.hid (blk_below K3.out hb4)
      clear K3 B3' hb4 k1 hlf c0 c1 c2 c3 c4 c5 c6
      obtain ⟨c0, c1, c2, c3, c4, c5, c6⟩ := cells7m K4.out
      have hlf := blk_lt K4.out
      go_wp2_with fail
      refine (k2.out w4 B4.out).mono ?_
      rintro e w5 ⟨rfl, hb5⟩
      have B5 := below_then B2 B2.size (below_then B4.out B4.out.size hb5)
      clear B4 K4 hb5 k2 hlf c0 c1 c2 c3 c4 c5 c6
      go_wp2
      go_ret
      exact ⟨rfl, B5⟩
    · have hno2 := hno1.out he
      have hb0 : (er == 0) = false := by simp [he]
      have hb2 : (er != 0) = true := by simp [he]
      have hp : pool = [] := congrArg Sp.Fl.pool hno2
      subst hp
      clear ke kr hag1 hby1 hno1 hrd hF
      go_upto_region 7 with fail
      generalize w2.alloc (.cells #[.slice qA ([] : List Sp.Cn).length qc, .int .i64 fl, .int .i64 th, .int .i64 su, .slice qI ifs.length qd, .slice qX flds.length qe, .slice qY mths.length qg] 53) = W3 at *
      obtain ⟨c0, c1, c2, c3, c4, c5, c6⟩ := cells7m K3.out
      have hlf := blk_lt K3.out
      have B5 := below_then B2 B2.size B3'.out
      go_wp2
      go_ret
      exact ⟨rfl, B5⟩
end Go.Proofs.YthpfknlgfkecpaaDoor
end
