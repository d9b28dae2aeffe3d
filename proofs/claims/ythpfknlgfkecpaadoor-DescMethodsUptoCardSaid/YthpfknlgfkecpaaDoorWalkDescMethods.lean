/-
  The law DescMethods: its walk.
-/
import Derived.Test.YthpfknlgfkecpaaDoorDsShown
import Derived.Test.YthpfknlgfkecpaaDoorDsSame
import Derived.Test.YthpfknlgfkecpaaDoorDs10
set_option linter.unusedVariables false
set_option linter.unusedSimpArgs false
namespace Go.Proofs.YthpfknlgfkecpaaDoor
open Go.RowKit Go.Lib

set_option maxHeartbeats 8000000 in
set_option maxRecDepth 100000 in
theorem walkDescMethods (s : ByteArray) (A : Option Addr) (c : Nat) (l : List Sp.Ty) (t : Sp.Ty) (v : Bool) (w : World) (hs63 : s.size ≤ maxLen) (hrd : RdT w A l) (_hel : ∀ t ∈ l, (-9223372036854775808 ≤ t.1 ∧ t.1 ≤ 9223372036854775807) ∧ t.2.size ≤ maxLen) (_hd : -9223372036854775808 ≤ t.1 ∧ t.1 ≤ 9223372036854775807) (hT : Tabs w) (_hs : s.data.toList.length ≤ 1048576) (hbulk : Sp.namesZ l + l.length + t.2.size ≤ 1048576) :
    Calls Tryd.prog 6 #[.string s, Sp.sigV A c (l, t, v)] w fun e w' => e = .returned (.bool true) ∧ Below w.heap.size w w' := by
  obtain ⟨d, n⟩ := t
  simp only [] at hbulk
  have hss0 : s.size ≤ 1048576 := _hs
  clear _hel _hd _hs hs63
  have T0 := Lib.hid hT
  have hl63 : l.length ≤ 1048576 := by omega
  clear hT
  unfold Sp.sigV
  simp only []
  have hk := Lib.hid (fun W hT => shown2_any W hT)
  have hrd0 := Lib.hid hrd
  clear hrd
  go_enter Tryd.func6, Tryd.ntmps6
  have hK := Lib.hid (blk_new w (.cells #[.slice A l.length c, .int .i64 d, .string n, .bool v] 37))
  have hB := (Below.refl w.heap.size w).alloc (Nat.le_refl _) (.cells #[.slice A l.length c, .int .i64 d, .string n, .bool v] 37)
  have hS : w.heap.size ≤ (w.alloc (.cells #[.slice A l.length c, .int .i64 d, .string n, .bool v] 37)).heap.size := by simp
  go_wp2_with fail
  generalize w.alloc (.cells #[.slice A l.length c, .int .i64 d, .string n, .bool v] 37) = W0 at *
  refine (hk.out _ (T0.out.below hB)).mono ?_
  rintro e w1 ⟨rfl, hb1⟩
  clear hk
  have K1 := Lib.hid (blk_below hK.out hb1)
  have B1 := below_then hB hS hb1
  have S1 := B1.size
  clear hK hB hS hb1
  obtain ⟨⟨c0, c1, c2, c3⟩, f0, f1, f2, f3⟩ := blk4 K1.out
  by_cases hbs : 50000 < s.size
  · have hz : (50000 : Int) < (s.size : Int) := by omega
    go_wp2
    go_ret
    exact ⟨rfl, B1⟩
  have hzs : ¬ (50000 : Int) < (s.size : Int) := by omega
  by_cases hbig : 1000 < l.length
  · have hz : (1000 : Int) < (l.length : Int) := by omega
    go_wp2
    go_ret
    exact ⟨rfl, B1⟩
  have hz : ¬ (1000 : Int) < (l.length : Int) := by omega
  have k1 := Lib.hid (fun W hT => method_any s W (by omega) hT)
  have k2 := Lib.hid (fun W => refMethod_any s W (by omega))
  have k3 := Lib.hid (fun W hrd hT => sign_any A c l d n v W hrd (by omega) (by omega) hT)
  have k4 := Lib.hid (fun W hrd => refSign_any A c l d n v W hrd (by omega) (by omega))
  have k5 := Lib.hid (fun A A' c c' W h1 h2 => same_any (Sp.methodS s).1 A A' c c' W h1 h2)
  generalize Sp.methodS s = M at *
  generalize Sp.signS (l, (d, n), v) = G at *
  obtain ⟨⟨ml, ⟨md, mn⟩, mv⟩, me⟩ := M
  obtain ⟨gs, ge⟩ := G
  unfold Sp.sigV at k1 k2 k5
  simp only [] at k1 k2 k3 k4 k5
  go_wp2_with fail
  refine (k1.out _ (T0.out.below B1)).mono ?_
  rintro e w2 ⟨A1, c1', rfl, hr1, hb⟩
  have K2 := Lib.hid (blk_below K1.out hb)
  have B2 := below_then B1 S1 hb
  have S2 := B2.size
  clear hb B1 S1 K1 k1 c0 c1 c2 c3 f0 f1 f2 f3
  go_wp2_with fail
  refine (k2.out _).mono ?_
  rintro e w3 ⟨A2, c2', rfl, hr2, hb⟩
  have K3 := Lib.hid (blk_below (blk_old K2.out) hb)
  have M3 := Lib.hid (blk_below (blk_new w2 (.cells #[.slice A1 ml.length c1', .int .i64 md, .string mn, .bool mv] 37)) hb)
  have R13 := Lib.hid (rdT_below (rdT_below hr1 ((Below.refl _ _).alloc (Nat.le_refl _) _)) hb)
  have B3 := below_then (B2.alloc S2 _) (by simp; omega) hb
  have S3 := B3.size
  clear hb B2 S2 K2 k2 hr1
  obtain ⟨⟨c0, c1, c2, c3⟩, f0, f1, f2, f3⟩ := blk4 K3.out
  have hlk := blk_lt K3.out
  have TW := Lib.hid (T0.out.below (B3.alloc S3 (.cells #[.slice A2 ml.length c2', .int .i64 md, .string mn, .bool mv] 40)))
  have RW := Lib.hid (rdT_below hrd0.out (show Below w.heap.size w _ from B3.alloc S3 (.cells #[.slice A2 ml.length c2', .int .i64 md, .string mn, .bool mv] 40)))
  go_wp2_with fail
  refine (k3.out _ RW.out TW.out).mono ?_
  rintro e w4 ⟨rfl, hb⟩
  have K4 := Lib.hid (blk_below (blk_old K3.out) hb)
  have M4 := Lib.hid (blk_below (blk_old M3.out) hb)
  have N4 := Lib.hid (blk_below (blk_new w3 (.cells #[.slice A2 ml.length c2', .int .i64 md, .string mn, .bool mv] 40)) hb)
  have R14 := Lib.hid (rdT_below (rdT_below R13.out ((Below.refl _ _).alloc (Nat.le_refl _) _)) hb)
  have R24 := Lib.hid (rdT_below (rdT_below hr2 ((Below.refl _ _).alloc (Nat.le_refl _) _)) hb)
  have B4 := below_then (B3.alloc S3 _) (by simp; omega) hb
  have S4 := B4.size
  clear hb B3 S3 K3 M3 R13 hr2 k3 c0 c1 c2 c3 f0 f1 f2 f3 hlk TW RW
  obtain ⟨⟨c0, c1, c2, c3⟩, f0, f1, f2, f3⟩ := blk4 K4.out
  have RW := Lib.hid (rdT_below hrd0.out (show Below w.heap.size w _ from B4))
  go_wp2_with fail
  refine (k4.out _ RW.out).mono ?_
  rintro e w5 ⟨rfl, hb⟩
  have M5 := Lib.hid (blk_below M4.out hb)
  have N5 := Lib.hid (blk_below N4.out hb)
  have R15 := Lib.hid (rdT_below R14.out hb)
  have R25 := Lib.hid (rdT_below R24.out hb)
  have B5 := below_then B4 S4 hb
  have S5 := B5.size
  clear hb B4 S4 K4 M4 N4 R14 R24 k4 c0 c1 c2 c3 f0 f1 f2 f3 RW
  obtain ⟨⟨c0, c1, c2, c3⟩, f0, f1, f2, f3⟩ := blk4 M5.out
  obtain ⟨⟨d0, d1, d2, d3⟩, g0, g1, g2, g3⟩ := blk4 N5.out
  go_wp2_with fail
  refine (k5.out _ _ _ _ _ R15.out R25.out).mono ?_
  rintro e w6 ⟨rfl, hb⟩
  have B6 := below_then B5 S5 hb
  clear c0 c1 c2 c3 f0 f1 f2 f3 d0 d1 d2 d3 g0 g1 g2 g3
  go_wp2
  go_ret
  exact ⟨by simp, B6⟩
end Go.Proofs.YthpfknlgfkecpaaDoor
