/-
  Texts of the proof, joined: each says at its head what it proves.
-/
import Derived.Test.YthpfknlgfkecpaaDoorJg18
import Derived.Test.YthpfknlgfkecpaaDoorJg6
import Derived.Test.YthpfknlgfkecpaaDoorJg11
import Derived.Test.YthpfknlgfkecpaaDoorJFileNamesx3
import Derived.Test.YthpfknlgfkecpaaDoorJg19
import Derived.Test.YthpfknlgfkecpaaDoorJg24
import Derived.Test.YthpfknlgfkecpaaDoorJg26
import Derived.Deep.RegionHeld3
import Derived.Deep.RegionWith
section
/-
  Walk of FileBack.
-/
set_option linter.unusedVariables false
set_option linter.unusedSimpArgs false
namespace Go.Proofs.YthpfknlgfkecpaaDoor
open Go.RowKit Go.Lib

set_option maxHeartbeats 8000000 in
set_option maxRecDepth 100000 in
theorem fileBack_any (q : Sp.At) (F : FlP) (cut : Int) (w : World) (hr : RdF w q F) (hF : FlOk F) (hT : Tabs w) (hN : Sp.textN F.pool + Sp.codeN (F.methods.map (·.1)) + Sp.codeN (F.fields.map (·.1)) ≤ 4611686018427387904) (hct : In64 cut) :
    Calls Tryd.prog 13 #[.agg (flC q F), .int .i64 cut] w fun e w' => e = .returned (.bool true) ∧ Below w.heap.size w w' := by
  have hK := Lib.hid (blk_new w (.cells (flC q F) 53))
  have hB := (Below.refl w.heap.size w).alloc (Nat.le_refl _) (.cells (flC q F) 53)
  have KS : ∀ X : Array Value, X = flC q F →
      Hid (∀ W, Below w.heap.size w W → Calls Tryd.prog 33 #[.agg X] W fun e w' => e = .returned (.bool (Sp.smallS F.fl)) ∧ Below W.heap.size W w') ∧
      Hid (Sp.smallS F.fl = true → ∀ W, Below w.heap.size w W → Calls Tryd.prog 36 #[.agg X] W fun e w' => e = .returned (.int .i64 (Sp.encodeF F.fl).2) ∧ Below W.heap.size W w') ∧
      Hid (Sp.smallS F.fl = true → ∀ W, Below w.heap.size w W → Calls Tryd.prog 34 #[.agg X] W fun e w' => e = .returned (.tuple #[.string (Sp.encodeF F.fl).1, .int .i64 (Sp.encodeF F.fl).2]) ∧ Below W.heap.size W w') ∧
      Hid (∀ q' G, G.fl = F.fl → ∀ W, Below w.heap.size w W → RdF W q' G → Calls Tryd.prog 46 #[.agg X, .agg (flC q' G)] W fun e w' => e = .returned (.bool true) ∧ Below W.heap.size W w') := by
    rintro X rfl
    exact ⟨Lib.hid (fun W hb => small_any q F W (rdF_below hr hb) hN), Lib.hid (fun hs W hb => fileRight_any q F W (rdF_below hr hb) hF (hT.below hb) (Sp.small_bytes hs)), Lib.hid (fun hs W hb => fileEnc_any q F W (rdF_below hr hb) hF (hT.below hb) (Sp.small_bytes hs)), Lib.hid (fun q' G hG W hb hrG => (sameFile_any q q' F G W (rdF_below hr hb) hrG).mono fun e w' h => ⟨by rw [h.1, Sp.sameF_true hG.symm], h.2⟩)⟩
  have hsh := Lib.hid (fun W (hb : Below w.heap.size w W) => fileShown_any W (hT.below hb))
  have kpa := fun (s : ByteArray) (W : World) (hb : Below w.heap.size w W) (hs : s.size ≤ 1099511627776) => fparse_any s W (hT.below hb) hs
  have hvoid := Lib.hid (fun h => Sp.encode_void (F := F.fl) h)
  have KP : (Sp.encodeF F.fl).2 = 0 → (0 < (Sp.encodeF F.fl).1.size ∧ (Sp.encodeF F.fl).1.size ≤ 65536) ∧
      (∀ W, Below w.heap.size w W → Calls Tryd.prog 45 #[.string (Sp.encodeF F.fl).1] W fun x w' => ∃ q' G, G.fl = F.fl ∧ x = .returned (.tuple #[.agg (flC q' G), .int .i64 0]) ∧ RdF w' q' G ∧ Below W.heap.size W w') ∧
      (∀ k, k < (Sp.encodeF F.fl).1.size → ∀ W, Below w.heap.size w W → Calls Tryd.prog 45 #[.string ((Sp.encodeF F.fl).1.extract 0 k)] W fun x w' => ∃ q' G, x = .returned (.tuple #[.agg (flC q' G), .int .i64 5]) ∧ Below W.heap.size W w') ∧
      (∀ W, Below w.heap.size w W → Calls Tryd.prog 45 #[.string ((Sp.encodeF F.fl).1 ++ ⟨#[120]⟩)] W fun x w' => ∃ q' G, x = .returned (.tuple #[.agg (flC q' G), .int .i64 (if (Sp.encodeF F.fl).1.size = 65536 then 2 else 6)]) ∧ Below W.heap.size W w') := fun h => by
    obtain ⟨⟨h0, h1⟩, h2, h3, h4⟩ := Sp.back_all h (fun c hc => (hF.pool c hc).2.1)
    refine ⟨⟨h0, h1⟩, fun W hb => ?_, fun k hk W hb => ?_, fun W hb => ?_⟩
    · refine (kpa _ W hb (by omega)).mono ?_
      rintro x w' ⟨q', G, hG, rfl, hrG, hb'⟩
      rw [h2] at hG
      exact ⟨q', G, hG, by rw [h2], hrG, hb'⟩
    · refine (kpa _ W hb (by rw [ByteArray.size_extract]; omega)).mono ?_
      rintro x w' ⟨q', G, hG, rfl, hrG, hb'⟩
      exact ⟨q', G, by rw [h3 k hk], hb'⟩
    · refine (kpa _ W hb (by rw [ByteArray.size_append]; have : (⟨#[120]⟩ : ByteArray).size = 1 := rfl; omega)).mono ?_
      rintro x w' ⟨q', G, hG, rfl, hrG, hb'⟩
      exact ⟨q', G, by rw [h4], hb'⟩
  have hKP := Lib.hid KP
  clear hr hF hT hN KP kpa
  obtain ⟨pool, fl, th, su, ifs, flds, mths⟩ := F
  obtain ⟨qA, qc, qI, qd, qX, qe, qY, qg⟩ := q
  obtain ⟨ks, kr, ke, kq⟩ := KS #[.slice qA pool.length qc, .int .i64 fl, .int .i64 th, .int .i64 su, .slice qI ifs.length qd, .slice qX flds.length qe, .slice qY mths.length qg] rfl
  clear KS
  have hfl : flC ⟨qA, qc, qI, qd, qX, qe, qY, qg⟩ ⟨pool, fl, th, su, ifs, flds, mths⟩ = #[.slice qA pool.length qc, .int .i64 fl, .int .i64 th, .int .i64 su, .slice qI ifs.length qd, .slice qX flds.length qe, .slice qY mths.length qg] := rfl
  rw [hfl] at hK hB ⊢
  clear hfl
  generalize hFl : FlP.fl ⟨pool, fl, th, su, ifs, flds, mths⟩ = FL at *
  generalize Sp.smallS FL = sm at *
  generalize Sp.encodeF FL = EF at *
  obtain ⟨eb, er⟩ := EF
  simp only [] at kr ke hvoid hKP
  clear hFl
  go_enter Tryd.func13, Tryd.ntmps13
  go_wp2_with fail
  refine (hsh.out _ hB).mono ?_
  rintro e w1 ⟨rfl, hb1⟩
  have B1 := below_then hB hB.size hb1
  have K1 := Lib.hid (blk_below hK.out hb1)
  have z1 := B1.size
  clear hB hK hb1 hsh
  obtain ⟨c0, c1, c2, c3, c4, c5, c6⟩ := cells7m K1.out
  go_wp2_with fail
  refine (ks.out _ B1).mono ?_
  rintro e w2 ⟨rfl, hb2⟩
  have B2 := below_then B1 z1 hb2
  have K2 := Lib.hid (blk_below K1.out hb2)
  have z2 := B2.size
  clear B1 K1 z1 hb2 ks c0 c1 c2 c3 c4 c5 c6
  cases sm with
  | false =>
    clear kr ke kq hKP hvoid
    go_wp2
    go_ret
    exact ⟨rfl, B2⟩
  | true =>
    obtain ⟨c0, c1, c2, c3, c4, c5, c6⟩ := cells7m K2.out
    go_wp2_with fail
    refine (ke.out (by simp) _ B2).mono ?_
    rintro e w3 ⟨rfl, hb3⟩
    have B3 := below_then B2 z2 hb3
    have K3 := Lib.hid (blk_below K2.out hb3)
    have z3 := B3.size
    clear B2 K2 z2 hb3 ke c0 c1 c2 c3 c4 c5 c6
    obtain ⟨c0, c1, c2, c3, c4, c5, c6⟩ := cells7m K3.out
    by_cases he : er = 0
    rotate_left
    · obtain rfl := hvoid.out he
      have hb0 : (er != 0) = true := by simp [he]
      clear hKP kq hvoid
      go_wp2_with fail
      refine (kr.out (by simp) _ B3).mono ?_
      rintro e w4 ⟨rfl, hb4⟩
      have B4 := below_then B3 z3 hb4
      go_wp2
      go_ret
      exact ⟨by first | rfl | simp, B4⟩
    · subst he
      obtain ⟨⟨h0, h1⟩, p1, p2, p3⟩ := hKP.out rfl
      have P1 := Lib.hid p1
      have P2 := Lib.hid p2
      have P3 := Lib.hid p3
      clear p1 p2 p3 kr hKP hvoid
      go_wp2_with fail
      refine (P1.out _ B3).mono ?_
      rintro e w4 ⟨q', G, hG, rfl, hrG, hb4⟩
      have B4 := below_then B3 z3 hb4
      have K4 := Lib.hid (blk_below K3.out hb4)
      clear B3 K3 z3 hb4 P1 c0 c1 c2 c3 c4 c5 c6
      have ksm := Lib.hid (kq.out q' G hG)
      clear kq
      obtain ⟨pool', fl', th', su', ifs', flds', mths'⟩ := G
      obtain ⟨rA, rc, rI, rd, rX, re, rY, rg⟩ := q'
      have hrG1 := Lib.hid hrG
      clear hrG hG
      have hfl : flC ⟨rA, rc, rI, rd, rX, re, rY, rg⟩ ⟨pool', fl', th', su', ifs', flds', mths'⟩ = #[.slice rA pool'.length rc, .int .i64 fl', .int .i64 th', .int .i64 su', .slice rI ifs'.length rd, .slice rX flds'.length re, .slice rY mths'.length rg] := rfl
      rw [hfl] at ksm ⊢
      clear hfl
      have hG5 := Lib.hid (blk_new w4 (.cells #[.slice rA pool'.length rc, .int .i64 fl', .int .i64 th', .int .i64 su', .slice rI ifs'.length rd, .slice rX flds'.length re, .slice rY mths'.length rg] 53))
      have K5 := Lib.hid (blk_old (o := .cells #[.slice rA pool'.length rc, .int .i64 fl', .int .i64 th', .int .i64 su', .slice rI ifs'.length rd, .slice rX flds'.length re, .slice rY mths'.length rg] 53) K4.out)
      have hb5 := (Below.refl w4.heap.size w4).alloc (Nat.le_refl _) (.cells #[.slice rA pool'.length rc, .int .i64 fl', .int .i64 th', .int .i64 su', .slice rI ifs'.length rd, .slice rX flds'.length re, .slice rY mths'.length rg] 53)
      have B5 := Lib.hid (below_then B4 B4.size hb5)
      have hr5 := Lib.hid (rdF_below hrG1.out hb5)
      clear hb5 hrG1 B4
      go_upto_region 11 with fail
      generalize w4.alloc (.cells #[.slice rA pool'.length rc, .int .i64 fl', .int .i64 th', .int .i64 su', .slice rI ifs'.length rd, .slice rX flds'.length re, .slice rY mths'.length rg] 53) = W5 at *
      obtain ⟨c0, c1, c2, c3, c4, c5, c6⟩ := cells7m K5.out
      obtain ⟨d0, d1, d2, d3, d4, d5, d6⟩ := cells7m hG5.out
      have hlf := blk_lt hG5.out
      have hlk := blk_lt K5.out
      go_wp2_with fail
      refine (ksm.out W5 B5.out hr5.out).mono ?_
      rintro e w6 ⟨rfl, hb6⟩
      have B6 := Lib.hid (below_then B5.out B5.out.size hb6)
      clear c0 c1 c2 c3 c4 c5 c6 d0 d1 d2 d3 d4 d5 d6 hlf hlk K5 hG5 B5 hr5 hb6 ksm K4
      have hz0 : (0 : Int) < (eb.size : Int) := by omega
      have hz1 : (eb.size : Int) ≤ 9223372036854775807 := by omega
      have kpk := Lib.hid (fun W => pick3b_any cut (eb.size : Int) W hct hz0 hz1)
      go_wp2_with fail
      refine (kpk.out w6).mono ?_
      rintro e w7 ⟨⟨i, rfl, hi0, hi1⟩, rfl⟩
      obtain ⟨k, rfl⟩ := Int.eq_ofNat_of_zero_le hi0
      have hk : k < eb.size := by omega
      have hki : (k : Int) ≤ (eb.size : Int) := by omega
      have P2k := Lib.hid (P2.out k hk)
      clear P2 kpk
      go_wp2_with fail
      refine (P2k.out w7 B6.out).mono ?_
      rintro e w8 ⟨q2, G2, rfl, hb8⟩
      have B8 := Lib.hid (below_then B6.out B6.out.size hb8)
      clear B6 hb8 P2k
      obtain ⟨pool2, fl2, th2, su2, ifs2, flds2, mths2⟩ := G2
      obtain ⟨sA, sc, sI, sd, sX, se, sY, sg⟩ := q2
      rw [show flC ⟨sA, sc, sI, sd, sX, se, sY, sg⟩ ⟨pool2, fl2, th2, su2, ifs2, flds2, mths2⟩ = #[.slice sA pool2.length sc, .int .i64 fl2, .int .i64 th2, .int .i64 su2, .slice sI ifs2.length sd, .slice sX flds2.length se, .slice sY mths2.length sg] from rfl]
      have B9 := Lib.hid (B8.out.alloc B8.out.size (.cells #[.slice sA pool2.length sc, .int .i64 fl2, .int .i64 th2, .int .i64 su2, .slice sI ifs2.length sd, .slice sX flds2.length se, .slice sY mths2.length sg] 53))
      go_upto_region 13 with fail
      generalize w8.alloc (.cells #[.slice sA pool2.length sc, .int .i64 fl2, .int .i64 th2, .int .i64 su2, .slice sI ifs2.length sd, .slice sX flds2.length se, .slice sY mths2.length sg] 53) = W9 at *
      go_wp2_with fail
      refine (P3.out W9 B9.out).mono ?_
      rintro e w10 ⟨q3, G3, rfl, hb10⟩
      have B10 := Lib.hid (below_then B9.out B9.out.size hb10)
      clear B8 B9 hb10 P3
      obtain ⟨pool3, fl3, th3, su3, ifs3, flds3, mths3⟩ := G3
      obtain ⟨uA, uc, uI, ud, uX, ue, uY, ug⟩ := q3
      rw [show flC ⟨uA, uc, uI, ud, uX, ue, uY, ug⟩ ⟨pool3, fl3, th3, su3, ifs3, flds3, mths3⟩ = #[.slice uA pool3.length uc, .int .i64 fl3, .int .i64 th3, .int .i64 su3, .slice uI ifs3.length ud, .slice uX flds3.length ue, .slice uY mths3.length ug] from rfl]
      have B11 := Lib.hid (B10.out.alloc B10.out.size (.cells #[.slice uA pool3.length uc, .int .i64 fl3, .int .i64 th3, .int .i64 su3, .slice uI ifs3.length ud, .slice uX flds3.length ue, .slice uY mths3.length ug] 53))
      go_upto_region 14 with fail
      generalize w10.alloc (.cells #[.slice uA pool3.length uc, .int .i64 fl3, .int .i64 th3, .int .i64 su3, .slice uI ifs3.length ud, .slice uX flds3.length ue, .slice uY mths3.length ug] 53) = W11 at *
      by_cases hs : eb.size = 65536
      · rw [if_pos hs]
        have hs1 : ((eb.size : Int) == 65536) = true := by simp [hs]
        go_wp2
        go_ret
        exact ⟨rfl, B11.out⟩
      · rw [if_neg hs]
        go_wp2
        go_ret
        exact ⟨rfl, B11.out⟩
theorem walkFileBack (q : Sp.At) (F : FlP) (cut : Int) (w : World) (h : FlIn w q F) (h1 : -9223372036854775808 ≤ cut) (h2 : cut ≤ 9223372036854775807) (hT : Tabs w) (hb : F.bulk ≤ 1048576) :
    Calls Tryd.prog 13 #[.agg (flC q F), .int .i64 cut] w fun e w' => e = .returned (.bool true) ∧ Below w.heap.size w w' :=
  fileBack_any q F cut w h.rd (h.ok hb) hT (FlP.sizes hb) ⟨h1, h2⟩
end Go.Proofs.YthpfknlgfkecpaaDoor
end
