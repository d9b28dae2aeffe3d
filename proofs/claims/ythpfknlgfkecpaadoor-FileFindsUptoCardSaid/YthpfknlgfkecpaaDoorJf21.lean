/-
  Texts of the proof, joined: each says at its head what it proves.
-/
import Derived.Test.YthpfknlgfkecpaaDoorJf5
import Derived.Test.YthpfknlgfkecpaaDoorJf17
import Derived.Test.YthpfknlgfkecpaaDoorJFileNamesx3
import Derived.Test.YthpfknlgfkecpaaDoorJf18
import Derived.Test.YthpfknlgfkecpaaDoorJf8
import Derived.Test.YthpfknlgfkecpaaDoorJf20
import Derived.Test.YthpfknlgfkecpaaDoorJFileNamesx2
import Derived.Deep.RegionHeld3
import Derived.Deep.RegionWith
section
/-
  Walk of FileFinds. (Printed by gen_fwf.py.)
-/
set_option linter.unusedVariables false
set_option linter.unusedSimpArgs false
namespace Go.Proofs.YthpfknlgfkecpaaDoor
open Go.RowKit Go.Lib


set_option maxHeartbeats 8000000 in
set_option maxRecDepth 100000 in
theorem fileFinds_any (q : Sp.At) (F : FlP) (link : Int) (nm ds : ByteArray) (w : World) (hr : RdF w q F) (hF : FlOk F) (hT : Tabs w) (hN : Sp.textN F.pool + Sp.codeN (F.methods.map (·.1)) + Sp.codeN (F.fields.map (·.1)) ≤ 4611686018427387904) (hlk : In64 link) :
    Calls Tryd.prog 12 #[.agg (flC q F), .int .i64 link, .string nm, .string ds] w fun e w' => e = .returned (.bool true) ∧ Below w.heap.size w w' := by
  have hK := Lib.hid (blk_new w (.cells (flC q F) 53))
  have hB := (Below.refl w.heap.size w).alloc (Nat.le_refl _) (.cells (flC q F) 53)
  have KS : ∀ X : Array Value, X = flC q F →
      Hid (∀ W, Below w.heap.size w W → Calls Tryd.prog 33 #[.agg X] W fun e w' => e = .returned (.bool (Sp.smallS F.fl)) ∧ Below W.heap.size W w') ∧
      Hid (Sp.smallS F.fl = true → ∀ W, Below w.heap.size w W → Calls Tryd.prog 37 #[.agg X] W fun e w' => e = .returned (.int .i64 (Sp.encodeF F.fl).2) ∧ Below W.heap.size W w') ∧
      Hid (∀ i, In64 i → ∀ W, Below w.heap.size w W → Calls Tryd.prog 39 #[.agg X, .int .i64 i] W fun e w' => e = .returned (.tuple #[.string (Sp.cnameS F.pool i).1, .bool (Sp.cnameS F.pool i).2]) ∧ Below W.heap.size W w') ∧
      Hid (∀ i, In64 i → ∀ W, Below w.heap.size w W → Calls Tryd.prog 41 #[.agg X, .int .i64 i] W fun e w' => e = .returned (.tuple #[.string (Sp.cnameS F.pool i).1, .bool (Sp.cnameS F.pool i).2]) ∧ Below W.heap.size W w') ∧
      Hid (∀ i, In64 i → ∀ W, Below w.heap.size w W → Calls Tryd.prog 42 #[.agg X, .int .i64 i] W fun e w' => e = .returned (.tuple #[.string (Sp.classNameS F.pool i).1, .bool (Sp.classNameS F.pool i).2]) ∧ Below W.heap.size W w') ∧
      Hid (∀ i, In64 i → ∀ W, Below w.heap.size w W → Calls Tryd.prog 43 #[.agg X, .int .i64 i] W fun e w' => e = .returned (.tuple #[.string (Sp.classNameS F.pool i).1, .bool (Sp.classNameS F.pool i).2]) ∧ Below W.heap.size W w') ∧
      Hid (∀ a b W, Below w.heap.size w W → Calls Tryd.prog 40 #[.agg X, .string a, .string b] W fun e w' => e = .returned (.int .i64 (Sp.findS F.pool (F.methods.map (·.1)) a b)) ∧ Below W.heap.size W w') ∧
      Hid (∀ a b W, Below w.heap.size w W → Calls Tryd.prog 44 #[.agg X, .string a, .string b] W fun e w' => e = .returned (.int .i64 (Sp.findS F.pool (F.methods.map (·.1)) a b)) ∧ Below W.heap.size W w') := by
    rintro X rfl
    exact ⟨Lib.hid (fun W hb => small_any q F W (rdF_below hr hb) hN), Lib.hid (fun hs W hb => refFright_any q F W (rdF_below hr hb) hF (Sp.small_bytes hs)), Lib.hid (fun i hi W hb => cname_any q F i W (rdF_below hr hb) hi), Lib.hid (fun i hi W hb => refCname_any q F i W (rdF_below hr hb) hi), Lib.hid (fun i hi W hb => className_any q F i W (rdF_below hr hb) hi (fun c hc => (hF.pool c hc).2.2.1)), Lib.hid (fun i hi W hb => refClassName_any q F i W (rdF_below hr hb) hi (fun c hc => (hF.pool c hc).2.2.1)), Lib.hid (fun a b W hb => find_any q F a b W (rdF_below hr hb) (fun m hm => ⟨(hF.methods m hm).2.1, (hF.methods m hm).2.2.1⟩)), Lib.hid (fun a b W hb => refFind_any q F a b W (rdF_below hr hb) (fun m hm => ⟨(hF.methods m hm).2.1, (hF.methods m hm).2.2.1⟩))⟩
  have hsh := Lib.hid (fun W (hb : Below w.heap.size w W) => fileShown_any W (hT.below hb))
  have HI0 := Lib.hid (show ∀ m ∈ F.methods, In64 m.1.name ∧ In64 m.1.desc from fun m hm => ⟨(hF.methods m hm).2.1, (hF.methods m hm).2.2.1⟩)
  have HY := Lib.hid hr.methods.1.2
  have hl4 := hr.methods.1.1
  have hRM := Lib.hid (fun h => Sp.right_methods (F := F.fl) h)
  clear hr hF hT hN
  obtain ⟨pool, fl, th, su, ifs, flds, mths⟩ := F
  obtain ⟨qA, qc, qI, qd, qX, qe, qY, qg⟩ := q
  obtain ⟨ks, kr, kn, kn2, kc, kc2, kf, kf2⟩ := KS #[.slice qA pool.length qc, .int .i64 fl, .int .i64 th, .int .i64 su, .slice qI ifs.length qd, .slice qX flds.length qe, .slice qY mths.length qg] rfl
  clear KS
  have hfl : flC ⟨qA, qc, qI, qd, qX, qe, qY, qg⟩ ⟨pool, fl, th, su, ifs, flds, mths⟩ = #[.slice qA pool.length qc, .int .i64 fl, .int .i64 th, .int .i64 su, .slice qI ifs.length qd, .slice qX flds.length qe, .slice qY mths.length qg] := rfl
  rw [hfl] at hK hB ⊢
  clear hfl
  unfold FlP.fl at ks kr hRM
  simp only [] at ks kr kn kn2 kc kc2 kf kf2 hRM HI0 HY hl4
  generalize Sp.smallS ⟨pool, fl, th, su, ifs, flds.map (·.1), mths.map (·.1)⟩ = sm at *
  generalize Sp.encodeF ⟨pool, fl, th, su, ifs, flds.map (·.1), mths.map (·.1)⟩ = EF at *
  obtain ⟨eb, er⟩ := EF
  simp only [] at kr hRM
  go_enter Tryd.func12, Tryd.ntmps12
  go_wp2_with fail
  refine (hsh.out _ hB).mono ?_
  rintro e w1 ⟨rfl, hb1⟩
  have B1 := below_then hB hB.size hb1
  have K1 := Lib.hid (blk_below hK.out hb1)
  have z1 := B1.size
  clear hB hK hb1 hsh
  obtain ⟨c0, c1, c2, c3, c4, c5, c6⟩ := flC_box (q := ⟨qA, qc, qI, qd, qX, qe, qY, qg⟩) (F := ⟨pool, fl, th, su, ifs, flds, mths⟩) K1.out
  simp only [] at c0 c1 c2 c3 c4 c5 c6
  go_wp2_with fail
  refine (ks.out _ B1).mono ?_
  rintro e w2 ⟨rfl, hb2⟩
  have B2 := below_then B1 z1 hb2
  have K2 := Lib.hid (blk_below K1.out hb2)
  have z2 := B2.size
  clear B1 K1 z1 hb2 ks c0 c1 c2 c3 c4 c5 c6
  cases sm with
  | false =>
    go_wp2
    go_ret
    exact ⟨rfl, B2⟩
  | true =>
    obtain ⟨c0, c1, c2, c3, c4, c5, c6⟩ := flC_box (q := ⟨qA, qc, qI, qd, qX, qe, qY, qg⟩) (F := ⟨pool, fl, th, su, ifs, flds, mths⟩) K2.out
    simp only [] at c0 c1 c2 c3 c4 c5 c6
    go_wp2_with fail
    refine (kr.out (by simp) _ B2).mono ?_
    rintro e w3 ⟨rfl, hb3⟩
    have B3 := below_then B2 z2 hb3
    have K3 := Lib.hid (blk_below K2.out hb3)
    have z3 := B3.size
    clear B2 K2 z2 hb3 c0 c1 c2 c3 c4 c5 c6
    clear kr
    by_cases he : er = 0
    rotate_left
    · have heb : (er != 0) = true := by simp [he]
      go_wp2
      go_ret
      exact ⟨rfl, B3⟩
    subst he
    obtain ⟨hn, hd⟩ := hRM.out (by simp)
    (try simp only [] at hn hd)
    have hnH := Lib.hid hn
    have hdH := Lib.hid hd
    clear hn hd hRM
    by_cases hz1 : 10000 < nm.size
    · have hzb : decide ((10000 : Int) < (nm.size : Int)) = true := decide_eq_true (by omega)
      go_wp2
      go_ret
      exact ⟨rfl, B3⟩
    have hzb1 : decide ((10000 : Int) < (nm.size : Int)) = false := decide_eq_false (by omega)
    by_cases hz2 : 10000 < ds.size
    · have hzb : decide ((10000 : Int) < (ds.size : Int)) = true := decide_eq_true (by omega)
      go_wp2
      go_ret
      exact ⟨rfl, B3⟩
    have hzb2 : decide ((10000 : Int) < (ds.size : Int)) = false := decide_eq_false (by omega)
    obtain ⟨c0, c1, c2, c3, c4, c5, c6⟩ := flC_box (q := ⟨qA, qc, qI, qd, qX, qe, qY, qg⟩) (F := ⟨pool, fl, th, su, ifs, flds, mths⟩) K3.out
    simp only [] at c0 c1 c2 c3 c4 c5 c6
    go_wp2_with fail
    refine (kn.out link hlk _ B3).mono ?_
    rintro e w4 ⟨rfl, hb4⟩
    have B4 := below_then B3 z3 hb4
    have K4 := Lib.hid (blk_below K3.out hb4)
    have z4 := B4.size
    clear B3 K3 z3 hb4 c0 c1 c2 c3 c4 c5 c6
    clear hzb1 hzb2 hz1 hz2
    obtain ⟨c0, c1, c2, c3, c4, c5, c6⟩ := flC_box (q := ⟨qA, qc, qI, qd, qX, qe, qY, qg⟩) (F := ⟨pool, fl, th, su, ifs, flds, mths⟩) K4.out
    simp only [] at c0 c1 c2 c3 c4 c5 c6
    go_wp2_with fail
    refine (kn2.out link hlk _ B4).mono ?_
    rintro e w5 ⟨rfl, hb5⟩
    have B5 := below_then B4 z4 hb5
    have K5 := Lib.hid (blk_below K4.out hb5)
    have z5 := B5.size
    clear B4 K4 z4 hb5 c0 c1 c2 c3 c4 c5 c6
    clear kn2
    obtain ⟨c0, c1, c2, c3, c4, c5, c6⟩ := flC_box (q := ⟨qA, qc, qI, qd, qX, qe, qY, qg⟩) (F := ⟨pool, fl, th, su, ifs, flds, mths⟩) K5.out
    simp only [] at c0 c1 c2 c3 c4 c5 c6
    go_wp2_with fail
    refine (kc.out link hlk _ B5).mono ?_
    rintro e w6 ⟨rfl, hb6⟩
    have B6 := below_then B5 z5 hb6
    have K6 := Lib.hid (blk_below K5.out hb6)
    have z6 := B6.size
    clear B5 K5 z5 hb6 c0 c1 c2 c3 c4 c5 c6
    clear kc
    obtain ⟨c0, c1, c2, c3, c4, c5, c6⟩ := flC_box (q := ⟨qA, qc, qI, qd, qX, qe, qY, qg⟩) (F := ⟨pool, fl, th, su, ifs, flds, mths⟩) K6.out
    simp only [] at c0 c1 c2 c3 c4 c5 c6
    go_wp2_with fail
    refine (kc2.out link hlk _ B6).mono ?_
    rintro e w7 ⟨rfl, hb7⟩
    have B7 := below_then B6 z6 hb7
    have K7 := Lib.hid (blk_below K6.out hb7)
    have z7 := B7.size
    clear B6 K6 z6 hb7 c0 c1 c2 c3 c4 c5 c6
    clear kc2
    have hkf := Lib.hid (kf.out nm ds)
    have hkf2 := Lib.hid (kf2.out nm ds)
    clear kf2
    generalize Sp.cnameS pool link = N at *
    generalize Sp.classNameS pool link = C at *
    obtain ⟨na, nb⟩ := N
    obtain ⟨ca, cb⟩ := C
    generalize Sp.findS pool (mths.map (·.1)) nm ds = fd at *
    obtain ⟨c0, c1, c2, c3, c4, c5, c6⟩ := flC_box (q := ⟨qA, qc, qI, qd, qX, qe, qY, qg⟩) (F := ⟨pool, fl, th, su, ifs, flds, mths⟩) K7.out
    simp only [] at c0 c1 c2 c3 c4 c5 c6
    have hmk := Lib.hid (show ∀ w', Below w7.heap.size w7 w' → (w'.cell? ⟨w.heap.size, 0, none⟩ = some (.slice qA pool.length qc) ∧ w'.cell? ⟨w.heap.size, 1, none⟩ = some (.int .i64 fl) ∧ w'.cell? ⟨w.heap.size, 2, none⟩ = some (.int .i64 th) ∧ w'.cell? ⟨w.heap.size, 3, none⟩ = some (.int .i64 su) ∧ w'.cell? ⟨w.heap.size, 4, none⟩ = some (.slice qI ifs.length qd) ∧ w'.cell? ⟨w.heap.size, 5, none⟩ = some (.slice qX flds.length qe) ∧ w'.cell? ⟨w.heap.size, 6, none⟩ = some (.slice qY mths.length qg)) from fun w' h => ⟨cell_below h c0, cell_below h c1, cell_below h c2, cell_below h c3, cell_below h c4, cell_below h c5, cell_below h c6⟩)
    have hBd := Lib.hid (Below.refl w7.heap.size w7).drew
    have j0 := Lib.hid (fun W (h : Below w7.heap.size w7 W) => (hkf.out W (below_then B7 z7 h)).mono (fun e W' q => And.intro q.1 (below_then h h.size q.2)))
    have j1 := Lib.hid (fun W (h : Below w7.heap.size w7 W) => (hkf2.out W (below_then B7 z7 h)).mono (fun e W' q => And.intro q.1 (below_then h h.size q.2)))
    go_wp2_with fail
    go_region_held3 (fun w' => w'.cell? ⟨w.heap.size, 0, none⟩ = some (.slice qA pool.length qc) ∧ w'.cell? ⟨w.heap.size, 1, none⟩ = some (.int .i64 fl) ∧ w'.cell? ⟨w.heap.size, 2, none⟩ = some (.int .i64 th) ∧ w'.cell? ⟨w.heap.size, 3, none⟩ = some (.int .i64 su) ∧ w'.cell? ⟨w.heap.size, 4, none⟩ = some (.slice qI ifs.length qd) ∧ w'.cell? ⟨w.heap.size, 5, none⟩ = some (.slice qX flds.length qe) ∧ w'.cell? ⟨w.heap.size, 6, none⟩ = some (.slice qY mths.length qg)) (first | exact hmk.out _ hBd.out | exact hmk.out _ (by with_reducible assumption)) (first | (go_at_call 40; (first | with_reducible refine (j0.out _ hBd.out).mono ?_ | with_reducible refine (j0.out _ (by with_reducible assumption)).mono ?_); rintro e wz ⟨rfl, hz⟩) | (go_at_call 44; (first | with_reducible refine (j1.out _ hBd.out).mono ?_ | with_reducible refine (j1.out _ (by with_reducible assumption)).mono ?_); rintro e wz ⟨rfl, hz⟩))
    clear hmk hBd
    have KB := Lib.hid (below_then B7 z7 hz)
    have K0 := Lib.hid (blk_below K7.out hz)
    clear B7 K7 z7 hz hkf hkf2 c0 c1 c2 c3 c4 c5 c6 j0 j1
    obtain ⟨c0, c1, c2, c3, c4, c5, c6⟩ := flC_box (q := ⟨qA, qc, qI, qd, qX, qe, qY, qg⟩) (F := ⟨pool, fl, th, su, ifs, flds, mths⟩) K0.out
    simp only [] at c0 c1 c2 c3 c4 c5 c6
    go_wp2
    go_loopw [19] (fun v19 wr => ∃ k : Nat, v19 = .int .i64 k ∧ k ≤ mths.length ∧ Hid (Below w.heap.size w wr) ∧ Hid (wr.heap[w.heap.size]? = some (.cells #[.slice qA pool.length qc, .int .i64 fl, .int .i64 th, .int .i64 su, .slice qI ifs.length qd, .slice qX flds.length qe, .slice qY mths.length qg] 53 (0, 0)))) (fun v19 _ => mths.length - (RowKit.intOf v19).toNat)
    case atStart => exact ⟨0, by go_num, Nat.zero_le _, KB, K0⟩
    case round =>
      clear KB K0 c0 c1 c2 c3 c4 c5 c6
      obtain ⟨k, rfl, hk, HB, HK⟩ := hrel
      obtain ⟨c0, c1, c2, c3, c4, c5, c6⟩ := flC_box (q := ⟨qA, qc, qI, qd, qX, qe, qY, qg⟩) (F := ⟨pool, fl, th, su, ifs, flds, mths⟩) HK.out
      simp only [] at c0 c1 c2 c3 c4 c5 c6
      by_cases hlt : k < mths.length
      · obtain ⟨b, o, rfl, hrg⟩ := HY.out (by omega)
        obtain ⟨d0, d1, d2, d3, d4, d5, d6⟩ := mb_cells hrg hlt
        have D1 := cell_below HB.out d1
        have D2 := cell_below HB.out d2
        have hzk : (k : Int) < (mths.length : Int) := by omega
        have hin := HI0.out _ (List.getElem_mem hlt)
        have hfd : Sp.findS pool (mths.map (·.1)) (Sp.cnameS pool mths[k].1.name).1 (Sp.cnameS pool mths[k].1.desc).1 = (k : Int) := by
          have := Sp.findF_own pool (mths.map (·.1)) 0 k (by simpa using hlt) hnH.out hdH.out
          simp only [List.getElem_map, Nat.zero_add] at this
          exact this
        have kn1 := Lib.hid (fun W hb => kn.out mths[k].1.name hin.1 W hb)
        have kn3 := Lib.hid (fun W hb => kn.out mths[k].1.desc hin.2 W hb)
        have kf1 := Lib.hid (kf.out (Sp.cnameS pool mths[k].1.name).1 (Sp.cnameS pool mths[k].1.desc).1)
        rw [hfd] at kf1
        clear hfd hin hrg d0 d1 d2 d3 d4 d5 d6
        generalize Sp.cnameS pool mths[k].1.name = N1 at *
        generalize Sp.cnameS pool mths[k].1.desc = N2 at *
        generalize mths[k].1.name = mn at *
        generalize mths[k].1.desc = md at *
        obtain ⟨s1, b1⟩ := N1
        obtain ⟨s2, b2⟩ := N2
        simp only [] at kn1 kn3 kf1
        have hbr := HB.out
        have hzr := hbr.size
        have hmk := Lib.hid (show ∀ w', Below wr.heap.size wr w' → (w'.cell? ⟨w.heap.size, 0, none⟩ = some (.slice qA pool.length qc) ∧ w'.cell? ⟨w.heap.size, 1, none⟩ = some (.int .i64 fl) ∧ w'.cell? ⟨w.heap.size, 2, none⟩ = some (.int .i64 th) ∧ w'.cell? ⟨w.heap.size, 3, none⟩ = some (.int .i64 su) ∧ w'.cell? ⟨w.heap.size, 4, none⟩ = some (.slice qI ifs.length qd) ∧ w'.cell? ⟨w.heap.size, 5, none⟩ = some (.slice qX flds.length qe) ∧ w'.cell? ⟨w.heap.size, 6, none⟩ = some (.slice (some ⟨b, o, none⟩) mths.length qg) ∧ w'.cell? ⟨b, o + k * 7 + 1, none⟩ = some (.int .i64 mn) ∧ w'.cell? ⟨b, o + k * 7 + 2, none⟩ = some (.int .i64 md)) from fun w' h => ⟨cell_below h c0, cell_below h c1, cell_below h c2, cell_below h c3, cell_below h c4, cell_below h c5, cell_below h c6, cell_below h D1, cell_below h D2⟩)
        have hBd := Lib.hid (Below.refl wr.heap.size wr).drew
        have j0 := Lib.hid (fun W (h : Below wr.heap.size wr W) => (kn1.out W (below_then hbr hzr h)).mono (fun e W' q => And.intro q.1 (below_then h h.size q.2)))
        go_wp2_with fail
        go_region_held3 (fun w' => w'.cell? ⟨w.heap.size, 0, none⟩ = some (.slice qA pool.length qc) ∧ w'.cell? ⟨w.heap.size, 1, none⟩ = some (.int .i64 fl) ∧ w'.cell? ⟨w.heap.size, 2, none⟩ = some (.int .i64 th) ∧ w'.cell? ⟨w.heap.size, 3, none⟩ = some (.int .i64 su) ∧ w'.cell? ⟨w.heap.size, 4, none⟩ = some (.slice qI ifs.length qd) ∧ w'.cell? ⟨w.heap.size, 5, none⟩ = some (.slice qX flds.length qe) ∧ w'.cell? ⟨w.heap.size, 6, none⟩ = some (.slice (some ⟨b, o, none⟩) mths.length qg) ∧ w'.cell? ⟨b, o + k * 7 + 1, none⟩ = some (.int .i64 mn) ∧ w'.cell? ⟨b, o + k * 7 + 2, none⟩ = some (.int .i64 md)) (first | exact hmk.out _ hBd.out | exact hmk.out _ (by with_reducible assumption)) (first | (go_at_call 39; (first | with_reducible refine (j0.out _ hBd.out).mono ?_ | with_reducible refine (j0.out _ (by with_reducible assumption)).mono ?_); rintro e wz ⟨rfl, hz⟩))
        clear hmk hBd
        have B4 := Lib.hid (below_then hbr hzr hz)
        have K4 := Lib.hid (blk_below HK.out hz)
        have E0 := cell_below hz c0
        have E1 := cell_below hz c1
        have E2 := cell_below hz c2
        have E3 := cell_below hz c3
        have E4 := cell_below hz c4
        have E5 := cell_below hz c5
        have E6 := cell_below hz c6
        have G1 := cell_below hz D1
        have G2 := cell_below hz D2
        clear HB HK hbr hzr hz kn1 j0 c0 c1 c2 c3 c4 c5 c6 D1 D2
        have hb4 := B4.out
        have hz4 := hb4.size

        have hmk := Lib.hid (show ∀ w', Below wz.heap.size wz w' → (w'.cell? ⟨w.heap.size, 0, none⟩ = some (.slice qA pool.length qc) ∧ w'.cell? ⟨w.heap.size, 1, none⟩ = some (.int .i64 fl) ∧ w'.cell? ⟨w.heap.size, 2, none⟩ = some (.int .i64 th) ∧ w'.cell? ⟨w.heap.size, 3, none⟩ = some (.int .i64 su) ∧ w'.cell? ⟨w.heap.size, 4, none⟩ = some (.slice qI ifs.length qd) ∧ w'.cell? ⟨w.heap.size, 5, none⟩ = some (.slice qX flds.length qe) ∧ w'.cell? ⟨w.heap.size, 6, none⟩ = some (.slice (some ⟨b, o, none⟩) mths.length qg) ∧ w'.cell? ⟨b, o + k * 7 + 1, none⟩ = some (.int .i64 mn) ∧ w'.cell? ⟨b, o + k * 7 + 2, none⟩ = some (.int .i64 md)) from fun w' h => ⟨cell_below h E0, cell_below h E1, cell_below h E2, cell_below h E3, cell_below h E4, cell_below h E5, cell_below h E6, cell_below h G1, cell_below h G2⟩)
        have hBd := Lib.hid (Below.refl wz.heap.size wz).drew
        have j0 := Lib.hid (fun W (h : Below wz.heap.size wz W) => (kn3.out W (below_then hb4 hz4 h)).mono (fun e W' q => And.intro q.1 (below_then h h.size q.2)))
        go_wp2_with fail
        go_region_held3 (fun w' => w'.cell? ⟨w.heap.size, 0, none⟩ = some (.slice qA pool.length qc) ∧ w'.cell? ⟨w.heap.size, 1, none⟩ = some (.int .i64 fl) ∧ w'.cell? ⟨w.heap.size, 2, none⟩ = some (.int .i64 th) ∧ w'.cell? ⟨w.heap.size, 3, none⟩ = some (.int .i64 su) ∧ w'.cell? ⟨w.heap.size, 4, none⟩ = some (.slice qI ifs.length qd) ∧ w'.cell? ⟨w.heap.size, 5, none⟩ = some (.slice qX flds.length qe) ∧ w'.cell? ⟨w.heap.size, 6, none⟩ = some (.slice (some ⟨b, o, none⟩) mths.length qg) ∧ w'.cell? ⟨b, o + k * 7 + 1, none⟩ = some (.int .i64 mn) ∧ w'.cell? ⟨b, o + k * 7 + 2, none⟩ = some (.int .i64 md)) (first | exact hmk.out _ hBd.out | exact hmk.out _ (by with_reducible assumption)) (first | (go_at_call 39; (first | with_reducible refine (j0.out _ hBd.out).mono ?_ | with_reducible refine (j0.out _ (by with_reducible assumption)).mono ?_); rintro e wy ⟨rfl, hy⟩))
        clear hmk hBd
        have B5 := Lib.hid (below_then hb4 hz4 hy)
        have K5 := Lib.hid (blk_below K4.out hy)
        clear B4 K4 hb4 hz4 hy kn3 j0 E0 E1 E2 E3 E4 E5 E6 G1 G2
        obtain ⟨c0, c1, c2, c3, c4, c5, c6⟩ := flC_box (q := ⟨qA, qc, qI, qd, qX, qe, some ⟨b, o, none⟩, qg⟩) (F := ⟨pool, fl, th, su, ifs, flds, mths⟩) K5.out
        simp only [] at c0 c1 c2 c3 c4 c5 c6
        go_wp2_with fail
        refine (kf1.out _ B5.out).mono ?_
        rintro e w6 ⟨rfl, hb6⟩
        have B6 := Lib.hid (below_then B5.out B5.out.size hb6)
        have K6 := Lib.hid (blk_below K5.out hb6)
        clear hb6 kf1 K5 B5 c0 c1 c2 c3 c4 c5 c6
        go_wp2
        go_roundw
        case rel => exact ⟨k + 1, by go_num, by omega, B6, K6⟩
        case measure => simp [RowKit.intOf]; omega
      · obtain rfl : k = mths.length := by omega
        have hzk : ¬ (mths.length : Int) < (mths.length : Int) := by omega
        have B4 := HB.out
        go_wp2
        go_ret
        exact ⟨rfl, B4⟩
theorem walkFileFinds (q : Sp.At) (F : FlP) (link : Int) (nm ds : ByteArray) (w : World) (h : FlIn w q F) (h1 : -9223372036854775808 ≤ link) (h2 : link ≤ 9223372036854775807) (_ : nm.size ≤ maxLen) (_ : ds.size ≤ maxLen) (hT : Tabs w) (hb : F.bulk ≤ 1048576) (_ : nm.data.toList.length ≤ 1048576) (_ : ds.data.toList.length ≤ 1048576) :
    Calls Tryd.prog 12 #[.agg (flC q F), .int .i64 link, .string nm, .string ds] w fun e w' => e = .returned (.bool true) ∧ Below w.heap.size w w' :=
  fileFinds_any q F link nm ds w h.rd (h.ok hb) hT (FlP.sizes hb) ⟨h1, h2⟩
end Go.Proofs.YthpfknlgfkecpaaDoor
end
