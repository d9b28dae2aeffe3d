/-
  Texts of the proof, joined: each says at its head what it proves.
-/
import Derived.Test.YtfjplmbknegidaaGreatDoorJk12
import Derived.Deep.QuietTactic
import Derived.BigQuiet
import Derived.Test.YtfjplmbknegidaaGreatDoorJk7
import Derived.Test.YtfjplmbknegidaaGreatDoorRows
import Derived.Deep.Slices
import Derived.DataShut
import Derived.OpenShut
import Derived.ChangeSame
import Derived.Test.YtfjplmbknegidaaGreatDoorShelf
import Derived.Ground.Names2Prog
import Derived.Shelf.Slices.Clone
section
/-
  Walk of crucibleref3.Small. (Printed by gen_small.py.)
-/
set_option linter.unusedVariables false
set_option linter.unusedSimpArgs false
namespace Go.Proofs.YtfjplmbknegidaaGreatDoor
open Go.RowKit Go.Lib

namespace Sp
def textN : List Cn → Nat
  | [] => 0
  | c :: l => c.text.size + textN l
def codeN : List Mb → Nat
  | [] => 0
  | m :: l => (m.code.size + 8 * m.hs.length) + codeN l
def smallS (F : Fl) : Bool := decide (F.pool.length ≤ 3000 ∧ F.ifaces.length ≤ 100 ∧ F.fields.length ≤ 300 ∧ F.methods.length ≤ 300 ∧ textN F.pool + codeN F.methods + codeN F.fields < 100000)
end Sp

set_option maxHeartbeats 8000000 in
set_option maxRecDepth 100000 in
theorem small_any (q : Sp.At) (F : FlP) (w : World) (hr : RdF w q F) (hN : Sp.textN F.pool + Sp.codeN (F.methods.map (·.1)) + Sp.codeN (F.fields.map (·.1)) ≤ 4611686018427387904) :
    Calls Tryz.prog 45 #[.agg (flC q F)] w fun e w' => e = .returned (.bool (Sp.smallS F.fl)) ∧ Below w.heap.size w w' := by
  have HE := Lib.hid (show Sp.smallS F.fl = _ by rw [Sp.smallS])
  generalize Sp.smallS F.fl = R at HE ⊢
  have hK := Lib.hid (blk_new w (.cells (flC q F) 63))
  have hB := (Below.refl w.heap.size w).alloc (Nat.le_refl _) (.cells (flC q F) 63)
  have HP := Lib.hid hr.pool.2
  have HX := Lib.hid hr.fields.1.2
  have HY := Lib.hid hr.methods.1.2
  have hl1 := hr.pool.1
  have hl2 := hr.ifaces.1
  have hl3 := hr.fields.1.1
  have hl4 := hr.methods.1.1
  have hN0 := Lib.hid hN
  clear hr hN
  obtain ⟨pool, fl, th, su, ifs, flds, mths⟩ := F
  obtain ⟨qA, qc, qI, qd, qX, qe, qY, qg⟩ := q
  have hfl : flC ⟨qA, qc, qI, qd, qX, qe, qY, qg⟩ ⟨pool, fl, th, su, ifs, flds, mths⟩ = #[.slice qA pool.length qc, .int .i64 fl, .int .i64 th, .int .i64 su, .slice qI ifs.length qd, .slice qX flds.length qe, .slice qY mths.length qg] := rfl
  rw [hfl] at hK hB ⊢
  clear hfl
  unfold FlP.fl at HE
  simp only [] at HE HP HX HY hl1 hl2 hl3 hl4 hN0
  rw [List.length_map, List.length_map] at HE
  obtain ⟨c0, c1, c2, c3, c4, c5, c6⟩ := flC_box (q := ⟨qA, qc, qI, qd, qX, qe, qY, qg⟩) (F := ⟨pool, fl, th, su, ifs, flds, mths⟩) hK.out
  simp only [] at c0 c1 c2 c3 c4 c5 c6

  by_cases b1 : 3000 < pool.length
  · have z1 : decide ((3000 : Int) < (pool.length : Int)) = true := decide_eq_true (by omega)
    have hR : R = false := by rw [HE.out]; exact decide_eq_false (by omega)
    subst hR
    clear HE b1
    go_enter Tryz.func45, Tryz.ntmps45
    go_wp2
    go_ret
    exact ⟨rfl, hB⟩
  have z1 : decide ((3000 : Int) < (pool.length : Int)) = false := decide_eq_false (by omega)
  by_cases b2 : 100 < ifs.length
  · have z2 : decide ((100 : Int) < (ifs.length : Int)) = true := decide_eq_true (by omega)
    have hR : R = false := by rw [HE.out]; exact decide_eq_false (by omega)
    subst hR
    clear HE b2
    go_enter Tryz.func45, Tryz.ntmps45
    go_wp2
    go_ret
    exact ⟨rfl, hB⟩
  have z2 : decide ((100 : Int) < (ifs.length : Int)) = false := decide_eq_false (by omega)
  by_cases b3 : 300 < flds.length
  · have z3 : decide ((300 : Int) < (flds.length : Int)) = true := decide_eq_true (by omega)
    have hR : R = false := by rw [HE.out]; exact decide_eq_false (by omega)
    subst hR
    clear HE b3
    go_enter Tryz.func45, Tryz.ntmps45
    go_wp2
    go_ret
    exact ⟨rfl, hB⟩
  have z3 : decide ((300 : Int) < (flds.length : Int)) = false := decide_eq_false (by omega)
  by_cases b4 : 300 < mths.length
  · have z4 : decide ((300 : Int) < (mths.length : Int)) = true := decide_eq_true (by omega)
    have hR : R = false := by rw [HE.out]; exact decide_eq_false (by omega)
    subst hR
    clear HE b4
    go_enter Tryz.func45, Tryz.ntmps45
    go_wp2
    go_ret
    exact ⟨rfl, hB⟩
  have z4 : decide ((300 : Int) < (mths.length : Int)) = false := decide_eq_false (by omega)
  have hR0 : R = decide (Sp.textN pool + Sp.codeN (mths.map (·.1)) + Sp.codeN (flds.map (·.1)) < 100000) := by
    rw [HE.out]
    by_cases q : Sp.textN pool + Sp.codeN (mths.map (·.1)) + Sp.codeN (flds.map (·.1)) < 100000
    · rw [decide_eq_true q]; exact decide_eq_true (by omega)
    · rw [decide_eq_false q]; exact decide_eq_false (by omega)
  have HR := Lib.hid hR0
  clear HE hR0 b1 b2 b3 b4
  have B0 := Lib.hid hB
  clear hB
  have n0 : Hid (0 + Sp.textN (pool.drop 0) = Sp.textN pool) := Lib.hid (by simp)
  have qM : Sp.codeN ((mths.map (·.1)).drop 0) = Sp.codeN (mths.map (·.1)) := rfl
  have qX' : Sp.codeN ((flds.map (·.1)).drop 0) = Sp.codeN (flds.map (·.1)) := rfl
  generalize Sp.codeN (mths.map (·.1)) = CM at *
  generalize Sp.codeN (flds.map (·.1)) = CX at *
  have hCM := Lib.hid qM
  have hCX := Lib.hid qX'
  clear qM qX'
  go_enter Tryz.func45, Tryz.ntmps45
  go_wp2
  go_loopw [3, 4] (fun v3 v4 wr => ∃ (n k : Nat), v3 = .int .i64 n ∧ v4 = .int .i64 k ∧ k ≤ pool.length ∧ Hid (n + Sp.textN (pool.drop k) = Sp.textN pool) ∧ Hid (Below w.heap.size w wr) ∧ Hid (wr.heap[w.heap.size]? = some (.cells #[.slice qA pool.length qc, .int .i64 fl, .int .i64 th, .int .i64 su, .slice qI ifs.length qd, .slice qX flds.length qe, .slice qY mths.length qg] 63 (0, 0)))) (fun _ v4 _ => pool.length - (RowKit.intOf v4).toNat)
  case atStart => exact ⟨0, 0, by go_num, by go_num, Nat.zero_le _, n0, B0, hK⟩
  case round =>
    clear B0 hK n0 c0 c1 c2 c3 c4 c5 c6
    obtain ⟨n, k, rfl, rfl, hk, hn, HB, hK⟩ := hrel
    obtain ⟨c0, c1, c2, c3, c4, c5, c6⟩ := flC_box (q := ⟨qA, qc, qI, qd, qX, qe, qY, qg⟩) (F := ⟨pool, fl, th, su, ifs, flds, mths⟩) hK.out
    simp only [] at c0 c1 c2 c3 c4 c5 c6
    by_cases hlt : k < pool.length
    · obtain ⟨b, o, rfl, hrg⟩ := HP.out (by omega)
      obtain ⟨d0, d1, d2, d3, d4, d5⟩ := cn_cells hrg hlt
      have D1 := cell_below HB.out d1
      have hzk : (k : Int) < (pool.length : Int) := by omega
      have hn1 := hn.out
      rw [List.drop_eq_getElem_cons hlt, Sp.textN] at hn1
      clear hn hrg d0 d1 d2 d3 d4 d5
      generalize pool[k].text = tx at *
      have hwr : IntKind.i64.wrap ((n : Int) + (tx.size : Int)) = (n : Int) + (tx.size : Int) := IntWalk.i64_in _ (by have := hN0.out; omega)
      have hn := Lib.hid hn1
      clear hn1
      go_wp2
      go_roundw
      case rel => exact ⟨n + tx.size, k + 1, by go_num, by go_num, by omega, Lib.hid (by have := hn.out; omega), HB, hK⟩
      case measure => simp [RowKit.intOf]; omega
    · obtain rfl : k = pool.length := by omega
      have hzk : ¬ (pool.length : Int) < (pool.length : Int) := by omega
      have hn1 : Hid (n = Sp.textN pool) := Lib.hid (by have := hn.out; rw [List.drop_length] at this; simpa [Sp.textN] using this)
      have i1 := Lib.hid (show n + Sp.codeN ((mths.map (·.1)).drop 0) = Sp.textN pool + CM by rw [hn1.out, hCM.out])
      clear hn hn1 hCM HP
      go_wp2
      go_loopw [3, 5] (fun v3 v5 wr => ∃ (n k : Nat), v3 = .int .i64 n ∧ v5 = .int .i64 k ∧ k ≤ mths.length ∧ Hid (n + Sp.codeN ((mths.map (·.1)).drop k) = Sp.textN pool + CM) ∧ Hid (Below w.heap.size w wr) ∧ Hid (wr.heap[w.heap.size]? = some (.cells #[.slice qA pool.length qc, .int .i64 fl, .int .i64 th, .int .i64 su, .slice qI ifs.length qd, .slice qX flds.length qe, .slice qY mths.length qg] 63 (0, 0)))) (fun _ v5 _ => mths.length - (RowKit.intOf v5).toNat)
      case atStart => exact ⟨n, 0, by go_num, by go_num, Nat.zero_le _, i1, HB, hK⟩
      case round =>
        clear i1 HB hK c0 c1 c2 c3 c4 c5 c6
        obtain ⟨n, k, rfl, rfl, hk, hn, HB, hK⟩ := hrel
        obtain ⟨c0, c1, c2, c3, c4, c5, c6⟩ := flC_box (q := ⟨qA, qc, qI, qd, qX, qe, qY, qg⟩) (F := ⟨pool, fl, th, su, ifs, flds, mths⟩) hK.out
        simp only [] at c0 c1 c2 c3 c4 c5 c6
        by_cases hlt : k < mths.length
        · obtain ⟨b, o, rfl, hrg⟩ := HY.out (by omega)
          obtain ⟨d0, d1, d2, d3, d4, d5, d6⟩ := mb_cells hrg hlt
          have D5 := cell_below HB.out d5
          have D6 := cell_below HB.out d6
          have hzk : (k : Int) < (mths.length : Int) := by omega
          have hn1 := hn.out
          have hd : (mths.map (·.1)).drop k = mths[k].1 :: (mths.map (·.1)).drop (k + 1) := by
            rw [List.drop_eq_getElem_cons (by simpa using hlt), List.getElem_map]
          rw [hd, Sp.codeN] at hn1
          clear hn hd hrg d0 d1 d2 d3 d4 d5 d6
          generalize mths[k] = mq at *
          obtain ⟨⟨mf, mn, md, ms, ml, mc, mh⟩, mA, mcap⟩ := mq
          simp only [] at D5 D6 hn1
          have hbd : n + (mc.size + 8 * mh.length) ≤ 4611686018427387904 := by have := hN0.out; omega
          have hw1 : IntKind.i64.wrap ((n : Int) + (mc.size : Int)) = (n : Int) + (mc.size : Int) := IntWalk.i64_in _ (by omega)
          have hw2 : IntKind.i64.wrap (8 * (mh.length : Int)) = 8 * (mh.length : Int) := IntWalk.i64_in _ (by omega)
          have hw3 : IntKind.i64.wrap ((n : Int) + (mc.size : Int) + 8 * (mh.length : Int)) = (n : Int) + (mc.size : Int) + 8 * (mh.length : Int) := IntWalk.i64_in _ (by omega)
          have hn := Lib.hid hn1
          clear hn1 hbd
          go_wp2
          go_quiet (fail)
          have hB9 : Hid (Below w.heap.size w (wr.drewN nq)) := Lib.hid ⟨HB.out.os, HB.out.tape, HB.out.output, HB.out.size, HB.out.block⟩
          have hK9 : Hid ((wr.drewN nq).heap[w.heap.size]? = _) := Lib.hid hK.out
          go_wp2
          go_roundw
          case rel => exact ⟨n + (mc.size + 8 * mh.length), k + 1, by go_num, by go_num, by omega, Lib.hid (by have := hn.out; omega), hB9, hK9⟩
          case measure => simp [RowKit.intOf]; omega
        · obtain rfl : k = mths.length := by omega
          have hzk : ¬ (mths.length : Int) < (mths.length : Int) := by omega
          have hn1 := hn.out
          rw [List.drop_eq_nil_of_le (by simp)] at hn1
          simp only [Sp.codeN, Nat.add_zero] at hn1

          have i1 := Lib.hid (show n + Sp.codeN ((flds.map (·.1)).drop 0) = Sp.textN pool + CM + CX by rw [hn1, hCX.out])
          clear hn hn1 hCX HY
          go_wp2
          go_loopw [3, 6] (fun v3 v6 wr => ∃ (n k : Nat), v3 = .int .i64 n ∧ v6 = .int .i64 k ∧ k ≤ flds.length ∧ Hid (n + Sp.codeN ((flds.map (·.1)).drop k) = Sp.textN pool + CM + CX) ∧ Hid (Below w.heap.size w wr) ∧ Hid (wr.heap[w.heap.size]? = some (.cells #[.slice qA pool.length qc, .int .i64 fl, .int .i64 th, .int .i64 su, .slice qI ifs.length qd, .slice qX flds.length qe, .slice qY mths.length qg] 63 (0, 0)))) (fun _ v6 _ => flds.length - (RowKit.intOf v6).toNat)
          case atStart => exact ⟨n, 0, by go_num, by go_num, Nat.zero_le _, i1, HB, hK⟩
          case round =>
            clear i1 HB hK c0 c1 c2 c3 c4 c5 c6
            obtain ⟨n, k, rfl, rfl, hk, hn, HB, hK⟩ := hrel
            obtain ⟨c0, c1, c2, c3, c4, c5, c6⟩ := flC_box (q := ⟨qA, qc, qI, qd, qX, qe, qY, qg⟩) (F := ⟨pool, fl, th, su, ifs, flds, mths⟩) hK.out
            simp only [] at c0 c1 c2 c3 c4 c5 c6
            by_cases hlt : k < flds.length
            · obtain ⟨b, o, rfl, hrg⟩ := HX.out (by omega)
              obtain ⟨d0, d1, d2, d3, d4, d5, d6⟩ := mb_cells hrg hlt
              have D5 := cell_below HB.out d5
              have D6 := cell_below HB.out d6
              have hzk : (k : Int) < (flds.length : Int) := by omega
              have hn1 := hn.out
              have hd : (flds.map (·.1)).drop k = flds[k].1 :: (flds.map (·.1)).drop (k + 1) := by
                rw [List.drop_eq_getElem_cons (by simpa using hlt), List.getElem_map]
              rw [hd, Sp.codeN] at hn1
              clear hn hd hrg d0 d1 d2 d3 d4 d5 d6
              generalize flds[k] = mq at *
              obtain ⟨⟨mf, mn, md, ms, ml, mc, mh⟩, mA, mcap⟩ := mq
              simp only [] at D5 D6 hn1
              have hbd : n + (mc.size + 8 * mh.length) ≤ 4611686018427387904 := by have := hN0.out; omega
              have hw1 : IntKind.i64.wrap ((n : Int) + (mc.size : Int)) = (n : Int) + (mc.size : Int) := IntWalk.i64_in _ (by omega)
              have hw2 : IntKind.i64.wrap (8 * (mh.length : Int)) = 8 * (mh.length : Int) := IntWalk.i64_in _ (by omega)
              have hw3 : IntKind.i64.wrap ((n : Int) + (mc.size : Int) + 8 * (mh.length : Int)) = (n : Int) + (mc.size : Int) + 8 * (mh.length : Int) := IntWalk.i64_in _ (by omega)
              have hn := Lib.hid hn1
              clear hn1 hbd
              go_wp2
              go_quiet (fail)
              have hB9 : Hid (Below w.heap.size w (wr.drewN nq)) := Lib.hid ⟨HB.out.os, HB.out.tape, HB.out.output, HB.out.size, HB.out.block⟩
              have hK9 : Hid ((wr.drewN nq).heap[w.heap.size]? = _) := Lib.hid hK.out
              go_wp2
              go_roundw
              case rel => exact ⟨n + (mc.size + 8 * mh.length), k + 1, by go_num, by go_num, by omega, Lib.hid (by have := hn.out; omega), hB9, hK9⟩
              case measure => simp [RowKit.intOf]; omega
            · obtain rfl : k = flds.length := by omega
              have hzk : ¬ (flds.length : Int) < (flds.length : Int) := by omega
              have hn1 := hn.out
              rw [List.drop_eq_nil_of_le (by simp)] at hn1
              simp only [Sp.codeN, Nat.add_zero] at hn1

              have HR2 := HR.out
              rw [← hn1] at HR2
              clear hn hn1
              by_cases q : n < 100000
              · have hzz : decide ((n : Int) < (100000 : Int)) = true := decide_eq_true (by omega)
                have hR : R = true := by rw [HR2]; exact decide_eq_true q
                subst hR
                clear HR HR2 q
                go_wp2
                go_ret
                exact ⟨rfl, HB.out⟩
              · have hzz : decide ((n : Int) < (100000 : Int)) = false := decide_eq_false (by omega)
                have hR : R = false := by rw [HR2]; exact decide_eq_false q
                subst hR
                clear HR HR2 q
                go_wp2
                go_ret
                exact ⟨rfl, HB.out⟩
end Go.Proofs.YtfjplmbknegidaaGreatDoor
end
section
/-
  What a walk is told of types, slices of types and signatures that came in.
-/
set_option linter.unusedVariables false
set_option linter.unusedSimpArgs false
set_option maxRecDepth 100000
namespace Go.Proofs.YtfjplmbknegidaaGreatDoor
open Go.ChangeShapes Go.WideShapes Go.RowKit Go.Lib Go.Deep

section
variable {H : Type} {enc : TypeId × Value → H} {W : World} {base : Nat} {sp : Nat → Bool} {held : Bool}

theorem ty_cells {fuel : Nat} {cs : List Value} {x : DataW H × List MemPlace} (h : DataW.trod enc Tryz.prog W base sp held fuel 25 cs = some x) :
    ∃ t : Sp.Ty, cs = [.int .i64 t.1, .string t.2] ∧ x = (.agg [.lit (.int .i64 t.1), .lit (.string t.2.data.toList)], []) ∧ (-9223372036854775808 ≤ t.1 ∧ t.1 ≤ 9223372036854775807) ∧ t.2.size ≤ maxLen := by
  obtain ⟨xs, n, hn, hx, hl, hlen, hf⟩ := DataW.trod_struct Tryz.underlying25 h
  have hC : Tryz.prog.cellsOf 25 = 2 := by kernel_rfl
  have h3 : Tryz.prog.cellsOf 3 = 1 := by kernel_rfl
  have h9 : Tryz.prog.cellsOf 9 = 1 := by kernel_rfl
  rw [hC] at hl
  match cs, hl with
  | [c0, c1], _ =>
    match xs, hlen with
    | [x0, x1], _ =>
      have f0 : DataW.trod enc Tryz.prog W base sp held n 3 [c0] = some x0 := by simpa [h3] using hf 0 _ rfl
      have f1 : DataW.trod enc Tryz.prog W base sp held n 9 [c1] = some x1 := by simpa [h9] using hf 1 _ rfl
      obtain ⟨d, e1, e2, e3⟩ := DataW.trod_int Tryz.underlying3 f0
      obtain ⟨s, e4, e5, e6⟩ := DataW.trod_string Tryz.underlying9 f1
      simp at e1 e4 e2 e5
      subst e1 e4
      refine ⟨(d, s), rfl, ?_, (Lit.wf_int_iff _ _).1 e3, e6⟩
      rw [hx]
      simp [e2, e5]

/-- A sum over numbers. -/
def sumL : List Nat → Nat
  | [] => 0
  | a :: l => a + sumL l
theorem bulk_map {D : Nat → DataW H} : ∀ l : List Nat, Rows.uptoBulkAll (l.map D) = sumL (l.map fun i => Rows.uptoBulk (D i))
  | [] => rfl
  | a :: l => by simp only [List.map_cons, Rows.uptoBulkAll, sumL, bulk_map l]

theorem tys_cells {fuel : Nat} {cs : List Value} {x : DataW H × List MemPlace} (h : DataW.trod enc Tryz.prog W base sp held fuel 36 cs = some x) :
    ∃ (A : Option Addr) (c : Nat) (l : List Sp.Ty), cs = [.slice A l.length c] ∧ RdT W A l ∧ (∀ t ∈ l, (-9223372036854775808 ≤ t.1 ∧ t.1 ≤ 9223372036854775807) ∧ t.2.size ≤ maxLen) ∧ Sp.namesZ l + l.length ≤ Rows.uptoBulk x.1 ∧ (l.length ≤ c ∧ (A = none → c = 0)) := by
  have hC : Tryz.prog.cellsOf 25 = 2 := by kernel_rfl
  rcases open_slice Tryz.underlying36 h with ⟨h1, h2⟩ | ⟨a, len, cap, m, n, D, Pl, h1, hb, hl, hm, hmm, hx, hi⟩
  · exact ⟨none, 0, [], h1, rdT_nil _ _, by simp, by simp [Sp.namesZ], by simp⟩
  · rw [hC] at hi
    have hlm : len ≤ m := by rw [hmm]; split <;> omega
    have hch : ∀ i, i < len → ∃ t : Sp.Ty, (W.cell? (a.add (i * 2)) = some (.int .i64 t.1) ∧ W.cell? ((a.add (i * 2)).add 1) = some (.string t.2)) ∧ D i = .agg [.lit (.int .i64 t.1), .lit (.string t.2.data.toList)] ∧ (-9223372036854775808 ≤ t.1 ∧ t.1 ≤ 9223372036854775807) ∧ t.2.size ≤ maxLen := by
      intro i hlt
      obtain ⟨cs', hc, ht⟩ := hi i (by omega)
      obtain ⟨t, e1, e2, e3, e4⟩ := ty_cells ht
      obtain ⟨_, hcl, hat⟩ := World.cells?_some hc
      subst e1
      injection e2 with e2 _
      have a0 := hat 0 (by decide)
      have a1 := hat 1 (by decide)
      rw [show (a.add (i * 2)).add 0 = a.add (i * 2) by unfold Addr.add; split <;> simp_all] at a0
      exact ⟨t, ⟨a0, a1⟩, e2, e3, e4⟩
    obtain ⟨f, hf⟩ := choose_lt (α := Sp.Ty) hch
    have hlen : ((List.range len).map f).length = len := by simp
    refine ⟨some a, cap, (List.range len).map f, by rw [hlen]; exact h1, ⟨by rw [hlen]; unfold maxLen at hm; omega, fun h0 => ?_⟩, ?_, ?_, by rw [hlen]; exact ⟨hl, by simp⟩⟩
    · rw [hlen] at h0
      obtain ⟨b, off, spot⟩ := a
      have hspot : spot = none := by simpa [Addr.add] using World.cell?_spot (hf 0 h0).1.1
      subst hspot
      refine ⟨b, off, rfl, ?_⟩
      have key : ∀ (k s : Nat), s + k ≤ len → ∀ j v, (Sp.tyCells ((List.range' s k).map f))[j]? = some v → W.cell? ⟨b, off + (s * 2 + j), none⟩ = some v := by
        intro k
        induction k with
        | zero => intro s _ j v hj; simp [Sp.tyCells] at hj
        | succ k ih =>
          intro s hs j v hj
          obtain ⟨⟨q0, q1⟩, _⟩ := hf s (by omega)
          rw [Addr.add_mid] at q0 q1
          rw [Addr.add_mid] at q1
          rw [List.range'_succ, List.map_cons, Sp.tyCells] at hj
          match j, hj with
          | 0, hj => simp at hj; subst hj; exact q0
          | 1, hj => simp at hj; subst hj; exact q1
          | j + 2, hj =>
            have := ih (s + 1) (by omega) j v (by simpa using hj)
            rwa [show off + ((s + 1) * 2 + j) = off + (s * 2 + (j + 2)) by omega] at this
      intro j v hj
      have := key len 0 (by omega) j v (by rw [← List.range_eq_range']; exact hj)
      rwa [show off + (0 * 2 + j) = off + j by omega] at this
    · intro t ht
      obtain ⟨i, hi1, rfl⟩ := List.mem_map.1 ht
      exact (hf i (List.mem_range.1 hi1)).2.2
    · rw [hx, hlen]
      simp only [Rows.uptoBulk, bulk_map]
      have key : ∀ (k s : Nat), s + k ≤ len → Sp.namesZ ((List.range' s k).map f) + k ≤ sumL ((List.range' s k).map fun i => Rows.uptoBulk (D i)) := by
        intro k
        induction k with
        | zero => intro s _; simp [Sp.namesZ, sumL]
        | succ k ih =>
          intro s hs
          have := ih (s + 1) (by omega)
          have hd := (hf s (by omega)).2.1
          have hz : (f s).2.data.toList.length = (f s).2.size := rfl
          rw [List.range'_succ, List.map_cons, List.map_cons, Sp.namesZ, sumL, hd]
          simp only [Rows.uptoBulk, Rows.uptoBulkAll, hz]
          omega
      have := key len 0 (by omega)
      rw [← List.range_eq_range'] at this
      omega

theorem sig_cells {fuel : Nat} {cs : List Value} {x : DataW H × List MemPlace} (h : DataW.trod enc Tryz.prog W base sp held fuel 173 cs = some x) :
    ∃ (A : Option Addr) (c : Nat) (l : List Sp.Ty) (t : Sp.Ty) (v : Bool), cs = [.slice A l.length c, .int .i64 t.1, .string t.2, .bool v] ∧ RdT W A l ∧ (∀ t ∈ l, (-9223372036854775808 ≤ t.1 ∧ t.1 ≤ 9223372036854775807) ∧ t.2.size ≤ maxLen) ∧ (-9223372036854775808 ≤ t.1 ∧ t.1 ≤ 9223372036854775807) ∧ Sp.namesZ l + l.length + t.2.size ≤ Rows.uptoBulk x.1 := by
  obtain ⟨xs, n, hn, hx, hl, hlen, hf⟩ := DataW.trod_struct Tryz.underlying173 h
  have hC : Tryz.prog.cellsOf 173 = 4 := by kernel_rfl
  have h3 : Tryz.prog.cellsOf 36 = 1 := by kernel_rfl
  have h9 : Tryz.prog.cellsOf 25 = 2 := by kernel_rfl
  have h4 : Tryz.prog.cellsOf 4 = 1 := by kernel_rfl
  rw [hC] at hl
  match cs, hl with
  | [c0, c1, c2, c3], _ =>
    match xs, hlen with
    | [x0, x1, x2], _ =>
      have f0 : DataW.trod enc Tryz.prog W base sp held n 36 [c0] = some x0 := by simpa [h3] using hf 0 _ rfl
      have f1 : DataW.trod enc Tryz.prog W base sp held n 25 [c1, c2] = some x1 := by simpa [h9] using hf 1 _ rfl
      have f2 : DataW.trod enc Tryz.prog W base sp held n 4 [c3] = some x2 := by simpa [h4] using hf 2 _ rfl
      obtain ⟨A, c, l, a1, a2, a3, a4, _⟩ := tys_cells f0
      obtain ⟨t, b1, b2, b3, b4⟩ := ty_cells f1
      obtain ⟨v, g1, g2⟩ := DataW.trod_bool Tryz.underlying4 f2
      simp at a1 b1 g1 b2 g2
      obtain ⟨rfl, rfl⟩ := b1
      subst a1 g1
      refine ⟨A, c, l, t, v, rfl, a2, a3, b3, ?_⟩
      rw [hx]
      have hz : t.2.data.toList.length = t.2.size := rfl
      simp only [List.map_cons, List.map_nil, Rows.uptoBulk, Rows.uptoBulkAll, b2, g2, hz]
      omega
end
end Go.Proofs.YtfjplmbknegidaaGreatDoor
end
section
/-
  What a walk is told of a class that came in: its lists are read, its numbers are numbers, and its texts are no more than the reading's bulk.
-/
set_option linter.unusedVariables false
set_option linter.unusedSimpArgs false
set_option maxRecDepth 100000
namespace Go.Proofs.YtfjplmbknegidaaGreatDoor
open Go.ChangeShapes Go.WideShapes Go.RowKit Go.Lib Go.Deep

theorem sumL_map {α β : Type} (f : α → β) (g : β → Nat) : ∀ l : List α, sumL ((l.map f).map g) = sumL (l.map fun i => g (f i))
  | [] => rfl
  | a :: l => by simp only [List.map_cons, sumL, sumL_map f g l]
theorem sumL_le {α : Type} (f g : α → Nat) : ∀ l : List α, (∀ x ∈ l, f x ≤ g x) → sumL (l.map f) ≤ sumL (l.map g)
  | [], _ => Nat.le_refl _
  | a :: l, h => by
    have h1 := h a (List.mem_cons_self ..)
    have h2 := sumL_le f g l (fun x hx => h x (List.mem_cons_of_mem _ hx))
    simp only [List.map_cons, sumL]
    omega
theorem sumL_mem {α : Type} (f : α → Nat) : ∀ (l : List α) (x : α), x ∈ l → f x ≤ sumL (l.map f)
  | [], _, h => by cases h
  | a :: l, x, h => by
    simp only [List.map_cons, sumL]
    rcases List.mem_cons.1 h with rfl | h
    · omega
    · have := sumL_mem f l x h; omega

section
variable {H : Type} {enc : TypeId × Value → H} {W : World} {base : Nat} {sp : Nat → Bool} {held : Bool}

/-- Elements that are cells of n, each opened by its own law. -/
theorem sl_cells {α : Type} {E : α → List Value} {Q : α → Prop} {m : α → Nat} {n : Nat} (hn : ∀ x, (E x).length = n) (h0n : 0 < n) (a0 : α) {t e : TypeId} (ht : Tryz.prog.underlying t = some (.slice e)) (hC : Tryz.prog.cellsOf e = n)
    (hel : ∀ {fuel : Nat} {cs : List Value} {x : DataW H × List MemPlace}, DataW.trod enc Tryz.prog W base sp held fuel e cs = some x → ∃ a : α, cs = E a ∧ Q a ∧ m a ≤ Rows.uptoBulk x.1)
    {fuel : Nat} {cs : List Value} {x : DataW H × List MemPlace} (h : DataW.trod enc Tryz.prog W base sp held fuel t cs = some x) :
    ∃ (A : Option Addr) (c : Nat) (l : List α), cs = [.slice A l.length c] ∧ RdL E W A l ∧ (∀ a ∈ l, Q a) ∧ sumL (l.map m) ≤ Rows.uptoBulk x.1 ∧ (l.length ≤ c ∧ (A = none → c = 0)) := by
  rcases open_slice ht h with ⟨h1, h2⟩ | ⟨a, len, cap, mm, k, D, Pl, h1, hb, hl, hm, hmm, hx, hi⟩
  · exact ⟨none, 0, [], h1, rdL_nil _ _ _, by simp, by simp [sumL], by simp⟩
  · rw [hC] at hi
    have hlm : len ≤ mm := by rw [hmm]; split <;> omega
    have hch : ∀ i, i < len → ∃ y : α, (∀ j v, (E y)[j]? = some v → W.cell? ((a.add (i * n)).add j) = some v) ∧ Q y ∧ m y ≤ Rows.uptoBulk (D i) := by
      intro i hlt
      obtain ⟨cs', hc, ht'⟩ := hi i (by omega)
      obtain ⟨y, e1, e2, e3⟩ := hel ht'
      obtain ⟨_, hcl, hat⟩ := World.cells?_some hc
      subst e1
      refine ⟨y, fun j v hj => ?_, e2, e3⟩
      have hjl := (List.getElem?_eq_some_iff.1 hj).1
      rw [hn] at hjl
      have := hat j (by first | exact hjl | (rw [hn]; exact hjl))
      rw [this]
      simpa using hj
    haveI : Inhabited α := ⟨a0⟩
    obtain ⟨f, hf⟩ := choose_lt (α := α) hch
    have hlen : ((List.range len).map f).length = len := by simp
    refine ⟨some a, cap, (List.range len).map f, by rw [hlen]; exact h1, ⟨by rw [hlen]; unfold maxLen at hm; omega, fun h0 => ?_⟩, ?_, ?_, by rw [hlen]; exact ⟨hl, by simp⟩⟩
    · rw [hlen] at h0
      obtain ⟨b, off, spot⟩ := a
      have hspot : spot = none := by
        have hv : (E (f 0))[0]? = some ((E (f 0))[0]'(by rw [hn]; exact h0n)) := List.getElem?_eq_getElem _
        have := World.cell?_spot ((hf 0 h0).1 0 _ hv)
        simpa [Addr.add] using this
      subst hspot
      refine ⟨b, off, rfl, fun q v hq => ?_⟩
      have hlenq := (List.getElem?_eq_some_iff.1 hq).1
      rw [flat_length E n hn, hlen] at hlenq
      have hj : q % n < n := Nat.mod_lt _ h0n
      have hi2 : q / n < len := (Nat.div_lt_iff_lt_mul h0n).2 hlenq
      have hqe : q / n * n + q % n = q := by rw [Nat.mul_comm]; exact Nat.div_add_mod q n
      have hg := flat_get E n hn ((List.range len).map f) (q / n) (q % n) (by rw [hlen]; exact hi2) hj
      rw [hqe, hq] at hg
      simp only [List.getElem_map, List.getElem_range] at hg
      have := (hf (q / n) hi2).1 (q % n) v hg.symm
      rw [Addr.add_mid, Addr.add_mid, Nat.add_assoc, hqe] at this
      exact this
    · intro y hy
      obtain ⟨i, hi1, rfl⟩ := List.mem_map.1 hy
      exact (hf i (List.mem_range.1 hi1)).2.1
    · rw [hx]
      simp only [Rows.uptoBulk, bulk_map]
      rw [sumL_map]
      have := sumL_le (fun i => m (f i)) (fun i => Rows.uptoBulk (D i)) (List.range len) (fun i hi => (hf i (List.mem_range.1 hi)).2.2)
      omega

def intC (a : Int) : List Value := [.int .i64 a]
theorem rdN_of {W : World} {A : Option Addr} {l : List Int} (h : RdL intC W A l) : RdN .i64 W A l := by
  refine ⟨h.1, fun h0 => ?_⟩
  obtain ⟨b, o, hA, hr⟩ := h.2 h0
  refine ⟨b, o, hA, fun j hj => ?_⟩
  have := rdL_get 1 (fun _ => rfl) hr hj 0 (by decide) rfl
  rw [List.getD_eq_getElem?_getD, List.getElem?_eq_getElem hj]
  simpa using this
theorem ints_cells {fuel : Nat} {cs : List Value} {x : DataW H × List MemPlace} (h : DataW.trod enc Tryz.prog W base sp held fuel 23 cs = some x) :
    ∃ (A : Option Addr) (c : Nat) (l : List Int), cs = [.slice A l.length c] ∧ RdN .i64 W A l ∧ (∀ a ∈ l, In64 a) := by
  obtain ⟨A, c, l, h1, h2, h3, h4, h5⟩ := sl_cells (E := intC) (Q := fun a => In64 a) (m := fun _ => 1) (n := 1) (fun _ => rfl) (by decide) (0 : Int) Tryz.underlying23 (by kernel_rfl) (fun {fuel cs x} hx => by
    obtain ⟨a, e1, e2, e3⟩ := DataW.trod_int Tryz.underlying3 hx
    exact ⟨a, e1, (Lit.wf_int_iff _ _).1 e3, by rw [e2]; exact Nat.le_refl _⟩) h
  exact ⟨A, c, l, h1, rdN_of h2, h3⟩

theorem cn_open {fuel : Nat} {cs : List Value} {x : DataW H × List MemPlace} (h : DataW.trod enc Tryz.prog W base sp held fuel 93 cs = some x) :
    ∃ c : Sp.Cn, cs = Sp.cnC c ∧ (In64 c.tag ∧ In64 c.n ∧ In64 c.a ∧ In64 c.b ∧ In64 c.c) ∧ c.text.size ≤ Rows.uptoBulk x.1 := by
  obtain ⟨xs, n, hn, hx, hl, hlen, hf⟩ := DataW.trod_struct Tryz.underlying93 h
  have hC : Tryz.prog.cellsOf 93 = 6 := by kernel_rfl
  have h3 : Tryz.prog.cellsOf 3 = 1 := by kernel_rfl
  have h9 : Tryz.prog.cellsOf 9 = 1 := by kernel_rfl
  rw [hC] at hl
  match cs, hl with
  | [c0, c1, c2, c3, c4, c5], _ =>
    match xs, hlen with
    | [x0, x1, x2, x3, x4, x5], _ =>
      have f0 : DataW.trod enc Tryz.prog W base sp held n 3 [c0] = some x0 := by simpa [h3] using hf 0 _ rfl
      have f1 : DataW.trod enc Tryz.prog W base sp held n 9 [c1] = some x1 := by simpa [h3, h9] using hf 1 _ rfl
      have f2 : DataW.trod enc Tryz.prog W base sp held n 3 [c2] = some x2 := by simpa [h3, h9] using hf 2 _ rfl
      have f3 : DataW.trod enc Tryz.prog W base sp held n 3 [c3] = some x3 := by simpa [h3, h9] using hf 3 _ rfl
      have f4 : DataW.trod enc Tryz.prog W base sp held n 3 [c4] = some x4 := by simpa [h3, h9] using hf 4 _ rfl
      have f5 : DataW.trod enc Tryz.prog W base sp held n 3 [c5] = some x5 := by simpa [h3, h9] using hf 5 _ rfl
      clear hf h
      obtain ⟨n0, a1, a2, a3⟩ := DataW.trod_int Tryz.underlying3 f0
      obtain ⟨s1, b1, b2, b3⟩ := DataW.trod_string Tryz.underlying9 f1
      obtain ⟨n2, d1, d2, d3⟩ := DataW.trod_int Tryz.underlying3 f2
      obtain ⟨n3, g1, g2, g3⟩ := DataW.trod_int Tryz.underlying3 f3
      obtain ⟨n4, i1, i2, i3⟩ := DataW.trod_int Tryz.underlying3 f4
      obtain ⟨n5, j1, j2, j3⟩ := DataW.trod_int Tryz.underlying3 f5
      simp at a1 b1 d1 g1 i1 j1
      subst a1 b1 d1 g1 i1 j1
      refine ⟨⟨n0, s1, n2, n3, n4, n5⟩, rfl, ⟨(Lit.wf_int_iff _ _).1 a3, (Lit.wf_int_iff _ _).1 d3, (Lit.wf_int_iff _ _).1 g3, (Lit.wf_int_iff _ _).1 i3, (Lit.wf_int_iff _ _).1 j3⟩, ?_⟩
      rw [hx]
      have hz : s1.data.toList.length = s1.size := rfl
      simp only [List.map_cons, List.map_nil, Rows.uptoBulk, Rows.uptoBulkAll, b2, hz]
      omega
theorem cns_cells {fuel : Nat} {cs : List Value} {x : DataW H × List MemPlace} (h : DataW.trod enc Tryz.prog W base sp held fuel 60 cs = some x) :
    ∃ (A : Option Addr) (c : Nat) (l : List Sp.Cn), cs = [.slice A l.length c] ∧ RdL Sp.cnC W A l ∧ (∀ c ∈ l, In64 c.tag ∧ In64 c.n ∧ In64 c.a ∧ In64 c.b ∧ In64 c.c) ∧ sumL (l.map fun c => c.text.size) ≤ Rows.uptoBulk x.1 := by
  obtain ⟨A, c, l, h1, h2, h3, h4, h5⟩ := sl_cells (E := Sp.cnC) (Q := fun c => In64 c.tag ∧ In64 c.n ∧ In64 c.a ∧ In64 c.b ∧ In64 c.c) (m := fun c => c.text.size) (n := 6) Sp.cnC_len (by decide) ⟨0, ⟨#[]⟩, 0, 0, 0, 0⟩ Tryz.underlying60 (by kernel_rfl) (fun {fuel cs x} hx => cn_open hx) h
  exact ⟨A, c, l, h1, h2, h3, h4⟩

theorem hn_open {fuel : Nat} {cs : List Value} {x : DataW H × List MemPlace} (h : DataW.trod enc Tryz.prog W base sp held fuel 119 cs = some x) :
    ∃ c : Sp.Hn, cs = Sp.hnC c ∧ (In64 c.fr ∧ In64 c.til ∧ In64 c.at_ ∧ In64 c.cls) ∧ 1 ≤ Rows.uptoBulk x.1 := by
  obtain ⟨xs, n, hn, hx, hl, hlen, hf⟩ := DataW.trod_struct Tryz.underlying119 h
  have hC : Tryz.prog.cellsOf 119 = 4 := by kernel_rfl
  have h3 : Tryz.prog.cellsOf 3 = 1 := by kernel_rfl
  rw [hC] at hl
  match cs, hl with
  | [c0, c1, c2, c3], _ =>
    match xs, hlen with
    | [x0, x1, x2, x3], _ =>
      have f0 : DataW.trod enc Tryz.prog W base sp held n 3 [c0] = some x0 := by simpa [h3] using hf 0 _ rfl
      have f1 : DataW.trod enc Tryz.prog W base sp held n 3 [c1] = some x1 := by simpa [h3] using hf 1 _ rfl
      have f2 : DataW.trod enc Tryz.prog W base sp held n 3 [c2] = some x2 := by simpa [h3] using hf 2 _ rfl
      have f3 : DataW.trod enc Tryz.prog W base sp held n 3 [c3] = some x3 := by simpa [h3] using hf 3 _ rfl
      clear hf h
      obtain ⟨n0, a1, a2, a3⟩ := DataW.trod_int Tryz.underlying3 f0
      obtain ⟨n1, b1, b2, b3⟩ := DataW.trod_int Tryz.underlying3 f1
      obtain ⟨n2, d1, d2, d3⟩ := DataW.trod_int Tryz.underlying3 f2
      obtain ⟨n3, g1, g2, g3⟩ := DataW.trod_int Tryz.underlying3 f3
      simp at a1 b1 d1 g1
      subst a1 b1 d1 g1
      refine ⟨⟨n0, n1, n2, n3⟩, rfl, ⟨(Lit.wf_int_iff _ _).1 a3, (Lit.wf_int_iff _ _).1 b3, (Lit.wf_int_iff _ _).1 d3, (Lit.wf_int_iff _ _).1 g3⟩, ?_⟩
      rw [hx]
      simp only [Rows.uptoBulk]
      omega
theorem hns_cells {fuel : Nat} {cs : List Value} {x : DataW H × List MemPlace} (h : DataW.trod enc Tryz.prog W base sp held fuel 103 cs = some x) :
    ∃ (A : Option Addr) (c : Nat) (l : List Sp.Hn), cs = [.slice A l.length c] ∧ RdL Sp.hnC W A l ∧ (∀ c ∈ l, In64 c.fr ∧ In64 c.til ∧ In64 c.at_ ∧ In64 c.cls) ∧ l.length ≤ Rows.uptoBulk x.1 := by
  obtain ⟨A, c, l, h1, h2, h3, h4, h5⟩ := sl_cells (E := Sp.hnC) (Q := fun c => In64 c.fr ∧ In64 c.til ∧ In64 c.at_ ∧ In64 c.cls) (m := fun _ => 1) (n := 4) Sp.hnC_len (by decide) ⟨0, 0, 0, 0⟩ Tryz.underlying103 (by kernel_rfl) (fun {fuel cs x} hx => hn_open hx) h
  refine ⟨A, c, l, h1, h2, h3, Nat.le_trans ?_ h4⟩
  clear h1 h2 h3 h4 h5
  induction l with
  | nil => simp
  | cons a l ih => simp only [List.length_cons, List.map_cons, sumL]; omega

/-- What a member's numbers are, and that its handlers are read. -/
def MbOk (W : World) (m : Sp.Mp) : Prop := RdL Sp.hnC W m.2.1 m.1.hs ∧ In64 m.1.flags ∧ In64 m.1.name ∧ In64 m.1.desc ∧ In64 m.1.stack ∧ In64 m.1.locals ∧ ∀ h ∈ m.1.hs, In64 h.fr ∧ In64 h.til ∧ In64 h.at_ ∧ In64 h.cls
theorem mb_open {fuel : Nat} {cs : List Value} {x : DataW H × List MemPlace} (h : DataW.trod enc Tryz.prog W base sp held fuel 105 cs = some x) :
    ∃ m : Sp.Mp, cs = Sp.mbC m ∧ MbOk W m ∧ m.1.code.size + m.1.hs.length ≤ Rows.uptoBulk x.1 := by
  obtain ⟨xs, n, hn, hx, hl, hlen, hf⟩ := DataW.trod_struct Tryz.underlying105 h
  have hC : Tryz.prog.cellsOf 105 = 7 := by kernel_rfl
  have h3 : Tryz.prog.cellsOf 3 = 1 := by kernel_rfl
  have h9 : Tryz.prog.cellsOf 9 = 1 := by kernel_rfl
  have hs : Tryz.prog.cellsOf 103 = 1 := by kernel_rfl
  rw [hC] at hl
  match cs, hl with
  | [c0, c1, c2, c3, c4, c5, c6], _ =>
    match xs, hlen with
    | [x0, x1, x2, x3, x4, x5, x6], _ =>
      have f0 : DataW.trod enc Tryz.prog W base sp held n 3 [c0] = some x0 := by simpa [h3] using hf 0 _ rfl
      have f1 : DataW.trod enc Tryz.prog W base sp held n 3 [c1] = some x1 := by simpa [h3] using hf 1 _ rfl
      have f2 : DataW.trod enc Tryz.prog W base sp held n 3 [c2] = some x2 := by simpa [h3] using hf 2 _ rfl
      have f3 : DataW.trod enc Tryz.prog W base sp held n 3 [c3] = some x3 := by simpa [h3] using hf 3 _ rfl
      have f4 : DataW.trod enc Tryz.prog W base sp held n 3 [c4] = some x4 := by simpa [h3] using hf 4 _ rfl
      have f5 : DataW.trod enc Tryz.prog W base sp held n 9 [c5] = some x5 := by simpa [h3, h9] using hf 5 _ rfl
      have f6 : DataW.trod enc Tryz.prog W base sp held n 103 [c6] = some x6 := by simpa [h3, h9, hs] using hf 6 _ rfl
      clear hf h
      obtain ⟨n0, a1, a2, a3⟩ := DataW.trod_int Tryz.underlying3 f0
      obtain ⟨n1, b1, b2, b3⟩ := DataW.trod_int Tryz.underlying3 f1
      obtain ⟨n2, d1, d2, d3⟩ := DataW.trod_int Tryz.underlying3 f2
      obtain ⟨n3, g1, g2, g3⟩ := DataW.trod_int Tryz.underlying3 f3
      obtain ⟨n4, i1, i2, i3⟩ := DataW.trod_int Tryz.underlying3 f4
      obtain ⟨s5, j1, j2, j3⟩ := DataW.trod_string Tryz.underlying9 f5
      obtain ⟨A, c, l, k1, k2, k3, k4⟩ := hns_cells f6
      simp at a1 b1 d1 g1 i1 j1 k1
      subst a1 b1 d1 g1 i1 j1 k1
      refine ⟨(⟨n0, n1, n2, n3, n4, s5, l⟩, A, c), rfl, ⟨k2, (Lit.wf_int_iff _ _).1 a3, (Lit.wf_int_iff _ _).1 b3, (Lit.wf_int_iff _ _).1 d3, (Lit.wf_int_iff _ _).1 g3, (Lit.wf_int_iff _ _).1 i3, k3⟩, ?_⟩
      rw [hx]
      have hz : s5.data.toList.length = s5.size := rfl
      simp only [List.map_cons, List.map_nil, Rows.uptoBulk, Rows.uptoBulkAll, j2, hz]
      omega
theorem mbs_cells {fuel : Nat} {cs : List Value} {x : DataW H × List MemPlace} (h : DataW.trod enc Tryz.prog W base sp held fuel 61 cs = some x) :
    ∃ (A : Option Addr) (c : Nat) (l : List Sp.Mp), cs = [.slice A l.length c] ∧ RdL Sp.mbC W A l ∧ (∀ m ∈ l, MbOk W m) ∧ sumL (l.map fun m => m.1.code.size + m.1.hs.length) ≤ Rows.uptoBulk x.1 := by
  obtain ⟨A, c, l, h1, h2, h3, h4, h5⟩ := sl_cells (E := Sp.mbC) (Q := MbOk W) (m := fun m => m.1.code.size + m.1.hs.length) (n := 7) Sp.mbC_len (by decide) (⟨0, 0, 0, 0, 0, ⟨#[]⟩, []⟩, none, 0) Tryz.underlying61 (by kernel_rfl) (fun {fuel cs x} hx => mb_open hx) h
  exact ⟨A, c, l, h1, h2, h3, h4⟩

/-- What is told of a class that came in. -/
structure FlIn (W : World) (q : Sp.At) (F : FlP) : Prop where
  flags : In64 F.flags
  this : In64 F.this
  super : In64 F.super
  ifs : RdN .i64 W q.I F.ifaces
  ifaces : ∀ i ∈ F.ifaces, In64 i
  cns : RdL Sp.cnC W q.A F.pool
  pool : ∀ c ∈ F.pool, In64 c.tag ∧ In64 c.n ∧ In64 c.a ∧ In64 c.b ∧ In64 c.c
  fls : RdL Sp.mbC W q.X F.fields
  fields : ∀ m ∈ F.fields, MbOk W m
  mts : RdL Sp.mbC W q.Y F.methods
  methods : ∀ m ∈ F.methods, MbOk W m
def FlP.bulk (F : FlP) : Nat := sumL (F.pool.map fun c => c.text.size) + sumL (F.fields.map fun m => m.1.code.size + m.1.hs.length) + sumL (F.methods.map fun m => m.1.code.size + m.1.hs.length)

theorem fl_cells {fuel : Nat} {cs : List Value} {x : DataW H × List MemPlace} (h : DataW.trod enc Tryz.prog W base sp held fuel 63 cs = some x) :
    ∃ (q : Sp.At) (F : FlP), cs = (flC q F).toList ∧ FlIn W q F ∧ F.bulk ≤ Rows.uptoBulk x.1 := by
  obtain ⟨xs, n, hn, hx, hl, hlen, hf⟩ := DataW.trod_struct Tryz.underlying63 h
  have hC : Tryz.prog.cellsOf 63 = 7 := by kernel_rfl
  have h3 : Tryz.prog.cellsOf 3 = 1 := by kernel_rfl
  have ha : Tryz.prog.cellsOf 60 = 1 := by kernel_rfl
  have hb : Tryz.prog.cellsOf 23 = 1 := by kernel_rfl
  have hd : Tryz.prog.cellsOf 61 = 1 := by kernel_rfl
  rw [hC] at hl
  match cs, hl with
  | [c0, c1, c2, c3, c4, c5, c6], _ =>
    match xs, hlen with
    | [x0, x1, x2, x3, x4, x5, x6], _ =>
      have f0 : DataW.trod enc Tryz.prog W base sp held n 60 [c0] = some x0 := by simpa [ha] using hf 0 _ rfl
      have f1 : DataW.trod enc Tryz.prog W base sp held n 3 [c1] = some x1 := by simpa [h3, ha] using hf 1 _ rfl
      have f2 : DataW.trod enc Tryz.prog W base sp held n 3 [c2] = some x2 := by simpa [h3, ha] using hf 2 _ rfl
      have f3 : DataW.trod enc Tryz.prog W base sp held n 3 [c3] = some x3 := by simpa [h3, ha] using hf 3 _ rfl
      have f4 : DataW.trod enc Tryz.prog W base sp held n 23 [c4] = some x4 := by simpa [h3, ha, hb] using hf 4 _ rfl
      have f5 : DataW.trod enc Tryz.prog W base sp held n 61 [c5] = some x5 := by simpa [h3, ha, hb, hd] using hf 5 _ rfl
      have f6 : DataW.trod enc Tryz.prog W base sp held n 61 [c6] = some x6 := by simpa [h3, ha, hb, hd] using hf 6 _ rfl
      clear hf h
      obtain ⟨qA, qc, pool, a1, a2, a3, a4⟩ := cns_cells f0
      obtain ⟨n1, b1, b2, b3⟩ := DataW.trod_int Tryz.underlying3 f1
      obtain ⟨n2, d1, d2, d3⟩ := DataW.trod_int Tryz.underlying3 f2
      obtain ⟨n3, g1, g2, g3⟩ := DataW.trod_int Tryz.underlying3 f3
      obtain ⟨qI, qd, ifs, i1, i2, i3⟩ := ints_cells f4
      obtain ⟨qX, qe, fls, j1, j2, j3, j4⟩ := mbs_cells f5
      obtain ⟨qY, qg, mts, k1, k2, k3, k4⟩ := mbs_cells f6
      simp at a1 b1 d1 g1 i1 j1 k1
      subst a1 b1 d1 g1 i1 j1 k1
      refine ⟨⟨qA, qc, qI, qd, qX, qe, qY, qg⟩, ⟨pool, n1, n2, n3, ifs, fls, mts⟩, rfl, ⟨(Lit.wf_int_iff _ _).1 b3, (Lit.wf_int_iff _ _).1 d3, (Lit.wf_int_iff _ _).1 g3, i2, i3, a2, a3, j2, j3, k2, k3⟩, ?_⟩
      rw [hx]
      simp only [FlP.bulk, List.map_cons, List.map_nil, Rows.uptoBulk, Rows.uptoBulkAll]
      omega
end

theorem FlIn.rd {W : World} {q : Sp.At} {F : FlP} (h : FlIn W q F) : RdF W q F := ⟨h.cns, h.ifs, ⟨h.fls, fun m hm => (h.fields m hm).1⟩, ⟨h.mts, fun m hm => (h.methods m hm).1⟩⟩
theorem FlIn.ok {W : World} {q : Sp.At} {F : FlP} (h : FlIn W q F) (hb : F.bulk ≤ 1048576) : FlOk F := by
  unfold FlP.bulk at hb
  refine ⟨h.flags, h.this, h.super, h.ifaces, fun c hc => ?_, fun m hm => ?_, fun m hm => ?_⟩
  · obtain ⟨a1, a2, a3, a4, a5⟩ := h.pool c hc
    have := sumL_mem (fun c : Sp.Cn => c.text.size) F.pool c hc
    exact ⟨a1, a2, a3, a4, a5, by omega⟩
  · obtain ⟨a1, a2, a3, a4, a5, a6⟩ := h.fields m hm
    exact ⟨a2, a3, a4⟩
  · obtain ⟨a1, a2, a3, a4, a5, a6, a7⟩ := h.methods m hm
    have := sumL_mem (fun m : Sp.Mp => m.1.code.size + m.1.hs.length) F.methods m hm
    exact ⟨a2, a3, a4, a5, a6, by omega, a7⟩
theorem textN_sum (l : List Sp.Cn) : Sp.textN l = sumL (l.map fun c => c.text.size) := by
  induction l with
  | nil => rfl
  | cons c l ih => simp only [Sp.textN, List.map_cons, sumL, ih]
theorem codeN_sum (l : List Sp.Mp) : Sp.codeN (l.map (·.1)) ≤ 8 * sumL (l.map fun m => m.1.code.size + m.1.hs.length) := by
  induction l with
  | nil => simp [Sp.codeN]
  | cons c l ih => simp only [Sp.codeN, List.map_cons, sumL]; omega
theorem FlP.sizes {F : FlP} (hb : F.bulk ≤ 1048576) : Sp.textN F.pool + Sp.codeN (F.methods.map (·.1)) + Sp.codeN (F.fields.map (·.1)) ≤ 4611686018427387904 := by
  unfold FlP.bulk at hb
  have h1 := textN_sum F.pool
  have h2 := codeN_sum F.methods
  have h3 := codeN_sum F.fields
  omega
end Go.Proofs.YtfjplmbknegidaaGreatDoor
end
section
/- The contracts of the library at this program: slices.Clone. -/
namespace Go.Proofs
open Go.Shelf
def Tryz.laysNm216_ren : Go.Shelf.Ren := ⟨fun | 16 => 44 | n => n, fun | 24 => 42 | 9 => 9 | 4 => 4 | n => n, fun | n => n⟩
theorem Tryz.laysNm216 : Go.Proofs.Lays2.n16 Tryz.prog Tryz.laysNm216_ren := {
  mixed := by kernel_rfl
  f16 := Tryz.func44.trans (congrArg some (by kernel_rfl))
  t4 := Tryz.underlying4
  a4 := Tryz.isAgg4
  z4 := Tryz.sizeOf4
  v4 := Tryz.zeroValue4
  t9 := Tryz.underlying9
  a9 := Tryz.isAgg9
  z9 := Tryz.sizeOf9
  v9 := Tryz.zeroValue9
  t24 := Tryz.underlying42
  a24 := Tryz.isAgg42
  z24 := Tryz.sizeOf42
  v24 := Tryz.zeroValue42
  i9 := by kernel_rfl }
open Go.RowKit Go.Lib in
theorem Tryz.slices_Clone_string (b off n c : Nat) (zs : List ByteArray) (w : World) (hz : n ≤ zs.length) (hbig : n * 16 ≤ 140737488355328) (hc : ∀ j, j < zs.length → w.cell? ⟨b, off + j, none⟩ = some (.string (zs.getD j ByteArray.empty))) :
    Calls Tryz.prog 44 #[.slice (some ⟨b, off, none⟩) n c] w fun e w' => ∃ v', e = .returned v' ∧ w'.ownsRow w.heap.size 9 1 v' n ((zs.take n).map (Value.string)) ∧ v' ≠ .slice none 0 0 ∧ Below w.heap.size w w' := Any.slices_Clone_string Tryz.laysNm216 b off n c zs w hz hbig hc
open Go.RowKit Go.Lib in
theorem Tryz.slices_Clone_string_nil (n c : Nat) (w : World) :
    Calls Tryz.prog 44 #[.slice none n c] w fun e w' => e = .returned (.slice none 0 0) ∧ w' = w := Any.slices_Clone_string_nil Tryz.laysNm216 n c w
open Go.RowKit Go.Lib in
theorem Tryz.slices_Clone_string_zero (a : Addr) (c : Nat) (w : World) :
    Calls Tryz.prog 44 #[.slice (some a) 0 c] w fun e w' => ∃ v', e = .returned v' ∧ w'.ownsRow w.heap.size 9 1 v' 0 [] ∧ v' ≠ .slice none 0 0 ∧ Below w.heap.size w w' := Any.slices_Clone_string_zero Tryz.laysNm216 a c w
end Go.Proofs
end
