/-
  Texts of the proof, joined.
-/
import Derived.Test.YtjjlcoimaihdoaaGreatDoorJh11
import Derived.Test.YtjjlcoimaihdoaaGreatDoorJh5
import Derived.Deep.RegionHeld3
import Derived.Deep.RegionWith
set_option linter.unusedVariables false
set_option linter.unusedSimpArgs false
namespace Go.Proofs.YtjjlcoimaihdoaaGreatDoor
open Go.RowKit Go.Lib
theorem arr_at {α : Type} (l : List α) (i : Nat) (x : α) (h : l[i]? = some x) : l.toArray[i]? = some x := by simpa using h
namespace Sp
def sameK (p : List Cn) (method : Bool) (m x : Mb) : Bool := decide ((cnameS p x.name).1 = (cnameS p m.name).1) && (!method || decide ((cnameS p x.desc).1 = (cnameS p m.desc).1))
def atM (p : List Cn) (chk : Mb → Int) (method : Bool) (l : List Mb) (k : Nat) (m : Mb) : Int := if chk m ≠ 0 then chk m else if (l.take k).any (sameK p method m) = true then 15 else 0
theorem any_drop {α : Type} (f : α → Bool) (l : List α) (k j : Nat) (hj : j < k) (hk : k ≤ l.length) : ((l.take k).drop j).any f = (f (l[j]'(by omega)) || ((l.take k).drop (j + 1)).any f) := by
 have h : j < (l.take k).length := by rw [List.length_take]; omega
 rw [List.drop_eq_getElem_cons h, List.any_cons, List.getElem_take]
theorem any_end {α : Type} (f : α → Bool) (l : List α) (k : Nat) : ((l.take k).drop k).any f = false := by
 rw [List.drop_eq_nil_of_le (by rw [List.length_take]; omega)]
 rfl
end Sp
set_option maxHeartbeats 16000000 in
set_option maxRecDepth 100000 in
theorem refFieldM_any (q : Sp.At) (F : FlP) (k : Nat) (hk : k < F.fields.length) (w : World) (hr : RdF w q F) (hI : ∀ m ∈ F.fields, In64 m.1.name ∧ In64 m.1.desc)
  (hz : ∀ c ∈ F.pool, c.text.size ≤ 1099511627776) (hP : ∀ j (hj : j < k), Sp.taggedS F.pool (F.fields[j]'(by omega)).1.name 1 = true) :
  Calls Tryz.prog 230 #[.agg (flC q F), .int .i64 k] w fun e w' => e = .returned (.int .i64 (Sp.atM F.pool (Sp.fieldM F.pool F.flags) false (F.fields.map (·.1)) k F.fields[k].1)) ∧ Below w.heap.size w w' := by
 obtain ⟨pool, fl, th, su, ifs, flds, mths⟩ := F
 obtain ⟨qA, qc, qI, qd, qX, qe, qY, qg⟩ := q
 simp only [] at hk hI hz hP ⊢
 have hr0 := Lib.hid hr
 have hll := hr.fields.1.1
 obtain ⟨b, o, hA, hrg⟩ := hr.fields.1.2 (Nat.lt_of_le_of_lt (Nat.zero_le k) hk)
 simp only [] at hA
 subst hA
 obtain ⟨d0, d1, d2, d3, d4, d5, d6⟩ := mb_cells hrg hk
 have hc := Lib.hid (fun j (hj : j < flds.length) => mb_cells hrg hj)
 have hcn := Lib.hid (fun j (hj : j < k) => Sp.cname_at pool (flds[j]'(by omega)).1.name (hP j hj))
 have hhs := hr.fields.2 _ (List.getElem_mem hk)
 clear hr hrg hP
 have hD := Lib.hid (fun j (hj : j < k) => Sp.any_drop (Sp.sameK pool false flds[k].1) (flds.map (·.1)) k j hj (by simp; omega))
 have hDe := Lib.hid (Sp.any_end (Sp.sameK pool false flds[k].1) (flds.map (·.1)) k)
 have hD0 := Lib.hid (show (((flds.map (·.1)).take k).drop 0).any (Sp.sameK pool false flds[k].1) = ((flds.map (·.1)).take k).any (Sp.sameK pool false flds[k].1) by simp)
 simp only [Sp.atM]
 obtain ⟨h1, h2⟩ := hI _ (List.getElem_mem hk)
 have hsk : ∀ x : Sp.Mb, Sp.sameK pool false flds[k].1 x = (decide ((Sp.cnameS pool x.name).1 = (Sp.cnameS pool flds[k].1.name).1) && (!false || decide ((Sp.cnameS pool x.desc).1 = (Sp.cnameS pool flds[k].1.desc).1))) := fun x => rfl
 have hsk0 := Lib.hid hsk
 clear hsk hI
 generalize ((flds.map (·.1)).take k).any (Sp.sameK pool false flds[k].1) = DD at *
 generalize Sp.sameK pool false flds[k].1 = sk at *
 generalize flds[k] = m at *
 obtain ⟨⟨mf, mn, md, ms, ml, mc, mh⟩, mA, mcap⟩ := m
 simp only [] at d0 d1 d2 d3 d4 d5 d6 h1 h2 hhs hsk0 ⊢
 have hhl := hhs.1
 have kn := Lib.hid (fun W hr => refNamed_any ⟨qA, qc, qI, qd, some ⟨b, o, none⟩, qe, qY, qg⟩ ⟨pool, fl, th, su, ifs, flds, mths⟩ (⟨mf, mn, md, ms, ml, mc, mh⟩, mA, mcap) false W hr h1 h2 hz)
 have kb := Lib.hid (fun W => refBare_any (⟨mf, mn, md, ms, ml, mc, mh⟩, mA, mcap) W hhl)
 have kt := Lib.hid (fun k (hk : k < pool.length) W hr => refText_any ⟨qA, qc, qI, qd, some ⟨b, o, none⟩, qe, qY, qg⟩ ⟨pool, fl, th, su, ifs, flds, mths⟩ k hk W hr)
 have na := Lib.hid (Sp.cname_at pool mn)
 have nd := Lib.hid (Sp.cname_at pool md)
 have hlk := Lib.hid (show Sp.linkS pool mn md false = _ by rw [Sp.linkS])
 clear hz hhs
 have HE0 := Lib.hid (show Sp.fieldM pool fl ⟨mf, mn, md, ms, ml, mc, mh⟩ = _ by rw [Sp.fieldM])
 generalize Sp.fieldM pool fl ⟨mf, mn, md, ms, ml, mc, mh⟩ = CK at *
 have HE1 := Lib.hid HE0.out
 clear HE0
 have hbare : Sp.bareS ⟨mf, mn, md, ms, ml, mc, mh⟩ = (decide (ms = 0) && decide (ml = 0) && decide (mc.size = 0) && decide (mh.length = 0)) := rfl
 rw [hbare] at HE1
 clear hbare
 simp only [] at HE1 kn kb kt
 generalize (decide (ms = 0) && decide (ml = 0) && decide (mc.size = 0) && decide (mh.length = 0)) = br at *
 have htag : Sp.linkS pool mn md false = 0 → Sp.taggedS pool mn 1 = true ∧ Sp.taggedS pool md 1 = true := by
  intro h
  rw [hlk.out, Sp.cname_tag, Sp.cname_tag] at h
  cases u : Sp.taggedS pool mn 1 with
  | false => rw [if_pos (.inl u)] at h; cases h
  | true =>
   cases v : Sp.taggedS pool md 1 with
   | false => rw [if_pos (.inr v)] at h; cases h
   | true => exact ⟨rfl, rfl⟩
 have htg := Lib.hid htag
 clear htag hlk
 generalize Sp.linkS pool mn md false = le at *
 have HR := Lib.hid (show (if CK ≠ 0 then CK else if DD = true then 15 else 0) = _ from rfl)
 generalize hRR : (if CK ≠ 0 then CK else if DD = true then (15 : Int) else 0) = R at HR ⊢
 have HR0 := Lib.hid hRR
 clear HR hRR
 have hB := (Below.refl w.heap.size w).alloc (Nat.le_refl _) (.cells (flC ⟨qA, qc, qI, qd, some ⟨b, o, none⟩, qe, qY, qg⟩ ⟨pool, fl, th, su, ifs, flds, mths⟩) 26)
 have hK := Lib.hid (blk_new w (.cells (flC ⟨qA, qc, qI, qd, some ⟨b, o, none⟩, qe, qY, qg⟩ ⟨pool, fl, th, su, ifs, flds, mths⟩) 26))
 unfold flC at kn kt
 unfold Sp.mbV at kn kb
 have hfl : flC ⟨qA, qc, qI, qd, some ⟨b, o, none⟩, qe, qY, qg⟩ ⟨pool, fl, th, su, ifs, flds, mths⟩ = #[.slice qA pool.length qc, .int .i64 fl, .int .i64 th, .int .i64 su, .slice qI ifs.length qd, .slice (some ⟨b, o, none⟩) flds.length qe, .slice qY mths.length qg] := rfl
 rw [hfl] at hB hK ⊢
 clear hfl
 simp only [] at kn kb kt ⊢
 have hBm := hB.alloc (by simp) (.cells #[.int .i64 mf, .int .i64 mn, .int .i64 md, .int .i64 ms, .int .i64 ml, .string mc, .slice mA mh.length mcap] 131)
 have hKm := Lib.hid (blk_old (o := .cells #[.int .i64 mf, .int .i64 mn, .int .i64 md, .int .i64 ms, .int .i64 ml, .string mc, .slice mA mh.length mcap] 131) hK.out)
 have hLm := Lib.hid (blk_new (w.alloc (.cells #[.slice qA pool.length qc, .int .i64 fl, .int .i64 th, .int .i64 su, .slice qI ifs.length qd, .slice (some ⟨b, o, none⟩) flds.length qe, .slice qY mths.length qg] 26)) (.cells #[.int .i64 mf, .int .i64 mn, .int .i64 md, .int .i64 ms, .int .i64 ml, .string mc, .slice mA mh.length mcap] 131))
 rw [show (w.alloc (.cells #[.slice qA pool.length qc, .int .i64 fl, .int .i64 th, .int .i64 su, .slice qI ifs.length qd, .slice (some ⟨b, o, none⟩) flds.length qe, .slice qY mths.length qg] 26)).heap.size = w.heap.size + 1 by simp] at hLm
 have hSm := hBm.size
 clear hB hK
 have hzk : (k : Int) < (flds.length : Int) := by omega
 have hbl := World.block_lt_of_cell? _ _ d0
 have hm : (mf ≠ 0 ∧ mf ≠ 1) ∨ mf = 0 ∨ mf = 1 := by omega
 rcases hm with ⟨m0, m1⟩ | rfl | rfl
 ·have b1 : (mf != 0) = true := by simp [m0]
  have b2 : (mf != 1) = true := by simp [m1]
  have b3 : (mf == 0) = false := by simp [m0]
  have hC : CK = 10 := by rw [HE1.out]; rw [if_pos (.inl ⟨m0, m1⟩)]
  have hR : R = 10 := by rw [← HR0.out, hC, if_pos (by decide)]
  subst hR
  clear HE1 HR0 hC
  go_enter Tryz.func230, Tryz.ntmps230
  go_wp2
  go_ret
  exact ⟨rfl, hBm⟩
 ·by_cases h3 : fl = 3
  ·subst h3
   have hC : CK = 10 := by rw [HE1.out]; rw [if_pos (by simp)]
   have hR : R = 10 := by rw [← HR0.out, hC, if_pos (by decide)]
   subst hR
   clear HE1 HR0 hC
   go_enter Tryz.func230, Tryz.ntmps230
   go_wp2
   go_ret
   exact ⟨rfl, hBm⟩
  have h3b : (fl == 3) = false := by simp [h3]
  have HE2 := Lib.hid (show CK = if le = 0 then (if br = true then 0 else 1) else le by rw [HE1.out, if_neg (by simp [h3])])
  clear HE1 h3
  have HE1 := HE2
  clear HE2
  have K0 := hKm
  have L0 := hLm
  have B0 := hBm
  have S0 := hSm
  clear hKm hLm hBm hSm
  go_enter Tryz.func230, Tryz.ntmps230
  go_wp2_with fail
  refine (kn.out _ (rdF_below hr0.out B0)).mono ?_
  rintro e w1 ⟨rfl, hb1⟩
  have K1 := Lib.hid (blk_below K0.out hb1)
  have L1 := Lib.hid (blk_below L0.out hb1)
  have B1 := below_then B0 S0 hb1
  have S1 := B1.size
  clear K0 L0 B0 S0 hb1 kn
  obtain ⟨c0, c1, c2, c3, c4, c5, c6⟩ := flC_box (q := ⟨qA, qc, qI, qd, some ⟨b, o, none⟩, qe, qY, qg⟩) (F := ⟨pool, fl, th, su, ifs, flds, mths⟩) K1.out
  simp only [] at c0 c1 c2 c3 c4 c5 c6
  have l0 := (blk_cell L1.out 0 (.int .i64 0) rfl).1
  have l1 := (blk_cell L1.out 1 (.int .i64 mn) rfl).1
  have l2 := (blk_cell L1.out 2 (.int .i64 md) rfl).1
  have l3 := (blk_cell L1.out 3 (.int .i64 ms) rfl).1
  have l4 := (blk_cell L1.out 4 (.int .i64 ml) rfl).1
  have l5 := (blk_cell L1.out 5 (.string mc) rfl).1
  have l6 := (blk_cell L1.out 6 (.slice mA mh.length mcap) rfl).1
  by_cases hle : le = 0
  rotate_left
  ·have hleb : (le != 0) = true := by simp [hle]
   have hleb2 : (le == 0) = false := by simp [hle]
   have hC : CK = le := by rw [HE1.out, if_neg hle]
   have hR : R = le := by rw [← HR0.out, hC, if_pos (by first | decide | assumption)]
   subst hR
   clear HE1 HR0 hC
   go_wp2
   go_ret
   exact ⟨rfl, B1⟩
  have htt := htg.out hle
  obtain ⟨kn0, hkn0, hne, hnt0⟩ := na.out htt.1
  have HNT := Lib.hid hnt0
  clear hnt0
  clear htt
  subst hne
  subst hle
  have HE2 := Lib.hid HE1.out
  rw [if_pos rfl] at HE2
  clear HE1
  have HE1 := HE2
  clear HE2
  go_wp2_with fail
  refine (kb.out _).mono ?_
  rintro e w2 ⟨rfl, hb2⟩
  have K2 := Lib.hid (blk_below K1.out hb2)
  have L2 := Lib.hid (blk_below L1.out hb2)
  have B2 := below_then B1 S1 hb2
  have S2 := B2.size
  clear K1 L1 B1 S1 hb2 c0 c1 c2 c3 c4 c5 c6 l0 l1 l2 l3 l4 l5 l6 kb
  obtain ⟨c0, c1, c2, c3, c4, c5, c6⟩ := flC_box (q := ⟨qA, qc, qI, qd, some ⟨b, o, none⟩, qe, qY, qg⟩) (F := ⟨pool, fl, th, su, ifs, flds, mths⟩) K2.out
  simp only [] at c0 c1 c2 c3 c4 c5 c6
  have l0 := (blk_cell L2.out 0 (.int .i64 0) rfl).1
  have l1 := (blk_cell L2.out 1 (.int .i64 ((kn0 : Int) + 1)) rfl).1
  have l2 := (blk_cell L2.out 2 (.int .i64 md) rfl).1
  have l3 := (blk_cell L2.out 3 (.int .i64 ms) rfl).1
  have l4 := (blk_cell L2.out 4 (.int .i64 ml) rfl).1
  have l5 := (blk_cell L2.out 5 (.string mc) rfl).1
  have l6 := (blk_cell L2.out 6 (.slice mA mh.length mcap) rfl).1
  cases br with
  | false =>
   have hC : CK = 1 := by exact HE1.out
   have hR : R = 1 := by rw [← HR0.out, hC, if_pos (by first | decide | assumption)]
   subst hR
   clear HE1 HR0 hC
   go_wp2
   go_ret
   exact ⟨rfl, B2⟩
  | true =>
   have hC0 : CK = 0 := HE1.out
   clear c0 c1 c2 c3 c4 c5 c6 l0 l1 l2 l3 l4 l5 l6
   have ktn := Lib.hid (fun W hr => kt.out kn0 hkn0 W hr)
   generalize pool[kn0].text = sn at *
   have HD := Lib.hid (show (if DD = true then (15 : Int) else 0) = R by have h := HR0.out; rw [hC0, if_neg (by simp)] at h; exact h)
   clear HE1 HR0 hC0
   obtain ⟨c0, c1, c2, c3, c4, c5, c6⟩ := flC_box (q := ⟨qA, qc, qI, qd, some ⟨b, o, none⟩, qe, qY, qg⟩) (F := ⟨pool, fl, th, su, ifs, flds, mths⟩) K2.out
   simp only [] at c0 c1 c2 c3 c4 c5 c6
   have l0 := (blk_cell L2.out 0 (.int .i64 0) rfl).1
   have l1 := (blk_cell L2.out 1 (.int .i64 ((kn0 : Int) + 1)) rfl).1
   have l2 := (blk_cell L2.out 2 (.int .i64 md) rfl).1
   have l3 := (blk_cell L2.out 3 (.int .i64 ms) rfl).1
   have l4 := (blk_cell L2.out 4 (.int .i64 ml) rfl).1
   have l5 := (blk_cell L2.out 5 (.string mc) rfl).1
   have l6 := (blk_cell L2.out 6 (.slice mA mh.length mcap) rfl).1
   go_wp2
   go_loopw [8] (fun vk wr => ∃ j : Nat, vk = .int .i64 j ∧ j ≤ k ∧ Below w.heap.size w wr ∧ Hid (wr.heap[w.heap.size]? = some (.cells #[.slice qA pool.length qc, .int .i64 fl, .int .i64 th, .int .i64 su, .slice qI ifs.length qd, .slice (some ⟨b, o, none⟩) flds.length qe, .slice qY mths.length qg] 26 (0, 0))) ∧ Hid (wr.heap[w.heap.size + 1]? = some (.cells #[.int .i64 0, .int .i64 ((kn0 : Int) + 1), .int .i64 md, .int .i64 ms, .int .i64 ml, .string mc, .slice mA mh.length mcap] 131 (0, 0))) ∧ Hid ((((flds.map (·.1)).take k).drop j).any sk = DD)) (fun vk _ => k - (RowKit.intOf vk).toNat)
   case atStart => exact ⟨0, by go_num, Nat.zero_le _, B2, K2, L2, hD0⟩
   case round =>
    clear B2 K2 L2 S2 hD0 c0 c1 c2 c3 c4 c5 c6 l0 l1 l2 l3 l4 l5 l6
    obtain ⟨j, rfl, hjk0, hb, hK, hL, hf⟩ := hrel
    have hbz := hb.size
    have hlb := blk_lt hK.out
    have hlm := blk_lt hL.out
    obtain ⟨c0, c1, c2, c3, c4, c5, c6⟩ := flC_box (q := ⟨qA, qc, qI, qd, some ⟨b, o, none⟩, qe, qY, qg⟩) (F := ⟨pool, fl, th, su, ifs, flds, mths⟩) hK.out
    simp only [] at c0 c1 c2 c3 c4 c5 c6
    have l0 := (blk_cell hL.out 0 (.int .i64 0) rfl).1
    have l1 := (blk_cell hL.out 1 (.int .i64 ((kn0 : Int) + 1)) rfl).1
    have l2 := (blk_cell hL.out 2 (.int .i64 md) rfl).1
    by_cases hlt : j < k
    ·have hlt2 : j < flds.length := by omega
     have hzj : (j : Int) < (k : Int) := by omega
     have hzj2 : (j : Int) < (flds.length : Int) := by omega
     obtain ⟨f0, f1, f2, f3, f4, f5, f6⟩ := hc.out j hlt2
     have G1 := cell_below hb f1
     have G2 := cell_below hb f2
     have hf2 := hf.out
     rw [hD.out j hlt, List.getElem_map, hsk0.out] at hf2
     clear hf f0 f1 f2 f3 f4 f5 f6
     have hxn := hcn.out j hlt
     obtain ⟨kx, hkx, hxe, hxt⟩ := hxn
     rw [hxt, HNT.out] at hf2
     rw [hxe] at G1
     clear hxt hxe
     have t1 := Lib.hid (fun W hr => kt.out kx hkx W hr)
     have t2 := ktn
     generalize pool[kx].text = sx at *
     simp only [← bytes_eqb, Bool.not_true, Bool.not_false, Bool.true_or, Bool.false_or, Bool.and_true] at hf2
     have hf3 := Lib.hid hf2
     clear hf2
     have hmk := Lib.hid (show ∀ w', Below wr.heap.size wr w' → (w'.cell? ⟨w.heap.size, 0, none⟩ = some (.slice qA pool.length qc) ∧ w'.cell? ⟨w.heap.size, 1, none⟩ = some (.int .i64 fl) ∧ w'.cell? ⟨w.heap.size, 2, none⟩ = some (.int .i64 th) ∧ w'.cell? ⟨w.heap.size, 3, none⟩ = some (.int .i64 su) ∧ w'.cell? ⟨w.heap.size, 4, none⟩ = some (.slice qI ifs.length qd) ∧ w'.cell? ⟨w.heap.size, 5, none⟩ = some (.slice (some ⟨b, o, none⟩) flds.length qe) ∧ w'.cell? ⟨w.heap.size, 6, none⟩ = some (.slice qY mths.length qg) ∧ w'.cell? ⟨b, o + j * 7 + 1, none⟩ = some (.int .i64 ((kx : Int) + 1)) ∧ w'.cell? ⟨w.heap.size + 1, 1, none⟩ = some (.int .i64 ((kn0 : Int) + 1))) from fun w' h => ⟨cell_below h c0, cell_below h c1, cell_below h c2, cell_below h c3, cell_below h c4, cell_below h c5, cell_below h c6, cell_below h G1, cell_below h l1⟩)
     have hBd := Lib.hid (Below.refl wr.heap.size wr).drew
     have kA := Lib.hid (fun W (h : Below wr.heap.size wr W) => (t1.out W (rdF_below hr0.out (below_then hb hbz h))).mono (fun e W' q => And.intro q.1 (below_then h h.size q.2)))
     have kB := Lib.hid (fun W (h : Below wr.heap.size wr W) => (t2.out W (rdF_below hr0.out (below_then hb hbz h))).mono (fun e W' q => And.intro q.1 (below_then h h.size q.2)))
     (try simp only [] at kA kB)
     clear t1 t2
     cases e1 : (sx.toList == sn.toList) with
     | false =>
      have hf4 : Hid ((((flds.map (·.1)).take k).drop (j + 1)).any sk = DD) := Lib.hid (by rw [← hf3.out, e1]; rfl)
      clear hf3
      go_wp2_with fail
      go_region_held3 (fun w' => w'.cell? ⟨w.heap.size, 0, none⟩ = some (.slice qA pool.length qc) ∧ w'.cell? ⟨w.heap.size, 1, none⟩ = some (.int .i64 fl) ∧ w'.cell? ⟨w.heap.size, 2, none⟩ = some (.int .i64 th) ∧ w'.cell? ⟨w.heap.size, 3, none⟩ = some (.int .i64 su) ∧ w'.cell? ⟨w.heap.size, 4, none⟩ = some (.slice qI ifs.length qd) ∧ w'.cell? ⟨w.heap.size, 5, none⟩ = some (.slice (some ⟨b, o, none⟩) flds.length qe) ∧ w'.cell? ⟨w.heap.size, 6, none⟩ = some (.slice qY mths.length qg) ∧ w'.cell? ⟨b, o + j * 7 + 1, none⟩ = some (.int .i64 ((kx : Int) + 1)) ∧ w'.cell? ⟨w.heap.size + 1, 1, none⟩ = some (.int .i64 ((kn0 : Int) + 1))) (first | exact hmk.out _ hBd.out | exact hmk.out _ (by with_reducible assumption)) (first | (go_at_call 144; (first | with_reducible refine (kA.out _ hBd.out).mono ?_ | with_reducible refine (kB.out _ hBd.out).mono ?_ | with_reducible refine (kA.out _ (by with_reducible assumption)).mono ?_ | with_reducible refine (kB.out _ (by with_reducible assumption)).mono ?_); rintro e wz ⟨rfl, hz⟩))
      all_goals
       go_wp2
       go_roundw
       case rel => exact ⟨j + 1, by go_num, by omega, below_then hb hbz (by with_reducible assumption), Lib.hid (blk_below hK.out (by with_reducible assumption)), Lib.hid (blk_below hL.out (by with_reducible assumption)), hf4⟩
       case measure => simp [RowKit.intOf]; omega
     | true =>
      have hdd : DD = true := by rw [← hf3.out, e1]; rfl
      have hR : R = 15 := by rw [← HD.out, hdd]; rfl
      subst hR
      clear hf3 HD hdd
      go_wp2_with fail
      go_region_held3 (fun w' => w'.cell? ⟨w.heap.size, 0, none⟩ = some (.slice qA pool.length qc) ∧ w'.cell? ⟨w.heap.size, 1, none⟩ = some (.int .i64 fl) ∧ w'.cell? ⟨w.heap.size, 2, none⟩ = some (.int .i64 th) ∧ w'.cell? ⟨w.heap.size, 3, none⟩ = some (.int .i64 su) ∧ w'.cell? ⟨w.heap.size, 4, none⟩ = some (.slice qI ifs.length qd) ∧ w'.cell? ⟨w.heap.size, 5, none⟩ = some (.slice (some ⟨b, o, none⟩) flds.length qe) ∧ w'.cell? ⟨w.heap.size, 6, none⟩ = some (.slice qY mths.length qg) ∧ w'.cell? ⟨b, o + j * 7 + 1, none⟩ = some (.int .i64 ((kx : Int) + 1)) ∧ w'.cell? ⟨w.heap.size + 1, 1, none⟩ = some (.int .i64 ((kn0 : Int) + 1))) (first | exact hmk.out _ hBd.out | exact hmk.out _ (by with_reducible assumption)) (first | (go_at_call 144; (first | with_reducible refine (kA.out _ hBd.out).mono ?_ | with_reducible refine (kB.out _ hBd.out).mono ?_ | with_reducible refine (kA.out _ (by with_reducible assumption)).mono ?_ | with_reducible refine (kB.out _ (by with_reducible assumption)).mono ?_); rintro e wz ⟨rfl, hz⟩))
      all_goals
       go_wp2
       go_ret
       exact ⟨rfl, below_then hb hbz (by with_reducible assumption)⟩
    ·obtain rfl : j = k := by omega
     have hzj : ¬ (j : Int) < (j : Int) := by omega
     have hdd : DD = false := by rw [← hf.out]; exact hDe.out
     have hR : R = 0 := by rw [← HD.out, hdd]; rfl
     subst hR
     clear hf HD hdd
     go_wp2
     go_ret
     exact ⟨rfl, hb⟩
 ·have h3 := hzk
  have HE2 := Lib.hid (show CK = if le = 0 then (if br = true then 0 else 1) else le by rw [HE1.out, if_neg (by simp)])
  clear HE1 h3
  have HE1 := HE2
  clear HE2
  have K0 := hKm
  have L0 := hLm
  have B0 := hBm
  have S0 := hSm
  clear hKm hLm hBm hSm
  go_enter Tryz.func230, Tryz.ntmps230
  go_wp2_with fail
  refine (kn.out _ (rdF_below hr0.out B0)).mono ?_
  rintro e w1 ⟨rfl, hb1⟩
  have K1 := Lib.hid (blk_below K0.out hb1)
  have L1 := Lib.hid (blk_below L0.out hb1)
  have B1 := below_then B0 S0 hb1
  have S1 := B1.size
  clear K0 L0 B0 S0 hb1 kn
  obtain ⟨c0, c1, c2, c3, c4, c5, c6⟩ := flC_box (q := ⟨qA, qc, qI, qd, some ⟨b, o, none⟩, qe, qY, qg⟩) (F := ⟨pool, fl, th, su, ifs, flds, mths⟩) K1.out
  simp only [] at c0 c1 c2 c3 c4 c5 c6
  have l0 := (blk_cell L1.out 0 (.int .i64 1) rfl).1
  have l1 := (blk_cell L1.out 1 (.int .i64 mn) rfl).1
  have l2 := (blk_cell L1.out 2 (.int .i64 md) rfl).1
  have l3 := (blk_cell L1.out 3 (.int .i64 ms) rfl).1
  have l4 := (blk_cell L1.out 4 (.int .i64 ml) rfl).1
  have l5 := (blk_cell L1.out 5 (.string mc) rfl).1
  have l6 := (blk_cell L1.out 6 (.slice mA mh.length mcap) rfl).1
  by_cases hle : le = 0
  rotate_left
  ·have hleb : (le != 0) = true := by simp [hle]
   have hleb2 : (le == 0) = false := by simp [hle]
   have hC : CK = le := by rw [HE1.out, if_neg hle]
   have hR : R = le := by rw [← HR0.out, hC, if_pos (by first | decide | assumption)]
   subst hR
   clear HE1 HR0 hC
   go_wp2
   go_ret
   exact ⟨rfl, B1⟩
  have htt := htg.out hle
  obtain ⟨kn0, hkn0, hne, hnt0⟩ := na.out htt.1
  have HNT := Lib.hid hnt0
  clear hnt0
  clear htt
  subst hne
  subst hle
  have HE2 := Lib.hid HE1.out
  rw [if_pos rfl] at HE2
  clear HE1
  have HE1 := HE2
  clear HE2
  go_wp2_with fail
  refine (kb.out _).mono ?_
  rintro e w2 ⟨rfl, hb2⟩
  have K2 := Lib.hid (blk_below K1.out hb2)
  have L2 := Lib.hid (blk_below L1.out hb2)
  have B2 := below_then B1 S1 hb2
  have S2 := B2.size
  clear K1 L1 B1 S1 hb2 c0 c1 c2 c3 c4 c5 c6 l0 l1 l2 l3 l4 l5 l6 kb
  obtain ⟨c0, c1, c2, c3, c4, c5, c6⟩ := flC_box (q := ⟨qA, qc, qI, qd, some ⟨b, o, none⟩, qe, qY, qg⟩) (F := ⟨pool, fl, th, su, ifs, flds, mths⟩) K2.out
  simp only [] at c0 c1 c2 c3 c4 c5 c6
  have l0 := (blk_cell L2.out 0 (.int .i64 1) rfl).1
  have l1 := (blk_cell L2.out 1 (.int .i64 ((kn0 : Int) + 1)) rfl).1
  have l2 := (blk_cell L2.out 2 (.int .i64 md) rfl).1
  have l3 := (blk_cell L2.out 3 (.int .i64 ms) rfl).1
  have l4 := (blk_cell L2.out 4 (.int .i64 ml) rfl).1
  have l5 := (blk_cell L2.out 5 (.string mc) rfl).1
  have l6 := (blk_cell L2.out 6 (.slice mA mh.length mcap) rfl).1
  cases br with
  | false =>
   have hC : CK = 1 := by exact HE1.out
   have hR : R = 1 := by rw [← HR0.out, hC, if_pos (by first | decide | assumption)]
   subst hR
   clear HE1 HR0 hC
   go_wp2
   go_ret
   exact ⟨rfl, B2⟩
  | true =>
   have hC0 : CK = 0 := HE1.out
   clear c0 c1 c2 c3 c4 c5 c6 l0 l1 l2 l3 l4 l5 l6
   have ktn := Lib.hid (fun W hr => kt.out kn0 hkn0 W hr)
   generalize pool[kn0].text = sn at *
   have HD := Lib.hid (show (if DD = true then (15 : Int) else 0) = R by have h := HR0.out; rw [hC0, if_neg (by simp)] at h; exact h)
   clear HE1 HR0 hC0
   obtain ⟨c0, c1, c2, c3, c4, c5, c6⟩ := flC_box (q := ⟨qA, qc, qI, qd, some ⟨b, o, none⟩, qe, qY, qg⟩) (F := ⟨pool, fl, th, su, ifs, flds, mths⟩) K2.out
   simp only [] at c0 c1 c2 c3 c4 c5 c6
   have l0 := (blk_cell L2.out 0 (.int .i64 1) rfl).1
   have l1 := (blk_cell L2.out 1 (.int .i64 ((kn0 : Int) + 1)) rfl).1
   have l2 := (blk_cell L2.out 2 (.int .i64 md) rfl).1
   have l3 := (blk_cell L2.out 3 (.int .i64 ms) rfl).1
   have l4 := (blk_cell L2.out 4 (.int .i64 ml) rfl).1
   have l5 := (blk_cell L2.out 5 (.string mc) rfl).1
   have l6 := (blk_cell L2.out 6 (.slice mA mh.length mcap) rfl).1
   go_wp2
   go_loopw [8] (fun vk wr => ∃ j : Nat, vk = .int .i64 j ∧ j ≤ k ∧ Below w.heap.size w wr ∧ Hid (wr.heap[w.heap.size]? = some (.cells #[.slice qA pool.length qc, .int .i64 fl, .int .i64 th, .int .i64 su, .slice qI ifs.length qd, .slice (some ⟨b, o, none⟩) flds.length qe, .slice qY mths.length qg] 26 (0, 0))) ∧ Hid (wr.heap[w.heap.size + 1]? = some (.cells #[.int .i64 1, .int .i64 ((kn0 : Int) + 1), .int .i64 md, .int .i64 ms, .int .i64 ml, .string mc, .slice mA mh.length mcap] 131 (0, 0))) ∧ Hid ((((flds.map (·.1)).take k).drop j).any sk = DD)) (fun vk _ => k - (RowKit.intOf vk).toNat)
   case atStart => exact ⟨0, by go_num, Nat.zero_le _, B2, K2, L2, hD0⟩
   case round =>
    clear B2 K2 L2 S2 hD0 c0 c1 c2 c3 c4 c5 c6 l0 l1 l2 l3 l4 l5 l6
    obtain ⟨j, rfl, hjk0, hb, hK, hL, hf⟩ := hrel
    have hbz := hb.size
    have hlb := blk_lt hK.out
    have hlm := blk_lt hL.out
    obtain ⟨c0, c1, c2, c3, c4, c5, c6⟩ := flC_box (q := ⟨qA, qc, qI, qd, some ⟨b, o, none⟩, qe, qY, qg⟩) (F := ⟨pool, fl, th, su, ifs, flds, mths⟩) hK.out
    simp only [] at c0 c1 c2 c3 c4 c5 c6
    have l0 := (blk_cell hL.out 0 (.int .i64 1) rfl).1
    have l1 := (blk_cell hL.out 1 (.int .i64 ((kn0 : Int) + 1)) rfl).1
    have l2 := (blk_cell hL.out 2 (.int .i64 md) rfl).1
    by_cases hlt : j < k
    ·have hlt2 : j < flds.length := by omega
     have hzj : (j : Int) < (k : Int) := by omega
     have hzj2 : (j : Int) < (flds.length : Int) := by omega
     obtain ⟨f0, f1, f2, f3, f4, f5, f6⟩ := hc.out j hlt2
     have G1 := cell_below hb f1
     have G2 := cell_below hb f2
     have hf2 := hf.out
     rw [hD.out j hlt, List.getElem_map, hsk0.out] at hf2
     clear hf f0 f1 f2 f3 f4 f5 f6
     have hxn := hcn.out j hlt
     obtain ⟨kx, hkx, hxe, hxt⟩ := hxn
     rw [hxt, HNT.out] at hf2
     rw [hxe] at G1
     clear hxt hxe
     have t1 := Lib.hid (fun W hr => kt.out kx hkx W hr)
     have t2 := ktn
     generalize pool[kx].text = sx at *
     simp only [← bytes_eqb, Bool.not_true, Bool.not_false, Bool.true_or, Bool.false_or, Bool.and_true] at hf2
     have hf3 := Lib.hid hf2
     clear hf2
     have hmk := Lib.hid (show ∀ w', Below wr.heap.size wr w' → (w'.cell? ⟨w.heap.size, 0, none⟩ = some (.slice qA pool.length qc) ∧ w'.cell? ⟨w.heap.size, 1, none⟩ = some (.int .i64 fl) ∧ w'.cell? ⟨w.heap.size, 2, none⟩ = some (.int .i64 th) ∧ w'.cell? ⟨w.heap.size, 3, none⟩ = some (.int .i64 su) ∧ w'.cell? ⟨w.heap.size, 4, none⟩ = some (.slice qI ifs.length qd) ∧ w'.cell? ⟨w.heap.size, 5, none⟩ = some (.slice (some ⟨b, o, none⟩) flds.length qe) ∧ w'.cell? ⟨w.heap.size, 6, none⟩ = some (.slice qY mths.length qg) ∧ w'.cell? ⟨b, o + j * 7 + 1, none⟩ = some (.int .i64 ((kx : Int) + 1)) ∧ w'.cell? ⟨w.heap.size + 1, 1, none⟩ = some (.int .i64 ((kn0 : Int) + 1))) from fun w' h => ⟨cell_below h c0, cell_below h c1, cell_below h c2, cell_below h c3, cell_below h c4, cell_below h c5, cell_below h c6, cell_below h G1, cell_below h l1⟩)
     have hBd := Lib.hid (Below.refl wr.heap.size wr).drew
     have kA := Lib.hid (fun W (h : Below wr.heap.size wr W) => (t1.out W (rdF_below hr0.out (below_then hb hbz h))).mono (fun e W' q => And.intro q.1 (below_then h h.size q.2)))
     have kB := Lib.hid (fun W (h : Below wr.heap.size wr W) => (t2.out W (rdF_below hr0.out (below_then hb hbz h))).mono (fun e W' q => And.intro q.1 (below_then h h.size q.2)))
     (try simp only [] at kA kB)
     clear t1 t2
     cases e1 : (sx.toList == sn.toList) with
     | false =>
      have hf4 : Hid ((((flds.map (·.1)).take k).drop (j + 1)).any sk = DD) := Lib.hid (by rw [← hf3.out, e1]; rfl)
      clear hf3
      go_wp2_with fail
      go_region_held3 (fun w' => w'.cell? ⟨w.heap.size, 0, none⟩ = some (.slice qA pool.length qc) ∧ w'.cell? ⟨w.heap.size, 1, none⟩ = some (.int .i64 fl) ∧ w'.cell? ⟨w.heap.size, 2, none⟩ = some (.int .i64 th) ∧ w'.cell? ⟨w.heap.size, 3, none⟩ = some (.int .i64 su) ∧ w'.cell? ⟨w.heap.size, 4, none⟩ = some (.slice qI ifs.length qd) ∧ w'.cell? ⟨w.heap.size, 5, none⟩ = some (.slice (some ⟨b, o, none⟩) flds.length qe) ∧ w'.cell? ⟨w.heap.size, 6, none⟩ = some (.slice qY mths.length qg) ∧ w'.cell? ⟨b, o + j * 7 + 1, none⟩ = some (.int .i64 ((kx : Int) + 1)) ∧ w'.cell? ⟨w.heap.size + 1, 1, none⟩ = some (.int .i64 ((kn0 : Int) + 1))) (first | exact hmk.out _ hBd.out | exact hmk.out _ (by with_reducible assumption)) (first | (go_at_call 144; (first | with_reducible refine (kA.out _ hBd.out).mono ?_ | with_reducible refine (kB.out _ hBd.out).mono ?_ | with_reducible refine (kA.out _ (by with_reducible assumption)).mono ?_ | with_reducible refine (kB.out _ (by with_reducible assumption)).mono ?_); rintro e wz ⟨rfl, hz⟩))
      all_goals
       go_wp2
       go_roundw
       case rel => exact ⟨j + 1, by go_num, by omega, below_then hb hbz (by with_reducible assumption), Lib.hid (blk_below hK.out (by with_reducible assumption)), Lib.hid (blk_below hL.out (by with_reducible assumption)), hf4⟩
       case measure => simp [RowKit.intOf]; omega
     | true =>
      have hdd : DD = true := by rw [← hf3.out, e1]; rfl
      have hR : R = 15 := by rw [← HD.out, hdd]; rfl
      subst hR
      clear hf3 HD hdd
      go_wp2_with fail
      go_region_held3 (fun w' => w'.cell? ⟨w.heap.size, 0, none⟩ = some (.slice qA pool.length qc) ∧ w'.cell? ⟨w.heap.size, 1, none⟩ = some (.int .i64 fl) ∧ w'.cell? ⟨w.heap.size, 2, none⟩ = some (.int .i64 th) ∧ w'.cell? ⟨w.heap.size, 3, none⟩ = some (.int .i64 su) ∧ w'.cell? ⟨w.heap.size, 4, none⟩ = some (.slice qI ifs.length qd) ∧ w'.cell? ⟨w.heap.size, 5, none⟩ = some (.slice (some ⟨b, o, none⟩) flds.length qe) ∧ w'.cell? ⟨w.heap.size, 6, none⟩ = some (.slice qY mths.length qg) ∧ w'.cell? ⟨b, o + j * 7 + 1, none⟩ = some (.int .i64 ((kx : Int) + 1)) ∧ w'.cell? ⟨w.heap.size + 1, 1, none⟩ = some (.int .i64 ((kn0 : Int) + 1))) (first | exact hmk.out _ hBd.out | exact hmk.out _ (by with_reducible assumption)) (first | (go_at_call 144; (first | with_reducible refine (kA.out _ hBd.out).mono ?_ | with_reducible refine (kB.out _ hBd.out).mono ?_ | with_reducible refine (kA.out _ (by with_reducible assumption)).mono ?_ | with_reducible refine (kB.out _ (by with_reducible assumption)).mono ?_); rintro e wz ⟨rfl, hz⟩))
      all_goals
       go_wp2
       go_ret
       exact ⟨rfl, below_then hb hbz (by with_reducible assumption)⟩
    ·obtain rfl : j = k := by omega
     have hzj : ¬ (j : Int) < (j : Int) := by omega
     have hdd : DD = false := by rw [← hf.out]; exact hDe.out
     have hR : R = 0 := by rw [← HD.out, hdd]; rfl
     subst hR
     clear hf HD hdd
     go_wp2
     go_ret
     exact ⟨rfl, hb⟩
end Go.Proofs.YtjjlcoimaihdoaaGreatDoor
