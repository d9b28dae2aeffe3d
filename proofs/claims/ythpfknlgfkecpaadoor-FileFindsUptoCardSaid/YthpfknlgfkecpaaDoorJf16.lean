/-
  Texts of the proof, joined: each says at its head what it proves.
-/
import Derived.Test.YthpfknlgfkecpaaDoorJf13
import Derived.Test.YthpfknlgfkecpaaDoorJf14
import Derived.Test.YthpfknlgfkecpaaDoorJf15
import Derived.Test.YthpfknlgfkecpaaDoorJFileNamesx3
import Derived.Test.YthpfknlgfkecpaaDoorJf8
import Derived.Deep.RegionHeld3
import Derived.Deep.RegionWith
section
/-
  Walk of the reference's parts. (Printed by gen_rparts.py.)
-/
set_option linter.unusedVariables false
set_option linter.unusedSimpArgs false
namespace Go.Proofs.YthpfknlgfkecpaaDoor
open Go.RowKit Go.Lib

namespace Sp
/-- The names of the members ahead of a place. -/
def hadL (key : Mb → ByteArray × ByteArray) (l : List Mb) (k : Nat) : List (ByteArray × ByteArray) := ((l.take k).map key).reverse
theorem had_succ (key : Mb → ByteArray × ByteArray) (l : List Mb) (k : Nat) (hk : k < l.length) : hadL key l (k + 1) = key l[k] :: hadL key l k := by
  unfold hadL
  rw [← List.take_append_getElem hk, List.map_append, List.reverse_append]
  rfl
theorem inS_had (p : List Cn) (me : Bool) (l : List Mb) (k : Nat) (m : Mb) : inS (hadL (keyM p me) l k) (keyM p me m) = (l.take k).any (sameK p me m) := by
  unfold inS hadL
  rw [List.any_reverse, List.any_map]
  congr 1
  funext x
  cases me <;> simp [keyM, sameK]
theorem memF_at (p : List Cn) (chk : Mb → Int) (me : Bool) (l : List Mb) (k : Nat) (hk : k < l.length) : memF chk (keyM p me) (hadL (keyM p me) l k) (l.drop k) = if atM p chk me l k l[k] ≠ 0 then atM p chk me l k l[k] else memF chk (keyM p me) (hadL (keyM p me) l (k + 1)) (l.drop (k + 1)) := by
  rw [List.drop_eq_getElem_cons hk, memF, inS_had, had_succ _ _ _ hk]
  unfold atM
  generalize (l.take k).any (sameK p me l[k]) = A
  generalize chk l[k] = C
  generalize memF chk (keyM p me) (keyM p me l[k] :: hadL (keyM p me) l k) (l.drop (k + 1)) = M
  by_cases h : C = 0
  · subst h
    cases A <;> simp
  · simp [h]
theorem atM_chk {p : List Cn} {chk : Mb → Int} {me : Bool} {l : List Mb} {k : Nat} {m : Mb} (h : atM p chk me l k m = 0) : chk m = 0 := by
  unfold atM at h
  by_cases g : chk m = 0
  · exact g
  · rw [if_pos g] at h; exact h
theorem field_named {p : List Cn} {ff : Int} {m : Mb} (h : fieldM p ff m = 0) : taggedS p m.name 1 = true := by
  unfold fieldM at h
  split at h
  · cases h
  · split at h
    · rename_i hl0
      unfold linkS at hl0
      split at hl0
      · cases hl0
      · rename_i q
        simp only [not_or, Bool.not_eq_false] at q
        rw [← cname_tag]
        exact q.1
    · rename_i hl
      exact absurd h hl
theorem take_all {α : Type} {P : α → Prop} {l : List α} {k : Nat} (h : ∀ m ∈ l.take k, P m) (hk : k ≤ l.length) (j : Nat) (hj : j < k) : P (l[j]'(by omega)) := by
  have hl : j < (l.take k).length := by rw [List.length_take]; omega
  have := h _ (List.getElem_mem hl)
  rwa [List.getElem_take] at this
theorem take_more {α : Type} {P : α → Prop} {l : List α} {k : Nat} (h : ∀ m ∈ l.take k, P m) (hk : k < l.length) (hx : P l[k]) : ∀ m ∈ l.take (k + 1), P m := by
  intro m hm
  rw [← List.take_append_getElem hk] at hm
  rcases List.mem_append.1 hm with q | q
  · exact h m q
  · rw [List.mem_singleton.1 q]; exact hx
theorem map_atM (p : List Cn) (chk : Mb → Int) (me : Bool) (l : List Mp) (k : Nat) (hk : k < l.length) : atM p chk me (l.map (·.1)) k ((l.map (·.1))[k]'(by simpa using hk)) = atM p chk me (l.map (·.1)) k l[k].1 := by
  rw [List.getElem_map]
end Sp

set_option maxHeartbeats 16000000 in
set_option maxRecDepth 100000 in
theorem refParts_any (q : Sp.At) (F : FlP) (w : World) (hr : RdF w q F) (hF : FlOk F) :
    Calls Tryd.prog 62 #[.agg (flC q F)] w fun e w' => e = .returned (.int .i64 (Sp.partsS F.fl)) ∧ Below w.heap.size w w' := by
  have HE := Lib.hid (show Sp.partsS F.fl = _ by rw [Sp.partsS, Sp.memS, Sp.memS])
  generalize Sp.partsS F.fl = R at HE ⊢
  unfold FlP.fl at HE
  have HE0 := Lib.hid HE.out
  clear HE
  simp only [List.length_map] at HE0
  have hl := hr.pool.1
  have HP := Lib.hid hr.pool.2
  have hK := Lib.hid (blk_new w (.cells (flC q F) 53))
  have hB := (Below.refl w.heap.size w).alloc (Nat.le_refl _) (.cells (flC q F) 53)
  have KK : ∀ X : Array Value, X = flC q F →
      Hid (∀ c : Sp.Cn, c ∈ F.pool → ∀ W, Below w.heap.size w W → Calls Tryd.prog 98 #[.agg X, .agg #[.int .i64 c.tag, .string c.text, .int .i64 c.n, .int .i64 c.a, .int .i64 c.b, .int .i64 c.c]] W fun e w' => e = .returned (.int .i64 (Sp.constS F.pool c)) ∧ Below W.heap.size W w') ∧
      Hid (∀ W, Below w.heap.size w W → Calls Tryd.prog 99 #[.agg X] W fun e w' => e = .returned (.int .i64 (Sp.headS F.pool F.flags F.this F.super F.ifaces)) ∧ Below W.heap.size W w') ∧
      Hid (∀ (k : Nat) (hk : k < F.fields.length) W, Below w.heap.size w W → (∀ m ∈ F.fields.take k, Sp.fieldM F.pool F.flags m.1 = 0) → Calls Tryd.prog 100 #[.agg X, .int .i64 k] W fun e w' => e = .returned (.int .i64 (Sp.atM F.pool (Sp.fieldM F.pool F.flags) false (F.fields.map (·.1)) k F.fields[k].1)) ∧ Below W.heap.size W w') ∧
      Hid (∀ (k : Nat) (hk : k < F.methods.length) W, Below w.heap.size w W → (∀ m ∈ F.methods.take k, Sp.methodM F.pool F.flags m.1 = 0) → Calls Tryd.prog 101 #[.agg X, .int .i64 k] W fun e w' => e = .returned (.int .i64 (Sp.atM F.pool (Sp.methodM F.pool F.flags) true (F.methods.map (·.1)) k F.methods[k].1)) ∧ Below W.heap.size W w') := by
    rintro X rfl
    refine ⟨Lib.hid (fun c hc W hb => ?_), Lib.hid (fun W hb => ?_), Lib.hid (fun k hk W hb hP => ?_), Lib.hid (fun k hk W hb hP => ?_)⟩
    · exact refConst_any q F c W (rdF_below hr hb) (hF.pool c hc).2.2.1 (hF.pool c hc).2.2.2.1 (hF.pool c hc).2.2.2.2.1 (hF.pool c hc).2.2.2.2.2 hF.texts
    · exact refHead_any q F W (rdF_below hr hb) hF.this hF.super hF.ifaces
    · exact refFieldM_any q F k hk W (rdF_below hr hb) (fun m hm => ⟨(hF.fields m hm).2.1, (hF.fields m hm).2.2⟩) hF.texts (fun j hj => Sp.field_named (Sp.take_all hP (Nat.le_of_lt hk) j hj))
    · exact refMethodM_any q F k hk W (rdF_below hr hb) (fun m hm => ⟨(hF.methods m hm).2.1, (hF.methods m hm).2.2.1, fun h hh => ((hF.methods m hm).2.2.2.2.2.2 h hh).2.2.2, (hF.methods m hm).2.2.2.2.2.1⟩) hF.texts (fun j hj => by
        have := Sp.method_named (Sp.take_all hP (Nat.le_of_lt hk) j hj)
        rw [Sp.cname_tag, Sp.cname_tag] at this
        exact this)
  clear hr hF
  obtain ⟨pool, fl, th, su, ifs, flds, mths⟩ := F
  obtain ⟨qA, qc, qI, qd, qX, qe, qY, qg⟩ := q
  have hfl : flC ⟨qA, qc, qI, qd, qX, qe, qY, qg⟩ ⟨pool, fl, th, su, ifs, flds, mths⟩ = #[.slice qA pool.length qc, .int .i64 fl, .int .i64 th, .int .i64 su, .slice qI ifs.length qd, .slice qX flds.length qe, .slice qY mths.length qg] := rfl
  obtain ⟨kc, kh, kf, km⟩ := KK #[.slice qA pool.length qc, .int .i64 fl, .int .i64 th, .int .i64 su, .slice qI ifs.length qd, .slice qX flds.length qe, .slice qY mths.length qg] rfl
  clear KK
  simp only [] at kc kh kf km HE0 hl HP
  rw [hfl] at hK hB ⊢
  clear hfl
  by_cases h2000 : 2000 < pool.length
  · have hR : R = 3 := by rw [HE0.out, if_pos h2000]
    have hzz : decide ((2000 : Int) < (pool.length : Int)) = true := decide_eq_true (by omega)
    subst hR
    clear HE0 kc kh kf km HP
    go_enter Tryd.func62, Tryd.ntmps62
    go_wp2
    go_ret
    exact ⟨rfl, hB⟩
  have hzz : decide ((2000 : Int) < (pool.length : Int)) = false := decide_eq_false (by omega)
  have HE1 := HE0.out
  rw [if_neg h2000] at HE1
  have hp0 : Sp.poolF pool (pool.drop 0) = Sp.poolF pool pool := rfl
  generalize Sp.poolF pool pool = P0 at HE1 hp0
  have HE2 := Lib.hid HE1
  have HP0 := Lib.hid hp0
  clear HE0 HE1 hp0 h2000
  have hf0 : Sp.memF (Sp.fieldM pool fl) (Sp.keyM pool false) (Sp.hadL (Sp.keyM pool false) (flds.map (·.1)) 0) ((flds.map (·.1)).drop 0) = Sp.memF (Sp.fieldM pool fl) (Sp.keyM pool false) [] (flds.map (·.1)) := rfl
  have hm0 : Sp.memF (Sp.methodM pool fl) (Sp.keyM pool true) (Sp.hadL (Sp.keyM pool true) (mths.map (·.1)) 0) ((mths.map (·.1)).drop 0) = Sp.memF (Sp.methodM pool fl) (Sp.keyM pool true) [] (mths.map (·.1)) := rfl
  generalize Sp.memF (Sp.fieldM pool fl) (Sp.keyM pool false) [] (flds.map (·.1)) = F0 at *
  generalize Sp.memF (Sp.methodM pool fl) (Sp.keyM pool true) [] (mths.map (·.1)) = M0 at *
  generalize Sp.headS pool fl th su ifs = hd at *
  have HF0 := Lib.hid hf0
  have HM0 := Lib.hid hm0
  clear hf0 hm0
  have B0 := Lib.hid hB
  have K0 := hK
  clear hB hK
  go_enter Tryd.func62, Tryd.ntmps62
  go_wp2
  go_loopw [3] (fun vk wr => ∃ (k : Nat), vk = .int .i64 k ∧ k ≤ pool.length ∧ Hid (Below w.heap.size w wr) ∧ Hid (wr.heap[w.heap.size]? = some (.cells #[.slice qA pool.length qc, .int .i64 fl, .int .i64 th, .int .i64 su, .slice qI ifs.length qd, .slice qX flds.length qe, .slice qY mths.length qg] 53 (0, 0))) ∧ Hid (Sp.poolF pool (pool.drop k) = P0)) (fun vk _ => pool.length - (RowKit.intOf vk).toNat)
  case atStart => exact ⟨0, by go_num, Nat.zero_le _, B0, K0, HP0⟩
  case round =>
    clear B0 K0 HP0
    obtain ⟨k, rfl, hk, HB, hK, hf⟩ := hrel
    have hb := HB.out
    have hbz := hb.size
    have hlb := blk_lt hK.out
    obtain ⟨c0, c1, c2, c3, c4, c5, c6⟩ := flC_box (q := ⟨qA, qc, qI, qd, qX, qe, qY, qg⟩) (F := ⟨pool, fl, th, su, ifs, flds, mths⟩) hK.out
    simp only [] at c0 c1 c2 c3 c4 c5 c6
    by_cases hlt : k < pool.length
    · obtain ⟨b, o, rfl, hrg⟩ := HP.out (by omega)
      obtain ⟨d0, d1, d2, d3, d4, d5⟩ := cn_cells hrg hlt
      have D0 := cell_below hb d0
      have D1 := cell_below hb d1
      have D2 := cell_below hb d2
      have D3 := cell_below hb d3
      have D4 := cell_below hb d4
      have D5 := cell_below hb d5
      have hzk : (k : Int) < (pool.length : Int) := by omega
      have kc1 := kc.out _ (List.getElem_mem hlt)
      have hf1 := hf.out
      rw [List.drop_eq_getElem_cons hlt, Sp.poolF] at hf1
      clear hf hrg d0 d1 d2 d3 d4 d5
      generalize pool[k] = cq at *
      obtain ⟨ct, cs, cn, ca, cb, cc⟩ := cq
      simp only [] at D0 D1 D2 D3 D4 D5 kc1
      generalize Sp.constS pool ⟨ct, cs, cn, ca, cb, cc⟩ = cv at *
      have hf2 := Lib.hid hf1
      have kc2 := Lib.hid kc1
      clear hf1 kc1
      have hmk := Lib.hid (show ∀ w', Below wr.heap.size wr w' → (w'.cell? ⟨w.heap.size, 0, none⟩ = some (.slice (some ⟨b, o, none⟩) pool.length qc) ∧ w'.cell? ⟨w.heap.size, 1, none⟩ = some (.int .i64 fl) ∧ w'.cell? ⟨w.heap.size, 2, none⟩ = some (.int .i64 th) ∧ w'.cell? ⟨w.heap.size, 3, none⟩ = some (.int .i64 su) ∧ w'.cell? ⟨w.heap.size, 4, none⟩ = some (.slice qI ifs.length qd) ∧ w'.cell? ⟨w.heap.size, 5, none⟩ = some (.slice qX flds.length qe) ∧ w'.cell? ⟨w.heap.size, 6, none⟩ = some (.slice qY mths.length qg) ∧ w'.cell? ⟨b, o + k * 6, none⟩ = some (.int .i64 ct) ∧ w'.cell? ⟨b, o + k * 6 + 1, none⟩ = some (.string cs) ∧ w'.cell? ⟨b, o + k * 6 + 2, none⟩ = some (.int .i64 cn) ∧ w'.cell? ⟨b, o + k * 6 + 3, none⟩ = some (.int .i64 ca) ∧ w'.cell? ⟨b, o + k * 6 + 4, none⟩ = some (.int .i64 cb) ∧ w'.cell? ⟨b, o + k * 6 + 5, none⟩ = some (.int .i64 cc)) from fun w' h => ⟨cell_below h c0, cell_below h c1, cell_below h c2, cell_below h c3, cell_below h c4, cell_below h c5, cell_below h c6, cell_below h D0, cell_below h D1, cell_below h D2, cell_below h D3, cell_below h D4, cell_below h D5⟩)
      have hBd := Lib.hid (Below.refl wr.heap.size wr).drew
      have kD := Lib.hid (fun W (h : Below wr.heap.size wr W) => (kc2.out W (below_then hb hbz h)).mono (fun e W' q => And.intro q.1 (below_then h h.size q.2)))
      go_wp2_with fail
      go_region_held3 (fun w' => w'.cell? ⟨w.heap.size, 0, none⟩ = some (.slice (some ⟨b, o, none⟩) pool.length qc) ∧ w'.cell? ⟨w.heap.size, 1, none⟩ = some (.int .i64 fl) ∧ w'.cell? ⟨w.heap.size, 2, none⟩ = some (.int .i64 th) ∧ w'.cell? ⟨w.heap.size, 3, none⟩ = some (.int .i64 su) ∧ w'.cell? ⟨w.heap.size, 4, none⟩ = some (.slice qI ifs.length qd) ∧ w'.cell? ⟨w.heap.size, 5, none⟩ = some (.slice qX flds.length qe) ∧ w'.cell? ⟨w.heap.size, 6, none⟩ = some (.slice qY mths.length qg) ∧ w'.cell? ⟨b, o + k * 6, none⟩ = some (.int .i64 ct) ∧ w'.cell? ⟨b, o + k * 6 + 1, none⟩ = some (.string cs) ∧ w'.cell? ⟨b, o + k * 6 + 2, none⟩ = some (.int .i64 cn) ∧ w'.cell? ⟨b, o + k * 6 + 3, none⟩ = some (.int .i64 ca) ∧ w'.cell? ⟨b, o + k * 6 + 4, none⟩ = some (.int .i64 cb) ∧ w'.cell? ⟨b, o + k * 6 + 5, none⟩ = some (.int .i64 cc)) (first | exact hmk.out _ hBd.out | exact hmk.out _ (by with_reducible assumption)) (first | (go_at_call 98; with_reducible refine (kD.out _ hBd.out).mono ?_; rintro e w2 ⟨rfl, hb2⟩))
      clear hmk hBd kD
      have K2 := Lib.hid (blk_below hK.out hb2)
      have B2 := Lib.hid (below_then hb hbz hb2)
      clear hb HB hK hlb hbz c0 c1 c2 c3 c4 c5 c6 D0 D1 D2 D3 D4 D5 kc2 hb2
      by_cases hcz : cv = 0
      · subst hcz
        have hf4 := Lib.hid (show Sp.poolF pool (pool.drop (k + 1)) = P0 by have := hf2.out; rwa [if_neg (by simp)] at this)
        clear hf2
        go_wp2
        go_roundw
        case rel => exact ⟨k + 1, by go_num, by omega, B2, K2, hf4⟩
        case measure => simp [RowKit.intOf]; omega
      · have hcb : (cv != 0) = true := by simp [hcz]
        have hR : R = cv := by
          have := hf2.out
          rw [if_pos hcz] at this
          rw [HE2.out, ← this, if_pos hcz]
        subst hR
        clear hf2 hcz HE2
        go_wp2
        go_ret
        exact ⟨rfl, B2.out⟩
    · obtain rfl : k = pool.length := by omega
      have hzk : ¬ (pool.length : Int) < (pool.length : Int) := by omega
      have hP0 : P0 = 0 := by have := hf.out; rw [List.drop_length] at this; exact this.symm
      subst hP0
      have HE3' := HE2.out
      rw [if_neg (by simp)] at HE3'
      have HE3 := Lib.hid HE3'
      clear HE3' HE2 hf kc
      go_wp2_with fail
      refine (kh.out _ hb).mono ?_
      rintro e w2 ⟨rfl, hb2⟩
      have K2 := Lib.hid (blk_below hK.out hb2)
      have B2 := below_then hb hbz hb2
      have z2 := B2.size
      clear hb HB hK hlb hbz c0 c1 c2 c3 c4 c5 c6 hb2 kh
      by_cases hz1 : hd = 0
      rotate_left
      · have hcb : (hd != 0) = true := by simp [hz1]
        have hR : R = hd := by rw [HE3.out, if_pos hz1]
        subst hR
        clear HE3 hz1
        go_wp2
        go_ret
        exact ⟨rfl, B2⟩
      subst hz1
      have HE4' := HE3.out
      rw [if_neg (by simp)] at HE4'
      have HE4 := Lib.hid HE4'
      clear HE4' HE3
      have BB2 := Lib.hid B2
      clear B2 z2 hzk
      obtain ⟨c0, c1, c2, c3, c4, c5, c6⟩ := flC_box (q := ⟨qA, qc, qI, qd, qX, qe, qY, qg⟩) (F := ⟨pool, fl, th, su, ifs, flds, mths⟩) K2.out
      simp only [] at c0 c1 c2 c3 c4 c5 c6
      by_cases h200 : 200 < flds.length
      · have hzz : decide ((200 : Int) < (flds.length : Int)) = true := decide_eq_true (by omega)
        have hR : R = 3 := by rw [HE4.out, if_pos (by rw [if_pos h200]; decide), if_pos h200]
        subst hR
        have B2 := BB2.out
        clear HE4
        go_wp2
        go_ret
        exact ⟨rfl, B2⟩
      have hzz2 : decide ((200 : Int) < (flds.length : Int)) = false := decide_eq_false (by omega)
      have hlmX : flds.length ≤ 9223372036854775807 := by omega
      have HM1 := HE4.out
      rw [if_neg h200] at HM1
      have HE5 := Lib.hid HM1
      clear HM1 HE4 h200
      go_wp2
      go_loopw [5, 6] (fun ve vk wr => ∃ (k : Nat), vk = .int .i64 k ∧ ve = .int .i64 0 ∧ k ≤ flds.length ∧ Hid (Below w.heap.size w wr) ∧ Hid (wr.heap[w.heap.size]? = some (.cells #[.slice qA pool.length qc, .int .i64 fl, .int .i64 th, .int .i64 su, .slice qI ifs.length qd, .slice qX flds.length qe, .slice qY mths.length qg] 53 (0, 0))) ∧ Hid (∀ m ∈ flds.take k, Sp.fieldM pool fl m.1 = 0) ∧ Hid (Sp.memF (Sp.fieldM pool fl) (Sp.keyM pool false) (Sp.hadL (Sp.keyM pool false) (flds.map (·.1)) k) ((flds.map (·.1)).drop k) = F0)) (fun ve vk _ => flds.length - (RowKit.intOf vk).toNat)
      case atStart => exact ⟨0, by go_num, rfl, Nat.zero_le _, BB2, K2, Lib.hid (by simp), HF0⟩
      case round =>
        clear BB2 K2 HF0 c0 c1 c2 c3 c4 c5 c6
        obtain ⟨k, rfl, rfl, hk, HB, hK, hA, hf⟩ := hrel
        have hb := HB.out
        have hbz := hb.size
        have hlb := blk_lt hK.out
        obtain ⟨c0, c1, c2, c3, c4, c5, c6⟩ := flC_box (q := ⟨qA, qc, qI, qd, qX, qe, qY, qg⟩) (F := ⟨pool, fl, th, su, ifs, flds, mths⟩) hK.out
        simp only [] at c0 c1 c2 c3 c4 c5 c6
        by_cases hlt : k < flds.length
        · have hzk : (k : Int) < (flds.length : Int) := by omega
          have kc1 := kf.out k hlt _ hb hA.out
          have hf1 := hf.out
          rw [Sp.memF_at _ _ _ _ _ (by simpa using hlt), Sp.map_atM _ _ _ _ _ hlt] at hf1
          have hA2 := Lib.hid (fun h => Sp.take_more hA.out hlt (Sp.atM_chk (p := pool) (chk := Sp.fieldM pool fl) (me := false) (l := flds.map (·.1)) (k := k) h))
          generalize Sp.atM pool (Sp.fieldM pool fl) false (flds.map (·.1)) k flds[k].1 = cv at *
          have hf2 := Lib.hid hf1
          clear hf hf1 hA
          have kc2 := Lib.hid kc1
          clear kc1
          go_wp2_with fail
          refine kc2.out.mono ?_
          rintro e w2 ⟨rfl, hb2⟩
          have K2 := Lib.hid (blk_below hK.out hb2)
          have B2 := Lib.hid (below_then hb hbz hb2)
          clear hb HB hK hlb hbz c0 c1 c2 c3 c4 c5 c6 kc2 hb2
          by_cases hcz : cv = 0
          · subst hcz
            have hf4 := Lib.hid (show Sp.memF (Sp.fieldM pool fl) (Sp.keyM pool false) (Sp.hadL (Sp.keyM pool false) (flds.map (·.1)) (k + 1)) ((flds.map (·.1)).drop (k + 1)) = F0 by have := hf2.out; rwa [if_neg (by simp)] at this)
            have hA3 := Lib.hid (hA2.out rfl)
            clear hf2 hA2
            go_wp2
            go_roundw
            case rel => exact ⟨k + 1, by go_num, rfl, by omega, B2, K2, hA3, hf4⟩
            case measure => simp [RowKit.intOf]; omega
          · have hcb : (cv != 0) = true := by simp [hcz]
            have hX : F0 = cv := by
              have := hf2.out
              rw [if_pos hcz] at this
              exact this.symm
            have hR : R = cv := by rw [HE5.out, hX, if_pos hcz]
            subst hR
            clear hf2 hcz HE5
            go_wp2
            go_ret
            exact ⟨rfl, B2.out⟩
        · obtain rfl : k = flds.length := by omega
          have hzk : ¬ (flds.length : Int) < (flds.length : Int) := by omega
          have hX : F0 = 0 := by rw [← hf.out, List.drop_eq_nil_of_le (by simp)]; rfl
          subst hX
          have HN := HE5.out
          rw [if_neg (by simp)] at HN
          have HE6 := Lib.hid HN
          have BB3 := HB
          have K3 := hK
          clear HN HE5 hf hA hb HB hK hlb hbz c0 c1 c2 c3 c4 c5 c6 hzk hk hzz2
          obtain ⟨c0, c1, c2, c3, c4, c5, c6⟩ := flC_box (q := ⟨qA, qc, qI, qd, qX, qe, qY, qg⟩) (F := ⟨pool, fl, th, su, ifs, flds, mths⟩) K3.out
          simp only [] at c0 c1 c2 c3 c4 c5 c6
          by_cases h200 : 200 < mths.length
          · have hzz : decide ((200 : Int) < (mths.length : Int)) = true := decide_eq_true (by omega)
            have hR : R = 3 := by rw [HE6.out, if_pos h200]
            subst hR
            have B2 := BB3.out
            clear HE6
            go_wp2
            go_ret
            exact ⟨rfl, B2⟩
          have hzz2 : decide ((200 : Int) < (mths.length : Int)) = false := decide_eq_false (by omega)
          have hlmX : mths.length ≤ 9223372036854775807 := by omega
          have HM1 := HE6.out
          rw [if_neg h200] at HM1
          have HE7 := Lib.hid HM1
          clear HM1 HE6 h200
          go_wp2
          go_loopw [5, 7] (fun ve vk wr => ∃ (k : Nat), vk = .int .i64 k ∧ ve = .int .i64 0 ∧ k ≤ mths.length ∧ Hid (Below w.heap.size w wr) ∧ Hid (wr.heap[w.heap.size]? = some (.cells #[.slice qA pool.length qc, .int .i64 fl, .int .i64 th, .int .i64 su, .slice qI ifs.length qd, .slice qX flds.length qe, .slice qY mths.length qg] 53 (0, 0))) ∧ Hid (∀ m ∈ mths.take k, Sp.methodM pool fl m.1 = 0) ∧ Hid (Sp.memF (Sp.methodM pool fl) (Sp.keyM pool true) (Sp.hadL (Sp.keyM pool true) (mths.map (·.1)) k) ((mths.map (·.1)).drop k) = M0)) (fun ve vk _ => mths.length - (RowKit.intOf vk).toNat)
          case atStart => exact ⟨0, by go_num, rfl, Nat.zero_le _, BB3, K3, Lib.hid (by simp), HM0⟩
          case round =>
            clear BB3 K3 HM0 c0 c1 c2 c3 c4 c5 c6
            obtain ⟨k, rfl, rfl, hk, HB, hK, hA, hf⟩ := hrel
            have hb := HB.out
            have hbz := hb.size
            have hlb := blk_lt hK.out
            obtain ⟨c0, c1, c2, c3, c4, c5, c6⟩ := flC_box (q := ⟨qA, qc, qI, qd, qX, qe, qY, qg⟩) (F := ⟨pool, fl, th, su, ifs, flds, mths⟩) hK.out
            simp only [] at c0 c1 c2 c3 c4 c5 c6
            by_cases hlt : k < mths.length
            · have hzk : (k : Int) < (mths.length : Int) := by omega
              have kc1 := km.out k hlt _ hb hA.out
              have hf1 := hf.out
              rw [Sp.memF_at _ _ _ _ _ (by simpa using hlt), Sp.map_atM _ _ _ _ _ hlt] at hf1
              have hA2 := Lib.hid (fun h => Sp.take_more hA.out hlt (Sp.atM_chk (p := pool) (chk := Sp.methodM pool fl) (me := true) (l := mths.map (·.1)) (k := k) h))
              generalize Sp.atM pool (Sp.methodM pool fl) true (mths.map (·.1)) k mths[k].1 = cv at *
              have hf2 := Lib.hid hf1
              clear hf hf1 hA
              have kc2 := Lib.hid kc1
              clear kc1
              go_wp2_with fail
              refine kc2.out.mono ?_
              rintro e w2 ⟨rfl, hb2⟩
              have K2 := Lib.hid (blk_below hK.out hb2)
              have B2 := Lib.hid (below_then hb hbz hb2)
              clear hb HB hK hlb hbz c0 c1 c2 c3 c4 c5 c6 kc2 hb2
              by_cases hcz : cv = 0
              · subst hcz
                have hf4 := Lib.hid (show Sp.memF (Sp.methodM pool fl) (Sp.keyM pool true) (Sp.hadL (Sp.keyM pool true) (mths.map (·.1)) (k + 1)) ((mths.map (·.1)).drop (k + 1)) = M0 by have := hf2.out; rwa [if_neg (by simp)] at this)
                have hA3 := Lib.hid (hA2.out rfl)
                clear hf2 hA2
                go_wp2
                go_roundw
                case rel => exact ⟨k + 1, by go_num, rfl, by omega, B2, K2, hA3, hf4⟩
                case measure => simp [RowKit.intOf]; omega
              · have hcb : (cv != 0) = true := by simp [hcz]
                have hX : M0 = cv := by
                  have := hf2.out
                  rw [if_pos hcz] at this
                  exact this.symm
                have hR : R = cv := by rw [HE7.out, hX]
                subst hR
                clear hf2 hcz HE7
                go_wp2
                go_ret
                exact ⟨rfl, B2.out⟩
            · obtain rfl : k = mths.length := by omega
              have hzk : ¬ (mths.length : Int) < (mths.length : Int) := by omega
              have hX : M0 = 0 := by rw [← hf.out, List.drop_eq_nil_of_le (by simp)]; rfl
              subst hX
              have hR : R = 0 := HE7.out
              subst hR
              clear HE7 hf hA
              go_wp2
              go_ret
              exact ⟨rfl, hb⟩
end Go.Proofs.YthpfknlgfkecpaaDoor
end
