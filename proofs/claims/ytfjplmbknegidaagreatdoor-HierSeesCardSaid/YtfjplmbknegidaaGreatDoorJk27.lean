/-
  Texts of the proof, joined: each says at its head what it proves.
-/
import Derived.Test.YtfjplmbknegidaaGreatDoorJk26
import Derived.Test.YtfjplmbknegidaaGreatDoorJk13
import Derived.IntWalk
import Derived.Orders
import Derived.Below
import Derived.Tactics
import Derived.KernelRfl
section
/-
  Walk of chapter 6's laws' file: a class of a name, one above it, interfaces.
-/
set_option linter.unusedVariables false
set_option linter.unusedSimpArgs false
namespace Go.Proofs.YtfjplmbknegidaaGreatDoor
open Go.RowKit Go.Lib Go.Maps

namespace Sp
def fixP (nm su : ByteArray) : List Cn := [⟨1, nm, 0, 0, 0, 0⟩, ⟨4, nilB, 0, 1, 0, 0⟩, ⟨1, su, 0, 0, 0, 0⟩, ⟨4, nilB, 0, 3, 0, 0⟩]
def filP (nm su : ByteArray) (ifs : List ByteArray) (j : Nat) : List Cn := fixP nm su ++ (List.range j).flatMap (ifP ifs)
def filI (j : Nat) : List Int := (List.range j).map (fun i : Nat => 6 + 2 * (i : Int))
theorem filP_succ (nm su : ByteArray) (ifs : List ByteArray) (j : Nat) : filP nm su ifs (j + 1) = filP nm su ifs j ++ ifP ifs j := by
  simp [filP, List.range_succ]
theorem filP_len (nm su : ByteArray) (ifs : List ByteArray) : ∀ j, (filP nm su ifs j).length = 4 + 2 * j
  | 0 => rfl
  | j + 1 => by rw [filP_succ, List.length_append, filP_len nm su ifs j]; rfl
theorem filI_succ (j : Nat) : filI (j + 1) = filI j ++ [6 + 2 * (j : Int)] := by simp [filI, List.range_succ]
theorem filI_len (j : Nat) : (filI j).length = j := by simp [filI]
theorem fileF_eq (fl : Int) (nm su : ByteArray) (ifs : List ByteArray) : fileF fl nm su ifs = ⟨filP nm su ifs ifs.length, fl, 2, 4, filI ifs.length, [], []⟩ := rfl
theorem cnC_one (x : Cn) : ∀ u ∈ cnC x, u.oneCell' = true := by
  intro u hu
  simp [cnC] at hu
  rcases hu with rfl | rfl | rfl | rfl | rfl | rfl <;> rfl
theorem intC_one (x : Int) : ∀ u ∈ intC x, u.oneCell' = true := by
  intro u hu
  simp [intC] at hu
  subst hu
  rfl
end Sp
theorem infoCn6 : (Tryz.prog.info? 93).map (fun i => (i.zero, i.size, i.bytes)) = some (some (.agg #[.int .i64 0, .string ⟨#[]⟩, .int .i64 0, .int .i64 0, .int .i64 0, .int .i64 0]), 6, 56) := by kernel_rfl
theorem infoInt6 : (Tryz.prog.info? 3).map (fun i => (i.zero, i.size, i.bytes)) = some (some (.int .i64 0), 1, 8) := by kernel_rfl
theorem fl_load6 {w : World} {b : Nat} {c0 c1 c2 c3 c4 c5 c6 : Value} {T : TypeId} (h : w.heap[b]? = some (.cells #[c0, c1, c2, c3, c4, c5, c6] T (0, 0))) : (loadVar 63 ⟨b, 0, none⟩).run Tryz.prog w = .ok (.agg #[c0, c1, c2, c3, c4, c5, c6]) w :=
  run_loadVar_mid w b 0 63 [c0, c1, c2, c3, c4, c5, c6] _ (fun j v hj => by rw [Nat.zero_add]; exact (blk_cell h j v (by rw [← Array.getElem?_toList]; exact hj)).1) Tryz.underlying63 rfl (by kernel_rfl)
/-- A row of another type's block. -/
theorem own_ne {w : World} {base : Nat} {e : TypeId} {size n : Nat} {v : Value} {xs : List Value} {k : Nat} {C : Array Value} {T : TypeId} (h : w.ownsRow base e size v n xs) (hk : w.heap[k]? = some (.cells C T (0, 0))) (hT : T ≠ e) : v.ownBlock ≠ some k := by
  intro q
  obtain ⟨C', hC'⟩ := own_blkC h q
  rw [hk] at hC'
  injection hC' with hC'
  injection hC' with _ ht
  exact hT ht
theorem own_apart {w : World} {b1 b2 : Nat} {e1 e2 : TypeId} {s1 s2 n1 n2 : Nat} {v1 v2 : Value} {xs1 xs2 : List Value} (h1 : w.ownsRow b1 e1 s1 v1 n1 xs1) (h2 : w.ownsRow b2 e2 s2 v2 n2 xs2) (hT : e1 ≠ e2) (k : Nat) (hk : v1.ownBlock = some k) : v2.ownBlock ≠ some k := by
  obtain ⟨C, hC⟩ := own_blkC h1 hk
  exact own_ne h2 hC hT
/-- Some things more behind a row of one's own: a literal, laid just ahead, is appended. -/
theorem app_l {α : Type} {enc : α → List Value} {size bytes : Nat} {t e ty : TypeId} {i : TypeInfo} {z : Value} (ht : Tryz.prog.underlying t = some (.slice e)) (hi : Tryz.prog.info? e = some i) (hz : i.zero = some z) (hsz : i.size = size) (hby : i.bytes = bytes) (hzs : z.cells.size = size) (h0 : 0 < size)
    (henc : ∀ x, (enc x).length = size) (h1 : ∀ x, ∀ u ∈ enc x, u.oneCell' = true) (hb : bytes ≤ 1000) (W : World) (B : Nat) (A : Option Addr) (c : Nat) (acc : List α) (l : List α)
    (h : W.ownsRow B e size (.slice A acc.length c) acc.length (acc.flatMap enc)) (hl : acc.length ≤ 1000000) (hll : l.length ≤ 1000) (hB : B ≤ W.heap.size) :
    ∃ A' c' w5, (Builtin.append_ #[t, t] ty #[.slice A acc.length c, .slice (some ⟨W.heap.size, 0, none⟩) l.length l.length]).run Tryz.prog (W.alloc (.cells (l.flatMap enc).toArray e)) = .ok (.slice A' (acc ++ l).length c') w5 ∧ w5.ownsRow B e size (.slice A' (acc ++ l).length c') (acc ++ l).length ((acc ++ l).flatMap enc) ∧ Keeps (fun i => (Value.slice A acc.length c).ownBlock = some i) W w5 := by
  have hO := own_lit (l := l) henc (C := (l.flatMap enc).toArray) (by simp) (blk_new W (.cells (l.flatMap enc).toArray e)) (Nat.le_refl _) (by omega)
  obtain ⟨_, hrd, _⟩ := own_rdL henc h0 hO
  obtain ⟨A', c', w5, r1, r2, r3⟩ := app_rdL (ty := ty) ht hi hz hsz hby hzs h0 henc h1 hb (W.alloc (.cells (l.flatMap enc).toArray e)) B A c acc (some ⟨W.heap.size, 0, none⟩) l.length l (h.alloc _) hrd (by omega) (by simp; omega)
  exact ⟨A', c', w5, r1, r2, ((Keeps.refl _ W).alloc _).trans r3⟩

set_option maxHeartbeats 8000000 in
set_option maxRecDepth 100000 in
theorem file6_any (fl : Int) (nm su : ByteArray) (A : Option Addr) (c : Nat) (ifs : List ByteArray) (w : World) (h : RdL Sp.strC w A ifs) (hn : ifs.length ≤ 16) :
    Calls Tryz.prog 28 #[.int .i64 fl, .string nm, .string su, .slice A ifs.length c] w fun e w' => ∃ q, e = .returned (.agg (flC q (Sp.fileF fl nm su ifs))) ∧ RdF w' q (Sp.fileF fl nm su ifs) ∧ Below w.heap.size w w' ∧ w'.ownsRow w.heap.size 93 6 (.slice q.A (Sp.fileF fl nm su ifs).pool.length q.c) (Sp.fileF fl nm su ifs).pool.length ((Sp.fileF fl nm su ifs).pool.flatMap Sp.cnC) ∧ w'.ownsRow w.heap.size 3 1 (.slice q.I (Sp.fileF fl nm su ifs).ifaces.length q.d) (Sp.fileF fl nm su ifs).ifaces.length ((Sp.fileF fl nm su ifs).ifaces.flatMap intC) := by
  have H1 := Lib.hid h
  clear h
  obtain ⟨iC, hiC, hzC, hzC1, hzC2⟩ := info_parts infoCn6
  obtain ⟨iI, hiI, hzI, hzI1, hzI2⟩ := info_parts infoInt6
  have kC := Lib.hid (fun W A c acc l => app_l (ty := 60) Tryz.underlying60 hiC hzC hzC1 hzC2 rfl (by decide) Sp.cnC_len Sp.cnC_one (by decide) W w.heap.size A c acc l)
  have kI := Lib.hid (fun W A c acc l => app_l (ty := 23) Tryz.underlying23 hiI hzI hzI1 hzI2 rfl (by decide) (fun _ => rfl) Sp.intC_one (by decide) W w.heap.size A c acc l)
  clear hzC hzC1 hzC2 hzI hzI1 hzI2 hiC hiI
  have hs1 : (w.alloc (.cells #[.slice none 0 0, .int .i64 0, .int .i64 0, .int .i64 0, .slice none 0 0, .slice none 0 0, .slice none 0 0] 63)).heap.size = w.heap.size + 1 := by simp
  have hs2 : ((w.alloc (.cells #[.slice none 0 0, .int .i64 0, .int .i64 0, .int .i64 0, .slice none 0 0, .slice none 0 0, .slice none 0 0] 63)).alloc (.cells #[.int .i64 1, .string nm, .int .i64 0, .int .i64 0, .int .i64 0, .int .i64 0, .int .i64 4, .string ⟨#[]⟩, .int .i64 0, .int .i64 1, .int .i64 0, .int .i64 0, .int .i64 1, .string su, .int .i64 0, .int .i64 0, .int .i64 0, .int .i64 0, .int .i64 4, .string ⟨#[]⟩, .int .i64 0, .int .i64 3, .int .i64 0, .int .i64 0] 93)).heap.size = w.heap.size + 1 + 1 := by simp
  have hZ3 := Lib.hid (blk_old (o := .cells #[.slice (some ⟨w.heap.size + 1, 0, none⟩) 4 4, .int .i64 fl, .int .i64 2, .int .i64 4, .slice none 0 0, .slice none 0 0, .slice none 0 0] 63) (blk_old (o := .cells #[.int .i64 1, .string nm, .int .i64 0, .int .i64 0, .int .i64 0, .int .i64 0, .int .i64 4, .string ⟨#[]⟩, .int .i64 0, .int .i64 1, .int .i64 0, .int .i64 0, .int .i64 1, .string su, .int .i64 0, .int .i64 0, .int .i64 0, .int .i64 0, .int .i64 4, .string ⟨#[]⟩, .int .i64 0, .int .i64 3, .int .i64 0, .int .i64 0] 93) (blk_new w (.cells #[.slice none 0 0, .int .i64 0, .int .i64 0, .int .i64 0, .slice none 0 0, .slice none 0 0, .slice none 0 0] 63))))
  have hP1 := blk_new (w.alloc (.cells #[.slice none 0 0, .int .i64 0, .int .i64 0, .int .i64 0, .slice none 0 0, .slice none 0 0, .slice none 0 0] 63)) (.cells #[.int .i64 1, .string nm, .int .i64 0, .int .i64 0, .int .i64 0, .int .i64 0, .int .i64 4, .string ⟨#[]⟩, .int .i64 0, .int .i64 1, .int .i64 0, .int .i64 0, .int .i64 1, .string su, .int .i64 0, .int .i64 0, .int .i64 0, .int .i64 0, .int .i64 4, .string ⟨#[]⟩, .int .i64 0, .int .i64 3, .int .i64 0, .int .i64 0] 93)
  rw [hs1] at hP1
  have hP3 := blk_old (o := .cells #[.slice (some ⟨w.heap.size + 1, 0, none⟩) 4 4, .int .i64 fl, .int .i64 2, .int .i64 4, .slice none 0 0, .slice none 0 0, .slice none 0 0] 63) hP1
  have hO3 := Lib.hid (own_lit (l := Sp.fixP nm su) Sp.cnC_len (C := #[.int .i64 1, .string nm, .int .i64 0, .int .i64 0, .int .i64 0, .int .i64 0, .int .i64 4, .string ⟨#[]⟩, .int .i64 0, .int .i64 1, .int .i64 0, .int .i64 0, .int .i64 1, .string su, .int .i64 0, .int .i64 0, .int .i64 0, .int .i64 0, .int .i64 4, .string ⟨#[]⟩, .int .i64 0, .int .i64 3, .int .i64 0, .int .i64 0]) (B := w.heap.size) (by rfl) hP3 (by omega) (by simp [Sp.fixP]))
  have hF3 := blk_new ((w.alloc (.cells #[.slice none 0 0, .int .i64 0, .int .i64 0, .int .i64 0, .slice none 0 0, .slice none 0 0, .slice none 0 0] 63)).alloc (.cells #[.int .i64 1, .string nm, .int .i64 0, .int .i64 0, .int .i64 0, .int .i64 0, .int .i64 4, .string ⟨#[]⟩, .int .i64 0, .int .i64 1, .int .i64 0, .int .i64 0, .int .i64 1, .string su, .int .i64 0, .int .i64 0, .int .i64 0, .int .i64 0, .int .i64 4, .string ⟨#[]⟩, .int .i64 0, .int .i64 3, .int .i64 0, .int .i64 0] 93)) (.cells #[.slice (some ⟨w.heap.size + 1, 0, none⟩) 4 4, .int .i64 fl, .int .i64 2, .int .i64 4, .slice none 0 0, .slice none 0 0, .slice none 0 0] 63)
  rw [hs2] at hF3
  have hF3 := Lib.hid hF3
  have hK3 := Lib.hid ((((Keeps.refl (fun i => w.heap.size ≤ i) w).alloc (.cells #[.slice none 0 0, .int .i64 0, .int .i64 0, .int .i64 0, .slice none 0 0, .slice none 0 0, .slice none 0 0] 63)).alloc (.cells #[.int .i64 1, .string nm, .int .i64 0, .int .i64 0, .int .i64 0, .int .i64 0, .int .i64 4, .string ⟨#[]⟩, .int .i64 0, .int .i64 1, .int .i64 0, .int .i64 0, .int .i64 1, .string su, .int .i64 0, .int .i64 0, .int .i64 0, .int .i64 0, .int .i64 4, .string ⟨#[]⟩, .int .i64 0, .int .i64 3, .int .i64 0, .int .i64 0] 93)).alloc (.cells #[.slice (some ⟨w.heap.size + 1, 0, none⟩) 4 4, .int .i64 fl, .int .i64 2, .int .i64 4, .slice none 0 0, .slice none 0 0, .slice none 0 0] 63))
  clear hs1 hs2 hP1 hP3
  go_enter Tryz.func28, Tryz.ntmps28
  go_upto_region 3 with fail
  generalize (((w.alloc (.cells #[.slice none 0 0, .int .i64 0, .int .i64 0, .int .i64 0, .slice none 0 0, .slice none 0 0, .slice none 0 0] 63)).alloc (.cells #[.int .i64 1, .string nm, .int .i64 0, .int .i64 0, .int .i64 0, .int .i64 0, .int .i64 4, .string ⟨#[]⟩, .int .i64 0, .int .i64 1, .int .i64 0, .int .i64 0, .int .i64 1, .string su, .int .i64 0, .int .i64 0, .int .i64 0, .int .i64 0, .int .i64 4, .string ⟨#[]⟩, .int .i64 0, .int .i64 3, .int .i64 0, .int .i64 0] 93)).alloc (.cells #[.slice (some ⟨w.heap.size + 1, 0, none⟩) 4 4, .int .i64 fl, .int .i64 2, .int .i64 4, .slice none 0 0, .slice none 0 0, .slice none 0 0] 63)) = W3 at *
  have hI3 : Hid (W3.ownsRow w.heap.size 3 1 (.slice none (Sp.filI 0).length 0) (Sp.filI 0).length ((Sp.filI 0).flatMap intC)) := Lib.hid ⟨rfl, .inl ⟨rfl, rfl⟩⟩
  have hO3 : Hid (W3.ownsRow w.heap.size 93 6 (.slice (some ⟨w.heap.size + 1, 0, none⟩) (Sp.filP nm su ifs 0).length 4) (Sp.filP nm su ifs 0).length ((Sp.filP nm su ifs 0).flatMap Sp.cnC)) := hO3
  go_loopw [10] (fun v10 wr => ∃ (j : Nat) (A' : Option Addr) (c' : Nat) (I : Option Addr) (d : Nat), v10 = .int .i64 j ∧ j ≤ ifs.length ∧ Hid (wr.heap[w.heap.size + 1 + 1]? = some (.cells #[.slice A' (4 + 2 * j) c', .int .i64 fl, .int .i64 2, .int .i64 4, .slice I j d, .slice none 0 0, .slice none 0 0] 63 (0, 0))) ∧ Hid (wr.heap[w.heap.size]? = some (.cells #[.slice none 0 0, .int .i64 0, .int .i64 0, .int .i64 0, .slice none 0 0, .slice none 0 0, .slice none 0 0] 63 (0, 0))) ∧ Hid (wr.ownsRow w.heap.size 93 6 (.slice A' (Sp.filP nm su ifs j).length c') (Sp.filP nm su ifs j).length ((Sp.filP nm su ifs j).flatMap Sp.cnC)) ∧ Hid (wr.ownsRow w.heap.size 3 1 (.slice I (Sp.filI j).length d) (Sp.filI j).length ((Sp.filI j).flatMap intC)) ∧ Hid (Keeps (fun i => w.heap.size ≤ i) w wr)) (fun v10 _ => ifs.length - (RowKit.intOf v10).toNat)
  case atStart => exact ⟨0, some ⟨w.heap.size + 1, 0, none⟩, 4, none, 0, by go_num, Nat.zero_le _, hF3, hZ3, hO3, hI3, hK3⟩
  case round =>
    clear hF3 hZ3 hO3 hI3 hK3
    obtain ⟨j, A', c', I, d, rfl, hj, hF, hZ, hO, hI, hK⟩ := hrel
    have hwz := hK.out.size
    by_cases hlt : j < ifs.length
    · have hzj : (j : Int) < (ifs.length : Int) := by omega
      have hz0 : (0 : Int) ≤ (j : Int) := by omega
      obtain ⟨b, o, rfl, hr⟩ := (rdL_keeps0 H1.out hK.out (fun h0 b o hA q => by have := rdL_lt H1.out h0 b o hA; omega)).2 (by omega)
      have E0 : wr.cell? ⟨b, o + j, none⟩ = some (.string (ifs.getD j Sp.nilB)) := by
        have := rdL_get 1 Sp.strC_len hr hlt 0 (by decide) (v := .string ifs[j]) rfl
        rw [List.getD_eq_getElem?_getD, List.getElem?_eq_getElem hlt]
        simpa using this
      clear hr
      obtain ⟨A2, c2, w5, hra, hO5, hk5⟩ := kC.out wr.drew A' c' (Sp.filP nm su ifs j) (Sp.ifP ifs j) hO.out.drew (by rw [Sp.filP_len]; omega) (by simp [Sp.ifP]) hwz
      rw [← Sp.filP_succ, Sp.filP_len, Sp.filP_len] at hra
      rw [← Sp.filP_succ] at hO5
      unfold Sp.ifP at hra
      have hF5 := Lib.hid (hk5.obj (show wr.drew.heap[w.heap.size + 1 + 1]? = _ from hF.out) (fun q => own_ne hO.out hF.out (by decide) q))
      have hZ5 := Lib.hid (hk5.obj (show wr.drew.heap[w.heap.size]? = _ from hZ.out) (fun q => own_ne hO.out hZ.out (by decide) q))
      have hI5 := Lib.hid (hk5.row hI.out.drew (fun k q1 q2 => own_apart hO.out hI.out (by decide) k q2 q1))
      have hK5 := Lib.hid (hK.out.drew.trans (hk5.mono (fun i q => own_base hO.out i q)))
      have hO5 := Lib.hid hO5
      have hw5 := hK5.out.size
      clear hk5
      generalize ifs.getD j Sp.nilB = s at *
      have hra2 : (Builtin.append_ #[60, 60] 60 #[.slice A' (4 + 2 * j) c', .slice (some ⟨wr.heap.size, 0, none⟩) 2 2]).run Tryz.prog ((wr.alloc (.cells #[.int .i64 1, .string s, .int .i64 0, .int .i64 0, .int .i64 0, .int .i64 0, .int .i64 4, .string ⟨#[]⟩, .int .i64 0, .int .i64 (5 + 2 * (j : Int)), .int .i64 0, .int .i64 0] 93)).drew) = .ok (.slice A2 (4 + 2 * (j + 1)) c2) w5 := hra
      clear hra
      obtain ⟨t0, f0⟩ := blk_cell hF.out 0 (.slice A' (4 + 2 * j) c') rfl
      obtain ⟨t5, f5⟩ := blk_cell hF5.out 0 (.slice A' (4 + 2 * j) c') rfl
      have hlf := blk_lt hF.out
      have hlf5 := blk_lt hF5.out
      have x1 := IntWalk.i64_in (2 * (j : Int)) (by omega)
      have x2 := IntWalk.i64_in (5 + 2 * (j : Int)) (by omega)
      clear hF hZ hO hI hK
      go_upto_region 5 with fail
      go_region_law (refine step_app _ rfl _ _ _ _ rfl (.slice A' (4 + 2 * j) c') (.slice (some ⟨wr.heap.size, 0, none⟩) 2 2) rfl rfl (.slice A2 (4 + 2 * (j + 1)) c2) w5 hra2 ?_)
      all_goals
        clear hra2 x1 x2 t0 f0 t5 f5
        have hF6 := Lib.hid (show (w5.setCell ⟨w.heap.size + 1 + 1, 0, none⟩ (.slice A2 (4 + 2 * (j + 1)) c2)).heap[w.heap.size + 1 + 1]? = some (.cells #[.slice A2 (4 + 2 * (j + 1)) c2, .int .i64 fl, .int .i64 2, .int .i64 4, .slice I j d, .slice none 0 0, .slice none 0 0] 63 (0, 0)) from blk_set (i := 0) hF5.out (.slice A2 (4 + 2 * (j + 1)) c2))
        have hk6 := (Keeps.refl (fun i => i = w.heap.size + 1 + 1) w5).setCell (a := ⟨w.heap.size + 1 + 1, 0, none⟩) (.inl rfl) (.slice A2 (4 + 2 * (j + 1)) c2)
        have hZ6 := Lib.hid (hk6.obj hZ5.out (fun q => by omega))
        have hO6 := Lib.hid (hk6.row hO5.out (fun k q1 q2 => own_ne hO5.out hF5.out (by decide) (q2 ▸ q1)))
        have hI6 := Lib.hid (hk6.row hI5.out (fun k q1 q2 => own_ne hI5.out hF5.out (by decide) (q2 ▸ q1)))
        have hK6 := Lib.hid (hK5.out.trans (hk6.mono (fun i q => by omega)))
        clear hk6 hF5 hZ5 hO5 hI5 hK5
        go_upto_region 6 with fail
        generalize (w5.setCell ⟨w.heap.size + 1 + 1, 0, none⟩ (.slice A2 (4 + 2 * (j + 1)) c2)) = w6 at *
        have hw6 := hK6.out.size
        obtain ⟨I2, d2, w7, hrb, hI7, hk7⟩ := kI.out w6 I d (Sp.filI j) [6 + 2 * (j : Int)] hI6.out (by rw [Sp.filI_len]; omega) (by simp) hw6
        rw [← Sp.filI_succ, Sp.filI_len, Sp.filI_len] at hrb
        rw [← Sp.filI_succ] at hI7
        have hF7 := Lib.hid (hk7.obj hF6.out (fun q => own_ne hI6.out hF6.out (by decide) q))
        have hZ7 := Lib.hid (hk7.obj hZ6.out (fun q => own_ne hI6.out hZ6.out (by decide) q))
        have hO7 := Lib.hid (hk7.row hO6.out (fun k q1 q2 => own_apart hI6.out hO6.out (by decide) k q2 q1))
        have hK7 := Lib.hid (hK6.out.trans (hk7.mono (fun i q => own_base hI6.out i q)))
        have hI7 := Lib.hid hI7
        clear hk7 hZ6 hO6 hI6 hK6
        have hrb2 : Hid ((Builtin.append_ #[23, 23] 23 #[.slice I j d, .slice (some ⟨w6.heap.size, 0, none⟩) 1 1]).run Tryz.prog (w6.alloc (.cells #[.int .i64 (6 + 2 * (j : Int))] 3)) = .ok (.slice I2 (j + 1) d2) w7) := Lib.hid hrb
        clear hrb
        obtain ⟨t4, f4⟩ := blk_cell hF6.out 4 (.slice I j d) rfl
        have hlf6 := blk_lt hF6.out
        have hlf7 := blk_lt hF7.out
        go_wp2_with (at_builtin; refine wpList_app _ rfl _ _ _ _ rfl _ _ rfl rfl (.slice I2 (j + 1) d2) w7 hrb2.out ?_)
        intro v2 w2' hq
        obtain ⟨rfl, rfl⟩ := hq.out
        clear hq hrb2 t4 f4 hF6 hlf6
        obtain ⟨t4, f4⟩ := blk_cell hF7.out 4 (.slice I j d) rfl
        have hF8 := Lib.hid (show (w7.setCell ⟨w.heap.size + 1 + 1, 4, none⟩ (.slice I2 (j + 1) d2)).heap[w.heap.size + 1 + 1]? = some (.cells #[.slice A2 (4 + 2 * (j + 1)) c2, .int .i64 fl, .int .i64 2, .int .i64 4, .slice I2 (j + 1) d2, .slice none 0 0, .slice none 0 0] 63 (0, 0)) from blk_set (i := 4) hF7.out (.slice I2 (j + 1) d2))
        have hk8 := (Keeps.refl (fun i => i = w.heap.size + 1 + 1) w7).setCell (a := ⟨w.heap.size + 1 + 1, 4, none⟩) (.inl rfl) (.slice I2 (j + 1) d2)
        have hZ8 := Lib.hid (hk8.obj hZ7.out (fun q => by omega))
        have hO8 := Lib.hid (hk8.row hO7.out (fun k q1 q2 => own_ne hO7.out hF7.out (by decide) (q2 ▸ q1)))
        have hI8 := Lib.hid (hk8.row hI7.out (fun k q1 q2 => own_ne hI7.out hF7.out (by decide) (q2 ▸ q1)))
        have hK8 := Lib.hid (hK7.out.trans (hk8.mono (fun i q => by omega)))
        clear hk8 hF7 hZ7 hO7 hI7 hK7
        go_wp2
        go_roundw
        case rel => exact ⟨j + 1, A2, c2, I2, d2, by go_num, by omega, hF8, hZ8, hO8, hI8, hK8⟩
        case measure => simp [RowKit.intOf]; omega
    · have hzj : ¬ (j : Int) < (ifs.length : Int) := by omega
      have hje : j = ifs.length := by omega
      subst hje
      obtain ⟨c0, c1, c2, c3, c4, c5, c6⟩ := cells7 hF.out
      obtain ⟨z0, z1, z2, z3, z4, z5, z6⟩ := frz7 hZ.out
      obtain ⟨r0, r1, r2, r3, r4, r5, r6⟩ := cells7 hZ.out
      have hlc := blk_lt hF.out
      have hlz := blk_lt hZ.out
      have hfin := Lib.hid (blk_set (i := 6) (blk_set (i := 5) (blk_set (i := 4) (blk_set (i := 3) (blk_set (i := 2) (blk_set (i := 1) (blk_set (i := 0) hZ.out (.slice A' (4 + 2 * ifs.length) c')) (.int .i64 fl)) (.int .i64 2)) (.int .i64 4)) (.slice I ifs.length d)) (.slice none 0 0)) (.slice none 0 0))
      have hKf := Lib.hid ((((((((Keeps.refl (fun i => i = w.heap.size) wr).setCell (a := ⟨w.heap.size, 0, none⟩) (.inl rfl) (.slice A' (4 + 2 * ifs.length) c')).setCell (a := ⟨w.heap.size, 1, none⟩) (.inl rfl) (.int .i64 fl)).setCell (a := ⟨w.heap.size, 2, none⟩) (.inl rfl) (.int .i64 2)).setCell (a := ⟨w.heap.size, 3, none⟩) (.inl rfl) (.int .i64 4)).setCell (a := ⟨w.heap.size, 4, none⟩) (.inl rfl) (.slice I ifs.length d)).setCell (a := ⟨w.heap.size, 5, none⟩) (.inl rfl) (.slice none 0 0)).setCell (a := ⟨w.heap.size, 6, none⟩) (.inl rfl) (.slice none 0 0))
      have hOf := Lib.hid (hKf.out.row hO.out (fun k q1 q2 => own_ne hO.out hZ.out (by decide) (q2 ▸ q1)))
      have hIf := Lib.hid (hKf.out.row hI.out (fun k q1 q2 => own_ne hI.out hZ.out (by decide) (q2 ▸ q1)))
      have hBf := Lib.hid ((hK.out.trans (hKf.out.mono (fun i q => by omega))).below (Nat.le_refl _) (fun i q => q))
      clear hK hO hI hKf hZ hF
      go_wp2
      (try simp only [Exit.inBlock, Exit.then])
      refine bodyPost_ret (results_c rfl _ _ _ rfl (fl_load6 hfin.out)) rfl ?_
      have h1 := (own_rdL Sp.cnC_len (by decide) hOf.out).2.1
      have h2 := rdN_of (own_rdL (enc := intC) (fun _ => rfl) (by decide) hIf.out).2.1
      refine ⟨⟨A', c', I, d, none, 0, none, 0⟩, ?_, ⟨h1, h2, ⟨rdL_nil _ _ _, fun m hm => (by cases hm)⟩, ⟨rdL_nil _ _ _, fun m hm => (by cases hm)⟩⟩, hBf.out, hOf.out, hIf.out⟩
      rw [Sp.fileF_eq]
      unfold flC
      simp only [Sp.filP_len, Sp.filI_len]
      rfl
end Go.Proofs.YtfjplmbknegidaaGreatDoor
end
section
/-
  Regions whose order is drawn: operations that yield the same value in whatever later world ('calm': reads of what stays, calls whose answer hangs on nothing new) are taken in one order of the prover's choice, whatever they leave behind; the rest is walked in its forced order.
-/
set_option linter.unusedVariables false
namespace Go.Proofs.YtfjplmbknegidaaGreatDoor
section
variable {P : Program} {ops : Array Oper} {Q : Exit → Act → World → Prop} {md : Region.Mode} {R : World → World → Prop} {E : List Nat}

/-- The run ends in v, and in a world that R leads to. -/
def CalmTo (P : Program) (R : World → World → Prop) (v : Value) (w : World) : Result Next → Prop
  | .ok (.value u) w' => u = v ∧ R w w'
  | .ok (.enter f args) w' => Calls P f args w' fun e w'' => e = .returned v ∧ R w w''
  | _ => False
/-- In each world that R leads to from w the operation yields v, or it is not wanted. -/
def Calm (P : Program) (ops : Array Oper) (R : World → World → Prop) (o : Oper) (v : Value) (a : Act) (w : World) : Prop :=
  (Region.wanted o (yielded ops a.tmps) = true ∧ ∀ w', R w w' → CalmTo P R v w' ((execOp a.eval o).run P w')) ∨ (Region.wanted o (yielded ops a.tmps) = false ∧ v = undef)
theorem Calm.later {o : Oper} {v : Value} {a : Act} {w w1 : World} (ht : ∀ x y z, R x y → R y z → R x z) (h : Calm P ops R o v a w) (hw : R w w1) : Calm P ops R o v a w1 :=
  h.imp (fun ⟨q1, q2⟩ => ⟨q1, fun w' hw' => q2 w' (ht _ _ _ hw hw')⟩) id
theorem Calm.same {o : Oper} {v : Value} {a a' : Act} {w : World} (h : Calm P ops R o v a w) (he : execOp a'.eval o = execOp a.eval o) (hw : Region.wanted o (yielded ops a'.tmps) = Region.wanted o (yielded ops a.tmps)) : Calm P ops R o v a' w := by
  unfold Calm at *
  rw [he, hw]
  exact h
theorem Calm.step {i : Nat} {o : Oper} {v : Value} {a : Act} {w w' : World} {K : Act → World → Prop} (hr : ∀ x, R x x) (hi : ops[i]? = some o) (h : Calm P ops R o v a w) (hw : R w w') (hK : ∀ w'', R w' w'' → K (a.put o.dst v) w'') : wpOp P ops Q i K a w' := by
  unfold wpOp
  simp only [hi]
  rcases h with ⟨q1, q2⟩ | ⟨q1, rfl⟩
  · rw [if_pos q1]
    refine .inl ?_
    have hc := q2 w' hw
    unfold Oper.wp
    generalize (execOp a.eval o).run P w' = r at hc ⊢
    cases r with
    | ok n w2 =>
      cases n with
      | value u => obtain ⟨rfl, hR⟩ := hc; exact hK _ hR
      | enter f args =>
        refine Calls.mono hc ?_
        rintro e w3 ⟨rfl, hR⟩
        exact hK _ hR
      | _ => exact absurd hc id
    | halt x w2 => exact absurd hc id
  · rw [if_neg (by rw [q1]; simp)]
    exact hK _ (hr _)
/-- An operation that looks at nothing that another one writes, and writes nothing that it looks at, goes the same way ahead of it. -/
theorem wpOp_ahead {j : Nat} {oi oj : Oper} {v : Value} {a : Act} {w : World} {K : Act → World → Prop} {H : Act → Prop} (hj : ops[j]? = some oj) (hap : oi.apart ops oj = true) (hsj : ∀ cs b, oj.op ≠ .select cs b)
    (hQ : ∀ c a w, Q (.panic c) (a.put oi.dst v) w → Q (.panic c) a w) (h1 : ∀ a u, H a → H (a.put oj.dst u)) (h2 : ∀ a d, H a → H { a with defers := d :: a.defers }) (ha : H a) (h : wpOp P ops Q j K (a.put oi.dst v) w) :
    wpOp P ops Q j (fun a' w' => H a' ∧ K (a'.put oi.dst v) w') a w := by
  obtain ⟨p1, p2, p3⟩ := Oper.apart_spec hap
  have hex : execOp (a.put oi.dst v).eval oj = execOp a.eval oj := execOp_put oj hsj a oi.dst v p1
  unfold wpOp at h ⊢
  simp only [hj] at h ⊢
  rw [wanted_put oj a oi.dst v p1] at h
  by_cases hw : Region.wanted oj (yielded ops a.tmps) = true
  · rw [if_pos hw] at h ⊢
    rcases h with h | ⟨q1, q2⟩
    · refine .inl ?_
      unfold Oper.wp at h ⊢
      rw [hex] at h
      generalize (execOp a.eval oj).run P w = r at h ⊢
      cases r with
      | ok n w2 =>
        cases n with
        | value u => exact ⟨h1 _ _ ha, by rw [← Act.put_comm a v u p2]; exact h⟩
        | skip => exact ⟨h1 _ _ ha, by rw [← Act.put_comm a v undef p2]; exact h⟩
        | defer d => exact ⟨h1 _ _ (h2 _ _ ha), by rw [← Act.put_comm _ v undef p2, ← Act.put_defers]; exact h⟩
        | enter f args =>
          refine Calls.mono h fun e w3 he => ?_
          cases e with
          | returned u => exact ⟨h1 _ _ ha, by rw [← Act.put_comm a v u p2]; exact he⟩
          | panicked c => exact hQ _ _ _ he
          | outgrown => exact he
        | row r args => exact Rows.mono h fun u w3 he => ⟨h1 _ _ ha, by rw [← Act.put_comm a v u p2]; exact he⟩
        | _ => exact h
      | halt x w2 =>
        cases x with
        | panic u => exact hQ _ _ _ h
        | _ => exact h
    · refine .inr ⟨?_, q2⟩
      unfold Oper.asks at q1 ⊢
      rw [hex] at q1
      exact q1
  · rw [if_neg hw] at h ⊢
    exact ⟨h1 _ _ ha, by rw [← Act.put_comm a v undef p2]; exact h⟩
/-- Some early operation has not come up. -/
def earlyB (E : List Nat) (l : Array Bool) : Bool := E.any fun i => !l.getD i true
/-- Whatever order is picked, and whatever R does between the operations, until all early ones have come up. -/
def wpX (P : Program) (md : Region.Mode) (ops : Array Oper) (Q : Exit → Act → World → Prop) (R : World → World → Prop) (E : List Nat) : Nat → Array Bool → Act → World → Prop
  | 0, l, a, w => earlyB E l = false ∧ ∀ w', R w w' → wpAny P md ops Q 0 l a w'
  | n + 1, l, a, w => (earlyB E l = false → ∀ w', R w w' → wpAny P md ops Q (n + 1) l a w') ∧
    (earlyB E l = true → ∀ w', R w w' → Region.ready md ops l ≠ [] ∧ ∀ j ∈ Region.ready md ops l, wpOp P ops Q j (fun a' w'' => R w' w'' ∧ wpX P md ops Q R E n (l.setIfInBounds j true) a' w'') a w')
theorem wpX_later (ht : ∀ x y z, R x y → R y z → R x z) {n : Nat} {l : Array Bool} {a : Act} {w w1 : World} (h : wpX P md ops Q R E n l a w) (hw : R w w1) : wpX P md ops Q R E n l a w1 := by
  cases n with
  | zero => exact ⟨h.1, fun w' q => h.2 w' (ht _ _ _ hw q)⟩
  | succ n => exact ⟨fun e w' q => h.1 e w' (ht _ _ _ hw q), fun e w' q => h.2 e w' (ht _ _ _ hw q)⟩
theorem wpX_any (hr : ∀ x, R x x) : ∀ (n : Nat) (l : Array Bool) (a : Act) (w : World), wpX P md ops Q R E n l a w → wpAny P md ops Q n l a w
  | 0, _, _, w, h => h.2 w (hr w)
  | n + 1, l, a, w, h => by
    cases he : earlyB E l with
    | false => exact h.1 he w (hr w)
    | true =>
      obtain ⟨q1, q2⟩ := h.2 he w (hr w)
      exact ⟨fun q => absurd q q1, fun j hj => wpOp_mono (fun a' w' q => wpX_any hr n _ a' w' q.2) (q2 j hj)⟩
/-- Operation j waits for operation i. -/
def waits1 (md : Region.Mode) (ops : Array Oper) (j i : Nat) : Bool := match ops[j]? with
  | some o => o.after.any fun e => Region.binds md e && e.on == i
  | none => false
/-- Each waits for the one ahead of it. -/
def chainW (md : Region.Mode) (ops : Array Oper) : List Nat → Bool
  | a :: b :: r => waits1 md ops b a && chainW md ops (b :: r)
  | _ => true
def ClosedL (md : Region.Mode) (ops : Array Oper) (l : Array Bool) : Prop := ∀ j oj, ops[j]? = some oj → l.getD j false = true → ∀ e ∈ oj.after, Region.binds md e = true → l.getD e.on false = true
theorem closed_ready {l : Array Bool} {j : Nat} (h : ClosedL md ops l) (hj : j ∈ Region.ready md ops l) : ClosedL md ops (l.setIfInBounds j true) := by
  obtain ⟨_, o, ho, hall⟩ := mem_ready.1 hj
  intro k ok hk hl e he hb
  by_cases hjk : j = k
  · subst hjk
    obtain rfl : ok = o := Option.some.inj (hk.symm.trans ho)
    exact getD_set_true (hall e he hb)
  · rw [getD_set_ne false hjk] at hl
    exact getD_set_true (h k ok hk hl e he hb)
theorem waits_one {l : Array Bool} {j i : Nat} (h : waits1 md ops j i = true) (hd : ∀ oj, ops[j]? = some oj → ∀ e ∈ oj.after, Region.binds md e = true → l.getD e.on false = true) : l.getD i false = true := by
  unfold waits1 at h
  split at h
  · rename_i o ho
    obtain ⟨e, he, hb⟩ := Array.any_eq_true'.1 h
    simp only [Bool.and_eq_true, beq_iff_eq] at hb
    exact hb.2 ▸ hd o ho e he hb.1
  · cases h
theorem chain_listed {l : Array Bool} (h : ClosedL md ops l) : ∀ (r : List Nat) (a j : Nat), chainW md ops (a :: r) = true → j ∈ r → (∀ oj, ops[j]? = some oj → ∀ e ∈ oj.after, Region.binds md e = true → l.getD e.on false = true) → l.getD a false = true
  | [], _, _, _, hj, _ => by cases hj
  | b :: r, a, j, hc, hj, hd => by
    simp only [chainW, Bool.and_eq_true] at hc
    rcases List.mem_cons.1 hj with rfl | hj
    · exact waits_one hc.1 hd
    · have hb := chain_listed h r b j hc.2 hj hd
      exact waits_one hc.1 (fun ob hob e he hbd => h b ob hob hb e he hbd)
theorem getD_two {l : Array Bool} {i : Nat} (h : l.getD i true = false) : l.getD i false = false := by
  rcases Nat.lt_or_ge i l.size with h' | h'
  · simp [h'] at h ⊢; exact h
  · simp [Array.getElem?_eq_none h'] at h
theorem wpX_take {i : Nat} {oi : Oper} {v : Value} (hr : ∀ x, R x x) (ht : ∀ x y z, R x y → R y z → R x z) (hi : ops[i]? = some oi) (hsel : Region.noSelect ops = true) (hE : i ∈ E)
    (hW : ∀ l, ClosedL md ops l → ∀ j oj, ops[j]? = some oj → j ∉ E → (∀ o', ops[j]? = some o' → ∀ e ∈ o'.after, Region.binds md e = true → l.getD e.on false = true) → l.getD i false = true) (hQ : ∀ c a w, Q (.panic c) (a.put oi.dst v) w → Q (.panic c) a w) :
    ∀ (n : Nat) (l : Array Bool) (a : Act) (w : World), ClosedL md ops l →
      (∀ j oj, ops[j]? = some oj → j ≠ i → l.getD j true = false → (∀ e ∈ oj.after, Region.binds md e = true → e.on ≠ i) → oi.apart ops oj = true) →
      i ∈ Region.ready md ops l → Calm P ops R oi v a w → wpX P md ops Q R E n (l.setIfInBounds i true) (a.put oi.dst v) w → wpX P md ops Q R E (n + 1) l a w := by
  have hs := Region.noSelect_spec hsel
  intro n
  induction n with
  | zero =>
    intro l a w hcl hfree hri hc H
    have hun := (mem_ready.1 hri).1
    have he : earlyB E l = true := List.any_eq_true.2 ⟨i, hE, by rw [hun]; rfl⟩
    refine ⟨fun q => (by rw [he] at q; cases q), fun _ w' hw => ⟨fun q => (by rw [q] at hri; cases hri), fun j hj => ?_⟩⟩
    by_cases hji : j = i
    · subst hji
      exact hc.step hr hi hw (fun w'' hw'' => ⟨hw'', wpX_later ht H (ht _ _ _ hw hw'')⟩)
    · exfalso
      obtain ⟨hjun, oj, hoj, hall⟩ := mem_ready.1 hj
      have hjE : j ∉ E := fun q => by
        have := List.any_eq_false.1 H.1 j q
        rw [getD_set_ne true (Ne.symm hji), hjun] at this
        exact this rfl
      have := hW l hcl j oj hoj hjE (fun o' ho' e he hb => by
        obtain rfl : o' = oj := Option.some.inj (ho'.symm.trans hoj)
        exact hall e he hb)
      rw [getD_two hun] at this
      cases this
  | succ n ih =>
    intro l a w hcl hfree hri hc H
    have hun := (mem_ready.1 hri).1
    have he : earlyB E l = true := List.any_eq_true.2 ⟨i, hE, by rw [hun]; rfl⟩
    refine ⟨fun q => (by rw [he] at q; cases q), fun _ w' hw => ⟨fun q => (by rw [q] at hri; cases hri), fun j hj => ?_⟩⟩
    by_cases hji : j = i
    · subst hji
      exact hc.step hr hi hw (fun w'' hw'' => ⟨hw'', wpX_later ht H (ht _ _ _ hw hw'')⟩)
    · obtain ⟨hjun, oj, hoj, hall⟩ := mem_ready.1 hj
      cases he2 : earlyB E (l.setIfInBounds i true) with
      | false =>
        exfalso
        have hjE : j ∉ E := fun q => by
          have := List.any_eq_false.1 he2 j q
          rw [getD_set_ne true (Ne.symm hji), hjun] at this
          exact this rfl
        have := hW l hcl j oj hoj hjE (fun o' ho' e he hb => by
          obtain rfl : o' = oj := Option.some.inj (ho'.symm.trans hoj)
          exact hall e he hb)
        rw [getD_two hun] at this
        cases this
      | true =>
        have h1 := (H.2 he2 w' hw).2 j (ready_mono hj hji)
        have hnot : ∀ e ∈ oj.after, Region.binds md e = true → e.on ≠ i := fun e he hb heq => by
          have h1 := hall e he hb
          rw [heq, getD_two hun] at h1
          cases h1
        have hap := hfree j oj hoj hji hjun hnot
        obtain ⟨p1, p2, p3⟩ := Oper.apart_spec hap
        have h2 := wpOp_ahead (H := fun a' => execOp a'.eval oi = execOp a.eval oi ∧ Region.wanted oi (yielded ops a'.tmps) = Region.wanted oi (yielded ops a.tmps)) hoj hap (fun cs b => hs j oj cs b hoj) hQ
          (fun a' u q => ⟨(execOp_put oi (fun cs b => hs i oi cs b hi) a' oj.dst u p3).trans q.1, (wanted_put oi a' oj.dst u p3).trans q.2⟩) (fun a' d q => q) ⟨rfl, rfl⟩ h1
        have hfree' : ∀ k ok, ops[k]? = some ok → k ≠ i → (l.setIfInBounds j true).getD k true = false → (∀ e ∈ ok.after, Region.binds md e = true → e.on ≠ i) → oi.apart ops ok = true := fun k ok hk hki hku hno => by
          refine hfree k ok hk hki ?_ hno
          by_cases hjk : j = k
          · subst hjk; exact hjun
          · rw [getD_set_ne true hjk] at hku; exact hku
        refine wpOp_mono (fun a' w'' q => ?_) h2
        obtain ⟨⟨q1, q2⟩, q3, q4⟩ := q
        refine ⟨q3, ih (l.setIfInBounds j true) a' w'' (closed_ready hcl hj) hfree' (ready_mono hri (Ne.symm hji)) ((hc.same q1 q2).later ht (ht _ _ _ hw q3)) ?_⟩
        rw [Array.setIfInBounds_comm _ _ hji]
        exact q4

/-- The operations of a list, by their numbers. -/
def pickOps (l : List Oper) (t : List Nat) : List Oper := t.filterMap (l[·]?)
def Line (P : Program) (ops : Array Oper) (R : World → World → Prop) (w : World) (K : Act → Prop) : List Oper → Act → Prop
  | [], a => K a
  | o :: os, a => ∃ v, Calm P ops R o v a w ∧ Line P ops R w K os (a.put o.dst v)
/-- Operations that are not calm, but lead on by R, in their forced order; R does what it may behind each. -/
def Soon (P : Program) (ops : Array Oper) (R : World → World → Prop) (Q : Exit → Act → World → Prop) (K : Act → World → Prop) : List Oper → Act → World → Prop
  | [], a, w => ∀ w', R w w' → K a w'
  | o :: os, a, w => ∀ w', R w w' → Region.wanted o (yielded ops a.tmps) = true ∧ Oper.wp P o a w' (fun a' w'' => R w' w'' ∧ Soon P ops R Q K os a' w'') Q
/-- The forced order of what is left. -/
def forcedB (md : Region.Mode) (ops : Array Oper) : List Nat → Array Bool → Bool
  | [], l => (Region.ready md ops l).isEmpty
  | j :: t, l => decide (Region.ready md ops l = [j]) && forcedB md ops t (l.setIfInBounds j true)
def soonB (md : Region.Mode) (ops : Array Oper) (E t2 : List Nat) : List Nat → Array Bool → Bool
  | [], l => !earlyB E l && forcedB md ops t2 l
  | j :: t, l => earlyB E l && decide (Region.ready md ops l = [j]) && soonB md ops E t2 t (l.setIfInBounds j true)
def pathB (md : Region.Mode) (ops : Array Oper) (E t2 : List Nat) (i : Nat) (p : List Nat) : Bool :=
  chainW md ops (i :: (p ++ t2)) && ((List.range ops.size).all fun j => E.contains j || (p ++ t2).contains j)
def lineB (md : Region.Mode) (ops : Array Oper) (E t1 t2 : List Nat) : List Nat → List (List Nat) → Array Bool → Bool
  | [], _, l => soonB md ops E t2 t1 l
  | i :: is, ps, l => E.contains i && (Region.ready md ops l).contains i && Region.free md ops l i && (match ps with
    | p :: _ => pathB md ops E t2 i p
    | [] => (List.range ops.size).all fun j => E.contains j) && lineB md ops E t1 t2 is ps.tail (l.setIfInBounds i true)
theorem forced_any {l0 : List Oper} : ∀ (t : List Nat) (l : Array Bool) (a : Act) (w : World), forcedB md l0.toArray t l = true → wpList P l0.toArray Q (pickOps l0 t) a w → wpAny P md l0.toArray Q t.length l a w
  | [], l, a, w, hB, h => ⟨by simpa [forcedB] using hB, h⟩
  | j :: t, l, a, w, hB, h => by
    simp only [forcedB, Bool.and_eq_true, decide_eq_true_eq] at hB
    have hj : j ∈ Region.ready md l0.toArray l := by rw [hB.1]; exact List.mem_singleton.2 rfl
    obtain ⟨_, o, ho, _⟩ := mem_ready.1 hj
    have ho' : l0[j]? = some o := by simpa using ho
    refine ⟨fun q => (by rw [q] at hj; cases hj), fun k hk => ?_⟩
    rw [hB.1] at hk
    obtain rfl : k = j := List.mem_singleton.1 hk
    unfold pickOps at h
    rw [List.filterMap_cons, ho'] at h
    unfold wpOp
    simp only [ho]
    simp only [wpList] at h
    by_cases hw : Region.wanted o (yielded l0.toArray a.tmps) = true
    · rw [if_pos hw] at h ⊢
      exact h.imp (Oper.wp_mono fun a' w' q => forced_any t _ a' w' hB.2 q) id
    · rw [if_neg hw] at h ⊢
      exact forced_any t _ _ _ hB.2 h
theorem soon_x {l0 : List Oper} {t2 : List Nat} (ht : ∀ x y z, R x y → R y z → R x z) : ∀ (t : List Nat) (l : Array Bool) (a : Act) (w : World), soonB md l0.toArray E t2 t l = true → Soon P l0.toArray R Q (fun a' w' => wpList P l0.toArray Q (pickOps l0 t2) a' w') (pickOps l0 t) a w → wpX P md l0.toArray Q R E (t.length + t2.length) l a w
  | [], l, a, w, hB, h => by
    simp only [soonB, Bool.and_eq_true, Bool.not_eq_true'] at hB
    rw [List.length_nil, Nat.zero_add]
    have hf : ∀ w', R w w' → wpAny P md l0.toArray Q t2.length l a w' := fun w' hw => forced_any t2 l a w' hB.2 (h w' hw)
    cases hn : t2.length with
    | zero => rw [hn] at hf; exact ⟨hB.1, hf⟩
    | succ n => rw [hn] at hf; exact ⟨fun _ => hf, fun q => (by rw [hB.1] at q; cases q)⟩
  | j :: t, l, a, w, hB, h => by
    simp only [soonB, Bool.and_eq_true, decide_eq_true_eq] at hB
    have hj : j ∈ Region.ready md l0.toArray l := by rw [hB.1.2]; exact List.mem_singleton.2 rfl
    obtain ⟨_, o, ho, _⟩ := mem_ready.1 hj
    have ho' : l0[j]? = some o := by simpa using ho
    unfold pickOps at h
    rw [List.filterMap_cons, ho'] at h
    simp only [Soon] at h
    rw [List.length_cons, show t.length + 1 + t2.length = (t.length + t2.length) + 1 by omega]
    refine ⟨fun q => (by rw [hB.1.1] at q; cases q), fun _ w' hw => ⟨fun q => (by rw [q] at hj; cases hj), fun k hk => ?_⟩⟩
    rw [hB.1.2] at hk
    obtain rfl : k = j := List.mem_singleton.1 hk
    obtain ⟨q1, q2⟩ := h w' hw
    unfold wpOp
    simp only [ho]
    rw [if_pos q1]
    exact .inl (Oper.wp_mono (fun a' w'' q => ⟨q.1, soon_x ht t _ a' w'' hB.2 q.2⟩) q2)
theorem line_x {l0 : List Oper} {t1 t2 : List Nat} (hr : ∀ x, R x x) (ht : ∀ x y z, R x y → R y z → R x z) (hsel : Region.noSelect l0.toArray = true) (hQ : ∀ c a d v w, Q (.panic c) (Act.put a d v) w → Q (.panic c) a w) :
    ∀ (t : List Nat) (ps : List (List Nat)) (l : Array Bool) (a : Act) (w : World), ClosedL md l0.toArray l → lineB md l0.toArray E t1 t2 t ps l = true →
      Line P l0.toArray R w (fun a' => Soon P l0.toArray R Q (fun a' w' => wpList P l0.toArray Q (pickOps l0 t2) a' w') (pickOps l0 t1) a' w) (pickOps l0 t) a → wpX P md l0.toArray Q R E (t.length + (t1.length + t2.length)) l a w
  | [], ps, l, a, w, _, hB, h => by
    rw [List.length_nil, Nat.zero_add]
    exact soon_x ht t1 l a w hB (show Soon P l0.toArray R Q _ (pickOps l0 t1) a w from h)
  | i :: t, ps, l, a, w, hcl, hB, h => by
    simp only [lineB, Bool.and_eq_true] at hB
    obtain ⟨⟨⟨⟨b1, b2⟩, b3⟩, b4⟩, b5⟩ := hB
    have hj : i ∈ Region.ready md l0.toArray l := by simpa using b2
    obtain ⟨_, o, ho, _⟩ := mem_ready.1 hj
    have ho' : l0[i]? = some o := by simpa using ho
    unfold pickOps at h
    rw [List.filterMap_cons, ho'] at h
    obtain ⟨v, hc, hl⟩ := h
    rw [List.length_cons, show t.length + 1 + (t1.length + t2.length) = (t.length + (t1.length + t2.length)) + 1 by omega]
    refine wpX_take (v := v) hr ht ho hsel (by simpa using b1) (fun l' hl' j oj hoj hn hd => ?_) (fun c a w q => hQ c a _ _ w q) _ l a w hcl (Region.free_spec ho b3) hj hc (line_x hr ht hsel hQ t ps.tail _ _ w (closed_ready hcl hj) b5 hl)
    have hjs := (Array.getElem?_eq_some_iff.1 hoj).1
    cases ps with
    | nil =>
      have := List.all_eq_true.1 b4 j (List.mem_range.2 hjs)
      exact absurd (by simpa using this) hn
    | cons p ps =>
      simp only [pathB, Bool.and_eq_true] at b4
      have := List.all_eq_true.1 b4.2 j (List.mem_range.2 hjs)
      simp only [Bool.or_eq_true] at this
      rcases this with q | q
      · exact absurd (by simpa using q) hn
      · exact chain_listed hl' (p ++ t2) i j b4.1 (by simpa using q) hd
end
/-- **A region**: its calm operations in the order t, the early ones t1, the rest t2. -/
theorem wp_region_calm {P : Program} {Q : Exit → Act → World → Prop} {id : Nat} {a : Act} {w : World} {l0 : List Oper} (R : World → World → Prop) (t t1 t2 : List Nat) (ps : List (List Nat)) (hm : P.follows .mixedOrders = true)
    (hB : (Region.noSelect l0.toArray && decide (l0.length = t.length + (t1.length + t2.length)) && lineB .any l0.toArray (t ++ t1) t1 t2 t ps (Array.replicate l0.length false)) = true)
    (hr : ∀ x, R x x) (ht : ∀ x y z, R x y → R y z → R x z) (hQ : ∀ c a d v w, Q (.panic c) (Act.put a d v) w → Q (.panic c) a w)
    (h : Line P l0.toArray R { w with drawn := w.drawn + 1 } (fun a' => Soon P l0.toArray R Q (fun a' w' => wpList P l0.toArray Q (pickOps l0 t2) a' w') (pickOps l0 t1) a' { w with drawn := w.drawn + 1 }) (pickOps l0 t) a) :
    (Code.region id l0.toArray true).wp P Q a w := by
  simp only [Bool.and_eq_true, decide_eq_true_eq] at hB
  refine wp_region_any hm ?_
  rw [List.size_toArray]
  have := line_x (md := .any) (E := t ++ t1) hr ht hB.1.1 hQ t ps (Array.replicate l0.length false) a _ (fun j oj hj hl => by
    exfalso
    rcases Nat.lt_or_ge j l0.length with q | q
    · simp [q] at hl
    · simp [q] at hl) hB.2 h
  rw [hB.1.2]
  have := wpX_any hr _ _ _ _ this
  rwa [hB.1.2] at this
section
variable {P : Program} {ops : Array Oper} {R : World → World → Prop} {w : World} {K : Act → Prop} {o : Oper} {os : List Oper} {a : Act} {v : Value}
theorem line_done (h : K a) : Line P ops R w K [] a := h
theorem line_not (hw : Region.wanted o (yielded ops a.tmps) = false) (h : Line P ops R w K os (a.put o.dst undef)) : Line P ops R w K (o :: os) a := ⟨undef, .inr ⟨hw, rfl⟩, h⟩
theorem line_val (hr : ∀ x, R x x) (hw : Region.wanted o (yielded ops a.tmps) = true) (hy : ∀ w', R w w' → (execOp a.eval o).run P w' = .ok (.value v) w') (h : Line P ops R w K os (a.put o.dst v)) : Line P ops R w K (o :: os) a :=
  ⟨v, .inl ⟨hw, fun w' hR => by rw [hy w' hR]; exact ⟨rfl, hr _⟩⟩, h⟩
theorem line_call {f : FuncId} {args : Array Value} (hw : Region.wanted o (yielded ops a.tmps) = true) (hy : ∀ w', R w w' → (execOp a.eval o).run P w' = .ok (.enter f args) w') (hc : ∀ w', R w w' → Calls P f args w' fun e w'' => e = .returned v ∧ R w' w'') (h : Line P ops R w K os (a.put o.dst v)) : Line P ops R w K (o :: os) a :=
  ⟨v, .inl ⟨hw, fun w' hR => by rw [hy w' hR]; exact hc w' hR⟩, h⟩
/-- A hypothesis that no tactic looks into. -/
def Shut0 (p : Prop) : Prop := p
theorem Shut0.out {p : Prop} (h : Shut0 p) : p := h
theorem soon_nil {Q : Exit → Act → World → Prop} {K : Act → World → Prop} (h : ∀ w', R w w' → K a w') : Soon P ops R Q K [] a w := h
theorem soon_step {Q : Exit → Act → World → Prop} {K : Act → World → Prop} (hw : Region.wanted o (yielded ops a.tmps) = true) (h : ∀ w', R w w' → ∀ K' : Act → World → Prop, Shut0 (∀ a' w'', R w' w'' → Soon P ops R Q K os a' w'' → K' a' w'') → Oper.wp P o a w' K' Q) : Soon P ops R Q K (o :: os) a w :=
  fun w' hR => ⟨hw, h w' hR _ (fun a' w'' q1 q2 => ⟨q1, q2⟩)⟩
end
/-- All that stood stays. -/
def Grow (x y : World) : Prop := Go.RowKit.Below x.heap.size x y
theorem Grow.refl (x : World) : Grow x x := Go.RowKit.Below.refl _ _
theorem Grow.trans (x y z : World) (h : Grow x y) (k : Grow y z) : Grow x z := by
  unfold Grow at *
  exact h.trans ⟨k.os, k.tape, k.output, k.size, fun i hi => k.block i (Nat.lt_of_lt_of_le hi h.size)⟩
end Go.Proofs.YtfjplmbknegidaaGreatDoor
end
