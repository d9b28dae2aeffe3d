/-
  Walks of chapter 2's reader of types.
-/
import Derived.Test.YthpfknlgfkecpaaDoorDs3
import Derived.Test.YthpfknlgfkecpaaDoorDsStr
import Derived.Deep.Heap
set_option linter.unusedVariables false
set_option linter.unusedSimpArgs false
namespace Go.Proofs.YthpfknlgfkecpaaDoor
open Go.RowKit Go.Lib

namespace Sp
def trimB (s : ByteArray) : ByteArray := ⟨(Lib.trimLeftB s.data.toList 91).toArray⟩
def tailB (s : ByteArray) : ByteArray := s.extract 1 s.size
def ixC (s : ByteArray) : Int := Lib.indexByte s.data.toList 59
/-- The type that stands at a text's head, and what is left. -/
def readS (s : ByteArray) : Option (Ty × ByteArray) :=
  if Lib.hasPrefix (trimB s).data.toList [73] = true then
    if rightS ((s.size : Int) - (trimB s).size, ⟨#[]⟩) = true then some (((s.size : Int) - (trimB s).size, ⟨#[]⟩), tailB (trimB s)) else none
  else if Lib.hasPrefix (trimB s).data.toList [76] = true then
    if ixC (tailB (trimB s)) < 0 ∨ ((tailB (trimB s)).extract 0 (ixC (tailB (trimB s))).toNat).size = 0 then none
    else if rightS ((s.size : Int) - (trimB s).size, (tailB (trimB s)).extract 0 (ixC (tailB (trimB s))).toNat) = true then some (((s.size : Int) - (trimB s).size, (tailB (trimB s)).extract 0 (ixC (tailB (trimB s))).toNat), (tailB (trimB s)).extract ((ixC (tailB (trimB s))).toNat + 1) (tailB (trimB s)).size) else none
  else none
theorem trim_size (s : ByteArray) : (trimB s).size ≤ s.size := by
  have h : (Lib.trimLeftB s.data.toList 91).length ≤ s.data.toList.length := by
    unfold Lib.trimLeftB
    exact (List.dropWhile_sublist _).length_le
  rw [show (trimB s).size = (Lib.trimLeftB s.data.toList 91).length from B_size _, Lib.size_eq s]
  exact h
theorem pre_size (s : ByteArray) (c : UInt8) (h : Lib.hasPrefix s.data.toList [c] = true) : 0 < s.size := by
  rw [Lib.size_eq]
  unfold Lib.hasPrefix at h
  cases hs : s.data.toList with
  | nil => rw [hs] at h; simp at h
  | cons a l => simp
theorem ix_range : ∀ (l : List UInt8) (c : UInt8), -1 ≤ Lib.indexByte l c ∧ Lib.indexByte l c < l.length
  | [], c => by simp [Lib.indexByte]
  | a :: l, c => by
    have := ix_range l c
    simp only [Lib.indexByte, List.length_cons]
    repeat' split
    all_goals omega
theorem ixC_range (s : ByteArray) : -1 ≤ ixC s ∧ ixC s < s.size := by
  have := ix_range s.data.toList 59
  rw [Lib.size_eq]
  exact this
end Sp

theorem grown_below {w w' : World} {b : Nat} (h : Below w.heap.size w w') : w.grownBy w' (some b) := ⟨h.os, h.tape, h.output, h.size, fun k hk _ => h.block k hk⟩
theorem grown_set {w w' : World} {b o : Nat} (h : w.grownBy w' (some b)) (v : Value) : w.grownBy (w'.setCell ⟨b, o, none⟩ v) (some b) := by
  have k := (Below.refl 0 w').setCell (p := ⟨b, o, none⟩) (Nat.zero_le _) v
  refine ⟨k.os.trans h.os, k.tape.trans h.tape, k.output.trans h.output, Nat.le_trans h.size k.size, fun i hi hne => ?_⟩
  rw [← h.block i hi hne]
  exact Go.Deep.blk_setCell_other _ _ _ _ (fun q => hne (by rw [q]))

theorem grown_new {w w' : World} {b o : Nat} (h : w.grownBy w' (some b)) (hb : b < w.heap.size) (v : Value) : w.grownBy (w'.setCell ⟨w.heap.size, o, none⟩ v) (some b) := by
  have k := (Below.refl 0 w').setCell (p := ⟨w.heap.size, o, none⟩) (Nat.zero_le _) v
  refine ⟨k.os.trans h.os, k.tape.trans h.tape, k.output.trans h.output, Nat.le_trans h.size k.size, fun i hi hne => ?_⟩
  rw [← h.block i hi hne]
  exact Go.Deep.blk_setCell_other _ _ _ _ (fun q => by simp at q; omega)

set_option maxHeartbeats 8000000 in
set_option maxRecDepth 100000 in
theorem reads1_any (b : Nat) (s : ByteArray) (w : World) (hs : s.size ≤ 1099511627776) (hc : w.cell? ⟨b, 0, none⟩ = some (.string s)) (hf : w.frozen? ⟨b, 0, none⟩ = false) (hT : Tabs w) :
    Calls Tryd.prog 81 #[.pointer (some ⟨b, 0, none⟩)] w fun e w' => match Sp.readS s with
      | none => e = .returned (.tuple #[Sp.tyV Sp.t0, .string s, .bool false]) ∧ Below w.heap.size w w'
      | some q => e = .returned (.tuple #[Sp.tyV q.1, .string q.2, .bool true]) ∧ w.grownBy w' (some b) ∧ w'.cell? ⟨b, 0, none⟩ = some (.string q.2) ∧ w'.frozen? ⟨b, 0, none⟩ = false := by
  have T0 := Lib.hid hT
  clear hT
  have hlt : b < w.heap.size := World.block_lt_of_cell? w _ hc
  have hne : w.heap.size ≠ b := by omega
  have HE := Lib.hid (show Sp.readS s = _ by rw [Sp.readS])
  have hx := Sp.trim_size s
  have k1 := Lib.hid (fun W => Tryd.strings_TrimLeft_one s 91 (by decide) W)
  have k2 := Lib.hid (fun W => Tryd.strings_HasPrefix (Sp.trimB s) ⟨#[73]⟩ W)
  have k3 := Lib.hid (fun W => Tryd.strings_HasPrefix (Sp.trimB s) ⟨#[76]⟩ W)
  have e1 : (⟨(Lib.trimLeftB s.data.toList 91).toArray⟩ : ByteArray) = Sp.trimB s := rfl
  rw [e1] at k1
  have e2 : (⟨#[73]⟩ : ByteArray).data.toList = [73] := rfl
  have e3 : (⟨#[76]⟩ : ByteArray).data.toList = [76] := rfl
  rw [e2] at k2
  rw [e3] at k3
  clear e1 e2 e3
  have hp1 := Sp.pre_size (Sp.trimB s) 73
  have hp2 := Sp.pre_size (Sp.trimB s) 76
  generalize Sp.readS s = R at HE ⊢
  generalize Sp.trimB s = x at *
  have hD : ((s.size : Int) - x.size) = ((s.size - x.size : Nat) : Int) := by omega
  go_enter Tryd.func81, Tryd.ntmps81
  go_wp2_with fail
  refine (k1.out _).mono ?_
  rintro e w1 ⟨rfl, rfl⟩
  go_wp2_with fail
  refine (k2.out _).mono ?_
  rintro e w2 ⟨rfl, rfl⟩
  by_cases p1 : Lib.hasPrefix x.data.toList [73] = true
  · have hpos := hp1 p1
    rw [p1]
    rw [if_pos p1] at HE
    have k4 := Lib.hid (fun W hT => right_any ((s.size : Int) - x.size) ⟨#[]⟩ W (by decide) hT)
    have HE' := Lib.hid HE.out
    clear HE
    generalize Sp.rightS ((s.size : Int) - x.size, ⟨#[]⟩) = v at k4 HE'
    unfold Sp.tyV at k4
    simp only [] at k4
    rw [hD] at k4 HE'
    go_wp2_with fail
    refine (k4.out _ (T0.out.below (((Below.refl _ _).alloc (Nat.le_refl _) _).alloc (by simp) _))).mono ?_
    rintro e w3 ⟨rfl, hb3⟩
    obtain ⟨cb, fb⟩ := kept_cell hb3 ⟨b, 0, none⟩ (.string s) (kept_cell (((Below.refl w.heap.size w).alloc (Nat.le_refl _) _).alloc (by simp) _) _ _ ⟨hc, hf⟩)
    obtain ⟨c0, f0⟩ := kept_cell hb3 ⟨w.heap.size, 0, none⟩ (.int .i64 0) (by simp)
    obtain ⟨c1, f1⟩ := kept_cell hb3 ⟨w.heap.size, 1, none⟩ (.string ⟨#[]⟩) (by simp)
    obtain ⟨c2, f2⟩ := kept_cell hb3 ⟨w.heap.size + 1, 0, none⟩ (.int .i64 ((s.size - x.size : Nat) : Int)) (by simp)
    obtain ⟨c3, f3⟩ := kept_cell hb3 ⟨w.heap.size + 1, 1, none⟩ (.string ⟨#[]⟩) (by simp)
    have hb' := below_then (((Below.refl w.heap.size w).alloc (Nat.le_refl _) _).alloc (by simp) _) (by simp; omega) hb3
    cases v with
    | false =>
      have hR : R = none := by rw [HE'.out, if_neg (by simp)]
      subst hR
      clear HE'
      go_wp2
      go_region
      all_goals
        go_wp2
        (try simp only [Exit.inBlock, Exit.then]); refine bodyPost_ret (results_ctt rfl _ _ _ rfl (ty_load _ w.heap.size 0 (x := .int .i64 0) (y := .string ⟨#[]⟩) (by simp only [World.cell?_drew]; (repeat (first | assumption | (with_reducible apply World.cell?_setCell_same) | (refine (World.cell?_setCell_other _ _ _ _ (by first | (simp; done) | (intro q; simp at q; done) | (intro q; simp at q; omega))).trans ?_)))) (by simp only [World.cell?_drew]; (repeat (first | assumption | (with_reducible apply World.cell?_setCell_same) | (refine (World.cell?_setCell_other _ _ _ _ (by first | (simp; done) | (intro q; simp at q; done) | (intro q; simp at q; omega))).trans ?_)))))) rfl ?_
        exact ⟨rfl, ((hb'.setCell (p := ⟨w.heap.size, 0, none⟩) (Nat.le_refl _) _).setCell (p := ⟨w.heap.size, 1, none⟩) (Nat.le_refl _) _).drew⟩
    | true =>
      have hR : R = some ((((s.size - x.size : Nat) : Int), ⟨#[]⟩), x.extract 1 x.size) := by rw [HE'.out, if_pos rfl]; rfl
      subst hR
      clear HE'
      go_wp2
      (try simp only [Exit.inBlock, Exit.then]); refine bodyPost_ret (results_ctt rfl _ _ _ rfl (ty_load _ w.heap.size 0 (x := .int .i64 ((s.size - x.size : Nat) : Int)) (y := .string ⟨#[]⟩) (by (repeat (first | assumption | (with_reducible apply World.cell?_setCell_same) | (refine (World.cell?_setCell_other _ _ _ _ (by first | (simp; done) | (intro q; simp at q; done) | (intro q; simp at q; omega))).trans ?_)))) (by (repeat (first | assumption | (with_reducible apply World.cell?_setCell_same) | (refine (World.cell?_setCell_other _ _ _ _ (by first | (simp; done) | (intro q; simp at q; done) | (intro q; simp at q; omega))).trans ?_)))))) rfl ?_
      exact ⟨rfl, grown_new (grown_new (grown_set (grown_below hb') _) hlt _) hlt _, by (repeat (first | assumption | (with_reducible apply World.cell?_setCell_same) | (refine (World.cell?_setCell_other _ _ _ _ (by first | (simp; done) | (intro q; simp at q; done) | (intro q; simp at q; omega))).trans ?_))), by simp [fb]⟩
  · rw [if_neg p1] at HE
    have p1' : Lib.hasPrefix x.data.toList [73] = false := by simpa using p1
    rw [p1']
    go_wp2_with fail
    refine (k3.out _).mono ?_
    rintro e w3 ⟨rfl, rfl⟩
    by_cases p2 : Lib.hasPrefix x.data.toList [76] = true
    · have hpos := hp2 p2
      rw [p2]
      rw [if_pos p2] at HE
      have hix := Sp.ixC_range (Sp.tailB x)
      have htz : (Sp.tailB x).size = x.size - 1 := by simp [Sp.tailB]
      have k5 := Lib.hid (fun W => cut1_any (Sp.tailB x) 59 W (by omega) ⟨hix.2, hix.1⟩)
      have e5 : Lib.indexByte (Sp.tailB x).data.toList 59 = Sp.ixC (Sp.tailB x) := rfl
      rw [e5] at k5
      have e6 : x.extract 1 x.size = Sp.tailB x := rfl
      clear e5
      go_wp2_with fail
      clear e6
      generalize Sp.tailB x = q at *
      generalize Sp.ixC q = i at *
      by_cases hi : i < 0
      · rw [if_pos (.inl hi)] at HE
        rw [if_neg (by omega)] at k5
        refine (k5.out _).mono ?_
        rintro e w4 ⟨rfl, hb4⟩
        obtain ⟨cb, fb⟩ := kept_cell hb4 ⟨b, 0, none⟩ (.string s) (kept_cell (((Below.refl w.heap.size w).alloc (Nat.le_refl _) _).alloc (by simp) _) _ _ ⟨hc, hf⟩)
        obtain ⟨c0, f0⟩ := kept_cell hb4 ⟨w.heap.size, 0, none⟩ (.int .i64 0) (by simp)
        obtain ⟨c1, f1⟩ := kept_cell hb4 ⟨w.heap.size, 1, none⟩ (.string ⟨#[]⟩) (by simp)
        obtain ⟨c2, f2⟩ := kept_cell hb4 ⟨w.heap.size + 1, 0, none⟩ (.int .i64 ((s.size - x.size : Nat) : Int)) (by simp)
        obtain ⟨c3, f3⟩ := kept_cell hb4 ⟨w.heap.size + 1, 1, none⟩ (.string ⟨#[]⟩) (by simp)
        have hb' := below_then (((Below.refl w.heap.size w).alloc (Nat.le_refl _) _).alloc (by simp) _) (by simp; omega) hb4
        have S4 := hb'.size
        have hR : R = none := HE.out
        subst hR
        clear HE
        go_wp2
        go_region
        all_goals
          go_wp2
          (try simp only [Exit.inBlock, Exit.then]); refine bodyPost_ret (results_ctt rfl _ _ _ rfl (ty_load _ w.heap.size 0 (x := .int .i64 0) (y := .string ⟨#[]⟩) (by simp only [World.cell?_drew]; (repeat (first | assumption | (with_reducible apply World.cell?_setCell_same) | (refine (World.cell?_setCell_other _ _ _ _ (by first | (simp; done) | (intro q; simp at q; done) | (intro q; simp at q; omega))).trans ?_)))) (by simp only [World.cell?_drew]; (repeat (first | assumption | (with_reducible apply World.cell?_setCell_same) | (refine (World.cell?_setCell_other _ _ _ _ (by first | (simp; done) | (intro q; simp at q; done) | (intro q; simp at q; omega))).trans ?_)))))) rfl ?_
          exact ⟨rfl, ((hb'.setCell (p := ⟨w.heap.size, 0, none⟩) (Nat.le_refl _) _).setCell (p := ⟨w.heap.size, 1, none⟩) (Nat.le_refl _) _).drew⟩
      · rw [if_pos (by omega)] at k5
        obtain ⟨m, rfl⟩ : ∃ m : Nat, i = m := ⟨i.toNat, by omega⟩
        simp only [Int.toNat_natCast] at k5 HE
        refine (k5.out _).mono ?_
        rintro e w4 ⟨rfl, hb4⟩
        obtain ⟨cb, fb⟩ := kept_cell hb4 ⟨b, 0, none⟩ (.string s) (kept_cell (((Below.refl w.heap.size w).alloc (Nat.le_refl _) _).alloc (by simp) _) _ _ ⟨hc, hf⟩)
        obtain ⟨c0, f0⟩ := kept_cell hb4 ⟨w.heap.size, 0, none⟩ (.int .i64 0) (by simp)
        obtain ⟨c1, f1⟩ := kept_cell hb4 ⟨w.heap.size, 1, none⟩ (.string ⟨#[]⟩) (by simp)
        obtain ⟨c2, f2⟩ := kept_cell hb4 ⟨w.heap.size + 1, 0, none⟩ (.int .i64 ((s.size - x.size : Nat) : Int)) (by simp)
        obtain ⟨c3, f3⟩ := kept_cell hb4 ⟨w.heap.size + 1, 1, none⟩ (.string ⟨#[]⟩) (by simp)
        have hb' := below_then (((Below.refl w.heap.size w).alloc (Nat.le_refl _) _).alloc (by simp) _) (by simp; omega) hb4
        have S4 := hb'.size
        by_cases hnm : (q.extract 0 m).size = 0
        · rw [if_pos (.inr hnm)] at HE
          have hR : R = none := HE.out
          subst hR
          clear HE
          have hne0 := str_empty _ hnm
          rw [hne0]
          go_wp2
          go_region
          all_goals
            go_wp2
            (try simp only [Exit.inBlock, Exit.then]); refine bodyPost_ret (results_ctt rfl _ _ _ rfl (ty_load _ w.heap.size 0 (x := .int .i64 0) (y := .string ⟨#[]⟩) (by simp only [World.cell?_drew]; (repeat (first | assumption | (with_reducible apply World.cell?_setCell_same) | (refine (World.cell?_setCell_other _ _ _ _ (by first | (simp; done) | (intro q; simp at q; done) | (intro q; simp at q; omega))).trans ?_)))) (by simp only [World.cell?_drew]; (repeat (first | assumption | (with_reducible apply World.cell?_setCell_same) | (refine (World.cell?_setCell_other _ _ _ _ (by first | (simp; done) | (intro q; simp at q; done) | (intro q; simp at q; omega))).trans ?_)))))) rfl ?_
            exact ⟨rfl, ((hb'.setCell (p := ⟨w.heap.size, 0, none⟩) (Nat.le_refl _) _).setCell (p := ⟨w.heap.size, 1, none⟩) (Nat.le_refl _) _).drew⟩
        · rw [if_neg (by omega)] at HE
          have hms : (q.extract 0 m).size ≤ 1099511627776 := by simp; omega
          have k6 := Lib.hid (fun W hT => right_any ((s.size : Int) - x.size) (q.extract 0 m) W hms hT)
          have HE' := Lib.hid HE.out
          clear HE
          have hne2 : ((q.extract 0 m).toList == []) = false := by
            rw [Bool.eq_false_iff]
            intro r
            have := (bytes_beq_iff (q.extract 0 m) ⟨#[]⟩).1 (by simpa using r)
            rw [this] at hnm
            exact hnm rfl
          generalize q.extract 0 m = nm at *
          generalize q.extract (m + 1) q.size = rs at *
          generalize Sp.rightS ((s.size : Int) - x.size, nm) = v at k6 HE'
          unfold Sp.tyV at k6
          simp only [] at k6
          rw [hD] at k6 HE'
          go_wp2_with fail
          have hb4' := hb'.setCell (p := ⟨w.heap.size + 1, 1, none⟩) (by simp) (.string nm)
          refine (k6.out _ (T0.out.below hb4')).mono ?_
          rintro e w5 ⟨rfl, hb5⟩
          obtain ⟨db, gb⟩ := kept_cell hb5 ⟨b, 0, none⟩ (.string s) ⟨by (repeat (first | assumption | (with_reducible apply World.cell?_setCell_same) | (refine (World.cell?_setCell_other _ _ _ _ (by first | (simp; done) | (intro q; simp at q; done) | (intro q; simp at q; omega))).trans ?_))), by simpa using fb⟩
          obtain ⟨d0, g0⟩ := kept_cell hb5 ⟨w.heap.size, 0, none⟩ (.int .i64 0) ⟨by (repeat (first | assumption | (with_reducible apply World.cell?_setCell_same) | (refine (World.cell?_setCell_other _ _ _ _ (by first | (simp; done) | (intro q; simp at q; done) | (intro q; simp at q; omega))).trans ?_))), by simpa using f0⟩
          obtain ⟨d1, g1⟩ := kept_cell hb5 ⟨w.heap.size, 1, none⟩ (.string ⟨#[]⟩) ⟨by (repeat (first | assumption | (with_reducible apply World.cell?_setCell_same) | (refine (World.cell?_setCell_other _ _ _ _ (by first | (simp; done) | (intro q; simp at q; done) | (intro q; simp at q; omega))).trans ?_))), by simpa using f1⟩
          obtain ⟨d2, g2⟩ := kept_cell hb5 ⟨w.heap.size + 1, 0, none⟩ (.int .i64 ((s.size - x.size : Nat) : Int)) ⟨by (repeat (first | assumption | (with_reducible apply World.cell?_setCell_same) | (refine (World.cell?_setCell_other _ _ _ _ (by first | (simp; done) | (intro q; simp at q; done) | (intro q; simp at q; omega))).trans ?_))), by simpa using f2⟩
          obtain ⟨d3, g3⟩ := kept_cell hb5 ⟨w.heap.size + 1, 1, none⟩ (.string nm) ⟨by (repeat (first | assumption | (with_reducible apply World.cell?_setCell_same) | (refine (World.cell?_setCell_other _ _ _ _ (by first | (simp; done) | (intro q; simp at q; done) | (intro q; simp at q; omega))).trans ?_))), by simpa using f3⟩
          have hb' := below_then hb4' hb4'.size hb5
          clear hb4' hb5 hb4 cb fb c0 f0 c1 f1 c2 f2 c3 f3 S4
          cases v with
          | false =>
            have hR : R = none := by rw [HE'.out, if_neg (by simp)]
            subst hR
            clear HE'
            go_wp2
            go_region
            all_goals
              go_wp2
              (try simp only [Exit.inBlock, Exit.then]); refine bodyPost_ret (results_ctt rfl _ _ _ rfl (ty_load _ w.heap.size 0 (x := .int .i64 0) (y := .string ⟨#[]⟩) (by simp only [World.cell?_drew]; (repeat (first | assumption | (with_reducible apply World.cell?_setCell_same) | (refine (World.cell?_setCell_other _ _ _ _ (by first | (simp; done) | (intro q; simp at q; done) | (intro q; simp at q; omega))).trans ?_)))) (by simp only [World.cell?_drew]; (repeat (first | assumption | (with_reducible apply World.cell?_setCell_same) | (refine (World.cell?_setCell_other _ _ _ _ (by first | (simp; done) | (intro q; simp at q; done) | (intro q; simp at q; omega))).trans ?_)))))) rfl ?_
              exact ⟨rfl, ((hb'.setCell (p := ⟨w.heap.size, 0, none⟩) (Nat.le_refl _) _).setCell (p := ⟨w.heap.size, 1, none⟩) (Nat.le_refl _) _).drew⟩
          | true =>
            have hR : R = some ((((s.size - x.size : Nat) : Int), nm), rs) := by rw [HE'.out, if_pos rfl]
            subst hR
            clear HE'
            go_wp2
            (try simp only [Exit.inBlock, Exit.then]); refine bodyPost_ret (results_ctt rfl _ _ _ rfl (ty_load _ w.heap.size 0 (x := .int .i64 ((s.size - x.size : Nat) : Int)) (y := .string nm) (by (repeat (first | assumption | (with_reducible apply World.cell?_setCell_same) | (refine (World.cell?_setCell_other _ _ _ _ (by first | (simp; done) | (intro q; simp at q; done) | (intro q; simp at q; omega))).trans ?_)))) (by (repeat (first | assumption | (with_reducible apply World.cell?_setCell_same) | (refine (World.cell?_setCell_other _ _ _ _ (by first | (simp; done) | (intro q; simp at q; done) | (intro q; simp at q; omega))).trans ?_)))))) rfl ?_
            exact ⟨rfl, grown_new (grown_new (grown_set (grown_below hb') _) hlt _) hlt _, by (repeat (first | assumption | (with_reducible apply World.cell?_setCell_same) | (refine (World.cell?_setCell_other _ _ _ _ (by first | (simp; done) | (intro q; simp at q; done) | (intro q; simp at q; omega))).trans ?_))), by simpa using gb⟩
    · have p2' : Lib.hasPrefix x.data.toList [76] = false := by simpa using p2
      rw [p2']
      rw [if_neg p2] at HE
      have hR : R = none := HE.out
      subst hR
      clear HE
      go_wp2
      go_region
      all_goals
        go_wp2
        (try simp only [Exit.inBlock, Exit.then]); refine bodyPost_ret (results_ctt rfl _ _ _ rfl (ty_load _ w.heap.size 0 (x := .int .i64 0) (y := .string ⟨#[]⟩) (by simp) (by simp))) rfl ?_
        exact ⟨rfl, (((Below.refl _ _).alloc (Nat.le_refl _) _).alloc (by simp) _).drew⟩
end Go.Proofs.YthpfknlgfkecpaaDoor
