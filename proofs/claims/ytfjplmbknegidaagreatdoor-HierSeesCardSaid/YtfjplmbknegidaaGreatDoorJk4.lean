/-
  Texts of the proof, joined: each says at its head what it proves.
-/
import Derived.Test.YtfjplmbknegidaaGreatDoorJk3
import Derived.Deep.Heap
section
/-
  Walks of chapter 2's reader of types.
-/
set_option linter.unusedVariables false
set_option linter.unusedSimpArgs false
namespace Go.Proofs.YtfjplmbknegidaaGreatDoor
open Go.RowKit Go.Lib

namespace Sp
def trimB (s : ByteArray) : ByteArray := ⟨(Lib.trimLeftB s.data.toList 91).toArray⟩
def tailB (s : ByteArray) : ByteArray := s.extract 1 s.size
def ixC (s : ByteArray) : Int := Lib.indexByte s.data.toList 59
/-- The type that stands at a text's head, and what is left. -/
def readS (s : ByteArray) : Option (Ty × ByteArray) :=
  if Lib.hasPrefix (trimB s).data.toList [73] = true then
    if rightS ((s.size : Int) - (trimB s).size, ⟨#[]⟩) = true then some (((s.size : Int) - (trimB s).size, ⟨#[]⟩), tailB (trimB s)) else none
  else if Lib.hasPrefix (trimB s).data.toList [76] = true then
    if ixC (tailB (trimB s)) < 0 ∨ ((tailB (trimB s)).extract 0 (ixC (tailB (trimB s))).toNat).size = 0 then none
    else if rightS ((s.size : Int) - (trimB s).size, (tailB (trimB s)).extract 0 (ixC (tailB (trimB s))).toNat) = true then some (((s.size : Int) - (trimB s).size, (tailB (trimB s)).extract 0 (ixC (tailB (trimB s))).toNat), (tailB (trimB s)).extract ((ixC (tailB (trimB s))).toNat + 1) (tailB (trimB s)).size) else none
  else none
theorem trim_size (s : ByteArray) : (trimB s).size ≤ s.size := by
  have h : (Lib.trimLeftB s.data.toList 91).length ≤ s.data.toList.length := by
    unfold Lib.trimLeftB
    exact (List.dropWhile_sublist _).length_le
  rw [show (trimB s).size = (Lib.trimLeftB s.data.toList 91).length from B_size _, Lib.size_eq s]
  exact h
theorem pre_size (s : ByteArray) (c : UInt8) (h : Lib.hasPrefix s.data.toList [c] = true) : 0 < s.size := by
  rw [Lib.size_eq]
  unfold Lib.hasPrefix at h
  cases hs : s.data.toList with
  | nil => rw [hs] at h; simp at h
  | cons a l => simp
theorem ix_range : ∀ (l : List UInt8) (c : UInt8), -1 ≤ Lib.indexByte l c ∧ Lib.indexByte l c < l.length
  | [], c => by simp [Lib.indexByte]
  | a :: l, c => by
    have := ix_range l c
    simp only [Lib.indexByte, List.length_cons]
    repeat' split
    all_goals omega
theorem ixC_range (s : ByteArray) : -1 ≤ ixC s ∧ ixC s < s.size := by
  have := ix_range s.data.toList 59
  rw [Lib.size_eq]
  exact this
end Sp

theorem grown_below {w w' : World} {b : Nat} (h : Below w.heap.size w w') : w.grownBy w' (some b) := ⟨h.os, h.tape, h.output, h.size, fun k hk _ => h.block k hk⟩
theorem grown_set {w w' : World} {b o : Nat} (h : w.grownBy w' (some b)) (v : Value) : w.grownBy (w'.setCell ⟨b, o, none⟩ v) (some b) := by
  have k := (Below.refl 0 w').setCell (p := ⟨b, o, none⟩) (Nat.zero_le _) v
  refine ⟨k.os.trans h.os, k.tape.trans h.tape, k.output.trans h.output, Nat.le_trans h.size k.size, fun i hi hne => ?_⟩
  rw [← h.block i hi hne]
  exact Go.Deep.blk_setCell_other _ _ _ _ (fun q => hne (by rw [q]))

theorem grown_new {w w' : World} {b o : Nat} (h : w.grownBy w' (some b)) (hb : b < w.heap.size) (v : Value) : w.grownBy (w'.setCell ⟨w.heap.size, o, none⟩ v) (some b) := by
  have k := (Below.refl 0 w').setCell (p := ⟨w.heap.size, o, none⟩) (Nat.zero_le _) v
  refine ⟨k.os.trans h.os, k.tape.trans h.tape, k.output.trans h.output, Nat.le_trans h.size k.size, fun i hi hne => ?_⟩
  rw [← h.block i hi hne]
  exact Go.Deep.blk_setCell_other _ _ _ _ (fun q => by simp at q; omega)

set_option maxHeartbeats 8000000 in
set_option maxRecDepth 100000 in
theorem reads1_any (b : Nat) (s : ByteArray) (w : World) (hs : s.size ≤ 1099511627776) (hc : w.cell? ⟨b, 0, none⟩ = some (.string s)) (hf : w.frozen? ⟨b, 0, none⟩ = false) (hT : Tabs w) :
    Calls Tryz.prog 139 #[.pointer (some ⟨b, 0, none⟩)] w fun e w' => match Sp.readS s with
      | none => e = .returned (.tuple #[Sp.tyV Sp.t0, .string s, .bool false]) ∧ Below w.heap.size w w'
      | some q => e = .returned (.tuple #[Sp.tyV q.1, .string q.2, .bool true]) ∧ w.grownBy w' (some b) ∧ w'.cell? ⟨b, 0, none⟩ = some (.string q.2) ∧ w'.frozen? ⟨b, 0, none⟩ = false := by
  have T0 := Lib.hid hT
  clear hT
  have hlt : b < w.heap.size := World.block_lt_of_cell? w _ hc
  have hne : w.heap.size ≠ b := by omega
  have HE := Lib.hid (show Sp.readS s = _ by rw [Sp.readS])
  have hx := Sp.trim_size s
  have k1 := Lib.hid (fun W => Tryz.strings_TrimLeft_one s 91 (by decide) W)
  have k2 := Lib.hid (fun W => Tryz.strings_HasPrefix (Sp.trimB s) ⟨#[73]⟩ W)
  have k3 := Lib.hid (fun W => Tryz.strings_HasPrefix (Sp.trimB s) ⟨#[76]⟩ W)
  have e1 : (⟨(Lib.trimLeftB s.data.toList 91).toArray⟩ : ByteArray) = Sp.trimB s := rfl
  rw [e1] at k1
  have e2 : (⟨#[73]⟩ : ByteArray).data.toList = [73] := rfl
  have e3 : (⟨#[76]⟩ : ByteArray).data.toList = [76] := rfl
  rw [e2] at k2
  rw [e3] at k3
  clear e1 e2 e3
  have hp1 := Sp.pre_size (Sp.trimB s) 73
  have hp2 := Sp.pre_size (Sp.trimB s) 76
  generalize Sp.readS s = R at HE ⊢
  generalize Sp.trimB s = x at *
  have hD : ((s.size : Int) - x.size) = ((s.size - x.size : Nat) : Int) := by omega
  go_enter Tryz.func139, Tryz.ntmps139
  go_wp2_with fail
  refine (k1.out _).mono ?_
  rintro e w1 ⟨rfl, rfl⟩
  go_wp2_with fail
  refine (k2.out _).mono ?_
  rintro e w2 ⟨rfl, rfl⟩
  by_cases p1 : Lib.hasPrefix x.data.toList [73] = true
  · have hpos := hp1 p1
    rw [p1]
    rw [if_pos p1] at HE
    have k4 := Lib.hid (fun W hT => right_any ((s.size : Int) - x.size) ⟨#[]⟩ W (by decide) hT)
    have HE' := Lib.hid HE.out
    clear HE
    generalize Sp.rightS ((s.size : Int) - x.size, ⟨#[]⟩) = v at k4 HE'
    unfold Sp.tyV at k4
    simp only [] at k4
    rw [hD] at k4 HE'
    go_wp2_with fail
    refine (k4.out _ (T0.out.below (((Below.refl _ _).alloc (Nat.le_refl _) _).alloc (by simp) _))).mono ?_
    rintro e w3 ⟨rfl, hb3⟩
    obtain ⟨cb, fb⟩ := kept_cell hb3 ⟨b, 0, none⟩ (.string s) (kept_cell (((Below.refl w.heap.size w).alloc (Nat.le_refl _) _).alloc (by simp) _) _ _ ⟨hc, hf⟩)
    obtain ⟨c0, f0⟩ := kept_cell hb3 ⟨w.heap.size, 0, none⟩ (.int .i64 0) (by simp)
    obtain ⟨c1, f1⟩ := kept_cell hb3 ⟨w.heap.size, 1, none⟩ (.string ⟨#[]⟩) (by simp)
    obtain ⟨c2, f2⟩ := kept_cell hb3 ⟨w.heap.size + 1, 0, none⟩ (.int .i64 ((s.size - x.size : Nat) : Int)) (by simp)
    obtain ⟨c3, f3⟩ := kept_cell hb3 ⟨w.heap.size + 1, 1, none⟩ (.string ⟨#[]⟩) (by simp)
    have hb' := below_then (((Below.refl w.heap.size w).alloc (Nat.le_refl _) _).alloc (by simp) _) (by simp; omega) hb3
    cases v with
    | false =>
      have hR : R = none := by rw [HE'.out, if_neg (by simp)]
      subst hR
      clear HE'
      go_wp2
      go_region
      all_goals
        go_wp2
        (try simp only [Exit.inBlock, Exit.then]); refine bodyPost_ret (results_ctt rfl _ _ _ rfl (ty_load _ w.heap.size 0 (x := .int .i64 0) (y := .string ⟨#[]⟩) (by simp only [World.cell?_drew]; (repeat (first | with_reducible assumption | (with_reducible apply World.cell?_setCell_same) | (with_reducible refine cell_alloc _ _ ?_) | (refine (World.cell?_setCell_other _ _ _ _ (by first | (simp; done) | (intro q; simp at q; done) | (intro q; simp at q; omega))).trans ?_)))) (by simp only [World.cell?_drew]; (repeat (first | with_reducible assumption | (with_reducible apply World.cell?_setCell_same) | (with_reducible refine cell_alloc _ _ ?_) | (refine (World.cell?_setCell_other _ _ _ _ (by first | (simp; done) | (intro q; simp at q; done) | (intro q; simp at q; omega))).trans ?_)))))) rfl ?_
        exact ⟨rfl, ((hb'.setCell (p := ⟨w.heap.size, 0, none⟩) (Nat.le_refl _) _).setCell (p := ⟨w.heap.size, 1, none⟩) (Nat.le_refl _) _).drew⟩
    | true =>
      have hR : R = some ((((s.size - x.size : Nat) : Int), ⟨#[]⟩), x.extract 1 x.size) := by rw [HE'.out, if_pos rfl]; rfl
      subst hR
      clear HE'
      go_wp2
      (try simp only [Exit.inBlock, Exit.then]); refine bodyPost_ret (results_ctt rfl _ _ _ rfl (ty_load _ w.heap.size 0 (x := .int .i64 ((s.size - x.size : Nat) : Int)) (y := .string ⟨#[]⟩) (by (repeat (first | with_reducible assumption | (with_reducible apply World.cell?_setCell_same) | (with_reducible refine cell_alloc _ _ ?_) | (refine (World.cell?_setCell_other _ _ _ _ (by first | (simp; done) | (intro q; simp at q; done) | (intro q; simp at q; omega))).trans ?_)))) (by (repeat (first | with_reducible assumption | (with_reducible apply World.cell?_setCell_same) | (with_reducible refine cell_alloc _ _ ?_) | (refine (World.cell?_setCell_other _ _ _ _ (by first | (simp; done) | (intro q; simp at q; done) | (intro q; simp at q; omega))).trans ?_)))))) rfl ?_
      exact ⟨rfl, grown_new (grown_new (grown_set (grown_below hb') _) hlt _) hlt _, by (repeat (first | with_reducible assumption | (with_reducible apply World.cell?_setCell_same) | (with_reducible refine cell_alloc _ _ ?_) | (refine (World.cell?_setCell_other _ _ _ _ (by first | (simp; done) | (intro q; simp at q; done) | (intro q; simp at q; omega))).trans ?_))), by simp [fb]⟩
  · rw [if_neg p1] at HE
    have p1' : Lib.hasPrefix x.data.toList [73] = false := by simpa using p1
    rw [p1']
    go_wp2_with fail
    refine (k3.out _).mono ?_
    rintro e w3 ⟨rfl, rfl⟩
    by_cases p2 : Lib.hasPrefix x.data.toList [76] = true
    · have hpos := hp2 p2
      rw [p2]
      rw [if_pos p2] at HE
      have hix := Sp.ixC_range (Sp.tailB x)
      have htz : (Sp.tailB x).size = x.size - 1 := by simp [Sp.tailB]
      have k5 := Lib.hid (fun W => cut1_any (Sp.tailB x) 59 W (by omega) ⟨hix.2, hix.1⟩)
      have e5 : Lib.indexByte (Sp.tailB x).data.toList 59 = Sp.ixC (Sp.tailB x) := rfl
      rw [e5] at k5
      have e6 : x.extract 1 x.size = Sp.tailB x := rfl
      clear e5
      go_wp2_with fail
      clear e6
      generalize Sp.tailB x = q at *
      generalize Sp.ixC q = i at *
      by_cases hi : i < 0
      · rw [if_pos (.inl hi)] at HE
        rw [if_neg (by omega)] at k5
        refine (k5.out _).mono ?_
        rintro e w4 ⟨rfl, hb4⟩
        obtain ⟨cb, fb⟩ := kept_cell hb4 ⟨b, 0, none⟩ (.string s) (kept_cell (((Below.refl w.heap.size w).alloc (Nat.le_refl _) _).alloc (by simp) _) _ _ ⟨hc, hf⟩)
        obtain ⟨c0, f0⟩ := kept_cell hb4 ⟨w.heap.size, 0, none⟩ (.int .i64 0) (by simp)
        obtain ⟨c1, f1⟩ := kept_cell hb4 ⟨w.heap.size, 1, none⟩ (.string ⟨#[]⟩) (by simp)
        obtain ⟨c2, f2⟩ := kept_cell hb4 ⟨w.heap.size + 1, 0, none⟩ (.int .i64 ((s.size - x.size : Nat) : Int)) (by simp)
        obtain ⟨c3, f3⟩ := kept_cell hb4 ⟨w.heap.size + 1, 1, none⟩ (.string ⟨#[]⟩) (by simp)
        have hb' := below_then (((Below.refl w.heap.size w).alloc (Nat.le_refl _) _).alloc (by simp) _) (by simp; omega) hb4
        have S4 := hb'.size
        have hR : R = none := HE.out
        subst hR
        clear HE
        go_wp2
        go_region
        all_goals
          go_wp2
          (try simp only [Exit.inBlock, Exit.then]); refine bodyPost_ret (results_ctt rfl _ _ _ rfl (ty_load _ w.heap.size 0 (x := .int .i64 0) (y := .string ⟨#[]⟩) (by simp only [World.cell?_drew]; (repeat (first | with_reducible assumption | (with_reducible apply World.cell?_setCell_same) | (with_reducible refine cell_alloc _ _ ?_) | (refine (World.cell?_setCell_other _ _ _ _ (by first | (simp; done) | (intro q; simp at q; done) | (intro q; simp at q; omega))).trans ?_)))) (by simp only [World.cell?_drew]; (repeat (first | with_reducible assumption | (with_reducible apply World.cell?_setCell_same) | (with_reducible refine cell_alloc _ _ ?_) | (refine (World.cell?_setCell_other _ _ _ _ (by first | (simp; done) | (intro q; simp at q; done) | (intro q; simp at q; omega))).trans ?_)))))) rfl ?_
          exact ⟨rfl, ((hb'.setCell (p := ⟨w.heap.size, 0, none⟩) (Nat.le_refl _) _).setCell (p := ⟨w.heap.size, 1, none⟩) (Nat.le_refl _) _).drew⟩
      · rw [if_pos (by omega)] at k5
        obtain ⟨m, rfl⟩ : ∃ m : Nat, i = m := ⟨i.toNat, by omega⟩
        simp only [Int.toNat_natCast] at k5 HE
        refine (k5.out _).mono ?_
        rintro e w4 ⟨rfl, hb4⟩
        obtain ⟨cb, fb⟩ := kept_cell hb4 ⟨b, 0, none⟩ (.string s) (kept_cell (((Below.refl w.heap.size w).alloc (Nat.le_refl _) _).alloc (by simp) _) _ _ ⟨hc, hf⟩)
        obtain ⟨c0, f0⟩ := kept_cell hb4 ⟨w.heap.size, 0, none⟩ (.int .i64 0) (by simp)
        obtain ⟨c1, f1⟩ := kept_cell hb4 ⟨w.heap.size, 1, none⟩ (.string ⟨#[]⟩) (by simp)
        obtain ⟨c2, f2⟩ := kept_cell hb4 ⟨w.heap.size + 1, 0, none⟩ (.int .i64 ((s.size - x.size : Nat) : Int)) (by simp)
        obtain ⟨c3, f3⟩ := kept_cell hb4 ⟨w.heap.size + 1, 1, none⟩ (.string ⟨#[]⟩) (by simp)
        have hb' := below_then (((Below.refl w.heap.size w).alloc (Nat.le_refl _) _).alloc (by simp) _) (by simp; omega) hb4
        have S4 := hb'.size
        by_cases hnm : (q.extract 0 m).size = 0
        · rw [if_pos (.inr hnm)] at HE
          have hR : R = none := HE.out
          subst hR
          clear HE
          have hne0 := str_empty _ hnm
          rw [hne0]
          go_wp2
          go_region
          all_goals
            go_wp2
            (try simp only [Exit.inBlock, Exit.then]); refine bodyPost_ret (results_ctt rfl _ _ _ rfl (ty_load _ w.heap.size 0 (x := .int .i64 0) (y := .string ⟨#[]⟩) (by simp only [World.cell?_drew]; (repeat (first | with_reducible assumption | (with_reducible apply World.cell?_setCell_same) | (with_reducible refine cell_alloc _ _ ?_) | (refine (World.cell?_setCell_other _ _ _ _ (by first | (simp; done) | (intro q; simp at q; done) | (intro q; simp at q; omega))).trans ?_)))) (by simp only [World.cell?_drew]; (repeat (first | with_reducible assumption | (with_reducible apply World.cell?_setCell_same) | (with_reducible refine cell_alloc _ _ ?_) | (refine (World.cell?_setCell_other _ _ _ _ (by first | (simp; done) | (intro q; simp at q; done) | (intro q; simp at q; omega))).trans ?_)))))) rfl ?_
            exact ⟨rfl, ((hb'.setCell (p := ⟨w.heap.size, 0, none⟩) (Nat.le_refl _) _).setCell (p := ⟨w.heap.size, 1, none⟩) (Nat.le_refl _) _).drew⟩
        · rw [if_neg (by omega)] at HE
          have hms : (q.extract 0 m).size ≤ 1099511627776 := by simp; omega
          have k6 := Lib.hid (fun W hT => right_any ((s.size : Int) - x.size) (q.extract 0 m) W hms hT)
          have HE' := Lib.hid HE.out
          clear HE
          have hne2 : ((q.extract 0 m).toList == []) = false := by
            rw [Bool.eq_false_iff]
            intro r
            have := (bytes_beq_iff (q.extract 0 m) ⟨#[]⟩).1 (by simpa using r)
            rw [this] at hnm
            exact hnm rfl
          generalize q.extract 0 m = nm at *
          generalize q.extract (m + 1) q.size = rs at *
          generalize Sp.rightS ((s.size : Int) - x.size, nm) = v at k6 HE'
          unfold Sp.tyV at k6
          simp only [] at k6
          rw [hD] at k6 HE'
          go_wp2_with fail
          have hb4' := hb'.setCell (p := ⟨w.heap.size + 1, 1, none⟩) (by simp) (.string nm)
          refine (k6.out _ (T0.out.below hb4')).mono ?_
          rintro e w5 ⟨rfl, hb5⟩
          obtain ⟨db, gb⟩ := kept_cell hb5 ⟨b, 0, none⟩ (.string s) ⟨by (repeat (first | with_reducible assumption | (with_reducible apply World.cell?_setCell_same) | (with_reducible refine cell_alloc _ _ ?_) | (refine (World.cell?_setCell_other _ _ _ _ (by first | (simp; done) | (intro q; simp at q; done) | (intro q; simp at q; omega))).trans ?_))), by simpa using fb⟩
          obtain ⟨d0, g0⟩ := kept_cell hb5 ⟨w.heap.size, 0, none⟩ (.int .i64 0) ⟨by (repeat (first | with_reducible assumption | (with_reducible apply World.cell?_setCell_same) | (with_reducible refine cell_alloc _ _ ?_) | (refine (World.cell?_setCell_other _ _ _ _ (by first | (simp; done) | (intro q; simp at q; done) | (intro q; simp at q; omega))).trans ?_))), by simpa using f0⟩
          obtain ⟨d1, g1⟩ := kept_cell hb5 ⟨w.heap.size, 1, none⟩ (.string ⟨#[]⟩) ⟨by (repeat (first | with_reducible assumption | (with_reducible apply World.cell?_setCell_same) | (with_reducible refine cell_alloc _ _ ?_) | (refine (World.cell?_setCell_other _ _ _ _ (by first | (simp; done) | (intro q; simp at q; done) | (intro q; simp at q; omega))).trans ?_))), by simpa using f1⟩
          obtain ⟨d2, g2⟩ := kept_cell hb5 ⟨w.heap.size + 1, 0, none⟩ (.int .i64 ((s.size - x.size : Nat) : Int)) ⟨by (repeat (first | with_reducible assumption | (with_reducible apply World.cell?_setCell_same) | (with_reducible refine cell_alloc _ _ ?_) | (refine (World.cell?_setCell_other _ _ _ _ (by first | (simp; done) | (intro q; simp at q; done) | (intro q; simp at q; omega))).trans ?_))), by simpa using f2⟩
          obtain ⟨d3, g3⟩ := kept_cell hb5 ⟨w.heap.size + 1, 1, none⟩ (.string nm) ⟨by (repeat (first | with_reducible assumption | (with_reducible apply World.cell?_setCell_same) | (with_reducible refine cell_alloc _ _ ?_) | (refine (World.cell?_setCell_other _ _ _ _ (by first | (simp; done) | (intro q; simp at q; done) | (intro q; simp at q; omega))).trans ?_))), by simpa using f3⟩
          have hb' := below_then hb4' hb4'.size hb5
          clear hb4' hb5 hb4 cb fb c0 f0 c1 f1 c2 f2 c3 f3 S4
          cases v with
          | false =>
            have hR : R = none := by rw [HE'.out, if_neg (by simp)]
            subst hR
            clear HE'
            go_wp2
            go_region
            all_goals
              go_wp2
              (try simp only [Exit.inBlock, Exit.then]); refine bodyPost_ret (results_ctt rfl _ _ _ rfl (ty_load _ w.heap.size 0 (x := .int .i64 0) (y := .string ⟨#[]⟩) (by simp only [World.cell?_drew]; (repeat (first | with_reducible assumption | (with_reducible apply World.cell?_setCell_same) | (with_reducible refine cell_alloc _ _ ?_) | (refine (World.cell?_setCell_other _ _ _ _ (by first | (simp; done) | (intro q; simp at q; done) | (intro q; simp at q; omega))).trans ?_)))) (by simp only [World.cell?_drew]; (repeat (first | with_reducible assumption | (with_reducible apply World.cell?_setCell_same) | (with_reducible refine cell_alloc _ _ ?_) | (refine (World.cell?_setCell_other _ _ _ _ (by first | (simp; done) | (intro q; simp at q; done) | (intro q; simp at q; omega))).trans ?_)))))) rfl ?_
              exact ⟨rfl, ((hb'.setCell (p := ⟨w.heap.size, 0, none⟩) (Nat.le_refl _) _).setCell (p := ⟨w.heap.size, 1, none⟩) (Nat.le_refl _) _).drew⟩
          | true =>
            have hR : R = some ((((s.size - x.size : Nat) : Int), nm), rs) := by rw [HE'.out, if_pos rfl]
            subst hR
            clear HE'
            go_wp2
            (try simp only [Exit.inBlock, Exit.then]); refine bodyPost_ret (results_ctt rfl _ _ _ rfl (ty_load _ w.heap.size 0 (x := .int .i64 ((s.size - x.size : Nat) : Int)) (y := .string nm) (by (repeat (first | with_reducible assumption | (with_reducible apply World.cell?_setCell_same) | (with_reducible refine cell_alloc _ _ ?_) | (refine (World.cell?_setCell_other _ _ _ _ (by first | (simp; done) | (intro q; simp at q; done) | (intro q; simp at q; omega))).trans ?_)))) (by (repeat (first | with_reducible assumption | (with_reducible apply World.cell?_setCell_same) | (with_reducible refine cell_alloc _ _ ?_) | (refine (World.cell?_setCell_other _ _ _ _ (by first | (simp; done) | (intro q; simp at q; done) | (intro q; simp at q; omega))).trans ?_)))))) rfl ?_
            exact ⟨rfl, grown_new (grown_new (grown_set (grown_below hb') _) hlt _) hlt _, by (repeat (first | with_reducible assumption | (with_reducible apply World.cell?_setCell_same) | (with_reducible refine cell_alloc _ _ ?_) | (refine (World.cell?_setCell_other _ _ _ _ (by first | (simp; done) | (intro q; simp at q; done) | (intro q; simp at q; omega))).trans ?_))), by simpa using gb⟩
    · have p2' : Lib.hasPrefix x.data.toList [76] = false := by simpa using p2
      rw [p2']
      rw [if_neg p2] at HE
      have hR : R = none := HE.out
      subst hR
      clear HE
      go_wp2
      go_region
      all_goals
        go_wp2
        (try simp only [Exit.inBlock, Exit.then]); refine bodyPost_ret (results_ctt rfl _ _ _ rfl (ty_load _ w.heap.size 0 (x := .int .i64 0) (y := .string ⟨#[]⟩) (by simp) (by simp))) rfl ?_
        exact ⟨rfl, (((Below.refl _ _).alloc (Nat.le_refl _) _).alloc (by simp) _).drew⟩
end Go.Proofs.YtfjplmbknegidaaGreatDoor
end
section
/-
  Walks of chapter 2's Field.
-/
set_option linter.unusedVariables false
set_option linter.unusedSimpArgs false
namespace Go.Proofs.YtfjplmbknegidaaGreatDoor
open Go.RowKit Go.Lib

namespace Sp
def fieldS (s : ByteArray) : Ty × Int := match readS s with
  | none => (t0, 9)
  | some q => if q.2.size = 0 then (q.1, 0) else (t0, 9)
end Sp

theorem cell_alloc (w : World) (o : Obj) {a : Addr} {v : Value} (h : w.cell? a = some v) : (w.alloc o).cell? a = some v := cell_below ((Below.refl _ _).alloc (Nat.le_refl _) _) h

theorem reads_any (s : ByteArray) (w : World) :
    Calls Tryz.prog 137 #[.string s] w fun e w' => e = .returned (.func (Fn.func 139) #[] #[.pointer (some ⟨w.heap.size, 0, none⟩)]) ∧ w' = w.alloc (.cells #[.string s] 9) := by
  go_enter Tryz.func137, Tryz.ntmps137
  go_wp2
  go_ret
  exact ⟨rfl, rfl⟩

set_option maxHeartbeats 8000000 in
set_option maxRecDepth 100000 in
theorem field_any (s : ByteArray) (w : World) (hs : s.size ≤ 1099511627776) (hT : Tabs w) :
    Calls Tryz.prog 135 #[.string s] w fun e w' => e = .returned (.tuple #[Sp.tyV (Sp.fieldS s).1, .int .i64 (Sp.fieldS s).2]) ∧ Below w.heap.size w w' := by
  have T0 := Lib.hid hT
  clear hT
  have HE := Lib.hid (show Sp.fieldS s = _ by rw [Sp.fieldS])
  have k1 := Lib.hid (fun b W hc hf hT => reads1_any b s W hs hc hf hT)
  generalize Sp.fieldS s = R at HE ⊢
  generalize Sp.readS s = q at HE k1
  go_enter Tryz.func135, Tryz.ntmps135
  go_wp2_with fail
  refine (reads_any _ _).mono ?_
  rintro e w1 ⟨rfl, rfl⟩
  go_wp2_with fail
  have hB0 := ((Below.refl w.heap.size w).alloc (Nat.le_refl _) (.cells #[.int .i64 0, .string ⟨#[]⟩] 25)).alloc (by simp) (.cells #[.string s] 9)
  have k2 := k1.out (w.heap.size + 1) _ (by simp) (by simp) (T0.out.below hB0)
  clear k1
  cases q with
  | none =>
    have hR : R = (Sp.t0, 9) := HE.out
    subst hR
    clear HE
    refine k2.mono ?_
    rintro e w1 ⟨rfl, hb⟩
    obtain ⟨c0, f0⟩ := kept_cell hb ⟨w.heap.size, 0, none⟩ (.int .i64 0) (by simp)
    obtain ⟨c1, f1⟩ := kept_cell hb ⟨w.heap.size, 1, none⟩ (.string ⟨#[]⟩) (by simp)
    have hb' := below_then hB0 hB0.size hb
    have hlt : w.heap.size < w1.heap.size := by have := hb.size; simp at this; omega
    unfold Sp.tyV
    go_wp2
    (try simp only [Exit.inBlock, Exit.then]); refine bodyPost_ret (results_ct rfl _ _ _ rfl (ty_load _ w.heap.size 0 (x := .int .i64 0) (y := .string ⟨#[]⟩) (cell_alloc _ _ (by (repeat (first | with_reducible assumption | (with_reducible apply World.cell?_setCell_same) | (with_reducible refine cell_alloc _ _ ?_) | (refine (World.cell?_setCell_other _ _ _ _ (by first | (simp; done) | (intro q; simp at q; done) | (intro q; simp at q; omega))).trans ?_))))) (cell_alloc _ _ (by (repeat (first | with_reducible assumption | (with_reducible apply World.cell?_setCell_same) | (with_reducible refine cell_alloc _ _ ?_) | (refine (World.cell?_setCell_other _ _ _ _ (by first | (simp; done) | (intro q; simp at q; done) | (intro q; simp at q; omega))).trans ?_))))))) rfl ?_
    exact ⟨rfl, ((hb'.setCell (p := ⟨w.heap.size, 0, none⟩) (Nat.le_refl _) _).setCell (p := ⟨w.heap.size, 1, none⟩) (Nat.le_refl _) _).alloc (by simp; omega) _⟩
  | some q =>
    obtain ⟨⟨qd, qn⟩, qr⟩ := q
    refine k2.mono ?_
    rintro e w1 ⟨rfl, hg, hcb, hfb⟩
    have hlt : w.heap.size < w1.heap.size := by have := hg.size; simp at this; omega
    have hold : w1.heap[w.heap.size]? = ((w.alloc (.cells #[.int .i64 0, .string ⟨#[]⟩] 25)).alloc (.cells #[.string s] 9)).heap[w.heap.size]? := hg.block _ (by simp; omega) (by simp)
    have c0 : w1.cell? ⟨w.heap.size, 0, none⟩ = some (.int .i64 0) := (World.cell?_of_block (a := ⟨w.heap.size, 0, none⟩) hold).trans (by simp)
    have c1 : w1.cell? ⟨w.heap.size, 1, none⟩ = some (.string ⟨#[]⟩) := (World.cell?_of_block (a := ⟨w.heap.size, 1, none⟩) hold).trans (by simp)
    have f0 : w1.frozen? ⟨w.heap.size, 0, none⟩ = false := (World.frozen?_of_block (a := ⟨w.heap.size, 0, none⟩) hold).trans (by simp)
    have f1 : w1.frozen? ⟨w.heap.size, 1, none⟩ = false := (World.frozen?_of_block (a := ⟨w.heap.size, 1, none⟩) hold).trans (by simp)
    have hb' : Below w.heap.size w w1 := hB0.grown hg hB0.size (fun k hk => by simp at hk; omega)
    by_cases hz : qr.size = 0
    · have hR : R = ((qd, qn), 0) := by rw [HE.out]; simp [hz]
      obtain rfl := str_empty qr hz
      subst hR
      clear HE
      unfold Sp.tyV
      go_wp2
      (try simp only [Exit.inBlock, Exit.then]); refine bodyPost_ret (results_ct rfl _ _ _ rfl (ty_load _ w.heap.size 0 (x := .int .i64 qd) (y := .string qn) (cell_alloc _ _ (by (repeat (first | with_reducible assumption | (with_reducible apply World.cell?_setCell_same) | (with_reducible refine cell_alloc _ _ ?_) | (refine (World.cell?_setCell_other _ _ _ _ (by first | (simp; done) | (intro q; simp at q; done) | (intro q; simp at q; omega))).trans ?_))))) (cell_alloc _ _ (by (repeat (first | with_reducible assumption | (with_reducible apply World.cell?_setCell_same) | (with_reducible refine cell_alloc _ _ ?_) | (refine (World.cell?_setCell_other _ _ _ _ (by first | (simp; done) | (intro q; simp at q; done) | (intro q; simp at q; omega))).trans ?_))))))) rfl ?_
      exact ⟨rfl, ((hb'.setCell (p := ⟨w.heap.size, 0, none⟩) (Nat.le_refl _) _).setCell (p := ⟨w.heap.size, 1, none⟩) (Nat.le_refl _) _).alloc (by simp; omega) _⟩
    · have hR : R = (Sp.t0, 9) := by rw [HE.out]; simp [hz]
      have hne2 : (qr.toList == []) = false := by
        rw [Bool.eq_false_iff]
        intro r
        have := (bytes_beq_iff qr ⟨#[]⟩).1 (by simpa using r)
        rw [this] at hz
        exact hz rfl
      subst hR
      clear HE
      unfold Sp.tyV
      go_wp2
      (try simp only [Exit.inBlock, Exit.then]); refine bodyPost_ret (results_ct rfl _ _ _ rfl (ty_load _ w.heap.size 0 (x := .int .i64 0) (y := .string ⟨#[]⟩) (cell_alloc _ _ (by (repeat (first | with_reducible assumption | (with_reducible apply World.cell?_setCell_same) | (with_reducible refine cell_alloc _ _ ?_) | (refine (World.cell?_setCell_other _ _ _ _ (by first | (simp; done) | (intro q; simp at q; done) | (intro q; simp at q; omega))).trans ?_))))) (cell_alloc _ _ (by (repeat (first | with_reducible assumption | (with_reducible apply World.cell?_setCell_same) | (with_reducible refine cell_alloc _ _ ?_) | (refine (World.cell?_setCell_other _ _ _ _ (by first | (simp; done) | (intro q; simp at q; done) | (intro q; simp at q; omega))).trans ?_))))))) rfl ?_
      exact ⟨rfl, ((hb'.setCell (p := ⟨w.heap.size, 0, none⟩) (Nat.le_refl _) _).setCell (p := ⟨w.heap.size, 1, none⟩) (Nat.le_refl _) _).alloc (by simp; omega) _⟩
end Go.Proofs.YtfjplmbknegidaaGreatDoor
end
section
/-
  Plain: a type's text, byte by byte.
-/
set_option linter.unusedVariables false
set_option linter.unusedSimpArgs false
namespace Go.Proofs.YtfjplmbknegidaaGreatDoor.Sp
open Go.RowKit Go.Lib

/-- How many brackets stand ahead. -/
def cnt (s : ByteArray) : Nat := s.size - (trimB s).size

theorem bt_list (s : ByteArray) (j : Nat) : bt s j = match s.data.toList[j]? with | some c => (c.toNat : Int) | none => 0 := by
  unfold bt
  by_cases h : j < s.size
  · have h2 : j < s.data.toList.length := by rw [← Lib.size_eq]; exact h
    rw [dif_pos h, List.getElem?_eq_getElem h2]
    rfl
  · have h2 : ¬ j < s.data.toList.length := by rw [← Lib.size_eq]; exact h
    rw [dif_neg h, List.getElem?_eq_none (by omega)]

theorem drop_split (c : UInt8) : ∀ l : List UInt8, ∃ k r, l = List.replicate k c ++ r ∧ l.dropWhile (· == c) = r ∧ ∀ x, r.head? = some x → x ≠ c
  | [] => ⟨0, [], rfl, rfl, by simp⟩
  | a :: l => by
    by_cases h : a = c
    · subst h
      obtain ⟨k, r, h1, h2, h3⟩ := drop_split a l
      refine ⟨k + 1, r, ?_, ?_, h3⟩
      · rw [List.replicate_succ, List.cons_append, ← h1]
      · rw [List.dropWhile_cons, if_pos (by simp), h2]
    · refine ⟨0, a :: l, rfl, ?_, ?_⟩
      · rw [List.dropWhile_cons, if_neg (by simpa using h)]
      · intro x hx
        simp at hx
        subst hx
        exact h

theorem trim_split (s : ByteArray) : s.data.toList = List.replicate (cnt s) 91 ++ (trimB s).data.toList ∧ (∀ x, (trimB s).data.toList.head? = some x → x ≠ 91) ∧ cnt s ≤ s.size := by
  obtain ⟨k, r, h1, h2, h3⟩ := drop_split 91 s.data.toList
  have e : (trimB s).data.toList = r := by
    rw [← h2]
    simp [trimB, Lib.trimLeftB]
  have hc : cnt s = k := by
    unfold cnt
    rw [Lib.size_eq, Lib.size_eq, e, h1]
    simp
  refine ⟨by rw [hc, e]; exact h1, by rw [e]; exact h3, ?_⟩
  unfold cnt
  omega

theorem cnt_bt (s : ByteArray) (j : Nat) (h : j < cnt s) : bt s j = 91 := by
  rw [bt_list, (trim_split s).1, List.getElem?_append_left (by simpa using h)]
  simp [h]

theorem trim_get (s : ByteArray) (j : Nat) : bt s (cnt s + j) = bt (trimB s) j := by
  rw [bt_list, bt_list, (trim_split s).1, List.getElem?_append_right (by simp)]
  simp

theorem pre_bt (s : ByteArray) (c : UInt8) (hc : c ≠ 0) : (Lib.hasPrefix s.data.toList [c] = true) ↔ bt s 0 = c.toNat := by
  rw [bt_list]
  unfold Lib.hasPrefix
  cases h : s.data.toList with
  | nil =>
    have : ¬ (0 : Int) = (c.toNat : Int) := by
      intro q
      apply hc
      have : c.toNat = 0 := by omega
      exact UInt8.toNat_inj.1 this
    simpa using this
  | cons a l =>
    simp
    constructor
    · intro q; rw [q]
    · intro q
      have : c.toNat = a.toNat := by omega
      exact UInt8.toNat_inj.1 this

theorem trim_head (s : ByteArray) (h : cnt s < s.size) : bt s (cnt s) ≠ 91 := by
  have h1 := trim_get s 0
  rw [Nat.add_zero] at h1
  rw [h1, bt_list]
  have h2 := (trim_split s).2.1
  cases hl : (trimB s).data.toList with
  | nil =>
    simp
  | cons a l =>
    rw [hl] at h2
    have := h2 a rfl
    simp
    intro q
    apply this
    have : a.toNat = (91 : UInt8).toNat := by
      show a.toNat = 91
      omega
    exact UInt8.toNat_inj.1 this

theorem ix_spec : ∀ (l : List UInt8) (c : UInt8), (Lib.indexByte l c = -1 ∧ ∀ (j : Nat) x, l[j]? = some x → x ≠ c) ∨ ∃ k : Nat, Lib.indexByte l c = k ∧ l[k]? = some c ∧ ∀ (j : Nat) x, j < k → l[j]? = some x → x ≠ c
  | [], c => .inl ⟨rfl, by simp⟩
  | a :: l, c => by
    by_cases h : a = c
    · refine .inr ⟨0, ?_, by simp [h], by simp⟩
      simp [Lib.indexByte, h]
    · have hb : (a == c) = false := by simpa using h
      rcases ix_spec l c with ⟨h1, h2⟩ | ⟨k, h1, h2, h3⟩
      · refine .inl ⟨by simp [Lib.indexByte, hb, h1], ?_⟩
        intro j x hj
        cases j with
        | zero => simp at hj; subst hj; exact h
        | succ j => exact h2 j x (by simpa using hj)
      · refine .inr ⟨k + 1, ?_, by simpa using h2, ?_⟩
        · simp only [Lib.indexByte, hb, h1]
          have : ((k : Int) == -1) = false := by rw [beq_eq_false_iff_ne]; omega
          rw [this]
          simp
        · intro j x hj hx
          cases j with
          | zero => simp at hx; subst hx; exact h
          | succ j => exact h3 j x (by omega) (by simpa using hx)

theorem bt_ne (s : ByteArray) (j : Nat) (h : j < s.size) (c : UInt8) (hx : ∀ x, s.data.toList[j]? = some x → x ≠ c) : bt s j ≠ c.toNat := by
  have h2 : j < s.data.toList.length := by rw [← Lib.size_eq]; exact h
  rw [bt_list, List.getElem?_eq_getElem h2]
  simp only []
  intro q
  apply hx _ (List.getElem?_eq_getElem h2)
  apply UInt8.toNat_inj.1
  omega

/-- Where the semicolon stands. -/
theorem ixC_spec (s : ByteArray) : (ixC s = -1 ∧ ∀ j, j < s.size → bt s j ≠ 59) ∨ ∃ k : Nat, ixC s = k ∧ k < s.size ∧ bt s k = 59 ∧ ∀ j, j < k → bt s j ≠ 59 := by
  rcases ix_spec s.data.toList 59 with ⟨h1, h2⟩ | ⟨k, h1, h2, h3⟩
  · exact .inl ⟨h1, fun j hj => bt_ne s j hj 59 (fun x hx => h2 j x hx)⟩
  · have hk : k < s.size := by
      have := (ixC_range s).2
      have e : ixC s = k := h1
      omega
    refine .inr ⟨k, h1, hk, ?_, fun j hj => bt_ne s j (by omega) 59 (fun x hx => h3 j x hj hx)⟩
    rw [bt_list, h2]
    rfl

theorem tail_get (s : ByteArray) (j : Nat) (h : cnt s < s.size) : bt (tailB (trimB s)) j = bt s (cnt s + 1 + j) ∧ (tailB (trimB s)).size = s.size - cnt s - 1 := by
  have hs : (tailB (trimB s)).size = (trimB s).size - 1 := by simp [tailB]
  have h2 := trim_size s
  have h3 : (trimB s).size = s.size - cnt s := by unfold cnt at *; omega
  refine ⟨?_, by omega⟩
  rw [bt_nb, tailB, nb_extract, ← bt_nb, ← trim_get, Nat.add_assoc]

theorem trim_zero (s : ByteArray) : bt s (cnt s) = bt (trimB s) 0 := by
  have := trim_get s 0
  rwa [Nat.add_zero] at this
theorem dims_eq (s : ByteArray) : ((s.size : Int) - (trimB s).size) = (cnt s : Int) := by
  have := trim_size s
  unfold cnt
  omega
theorem bt_end (s : ByteArray) (j : Nat) (h : ¬ j < s.size) : bt s j = 0 := by rw [bt, dif_neg h]
theorem readS_I (s : ByteArray) (h : bt s (cnt s) = 73) : readS s = if rightS ((cnt s : Int), ⟨#[]⟩) = true then some (((cnt s : Int), ⟨#[]⟩), tailB (trimB s)) else none := by
  rw [readS, if_pos ((pre_bt _ 73 (by decide)).2 (by rw [← trim_zero, h]; rfl)), dims_eq]
theorem readS_none (s : ByteArray) (h1 : bt s (cnt s) ≠ 73) (h2 : bt s (cnt s) ≠ 76) : readS s = none := by
  rw [readS, if_neg, if_neg]
  · intro q
    exact h2 (by rw [trim_zero]; exact (pre_bt _ 76 (by decide)).1 q)
  · intro q
    exact h1 (by rw [trim_zero]; exact (pre_bt _ 73 (by decide)).1 q)
theorem readS_L (s : ByteArray) (h : bt s (cnt s) = 76) : readS s =
    if ixC (tailB (trimB s)) < 0 ∨ ((tailB (trimB s)).extract 0 (ixC (tailB (trimB s))).toNat).size = 0 then none
    else if rightS ((cnt s : Int), (tailB (trimB s)).extract 0 (ixC (tailB (trimB s))).toNat) = true then some (((cnt s : Int), (tailB (trimB s)).extract 0 (ixC (tailB (trimB s))).toNat), (tailB (trimB s)).extract ((ixC (tailB (trimB s))).toNat + 1) (tailB (trimB s)).size) else none := by
  have h1 : ¬ Lib.hasPrefix (trimB s).data.toList [73] = true := by
    intro q
    have := (pre_bt _ 73 (by decide)).1 q
    rw [← trim_zero, h] at this
    revert this
    decide
  rw [readS, if_neg h1, if_pos ((pre_bt _ 76 (by decide)).2 (by rw [← trim_zero, h]; rfl)), dims_eq]
theorem readS_deep (s : ByteArray) (h : 4 < cnt s) : readS s = none := by
  have hr : ∀ n, rightS ((cnt s : Int), n) = false := by
    intro n
    have : ¬ (cnt s : Int) ≤ 4 := by omega
    simp [rightS, this]
  by_cases h1 : bt s (cnt s) = 73
  · rw [readS_I s h1, if_neg (by rw [hr]; simp)]
  · by_cases h2 : bt s (cnt s) = 76
    · rw [readS_L s h2]
      split
      · rfl
      · rw [if_neg (by rw [hr]; simp)]
    · exact readS_none s h1 h2

theorem ext_list (a b : ByteArray) (h : a.data.toList = b.data.toList) : a = b := by
  apply ByteArray.ext
  exact Array.ext' h
theorem trim_extract (s : ByteArray) : trimB s = s.extract (cnt s) s.size := by
  apply ext_list
  have h := (trim_split s).1
  rw [Lib.extract_to_end]
  rw [h]
  simp
theorem tail_extract (s : ByteArray) : tailB (trimB s) = s.extract (cnt s + 1) s.size := by
  apply ext_list
  rw [tailB, Lib.extract_to_end, trim_extract, Lib.extract_to_end, Lib.extract_to_end]
  simp [List.drop_drop]
theorem cut_extract (s : ByteArray) (a k : Nat) : (s.extract a s.size).extract 0 k = s.extract a (a + k) := by
  apply ext_list
  rw [Lib.extract_data, Lib.extract_to_end, Lib.extract_data, List.drop_zero, Nat.sub_zero, Nat.add_sub_cancel_left]

theorem drop_extract (s : ByteArray) (a k : Nat) : (s.extract a s.size).extract k (s.extract a s.size).size = s.extract (a + k) s.size := by
  apply ext_list
  rw [Lib.extract_to_end, Lib.extract_to_end, Lib.extract_to_end, List.drop_drop]

/-- A class type's text. -/
theorem readS_class (s : ByteArray) (h : bt s (cnt s) = 76) (hc : cnt s < s.size) (h4 : cnt s ≤ 4) :
    ∃ E, cnt s + 1 ≤ E ∧ E ≤ s.size ∧ (∀ j, cnt s + 1 ≤ j → j < E → bt s j ≠ 59) ∧ (E < s.size → bt s E = 59) ∧
      readS s = if E = s.size ∨ nameS (s.extract (cnt s + 1) E) = false then none else some (((cnt s : Int), s.extract (cnt s + 1) E), s.extract (E + 1) s.size) := by
  have hz := (tail_get s 0 hc).2
  have hr : ∀ n : ByteArray, n.size ≠ 0 → rightS ((cnt s : Int), n) = nameS n := by
    intro n hn
    have q0 : (0 : Int) ≤ (cnt s : Int) := by omega
    have q4 : (cnt s : Int) ≤ 4 := by omega
    simp only [rightS, decide_eq_true q0, decide_eq_true q4, Bool.true_and, decide_eq_false hn, Bool.false_or]
  have hn0 : ∀ n : ByteArray, n.size = 0 → nameS n = false := by
    intro n hn
    have : n = ⟨#[]⟩ := str_empty n hn
    subst this
    decide +kernel
  have hL := readS_L s h
  rcases ixC_spec (tailB (trimB s)) with ⟨h1, h2⟩ | ⟨k, h1, h2, h3, h5⟩
  · refine ⟨s.size, by omega, Nat.le_refl _, ?_, fun q => absurd q (Nat.lt_irrefl _), ?_⟩
    · intro j hj1 hj2
      have := h2 (j - (cnt s + 1)) (by omega)
      rw [(tail_get s _ hc).1] at this
      rwa [show cnt s + 1 + (j - (cnt s + 1)) = j by omega] at this
    · rw [hL, h1, if_pos (.inl (by decide)), if_pos (.inl rfl)]
  · have e1 : (tailB (trimB s)).extract 0 k = s.extract (cnt s + 1) (cnt s + 1 + k) := by rw [tail_extract, cut_extract]
    have e2 : (tailB (trimB s)).extract (k + 1) (tailB (trimB s)).size = s.extract (cnt s + 1 + k + 1) s.size := by rw [tail_extract, drop_extract, show cnt s + 1 + (k + 1) = cnt s + 1 + k + 1 by omega]
    refine ⟨cnt s + 1 + k, by omega, by omega, ?_, ?_, ?_⟩
    · intro j hj1 hj2
      have := h5 (j - (cnt s + 1)) (by omega)
      rw [(tail_get s _ hc).1] at this
      rwa [show cnt s + 1 + (j - (cnt s + 1)) = j by omega] at this
    · intro _
      rw [(tail_get s _ hc).1] at h3
      exact h3
    · rw [hL, h1]
      simp only [Int.toNat_natCast]
      rw [e1, e2]
      by_cases hz0 : (s.extract (cnt s + 1) (cnt s + 1 + k)).size = 0
      · rw [if_pos (.inr hz0), if_pos (.inr (hn0 _ hz0))]
      · rw [if_neg (by omega), hr _ hz0]
        cases nameS (s.extract (cnt s + 1) (cnt s + 1 + k)) with
        | false => rw [if_neg (by simp), if_pos (.inr rfl)]
        | true => rw [if_pos rfl, if_neg (by simp; omega)]
end Go.Proofs.YtfjplmbknegidaaGreatDoor.Sp
end
