/-
  Texts of the proof, joined: each says at its head what it proves.
-/
import Derived.Test.YthpfknlgfkecpaaDoorJg3
section
/-
  Walk of chapter 3's reader: list.
-/
set_option linter.unusedVariables false
set_option linter.unusedSimpArgs false
namespace Go.Proofs.YthpfknlgfkecpaaDoor
open Go.RowKit Go.Lib

namespace Sp
/-- So many numbers of two bytes, one behind the other. -/
def listR : Nat → ByteArray → Int → List Int × ByteArray × Int
  | 0, s, e => ([], s, e)
  | k + 1, s, e => ((numR s e 2).1 :: (listR k (numR s e 2).2.1 (numR s e 2).2.2).1, (listR k (numR s e 2).2.1 (numR s e 2).2.2).2)
/-- Numbers put into cells. -/
def putC : Array Value → List Nat → List Int → Array Value
  | C, o :: os, v :: vs => putC (C.setIfInBounds o (.int .i64 v)) os vs
  | C, _, _ => C
theorem take_len (s : ByteArray) (e : Int) (n : Nat) : (takeR s e n).2.1.size ≤ s.size := by
  unfold takeR
  split
  · split
    · exact Nat.le_refl _
    · simp only [ByteArray.size_extract]; omega
  · exact Nat.le_refl _
theorem num_len (s : ByteArray) (e : Int) (n : Nat) : (numR s e n).2.1.size ≤ s.size := take_len s e n
end Sp
/-- Pointers to cells of a block. -/
def ptrC (cb : Nat) (offs : List Nat) : Array Value := (offs.map fun o => Value.pointer (some ⟨cb, o, none⟩)).toArray

set_option maxHeartbeats 4000000 in
set_option maxRecDepth 100000 in
theorem list_any (rb cb tb : Nat) (s : ByteArray) (e : Int) (offs : List Nat) (C : Array Value) (T T2 : TypeId) (n c : Nat) (w : World) (h : Rd w rb s e) (hC : w.heap[cb]? = some (.cells C T (0, 0))) (hT : w.heap[tb]? = some (.cells (ptrC cb offs) T2 (0, 0)))
    (h1 : rb ≠ cb) (h2 : tb ≠ rb) (h3 : tb ≠ cb) (ho : ∀ o ∈ offs, o < C.size) (hn : n = offs.length) (hn4 : n ≤ 4) (hs : s.size ≤ 1099511627776) :
    Calls Tryd.prog 70 #[.pointer (some ⟨rb, 0, none⟩), .slice (some ⟨tb, 0, none⟩) n c] w fun x w' => x = .returned (.tuple #[]) ∧ Rd w' rb (Sp.listR n s e).2.1 (Sp.listR n s e).2.2 ∧ w'.heap[cb]? = some (.cells (Sp.putC C offs (Sp.listR n s e).1) T (0, 0)) ∧ Keeps (fun i => i = rb ∨ i = cb) w w' := by
  have HR := Lib.hid h
  have HC := Lib.hid hC
  have HT := Lib.hid hT
  clear h hC hT
  subst hn
  generalize hF : Sp.listR offs.length s e = F
  have HF := Lib.hid (show Sp.listR (offs.length - 0) s e = F from hF)
  have HP := Lib.hid (show Sp.putC C (offs.drop 0) (Sp.listR (offs.length - 0) s e).1 = Sp.putC C offs F.1 by rw [HF.out]; rfl)
  have HO := Lib.hid ho
  clear hF ho
  go_enter Tryd.func70, Tryd.ntmps70
  go_wp2
  go_loopw [8] (fun v8 wr => ∃ (k : Nat) (s1 : ByteArray) (e1 : Int) (C1 : Array Value), v8 = .int .i64 k ∧ k ≤ offs.length ∧ s1.size ≤ 1099511627776 ∧ C1.size = C.size ∧ Hid (Rd wr rb s1 e1) ∧ Hid (wr.heap[cb]? = some (.cells C1 T (0, 0))) ∧ Hid (wr.heap[tb]? = some (.cells (ptrC cb offs) T2 (0, 0))) ∧ Hid (Keeps (fun i => i = rb ∨ i = cb) w wr) ∧ Hid ((Sp.listR (offs.length - k) s1 e1).2 = F.2) ∧ Hid (Sp.putC C1 (offs.drop k) (Sp.listR (offs.length - k) s1 e1).1 = Sp.putC C offs F.1)) (fun v8 _ => offs.length - (RowKit.intOf v8).toNat)
  case atStart => exact ⟨0, s, e, C, by go_num, Nat.zero_le _, hs, rfl, HR, HC, HT, Lib.hid (Keeps.refl _ _), Lib.hid (by rw [HF.out]), HP⟩
  case round =>
    clear HR HC HT HF HP
    obtain ⟨k, s1, e1, C1, rfl, hk, hs1, hcs, hR, hC, hT, hK, hf, hp⟩ := hrel
    by_cases hlt : k < offs.length
    · have hzk : (k : Int) < (offs.length : Int) := by omega
      have hko : offs[k] < C1.size := by rw [hcs]; exact HO.out _ (List.getElem_mem hlt)
      have c0 := (blk_cell hT.out k (.pointer (some ⟨cb, offs[k], none⟩)) (by unfold ptrC; simp [hlt])).1
      have hlb := blk_lt hT.out
      have kn := Lib.hid (number_any rb s1 e1 2 wr hR.out hs1 (by decide))
      have hlr : Sp.listR (offs.length - k) s1 e1 = ((Sp.numR s1 e1 2).1 :: (Sp.listR (offs.length - (k + 1)) (Sp.numR s1 e1 2).2.1 (Sp.numR s1 e1 2).2.2).1, (Sp.listR (offs.length - (k + 1)) (Sp.numR s1 e1 2).2.1 (Sp.numR s1 e1 2).2.2).2) := by
        rw [show offs.length - k = (offs.length - (k + 1)) + 1 by omega, Sp.listR]
      have hsz := Sp.num_len s1 e1 2
      have hdr : offs.drop k = offs[k] :: offs.drop (k + 1) := List.drop_eq_getElem_cons hlt
      have hf2 := hf.out
      have hp2 := hp.out
      rw [hlr] at hf2 hp2
      rw [hdr, Sp.putC] at hp2
      clear hf hp hlr hdr
      generalize Sp.numR s1 e1 2 = N at *
      obtain ⟨nv, s2, e2⟩ := N
      simp only [] at kn hf2 hp2 hsz
      have hf3 := Lib.hid hf2
      have hp3 := Lib.hid hp2
      clear hf2 hp2
      generalize offs[k] = o at *
      go_wp2_with fail
      refine kn.out.mono ?_
      rintro x w4 ⟨rfl, hR4, hK4⟩
      have hC4 := hK4.obj hC.out (fun q => h1 q.symm)
      have hT4 := Lib.hid (hK4.obj hT.out h2)
      have hKK := Lib.hid (hK.out.then hK4 (fun i q => .inl (.inl q)))
      obtain ⟨d0, f0⟩ := blk_cell hC4 o C1[o] (by simp [hko])
      have hlc := blk_lt hC4
      have hR5 := Lib.hid (show Rd (w4.setCell ⟨cb, o, none⟩ (.int .i64 nv)) rb s2 e2 from blk_other hR4 _ _ h1)
      have hC5 := Lib.hid (blk_set (i := o) hC4 (.int .i64 nv))
      have hT5 := Lib.hid (blk_other hT4.out ⟨cb, o, none⟩ (.int .i64 nv) h3)
      have hK5 := Lib.hid (hKK.out.setCell (a := ⟨cb, o, none⟩) (.inl (.inr rfl)) (.int .i64 nv))
      clear hR hC hT hK hR4 hK4 hT4 hKK kn c0 hlb
      go_wp2
      go_roundw
      case rel => exact ⟨k + 1, s2, e2, C1.setIfInBounds o (.int .i64 nv), by go_num, by omega, by omega, by simp [hcs], hR5, hC5, hT5, hK5, hf3, hp3⟩
      case measure => simp [RowKit.intOf]; omega
    · obtain rfl : k = offs.length := by omega
      have hzk : ¬ (offs.length : Int) < (offs.length : Int) := by omega
      have hf2 := hf.out
      have hp2 := hp.out
      rw [Nat.sub_self, Sp.listR] at hf2 hp2
      rw [List.drop_length, Sp.putC] at hp2
      have hR2 := hR.out
      have hC2 := hC.out
      rw [hp2] at hC2
      rw [show s1 = F.2.1 from congrArg (·.1) hf2, show e1 = F.2.2 from congrArg (·.2) hf2] at hR2
      have hK2 := hK.out
      clear hf hp hf2 hp2
      go_wp2
      go_end0
      exact ⟨rfl, hR2, hC2, hK2⟩
end Go.Proofs.YthpfknlgfkecpaaDoor
end
