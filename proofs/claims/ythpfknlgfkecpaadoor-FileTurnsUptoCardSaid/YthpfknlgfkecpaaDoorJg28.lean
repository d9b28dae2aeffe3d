/-
  Texts of the proof, joined: each says at its head what it proves.
-/
import Derived.Test.YthpfknlgfkecpaaDoorJg5
import Derived.Test.YthpfknlgfkecpaaDoorJg19
import Derived.Test.YthpfknlgfkecpaaDoorJg24
section
/-
  Walk of classfile.Encode, of whatever size; and plain: a byte of a class that is turned.
-/
set_option linter.unusedVariables false
set_option linter.unusedSimpArgs false
namespace Go.Proofs.YthpfknlgfkecpaaDoor
open Go.RowKit Go.Lib

namespace Sp
theorem methodB_most (l : List Mb) (h : ∀ m ∈ l, RngM m) : (l.flatMap methodB).length ≤ l.length * 5000 := by
  induction l with
  | nil => simp
  | cons m l ih =>
    have ih2 := ih (fun x hx => h x (by simp [hx]))
    have hm := h m (by simp)
    rw [List.flatMap_cons, List.length_append, List.length_cons]
    have : (methodB m).length ≤ 5000 := by
      unfold methodB
      rw [List.length_append, List.length_append, putL_length, putsL_length]
      simp only [List.length_cons, List.length_nil]
      split
      · simp only [List.length_nil]; omega
      · rename_i hf
        obtain ⟨_, _, h3, h4, _⟩ := hm.2.2.2 hf
        unfold codeB
        simp only [List.length_append, putL_length, putsL_length, List.length_cons, List.length_nil, nums_length, handB_all]
        omega
    omega
theorem right_bytes {F : Fl} (h : partsS F = 0) : (bytesS F).length ≤ 900000000 := by
  have hr := rng_of h
  have a1 := constB_all F.pool
  have a2 := fieldB_all F.fields
  have a3 := methodB_most F.methods hr.methods
  have b1 := hr.npool
  have b2 := hr.nifs
  have b3 := hr.nfields
  have b4 := hr.nmethods
  unfold bytesS
  simp only [List.length_append, putL_length, putsL_length, List.length_cons, List.length_nil]
  omega
end Sp

set_option maxHeartbeats 4000000 in
set_option maxRecDepth 100000 in
theorem fileEncErr_any (q : Sp.At) (F : FlP) (w : World) (hr : RdF w q F) (hF : FlOk F) (hT : Tabs w) (hp : Sp.partsS F.fl ≠ 0) :
    Calls Tryd.prog 34 #[.agg (flC q F)] w fun e w' => e = .returned (.tuple #[.string ⟨#[]⟩, .int .i64 (Sp.partsS F.fl)]) ∧ Below w.heap.size w w' := by
  have hK := Lib.hid (blk_new w (.cells (flC q F) 53))
  have hB := (Below.refl w.heap.size w).alloc (Nat.le_refl _) (.cells (flC q F) 53)
  have KP : ∀ X : Array Value, X = flC q F → Hid (∀ W, Below w.heap.size w W → Calls Tryd.prog 57 #[.agg X] W fun e w' => e = .returned (.int .i64 (Sp.partsS F.fl)) ∧ Below W.heap.size W w') := by
    rintro X rfl
    exact Lib.hid (fun W hb => parts_any q F W (rdF_below hr hb) hF (hT.below hb))
  generalize Sp.partsS F.fl = pt at *
  clear hr hF hT
  obtain ⟨pool, fl, th, su, ifs, flds, mths⟩ := F
  obtain ⟨qA, qc, qI, qd, qX, qe, qY, qg⟩ := q
  have kp := KP #[.slice qA pool.length qc, .int .i64 fl, .int .i64 th, .int .i64 su, .slice qI ifs.length qd, .slice qX flds.length qe, .slice qY mths.length qg] rfl
  clear KP
  have hfl : flC ⟨qA, qc, qI, qd, qX, qe, qY, qg⟩ ⟨pool, fl, th, su, ifs, flds, mths⟩ = #[.slice qA pool.length qc, .int .i64 fl, .int .i64 th, .int .i64 su, .slice qI ifs.length qd, .slice qX flds.length qe, .slice qY mths.length qg] := rfl
  rw [hfl] at hK hB ⊢
  clear hfl
  have hb : (pt != 0) = true := by simp [hp]
  have c0 := (blk_cell hK.out 0 _ rfl).1
  have c1 := (blk_cell hK.out 1 _ rfl).1
  have c2 := (blk_cell hK.out 2 _ rfl).1
  have c3 := (blk_cell hK.out 3 _ rfl).1
  have c4 := (blk_cell hK.out 4 _ rfl).1
  have c5 := (blk_cell hK.out 5 _ rfl).1
  have c6 := (blk_cell hK.out 6 _ rfl).1
  go_enter Tryd.func34, Tryd.ntmps34
  go_wp2_with fail
  refine (kp.out _ hB).mono ?_
  rintro e w1 ⟨rfl, hb1⟩
  have B1 := below_then hB hB.size hb1
  go_wp2
  go_ret2
  exact ⟨rfl, B1⟩
theorem fileEncA_any (q : Sp.At) (F : FlP) (w : World) (hr : RdF w q F) (hF : FlOk F) (hT : Tabs w) :
    Calls Tryd.prog 34 #[.agg (flC q F)] w fun e w' => e = .returned (.tuple #[.string (Sp.encodeF F.fl).1, .int .i64 (Sp.encodeF F.fl).2]) ∧ Below w.heap.size w w' := by
  by_cases hp : Sp.partsS F.fl = 0
  · exact fileEnc_any q F w hr hF hT (Sp.right_bytes hp)
  · have he : Sp.encodeF F.fl = (⟨#[]⟩, Sp.partsS F.fl) := by
      unfold Sp.encodeF
      rw [if_pos hp]
    rw [he]
    exact fileEncErr_any q F w hr hF hT hp

namespace Sp
theorem xor_byte (x c : Int) (h0 : 0 ≤ x) (h1 : x ≤ 255) (h2 : 0 ≤ c) (h3 : c ≤ 255) (hc : c ≠ 0) : 0 ≤ Go.bits .xor .u8 x c ∧ Go.bits .xor .u8 x c ≤ 255 ∧ Go.bits .xor .u8 x c ≠ x := by
  have ha : (BitVec.ofInt 8 x).toNat = x.toNat := by rw [BitVec.toNat_ofInt]; congr 1; omega
  have hb : (BitVec.ofInt 8 c).toNat = c.toNat := by rw [BitVec.toNat_ofInt]; congr 1; omega
  have hlt : (BitVec.ofInt 8 x ^^^ BitVec.ofInt 8 c).toNat < 256 := (BitVec.ofInt 8 x ^^^ BitVec.ofInt 8 c).isLt
  have he : Go.bits .xor .u8 x c = ((BitVec.ofInt 8 x ^^^ BitVec.ofInt 8 c).toNat : Int) := by
    show IntKind.u8.wrap (((BitVec.ofInt 8 x ^^^ BitVec.ofInt 8 c).toNat : Nat) : Int) = _
    have h5 : ∀ n : Nat, n < 256 → IntKind.u8.wrap (n : Int) = (n : Int) := fun n hn => by
      simp [IntKind.wrap, IntKind.bits, IntKind.signed]
      omega
    exact h5 _ hlt
  rw [he]
  refine ⟨by omega, by omega, fun q => ?_⟩
  rw [BitVec.toNat_xor, ha, hb] at q
  have q2 : x.toNat ^^^ c.toNat = x.toNat := by omega
  have q3 : c.toNat = 0 := by
    have := congrArg (fun z => x.toNat ^^^ z) q2
    simp only [← Nat.xor_assoc, Nat.xor_self, Nat.zero_xor] at this
    exact this
  omega
theorem nums_nth (s : ByteArray) (k : Nat) (h : k < s.size) : (nums s).getD k 0 = ((s.data.toList.getD k 0).toNat : Int) := by
  rw [List.getD_eq_getElem?_getD, nums_get s k h]
  rfl
/-- A byte that is turned. -/
def turnL (s : ByteArray) (k : Nat) (v : Int) : List Int := (nums s).set k v
theorem turn_by (s : ByteArray) (k : Nat) (v : Int) (h0 : 0 ≤ v) (h1 : v ≤ 255) : By (turnL s k v) := fun x hx => by
  rcases List.mem_or_eq_of_mem_set hx with h | h
  · exact by_nums s x h
  · omega
theorem turn_ne (s : ByteArray) (k : Nat) (v : Int) (h0 : 0 ≤ v) (h1 : v ≤ 255) (hk : k < s.size) (hv : v ≠ ((s.data.toList.getD k 0).toNat : Int)) : s ≠ Go.strOfNums (turnL s k v) := fun e => by
  have h2 : nums s = turnL s k v := by
    have h3 := congrArg nums e
    rwa [str_nums _ (turn_by s k v h0 h1)] at h3
  have h4 := nums_nth s k hk
  rw [h2, turnL, List.getD_eq_getElem?_getD, List.getElem?_set_self (by rw [nums_length]; exact hk)] at h4
  exact hv h4
theorem turn_len (s : ByteArray) (k : Nat) (v : Int) : (turnL s k v).length = s.size := by rw [turnL, List.length_set, nums_length]
end Sp
end Go.Proofs.YthpfknlgfkecpaaDoor
end
