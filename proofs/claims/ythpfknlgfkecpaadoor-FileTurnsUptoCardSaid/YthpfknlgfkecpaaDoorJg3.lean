/-
  Texts of the proof, joined: each says at its head what it proves.
-/
import Derived.Test.YthpfknlgfkecpaaDoorJg1
import Derived.Test.YthpfknlgfkecpaaDoorJg2
import Derived.Test.YthpfknlgfkecpaaDoorJFileNamesx2
section
/-
  Walks of chapter 3's reader: take and number.
-/
set_option linter.unusedVariables false
set_option linter.unusedSimpArgs false
namespace Go.Proofs.YthpfknlgfkecpaaDoor
open Go.RowKit Go.Lib

namespace Sp
/-- A number that bytes say, the greatest first, as a machine's number holds it. -/
def numV (l : List Int) : Int := l.foldl (fun n c => IntKind.i64.wrap (n * 256) + c) 0
/-- What a reader at a text, with an error or none, takes; and where it is then. -/
def takeR (s : ByteArray) (e : Int) (n : Nat) : ByteArray × ByteArray × Int := if e = 0 then (if s.size < n then (⟨#[]⟩, s, 5) else (s.extract 0 n, s.extract n s.size, 0)) else (⟨#[]⟩, s, e)
def numR (s : ByteArray) (e : Int) (n : Nat) : Int × ByteArray × Int := (numV (nums (takeR s e n).1), (takeR s e n).2)
end Sp
theorem or_byte (x c : Int) (h0 : x % 256 = 0) (h1 : -9223372036854775808 ≤ x) (h2 : x ≤ 9223372036854775807) (h3 : 0 ≤ c) (h4 : c < 256) : bits BinOp.or IntKind.i64 x c = x + c := by
  have ha : (BitVec.ofInt 64 x).toNat = (x % 18446744073709551616).toNat := by rw [BitVec.toNat_ofInt]; rfl
  have hb : (BitVec.ofInt 64 c).toNat = c.toNat := by rw [BitVec.toNat_ofInt]; congr 1; omega
  show IntKind.i64.wrap (((BitVec.ofInt 64 x ||| BitVec.ofInt 64 c).toNat : Nat) : Int) = x + c
  rw [BitVec.toNat_or, ha, hb]
  have hq : (x % 18446744073709551616).toNat = 2 ^ 8 * ((x % 18446744073709551616).toNat / 256) := by omega
  have hor := Nat.two_pow_add_eq_or_of_lt (i := 8) (b := c.toNat) (by omega) ((x % 18446744073709551616).toNat / 256)
  rw [← hq] at hor
  rw [← hor, IntKind.wrap_i64]
  omega

theorem wrap64_eq (n : Int) : wrap64 n = IntKind.i64.wrap n := by
  rw [IntKind.wrap_i64]
  simp only [wrap64]
/-- A reader's block. -/
def Rd (w : World) (rb : Nat) (s : ByteArray) (e : Int) : Prop := w.heap[rb]? = some (.cells #[.string s, .int .i64 e] 102 (0, 0))

set_option maxHeartbeats 4000000 in
set_option maxRecDepth 100000 in
theorem take_any (rb : Nat) (s : ByteArray) (e : Int) (n : Nat) (w : World) (h : Rd w rb s e) (hs : s.size ≤ 1099511627776) (hn : n ≤ 1099511627776) :
    Calls Tryd.prog 66 #[.pointer (some ⟨rb, 0, none⟩), .int .i64 n] w fun x w' => x = .returned (.string (Sp.takeR s e n).1) ∧ Rd w' rb (Sp.takeR s e n).2.1 (Sp.takeR s e n).2.2 ∧ Keeps (fun i => i = rb) w w' := by
  obtain ⟨c0, f0⟩ := blk_cell h 0 _ rfl
  obtain ⟨c1, f1⟩ := blk_cell h 1 _ rfl
  have hlt := blk_lt h
  unfold Sp.takeR
  by_cases he : e = 0
  · subst he
    rw [if_pos rfl]
    by_cases hq : s.size < n
    · rw [if_pos hq]
      have hz : (s.size : Int) < (n : Int) := by omega
      have hS := blk_set (i := 1) h (.int .i64 5)
      go_enter Tryd.func66, Tryd.ntmps66
      go_wp2
      go_ret
      exact ⟨rfl, hS, (Keeps.refl (fun i => i = rb) w).setCell (a := ⟨rb, _, none⟩) (.inl rfl) _⟩
    · rw [if_neg hq]
      have hz : ¬ (s.size : Int) < (n : Int) := by omega
      have hz0 : (0 : Int) ≤ (n : Int) := by omega
      have hz1 : (n : Int) ≤ (s.size : Int) := by omega
      have hS := blk_set (i := 0) h (.string (s.extract n s.size))
      go_enter Tryd.func66, Tryd.ntmps66
      go_wp2
      go_ret
      exact ⟨rfl, hS, (Keeps.refl (fun i => i = rb) w).setCell (a := ⟨rb, _, none⟩) (.inl rfl) _⟩
  · rw [if_neg he]
    have hb : (e == 0) = false := by simp [he]
    have hb2 : (e != 0) = true := by simp [he]
    go_enter Tryd.func66, Tryd.ntmps66
    go_wp2
    go_ret
    exact ⟨rfl, h, Keeps.refl _ w⟩
theorem Rd.keep {w w' : World} {rb : Nat} {s : ByteArray} {e : Int} {S : Nat → Prop} (h : Rd w rb s e) (hk : Keeps S w w') (hS : ¬ S rb) : Rd w' rb s e := hk.obj h hS
theorem keeps_conv (S : Nat → Prop) (w : World) (s : ByteArray) : Keeps S w (bytesWorld w 5 s) := Keeps.of_below (below_conv w _ s (Nat.le_refl _))
namespace Sp
theorem numV_snoc (l : List Int) (c : Int) : numV (l ++ [c]) = IntKind.i64.wrap (numV l * 256) + c := by
  unfold numV
  rw [List.foldl_append]
  rfl
theorem wrap256 (n : Int) : IntKind.i64.wrap (n * 256) % 256 = 0 ∧ -9223372036854775808 ≤ IntKind.i64.wrap (n * 256) ∧ IntKind.i64.wrap (n * 256) ≤ 9223372036854775807 := by
  rw [IntKind.wrap_i64]
  omega
theorem nums_get (s : ByteArray) (k : Nat) (h : k < s.size) : (nums s)[k]? = some ((s.data.toList.getD k 0).toNat : Int) := by
  unfold nums
  have hl : k < s.data.toList.length := h
  rw [List.getElem?_map, List.getElem?_eq_getElem hl, List.getD_eq_getElem?_getD, List.getElem?_eq_getElem hl]
  rfl
theorem take_size (s : ByteArray) (e : Int) (n : Nat) : (takeR s e n).1.size ≤ n := by
  unfold takeR
  split
  · split
    · exact Nat.zero_le _
    · simp only [ByteArray.size_extract]; omega
  · exact Nat.zero_le _
end Sp

set_option maxHeartbeats 4000000 in
set_option maxRecDepth 100000 in
theorem number_any (rb : Nat) (s : ByteArray) (e : Int) (n : Nat) (w : World) (h : Rd w rb s e) (hs : s.size ≤ 1099511627776) (hn : n ≤ 1000) :
    Calls Tryd.prog 69 #[.pointer (some ⟨rb, 0, none⟩), .int .i64 n] w fun x w' => x = .returned (.int .i64 (Sp.numR s e n).1) ∧ Rd w' rb (Sp.numR s e n).2.1 (Sp.numR s e n).2.2 ∧ Keeps (fun i => i = rb) w w' := by
  have kt := Lib.hid (take_any rb s e n w h hs (by omega))
  have hz := Sp.take_size s e n
  unfold Sp.numR
  simp only []
  clear h
  generalize Sp.takeR s e n = T at *
  obtain ⟨t, s', e'⟩ := T
  simp only [] at kt hz ⊢
  go_enter Tryd.func69, Tryd.ntmps69
  go_wp2_with fail
  refine kt.out.mono ?_
  rintro x w1 ⟨rfl, hR1, hK1⟩
  clear kt
  have hcv := Lib.run_convert_string_bytes (P := Tryd.prog) w1 9 74 5 t Tryd.underlying9 Tryd.underlying74 Tryd.underlying5
  have hR2 := Lib.hid (hR1.keep (keeps_conv (fun _ => False) w1 t) (by simp))
  have hK2 := Lib.hid (hK1.trans (keeps_conv _ w1 t))
  have hc := Lib.hid (fun j (hj : j < t.size) => bytesWorld_cell w1 5 t j hj)
  have hL := Lib.hid (bytesWorld_size w1 5 t)
  clear hR1 hK1
  go_wp2
  clear hcv
  generalize bytesWorld w1 5 t = W2 at *
  go_loopw [5, 13] (fun v5 v13 wr => ∃ k : Nat, v13 = .int .i64 k ∧ k ≤ t.size ∧ v5 = .int .i64 (Sp.numV ((Sp.nums t).take k)) ∧ wr = W2) (fun _ v13 _ => t.size - (RowKit.intOf v13).toNat)
  case atStart => exact ⟨0, by go_num, Nat.zero_le _, rfl, rfl⟩
  case round =>
    obtain ⟨k, rfl, hk, rfl, rfl⟩ := hrel
    by_cases hlt : k < t.size
    · have hzk : (k : Int) < (t.size : Int) := by omega
      have hzz : t.size ≤ 1000 := by omega
      have hck := hc.out k hlt
      have hlb := World.block_lt_of_cell? _ _ hck
      have hstep : Sp.numV ((Sp.nums t).take (k + 1)) = IntKind.i64.wrap (Sp.numV ((Sp.nums t).take k) * 256) + ((t.data.toList.getD k 0).toNat : Int) := by
        rw [List.take_add_one, Sp.nums_get t k hlt]
        exact Sp.numV_snoc _ _
      have hbb : ((t.data.toList.getD k 0).toNat : Int) < 256 := by have := (t.data.toList.getD k 0).toNat_lt; omega
      obtain ⟨g1, g2, g3⟩ := Sp.wrap256 (Sp.numV ((Sp.nums t).take k))
      have hor := or_byte _ _ g1 g2 g3 (Int.natCast_nonneg _) hbb
      clear g1 g2 g3 hbb
      have hgd : t.data.toList.getD k 0 = t.data[k]'hlt := by
        rw [List.getD_eq_getElem?_getD, List.getElem?_eq_getElem (show k < t.data.toList.length from hlt)]
        simp
      rw [hgd] at hstep hor
      have hwc : IntKind.i64.wrap (((t.data[k]'hlt).toNat : Nat) : Int) = (((t.data[k]'hlt).toNat : Nat) : Int) := IntWalk.i64_in _ (by have := (t.data[k]'hlt).toNat_lt; omega)
      have hHs := Lib.hid hstep
      have hHo := Lib.hid hor
      have hHw := Lib.hid hwc
      clear hstep hor hwc
      go_wp2
      refine ⟨⟨k + 1, by first | rfl | simp, by omega, ?_, trivial⟩, by simp [RowKit.intOf]; omega⟩
      rw [wrap64_eq, wrap64_eq, hHw.out, hHo.out, ← hHs.out]
    · obtain rfl : k = t.size := by omega
      have hzk : ¬ (t.size : Int) < (t.size : Int) := by omega
      have htk : (Sp.nums t).take t.size = Sp.nums t := List.take_of_length_le (by rw [nums_length]; exact Nat.le_refl _)
      rw [htk]
      have h2 := hR2.out
      have h3 := hK2.out
      go_wp2
      go_ret
      exact ⟨rfl, h2, h3⟩
end Go.Proofs.YthpfknlgfkecpaaDoor
end
