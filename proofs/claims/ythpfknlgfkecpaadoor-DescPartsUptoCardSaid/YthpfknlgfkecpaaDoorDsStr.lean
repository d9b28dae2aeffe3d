/-
  Walks of strings.Cut at one byte, and of (*strings.Builder).WriteString in this cut (turned from the kit's shelf).
-/
import Derived.Test.YthpfknlgfkecpaaDoorMwBuild
import Derived.BigQuiet
import Derived.Shelf.Strings.BuilderK
set_option linter.unusedVariables false
set_option linter.unusedSimpArgs false
namespace Go.Proofs.YthpfknlgfkecpaaDoor
open Go.RowKit Go.Lib

namespace Sp
/-- The place of a byte's first. -/
def ixB (l : List UInt8) (c : UInt8) : Int := Lib.indexByte l c
end Sp

set_option maxHeartbeats 4000000 in
theorem slcut1_any (s : ByteArray) (c : UInt8) (w : World) (hs : s.size ≤ 140737488351232) (hr : Lib.indexByte s.data.toList c < s.size ∧ -1 ≤ Lib.indexByte s.data.toList c) :
    Calls Tryd.prog 113 #[.string s, .string ⟨#[c]⟩] w fun e w' =>
      e = .returned (if 0 ≤ Lib.indexByte s.data.toList c then .tuple #[.string (s.extract 0 (Lib.indexByte s.data.toList c).toNat), .string (s.extract ((Lib.indexByte s.data.toList c).toNat + 1) s.size), .bool true] else .tuple #[.string s, .string ⟨#[]⟩, .bool false]) ∧ Below w.heap.size w w' := by
  have h1 := Lib.hid (Tryd.stringslite_Index_one s c w)
  generalize Lib.indexByte s.data.toList c = i at *
  have hc1 : (⟨#[c]⟩ : ByteArray).size = 1 := rfl
  by_cases hi : 0 ≤ i
  · obtain ⟨k, rfl⟩ : ∃ k : Nat, i = k := ⟨i.toNat, by omega⟩
    simp only [Int.toNat_natCast]
    go_enter Tryd.func113, Tryd.ntmps113
    go_wp2_with fail
    refine h1.out.mono ?_
    rintro e w1 ⟨rfl, rfl⟩
    go_wp2
    go_quiet (fail)
    go_wp2
    go_ret3
    exact ⟨by simp, below_drewNv (Below.refl _ _) _⟩
  · rw [if_neg hi]
    go_enter Tryd.func113, Tryd.ntmps113
    go_wp2_with fail
    refine h1.out.mono ?_
    rintro e w1 ⟨rfl, rfl⟩
    go_wp2
    go_ret3
    exact ⟨rfl, Below.refl _ _⟩

set_option maxHeartbeats 4000000 in
theorem cut1_any (s : ByteArray) (c : UInt8) (w : World) (hs : s.size ≤ 140737488351232) (hr : Lib.indexByte s.data.toList c < s.size ∧ -1 ≤ Lib.indexByte s.data.toList c) :
    Calls Tryd.prog 83 #[.string s, .string ⟨#[c]⟩] w fun e w' =>
      e = .returned (if 0 ≤ Lib.indexByte s.data.toList c then .tuple #[.string (s.extract 0 (Lib.indexByte s.data.toList c).toNat), .string (s.extract ((Lib.indexByte s.data.toList c).toNat + 1) s.size), .bool true] else .tuple #[.string s, .string ⟨#[]⟩, .bool false]) ∧ Below w.heap.size w w' := by
  have h1 := Lib.hid (slcut1_any s c w hs hr)
  generalize Lib.indexByte s.data.toList c = i at *
  by_cases hi : 0 ≤ i
  · rw [if_pos hi] at h1 ⊢
    go_enter Tryd.func83, Tryd.ntmps83
    go_wp2_with fail
    refine h1.out.mono ?_
    rintro e w1 ⟨rfl, hb⟩
    go_wp2
    go_ret3
    exact ⟨rfl, hb⟩
  · rw [if_neg hi] at h1 ⊢
    go_enter Tryd.func83, Tryd.ntmps83
    go_wp2_with fail
    refine h1.out.mono ?_
    rintro e w1 ⟨rfl, hb⟩
    go_wp2
    go_ret3
    exact ⟨rfl, hb⟩

set_option maxHeartbeats 2000000 in
set_option maxRecDepth 100000 in
theorem writeString_k (B b : Nat) (bs : List Value) (s : ByteArray) (w : World) (h : Lib.IsBuilderF 86 5 B b bs w) (hlen : bs.length + s.size ≤ 140737488355328) (hBw : B ≤ w.heap.size) :
    Calls Tryd.prog 54 #[.pointer (some ⟨b, 0, none⟩), .string s] w fun e w' => e = .returned (.tuple #[.int .i64 s.size, .nilIface]) ∧ (Lib.BuilderAtF 86 5 B b (.pointer (some ⟨b, 0, none⟩)) (bs ++ Lib.strCells s) w' ∧ Below B w w' ∧ Lib.OthersKept 5 (some b) w w') := by
  obtain ⟨i0, hi, hz0, hz1, hz2⟩ := info_parts infoByte
  go_enter Tryd.func54, Tryd.ntmps54
  go_wp2_with (go_at_call 87; refine (copyCheck_k B b bs _ h).mono ?_)
  rintro e w1 ⟨rfl, h1, hb1, hk1⟩
  obtain ⟨hB, v, hbk, hown, hne⟩ := h1
  have c0 : w1.cell? ⟨b, 0, none⟩ = some (.pointer (some ⟨b, 0, none⟩)) := by rw [Lib.cell_of_heap hbk]; rfl
  have c1 : w1.cell? ⟨b, 1, none⟩ = some v := by rw [Lib.cell_of_heap hbk]; rfl
  go_wp2_with (at_builtin; refine Lib.wpList_append_own_stringF _ rfl _ _ 74 9 rfl B 5 i0 Tryd.underlying74 Tryd.underlying9 hi hz0 hz1 hz2 _ _ _ rfl hown s rfl ?c3 ?c4 ?c5 ?_)
  case c3 => unfold maxLen; omega
  case c4 => omega
  case c5 => have := hb1.size; omega
  intro v' w2 hown' hgrow _
  have hlt : b < w1.heap.size := by
    rcases Nat.lt_or_ge b w1.heap.size with h' | h'
    · exact h'
    · simp [Array.getElem?_eq_none h'] at hbk
  have hb2 : w2.heap[b]? = some (.cells #[.pointer (some ⟨b, 0, none⟩), v] 86 (0, 0)) := by
    rw [hgrow.block b hlt (fun e => hne e.symm)]
    exact hbk
  have d0 : w2.cell? ⟨b, 0, none⟩ = some (.pointer (some ⟨b, 0, none⟩)) := by rw [Lib.cell_of_heap hb2]; rfl
  have d1 : w2.cell? ⟨b, 1, none⟩ = some v := by rw [Lib.cell_of_heap hb2]; rfl
  have f1 : w2.frozen? ⟨b, 1, none⟩ = false := Lib.frozen_of_heap hb2 1
  obtain ⟨ao, n', cap, rfl⟩ : ∃ ao n' cap, v' = .slice ao n' cap := by
    rcases hown'.2 with ⟨hv, _⟩ | ⟨g, cap, cur, fz, hv, _⟩
    · exact ⟨_, _, _, hv⟩
    · exact ⟨_, _, _, hv⟩
  go_wp2
  go_ret2
  refine ⟨rfl, ?_, ?_, (hk1.grown hgrow (Lib.ownsRowF_kind hown)).setCell ⟨b, 1, none⟩ rfl _⟩
  · exact Lib.BuilderAtF.put (T := 86) (e := 5) hB hb2 (bs' := bs ++ Lib.strCells s) (by simpa [Lib.strCells_length] using hown') (by decide)
  · exact (hb1.grown hgrow (by have := hb1.size; omega) (fun k hk => (hown.lt k hk).1)).setCell (p := ⟨b, 1, none⟩) hB _
end Go.Proofs.YthpfknlgfkecpaaDoor
