/-
  Plain words for chapter 2's code: types and their texts, by lists of bytes.
-/
import Derived.Test.YthpfknlgfkecpaaDoorMwRname
import Derived.Lib.Strings
import Derived.Lib.TrimByte
import Derived.Lib.SlicesS
set_option linter.unusedVariables false
set_option linter.unusedSimpArgs false
namespace Go.Proofs.YthpfknlgfkecpaaDoor
open Go.RowKit Go.Lib
namespace Sp
/-- A string of bytes. -/
def B (l : List UInt8) : ByteArray := ⟨l.toArray⟩
theorem B_list (s : ByteArray) : B s.data.toList = s := rfl
theorem B_size (l : List UInt8) : (B l).size = l.length := by simp [B, ByteArray.size]
theorem B_data (l : List UInt8) : (B l).data.toList = l := by simp [B]
theorem B_append (a b : List UInt8) : B a ++ B b = B (a ++ b) := by
  apply ByteArray.ext
  rw [ByteArray.data_append]
  simp [B]
/-- A type: how many dimensions, its name. -/
abbrev Ty := Int × ByteArray
def tyV (t : Ty) : Value := .agg #[.int .i64 t.1, .string t.2]
def t0 : Ty := (0, ⟨#[]⟩)
def rightS (t : Ty) : Bool := decide (0 ≤ t.1) && decide (t.1 ≤ 4) && (decide (t.2.size = 0) || nameS t.2)
def elemS (t : Ty) : Ty × Bool := if rightS t = true ∧ t.1 ≠ 0 then ((t.1 - 1, t.2), true) else (t0, false)
def arrS (t : Ty) : Ty × Bool := if rightS t = true ∧ t.1 ≠ 4 then ((t.1 + 1, t.2), true) else (t0, false)
def isRefS (t : Ty) : Bool := rightS t && (decide (0 < t.1) || decide (t.2.size ≠ 0))
def nameB (n : ByteArray) : List UInt8 := if n.size = 0 then [73] else 76 :: n.data.toList ++ [59]
def writeS (t : Ty) : ByteArray × Int := if rightS t = true then (B (List.replicate t.1.toNat 91 ++ nameB t.2), 0) else (⟨#[]⟩, 9)
end Sp
end Go.Proofs.YthpfknlgfkecpaaDoor
