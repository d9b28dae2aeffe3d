/-
  Plain words for the reference's Make and Decode, with no program in sight.
-/
import Derived.Test.YthpfknlgfkecpaaDoorMwRenc
set_option linter.unusedVariables false
set_option linter.unusedSimpArgs false
namespace Go.Proofs.YthpfknlgfkecpaaDoor
open Go.RowKit Go.Lib

/-- A scalar value. -/
def Scal (r : Int) : Prop := (0 ≤ r ∧ r < 55296) ∨ (57344 ≤ r ∧ r ≤ 1114111)


namespace Sp
instance (r : Int) : Decidable (Scal r) := inferInstanceAs (Decidable (_ ∨ _))
/-- What the reference's Make tells. -/
def utfL (l : List Int) : List Int := l.flatMap Lib.encodeRuneZ
def refMakeS (l : List Int) : ByteArray × Bool := if l.all (fun r => decide (Scal r)) then (Go.strOfNums (utfL l), true) else (⟨#[]⟩, false)
end Sp

namespace Sp
def refUnit (s : ByteArray) : Int :=
  if s.size < 3 ∨ ¬ (224 ≤ bt s 0 ∧ bt s 0 < 240) ∨ ¬ (128 ≤ bt s 1 ∧ bt s 1 < 192) ∨ ¬ (128 ≤ bt s 2 ∧ bt s 2 < 192) then -1
  else if (bt s 0 - 224) * 4096 + (bt s 1 - 128) * 64 + bt s 2 - 128 < 2048 then -1
  else (bt s 0 - 224) * 4096 + (bt s 1 - 128) * 64 + bt s 2 - 128
theorem refUnit_range (s : ByteArray) : -1 ≤ refUnit s ∧ refUnit s ≤ 65535 ∧ (0 ≤ refUnit s → 3 ≤ s.size ∧ 224 ≤ bt s 0) := by
  have := bt_range s 0; have := bt_range s 1; have := bt_range s 2
  unfold refUnit
  repeat' split
  all_goals omega
def refStep (b : ByteArray) : Int × Nat :=
  if 1 ≤ bt b 0 ∧ bt b 0 < 128 then (bt b 0, 1)
  else if 192 ≤ bt b 0 ∧ bt b 0 < 224 then
    if 1 < b.size ∧ 128 ≤ bt b 1 ∧ bt b 1 < 192 then
      if 1 ≤ (bt b 0 - 192) * 64 + bt b 1 - 128 ∧ (bt b 0 - 192) * 64 + bt b 1 - 128 < 128 then (-1, 2) else ((bt b 0 - 192) * 64 + bt b 1 - 128, 2)
    else (-1, 1)
  else if 55296 ≤ refUnit b ∧ refUnit b < 56320 then
    if 56320 ≤ refUnit (b.extract 3 b.size) ∧ refUnit (b.extract 3 b.size) < 57344 then (65536 + (refUnit b - 55296) * 1024 + refUnit (b.extract 3 b.size) - 56320, 6) else (-1, 1)
  else if 0 ≤ refUnit b ∧ (refUnit b < 56320 ∨ 57344 ≤ refUnit b) then (refUnit b, 3)
  else (-1, 1)
def refDecG : Nat → ByteArray → List Int → Option (List Int)
  | 0, _, _ => none
  | f + 1, b, acc =>
    if b.size = 0 then some acc
    else if (refStep b).1 < 0 then none
    else refDecG f (b.extract (refStep b).2 b.size) (acc ++ [(refStep b).1])
def refDecS (b : ByteArray) : ByteArray × Int :=
  if 65535 < b.size then (⟨#[]⟩, 2)
  else match refDecG (b.size + 1) b [] with
    | none => (⟨#[]⟩, 4)
    | some l => ((refMakeS l).1, 0)
end Sp

theorem refStep_range (b : ByteArray) (h : 0 < b.size) : (0 ≤ (Sp.refStep b).1 → (Sp.refStep b).2 ≤ b.size) ∧ 1 ≤ (Sp.refStep b).2 ∧ (Sp.refStep b).1 ≤ 2000000 ∧ -1 ≤ (Sp.refStep b).1 := by
  have := Sp.bt_range b 0; have := Sp.bt_range b 1
  have hu := Sp.refUnit_range b
  have hv := Sp.refUnit_range (b.extract 3 b.size)
  have hx : (b.extract 3 b.size).size = b.size - 3 := by simp
  unfold Sp.refStep
  repeat' split
  all_goals simp only []
  all_goals omega

end Go.Proofs.YthpfknlgfkecpaaDoor
