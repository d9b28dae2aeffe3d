/-
  Plain words for Sign; the cells of a slice of types.
-/
import Derived.Test.YthpfknlgfkecpaaDoorDs8
set_option linter.unusedVariables false
set_option linter.unusedSimpArgs false
namespace Go.Proofs.YthpfknlgfkecpaaDoor
open Go.RowKit Go.Lib

namespace Sp
def typeB (t : Ty) : List UInt8 := List.replicate t.1.toNat 91 ++ nameB t.2
def argsB : List Ty → List UInt8
  | [] => []
  | t :: l => typeB t ++ argsB l
def namesZ : List Ty → Nat
  | [] => 0
  | t :: l => t.2.size + namesZ l
def allR (l : List Ty) : Bool := l.all rightS
def signS (m : Sig) : ByteArray × Int :=
  if allR m.1 = false then (⟨#[]⟩, 9)
  else if rightS m.2.1 = false ∨ (m.2.2 = true ∧ m.2.1 ≠ t0) then (⟨#[]⟩, 9)
  else if 16 < m.1.length then (⟨#[]⟩, 3)
  else (B (40 :: argsB m.1 ++ 41 :: (if m.2.2 = true then [86] else typeB m.2.1)), 0)
theorem writeS_some (t : Ty) (h : rightS t = true) : writeS t = (B (typeB t), 0) := by rw [writeS, if_pos h]; rfl
theorem writeS_none (t : Ty) (h : rightS t = false) : writeS t = (⟨#[]⟩, 9) := by rw [writeS, if_neg (by rw [h]; decide)]
theorem rightS_dims (t : Ty) (h : rightS t = true) : 0 ≤ t.1 ∧ t.1 ≤ 4 := by
  simp [rightS] at h
  exact h.1
theorem typeB_length (t : Ty) (h : rightS t = true) : (typeB t).length ≤ t.2.size + 6 := by
  have := rightS_dims t h
  have h2 : t.2.data.toList.length = t.2.size := rfl
  unfold typeB nameB
  split
  · simp; omega
  · simp only [List.length_append, List.length_replicate, List.length_cons, List.length_nil, h2]
    omega
theorem argsB_append : ∀ a b : List Ty, argsB (a ++ b) = argsB a ++ argsB b
  | [], _ => rfl
  | t :: a, b => by simp only [List.cons_append, argsB, argsB_append a b, List.append_assoc]
theorem namesZ_append : ∀ a b : List Ty, namesZ (a ++ b) = namesZ a + namesZ b
  | [], _ => by simp [namesZ]
  | t :: a, b => by simp only [List.cons_append, namesZ, namesZ_append a b]; omega
theorem namesZ_get : ∀ (l : List Ty) (t : Ty), t ∈ l → t.2.size ≤ namesZ l
  | [], _, h => by simp at h
  | a :: l, t, h => by
    rcases List.mem_cons.1 h with rfl | h
    · simp [namesZ]
    · have := namesZ_get l t h
      simp only [namesZ]
      omega
end Sp
theorem rdT_get2 {w : World} {b o : Nat} {l : List Sp.Ty} (h : w.rangeAt b o (Sp.tyCells l)) {j : Nat} (hj : j < l.length) : w.cell? ⟨b, o + j * 2, none⟩ = some (.int .i64 (l[j]).1) ∧ w.cell? ⟨b, o + j * 2 + 1, none⟩ = some (.string (l[j]).2) := by
  rw [Nat.mul_comm]
  exact rdT_get h hj
theorem cat_T (al tb : List UInt8) : (⟨(40 :: al).toArray⟩ ++ ⟨#[41]⟩ ++ Sp.B tb : ByteArray) = Sp.B (40 :: al ++ 41 :: tb) := by
  have : Sp.B (40 :: al) ++ Sp.B [41] ++ Sp.B tb = Sp.B (40 :: al ++ 41 :: tb) := by
    rw [Sp.B_append, Sp.B_append, List.append_assoc]
    rfl
  exact this
theorem str_B (l : List UInt8) : Lib.strCells (Sp.B l) = Lib.byteCells l := rfl
end Go.Proofs.YthpfknlgfkecpaaDoor
