/-
  Texts of the proof, joined: each says at its head what it proves.
-/
import Derived.Test.YthpfknlgfkecpaaDoorJg7
section
/-
  Plain: chapter 3's examples.
-/
set_option linter.unusedVariables false
set_option linter.unusedSimpArgs false
namespace Go.Proofs.YthpfknlgfkecpaaDoor
open Go.RowKit Go.Lib
set_option maxRecDepth 100000
def exThis : FlP := ⟨Sp.smallP, 0, 1, 4, [], [], []⟩
def exFlags : FlP := ⟨Sp.smallP, 1, 2, 4, [], [], []⟩
def exPool : FlP := ⟨Sp.smallP ++ [⟨4, ⟨#[]⟩, 0, 9, 0, 0⟩], 0, 2, 4, [], [], []⟩
def exMb : Sp.Mb := ⟨0, 1, 1, 0, 0, ⟨#[]⟩, []⟩
def exField (A : Option Addr) (c : Nat) : FlP := ⟨Sp.smallP, 0, 2, 4, [], [(exMb, A, c)], []⟩
theorem ex1 : Sp.partsS smallF.fl = 0 := by kernel_rfl
theorem ex2 : (Sp.bytesS smallF.fl).take 13 = [67, 82, 85, 88, 0, 4, 1, 0, 1, 65, 4, 0, 1] := by kernel_rfl
theorem ex3 : (Sp.bytesS smallF.fl).length = 33 := by kernel_rfl
theorem ex4 : (Sp.encodeF exThis.fl).2 = 7 := by kernel_rfl
theorem ex5 : (Sp.encodeF exFlags.fl).2 = 10 := by kernel_rfl
theorem ex6 : (Sp.encodeF exPool.fl).2 = 7 := by kernel_rfl
theorem ex7 (A : Option Addr) (c : Nat) : (Sp.encodeF (exField A c).fl).2 = 9 := by
  show (Sp.encodeF ⟨Sp.smallP, 0, 2, 4, [], [exMb], []⟩).2 = 9
  kernel_rfl
theorem len4 : (Sp.bytesS exThis.fl).length = 33 := by kernel_rfl
theorem len5 : (Sp.bytesS exFlags.fl).length = 33 := by kernel_rfl
theorem len6 : (Sp.bytesS exPool.fl).length = 36 := by kernel_rfl
theorem len7 (A : Option Addr) (c : Nat) : (Sp.bytesS (exField A c).fl).length = 38 := by
  show (Sp.bytesS ⟨Sp.smallP, 0, 2, 4, [], [exMb], []⟩).length = 38
  kernel_rfl
theorem encS1 : Sp.encodeF smallF.fl = (Go.strOfNums (Sp.bytesS smallF.fl), 0) := by
  rw [Sp.encodeF, ex1, if_neg (by simp), if_neg (by rw [ex3]; omega)]
def In64b (i : Int) : Bool := decide (-9223372036854775808 ≤ i) && decide (i ≤ 9223372036854775807)
theorem in64_b {i : Int} (h : In64b i = true) : In64 i := by
  simp [In64b] at h
  exact h
theorem pool_ok (p : List Sp.Cn) (h : p.all (fun c => In64b c.tag && In64b c.n && In64b c.a && In64b c.b && In64b c.c && decide (c.text.size ≤ 1099511627776)) = true) : ∀ c ∈ p, In64 c.tag ∧ In64 c.n ∧ In64 c.a ∧ In64 c.b ∧ In64 c.c ∧ c.text.size ≤ 1099511627776 := fun c hc => by
  have := List.all_eq_true.1 h c hc
  simp only [Bool.and_eq_true, decide_eq_true_eq] at this
  obtain ⟨⟨⟨⟨⟨a, b⟩, c⟩, d⟩, e⟩, f⟩ := this
  exact ⟨in64_b a, in64_b b, in64_b c, in64_b d, in64_b e, f⟩
theorem okSmall : FlOk smallF := ⟨in64_b (by decide), by unfold In64; decide, by unfold In64; decide, fun i h => (by cases h), pool_ok _ (by kernel_rfl), fun i h => (by cases h), fun i h => (by cases h)⟩
theorem okThis : FlOk exThis := ⟨in64_b (by decide), by unfold In64; decide, by unfold In64; decide, fun i h => (by cases h), pool_ok _ (by kernel_rfl), fun i h => (by cases h), fun i h => (by cases h)⟩
theorem okFlags : FlOk exFlags := ⟨in64_b (by decide), by unfold In64; decide, by unfold In64; decide, fun i h => (by cases h), pool_ok _ (by kernel_rfl), fun i h => (by cases h), fun i h => (by cases h)⟩
theorem okPool : FlOk exPool := ⟨in64_b (by decide), by unfold In64; decide, by unfold In64; decide, fun i h => (by cases h), pool_ok _ (by kernel_rfl), fun i h => (by cases h), fun i h => (by cases h)⟩
theorem okField (A : Option Addr) (c : Nat) : FlOk (exField A c) := ⟨in64_b (i := 0) (by decide), in64_b (i := 2) (by decide), in64_b (i := 4) (by decide), fun i h => (by cases h), pool_ok Sp.smallP (by kernel_rfl), fun i h => (by simp [exField] at h; subst h; exact ⟨in64_b (i := 0) (by decide), in64_b (i := 1) (by decide), in64_b (i := 1) (by decide)⟩), fun i h => (by cases h)⟩
end Go.Proofs.YthpfknlgfkecpaaDoor
end
