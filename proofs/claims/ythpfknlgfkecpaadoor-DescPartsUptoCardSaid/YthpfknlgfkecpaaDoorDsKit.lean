/-
  Results that lie in a cell, cells of a world that grew.
-/
import Derived.Test.YthpfknlgfkecpaaDoorMwRest
import Derived.Deep.MidRow
set_option linter.unusedVariables false
set_option linter.unusedSimpArgs false
namespace Go.Proofs.YthpfknlgfkecpaaDoor
open Go.RowKit Go.Lib

theorem str_empty (s : ByteArray) (h : s.size = 0) : s = ⟨#[]⟩ := by
  obtain ⟨⟨l⟩⟩ := s
  have : l = [] := List.eq_nil_of_length_eq_zero h
  rw [this]

theorem results_ct {fn : Func} {t u : Tmp} {ty : TypeId} (h : fn.results = #[.cell t ty, .tmp u]) (tmps : Array Value) (P : Program) (w : World) {p : Addr} (hp : tmps.getD t undef = .pointer (some p)) {v : Value} (hl : (loadVar ty p).run P w = .ok v w) :
    (results fn tmps).run P w = .ok (.tuple #[v, tmps.getD u undef]) w := by
  have hp' : tmps[t]?.getD undef = .pointer (some p) := by simpa using hp
  simp [results, h, Sem.run_bind, hp', asAddr, hl]

theorem results_c {fn : Func} {t : Tmp} {ty : TypeId} (h : fn.results = #[.cell t ty]) (tmps : Array Value) (P : Program) (w : World) {p : Addr} (hp : tmps.getD t undef = .pointer (some p)) {v : Value} (hl : (loadVar ty p).run P w = .ok v w) :
    (results fn tmps).run P w = .ok v w := by
  have hp' : tmps[t]?.getD undef = .pointer (some p) := by simpa using hp
  simp [results, h, Sem.run_bind, hp', asAddr, hl]

theorem results_ctt {fn : Func} {t u x : Tmp} {ty : TypeId} (h : fn.results = #[.cell t ty, .tmp u, .tmp x]) (tmps : Array Value) (P : Program) (w : World) {p : Addr} (hp : tmps.getD t undef = .pointer (some p)) {v : Value} (hl : (loadVar ty p).run P w = .ok v w) :
    (results fn tmps).run P w = .ok (.tuple #[v, tmps.getD u undef, tmps.getD x undef]) w := by
  have hp' : tmps[t]?.getD undef = .pointer (some p) := by simpa using hp
  simp [results, h, Sem.run_bind, hp', asAddr, hl]

theorem frozen_below {w w1 : World} (h : Below w.heap.size w w1) {a : Addr} {v : Value} (hc : w.cell? a = some v) {x : Bool} (hf : w.frozen? a = x) : w1.frozen? a = x := (h.frozen (World.block_lt_of_cell? w a hc)).trans hf

/-- Behind what only grew, the cells of the blocks that were made before stand. -/
theorem kept_cell {w0 w1 : World} (h : Below w0.heap.size w0 w1) (a : Addr) (v : Value) (hc : w0.cell? a = some v ∧ w0.frozen? a = false) : w1.cell? a = some v ∧ w1.frozen? a = false :=
  ⟨cell_below h hc.1, frozen_below h hc.1 hc.2⟩

theorem range2 {w : World} {b o : Nat} {x y : Value} (h0 : w.cell? ⟨b, o, none⟩ = some x) (h1 : w.cell? ⟨b, o + 1, none⟩ = some y) : w.rangeAt b o [x, y] := by
  intro j v hj
  match j, hj with
  | 0, hj => simp at hj; subst hj; exact h0
  | 1, hj => simp at hj; subst hj; exact h1
  | j + 2, hj => simp at hj

/-- A type, read out of its two cells. -/
theorem ty_load (w : World) (b o : Nat) {x y : Value} (h0 : w.cell? ⟨b, o, none⟩ = some x) (h1 : w.cell? ⟨b, o + 1, none⟩ = some y) : (loadVar 23 ⟨b, o, none⟩).run Tryd.prog w = .ok (.agg #[x, y]) w :=
  run_loadVar_mid w b o 23 [x, y] _ (range2 h0 h1) Tryd.underlying23 rfl (by kernel_rfl)
end Go.Proofs.YthpfknlgfkecpaaDoor
