/-
  What a walk is told of calls, texts and numbers that came in.
-/
import Derived.Test.YtokkpdjbgaicmaaDoorOpenL
import Derived.Test.YtokkpdjbgaicmaaDoorWalkStrtabPlays
set_option linter.unusedVariables false
set_option linter.unusedSimpArgs false
set_option maxRecDepth 100000
namespace Go.Proofs.YtokkpdjbgaicmaaDoor
open Go.ChangeShapes Go.WideShapes Go.RowKit Go.Lib Go.Deep

section
variable {H : Type} {enc : TypeId × Value → H} {W : World} {base : Nat} {sp : Nat → Bool} {held : Bool}

def intC (a : Int) : List Value := [.int .i64 a]
theorem rdN_of {W : World} {A : Option Addr} {l : List Int} (h : RdL intC W A l) : RdN .i64 W A l := by
  refine ⟨h.1, fun h0 => ?_⟩
  obtain ⟨b, o, hA, hr⟩ := h.2 h0
  refine ⟨b, o, hA, fun j hj => ?_⟩
  have := rdL_get 1 (fun _ => rfl) hr hj 0 (by decide) rfl
  rw [List.getD_eq_getElem?_getD, List.getElem?_eq_getElem hj]
  simpa using this
theorem ints_cells {fuel : Nat} {cs : List Value} {x : DataW H × List MemPlace} (h : DataW.trod enc Tryd.prog W base sp held fuel 30 cs = some x) :
    ∃ (A : Option Addr) (c : Nat) (l : List Int), cs = [.slice A l.length c] ∧ RdN .i64 W A l ∧ (∀ a ∈ l, -9223372036854775808 ≤ a ∧ a ≤ 9223372036854775807) ∧ l.length ≤ Rows.uptoBulk x.1 ∧ (l.length ≤ c ∧ (A = none → c = 0)) := by
  obtain ⟨A, c, l, h1, h2, h3, h4, h5⟩ := sl_cells (E := intC) (Q := fun a => -9223372036854775808 ≤ a ∧ a ≤ 9223372036854775807) (m := fun _ => 1) (n := 1) (fun _ => rfl) (by decide) (0 : Int) Tryd.underlying30 (by kernel_rfl) (fun {fuel cs x} hx => by
    obtain ⟨a, e1, e2, e3⟩ := DataW.trod_int Tryd.underlying3 hx
    exact ⟨a, e1, (Lit.wf_int_iff _ _).1 e3, by rw [e2]; exact Nat.le_refl _⟩) h
  refine ⟨A, c, l, h1, rdN_of h2, h3, Nat.le_trans ?_ h4, h5⟩
  clear h1 h2 h3 h4 h5
  induction l with
  | nil => simp
  | cons a l ih => simp only [List.length_cons, List.map_cons, sumL]; omega
theorem strs_cells {fuel : Nat} {cs : List Value} {x : DataW H × List MemPlace} (h : DataW.trod enc Tryd.prog W base sp held fuel 36 cs = some x) :
    ∃ (A : Option Addr) (c : Nat) (l : List ByteArray), cs = [.slice A l.length c] ∧ RdL strC W A l ∧ (∀ a ∈ l, a.size ≤ maxLen) ∧ sumL (l.map fun s => s.size) ≤ Rows.uptoBulk x.1 ∧ (l.length ≤ c ∧ (A = none → c = 0)) :=
  sl_cells (E := strC) (Q := fun s => s.size ≤ maxLen) (m := fun s => s.size) (n := 1) (fun _ => rfl) (by decide) ⟨#[]⟩ Tryd.underlying36 (by kernel_rfl) (fun {fuel cs x} hx => by
    obtain ⟨s, e4, e5, e6⟩ := DataW.trod_string Tryd.underlying9 hx
    exact ⟨s, e4, e6, by rw [e5]; show s.data.toList.length + 1 ≥ _; have : s.data.toList.length = s.size := rfl; omega⟩) h
theorem op_open {fuel : Nat} {cs : List Value} {x : DataW H × List MemPlace} (h : DataW.trod enc Tryd.prog W base sp held fuel 32 cs = some x) :
    ∃ o : Sp.Opp, cs = Sp.opC o ∧ (RdN .i64 W o.2.1 o.1.gone ∧ Sp.OpOk o.1) ∧ 0 ≤ Rows.uptoBulk x.1 := by
  obtain ⟨xs, n, hn, hx, hl, hlen, hf⟩ := DataW.trod_struct Tryd.underlying32 h
  have hC : Tryd.prog.cellsOf 32 = 4 := by kernel_rfl
  have h3 : Tryd.prog.cellsOf 3 = 1 := by kernel_rfl
  have h9 : Tryd.prog.cellsOf 9 = 1 := by kernel_rfl
  have h30 : Tryd.prog.cellsOf 30 = 1 := by kernel_rfl
  rw [hC] at hl
  match cs, hl with
  | [c0, c1, c2, c3], _ =>
    match xs, hlen with
    | [x0, x1, x2, x3], _ =>
      have f0 : DataW.trod enc Tryd.prog W base sp held n 3 [c0] = some x0 := by simpa [h3] using hf 0 _ rfl
      have f1 : DataW.trod enc Tryd.prog W base sp held n 9 [c1] = some x1 := by simpa [h9] using hf 1 _ rfl
      have f2 : DataW.trod enc Tryd.prog W base sp held n 3 [c2] = some x2 := by simpa [h3] using hf 2 _ rfl
      have f3 : DataW.trod enc Tryd.prog W base sp held n 30 [c3] = some x3 := by simpa [h30] using hf 3 _ rfl
      obtain ⟨kd, a1, a2, a3⟩ := DataW.trod_int Tryd.underlying3 f0
      obtain ⟨tx, b1, b2, b3⟩ := DataW.trod_string Tryd.underlying9 f1
      obtain ⟨at_, d1, d2, d3⟩ := DataW.trod_int Tryd.underlying3 f2
      obtain ⟨G, gc, gn, e1, e2, e3, e4, e5⟩ := ints_cells f3
      simp at a1 b1 d1 e1
      subst a1 b1 d1 e1
      exact ⟨⟨⟨kd, tx, at_, gn⟩, G, gc⟩, rfl, ⟨e2, (Lit.wf_int_iff _ _).1 a3, (Lit.wf_int_iff _ _).1 d3⟩, Nat.zero_le _⟩
theorem ops_cells {fuel : Nat} {cs : List Value} {x : DataW H × List MemPlace} (h : DataW.trod enc Tryd.prog W base sp held fuel 22 cs = some x) :
    ∃ (A : Option Addr) (c : Nat) (l : List Sp.Opp), cs = [.slice A l.length c] ∧ RdL Sp.opC W A l ∧ (∀ o ∈ l, RdN .i64 W o.2.1 o.1.gone ∧ Sp.OpOk o.1) ∧ sumL (l.map fun _ => 0) ≤ Rows.uptoBulk x.1 ∧ (l.length ≤ c ∧ (A = none → c = 0)) :=
  sl_cells (E := Sp.opC) (Q := fun o => RdN .i64 W o.2.1 o.1.gone ∧ Sp.OpOk o.1) (m := fun _ => 0) (n := 4) Sp.opC_len (by decide) ⟨⟨0, ⟨#[]⟩, 0, []⟩, none, 0⟩ Tryd.underlying22 (by kernel_rfl) (fun {fuel cs x} hx => op_open hx) h
end
end Go.Proofs.YtokkpdjbgaicmaaDoor
