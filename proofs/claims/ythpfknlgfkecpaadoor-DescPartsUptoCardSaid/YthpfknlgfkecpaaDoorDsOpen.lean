/-
  What a walk is told of types, slices of types and signatures that came in.
-/
import Derived.Test.YthpfknlgfkecpaaDoorDsSpS
import Derived.Test.YthpfknlgfkecpaaDoorRows
import Derived.Deep.Slices
import Derived.DataShut
import Derived.OpenShut
import Derived.ChangeSame
set_option linter.unusedVariables false
set_option linter.unusedSimpArgs false
set_option maxRecDepth 100000
namespace Go.Proofs.YthpfknlgfkecpaaDoor
open Go.ChangeShapes Go.WideShapes Go.RowKit Go.Lib Go.Deep

section
variable {H : Type} {enc : TypeId × Value → H} {W : World} {base : Nat} {sp : Nat → Bool} {held : Bool}

theorem ty_cells {fuel : Nat} {cs : List Value} {x : DataW H × List MemPlace} (h : DataW.trod enc Tryd.prog W base sp held fuel 23 cs = some x) :
    ∃ t : Sp.Ty, cs = [.int .i64 t.1, .string t.2] ∧ x = (.agg [.lit (.int .i64 t.1), .lit (.string t.2.data.toList)], []) ∧ (-9223372036854775808 ≤ t.1 ∧ t.1 ≤ 9223372036854775807) ∧ t.2.size ≤ maxLen := by
  obtain ⟨xs, n, hn, hx, hl, hlen, hf⟩ := DataW.trod_struct Tryd.underlying23 h
  have hC : Tryd.prog.cellsOf 23 = 2 := by kernel_rfl
  have h3 : Tryd.prog.cellsOf 3 = 1 := by kernel_rfl
  have h9 : Tryd.prog.cellsOf 9 = 1 := by kernel_rfl
  rw [hC] at hl
  match cs, hl with
  | [c0, c1], _ =>
    match xs, hlen with
    | [x0, x1], _ =>
      have f0 : DataW.trod enc Tryd.prog W base sp held n 3 [c0] = some x0 := by simpa [h3] using hf 0 _ rfl
      have f1 : DataW.trod enc Tryd.prog W base sp held n 9 [c1] = some x1 := by simpa [h9] using hf 1 _ rfl
      obtain ⟨d, e1, e2, e3⟩ := DataW.trod_int Tryd.underlying3 f0
      obtain ⟨s, e4, e5, e6⟩ := DataW.trod_string Tryd.underlying9 f1
      simp at e1 e4 e2 e5
      subst e1 e4
      refine ⟨(d, s), rfl, ?_, (Lit.wf_int_iff _ _).1 e3, e6⟩
      rw [hx]
      simp [e2, e5]

/-- A sum over numbers. -/
def sumL : List Nat → Nat
  | [] => 0
  | a :: l => a + sumL l
theorem bulk_map {D : Nat → DataW H} : ∀ l : List Nat, Rows.uptoBulkAll (l.map D) = sumL (l.map fun i => Rows.uptoBulk (D i))
  | [] => rfl
  | a :: l => by simp only [List.map_cons, Rows.uptoBulkAll, sumL, bulk_map l]

theorem tys_cells {fuel : Nat} {cs : List Value} {x : DataW H × List MemPlace} (h : DataW.trod enc Tryd.prog W base sp held fuel 35 cs = some x) :
    ∃ (A : Option Addr) (c : Nat) (l : List Sp.Ty), cs = [.slice A l.length c] ∧ RdT W A l ∧ (∀ t ∈ l, (-9223372036854775808 ≤ t.1 ∧ t.1 ≤ 9223372036854775807) ∧ t.2.size ≤ maxLen) ∧ Sp.namesZ l + l.length ≤ Rows.uptoBulk x.1 ∧ (l.length ≤ c ∧ (A = none → c = 0)) := by
  have hC : Tryd.prog.cellsOf 23 = 2 := by kernel_rfl
  rcases open_slice Tryd.underlying35 h with ⟨h1, h2⟩ | ⟨a, len, cap, m, n, D, Pl, h1, hb, hl, hm, hmm, hx, hi⟩
  · exact ⟨none, 0, [], h1, rdT_nil _ _, by simp, by simp [Sp.namesZ], by simp⟩
  · rw [hC] at hi
    have hlm : len ≤ m := by rw [hmm]; split <;> omega
    have hch : ∀ i, i < len → ∃ t : Sp.Ty, (W.cell? (a.add (i * 2)) = some (.int .i64 t.1) ∧ W.cell? ((a.add (i * 2)).add 1) = some (.string t.2)) ∧ D i = .agg [.lit (.int .i64 t.1), .lit (.string t.2.data.toList)] ∧ (-9223372036854775808 ≤ t.1 ∧ t.1 ≤ 9223372036854775807) ∧ t.2.size ≤ maxLen := by
      intro i hlt
      obtain ⟨cs', hc, ht⟩ := hi i (by omega)
      obtain ⟨t, e1, e2, e3, e4⟩ := ty_cells ht
      obtain ⟨_, hcl, hat⟩ := World.cells?_some hc
      subst e1
      injection e2 with e2 _
      have a0 := hat 0 (by decide)
      have a1 := hat 1 (by decide)
      rw [show (a.add (i * 2)).add 0 = a.add (i * 2) by unfold Addr.add; split <;> simp_all] at a0
      exact ⟨t, ⟨a0, a1⟩, e2, e3, e4⟩
    obtain ⟨f, hf⟩ := choose_lt (α := Sp.Ty) hch
    have hlen : ((List.range len).map f).length = len := by simp
    refine ⟨some a, cap, (List.range len).map f, by rw [hlen]; exact h1, ⟨by rw [hlen]; unfold maxLen at hm; omega, fun h0 => ?_⟩, ?_, ?_, by rw [hlen]; exact ⟨hl, by simp⟩⟩
    · rw [hlen] at h0
      obtain ⟨b, off, spot⟩ := a
      have hspot : spot = none := by simpa [Addr.add] using World.cell?_spot (hf 0 h0).1.1
      subst hspot
      refine ⟨b, off, rfl, ?_⟩
      have key : ∀ (k s : Nat), s + k ≤ len → ∀ j v, (Sp.tyCells ((List.range' s k).map f))[j]? = some v → W.cell? ⟨b, off + (s * 2 + j), none⟩ = some v := by
        intro k
        induction k with
        | zero => intro s _ j v hj; simp [Sp.tyCells] at hj
        | succ k ih =>
          intro s hs j v hj
          obtain ⟨⟨q0, q1⟩, _⟩ := hf s (by omega)
          rw [Addr.add_mid] at q0 q1
          rw [Addr.add_mid] at q1
          rw [List.range'_succ, List.map_cons, Sp.tyCells] at hj
          match j, hj with
          | 0, hj => simp at hj; subst hj; exact q0
          | 1, hj => simp at hj; subst hj; exact q1
          | j + 2, hj =>
            have := ih (s + 1) (by omega) j v (by simpa using hj)
            rwa [show off + ((s + 1) * 2 + j) = off + (s * 2 + (j + 2)) by omega] at this
      intro j v hj
      have := key len 0 (by omega) j v (by rw [← List.range_eq_range']; exact hj)
      rwa [show off + (0 * 2 + j) = off + j by omega] at this
    · intro t ht
      obtain ⟨i, hi1, rfl⟩ := List.mem_map.1 ht
      exact (hf i (List.mem_range.1 hi1)).2.2
    · rw [hx, hlen]
      simp only [Rows.uptoBulk, bulk_map]
      have key : ∀ (k s : Nat), s + k ≤ len → Sp.namesZ ((List.range' s k).map f) + k ≤ sumL ((List.range' s k).map fun i => Rows.uptoBulk (D i)) := by
        intro k
        induction k with
        | zero => intro s _; simp [Sp.namesZ, sumL]
        | succ k ih =>
          intro s hs
          have := ih (s + 1) (by omega)
          have hd := (hf s (by omega)).2.1
          have hz : (f s).2.data.toList.length = (f s).2.size := rfl
          rw [List.range'_succ, List.map_cons, List.map_cons, Sp.namesZ, sumL, hd]
          simp only [Rows.uptoBulk, Rows.uptoBulkAll, hz]
          omega
      have := key len 0 (by omega)
      rw [← List.range_eq_range'] at this
      omega

theorem sig_cells {fuel : Nat} {cs : List Value} {x : DataW H × List MemPlace} (h : DataW.trod enc Tryd.prog W base sp held fuel 37 cs = some x) :
    ∃ (A : Option Addr) (c : Nat) (l : List Sp.Ty) (t : Sp.Ty) (v : Bool), cs = [.slice A l.length c, .int .i64 t.1, .string t.2, .bool v] ∧ RdT W A l ∧ (∀ t ∈ l, (-9223372036854775808 ≤ t.1 ∧ t.1 ≤ 9223372036854775807) ∧ t.2.size ≤ maxLen) ∧ (-9223372036854775808 ≤ t.1 ∧ t.1 ≤ 9223372036854775807) ∧ Sp.namesZ l + l.length + t.2.size ≤ Rows.uptoBulk x.1 := by
  obtain ⟨xs, n, hn, hx, hl, hlen, hf⟩ := DataW.trod_struct Tryd.underlying37 h
  have hC : Tryd.prog.cellsOf 37 = 4 := by kernel_rfl
  have h3 : Tryd.prog.cellsOf 35 = 1 := by kernel_rfl
  have h9 : Tryd.prog.cellsOf 23 = 2 := by kernel_rfl
  have h4 : Tryd.prog.cellsOf 4 = 1 := by kernel_rfl
  rw [hC] at hl
  match cs, hl with
  | [c0, c1, c2, c3], _ =>
    match xs, hlen with
    | [x0, x1, x2], _ =>
      have f0 : DataW.trod enc Tryd.prog W base sp held n 35 [c0] = some x0 := by simpa [h3] using hf 0 _ rfl
      have f1 : DataW.trod enc Tryd.prog W base sp held n 23 [c1, c2] = some x1 := by simpa [h9] using hf 1 _ rfl
      have f2 : DataW.trod enc Tryd.prog W base sp held n 4 [c3] = some x2 := by simpa [h4] using hf 2 _ rfl
      obtain ⟨A, c, l, a1, a2, a3, a4, _⟩ := tys_cells f0
      obtain ⟨t, b1, b2, b3, b4⟩ := ty_cells f1
      obtain ⟨v, g1, g2⟩ := DataW.trod_bool Tryd.underlying4 f2
      simp at a1 b1 g1 b2 g2
      obtain ⟨rfl, rfl⟩ := b1
      subst a1 g1
      refine ⟨A, c, l, t, v, rfl, a2, a3, b3, ?_⟩
      rw [hx]
      have hz : t.2.data.toList.length = t.2.size := rfl
      simp only [List.map_cons, List.map_nil, Rows.uptoBulk, Rows.uptoBulkAll, b2, g2, hz]
      omega
end
end Go.Proofs.YthpfknlgfkecpaaDoor
