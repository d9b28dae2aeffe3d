/-
  Maps in memory as functions from keys to values; what a call keeps outside of some blocks.
-/
import Derived.Test.YtokkpdjbgaicmaaDoorProg
import Derived.WalkKit
import Derived.Below
import Derived.Deep.Quiet
import Derived.Maps.OwnSet
import Derived.Maps.OwnOps
set_option linter.unusedVariables false
set_option linter.unusedSimpArgs false
namespace Go.Proofs.YtokkpdjbgaicmaaDoor
open Go.RowKit Go.Maps

/-- Every element reads as itself. -/
def heldR (v : Value) : Option (DataW Value × List MemPlace) := some (.held v, [])

/-- Block b is a map of at most n entries that is the function f. -/
def MapV (P : Program) (w : World) (k : TypeId) (b n : Nat) (f : Value → Option Value) : Prop :=
  ∃ D : DataW Value, w.ownsMap P k heldR b n D ∧ ∀ key kl, keyOf P k key = some kl → Maps.has D kl = (f key).isSome ∧ ∀ v, f key = some v → ∀ z, D.atKey kl z = .held v

section
variable {P : Program} {w : World} {k : TypeId} {b n : Nat} {f f' : Value → Option Value}

theorem mapV_made (w : World) (P : Program) (k : TypeId) : MapV P (w.alloc (.map #[] 0)) k w.heap.size 0 (fun _ => none) :=
  ⟨_, World.ownsMap_made w P k heldR, fun key kl h => ⟨rfl, fun v hv => by cases hv⟩⟩

theorem mapV_lt (h : MapV P w k b n f) : b < w.heap.size := by
  obtain ⟨D, h, _⟩ := h
  exact h.lt

theorem mapV_block {w' : World} (h : MapV P w k b n f) (hb : w'.heap[b]? = w.heap[b]?) : MapV P w' k b n f := by
  obtain ⟨D, ⟨es, clock, h1, h2, h3, h4⟩, h⟩ := h
  exact ⟨D, ⟨es, clock, hb.trans h1, h2, h3, h4⟩, h⟩

theorem mapV_mono {n' : Nat} (h : MapV P w k b n f) (hn : n ≤ n') : MapV P w k b n' f := by
  obtain ⟨D, h1, h2⟩ := h
  exact ⟨D, h1.mono hn, h2⟩

theorem mapV_congr (h : MapV P w k b n f) (hf : ∀ x, f' x = f x) : MapV P w k b n f' := by
  rw [show f' = f from funext hf]
  exact h

theorem mapV_key (h : MapV P w k b n f) {m : Nat} (es : Array MapEntry) (clock : Nat) (hb : w.heap[b]? = some (.map es clock)) : es.size ≤ n := by
  obtain ⟨D, ⟨es', clock', h1, h2, h3, h4⟩, h⟩ := h
  rw [hb] at h1
  cases h1
  exact h3

theorem mapV_look {t e : TypeId} (h : MapV P w k b n f) (K : Keyed P k) (ht : P.underlying t = some (.map k e)) {z : Value} (hz : (zeroValue e).run P w = .ok z w) {key : Value} {kl : Lit} (hkey : keyOf P k key = some kl) :
    (Instr.lookup t (.map (some b)) key true).run P w = .ok (.tuple #[(f key).getD z, .bool (f key).isSome]) w ∧ (Instr.lookup t (.map (some b)) key false).run P w = .ok ((f key).getD z) w := by
  obtain ⟨D, h1, h2⟩ := h
  obtain ⟨e1, e2⟩ := h2 key kl hkey
  obtain ⟨v, ps, hrun, hv⟩ := h1.look_ok (t := t) (zd := .held z) (zp := []) K ht hz rfl hkey
  obtain ⟨v', ps', hrun', hv'⟩ := h1.lookup (t := t) (zd := .held z) (zp := []) K ht hz rfl hkey
  have hat : D.atKey kl (.held z) = .held ((f key).getD z) := by
    cases hf : f key with
    | none =>
      rw [hf] at e1
      rw [Maps.atKey_of_not_has e1]
      rfl
    | some u => rw [e2 u hf]; rfl
  rw [hat] at hv hv'
  simp only [heldR, Option.some.injEq, Prod.mk.injEq, DataW.held.injEq] at hv hv'
  rw [hrun, hrun', hv.1, hv'.1, e1]
  exact ⟨rfl, rfl⟩

theorem mapV_alloc (h : MapV P w k b n f) (o : Obj) : MapV P (w.alloc o) k b n f := mapV_block h (Below.heap_alloc _ _ _ (mapV_lt h))
theorem mapV_drew (h : MapV P w k b n f) : MapV P w.drew k b n f := h
theorem mapV_set (h : MapV P w k b n f) {a : Addr} (hne : b ≠ a.block) (v : Value) : MapV P (w.setCell a v) k b n f := mapV_block h (Below.heap_setCell _ _ _ _ hne)
theorem mapV_grown {w' : World} {row : Option Nat} (h : MapV P w k b n f) (hg : w.grownBy w' row) (hne : row ≠ some b) : MapV P w' k b n f := mapV_block h (hg.block _ (mapV_lt h) (fun e => hne e.symm))
theorem mapV_map (h : MapV P w k b n f) : ∃ es clock, w.heap[b]? = some (.map es clock) := by
  obtain ⟨D, ⟨es, clock, h1, _⟩, _⟩ := h
  exact ⟨es, clock, h1⟩
theorem row_ne_map {base : Nat} {e : TypeId} {size m : Nat} {v : Value} {xs : List Value} (hr : w.ownsRow base e size v m xs) (hm : MapV P w k b n f) : v.ownBlock ≠ some b := by
  intro q
  obtain ⟨es, clock, h1⟩ := mapV_map hm
  rcases hr.2 with ⟨rfl, _⟩ | ⟨g, cap, cur, rfl, hb, hg, _⟩
  · cases q
  · have : g = b := by simpa [Value.ownBlock] using q
    subst this
    rw [h1] at hg
    cases hg
theorem box_ne_map {tb : Nat} {C : Array Value} {T : TypeId} {fr : Nat × Nat} (hb : w.heap[tb]? = some (.cells C T fr)) (hm : MapV P w k b n f) : tb ≠ b := by
  intro q
  subst q
  obtain ⟨es, clock, h1⟩ := mapV_map hm
  rw [h1] at hb
  cases hb

end

/-- 'v, ok := m[k]'. -/
theorem wpList_lookup_mapV_ok {P : Program} (w : World) {ops : Array Oper} {rest : List Oper} {o : Oper} {a : Act} {Q : Exit → Act → World → Prop}
    (hg : o.guard = none) (m x : Operand) (t : TypeId) (hop : o.op = Op.lookup t m x true)
    (k e : TypeId) (K : Keyed P k) (ht : P.underlying t = some (.map k e)) {z : Value} (hz : (zeroValue e).run P w = .ok z w) (b n : Nat) (f : Value → Option Value)
    (hm : a.eval m = .map (some b)) (hown : MapV P w k b n f) (key : Value) (kl : Lit) (hx : a.eval x = key) (hkey : keyOf P k key = some kl) (r : Option Value) (hr : f key = r)
    (hK : wpList P ops Q rest (a.put o.dst (.tuple #[r.getD z, .bool r.isSome])) w) :
    wpList P ops Q (o :: rest) a w := by
  subst hr
  refine wpList_plain hg fun K' hK' => ?_
  have hrun := (mapV_look (t := t) hown K ht hz hkey).1
  unfold Oper.wp
  simp [execOp, hop, hm, hx, hrun, Result.andThen]
  exact hK' _ _ hK

/-- 'm[k]'. -/
theorem wpList_lookup_mapV {P : Program} (w : World) {ops : Array Oper} {rest : List Oper} {o : Oper} {a : Act} {Q : Exit → Act → World → Prop}
    (hg : o.guard = none) (m x : Operand) (t : TypeId) (hop : o.op = Op.lookup t m x false)
    (k e : TypeId) (K : Keyed P k) (ht : P.underlying t = some (.map k e)) {z : Value} (hz : (zeroValue e).run P w = .ok z w) (b n : Nat) (f : Value → Option Value)
    (hm : a.eval m = .map (some b)) (hown : MapV P w k b n f) (key : Value) (kl : Lit) (hx : a.eval x = key) (hkey : keyOf P k key = some kl) (r : Option Value) (hr : f key = r)
    (hK : wpList P ops Q rest (a.put o.dst (r.getD z)) w) :
    wpList P ops Q (o :: rest) a w := by
  subst hr
  refine wpList_plain hg fun K' hK' => ?_
  have hrun := (mapV_look (t := t) hown K ht hz hkey).2
  unfold Oper.wp
  simp [execOp, hop, hm, hx, hrun, Result.andThen]
  exact hK' _ _ hK

/-- 'm[k] = v', as a run. -/
theorem mapV_update {P : Program} {w : World} {k t e : TypeId} {b n : Nat} {f f' : Value → Option Value} (h : MapV P w k b n f) (K : Keyed P k) (ht : P.underlying t = some (.map k e)) (hn : n < maxLen) {key val : Value} {kl : Lit}
    (hkey : keyOf P k key = some kl) (hf : f' key = some val) (ho : ∀ x, x ≠ key → f' x = f x) :
    ∃ w', (Instr.mapUpdate t (.map (some b)) key val).run P w = .ok () w' ∧ MapV P w' k b (n + 1) f' ∧ w.grownBy w' (some b) := by
  obtain ⟨D, h1, h2⟩ := h
  obtain ⟨w', hrun, hown, hg⟩ := h1.update (t := t) (d := .held val) (ps := []) K ht hn hkey rfl
  refine ⟨w', hrun, ⟨_, hown, fun key' kl' hk' => ?_⟩, hg⟩
  by_cases hx : key' = key
  · subst hx
    obtain rfl : kl' = kl := by rw [hkey] at hk'; exact (Option.some.inj hk').symm
    refine ⟨by rw [hf]; exact Maps.has_put_same h1.isMap (K.key hkey) _, fun v hv z => ?_⟩
    rw [hf] at hv
    cases hv
    exact Maps.atKey_put_same h1.isMap (K.key hkey) _ _
  · have hne : kl' ≠ kl := fun q => hx (K.inj (by rw [hk', q]) hkey)
    obtain ⟨e1, e2⟩ := h2 key' kl' hk'
    rw [ho key' hx]
    exact ⟨by rw [Maps.has_put_other hne]; exact e1, fun v hv z => by rw [Maps.atKey_put_other hne]; exact e2 v hv z⟩

/-- 'm[k] = v'. -/
theorem wpList_mapUpdate_mapV {P : Program} (w : World) {ops : Array Oper} {rest : List Oper} {o : Oper} {a : Act} {Q : Exit → Act → World → Prop}
    (hg : o.guard = none) (m x v : Operand) (t : TypeId) (hop : o.op = Op.mapUpdate t m x v)
    (k e : TypeId) (K : Keyed P k) (ht : P.underlying t = some (.map k e)) (b n : Nat) (f f' : Value → Option Value)
    (hm : a.eval m = .map (some b)) (hown : MapV P w k b n f) (hn : n < maxLen) (key val : Value) (kl : Lit) (hx : a.eval x = key) (hv : a.eval v = val) (hkey : keyOf P k key = some kl)
    (hf : f' key = some val) (ho : ∀ x, x ≠ key → f' x = f x)
    (hK : ∀ w', MapV P w' k b (n + 1) f' → w.grownBy w' (some b) → wpList P ops Q rest (a.put o.dst undef) w') :
    wpList P ops Q (o :: rest) a w := by
  refine wpList_plain hg fun K' hK' => ?_
  obtain ⟨w', hrun, r1, r2⟩ := mapV_update (t := t) hown K ht hn hkey hf ho
  unfold Oper.wp
  simp [execOp, hop, hm, hx, hv, hrun, Result.andThen]
  exact hK' _ _ (hK w' r1 r2)

/-- 'delete(m, k)'. -/
theorem wpList_delete_mapV {P : Program} (w : World) {ops : Array Oper} {rest : List Oper} {o : Oper} {a : Act} {Q : Exit → Act → World → Prop}
    (hg : o.guard = none) (m x : Operand) (t k : TypeId) (hop : o.op = Op.call { callee := Callee.builtin Builtin.delete, args := #[m, x], argTypes := #[t, k] })
    (e : TypeId) (K : Keyed P k) (ht : P.underlying t = some (.map k e)) (b n : Nat) (f f' : Value → Option Value)
    (hm : a.eval m = .map (some b)) (hown : MapV P w k b n f) (key : Value) (kl : Lit) (hx : a.eval x = key) (hkey : keyOf P k key = some kl)
    (hf : f' key = none) (ho : ∀ x, x ≠ key → f' x = f x)
    (hK : ∀ w', MapV P w' k b n f' → w.grownBy w' (some b) → wpList P ops Q rest (a.put o.dst (.tuple #[])) w') :
    wpList P ops Q (o :: rest) a w := by
  obtain ⟨D, h1, h2⟩ := hown
  refine wpList_delete_own w hg m x t k hop e K ht heldR b n D hm h1 key kl hx hkey fun w' hw ht' => ?_
  refine hK w' ⟨_, hw, fun key' kl' hk' => ?_⟩ ht'.grown
  by_cases hx : key' = key
  · subst hx
    obtain rfl : kl' = kl := by rw [hkey] at hk'; exact (Option.some.inj hk').symm
    refine ⟨by rw [hf]; exact Maps.has_del_same, fun v hv z => ?_⟩
    rw [hf] at hv
    cases hv
  · have hne : kl' ≠ kl := fun q => hx (K.inj (by rw [hk', q]) hkey)
    obtain ⟨e1, e2⟩ := h2 key' kl' hk'
    rw [ho key' hx]
    exact ⟨by rw [Maps.has_del_other hne]; exact e1, fun v hv z => by rw [Maps.atKey_del_other hne]; exact e2 v hv z⟩

/-! What stays outside of some blocks. -/
/-- Outside of the blocks S, w' is as w was; there may be new blocks. -/
structure Keeps (S : Nat → Prop) (w w' : World) : Prop where
  os : w'.os = w.os
  tape : w'.tape = w.tape
  output : w'.output = w.output
  size : w.heap.size ≤ w'.heap.size
  block : ∀ k, k < w.heap.size → ¬ S k → w'.heap[k]? = w.heap[k]?

section
variable {S S' : Nat → Prop} {w w1 w2 : World}
theorem Keeps.refl (S : Nat → Prop) (w : World) : Keeps S w w := ⟨rfl, rfl, rfl, Nat.le_refl _, fun _ _ _ => rfl⟩
theorem Keeps.trans (h : Keeps S w w1) (k : Keeps S w1 w2) : Keeps S w w2 :=
  ⟨k.os.trans h.os, k.tape.trans h.tape, k.output.trans h.output, Nat.le_trans h.size k.size, fun i hi hs => (k.block i (Nat.lt_of_lt_of_le hi h.size) hs).trans (h.block i hi hs)⟩
/-- Behind w1 blocks may be written that were not there at w. -/
theorem Keeps.then (h : Keeps S w w1) (k : Keeps S' w1 w2) (hs : ∀ i, S' i → S i ∨ w.heap.size ≤ i) : Keeps S w w2 :=
  ⟨k.os.trans h.os, k.tape.trans h.tape, k.output.trans h.output, Nat.le_trans h.size k.size, fun i hi hn => (k.block i (Nat.lt_of_lt_of_le hi h.size) (fun q => (hs i q).elim hn (fun r => by omega))).trans (h.block i hi hn)⟩
theorem Keeps.mono (h : Keeps S w w1) (hs : ∀ i, S i → S' i) : Keeps S' w w1 := ⟨h.os, h.tape, h.output, h.size, fun i hi hn => h.block i hi (fun q => hn (hs i q))⟩
theorem Keeps.of_below (h : Below w.heap.size w w1) : Keeps S w w1 := ⟨h.os, h.tape, h.output, h.size, fun i hi _ => h.block i hi⟩
theorem Keeps.of_grown {row : Option Nat} (h : w.grownBy w1 row) (hr : ∀ k, row = some k → S k ∨ w.heap.size ≤ k) : Keeps S w w1 :=
  ⟨h.os, h.tape, h.output, h.size, fun i hi hn => h.block i hi (fun e => (hr i e.symm).elim hn (fun r => by omega))⟩
theorem Keeps.below {B : Nat} (h : Keeps S w w1) (hB : B ≤ w.heap.size) (hs : ∀ i, S i → B ≤ i) : Below B w w1 :=
  ⟨h.os, h.tape, h.output, h.size, fun i hi => h.block i (Nat.lt_of_lt_of_le hi hB) (fun q => by have := hs i q; omega)⟩
theorem Keeps.alloc (h : Keeps S w w1) (o : Obj) : Keeps S w (w1.alloc o) :=
  h.trans ⟨rfl, rfl, rfl, by simp, fun k hk _ => Below.heap_alloc _ _ _ hk⟩
theorem Keeps.drew (h : Keeps S w w1) : Keeps S w w1.drew := ⟨h.os, h.tape, h.output, h.size, h.block⟩
theorem Keeps.drewN (h : Keeps S w w1) (n : Nat) : Keeps S w (w1.drewN n) := ⟨h.os, h.tape, h.output, h.size, h.block⟩
theorem Keeps.setCell (h : Keeps S w w1) {a : Addr} (ha : S a.block ∨ w.heap.size ≤ a.block) (v : Value) : Keeps S w (w1.setCell a v) :=
  ⟨h.os, h.tape, h.output, by simpa [World.setCell] using h.size, fun i hi hn => (Below.heap_setCell _ _ _ _ (fun e => by subst e; exact ha.elim hn (fun r => by omega))).trans (h.block i hi hn)⟩
theorem Keeps.cell (h : Keeps S w w1) {a : Addr} {v : Value} (hc : w.cell? a = some v) (hn : ¬ S a.block) : w1.cell? a = some v :=
  (World.cell?_of_block (h.block a.block (World.block_lt_of_cell? w a hc) hn)).trans hc
theorem Keeps.obj (h : Keeps S w w1) {b : Nat} {o : Obj} (hc : w.heap[b]? = some o) (hn : ¬ S b) : w1.heap[b]? = some o :=
  (h.block b (by obtain ⟨q, _⟩ := Array.getElem?_eq_some_iff.1 hc; exact q) hn).trans hc
theorem Keeps.mapV {P : Program} {k : TypeId} {b n : Nat} {f : Value → Option Value} (h : Keeps S w w1) (hm : MapV P w k b n f) (hn : ¬ S b) : MapV P w1 k b n f :=
  mapV_block hm (h.block b (mapV_lt hm) hn)
theorem Keeps.row {base : Nat} {e : TypeId} {size : Nat} {v : Value} {n : Nat} {xs : List Value} (h : Keeps S w w1) (hr : w.ownsRow base e size v n xs) (hn : ∀ k, v.ownBlock = some k → ¬ S k) : w1.ownsRow base e size v n xs := by
  refine ⟨hr.1, ?_⟩
  rcases hr.2 with h2 | ⟨g, cap, cur, rfl, hb, hg, rest⟩
  · exact .inl h2
  · exact .inr ⟨g, cap, cur, rfl, hb, h.obj hg (hn g rfl), rest⟩
end
end Go.Proofs.YtokkpdjbgaicmaaDoor
