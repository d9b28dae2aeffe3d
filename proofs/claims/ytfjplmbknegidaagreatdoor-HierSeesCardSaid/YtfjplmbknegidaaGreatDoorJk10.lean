/-
  Texts of the proof, joined: each says at its head what it proves.
-/
import Derived.Test.YtfjplmbknegidaaGreatDoorProg
import Derived.WalkKit
import Derived.Below
import Derived.Deep.Quiet
import Derived.Maps.OwnSet
import Derived.Maps.OwnOps
import Derived.Test.YtfjplmbknegidaaGreatDoorJk9
import Derived.WideKeyPair
import Derived.DeepKeys4
import Derived.WalkMore
section
/-
  Maps in memory as functions from keys to values; what a call keeps outside of some blocks.
-/
set_option linter.unusedVariables false
set_option linter.unusedSimpArgs false
namespace Go.Proofs.YtfjplmbknegidaaGreatDoor
open Go.RowKit Go.Maps

/-- Every element reads as itself. -/
def heldR (v : Value) : Option (DataW Value × List MemPlace) := some (.held v, [])

/-- Block b is a map of at most n entries that is the function f. -/
def MapV (P : Program) (w : World) (k : TypeId) (b n : Nat) (f : Value → Option Value) : Prop :=
  ∃ D : DataW Value, w.ownsMap P k heldR b n D ∧ ∀ key kl, keyOf P k key = some kl → Maps.has D kl = (f key).isSome ∧ ∀ v, f key = some v → ∀ z, D.atKey kl z = .held v

section
variable {P : Program} {w : World} {k : TypeId} {b n : Nat} {f f' : Value → Option Value}

theorem mapV_made (w : World) (P : Program) (k : TypeId) : MapV P (w.alloc (.map #[] 0)) k w.heap.size 0 (fun _ => none) :=
  ⟨_, World.ownsMap_made w P k heldR, fun key kl h => ⟨rfl, fun v hv => by cases hv⟩⟩

theorem mapV_lt (h : MapV P w k b n f) : b < w.heap.size := by
  obtain ⟨D, h, _⟩ := h
  exact h.lt

theorem mapV_block {w' : World} (h : MapV P w k b n f) (hb : w'.heap[b]? = w.heap[b]?) : MapV P w' k b n f := by
  obtain ⟨D, ⟨es, clock, h1, h2, h3, h4⟩, h⟩ := h
  exact ⟨D, ⟨es, clock, hb.trans h1, h2, h3, h4⟩, h⟩

theorem mapV_mono {n' : Nat} (h : MapV P w k b n f) (hn : n ≤ n') : MapV P w k b n' f := by
  obtain ⟨D, h1, h2⟩ := h
  exact ⟨D, h1.mono hn, h2⟩

theorem mapV_congr (h : MapV P w k b n f) (hf : ∀ x, f' x = f x) : MapV P w k b n f' := by
  rw [show f' = f from funext hf]
  exact h

theorem mapV_key (h : MapV P w k b n f) {m : Nat} (es : Array MapEntry) (clock : Nat) (hb : w.heap[b]? = some (.map es clock)) : es.size ≤ n := by
  obtain ⟨D, ⟨es', clock', h1, h2, h3, h4⟩, h⟩ := h
  rw [hb] at h1
  cases h1
  exact h3

theorem mapV_look {t e : TypeId} (h : MapV P w k b n f) (K : Keyed P k) (ht : P.underlying t = some (.map k e)) {z : Value} (hz : (zeroValue e).run P w = .ok z w) {key : Value} {kl : Lit} (hkey : keyOf P k key = some kl) :
    (Instr.lookup t (.map (some b)) key true).run P w = .ok (.tuple #[(f key).getD z, .bool (f key).isSome]) w ∧ (Instr.lookup t (.map (some b)) key false).run P w = .ok ((f key).getD z) w := by
  obtain ⟨D, h1, h2⟩ := h
  obtain ⟨e1, e2⟩ := h2 key kl hkey
  obtain ⟨v, ps, hrun, hv⟩ := h1.look_ok (t := t) (zd := .held z) (zp := []) K ht hz rfl hkey
  obtain ⟨v', ps', hrun', hv'⟩ := h1.lookup (t := t) (zd := .held z) (zp := []) K ht hz rfl hkey
  have hat : D.atKey kl (.held z) = .held ((f key).getD z) := by
    cases hf : f key with
    | none =>
      rw [hf] at e1
      rw [Maps.atKey_of_not_has e1]
      rfl
    | some u => rw [e2 u hf]; rfl
  rw [hat] at hv hv'
  simp only [heldR, Option.some.injEq, Prod.mk.injEq, DataW.held.injEq] at hv hv'
  rw [hrun, hrun', hv.1, hv'.1, e1]
  exact ⟨rfl, rfl⟩

theorem mapV_alloc (h : MapV P w k b n f) (o : Obj) : MapV P (w.alloc o) k b n f := mapV_block h (Below.heap_alloc _ _ _ (mapV_lt h))
theorem mapV_drew (h : MapV P w k b n f) : MapV P w.drew k b n f := h
theorem mapV_set (h : MapV P w k b n f) {a : Addr} (hne : b ≠ a.block) (v : Value) : MapV P (w.setCell a v) k b n f := mapV_block h (Below.heap_setCell _ _ _ _ hne)
theorem mapV_grown {w' : World} {row : Option Nat} (h : MapV P w k b n f) (hg : w.grownBy w' row) (hne : row ≠ some b) : MapV P w' k b n f := mapV_block h (hg.block _ (mapV_lt h) (fun e => hne e.symm))
theorem mapV_map (h : MapV P w k b n f) : ∃ es clock, w.heap[b]? = some (.map es clock) := by
  obtain ⟨D, ⟨es, clock, h1, _⟩, _⟩ := h
  exact ⟨es, clock, h1⟩
theorem row_ne_map {base : Nat} {e : TypeId} {size m : Nat} {v : Value} {xs : List Value} (hr : w.ownsRow base e size v m xs) (hm : MapV P w k b n f) : v.ownBlock ≠ some b := by
  intro q
  obtain ⟨es, clock, h1⟩ := mapV_map hm
  rcases hr.2 with ⟨rfl, _⟩ | ⟨g, cap, cur, rfl, hb, hg, _⟩
  · cases q
  · have : g = b := by simpa [Value.ownBlock] using q
    subst this
    rw [h1] at hg
    cases hg
theorem box_ne_map {tb : Nat} {C : Array Value} {T : TypeId} {fr : Nat × Nat} (hb : w.heap[tb]? = some (.cells C T fr)) (hm : MapV P w k b n f) : tb ≠ b := by
  intro q
  subst q
  obtain ⟨es, clock, h1⟩ := mapV_map hm
  rw [h1] at hb
  cases hb

end

/-- 'v, ok := m[k]'. -/
theorem wpList_lookup_mapV_ok {P : Program} (w : World) {ops : Array Oper} {rest : List Oper} {o : Oper} {a : Act} {Q : Exit → Act → World → Prop}
    (hg : o.guard = none) (m x : Operand) (t : TypeId) (hop : o.op = Op.lookup t m x true)
    (k e : TypeId) (K : Keyed P k) (ht : P.underlying t = some (.map k e)) {z : Value} (hz : (zeroValue e).run P w = .ok z w) (b n : Nat) (f : Value → Option Value)
    (hm : a.eval m = .map (some b)) (hown : MapV P w k b n f) (key : Value) (kl : Lit) (hx : a.eval x = key) (hkey : keyOf P k key = some kl) (r : Option Value) (hr : f key = r)
    (hK : wpList P ops Q rest (a.put o.dst (.tuple #[r.getD z, .bool r.isSome])) w) :
    wpList P ops Q (o :: rest) a w := by
  subst hr
  refine wpList_plain hg fun K' hK' => ?_
  have hrun := (mapV_look (t := t) hown K ht hz hkey).1
  unfold Oper.wp
  simp [execOp, hop, hm, hx, hrun, Result.andThen]
  exact hK' _ _ hK

/-- 'm[k]'. -/
theorem wpList_lookup_mapV {P : Program} (w : World) {ops : Array Oper} {rest : List Oper} {o : Oper} {a : Act} {Q : Exit → Act → World → Prop}
    (hg : o.guard = none) (m x : Operand) (t : TypeId) (hop : o.op = Op.lookup t m x false)
    (k e : TypeId) (K : Keyed P k) (ht : P.underlying t = some (.map k e)) {z : Value} (hz : (zeroValue e).run P w = .ok z w) (b n : Nat) (f : Value → Option Value)
    (hm : a.eval m = .map (some b)) (hown : MapV P w k b n f) (key : Value) (kl : Lit) (hx : a.eval x = key) (hkey : keyOf P k key = some kl) (r : Option Value) (hr : f key = r)
    (hK : wpList P ops Q rest (a.put o.dst (r.getD z)) w) :
    wpList P ops Q (o :: rest) a w := by
  subst hr
  refine wpList_plain hg fun K' hK' => ?_
  have hrun := (mapV_look (t := t) hown K ht hz hkey).2
  unfold Oper.wp
  simp [execOp, hop, hm, hx, hrun, Result.andThen]
  exact hK' _ _ hK

/-- 'm[k] = v', as a run. -/
theorem mapV_update {P : Program} {w : World} {k t e : TypeId} {b n : Nat} {f f' : Value → Option Value} (h : MapV P w k b n f) (K : Keyed P k) (ht : P.underlying t = some (.map k e)) (hn : n < maxLen) {key val : Value} {kl : Lit}
    (hkey : keyOf P k key = some kl) (hf : f' key = some val) (ho : ∀ x, x ≠ key → f' x = f x) :
    ∃ w', (Instr.mapUpdate t (.map (some b)) key val).run P w = .ok () w' ∧ MapV P w' k b (n + 1) f' ∧ w.grownBy w' (some b) := by
  obtain ⟨D, h1, h2⟩ := h
  obtain ⟨w', hrun, hown, hg⟩ := h1.update (t := t) (d := .held val) (ps := []) K ht hn hkey rfl
  refine ⟨w', hrun, ⟨_, hown, fun key' kl' hk' => ?_⟩, hg⟩
  by_cases hx : key' = key
  · subst hx
    obtain rfl : kl' = kl := by rw [hkey] at hk'; exact (Option.some.inj hk').symm
    refine ⟨by rw [hf]; exact Maps.has_put_same h1.isMap (K.key hkey) _, fun v hv z => ?_⟩
    rw [hf] at hv
    cases hv
    exact Maps.atKey_put_same h1.isMap (K.key hkey) _ _
  · have hne : kl' ≠ kl := fun q => hx (K.inj (by rw [hk', q]) hkey)
    obtain ⟨e1, e2⟩ := h2 key' kl' hk'
    rw [ho key' hx]
    exact ⟨by rw [Maps.has_put_other hne]; exact e1, fun v hv z => by rw [Maps.atKey_put_other hne]; exact e2 v hv z⟩

/-- 'm[k] = v'. -/
theorem wpList_mapUpdate_mapV {P : Program} (w : World) {ops : Array Oper} {rest : List Oper} {o : Oper} {a : Act} {Q : Exit → Act → World → Prop}
    (hg : o.guard = none) (m x v : Operand) (t : TypeId) (hop : o.op = Op.mapUpdate t m x v)
    (k e : TypeId) (K : Keyed P k) (ht : P.underlying t = some (.map k e)) (b n : Nat) (f f' : Value → Option Value)
    (hm : a.eval m = .map (some b)) (hown : MapV P w k b n f) (hn : n < maxLen) (key val : Value) (kl : Lit) (hx : a.eval x = key) (hv : a.eval v = val) (hkey : keyOf P k key = some kl)
    (hf : f' key = some val) (ho : ∀ x, x ≠ key → f' x = f x)
    (hK : ∀ w', MapV P w' k b (n + 1) f' → w.grownBy w' (some b) → wpList P ops Q rest (a.put o.dst undef) w') :
    wpList P ops Q (o :: rest) a w := by
  refine wpList_plain hg fun K' hK' => ?_
  obtain ⟨w', hrun, r1, r2⟩ := mapV_update (t := t) hown K ht hn hkey hf ho
  unfold Oper.wp
  simp [execOp, hop, hm, hx, hv, hrun, Result.andThen]
  exact hK' _ _ (hK w' r1 r2)

/-- 'delete(m, k)'. -/
theorem wpList_delete_mapV {P : Program} (w : World) {ops : Array Oper} {rest : List Oper} {o : Oper} {a : Act} {Q : Exit → Act → World → Prop}
    (hg : o.guard = none) (m x : Operand) (t k : TypeId) (hop : o.op = Op.call { callee := Callee.builtin Builtin.delete, args := #[m, x], argTypes := #[t, k] })
    (e : TypeId) (K : Keyed P k) (ht : P.underlying t = some (.map k e)) (b n : Nat) (f f' : Value → Option Value)
    (hm : a.eval m = .map (some b)) (hown : MapV P w k b n f) (key : Value) (kl : Lit) (hx : a.eval x = key) (hkey : keyOf P k key = some kl)
    (hf : f' key = none) (ho : ∀ x, x ≠ key → f' x = f x)
    (hK : ∀ w', MapV P w' k b n f' → w.grownBy w' (some b) → wpList P ops Q rest (a.put o.dst (.tuple #[])) w') :
    wpList P ops Q (o :: rest) a w := by
  obtain ⟨D, h1, h2⟩ := hown
  refine wpList_delete_own w hg m x t k hop e K ht heldR b n D hm h1 key kl hx hkey fun w' hw ht' => ?_
  refine hK w' ⟨_, hw, fun key' kl' hk' => ?_⟩ ht'.grown
  by_cases hx : key' = key
  · subst hx
    obtain rfl : kl' = kl := by rw [hkey] at hk'; exact (Option.some.inj hk').symm
    refine ⟨by rw [hf]; exact Maps.has_del_same, fun v hv z => ?_⟩
    rw [hf] at hv
    cases hv
  · have hne : kl' ≠ kl := fun q => hx (K.inj (by rw [hk', q]) hkey)
    obtain ⟨e1, e2⟩ := h2 key' kl' hk'
    rw [ho key' hx]
    exact ⟨by rw [Maps.has_del_other hne]; exact e1, fun v hv z => by rw [Maps.atKey_del_other hne]; exact e2 v hv z⟩

/-! What stays outside of some blocks. -/
/-- Outside of the blocks S, w' is as w was; there may be new blocks. -/
structure Keeps (S : Nat → Prop) (w w' : World) : Prop where
  os : w'.os = w.os
  tape : w'.tape = w.tape
  output : w'.output = w.output
  size : w.heap.size ≤ w'.heap.size
  block : ∀ k, k < w.heap.size → ¬ S k → w'.heap[k]? = w.heap[k]?

section
variable {S S' : Nat → Prop} {w w1 w2 : World}
theorem Keeps.refl (S : Nat → Prop) (w : World) : Keeps S w w := ⟨rfl, rfl, rfl, Nat.le_refl _, fun _ _ _ => rfl⟩
theorem Keeps.trans (h : Keeps S w w1) (k : Keeps S w1 w2) : Keeps S w w2 :=
  ⟨k.os.trans h.os, k.tape.trans h.tape, k.output.trans h.output, Nat.le_trans h.size k.size, fun i hi hs => (k.block i (Nat.lt_of_lt_of_le hi h.size) hs).trans (h.block i hi hs)⟩
/-- Behind w1 blocks may be written that were not there at w. -/
theorem Keeps.then (h : Keeps S w w1) (k : Keeps S' w1 w2) (hs : ∀ i, S' i → S i ∨ w.heap.size ≤ i) : Keeps S w w2 :=
  ⟨k.os.trans h.os, k.tape.trans h.tape, k.output.trans h.output, Nat.le_trans h.size k.size, fun i hi hn => (k.block i (Nat.lt_of_lt_of_le hi h.size) (fun q => (hs i q).elim hn (fun r => by omega))).trans (h.block i hi hn)⟩
theorem Keeps.mono (h : Keeps S w w1) (hs : ∀ i, S i → S' i) : Keeps S' w w1 := ⟨h.os, h.tape, h.output, h.size, fun i hi hn => h.block i hi (fun q => hn (hs i q))⟩
theorem Keeps.of_below (h : Below w.heap.size w w1) : Keeps S w w1 := ⟨h.os, h.tape, h.output, h.size, fun i hi _ => h.block i hi⟩
theorem Keeps.of_grown {row : Option Nat} (h : w.grownBy w1 row) (hr : ∀ k, row = some k → S k ∨ w.heap.size ≤ k) : Keeps S w w1 :=
  ⟨h.os, h.tape, h.output, h.size, fun i hi hn => h.block i hi (fun e => (hr i e.symm).elim hn (fun r => by omega))⟩
theorem Keeps.below {B : Nat} (h : Keeps S w w1) (hB : B ≤ w.heap.size) (hs : ∀ i, S i → B ≤ i) : Below B w w1 :=
  ⟨h.os, h.tape, h.output, h.size, fun i hi => h.block i (Nat.lt_of_lt_of_le hi hB) (fun q => by have := hs i q; omega)⟩
theorem Keeps.alloc (h : Keeps S w w1) (o : Obj) : Keeps S w (w1.alloc o) :=
  h.trans ⟨rfl, rfl, rfl, by simp, fun k hk _ => Below.heap_alloc _ _ _ hk⟩
theorem Keeps.drew (h : Keeps S w w1) : Keeps S w w1.drew := ⟨h.os, h.tape, h.output, h.size, h.block⟩
theorem Keeps.drewN (h : Keeps S w w1) (n : Nat) : Keeps S w (w1.drewN n) := ⟨h.os, h.tape, h.output, h.size, h.block⟩
theorem Keeps.setCell (h : Keeps S w w1) {a : Addr} (ha : S a.block ∨ w.heap.size ≤ a.block) (v : Value) : Keeps S w (w1.setCell a v) :=
  ⟨h.os, h.tape, h.output, by simpa [World.setCell] using h.size, fun i hi hn => (Below.heap_setCell _ _ _ _ (fun e => by subst e; exact ha.elim hn (fun r => by omega))).trans (h.block i hi hn)⟩
theorem Keeps.cell (h : Keeps S w w1) {a : Addr} {v : Value} (hc : w.cell? a = some v) (hn : ¬ S a.block) : w1.cell? a = some v :=
  (World.cell?_of_block (h.block a.block (World.block_lt_of_cell? w a hc) hn)).trans hc
theorem Keeps.obj (h : Keeps S w w1) {b : Nat} {o : Obj} (hc : w.heap[b]? = some o) (hn : ¬ S b) : w1.heap[b]? = some o :=
  (h.block b (by obtain ⟨q, _⟩ := Array.getElem?_eq_some_iff.1 hc; exact q) hn).trans hc
theorem Keeps.mapV {P : Program} {k : TypeId} {b n : Nat} {f : Value → Option Value} (h : Keeps S w w1) (hm : MapV P w k b n f) (hn : ¬ S b) : MapV P w1 k b n f :=
  mapV_block hm (h.block b (mapV_lt hm) hn)
theorem Keeps.row {base : Nat} {e : TypeId} {size : Nat} {v : Value} {n : Nat} {xs : List Value} (h : Keeps S w w1) (hr : w.ownsRow base e size v n xs) (hn : ∀ k, v.ownBlock = some k → ¬ S k) : w1.ownsRow base e size v n xs := by
  refine ⟨hr.1, ?_⟩
  rcases hr.2 with h2 | ⟨g, cap, cur, rfl, hb, hg, rest⟩
  · exact .inl h2
  · exact .inr ⟨g, cap, cur, rfl, hb, h.obj hg (hn g rfl), rest⟩
end
end Go.Proofs.YtfjplmbknegidaaGreatDoor
end
section
/-
  Walk of chapter 3's members.
-/
set_option linter.unusedVariables false
set_option linter.unusedSimpArgs false
namespace Go.Proofs.YtfjplmbknegidaaGreatDoor
open Go.RowKit Go.Lib Go.Maps Go.WideMaps

namespace Sp
def inS (had : List (ByteArray × ByteArray)) (k : ByteArray × ByteArray) : Bool := had.any fun p => decide (p.1 = k.1) && decide (p.2 = k.2)
theorem inS_iff (had : List (ByteArray × ByteArray)) (a b : ByteArray) : inS had (a, b) = true ↔ (a, b) ∈ had := by
  unfold inS
  rw [List.any_eq_true]
  constructor
  · rintro ⟨⟨c, d⟩, hp, he⟩
    simp at he
    obtain ⟨rfl, rfl⟩ := he
    exact hp
  · intro h
    exact ⟨(a, b), h, by simp⟩
/-- The error of some members, in order; had: the names that were there before. -/
def memF (chk : Mb → Int) (key : Mb → ByteArray × ByteArray) : List (ByteArray × ByteArray) → List Mb → Int
  | _, [] => 0
  | had, m :: l => if chk m ≠ 0 then chk m else if inS had (key m) = true then 15 else memF chk key (key m :: had) l
def memS (chk : Mb → Int) (key : Mb → ByteArray × ByteArray) (l : List Mb) : Int := if 200 < l.length then 3 else memF chk key [] l
def keyM (p : List Cn) (method : Bool) (m : Mb) : ByteArray × ByteArray := ((cnameS p m.name).1, if method = true then (cnameS p m.desc).1 else ⟨#[]⟩)
open Classical in
/-- The names that were there, as a map. -/
noncomputable def hadF (had : List (ByteArray × ByteArray)) (x : Value) : Option Value := if ∃ p ∈ had, x = .agg #[.string p.1, .string p.2] then some (.int .i64 1) else none
theorem hadF_in {had : List (ByteArray × ByteArray)} {a b : ByteArray} (h : (a, b) ∈ had) : hadF had (.agg #[.string a, .string b]) = some (.int .i64 1) := by
  unfold hadF
  rw [if_pos ⟨(a, b), h, rfl⟩]
theorem hadF_out {had : List (ByteArray × ByteArray)} {a b : ByteArray} (h : (a, b) ∉ had) : hadF had (.agg #[.string a, .string b]) = none := by
  unfold hadF
  rw [if_neg]
  rintro ⟨⟨c, d⟩, hp, he⟩
  simp at he
  obtain ⟨rfl, rfl⟩ := he
  exact h hp
theorem hadF_put (had : List (ByteArray × ByteArray)) (a b : ByteArray) (x : Value) (h : x ≠ .agg #[.string a, .string b]) : hadF ((a, b) :: had) x = hadF had x := by
  unfold hadF
  congr 1
  apply propext
  constructor
  · rintro ⟨p, hp, he⟩
    rcases List.mem_cons.1 hp with rfl | hp
    · exact absurd he h
    · exact ⟨p, hp, he⟩
  · rintro ⟨p, hp, he⟩
    exact ⟨p, List.mem_cons_of_mem _ hp, he⟩
theorem hadF_nil (x : Value) : hadF [] x = none := by
  unfold hadF
  rw [if_neg]
  rintro ⟨p, hp, _⟩
  cases hp
end Sp

theorem keyArr : ArrKey Tryz.prog 172 9 2 := ⟨Tryz.underlying172, by kernel_rfl, by kernel_rfl, by kernel_rfl⟩
theorem keyLaw2 : Keyed Tryz.prog 172 := Keyed.of_law (deep_law_laid (m := 2) (by kernel_rfl) (by omega) (by exact of_decide_eq_true (by kernel_rfl)) (by kernel_rfl) (by rw [Tryz.underlying172]))
theorem zeroInt (w : World) : (zeroValue 3).run Tryz.prog w = .ok (.int .i64 0) w := by kernel_rfl
theorem keyOf2 (a b : ByteArray) (ha : a.size ≤ maxLen) (hb : b.size ≤ maxLen) : keyOf Tryz.prog 172 (.agg #[.string a, .string b]) = some (.string (keyBytes [.string a.data.toList, .string b.data.toList])) := by
  have A := keyArr
  obtain ⟨m, hm⟩ : ∃ m, Tryz.prog.types.size = m + 1 := ⟨Tryz.prog.types.size - 1, by have : 0 < Tryz.prog.types.size := of_decide_eq_true (by kernel_rfl); omega⟩
  have hkt := A.keyType ⟨m, hm⟩
  unfold keyOf
  simp only [A.hu]
  rw [if_pos (by simp [hkt, Value.formed, A.hu, A.size]), hm]
  unfold Program.keyLits
  simp only [A.hu, Value.cells]
  rw [if_pos (by rw [A.size]; rfl), show List.range 2 = [0, 1] from rfl, List.mapM_cons, List.mapM_cons, List.mapM_nil]
  simp [A.one, Program.keyLits, Tryz.underlying9, ha, hb]

set_option maxHeartbeats 16000000 in
set_option maxRecDepth 100000 in
theorem members_any (q : Sp.At) (F : FlP) (l : List Sp.Mp) (A : Option Addr) (c : Nat) (f : FuncId) (method : Bool) (chk : Sp.Mb → Int) (w : World) (hr : RdF w q F) (hm : RdM w A l) (hI : ∀ m ∈ l, In64 m.1.name ∧ In64 m.1.desc)
    (hz : ∀ c ∈ F.pool, c.text.size ≤ 1099511627776) (hent : ∀ (args : Array Value) W, (callFunc f args).run Tryz.prog W = .ok (.enter f args) W)
    (hchk : ∀ m ∈ l, ∀ W, Below w.heap.size w W → Calls Tryz.prog f #[.agg (flC q F), Sp.mbV m] W fun e W' => e = .returned (.int .i64 (chk m.1)) ∧ Below W.heap.size W W') :
    Calls Tryz.prog 104 #[.agg (flC q F), .slice A l.length c, .func (.func f) #[] #[], .bool method] w fun e w' => e = .returned (.int .i64 (Sp.memS chk (Sp.keyM F.pool method) (l.map (·.1)))) ∧ Below w.heap.size w w' := by
  have hmm := @run_makeMap Tryz.prog
  have HE := Lib.hid (show Sp.memS chk (Sp.keyM F.pool method) (l.map (·.1)) = _ by rw [Sp.memS])
  generalize Sp.memS chk (Sp.keyM F.pool method) (l.map (·.1)) = R at HE ⊢
  rw [List.length_map] at HE
  have hr0 := Lib.hid hr
  have hl := hm.1.1
  have HM := Lib.hid hm.1.2
  have HI := Lib.hid hI
  have HC := Lib.hid hchk
  have hzs := Lib.hid (Sp.cname_size F.pool hz)
  have kn := Lib.hid (fun i (hi : In64 i) W hr => cname_any q F i W hr hi)
  have hfl : flC q F = #[.slice q.A F.pool.length q.c, .int .i64 F.flags, .int .i64 F.this, .int .i64 F.super, .slice q.I F.ifaces.length q.d, .slice q.X F.fields.length q.e, .slice q.Y F.methods.length q.g] := rfl
  have hK := Lib.hid (blk_new w (.cells (flC q F) 63))
  have hB := (Below.refl w.heap.size w).alloc (Nat.le_refl _) (.cells (flC q F) 63)
  rw [hfl] at HC kn hB
  clear hr hm hI hchk hz
  by_cases h200 : 200 < l.length
  · have hR : R = 3 := by rw [HE.out, if_pos h200]
    have hzz : (200 : Int) < (l.length : Int) := by omega
    subst hR
    rw [hfl]
    clear HE hK hfl
    go_enter Tryz.func104, Tryz.ntmps104
    go_wp2
    go_step3
    go_wp2
    (try rw [Exit.noGoto_ret])
    go_ret
    exact ⟨rfl, hB⟩
  have hzz : decide ((200 : Int) < (l.length : Int)) = false := decide_eq_false (by omega)
  have HF := Lib.hid (show Sp.memF chk (Sp.keyM F.pool method) [] (l.map (·.1)) = R by rw [HE.out, if_neg h200])
  have K0 := Lib.hid (blk_old (o := .map #[] 0) hK.out)
  have B0 := Lib.hid (hB.alloc (by simp) (.map #[] 0))
  have M0 : Hid (MapV Tryz.prog ((w.alloc (.cells (flC q F) 63)).alloc (.map #[] 0)) 172 (w.heap.size + 1) 0 (Sp.hadF [])) := Lib.hid (by
    have := mapV_made (w.alloc (.cells (flC q F) 63)) Tryz.prog 172
    rw [show (w.alloc (.cells (flC q F) 63)).heap.size = w.heap.size + 1 by simp] at this
    exact mapV_congr this (fun x => by rw [Sp.hadF_nil]))
  clear HE hK hB
  rw [hfl] at K0 M0 ⊢
  clear hfl
  have hone : ((l.length : Int) == 1) = true ∨ (((l.length : Int) == 1) = false) := by cases ((l.length : Int) == 1) <;> simp
  go_enter Tryz.func104, Tryz.ntmps104
  go_wp2
  go_step3
  go_wp2
  go_step3
  go_wp2
  go_loopw [20] (fun v20 wr => ∃ (k : Nat) (had : List (ByteArray × ByteArray)), v20 = .int .i64 k ∧ k ≤ l.length ∧ Hid (Below w.heap.size w wr) ∧ Hid (wr.heap[w.heap.size]? = some (.cells #[.slice q.A F.pool.length q.c, .int .i64 F.flags, .int .i64 F.this, .int .i64 F.super, .slice q.I F.ifaces.length q.d, .slice q.X F.fields.length q.e, .slice q.Y F.methods.length q.g] 63 (0, 0))) ∧ Hid (((l.length : Int) == 1) = false → MapV Tryz.prog wr 172 (w.heap.size + 1) k (Sp.hadF had)) ∧ Hid (((l.length : Int) == 1) = true → k = 0 → had = []) ∧ Hid (Sp.memF chk (Sp.keyM F.pool method) had ((l.drop k).map (·.1)) = R)) (fun v20 _ => l.length - (RowKit.intOf v20).toNat)
  case atStart => exact ⟨0, [], by go_num, Nat.zero_le _, B0, K0, Lib.hid (fun _ => M0.out), Lib.hid (fun _ _ => rfl), HF⟩
  case round =>
    clear B0 K0 M0 HF
    obtain ⟨k, had, rfl, hk, HB, hK, hM, h0, hf⟩ := hrel
    have hb := HB.out
    have hbz := hb.size
    have hlb := blk_lt hK.out
    obtain ⟨c0, c1, c2, c3, c4, c5, c6⟩ := flC_box hK.out
    by_cases hlt : k < l.length
    · obtain ⟨b, o, rfl, hrg⟩ := HM.out (by omega)
      obtain ⟨d0, d1, d2, d3, d4, d5, d6⟩ := mb_cells hrg hlt
      have D0 := cell_below hb d0
      have D1 := cell_below hb d1
      have D2 := cell_below hb d2
      have D3 := cell_below hb d3
      have D4 := cell_below hb d4
      have D5 := cell_below hb d5
      have D6 := cell_below hb d6
      have hzk : (k : Int) < (l.length : Int) := by omega
      have hin := HI.out _ (List.getElem_mem hlt)
      have hcm := Lib.hid (HC.out _ (List.getElem_mem hlt))
      have hf2 := hf.out
      rw [List.drop_eq_getElem_cons hlt, List.map_cons, Sp.memF] at hf2
      have hf3 := Lib.hid hf2
      clear hf hf2 hrg d0 d1 d2 d3 d4 d5 d6
      generalize l[k] = m at *
      obtain ⟨⟨mf, mn, md, ms, ml, mc, mh⟩, mA, mcap⟩ := m
      simp only [] at D0 D1 D2 D3 D4 D5 D6 hin hcm hf3
      obtain ⟨hin1, hin2⟩ := hin
      have hin1 := Lib.hid hin1
      have hin2 := Lib.hid hin2
      unfold Sp.mbV at hcm
      simp only [] at hcm
      have hbt := hb.alloc hbz (.cells #[.int .i64 mf, .int .i64 mn, .int .i64 md, .int .i64 ms, .int .i64 ml, .string mc, .slice mA mh.length mcap] 105)
      have hKt := Lib.hid (blk_old (o := .cells #[.int .i64 mf, .int .i64 mn, .int .i64 md, .int .i64 ms, .int .i64 ml, .string mc, .slice mA mh.length mcap] 105) hK.out)
      have hMt := Lib.hid (blk_new wr (.cells #[.int .i64 mf, .int .i64 mn, .int .i64 md, .int .i64 ms, .int .i64 ml, .string mc, .slice mA mh.length mcap] 105))
      have hMa := Lib.hid (fun h => mapV_alloc (hM.out h) (.cells #[.int .i64 mf, .int .i64 mn, .int .i64 md, .int .i64 ms, .int .i64 ml, .string mc, .slice mA mh.length mcap] 105))
      have hbtz := hbt.size
      generalize hcv : chk ⟨mf, mn, md, ms, ml, mc, mh⟩ = cv at *
      go_wp2_with fail
      refine (hcm.out _ hbt).mono ?_
      rintro e w2 ⟨rfl, hb2⟩
      have K2 := Lib.hid (blk_below hKt.out hb2)
      have M2 := Lib.hid (blk_below hMt.out hb2)
      have A2 := Lib.hid (fun h => mapV_block (hMa.out h) (hb2.block _ (mapV_lt (hMa.out h))))
      have B2 := below_then hbt hbtz hb2
      have S2 := B2.size
      clear hb HB hK hM hlb c0 c1 c2 c3 c4 c5 c6 D0 D1 D2 D3 D4 D5 D6 hcm hbt hKt hMt hMa hbtz hb2 hcv
      by_cases hcz : cv = 0
      · subst hcz
        have hf4 := Lib.hid hf3.out
        rw [if_neg (by simp)] at hf4
        clear hf3
        rcases hone with h1 | h1
        · have hl1 : l.length = 1 := by have := beq_iff_eq.1 h1; omega
          have hk0 : k = 0 := by omega
          subst hk0
          have hd := h0.out h1 rfl
          subst hd
          rw [if_neg (by simp [Sp.inS])] at hf4
          have A3 : Hid (((l.length : Int) == 1) = false → MapV Tryz.prog w2 172 (w.heap.size + 1) (0 + 1) (Sp.hadF [Sp.keyM F.pool method ⟨mf, mn, md, ms, ml, mc, mh⟩])) := Lib.hid (fun h => by rw [h1] at h; cases h)
          have A4 : Hid (((l.length : Int) == 1) = true → 0 + 1 = 0 → [Sp.keyM F.pool method ⟨mf, mn, md, ms, ml, mc, mh⟩] = ([] : List (ByteArray × ByteArray))) := Lib.hid (fun _ h => by omega)
          have B2' := Lib.hid B2
          have hl1 := Lib.hid hl1
          clear h0 A2 B2
          go_wp2
          go_roundw
          case rel =>
            have e := hl1.out
            rw [e] at A3 A4 ⊢
            (repeat apply Exists.intro)
            exact ⟨⟨0 + 1, _, by go_num, by omega, B2', K2, A3, A4, hf4⟩, rfl⟩
          case measure => have := hl1.out; simp [RowKit.intOf]; omega
        · obtain ⟨c0, c1, c2, c3, c4, c5, c6⟩ := flC_box K2.out
          have e1 := (blk_cell M2.out 1 (.int .i64 mn) rfl).1
          have A3 := Lib.hid (A2.out h1)
          clear A2 h0
          have hn1 := Lib.hid (hzs.out mn)
          have hn2 := Lib.hid (hzs.out md)
          have kn1 := Lib.hid (fun W hr => kn.out mn hin1.out W hr)
          have kn2 := Lib.hid (fun W hr => kn.out md hin2.out W hr)
          have hkey : Sp.keyM F.pool method ⟨mf, mn, md, ms, ml, mc, mh⟩ = ((Sp.cnameS F.pool mn).1, if method = true then (Sp.cnameS F.pool md).1 else ⟨#[]⟩) := rfl
          rw [hkey] at hf4
          have hf5 := Lib.hid hf4
          clear hf4 hkey kn hzs
          generalize Sp.cnameS F.pool mn = N1 at *
          generalize Sp.cnameS F.pool md = N2 at *
          obtain ⟨n1, z1⟩ := N1
          obtain ⟨n2, z2⟩ := N2
          simp only [] at hn1 hn2 kn1 kn2 hf5
          have hB3 := Lib.hid (B2.alloc S2 (.cells #[.string ⟨#[]⟩, .string ⟨#[]⟩] 172))
          have hz3 := hB3.out.size
          have hR3 := Lib.hid (rdF_below hr0.out (hB3.out))
          have hlb2 := blk_lt K2.out
          have hlm2 := blk_lt M2.out
          have hml := mapV_lt A3.out
          have hbm : w.heap.size + 1 ≠ w2.heap.size := by omega
          have K3 := Lib.hid (blk_old (o := .cells #[.string ⟨#[]⟩, .string ⟨#[]⟩] 172) K2.out)
          have M3 := Lib.hid (blk_old (o := .cells #[.string ⟨#[]⟩, .string ⟨#[]⟩] 172) M2.out)
          have A5 := Lib.hid (mapV_alloc A3.out (.cells #[.string ⟨#[]⟩, .string ⟨#[]⟩] 172))
          have C3 := Lib.hid (blk_new w2 (.cells #[.string ⟨#[]⟩, .string ⟨#[]⟩] 172))
          clear B2 K2 A3
          go_wp2_with fail
          refine (kn1.out _ hR3.out).mono ?_
          rintro e w4 ⟨rfl, hb4⟩
          have hB4 := Lib.hid (below_then hB3.out hz3 hb4)
          have hz4 := hB4.out.size
          have K4 := Lib.hid (blk_below K3.out hb4)
          have M4 := Lib.hid (blk_below M3.out hb4)
          have C4 := Lib.hid (blk_below C3.out hb4)
          have A6 := Lib.hid (mapV_block A5.out (hb4.block _ (mapV_lt A5.out)))
          have hlk4 := blk_lt K4.out
          have hlm4 := blk_lt M4.out
          have hlc4 := blk_lt C4.out
          clear hb4 K3 M3 C3 A5 hB3 hz3 hR3 kn1 c0 c1 c2 c3 c4 c5 c6 e1 hml M2
          obtain ⟨a0, g0⟩ := blk_cell C4.out 0 _ rfl
          obtain ⟨a1, g1⟩ := blk_cell C4.out 1 _ rfl
          have K5 := Lib.hid (blk_other K4.out ⟨w2.heap.size, 0, none⟩ (.string n1) (by simp; omega))
          have M5 := Lib.hid (blk_other M4.out ⟨w2.heap.size, 0, none⟩ (.string n1) (by simp; omega))
          have C5 : Hid ((w4.setCell ⟨w2.heap.size, 0, none⟩ (.string n1)).heap[w2.heap.size]? = some (.cells #[.string n1, .string ⟨#[]⟩] 172 (0, 0))) := Lib.hid (blk_set (i := 0) C4.out (.string n1))
          have MM := Lib.hid (mapV_set A6.out (a := ⟨w2.heap.size, 0, none⟩) (by simp; omega) (.string n1))
          have B5 := Lib.hid (hB4.out.setCell (p := ⟨w2.heap.size, 0, none⟩) (by simp; omega) (.string n1))
          clear A6
          cases method
          · simp only [Bool.false_eq_true, if_false] at hf5
            clear kn2
            have kS := Lib.hid (keyOf2 n1 ⟨#[]⟩ (by have := hn1.out; unfold maxLen; omega) (by decide))
            have P1 := Lib.hid (Sp.hadF_in (had := (n1, ⟨#[]⟩) :: had) (List.mem_cons_self ..))
            have P2 := Lib.hid (Sp.hadF_put had n1 ⟨#[]⟩)
            by_cases hi : Sp.inS had (n1, ⟨#[]⟩) = true
            · have hR : R = 15 := by have := hf5.out; first | rw [if_pos hi] at this; exact this.symm | (simp [hi] at this; exact this.symm)
              have HA := Lib.hid (Sp.hadF_in ((Sp.inS_iff _ _ _).1 hi))
              subst hR
              clear hf5 hi
              go_wp2_with (at_lookup; refine wpList_lookup_mapV _ rfl _ _ 171 rfl 172 3 keyLaw2 Tryz.underlying171 (zeroInt _) (w.heap.size + 1) k (Sp.hadF had) rfl MM.out _ _ rfl kS.out (some (.int .i64 1)) HA.out ?_)
              (try rw [Exit.noGoto_ret])
              go_ret
              exact ⟨rfl, B5.out⟩
            · have HA := Lib.hid (Sp.hadF_out (fun q => hi ((Sp.inS_iff _ _ _).2 q)))
              have hf6 := Lib.hid (show Sp.memF chk (Sp.keyM F.pool false) ((n1, ⟨#[]⟩) :: had) ((l.drop (k + 1)).map (·.1)) = R by have := hf5.out; first | (rw [if_neg hi] at this; exact this) | (simp [hi] at this; exact this))
              clear hf5 hi
              go_wp2_with (first | (at_lookup; refine wpList_lookup_mapV _ rfl _ _ 171 rfl 172 3 keyLaw2 Tryz.underlying171 (zeroInt _) (w.heap.size + 1) k (Sp.hadF had) rfl MM.out _ _ rfl kS.out none HA.out ?_) | (at_mapUpdate; refine wpList_mapUpdate_mapV _ rfl _ _ _ 171 rfl 172 3 keyLaw2 Tryz.underlying171 (w.heap.size + 1) k (Sp.hadF had) (Sp.hadF ((n1, ⟨#[]⟩) :: had)) rfl MM.out ?y1 _ _ _ rfl rfl kS.out P1.out P2.out ?_))
              case y1 => unfold maxLen; omega
              intro w9 m9 hg9
              have K9 := Lib.hid (blk_grown K5.out hg9 (by intro e; injection e; omega))
              have B9 := Lib.hid (B5.out.grown hg9 (by have := B5.out.size; omega) (fun q hq => by injection hq with hq; omega))
              have M9 := Lib.hid (fun (_ : ((l.length : Int) == 1) = false) => m9)
              have h9 : Hid (((l.length : Int) == 1) = true → k + 1 = 0 → (n1, ⟨#[]⟩) :: had = []) := Lib.hid (fun _ h => by omega)
              clear m9 hg9 MM
              go_wp2
              go_roundw
              case rel => exact ⟨k + 1, _, by go_num, by omega, B9, K9, M9, h9, hf6⟩
              case measure => simp [RowKit.intOf]; omega
          · simp only [if_true] at hf5
            obtain ⟨c0, c1, c2, c3, c4, c5, c6⟩ := flC_box K4.out
            have e2 := (blk_cell M4.out 2 (.int .i64 md) rfl).1
            have hR5 := Lib.hid (rdF_below hr0.out B5.out)
            have hz5 := B5.out.size
            go_wp2_with fail
            refine (kn2.out _ hR5.out).mono ?_
            rintro e w6 ⟨rfl, hb6⟩
            have hB6 := Lib.hid (below_then B5.out hz5 hb6)
            have hz6 := hB6.out.size
            have K6 := Lib.hid (blk_below K5.out hb6)
            have M6 := Lib.hid (blk_below M5.out hb6)
            have C6 := Lib.hid (blk_below C5.out hb6)
            have A7 := Lib.hid (mapV_block MM.out (hb6.block _ (mapV_lt MM.out)))
            have hlk6 := blk_lt K6.out
            have hlm6 := blk_lt M6.out
            have hlc6 := blk_lt C6.out
            clear hb6 K5 M5 C5 MM B5 hz5 hR5 kn2 c0 c1 c2 c3 c4 c5 c6 e2 a0 a1 g0 g1 K4 M4 C4 hB4
            obtain ⟨a0, g0⟩ := blk_cell C6.out 0 _ rfl
            obtain ⟨a1, g1⟩ := blk_cell C6.out 1 _ rfl
            have K7 := Lib.hid (blk_other K6.out ⟨w2.heap.size, 1, none⟩ (.string n2) (by simp; omega))
            have MN := Lib.hid (mapV_set A7.out (a := ⟨w2.heap.size, 1, none⟩) (by simp; omega) (.string n2))
            have B7 := Lib.hid (hB6.out.setCell (p := ⟨w2.heap.size, 1, none⟩) (by simp; omega) (.string n2))
            clear A7 K6 hB6
            have kS := Lib.hid (keyOf2 n1 n2 (by have := hn1.out; unfold maxLen; omega) (by have := hn2.out; unfold maxLen; omega))
            have P1 := Lib.hid (Sp.hadF_in (had := (n1, n2) :: had) (List.mem_cons_self ..))
            have P2 := Lib.hid (Sp.hadF_put had n1 n2)
            by_cases hi : Sp.inS had (n1, n2) = true
            · have hR : R = 15 := by have := hf5.out; first | rw [if_pos hi] at this; exact this.symm | (simp [hi] at this; exact this.symm)
              have HA := Lib.hid (Sp.hadF_in ((Sp.inS_iff _ _ _).1 hi))
              subst hR
              clear hf5 hi
              go_wp2_with (at_lookup; refine wpList_lookup_mapV _ rfl _ _ 171 rfl 172 3 keyLaw2 Tryz.underlying171 (zeroInt _) (w.heap.size + 1) k (Sp.hadF had) rfl MN.out _ _ rfl kS.out (some (.int .i64 1)) HA.out ?_)
              (try rw [Exit.noGoto_ret])
              go_ret
              exact ⟨rfl, B7.out⟩
            · have HA := Lib.hid (Sp.hadF_out (fun q => hi ((Sp.inS_iff _ _ _).2 q)))
              have hf6 := Lib.hid (show Sp.memF chk (Sp.keyM F.pool true) ((n1, n2) :: had) ((l.drop (k + 1)).map (·.1)) = R by have := hf5.out; first | (rw [if_neg hi] at this; exact this) | (simp [hi] at this; exact this))
              clear hf5 hi
              go_wp2_with (first | (at_lookup; refine wpList_lookup_mapV _ rfl _ _ 171 rfl 172 3 keyLaw2 Tryz.underlying171 (zeroInt _) (w.heap.size + 1) k (Sp.hadF had) rfl MN.out _ _ rfl kS.out none HA.out ?_) | (at_mapUpdate; refine wpList_mapUpdate_mapV _ rfl _ _ _ 171 rfl 172 3 keyLaw2 Tryz.underlying171 (w.heap.size + 1) k (Sp.hadF had) (Sp.hadF ((n1, n2) :: had)) rfl MN.out ?y1 _ _ _ rfl rfl kS.out P1.out P2.out ?_))
              case y1 => unfold maxLen; omega
              intro w9 m9 hg9
              have K9 := Lib.hid (blk_grown K7.out hg9 (by intro e; injection e; omega))
              have B9 := Lib.hid (B7.out.grown hg9 (by have := B7.out.size; omega) (fun q hq => by injection hq with hq; omega))
              have M9 := Lib.hid (fun (_ : ((l.length : Int) == 1) = false) => m9)
              have h9 : Hid (((l.length : Int) == 1) = true → k + 1 = 0 → (n1, n2) :: had = []) := Lib.hid (fun _ h => by omega)
              clear m9 hg9 MN
              go_wp2
              go_roundw
              case rel => exact ⟨k + 1, _, by go_num, by omega, B9, K9, M9, h9, hf6⟩
              case measure => simp [RowKit.intOf]; omega
      · have hcb : (cv != 0) = true := by simp [hcz]
        have hR : R = cv := by rw [← hf3.out, if_pos hcz]
        subst hR
        clear hf3 hcz
        go_wp2
        (try rw [Exit.noGoto_ret])
        go_ret
        exact ⟨rfl, B2⟩
    · obtain rfl : k = l.length := by omega
      have hzk : ¬ (l.length : Int) < (l.length : Int) := by omega
      have hR : R = 0 := by rw [← hf.out, List.drop_length]; rfl
      subst hR
      clear hf
      go_wp2
      (try rw [Exit.noGoto_ret])
      go_ret
      exact ⟨rfl, hb⟩
end Go.Proofs.YtfjplmbknegidaaGreatDoor
end
