/-
  Texts of the proof, joined: each says at its head what it proves.
-/
import Derived.Test.YtfjplmbknegidaaGreatDoorJk7
section
/-
  Plain: what stands above what in a table of classes; opening a table; which type is below which, and the least above two; laws of these.
-/
set_option linter.unusedVariables false
set_option linter.unusedSimpArgs false
namespace Go.Proofs.YtfjplmbknegidaaGreatDoor.Sp
/-! Reachability over a table of names. -/
section
variable {ι : Type}
/-- Over edges, in one step or more. -/
inductive Up (E : ι → ι → Prop) : ι → ι → Prop
  | one {x y : ι} : E x y → Up E x y
  | step {x y z : ι} : E x y → Up E y z → Up E x z
theorem Up.trans {E : ι → ι → Prop} {x y z : ι} (h : Up E x y) (k : Up E y z) : Up E x z := by
  induction h with
  | one h => exact .step h k
  | step h _ ih => exact .step h (ih k)
theorem Up.last {E : ι → ι → Prop} {x z : ι} (h : Up E x z) : ∃ y, E y z ∧ (x = y ∨ Up E x y) := by
  induction h with
  | one h => exact ⟨_, h, .inl rfl⟩
  | @step x y z h k ih =>
    obtain ⟨u, h1, h2⟩ := ih
    refine ⟨u, h1, .inr ?_⟩
    rcases h2 with rfl | h2
    · exact .one h
    · exact .step h h2
theorem Up.first {E : ι → ι → Prop} {x z : ι} (h : Up E x z) : ∃ y, E x y ∧ (y = z ∨ Up E y z) := by
  cases h with
  | one h => exact ⟨_, h, .inl rfl⟩
  | step h k => exact ⟨_, h, .inr k⟩
theorem Up.mono {E F : ι → ι → Prop} {x z : ι} (hF : ∀ a b, E a b → F a b) (h : Up E x z) : Up F x z := by
  induction h with
  | one h => exact .one (hF _ _ h)
  | step h _ ih => exact .step (hF _ _ h) ih
/-- A set that is closed under edges bounds what is reached. -/
theorem Up.closed {E : ι → ι → Prop} {S : ι → Prop} (hS : ∀ a b, S a → E a b → S b) {x z : ι} (hx : S x) (h : Up E x z) : S z ∧ ∃ y, S y ∧ E y z := by
  induction h with
  | @one x y h => exact ⟨hS _ _ hx h, _, hx, h⟩
  | step h _ ih => exact ih (hS _ _ hx h)
theorem Up.not {E : ι → ι → Prop} {S : ι → Prop} {x z : ι} (hx : S x) (hS : ∀ a b, S a → E a b → S b ∧ b ≠ z) : ¬ Up E x z := fun h => by
  obtain ⟨_, y, hy, he⟩ := Up.closed (S := S) (fun a b q r => (hS a b q r).1) hx h
  exact (hS y z hy he).2 rfl
/-- How many of a list are not in a set yet. -/
def left [DecidableEq ι] (V : ι → Bool) : List ι → Nat
  | [] => 0
  | x :: l => (if V x then 0 else 1) + left V l
theorem left_mono [DecidableEq ι] {V V' : ι → Bool} (h : ∀ x, V x = true → V' x = true) : ∀ l : List ι, left V' l ≤ left V l
  | [] => Nat.le_refl _
  | x :: l => by
    have := left_mono h l
    unfold left
    cases hv : V x with
    | true => rw [h x hv]; simp; exact this
    | false => cases V' x <;> simp <;> omega
theorem left_put [DecidableEq ι] {V V' : ι → Bool} (h : ∀ x, V x = true → V' x = true) {s : ι} (h0 : V s = false) (h1 : V' s = true) : ∀ l : List ι, s ∈ l → left V' l + 1 ≤ left V l
  | x :: l, hs => by
    unfold left
    by_cases e : x = s
    · subst e
      rw [h0, h1]
      have := left_mono h l
      simp; omega
    · have hm : s ∈ l := by
        rcases List.mem_cons.1 hs with q | q
        · exact absurd q.symm e
        · exact q
      have := left_put h h0 h1 l hm
      cases hv : V x with
      | true => rw [h x hv]; simp; exact this
      | false => cases V' x <;> simp <;> omega
theorem left_none [DecidableEq ι] : ∀ l : List ι, left (fun _ => false) l = l.length
  | [] => rfl
  | x :: l => by unfold left; rw [left_none l]; simp; omega
theorem left_le [DecidableEq ι] (V : ι → Bool) : ∀ l : List ι, left V l ≤ l.length
  | [] => Nat.le_refl _
  | x :: l => by unfold left; have := left_le V l; rw [List.length_cons]; split <;> omega
/-- What a walk in depth tells, that began at x (or goes through a list ys of x's) with the set V and ended with V'. -/
structure Dfs (E : ι → ι → Prop) (up : ι) (V V' : ι → Bool) (x : ι) (ys : List ι) (r : Bool) : Prop where
  more : ∀ y, V y = true → V' y = true
  hit : r = true → Up E x up
  seen : r = false → ∀ y ∈ ys, V' y = true ∧ y ≠ up
  shut : r = false → ∀ y, V' y = true → V y = true ∨ ∀ z, E y z → V' z = true ∧ z ≠ up
theorem Dfs.nil (E : ι → ι → Prop) (up : ι) (V : ι → Bool) (x : ι) : Dfs E up V V x [] false :=
  ⟨fun _ h => h, fun h => (by cases h), fun _ y hy => (by cases hy), fun _ y h => .inl h⟩
/-- One more that was seen. -/
theorem Dfs.old {E : ι → ι → Prop} {up x : ι} {V V' : ι → Bool} {ys : List ι} {y : ι} (h : Dfs E up V V' x ys false) (hy : V' y = true) (hn : y ≠ up) : Dfs E up V V' x (ys ++ [y]) false :=
  ⟨h.more, fun q => (by cases q), fun _ z hz => by
    rcases List.mem_append.1 hz with q | q
    · exact h.seen rfl z q
    · obtain rfl : z = y := by simpa using q
      exact ⟨hy, hn⟩, h.shut⟩
/-- One more that was gone into: all its edges are told by D's list. -/
theorem Dfs.new {E : ι → ι → Prop} {up x : ι} {V V1 V1' V2 : ι → Bool} {ys zs : List ι} {y : ι} (h : Dfs E up V V1 x ys false) (hn : y ≠ up) (hp : ∀ z, V1' z = true ↔ (V1 z = true ∨ z = y)) (k : Dfs E up V1' V2 y zs false) (hz : ∀ z, E y z → z ∈ zs) :
    Dfs E up V V2 x (ys ++ [y]) false := by
  have h1 : ∀ z, V1 z = true → V2 z = true := fun z q => k.more z ((hp z).2 (.inl q))
  refine ⟨fun z q => h1 z (h.more z q), fun q => (by cases q), fun _ z hz' => ?_, fun _ z hv => ?_⟩
  · rcases List.mem_append.1 hz' with q | q
    · exact ⟨h1 z (h.seen rfl z q).1, (h.seen rfl z q).2⟩
    · obtain rfl : z = y := by simpa using q
      exact ⟨k.more z ((hp z).2 (.inr rfl)), hn⟩
  · rcases k.shut rfl z hv with q | q
    · rcases (hp z).1 q with q | rfl
      · rcases h.shut rfl z q with q | q
        · exact .inl q
        · exact .inr fun u hu => ⟨h1 u (q u hu).1, (q u hu).2⟩
      · exact .inr fun u hu => k.seen rfl u (hz u hu)
    · exact .inr q
theorem Dfs.deep {E : ι → ι → Prop} {up x : ι} {V V1 V1' V2 : ι → Bool} {ys zs : List ι} {y : ι} (h : Dfs E up V V1 x ys false) (hp : ∀ z, V1' z = true ↔ (V1 z = true ∨ z = y)) (k : Dfs E up V1' V2 y zs true) (he : E x y) (ws : List ι) :
    Dfs E up V V2 x ws true :=
  ⟨fun z q => k.more z ((hp z).2 (.inl (h.more z q))), fun _ => .step he (k.hit rfl), fun q => (by cases q), fun q => (by cases q)⟩
theorem Dfs.found {E : ι → ι → Prop} {up x : ι} {V V1 : ι → Bool} {ys : List ι} (h : Dfs E up V V1 x ys false) (he : E x up) (ws : List ι) : Dfs E up V V1 x ws true :=
  ⟨h.more, fun _ => .one he, fun q => (by cases q), fun q => (by cases q)⟩
/-- From nothing: what is told is what is reached. -/
theorem Dfs.done {E : ι → ι → Prop} {up x : ι} {V' : ι → Bool} {ys : List ι} {r : Bool} (h : Dfs E up (fun _ => false) V' x ys r) (hz : ∀ z, E x z → z ∈ ys) : r = true ↔ Up E x up := by
  constructor
  · exact h.hit
  · intro hu
    cases r with
    | true => rfl
    | false =>
      refine absurd hu (Up.not (S := fun z => z = x ∨ V' z = true) (.inl rfl) ?_)
      intro a b ha hab
      rcases ha with rfl | ha
      · have := h.seen rfl b (hz b hab)
        exact ⟨.inr this.1, this.2⟩
      · rcases h.shut rfl a ha with q | q
        · cases q
        · exact ⟨.inr (q b hab).1, (q b hab).2⟩
end
/-- What a table knows of a class. -/
structure Cl where
  name : ByteArray
  super : ByteArray
  ifaces : List ByteArray
  iface : Bool
  abs : Bool
  own : Bool
  at_ : Int
abbrev nilB : ByteArray := ⟨#[]⟩
def findC : List Cl → ByteArray → Option Cl
  | [], _ => none
  | c :: L, s => if c.name = s then some c else findC L s
def zC : Cl := ⟨nilB, nilB, [], false, false, false, 0⟩
def getC (L : List Cl) (s : ByteArray) : Cl := (findC L s).getD zC
theorem findC_name {L : List Cl} {s : ByteArray} {c : Cl} (h : findC L s = some c) : c.name = s ∧ c ∈ L := by
  induction L with
  | nil => cases h
  | cons d L ih =>
    unfold findC at h
    split at h
    · rename_i e
      cases h
      exact ⟨e, List.mem_cons_self ..⟩
    · exact ⟨(ih h).1, List.mem_cons_of_mem _ (ih h).2⟩
theorem findC_none {L : List Cl} {s : ByteArray} : findC L s = none ↔ ∀ c ∈ L, c.name ≠ s := by
  induction L with
  | nil => simp [findC]
  | cons d L ih =>
    unfold findC
    split
    · rename_i e; simp [e]
    · rename_i e; simp [ih, e]
theorem findC_append (L M : List Cl) (s : ByteArray) : findC (L ++ M) s = (findC L s).or (findC M s) := by
  induction L with
  | nil => simp [findC]
  | cons d L ih =>
    rw [List.cons_append, findC, findC]
    split
    · rfl
    · exact ih
theorem findC_mem {L : List Cl} {s : ByteArray} (h : s ∈ L.map (·.name)) : ∃ c, findC L s = some c := by
  cases h0 : findC L s with
  | some c => exact ⟨c, rfl⟩
  | none =>
    obtain ⟨c, hc, e⟩ := List.mem_map.1 h
    exact absurd e (findC_none.1 h0 c hc)
theorem findC_isSome {L : List Cl} {s : ByteArray} : (findC L s).isSome = true ↔ s ∈ L.map (·.name) := by
  constructor
  · intro h
    obtain ⟨c, hc⟩ := Option.isSome_iff_exists.1 h
    obtain ⟨h1, h2⟩ := findC_name hc
    exact List.mem_map.2 ⟨c, h2, h1⟩
  · intro h
    obtain ⟨c, hc⟩ := findC_mem h
    rw [hc]; rfl
/-- In a table whose names are all other ones, a class is found under its name. -/
theorem findC_of_mem {L : List Cl} (hd : (L.map (·.name)).Nodup) {c : Cl} (hc : c ∈ L) : findC L c.name = some c := by
  induction L with
  | nil => cases hc
  | cons d L ih =>
    rw [List.map_cons, List.nodup_cons] at hd
    unfold findC
    rcases List.mem_cons.1 hc with rfl | hc
    · rw [if_pos rfl]
    · rw [if_neg, ih hd.2 hc]
      intro e
      exact hd.1 (List.mem_map.2 ⟨c, hc, e.symm⟩)
/-- What stands directly above. -/
def EdgeC (L : List Cl) (x y : ByteArray) : Prop := y ∈ (getC L x).super :: (getC L x).ifaces
def UpC (L : List Cl) : ByteArray → ByteArray → Prop := Up (EdgeC L)
noncomputable def upB (L : List Cl) (x y : ByteArray) : Bool := @decide (UpC L x y) (Classical.propDecidable _)
theorem upB_iff {L : List Cl} {x y : ByteArray} : upB L x y = true ↔ UpC L x y := by
  unfold upB; exact @decide_eq_true_iff _ (Classical.propDecidable _)
/-- All that edges lead to. -/
def targets (L : List Cl) : List ByteArray := nilB :: L.flatMap (fun c => c.super :: c.ifaces)
theorem edge_target {L : List Cl} {x y : ByteArray} (h : EdgeC L x y) : y ∈ targets L := by
  unfold EdgeC getC at h
  cases hf : findC L x with
  | none =>
    rw [hf] at h
    obtain rfl : y = nilB := by simpa [zC] using h
    exact List.mem_cons_self ..
  | some c =>
    rw [hf] at h
    exact List.mem_cons_of_mem _ (List.mem_flatMap.2 ⟨c, (findC_name hf).2, h⟩)
theorem getC_some {L : List Cl} {s : ByteArray} {c : Cl} (h : findC L s = some c) : getC L s = c := by rw [getC, h]; rfl
theorem getC_none {L : List Cl} {s : ByteArray} (h : findC L s = none) : getC L s = zC := by rw [getC, h]; rfl
/-- No class is above itself. -/
def Acyc (L : List Cl) : Prop := ∀ c ∈ L, ¬ UpC L c.name c.name
theorem up_super {L : List Cl} {s : ByteArray} {c : Cl} (h : findC L s = some c) : UpC L s c.super := .one (by rw [EdgeC, getC_some h]; exact List.mem_cons_self ..)
def chainF : Nat → List Cl → ByteArray → List ByteArray
  | 0, _, _ => []
  | n + 1, L, s => match findC L s with
    | none => []
    | some c => c.name :: chainF n L c.super
def chainS (L : List Cl) (s : ByteArray) : List ByteArray := chainF L.length L s
theorem chain_fuel {L : List Cl} (ha : Acyc L) : ∀ (n m : Nat) (s : ByteArray) (V : ByteArray → Bool), (∀ x, V x = true → UpC L x s) → left V (L.map (·.name)) ≤ n → left V (L.map (·.name)) ≤ m → chainF n L s = chainF m L s := by
  intro n
  induction n with
  | zero =>
    intro m s V hV hn hm
    cases m with
    | zero => rfl
    | succ m =>
      cases hf : findC L s with
      | none => simp [chainF, hf]
      | some c =>
        exfalso
        obtain ⟨h1, h2⟩ := findC_name hf
        have hv : V s = false := by
          cases hq : V s with
          | false => rfl
          | true => exact absurd (h1 ▸ hV s hq) (ha c h2)
        have := left_put (V := V) (V' := fun x => V x || decide (x = s)) (fun x q => by simp [q]) hv (by simp) (L.map (·.name)) (List.mem_map.2 ⟨c, h2, h1⟩)
        omega
  | succ n ih =>
    intro m s V hV hn hm
    cases hf : findC L s with
    | none =>
      cases m with
      | zero => simp [chainF, hf]
      | succ m => simp [chainF, hf]
    | some c =>
      obtain ⟨h1, h2⟩ := findC_name hf
      have hv : V s = false := by
        cases hq : V s with
        | false => rfl
        | true => exact absurd (h1 ▸ hV s hq) (ha c h2)
      have hl := left_put (V := V) (V' := fun x => V x || decide (x = s)) (fun x q => by simp [q]) hv (by simp) (L.map (·.name)) (List.mem_map.2 ⟨c, h2, h1⟩)
      cases m with
      | zero => omega
      | succ m =>
        simp only [chainF, hf]
        rw [ih m c.super (fun x => V x || decide (x = s)) (fun x q => by
          rcases Bool.or_eq_true_iff.1 q with q | q
          · exact Up.trans (hV x q) (up_super hf)
          · obtain rfl : x = s := by simpa using q
            exact up_super hf) (by omega) (by omega)]
theorem chain_none {L : List Cl} {s : ByteArray} (h : findC L s = none) : chainS L s = [] := by
  unfold chainS
  cases L.length <;> simp [chainF, h]
theorem chain_some {L : List Cl} (ha : Acyc L) {s : ByteArray} {c : Cl} (h : findC L s = some c) : chainS L s = c.name :: chainS L c.super := by
  unfold chainS
  have h0 : chainF L.length L s = chainF (L.length + 1) L s := chain_fuel ha _ _ s (fun _ => false) (fun x q => by cases q) (by rw [left_none]; simp) (by rw [left_none]; simp)
  rw [h0]
  simp only [chainF, h]
/-- A longer table in which nothing more of what was is found. -/
theorem up_of_same {L M : List Cl} (S : ByteArray → Prop) (hS : ∀ x y, S x → EdgeC L x y → S y) (hg : ∀ x, S x → getC M x = getC L x) {x y : ByteArray} (hx : S x) : UpC L x y ↔ UpC M x y := by
  have h1 : ∀ x y, S x → (EdgeC L x y ↔ EdgeC M x y) := fun x y q => by rw [EdgeC, EdgeC, hg x q]
  constructor
  · intro h
    induction h with
    | one h => exact .one ((h1 _ _ hx).1 h)
    | step h _ ih => exact .step ((h1 _ _ hx).1 h) (ih (hS _ _ hx h))
  · intro h
    induction h with
    | one h => exact .one ((h1 _ _ hx).2 h)
    | step h _ ih =>
      have := (h1 _ _ hx).2 h
      exact .step this (ih (hS _ _ hx this))
def kindS (L : List Cl) (c : Cl) : Int :=
  match findC L c.super with
  | none => 14
  | some s =>
    if c.ifaces.any (fun i => (findC L i).isNone) = true then 14
    else if s.iface = true ∨ s.name = ⟨#[83, 116, 114, 105, 110, 103]⟩ ∨ s.name = ⟨#[87, 101, 97, 107]⟩ ∨ s.name = ⟨#[76, 111, 97, 100, 101, 114]⟩ ∨ (c.iface = true ∧ s.name ≠ ⟨#[79, 98, 106, 101, 99, 116]⟩) then 17
    else if c.ifaces.any (fun i => !(getC L i).iface) = true then 17 else 0
/-! Opening a table: each file is told by its error and its class. -/
abbrev RC := Int × Cl
def addS : List Cl → List RC → Nat → Int × Nat × List Cl
  | L, [], _ => (0, 0, L)
  | L, f :: fs, i => if f.1 ≠ 0 then (f.1, i, L) else if (findC L f.2.name).isSome = true then (15, i, L) else addS (L ++ [f.2]) fs (i + 1)
def kindsS (L : List Cl) : List Cl → Nat → Int × Nat
  | [], _ => (0, 0)
  | c :: cs, i => if kindS L c ≠ 0 then (kindS L c, i) else kindsS L cs (i + 1)
noncomputable def cycS (L : List Cl) : List Cl → Nat → Int × Nat
  | [], _ => (0, 0)
  | c :: cs, i => if upB L c.name c.name = true then (16, i) else cycS L cs (i + 1)
def unown (c : Cl) : Cl := { c with own := false }
noncomputable def openS (T : List Cl) (fs : List RC) : Option (List Cl) × Int × Nat :=
  if 64 < fs.length then (none, 3, 0)
  else if (addS (T.map unown) fs 0).1 ≠ 0 then (none, (addS (T.map unown) fs 0).1, (addS (T.map unown) fs 0).2.1)
  else if (kindsS (T.map unown ++ fs.map (·.2)) (fs.map (·.2)) 0).1 ≠ 0 then (none, kindsS (T.map unown ++ fs.map (·.2)) (fs.map (·.2)) 0)
  else if (cycS (T.map unown ++ fs.map (·.2)) (fs.map (·.2)) 0).1 ≠ 0 then (none, cycS (T.map unown ++ fs.map (·.2)) (fs.map (·.2)) 0)
  else (some (T.map unown ++ fs.map (·.2)), 0, 0)
theorem add_ok : ∀ {fs : List RC} {L : List Cl} {i : Nat}, (addS L fs i).1 = 0 → (addS L fs i).2 = (0, L ++ fs.map (·.2)) ∧ (∀ f ∈ fs, f.1 = 0) ∧ ((L.map (·.name)).Nodup → ((L ++ fs.map (·.2)).map (·.name)).Nodup)
  | [], L, i, _ => ⟨by simp [addS], by simp, by simp⟩
  | f :: fs, L, i, h => by
    rw [addS] at h ⊢
    split at h
    · rename_i q; exact absurd h q
    · rename_i q
      split at h
      · simp at h
      · rename_i q2
        rw [if_neg q, if_neg q2]
        obtain ⟨h1, h2, h3⟩ := add_ok h
        refine ⟨by rw [h1]; simp, fun g hg => ?_, fun hd => ?_⟩
        · rcases List.mem_cons.1 hg with rfl | hg
          · simpa using q
          · exact h2 g hg
        · have := h3 (by
            rw [List.map_append, List.nodup_append]
            refine ⟨hd, by simp, fun a ha b hb => ?_⟩
            obtain rfl : b = f.2.name := by simpa using hb
            rintro rfl
            exact q2 (findC_isSome.2 ha))
          simpa using this
theorem kinds_ok {L : List Cl} : ∀ {cs : List Cl} {i : Nat}, (kindsS L cs i).1 = 0 → ∀ c ∈ cs, kindS L c = 0
  | [], _, _, c, hc => by cases hc
  | d :: cs, i, h, c, hc => by
    rw [kindsS] at h
    split at h
    · rename_i q; exact absurd h q
    · rename_i q
      rcases List.mem_cons.1 hc with rfl | hc
      · simpa using q
      · exact kinds_ok h c hc
theorem cyc_ok {L : List Cl} : ∀ {cs : List Cl} {i : Nat}, (cycS L cs i).1 = 0 → ∀ c ∈ cs, ¬ UpC L c.name c.name
  | [], _, _, c, hc => by cases hc
  | d :: cs, i, h, c, hc => by
    rw [cycS] at h
    split at h
    · simp at h
    · rename_i q
      rcases List.mem_cons.1 hc with rfl | hc
      · exact fun u => q (upB_iff.2 u)
      · exact cyc_ok h c hc
abbrev objB : ByteArray := ⟨#[79, 98, 106, 101, 99, 116]⟩
/-- What holds of a table. -/
structure Tb (L : List Cl) : Prop where
  nodup : (L.map (·.name)).Nodup
  nonil : ∀ c ∈ L, c.name ≠ nilB
  object : ∃ c, findC L objB = some c ∧ c.super = nilB ∧ c.ifaces = [] ∧ c.iface = false
  super : ∀ c ∈ L, c.name ≠ objB → ∃ s, findC L c.super = some s ∧ s.iface = false ∧ (c.iface = true → c.super = objB)
  ifaces : ∀ c ∈ L, ∀ i ∈ c.ifaces, ∃ s, findC L i = some s ∧ s.iface = true
  acyc : Acyc L
theorem findC_unown (L : List Cl) (s : ByteArray) : findC (L.map unown) s = (findC L s).map unown := by
  induction L with
  | nil => rfl
  | cons c L ih =>
    rw [List.map_cons, findC, findC, ih]
    by_cases h : c.name = s
    · rw [if_pos (show (unown c).name = s from h), if_pos h]; rfl
    · rw [if_neg (show ¬ (unown c).name = s from h), if_neg h]
theorem edge_unown (L : List Cl) (x y : ByteArray) : EdgeC (L.map unown) x y ↔ EdgeC L x y := by
  rw [EdgeC, EdgeC, getC, getC, findC_unown]
  cases findC L x <;> rfl
theorem up_unown (L : List Cl) (x y : ByteArray) : UpC (L.map unown) x y ↔ UpC L x y :=
  ⟨Up.mono fun a b h => (edge_unown L a b).1 h, Up.mono fun a b h => (edge_unown L a b).2 h⟩
theorem Tb.unown {L : List Cl} (h : Tb L) : Tb (L.map Sp.unown) := by
  have hn : (L.map Sp.unown).map (·.name) = L.map (·.name) := by simp [Sp.unown]
  refine ⟨by rw [hn]; exact h.nodup, fun c hc => ?_, ?_, fun c hc hne => ?_, fun c hc i hi => ?_, fun c hc => ?_⟩
  · obtain ⟨d, hd, rfl⟩ := List.mem_map.1 hc; exact h.nonil d hd
  · obtain ⟨c, h1, h2, h3, h4⟩ := h.object
    exact ⟨Sp.unown c, by rw [findC_unown, h1]; rfl, h2, h3, h4⟩
  · obtain ⟨d, hd, rfl⟩ := List.mem_map.1 hc
    obtain ⟨s, h1, h2, h3⟩ := h.super d hd hne
    exact ⟨Sp.unown s, by rw [findC_unown, show (Sp.unown d).super = d.super from rfl, h1]; rfl, h2, h3⟩
  · obtain ⟨d, hd, rfl⟩ := List.mem_map.1 hc
    obtain ⟨s, h1, h2⟩ := h.ifaces d hd i hi
    exact ⟨Sp.unown s, by rw [findC_unown, h1]; rfl, h2⟩
  · obtain ⟨d, hd, rfl⟩ := List.mem_map.1 hc
    exact fun u => h.acyc d hd ((up_unown L _ _).1 u)
theorem kind_ok {L : List Cl} {c : Cl} (h : kindS L c = 0) : ∃ s, findC L c.super = some s ∧ s.iface = false ∧ (c.iface = true → c.super = objB) ∧ ∀ i ∈ c.ifaces, ∃ t, findC L i = some t ∧ t.iface = true := by
  unfold kindS at h
  split at h
  · cases h
  · rename_i s hs
    split at h
    · cases h
    · rename_i q1
      split at h
      · cases h
      · rename_i q2
        split at h
        · cases h
        · rename_i q3
          simp only [not_or, not_and, Bool.not_eq_true] at q2
          refine ⟨s, hs, q2.1, fun hi => ?_, fun i hi => ?_⟩
          · have := q2.2.2.2.2 hi
            rw [← (findC_name hs).1]
            exact Classical.not_not.1 this
          · have e1 : (findC L i).isNone = false := by
              cases e : (findC L i).isNone with
              | false => rfl
              | true => exact absurd (List.any_eq_true.2 ⟨i, hi, e⟩) q1
            have e2 : (getC L i).iface = true := by
              cases e : (getC L i).iface with
              | true => rfl
              | false => exact absurd (List.any_eq_true.2 ⟨i, hi, by rw [e]; rfl⟩) q3
            cases e : findC L i with
            | none => rw [e] at e1; cases e1
            | some t => exact ⟨t, rfl, by rw [getC_some e] at e2; exact e2⟩
/-- From names of a table edges lead to names of it, or to none. -/
theorem Tb.edge {L : List Cl} (h : Tb L) {x y : ByteArray} (he : EdgeC L x y) : y = nilB ∨ y ∈ L.map (·.name) := by
  unfold EdgeC at he
  cases hf : findC L x with
  | none =>
    rw [getC_none hf] at he
    exact .inl (by simpa [zC] using he)
  | some c =>
    rw [getC_some hf] at he
    obtain ⟨e1, e2⟩ := findC_name hf
    rcases List.mem_cons.1 he with rfl | hi
    · by_cases hne : c.name = objB
      · obtain ⟨d, h1, h2, _⟩ := h.object
        rw [← hne, e1, hf] at h1
        cases h1
        exact .inl h2
      · obtain ⟨s, h1, _⟩ := h.super c e2 hne
        exact .inr (findC_isSome.1 (by rw [h1]; rfl))
    · obtain ⟨s, h1, _⟩ := h.ifaces c e2 y hi
      exact .inr (findC_isSome.1 (by rw [h1]; rfl))
theorem getC_append_left {L M : List Cl} {x : ByteArray} (hx : x ∈ L.map (·.name)) : getC (L ++ M) x = getC L x ∧ findC (L ++ M) x = findC L x := by
  obtain ⟨c, hc⟩ := findC_mem hx
  have : findC (L ++ M) x = findC L x := by rw [findC_append, hc]; rfl
  exact ⟨by rw [getC, getC, this], this⟩
/-- What stands above the classes of a table is the same in a longer one. -/
theorem Tb.up_append {L M : List Cl} (h : Tb L) (hM : ∀ c ∈ L ++ M, c.name ≠ nilB) {x y : ByteArray} (hx : x ∈ L.map (·.name)) : UpC L x y ↔ UpC (L ++ M) x y := by
  refine up_of_same (fun z => z = nilB ∨ z ∈ L.map (·.name)) (fun a b ha hab => h.edge hab) (fun z hz => ?_) (.inr hx)
  rcases hz with rfl | hz
  · rw [getC_none (findC_none.2 hM), getC_none (findC_none.2 (fun c hc => hM c (List.mem_append_left _ hc)))]
  · exact (getC_append_left hz).1
theorem open_some {T : List Cl} {fs : List RC} {L : List Cl} (h : (openS T fs).1 = some L) : L = T.map unown ++ fs.map (·.2) ∧ (openS T fs).2 = (0, 0) ∧ fs.length ≤ 64 ∧ (∀ f ∈ fs, f.1 = 0 ∧ kindS L f.2 = 0 ∧ ¬ UpC L f.2.name f.2.name) ∧ ((T.map (·.name)).Nodup → (L.map (·.name)).Nodup) := by
  unfold openS at h ⊢
  split at h
  · cases h
  · rename_i q0
    split at h
    · cases h
    · rename_i q1
      split at h
      · cases h
      · rename_i q2
        split at h
        · cases h
        · rename_i q3
          rw [if_neg q0, if_neg q1, if_neg q2, if_neg q3]
          injection h with h
          subst h
          obtain ⟨a1, a2, a3⟩ := add_ok (Classical.not_not.1 q1)
          refine ⟨rfl, rfl, by omega, fun f hf => ⟨a2 f hf, kinds_ok (Classical.not_not.1 q2) f.2 (List.mem_map.2 ⟨f, hf, rfl⟩), cyc_ok (Classical.not_not.1 q3) f.2 (List.mem_map.2 ⟨f, hf, rfl⟩)⟩, fun hd => a3 ?_⟩
          rwa [show (T.map unown).map (·.name) = T.map (·.name) by simp [unown]]
theorem open_tb {T : List Cl} {fs : List RC} {L : List Cl} (hT : Tb T) (hn : ∀ f ∈ fs, f.1 = 0 → f.2.name ≠ nilB) (h : (openS T fs).1 = some L) : Tb L := by
  obtain ⟨hL, _, _, hf, hd⟩ := open_some h
  have hU := hT.unown
  have hnn : ∀ c ∈ T.map unown ++ fs.map (·.2), c.name ≠ nilB := fun c hc => by
    rcases List.mem_append.1 hc with q | q
    · exact hU.nonil c q
    · obtain ⟨f, hf', rfl⟩ := List.mem_map.1 q
      exact hn f hf' (hf f hf').1
  subst hL
  have hfind : ∀ {x : ByteArray} {s : Cl}, findC (T.map unown) x = some s → findC (T.map unown ++ fs.map (·.2)) x = some s := fun {x s} q => by rw [findC_append, q]; rfl
  obtain ⟨o, o1, o2, o3, o4⟩ := hU.object
  refine ⟨hd hT.nodup, hnn, ⟨o, hfind o1, o2, o3, o4⟩, fun c hc hne => ?_, fun c hc i hi => ?_, fun c hc => ?_⟩
  · rcases List.mem_append.1 hc with q | q
    · obtain ⟨s, h1, h2⟩ := hU.super c q hne
      exact ⟨s, hfind h1, h2⟩
    · obtain ⟨f, hf', rfl⟩ := List.mem_map.1 q
      obtain ⟨s, h1, h2, h3, h4⟩ := kind_ok (hf f hf').2.1
      exact ⟨s, h1, h2, h3⟩
  · rcases List.mem_append.1 hc with q | q
    · obtain ⟨s, h1, h2⟩ := hU.ifaces c q i hi
      exact ⟨s, hfind h1, h2⟩
    · obtain ⟨f, hf', rfl⟩ := List.mem_map.1 q
      obtain ⟨s, h1, h2, h3, h4⟩ := kind_ok (hf f hf').2.1
      exact h4 i hi
  · rcases List.mem_append.1 hc with q | q
    · exact fun u => hU.acyc c q ((hU.up_append hnn (List.mem_map.2 ⟨c, q, rfl⟩)).2 u)
    · obtain ⟨f, hf', rfl⟩ := List.mem_map.1 q
      exact (hf f hf').2.2
/-! Which type is below which; the least type above two. -/
noncomputable def knownS (L : List Cl) (a : Ty) : Bool := rightS a && (decide (a.2 = nilB) || (findC L a.2).isSome)
noncomputable def subN (L : List Cl) : Nat → Ty → Ty → Bool
  | n, a, b => if a = b then true else if isRefS a = false ∨ isRefS b = false then false else if b = (0, objB) then true else
    match n with
    | 0 => decide (a.1 = 0) && decide (b.1 = 0) && upB L a.2 b.2
    | n + 1 => if 0 < a.1 ∧ 0 < b.1 then subN L n (a.1 - 1, a.2) (b.1 - 1, b.2) else decide (a.1 = 0) && decide (b.1 = 0) && upB L a.2 b.2
noncomputable def subS (L : List Cl) (a b : Ty) : Bool := knownS L a && knownS L b && subN L a.1.toNat a b
def commonS : List ByteArray → List ByteArray → ByteArray
  | [], _ => objB
  | x :: l, m => if m.any (fun y => decide (y = x)) = true then x else commonS l m
def lub0 (L : List Cl) (a b : Ty) : Ty := if a.1 = 0 ∧ b.1 = 0 ∧ (getC L a.2).iface = false ∧ (getC L b.2).iface = false then (0, commonS (chainS L a.2) (chainS L b.2)) else (0, objB)
noncomputable def lubN (L : List Cl) : Nat → Ty → Ty → Ty
  | n, a, b => if a = b then a else
    match n with
    | 0 => lub0 L a b
    | n + 1 => if 0 < a.1 ∧ 0 < b.1 ∧ isRefS (a.1 - 1, a.2) = true ∧ isRefS (b.1 - 1, b.2) = true then ((lubN L n (a.1 - 1, a.2) (b.1 - 1, b.2)).1 + 1, (lubN L n (a.1 - 1, a.2) (b.1 - 1, b.2)).2) else lub0 L a b
noncomputable def lubS (L : List Cl) (a b : Ty) : Ty × Bool := if knownS L a = true ∧ knownS L b = true ∧ isRefS a = true ∧ isRefS b = true then (lubN L a.1.toNat a b, true) else ((0, nilB), false)
/-- How deep a type's references go, and what lies at the bottom (none: an array of numbers). -/
abbrev Nf := Nat × Option ByteArray
def normT (a : Ty) : Nf := if a.2 = nilB then (a.1.toNat - 1, none) else (a.1.toNat, some a.2)
def unnorm (x : Nf) : Ty := match x.2 with
  | none => ((x.1 : Int) + 1, nilB)
  | some n => ((x.1 : Int), n)
theorem size_nil (n : ByteArray) : n.size = 0 ↔ n = nilB := by
  constructor
  · intro h
    obtain ⟨⟨l⟩⟩ := n
    have : l = [] := List.eq_nil_of_length_eq_zero h
    rw [this]
  · rintro rfl; rfl
theorem ref_pos {a : Ty} (h : isRefS a = true) : 0 ≤ a.1 ∧ (a.2 = nilB → 0 < a.1) ∧ a.1 ≤ 4 := by
  simp only [isRefS, rightS, Bool.and_eq_true, Bool.or_eq_true, decide_eq_true_eq] at h
  refine ⟨h.1.1.1, fun q => ?_, h.1.1.2⟩
  rcases h.2 with h | h
  · exact h
  · exact absurd ((size_nil _).2 q) h
theorem ref_less {a : Ty} (h : isRefS a = true) (h0 : 0 < a.1) : isRefS (a.1 - 1, a.2) = true ↔ (1 < a.1 ∨ a.2 ≠ nilB) := by
  simp only [isRefS, rightS, Bool.and_eq_true, Bool.or_eq_true, decide_eq_true_eq] at h ⊢
  rw [show (a.2 ≠ nilB) = (a.2.size ≠ 0) from propext (not_congr (size_nil a.2).symm)]
  constructor
  · rintro ⟨_, q⟩
    rcases q with q | q
    · exact .inl (by omega)
    · exact .inr q
  · intro q
    refine ⟨⟨⟨by omega, by omega⟩, h.1.2⟩, ?_⟩
    rcases q with q | q
    · exact .inl (by omega)
    · exact .inr q
theorem norm_unnorm {a : Ty} (h : isRefS a = true) : unnorm (normT a) = a := by
  obtain ⟨h0, h1, _⟩ := ref_pos h
  obtain ⟨d, n⟩ := a
  simp only at h0 h1
  unfold normT
  simp only
  by_cases q : n = nilB
  · have := h1 q
    rw [if_pos q, q]
    simp only [unnorm, Prod.mk.injEq, and_true]
    omega
  · rw [if_neg q]
    simp only [unnorm, Prod.mk.injEq, and_true]
    omega
theorem norm_inj {a b : Ty} (ha : isRefS a = true) (hb : isRefS b = true) (h : normT a = normT b) : a = b := by
  rw [← norm_unnorm ha, h, norm_unnorm hb]
/-- Below, of what lies so deep. -/
def LeN (L : List Cl) (x y : Nf) : Prop := (x.1 = y.1 ∧ (x.2 = y.2 ∨ ∃ n m, x.2 = some n ∧ y.2 = some m ∧ UpC L n m)) ∨ (y.1 ≤ x.1 ∧ y.2 = some objB)
theorem obj_ne : ¬ objB = nilB := by decide
theorem sub_norm (L : List Cl) : ∀ (n : Nat) (a b : Ty), a.1.toNat = n → isRefS a = true → isRefS b = true → (subN L n a b = true ↔ LeN L (normT a) (normT b)) := by
  intro n
  induction n with
  | zero =>
    intro a b hn ha hb
    obtain ⟨a0, a1, _⟩ := ref_pos ha
    obtain ⟨b0, b1, _⟩ := ref_pos hb
    obtain ⟨d, x⟩ := a
    obtain ⟨e, y⟩ := b
    simp only at a0 a1 b0 b1 hn
    have hd : d = 0 := by omega
    subst hd
    have hx : ¬ x = nilB := fun q => by have := a1 q; omega
    have na : normT (0, x) = (0, some x) := by simp [normT, hx]
    unfold subN
    by_cases hab : ((0 : Int), x) = (e, y)
    · rw [if_pos hab]
      refine ⟨fun _ => .inl ⟨by rw [hab], .inl (by rw [hab])⟩, fun _ => rfl⟩
    · rw [if_neg hab, if_neg (by rw [ha, hb]; simp)]
      by_cases ho : (e, y) = ((0 : Int), objB)
      · rw [if_pos ho]
        refine ⟨fun _ => .inr ?_, fun _ => rfl⟩
        rw [ho]
        simp [normT, obj_ne]
      · rw [if_neg ho, na]
        simp only [Bool.and_eq_true, decide_eq_true_eq, upB_iff, true_and]
        unfold LeN normT
        simp only
        constructor
        · rintro ⟨rfl, hu⟩
          have hy : ¬ y = nilB := fun q => by have := b1 q; omega
          rw [if_neg hy]
          exact .inl ⟨rfl, .inr ⟨x, y, rfl, rfl, hu⟩⟩
        · intro h
          by_cases hy : y = nilB
          · rw [if_pos hy] at h
            rcases h with ⟨_, h | ⟨n, m, _, h, _⟩⟩ | ⟨_, h⟩
            · cases h
            · cases h
            · cases h
          · rw [if_neg hy] at h
            simp only at h
            have he : e = 0 := by
              rcases h with ⟨h, _⟩ | ⟨h, _⟩ <;> omega
            subst he
            refine ⟨rfl, ?_⟩
            rcases h with ⟨_, h | ⟨n, m, hn, hm, h⟩⟩ | ⟨_, h⟩
            · cases h; exact absurd rfl hab
            · cases hn; cases hm; exact h
            · cases h; exact absurd rfl ho
  | succ n ih =>
    intro a b hn ha hb
    obtain ⟨a0, a1, a4⟩ := ref_pos ha
    obtain ⟨b0, b1, b4⟩ := ref_pos hb
    obtain ⟨d, x⟩ := a
    obtain ⟨e, y⟩ := b
    simp only at a0 a1 b0 b1 hn a4 b4
    have hd : 0 < d := by omega
    unfold subN
    by_cases hab : (d, x) = (e, y)
    · rw [if_pos hab]
      refine ⟨fun _ => .inl ⟨by rw [hab], .inl (by rw [hab])⟩, fun _ => rfl⟩
    · rw [if_neg hab, if_neg (by rw [ha, hb]; simp)]
      by_cases ho : (e, y) = ((0 : Int), objB)
      · rw [if_pos ho]
        refine ⟨fun _ => .inr ?_, fun _ => rfl⟩
        rw [ho]
        simp [normT, obj_ne]
      · rw [if_neg ho]
        simp only
        by_cases he : 0 < e
        · rw [if_pos ⟨hd, he⟩]
          by_cases hr : isRefS (d - 1, x) = true ∧ isRefS (e - 1, y) = true
          · rw [ih (d - 1, x) (e - 1, y) (by simp only; omega) hr.1 hr.2]
            have q1 := (ref_less ha hd).1 hr.1
            have q2 := (ref_less hb he).1 hr.2
            simp only at q1 q2
            have n1 : (normT (d, x)) = ((normT (d - 1, x)).1 + 1, (normT (d - 1, x)).2) := by
              unfold normT; simp only
              split
              · rename_i q; rcases q1 with q1 | q1
                · simp only [Prod.mk.injEq, and_true]; omega
                · exact absurd q q1
              · simp only [Prod.mk.injEq, and_true]; omega
            have n2 : (normT (e, y)) = ((normT (e - 1, y)).1 + 1, (normT (e - 1, y)).2) := by
              unfold normT; simp only
              split
              · rename_i q; rcases q2 with q2 | q2
                · simp only [Prod.mk.injEq, and_true]; omega
                · exact absurd q q2
              · simp only [Prod.mk.injEq, and_true]; omega
            rw [n1, n2]
            unfold LeN
            simp only [Nat.add_right_cancel_iff, Nat.add_le_add_iff_right]
          · have hs : subN L n (d - 1, x) (e - 1, y) = true ↔ (d - 1, x) = (e - 1, y) := by
              unfold subN
              by_cases q : (d - 1, x) = (e - 1, y)
              · rw [if_pos q]; simp [q]
              · rw [if_neg q, if_pos]
                · simp [q]
                · by_cases q1 : isRefS (d - 1, x) = true
                  · right; simpa using fun q2 => hr ⟨q1, q2⟩
                  · left; simpa using q1
            rw [hs]
            constructor
            · intro q
              refine absurd ?_ hab
              simp only [Prod.mk.injEq] at q ⊢
              exact ⟨by omega, q.2⟩
            · intro h
              exfalso
              have q : (d = 1 ∧ x = nilB) ∨ (e = 1 ∧ y = nilB) := by
                apply Classical.byContradiction
                intro q
                refine hr ⟨(ref_less ha hd).2 ?_, (ref_less hb he).2 ?_⟩
                · simp only
                  by_cases w : x = nilB
                  · left
                    have : ¬ d = 1 := fun w1 => q (.inl ⟨w1, w⟩)
                    omega
                  · exact .inr w
                · simp only
                  by_cases w : y = nilB
                  · left
                    have : ¬ e = 1 := fun w1 => q (.inr ⟨w1, w⟩)
                    omega
                  · exact .inr w
              rcases q with ⟨rfl, rfl⟩ | ⟨rfl, rfl⟩
              · unfold LeN normT at h
                simp only [if_pos] at h
                by_cases hy : y = nilB
                · subst hy
                  simp only [if_pos] at h
                  rcases h with ⟨h, _⟩ | ⟨_, h⟩
                  · exact hab (by rw [show e = 1 by omega])
                  · cases h
                · rw [if_neg hy] at h
                  simp only at h
                  rcases h with ⟨h, _⟩ | ⟨h, _⟩ <;> omega
              · unfold LeN normT at h
                simp only [if_pos] at h
                by_cases hx : x = nilB
                · subst hx
                  simp only [if_pos] at h
                  rcases h with ⟨h, _⟩ | ⟨_, h⟩
                  · exact hab (by rw [show d = 1 by omega])
                  · cases h
                · rw [if_neg hx] at h
                  simp only at h
                  rcases h with ⟨h, _⟩ | ⟨_, h⟩
                  · omega
                  · cases h
        · rw [if_neg (by omega)]
          have he0 : e = 0 := by omega
          subst he0
          have hy : ¬ y = nilB := fun q => by have := b1 q; omega
          have hd0 : ¬ d = 0 := by omega
          simp only [decide_eq_false hd0, Bool.false_and]
          refine ⟨fun q => (by cases q), fun h => ?_⟩
          exfalso
          unfold LeN at h
          rw [show normT ((0 : Int), y) = (0, some y) by simp [normT, hy]] at h
          rcases h with ⟨h, h2⟩ | ⟨_, h⟩
          · unfold normT at h h2
            simp only at h h2
            by_cases hx : x = nilB
            · rw [if_pos hx] at h2
              rcases h2 with h2 | ⟨n, m, h2, _⟩ <;> cases h2
            · rw [if_neg hx] at h
              simp only at h
              omega
          · cases h; exact ho rfl
/-! The least type above two. -/
noncomputable def nl (L : List Cl) (x y : Option ByteArray) : Option ByteArray := if x = y then x else
  match x, y with
  | some n, some m => if (getC L n).iface = false ∧ (getC L m).iface = false then some (commonS (chainS L n) (chainS L m)) else some objB
  | _, _ => some objB
noncomputable def lubF (L : List Cl) (x y : Nf) : Nf := if x.1 = y.1 then (x.1, nl L x.2 y.2) else (min x.1 y.1, some objB)
theorem common_mem (l m : List ByteArray) : commonS l m = objB ∨ (commonS l m ∈ l ∧ commonS l m ∈ m) := by
  induction l with
  | nil => exact .inl rfl
  | cons x l ih =>
    unfold commonS
    split
    · rename_i h
      obtain ⟨y, hy, e⟩ := List.any_eq_true.1 h
      obtain rfl : y = x := by simpa using e
      exact .inr ⟨List.mem_cons_self .., hy⟩
    · rcases ih with h | h
      · exact .inl h
      · exact .inr ⟨List.mem_cons_of_mem _ h.1, h.2⟩
/-- All names of a table may be names. -/
def Nm (L : List Cl) : Prop := nameS objB = true ∧ ∀ c ∈ L, nameS c.name = true
theorem chainF_mem {L : List Cl} : ∀ (n : Nat) (s x : ByteArray), x ∈ chainF n L s → x ∈ L.map (·.name)
  | 0, _, _, h => by simp [chainF] at h
  | n + 1, s, x, h => by
    unfold chainF at h
    split at h
    · cases h
    · rename_i c hc
      rcases List.mem_cons.1 h with rfl | h
      · exact List.mem_map.2 ⟨c, (findC_name hc).2, rfl⟩
      · exact chainF_mem n _ _ h
theorem chain_names {L : List Cl} {s x : ByteArray} (h : x ∈ chainS L s) : x ∈ L.map (·.name) := chainF_mem _ _ _ h
theorem ref_name {n : ByteArray} (h : nameS n = true) (h0 : n ≠ nilB) {d : Int} (hd : 0 ≤ d) (hd4 : d ≤ 4) : isRefS (d, n) = true := by
  simp only [isRefS, rightS, Bool.and_eq_true, Bool.or_eq_true, decide_eq_true_eq]
  exact ⟨⟨⟨hd, hd4⟩, .inr h⟩, .inr fun q => h0 ((size_nil n).1 q)⟩
theorem lub0_ref {L : List Cl} (hL : Tb L) (hN : Nm L) (a b : Ty) : isRefS (lub0 L a b) = true ∧ (lub0 L a b).1 = 0 := by
  unfold lub0
  split
  · refine ⟨?_, rfl⟩
    rcases common_mem (chainS L a.2) (chainS L b.2) with h | ⟨h, _⟩
    · rw [h]; exact ref_name hN.1 obj_ne (by decide) (by decide)
    · obtain ⟨c, hc, e⟩ := List.mem_map.1 (chain_names h)
      rw [← e]
      exact ref_name (hN.2 c hc) (hL.nonil c hc) (by decide) (by decide)
  · exact ⟨ref_name hN.1 obj_ne (by decide) (by decide), rfl⟩
theorem lub0_norm (L : List Cl) {x : ByteArray} {b : Ty} (hx : x ≠ nilB) (hb : isRefS b = true) (hab : ((0 : Int), x) ≠ b) (hl : isRefS (lub0 L (0, x) b) = true) : normT (lub0 L (0, x) b) = lubF L (0, some x) (normT b) := by
  obtain ⟨b0, b1, _⟩ := ref_pos hb
  obtain ⟨e, y⟩ := b
  simp only at b0 b1
  have hl1 := (ref_pos hl).2.1
  have hO : normT ((0 : Int), objB) = (0, some objB) := by simp [normT, obj_ne]
  by_cases he : e = 0
  · subst he
    have hy : ¬ y = nilB := fun q => by have := b1 q; omega
    have hxy : ¬ x = y := fun q => hab (by rw [q])
    have hB : normT ((0 : Int), y) = (0, some y) := by simp [normT, hy]
    by_cases hi : (getC L x).iface = false ∧ (getC L y).iface = false
    · have hv : lub0 L (0, x) (0, y) = (0, commonS (chainS L x) (chainS L y)) := by unfold lub0; rw [if_pos ⟨rfl, rfl, hi.1, hi.2⟩]
      rw [hv] at hl1 ⊢
      have hc : ¬ commonS (chainS L x) (chainS L y) = nilB := fun q => by have := hl1 q; simp at this
      rw [hB]
      simp [normT, hc, lubF, nl, hxy, hi.1, hi.2]
    · have hv : lub0 L (0, x) (0, y) = (0, objB) := by unfold lub0; rw [if_neg (fun q => hi ⟨q.2.2.1, q.2.2.2⟩)]
      rw [hv, hO, hB]
      simp only [lubF, nl, if_true, Option.some.injEq, if_neg hxy, if_neg hi]
  · have hv : lub0 L (0, x) (e, y) = (0, objB) := by unfold lub0; rw [if_neg (fun q => he q.2.1)]
    rw [hv, hO]
    unfold lubF normT
    by_cases hy : y = nilB
    · simp only [if_pos hy]
      split
      · simp [nl]
      · simp
    · simp only [if_neg hy]
      rw [if_neg (by omega)]
      simp
theorem lub0_arr (L : List Cl) {a b : Ty} (ha : isRefS a = true) (hb : isRefS b = true) (h : ¬ (a.1 = 0 ∧ b.1 = 0)) : lub0 L a b = (0, objB) := by
  unfold lub0
  rw [if_neg (fun q => h ⟨q.1, q.2.1⟩)]
theorem lub_norm {L : List Cl} (hL : Tb L) (hN : Nm L) : ∀ (n : Nat) (a b : Ty), a.1.toNat = n → isRefS a = true → isRefS b = true → isRefS (lubN L n a b) = true ∧ (lubN L n a b).1 ≤ a.1 ∧ normT (lubN L n a b) = lubF L (normT a) (normT b) := by
  intro n
  induction n with
  | zero =>
    intro a b hn ha hb
    obtain ⟨a0, a1, _⟩ := ref_pos ha
    obtain ⟨d, x⟩ := a
    simp only at a0 a1 hn
    obtain rfl : d = 0 := by omega
    have hx : ¬ x = nilB := fun q => by have := a1 q; omega
    have na : normT (0, x) = (0, some x) := by simp [normT, hx]
    unfold lubN
    by_cases hab : ((0 : Int), x) = b
    · rw [if_pos hab]
      refine ⟨ha, Int.le_refl _, ?_⟩
      rw [← hab]
      simp [lubF, nl]
    · rw [if_neg hab]
      have := lub0_ref hL hN (0, x) b
      exact ⟨this.1, by rw [this.2]; exact Int.le_refl _, by rw [lub0_norm L hx hb hab this.1, na]⟩
  | succ n ih =>
    intro a b hn ha hb
    obtain ⟨a0, a1, a4⟩ := ref_pos ha
    obtain ⟨b0, b1, b4⟩ := ref_pos hb
    have hd : 0 < a.1 := by omega
    unfold lubN
    by_cases hab : a = b
    · rw [if_pos hab]
      refine ⟨ha, Int.le_refl _, ?_⟩
      rw [← hab]
      simp [lubF, nl]
    · rw [if_neg hab]
      simp only
      by_cases hr : 0 < a.1 ∧ 0 < b.1 ∧ isRefS (a.1 - 1, a.2) = true ∧ isRefS (b.1 - 1, b.2) = true
      · rw [if_pos hr]
        obtain ⟨_, he, hr1, hr2⟩ := hr
        obtain ⟨k1, k2, k3⟩ := ih (a.1 - 1, a.2) (b.1 - 1, b.2) (by simp only; omega) hr1 hr2
        have q1 := (ref_less ha hd).1 hr1
        have q2 := (ref_less hb he).1 hr2
        have n1 : (normT a) = ((normT (a.1 - 1, a.2)).1 + 1, (normT (a.1 - 1, a.2)).2) := by
          unfold normT; simp only
          split
          · rename_i q; rcases q1 with q1 | q1
            · simp only [Prod.mk.injEq, and_true]; omega
            · exact absurd q q1
          · simp only [Prod.mk.injEq, and_true]; omega
        have n2 : (normT b) = ((normT (b.1 - 1, b.2)).1 + 1, (normT (b.1 - 1, b.2)).2) := by
          unfold normT; simp only
          split
          · rename_i q; rcases q2 with q2 | q2
            · simp only [Prod.mk.injEq, and_true]; omega
            · exact absurd q q2
          · simp only [Prod.mk.injEq, and_true]; omega
        generalize lubN L n (a.1 - 1, a.2) (b.1 - 1, b.2) = z at k1 k2 k3 ⊢
        obtain ⟨z0, z1, z4⟩ := ref_pos k1
        simp only at k2
        have hz : isRefS (z.1 + 1, z.2) = true := by
          simp only [isRefS, rightS, Bool.and_eq_true, Bool.or_eq_true, decide_eq_true_eq] at k1 ⊢
          exact ⟨⟨⟨by omega, by omega⟩, k1.1.2⟩, .inl (by omega)⟩
        refine ⟨hz, by simp only; omega, ?_⟩
        have n3 : normT (z.1 + 1, z.2) = ((normT z).1 + 1, (normT z).2) := by
          unfold normT; simp only
          split
          · rename_i q; have := z1 q
            simp only [Prod.mk.injEq, and_true]; omega
          · simp only [Prod.mk.injEq, and_true]; omega
        rw [n3, k3, n1, n2]
        unfold lubF
        simp only [Nat.add_right_cancel_iff]
        split
        · rfl
        · simp only [Prod.mk.injEq, and_true]; omega
      · rw [if_neg hr, lub0_arr L ha hb (by omega)]
        refine ⟨ref_name hN.1 obj_ne (by decide) (by decide), a0, ?_⟩
        rw [show normT ((0 : Int), objB) = (0, some objB) by simp [normT, obj_ne]]
        obtain ⟨d, x⟩ := a
        obtain ⟨e, y⟩ := b
        simp only at hd b0 b1 b4 a4 hr
        unfold lubF normT
        by_cases he : 0 < e
        · have q : (d = 1 ∧ x = nilB) ∨ (e = 1 ∧ y = nilB) := by
            apply Classical.byContradiction
            intro q
            refine hr ⟨hd, he, (ref_less ha hd).2 ?_, (ref_less hb he).2 ?_⟩
            · simp only
              by_cases w : x = nilB
              · left
                have : ¬ d = 1 := fun w1 => q (.inl ⟨w1, w⟩)
                omega
              · exact .inr w
            · simp only
              by_cases w : y = nilB
              · left
                have : ¬ e = 1 := fun w1 => q (.inr ⟨w1, w⟩)
                omega
              · exact .inr w
          rcases q with ⟨rfl, rfl⟩ | ⟨rfl, rfl⟩
          · by_cases hy : y = nilB
            · subst hy
              have : ¬ e = 1 := fun q => hab (by rw [q])
              simp only [if_pos]
              rw [if_neg (by omega)]
              simp only [Prod.mk.injEq, and_true]; omega
            · simp only [if_pos, if_neg hy]
              split
              · rename_i q; omega
              · simp
          · by_cases hx : x = nilB
            · subst hx
              have : ¬ d = 1 := fun q => hab (by rw [q])
              simp only [if_pos]
              rw [if_neg (by omega)]
              simp only [Prod.mk.injEq, and_true]; omega
            · simp only [if_pos, if_neg hx]
              split
              · rename_i q; omega
              · simp
        · obtain rfl : e = 0 := by omega
          have hy : ¬ y = nilB := fun q => by have := b1 q; omega
          simp only [if_neg hy]
          by_cases hx : x = nilB
          · simp only [if_pos hx]
            split
            · rename_i q
              simp only [Prod.mk.injEq]
              exact ⟨by omega, by simp [nl]⟩
            · simp
          · simp only [if_neg hx]
            rw [if_neg (by omega)]
            simp
theorem chain_up {L : List Cl} (ha : Acyc L) : ∀ (n : Nat) (s x : ByteArray), x ∈ chainF n L s → x = s ∨ UpC L s x
  | 0, _, _, h => by simp [chainF] at h
  | n + 1, s, x, h => by
    unfold chainF at h
    split at h
    · cases h
    · rename_i c hc
      obtain ⟨e1, e2⟩ := findC_name hc
      rcases List.mem_cons.1 h with rfl | h
      · exact .inl e1
      · rcases chain_up ha n _ _ h with rfl | q
        · exact .inr (up_super hc)
        · exact .inr (Up.trans (up_super hc) q)
/-- The chain of what stands in a chain is its end. -/
theorem chain_end {L : List Cl} (ha : Acyc L) : ∀ (n : Nat) (s : ByteArray), n = L.length → ∀ x, x ∈ chainS L s → ∃ p, chainS L s = p ++ chainS L x ∧ ∀ y ∈ p, y ≠ x ∧ (y = s ∨ UpC L s y) ∧ UpC L y x := by
  intro n s _ x hx
  have main : ∀ (n : Nat) (s : ByteArray), x ∈ chainF n L s → x ∈ chainS L s → ∃ p, chainS L s = p ++ chainS L x ∧ ∀ y ∈ p, y ≠ x ∧ (y = s ∨ UpC L s y) ∧ UpC L y x := by
    intro n
    induction n with
    | zero => intro s h; simp [chainF] at h
    | succ n ih =>
      intro s h hx
      unfold chainF at h
      split at h
      · cases h
      · rename_i c hc
        obtain ⟨e1, e2⟩ := findC_name hc
        rw [chain_some ha hc] at hx ⊢
        by_cases hxs : x = c.name
        · refine ⟨[], ?_, by simp⟩
          rw [hxs, e1, chain_some ha hc, ← e1]
          rfl
        · have h2 : x ∈ chainF n L c.super := by
            rcases List.mem_cons.1 h with q | q
            · exact absurd q hxs
            · exact q
          have h3 : x ∈ chainS L c.super := by
            rcases List.mem_cons.1 hx with q | q
            · exact absurd q hxs
            · exact q
          obtain ⟨p, p1, p2⟩ := ih c.super h2 h3
          refine ⟨c.name :: p, by rw [p1]; rfl, fun y hy => ?_⟩
          rcases List.mem_cons.1 hy with rfl | hy
          · refine ⟨fun q => hxs q.symm, .inl e1, ?_⟩
            rw [e1]
            rcases chain_up ha n _ _ h2 with rfl | q
            · exact up_super hc
            · exact Up.trans (up_super hc) q
          · obtain ⟨q1, q2, q3⟩ := p2 y hy
            refine ⟨q1, .inr ?_, q3⟩
            rcases q2 with rfl | q2
            · exact up_super hc
            · exact Up.trans (up_super hc) q2
  exact main L.length s hx hx
theorem chain_self {L : List Cl} (ha : Acyc L) {s : ByteArray} (hs : s ∈ L.map (·.name)) : s ∈ chainS L s := by
  obtain ⟨c, hc⟩ := findC_mem hs
  rw [chain_some ha hc, (findC_name hc).1]
  exact List.mem_cons_self ..
theorem chain_trans {L : List Cl} (ha : Acyc L) {x y z : ByteArray} (h : y ∈ chainS L x) (k : z ∈ chainS L y) : z ∈ chainS L x := by
  obtain ⟨p, h1, _⟩ := chain_end ha _ x rfl y h
  rw [h1]
  exact List.mem_append_right _ k
theorem chain_anti {L : List Cl} (ha : Acyc L) {x y : ByteArray} (h : y ∈ chainS L x) (k : x ∈ chainS L y) : x = y := by
  rcases chain_up ha _ _ _ h with q | q
  · exact q.symm
  · exfalso
    obtain ⟨c, hc⟩ := findC_mem (chain_names k)
    obtain ⟨e1, e2⟩ := findC_name hc
    refine ha c e2 ?_
    rw [e1]
    rcases chain_up ha _ _ _ k with q2 | q2
    · rw [← q2] at q; exact q
    · exact Up.trans q q2
/-- Object stands at the end of each chain. -/
theorem chain_obj {L : List Cl} (h : Tb L) {s : ByteArray} (hs : s ∈ L.map (·.name)) : objB ∈ chainS L s := by
  have main : ∀ (n : Nat) (s : ByteArray) (V : ByteArray → Bool), (∀ x, V x = true → UpC L x s) → left V (L.map (·.name)) ≤ n → s ∈ L.map (·.name) → objB ∈ chainS L s := by
    intro n
    induction n with
    | zero =>
      intro s V hV hn hs
      exfalso
      have hv : V s = true := by
        cases hq : V s with
        | true => rfl
        | false =>
          have := left_put (V := V) (V' := fun x => V x || decide (x = s)) (fun x q => by simp [q]) hq (by simp) (L.map (·.name)) hs
          omega
      obtain ⟨c, hc⟩ := findC_mem hs
      obtain ⟨e1, e2⟩ := findC_name hc
      exact h.acyc c e2 (by rw [e1]; exact hV s hv)
    | succ n ih =>
      intro s V hV hn hs
      obtain ⟨c, hc⟩ := findC_mem hs
      obtain ⟨e1, e2⟩ := findC_name hc
      rw [chain_some h.acyc hc]
      by_cases ho : c.name = objB
      · rw [ho]; exact List.mem_cons_self ..
      · obtain ⟨u, h1, _⟩ := h.super c e2 ho
        have hv : V s = false := by
          cases hq : V s with
          | false => rfl
          | true => exact absurd (e1 ▸ hV s hq) (h.acyc c e2)
        have := left_put (V := V) (V' := fun x => V x || decide (x = s)) (fun x q => by simp [q]) hv (by simp) (L.map (·.name)) hs
        refine List.mem_cons_of_mem _ (ih c.super (fun x => V x || decide (x = s)) (fun x q => ?_) (by omega) (findC_isSome.1 (by rw [h1]; rfl)))
        rcases Bool.or_eq_true_iff.1 q with q | q
        · exact Up.trans (hV x q) (up_super hc)
        · obtain rfl : x = s := by simpa using q
          exact up_super hc
  exact main _ s (fun _ => false) (fun x q => by cases q) (Nat.le_refl _) hs
def clsN (L : List Cl) (n : ByteArray) : Prop := ∃ c, findC L n = some c ∧ c.iface = false
theorem Tb.obj_cls {L : List Cl} (h : Tb L) : clsN L objB := by
  obtain ⟨c, h1, _, _, h2⟩ := h.object
  exact ⟨c, h1, h2⟩
theorem Tb.super_cls {L : List Cl} (h : Tb L) {c : Cl} (hc : c ∈ L) (hne : c.name ≠ objB) : clsN L c.super := by
  obtain ⟨s, h1, h2, _⟩ := h.super c hc hne
  exact ⟨s, h1, h2⟩
/-- In a class's chain stand classes. -/
theorem chain_cls {L : List Cl} (h : Tb L) {s x : ByteArray} (hs : clsN L s) (hx : x ∈ chainS L s) : clsN L x := by
  have main : ∀ (n : Nat) (s : ByteArray), clsN L s → x ∈ chainF n L s → clsN L x := by
    intro n
    induction n with
    | zero => intro s _ q; simp [chainF] at q
    | succ n ih =>
      intro s hs q
      unfold chainF at q
      split at q
      · cases q
      · rename_i c hc
        obtain ⟨e1, e2⟩ := findC_name hc
        rcases List.mem_cons.1 q with rfl | q
        · rw [e1]; exact hs
        · by_cases ho : c.name = objB
          · obtain ⟨d, h1, h2, _⟩ := h.object
            rw [← ho, e1, hc] at h1
            cases h1
            rw [h2] at q
            cases n with
            | zero => simp [chainF] at q
            | succ n =>
              unfold chainF at q
              rw [findC_none.2 h.nonil] at q
              cases q
          · exact ih _ (h.super_cls e2 ho) q
  exact main _ s hs hx
/-- A class that stands above stands in the chain. -/
theorem up_chain {L : List Cl} (h : Tb L) {s x : ByteArray} (hu : UpC L s x) (hx : clsN L x) : x ∈ chainS L s := by
  induction hu with
  | @one a b he =>
    unfold EdgeC at he
    cases hf : findC L a with
    | none =>
      rw [getC_none hf] at he
      obtain rfl : b = nilB := by simpa [zC] using he
      obtain ⟨c, hc, _⟩ := hx
      exact absurd (findC_name hc).1 (h.nonil c (findC_name hc).2)
    | some c =>
      rw [getC_some hf] at he
      rw [chain_some h.acyc hf]
      obtain ⟨e1, e2⟩ := findC_name hf
      rcases List.mem_cons.1 he with rfl | hi
      · obtain ⟨d, hd, _⟩ := hx
        exact List.mem_cons_of_mem _ (chain_self h.acyc (findC_isSome.1 (by rw [hd]; rfl)))
      · obtain ⟨t, h1, h2⟩ := h.ifaces c e2 b hi
        obtain ⟨d, hd, hd2⟩ := hx
        rw [h1] at hd
        cases hd
        rw [h2] at hd2
        cases hd2
  | @step a b z he hu ih =>
    have ih := ih hx
    unfold EdgeC at he
    cases hf : findC L a with
    | none =>
      rw [getC_none hf] at he
      obtain rfl : b = nilB := by simpa [zC] using he
      rw [chain_none (findC_none.2 h.nonil)] at ih
      cases ih
    | some c =>
      rw [getC_some hf] at he
      obtain ⟨e1, e2⟩ := findC_name hf
      rcases List.mem_cons.1 he with rfl | hi
      · rw [chain_some h.acyc hf]
        exact List.mem_cons_of_mem _ ih
      · -- above an interface only Object is a class
        obtain ⟨t, h1, h2⟩ := h.ifaces c e2 b hi
        obtain ⟨f1, f2⟩ := findC_name h1
        rw [chain_some h.acyc h1] at ih
        have hz : z = objB := by
          rcases List.mem_cons.1 ih with rfl | ih
          · obtain ⟨d, hd, hd2⟩ := hx
            rw [f1, h1] at hd
            cases hd
            rw [h2] at hd2
            cases hd2
          · by_cases ho : t.name = objB
            · obtain ⟨d, k1, _, _, k2⟩ := h.object
              rw [← ho, f1, h1] at k1
              cases k1
              rw [h2] at k2
              cases k2
            · obtain ⟨u, _, _, k3⟩ := h.super t f2 ho
              rw [k3 h2] at ih
              obtain ⟨d, k1, k2, _⟩ := h.object
              rw [chain_some h.acyc k1, k2, chain_none (findC_none.2 h.nonil), (findC_name k1).1] at ih
              simpa using ih
        rw [hz]
        exact chain_obj h (List.mem_map.2 ⟨c, e2, e1⟩)
theorem common_first : ∀ (l m : List ByteArray), (∃ x ∈ l, x ∈ m) → ∃ p q, l = p ++ commonS l m :: q ∧ commonS l m ∈ m ∧ ∀ y ∈ p, y ∉ m
  | [], m, h => by obtain ⟨x, hx, _⟩ := h; cases hx
  | x :: l, m, h => by
    unfold commonS
    split
    · rename_i q
      obtain ⟨y, hy, e⟩ := List.any_eq_true.1 q
      obtain rfl : y = x := by simpa using e
      exact ⟨[], l, rfl, hy, by simp⟩
    · rename_i q
      have hx : x ∉ m := fun hm => q (List.any_eq_true.2 ⟨x, hm, by simp⟩)
      obtain ⟨p, r, h1, h2, h3⟩ := common_first l m (by
        obtain ⟨y, hy, hm⟩ := h
        rcases List.mem_cons.1 hy with rfl | hy
        · exact absurd hm hx
        · exact ⟨y, hy, hm⟩)
      refine ⟨x :: p, r, by rw [List.cons_append, ← h1], h2, fun y hy => ?_⟩
      rcases List.mem_cons.1 hy with rfl | hy
      · exact hx
      · exact h3 y hy
theorem ahead_eq {ι : Type} : ∀ (s p a b : List ι) (z : ι), s ++ z :: a = p ++ z :: b → z ∉ s → z ∉ p → s = p
  | [], [], _, _, _, _, _, _ => rfl
  | [], x :: p, _, _, z, e, _, hp => by simp at e; exact absurd (List.mem_cons_self ..) (e.1 ▸ hp)
  | x :: s, [], _, _, z, e, hs, _ => by simp at e; exact absurd (List.mem_cons_self ..) (e.1 ▸ hs)
  | x :: s, y :: p, a, b, z, e, hs, hp => by
    simp only [List.cons_append, List.cons.injEq] at e
    rw [e.1, ahead_eq s p a b z e.2 (fun k => hs (List.mem_cons_of_mem _ k)) (fun k => hp (List.mem_cons_of_mem _ k))]
/-- What stands above two classes is what stands above what they have in common. -/
theorem common_meet {L : List Cl} (h : Tb L) {n m : ByteArray} (hn : clsN L n) (hm : clsN L m) : clsN L (commonS (chainS L n) (chainS L m)) ∧ ∀ y, y ∈ chainS L (commonS (chainS L n) (chainS L m)) ↔ y ∈ chainS L n ∧ y ∈ chainS L m := by
  have nn : n ∈ L.map (·.name) := by obtain ⟨c, hc, _⟩ := hn; exact findC_isSome.1 (by rw [hc]; rfl)
  have mm : m ∈ L.map (·.name) := by obtain ⟨c, hc, _⟩ := hm; exact findC_isSome.1 (by rw [hc]; rfl)
  obtain ⟨p, q, h1, h2, h3⟩ := common_first (chainS L n) (chainS L m) ⟨objB, chain_obj h nn, chain_obj h mm⟩
  generalize commonS (chainS L n) (chainS L m) = z at *
  have hz : z ∈ chainS L n := by rw [h1]; simp
  refine ⟨chain_cls h hn hz, fun y => ⟨fun hy => ⟨chain_trans h.acyc hz hy, chain_trans h.acyc h2 hy⟩, fun ⟨y1, y2⟩ => ?_⟩⟩
  obtain ⟨r, r1, r2⟩ := chain_end h.acyc _ n rfl y y1
  -- z is not behind y, or it is y
  have hzm := h2
  obtain ⟨s, s1, s2⟩ := chain_end h.acyc _ n rfl z hz
  rw [s1] at y1
  rcases List.mem_append.1 y1 with y1 | y1
  · -- y stands ahead of z: then y is in p
    exfalso
    have hyp : y ∈ p := by
      have e : s ++ chainS L z = p ++ z :: q := by rw [← s1, h1]
      have e2 : y ∈ p ++ z :: q := by rw [← e]; exact List.mem_append_left _ y1
      obtain ⟨c, hc⟩ := findC_mem (chain_names hz)
      rw [chain_some h.acyc hc, (findC_name hc).1] at e
      have hs : z ∉ s := fun k => (s2 z k).1 rfl
      have hp : z ∉ p := fun k => h3 z k h2
      have hsp : s = p := ahead_eq s p _ _ z e hs hp
      rw [← hsp]; exact y1
    exact h3 y hyp y2
  · exact y1
/-! Laws of both. -/
/-- What may be asked: a name of the table, or none (an array of numbers). -/
def okA (L : List Cl) (x : Option ByteArray) : Prop := ∀ n, x = some n → n ∈ L.map (·.name)
theorem known_ref {L : List Cl} {a : Ty} (hk : knownS L a = true) : okA L (normT a).2 := by
  simp only [knownS, Bool.and_eq_true, Bool.or_eq_true, decide_eq_true_eq] at hk
  intro n hn
  unfold normT at hn
  split at hn
  · cases hn
  · rename_i q
    cases hn
    rcases hk.2 with k | k
    · exact absurd k q
    · exact findC_isSome.1 k
theorem obj_up {L : List Cl} (h : Tb L) {x : ByteArray} : UpC L objB x → x = nilB := by
  intro hu
  obtain ⟨c, h1, h2, h3, _⟩ := h.object
  have := Up.closed (S := fun z => z = objB ∨ z = nilB) (fun a b ha hab => ?_) (.inl rfl) hu
  · rcases this.2 with ⟨y, hy, he⟩
    unfold EdgeC at he
    rcases hy with rfl | rfl
    · rw [getC_some h1, h2, h3] at he; simpa using he
    · rw [getC_none (findC_none.2 h.nonil)] at he; simpa [zC] using he
  · unfold EdgeC at hab
    rcases ha with rfl | rfl
    · rw [getC_some h1, h2, h3] at hab; exact .inr (by simpa using hab)
    · rw [getC_none (findC_none.2 h.nonil)] at hab; exact .inr (by simpa [zC] using hab)
theorem leN_refl (L : List Cl) (x : Nf) : LeN L x x := .inl ⟨rfl, .inl rfl⟩
theorem leN_trans {L : List Cl} (h : Tb L) {x y z : Nf} (hz : okA L z.2) (h1 : LeN L x y) (h2 : LeN L y z) : LeN L x z := by
  rcases h2 with ⟨e2, h2⟩ | ⟨e2, h2⟩
  · rcases h1 with ⟨e1, h1⟩ | ⟨e1, h1⟩
    · refine .inl ⟨e1.trans e2, ?_⟩
      rcases h1 with h1 | ⟨n, m, a1, a2, a3⟩
      · rw [h1]; exact h2
      · rcases h2 with h2 | ⟨m', k, b1, b2, b3⟩
        · exact .inr ⟨n, m, a1, by rw [← h2, a2], a3⟩
        · rw [a2] at b1; cases b1
          exact .inr ⟨n, k, a1, b2, Up.trans a3 b3⟩
    · right
      refine ⟨by omega, ?_⟩
      rcases h2 with h2 | ⟨m', k, b1, b2, b3⟩
      · rw [← h2, h1]
      · rw [h1] at b1; cases b1
        have := obj_up h b3
        subst this
        obtain ⟨c, hc, e⟩ := List.mem_map.1 (hz _ b2)
        exact absurd e (h.nonil c hc)
  · right
    rcases h1 with ⟨e1, h1⟩ | ⟨e1, h1⟩
    · exact ⟨by omega, h2⟩
    · exact ⟨by omega, h2⟩
theorem nl_self (L : List Cl) (x : Option ByteArray) : nl L x x = x := by simp [nl]
theorem nl_ok {L : List Cl} (h : Tb L) {x y : Option ByteArray} (hx : okA L x) (hy : okA L y) : okA L (nl L x y) := by
  intro n hn
  have ho : objB ∈ L.map (·.name) := by obtain ⟨c, hc, _⟩ := h.object; exact findC_isSome.1 (by rw [hc]; rfl)
  unfold nl at hn
  split at hn
  · exact hx n hn
  · split at hn
    · rename_i a b _
      split at hn
      · cases hn
        rcases common_mem (chainS L a) (chainS L b) with q | ⟨q, _⟩
        · rw [q]; exact ho
        · exact chain_names q
      · cases hn; exact ho
    · cases hn; exact ho
theorem lubF_ok {L : List Cl} (h : Tb L) {x y : Nf} (hx : okA L x.2) (hy : okA L y.2) : okA L (lubF L x y).2 := by
  unfold lubF
  split
  · exact nl_ok h hx hy
  · intro n hn
    cases hn
    obtain ⟨c, hc, _⟩ := h.object
    exact findC_isSome.1 (by rw [hc]; rfl)
theorem cls_or {L : List Cl} {n : ByteArray} (hn : n ∈ L.map (·.name)) : clsN L n ↔ (getC L n).iface = false := by
  obtain ⟨c, hc⟩ := findC_mem hn
  rw [getC_some hc]
  constructor
  · rintro ⟨d, hd, h⟩; rw [hc] at hd; cases hd; exact h
  · intro h; exact ⟨c, hc, h⟩
theorem nl_above {L : List Cl} (h : Tb L) {x y : Option ByteArray} (hx : okA L x) (hy : okA L y) (d : Nat) : LeN L (d, x) (d, nl L x y) ∧ LeN L (d, y) (d, nl L x y) := by
  by_cases hxy : x = y
  · subst hxy; rw [nl_self]; exact ⟨leN_refl _ _, leN_refl _ _⟩
  · have hobj : ∀ z : Option ByteArray, LeN L (d, z) (d, some objB) := fun z => .inr ⟨Nat.le_refl _, rfl⟩
    unfold nl
    rw [if_neg hxy]
    split
    · rename_i n m
      split
      · rename_i q
        obtain ⟨k1, k2⟩ := common_meet h ((cls_or (hx n rfl)).2 q.1) ((cls_or (hy m rfl)).2 q.2)
        generalize commonS (chainS L n) (chainS L m) = z at *
        have hz : z ∈ L.map (·.name) := by obtain ⟨c, hc, _⟩ := k1; exact findC_isSome.1 (by rw [hc]; rfl)
        have hzz := (k2 z).1 (chain_self h.acyc hz)
        refine ⟨.inl ⟨rfl, ?_⟩, .inl ⟨rfl, ?_⟩⟩
        · rcases chain_up h.acyc _ _ _ hzz.1 with r | r
          · exact .inl (by rw [r])
          · exact .inr ⟨n, z, rfl, rfl, r⟩
        · rcases chain_up h.acyc _ _ _ hzz.2 with r | r
          · exact .inl (by rw [r])
          · exact .inr ⟨m, z, rfl, rfl, r⟩
      · exact ⟨hobj _, hobj _⟩
    · exact ⟨hobj _, hobj _⟩
theorem lubF_above {L : List Cl} (h : Tb L) {x y : Nf} (hx : okA L x.2) (hy : okA L y.2) : LeN L x (lubF L x y) ∧ LeN L y (lubF L x y) := by
  obtain ⟨d, x⟩ := x
  obtain ⟨e, y⟩ := y
  unfold lubF
  split
  · rename_i q
    simp only at q
    subst q
    exact nl_above h hx hy d
  · exact ⟨.inr ⟨Nat.min_le_left _ _, rfl⟩, .inr ⟨Nat.min_le_right _ _, rfl⟩⟩
theorem cls_mem {L : List Cl} {n : ByteArray} (h : clsN L n) : n ∈ L.map (·.name) := by obtain ⟨c, hc, _⟩ := h; exact findC_isSome.1 (by rw [hc]; rfl)
/-- The one class whose chain is what both chains have in common. -/
theorem meet_eq {L : List Cl} (h : Tb L) {z w : ByteArray} (hz : clsN L z) (hw : clsN L w) (e : ∀ y, y ∈ chainS L z ↔ y ∈ chainS L w) : z = w :=
  chain_anti h.acyc ((e w).2 (chain_self h.acyc (cls_mem hw))) ((e z).1 (chain_self h.acyc (cls_mem hz)))
/-- A class alone is what it has in common with itself, too. -/
theorem nl_cls {L : List Cl} (h : Tb L) {n m : ByteArray} (hn : clsN L n) (hm : clsN L m) : ∃ z, nl L (some n) (some m) = some z ∧ clsN L z ∧ ∀ y, y ∈ chainS L z ↔ y ∈ chainS L n ∧ y ∈ chainS L m := by
  by_cases e : n = m
  · subst e
    exact ⟨n, nl_self _ _, hn, fun y => by simp⟩
  · obtain ⟨k1, k2⟩ := common_meet h hn hm
    refine ⟨_, ?_, k1, k2⟩
    unfold nl
    rw [if_neg (by simpa using e)]
    simp only
    rw [if_pos ⟨(cls_or (cls_mem hn)).1 hn, (cls_or (cls_mem hm)).1 hm⟩]
def isCls (L : List Cl) (x : Option ByteArray) : Prop := ∃ n, x = some n ∧ clsN L n
theorem nl_other {L : List Cl} {x y : Option ByteArray} (hx : okA L x) (hy : okA L y) (hne : x ≠ y) (h : ¬ (isCls L x ∧ isCls L y)) : nl L x y = some objB := by
  unfold nl
  rw [if_neg hne]
  split
  · rename_i n m
    rw [if_neg]
    intro q
    exact h ⟨⟨n, rfl, (cls_or (hx n rfl)).2 q.1⟩, ⟨m, rfl, (cls_or (hy m rfl)).2 q.2⟩⟩
  · rfl
theorem nl_comm {L : List Cl} (h : Tb L) {x y : Option ByteArray} (hx : okA L x) (hy : okA L y) : nl L x y = nl L y x := by
  by_cases e : x = y
  · rw [e]
  · by_cases c : isCls L x ∧ isCls L y
    · obtain ⟨⟨n, rfl, hn⟩, ⟨m, rfl, hm⟩⟩ := c
      obtain ⟨z, z1, z2, z3⟩ := nl_cls h hn hm
      obtain ⟨w, w1, w2, w3⟩ := nl_cls h hm hn
      rw [z1, w1, meet_eq h z2 w2 (fun y => by rw [z3, w3, and_comm])]
    · rw [nl_other hx hy e c, nl_other hy hx (fun q => e q.symm) (fun q => c ⟨q.2, q.1⟩)]
theorem nl_obj {L : List Cl} (h : Tb L) {x : Option ByteArray} (hx : okA L x) : nl L x (some objB) = some objB := by
  by_cases e : x = some objB
  · rw [e, nl_self]
  · by_cases c : isCls L x
    · obtain ⟨n, rfl, hn⟩ := c
      obtain ⟨z, z1, z2, z3⟩ := nl_cls h hn h.obj_cls
      rw [z1, meet_eq h z2 h.obj_cls (fun y => ?_)]
      rw [z3]
      refine ⟨fun q => q.2, fun q => ⟨?_, q⟩⟩
      obtain ⟨o, o1, o2, _⟩ := h.object
      rw [chain_some h.acyc o1, o2, chain_none (findC_none.2 h.nonil), (findC_name o1).1] at q
      obtain rfl : y = objB := by simpa using q
      exact chain_obj h (cls_mem hn)
    · exact nl_other hx (fun n hn => by cases hn; exact cls_mem h.obj_cls) e (fun q => c q.1)
theorem nl_assoc {L : List Cl} (h : Tb L) {x y z : Option ByteArray} (hx : okA L x) (hy : okA L y) (hz : okA L z) : nl L (nl L x y) z = nl L x (nl L y z) := by
  have ho : okA L (some objB) := fun n hn => by cases hn; exact cls_mem h.obj_cls
  have hob : ∀ {u}, okA L u → nl L (some objB) u = some objB := fun hu => by rw [nl_comm h ho hu, nl_obj h hu]
  by_cases c : isCls L x ∧ isCls L y ∧ isCls L z
  · obtain ⟨⟨a, rfl, ha⟩, ⟨b, rfl, hb⟩, ⟨d, rfl, hd⟩⟩ := c
    obtain ⟨u, u1, u2, u3⟩ := nl_cls h ha hb
    obtain ⟨v, v1, v2, v3⟩ := nl_cls h hb hd
    obtain ⟨p, p1, p2, p3⟩ := nl_cls h u2 hd
    obtain ⟨q, q1, q2, q3⟩ := nl_cls h ha v2
    rw [u1, v1, p1, q1, meet_eq h p2 q2 (fun y => by rw [p3, q3, u3, v3, and_assoc])]
  · by_cases exy : x = y
    · subst exy
      rw [nl_self]
      by_cases exz : x = z
      · subst exz; rw [nl_self, nl_self]
      · by_cases c2 : isCls L x ∧ isCls L z
        · exact absurd ⟨c2.1, c2.1, c2.2⟩ c
        · rw [nl_other hx hz exz c2, nl_obj h hx]
    · by_cases c2 : isCls L x ∧ isCls L y
      · have c3 : ¬ isCls L z := fun q => c ⟨c2.1, c2.2, q⟩
        have e1 : y ≠ z := fun q => c3 (q ▸ c2.2)
        rw [nl_other hy hz e1 (fun q => c3 q.2), nl_obj h hx]
        obtain ⟨⟨a, rfl, ha⟩, ⟨b, rfl, hb⟩⟩ := c2
        obtain ⟨u, u1, u2, u3⟩ := nl_cls h ha hb
        rw [u1, nl_other (fun n hn => by cases hn; exact cls_mem u2) hz (fun q => c3 ⟨u, q.symm, u2⟩) (fun q => c3 q.2)]
      · rw [nl_other hx hy exy c2, hob hz]
        by_cases eyz : y = z
        · subst eyz
          rw [nl_self, nl_other hx hy exy c2]
        · by_cases c4 : isCls L y ∧ isCls L z
          · have c5 : ¬ isCls L x := fun q => c ⟨q, c4.1, c4.2⟩
            obtain ⟨⟨a, rfl, ha⟩, ⟨b, rfl, hb⟩⟩ := c4
            obtain ⟨u, u1, u2, u3⟩ := nl_cls h ha hb
            rw [u1, nl_other hx (fun n hn => by cases hn; exact cls_mem u2) (fun q => c5 ⟨u, q, u2⟩) (fun q => c5 q.1)]
          · rw [nl_other hy hz eyz c4, nl_obj h hx]
theorem lubF_comm {L : List Cl} (h : Tb L) {x y : Nf} (hx : okA L x.2) (hy : okA L y.2) : lubF L x y = lubF L y x := by
  unfold lubF
  by_cases e : x.1 = y.1
  · rw [if_pos e, if_pos e.symm, e, nl_comm h hx hy]
  · rw [if_neg e, if_neg (fun q => e q.symm), Nat.min_comm]
theorem lubF_assoc {L : List Cl} (h : Tb L) {x y z : Nf} (hx : okA L x.2) (hy : okA L y.2) (hz : okA L z.2) : lubF L (lubF L x y) z = lubF L x (lubF L y z) := by
  have ho : okA L (some objB) := fun n hn => by cases hn; exact cls_mem h.obj_cls
  have hob : ∀ {u}, okA L u → nl L (some objB) u = some objB := fun hu => by rw [nl_comm h ho hu, nl_obj h hu]
  obtain ⟨a, x⟩ := x
  obtain ⟨b, y⟩ := y
  obtain ⟨c, z⟩ := z
  simp only at hx hy hz
  unfold lubF
  simp only
  by_cases e1 : a = b
  · subst e1
    simp only [if_true]
    by_cases e2 : a = c
    · subst e2
      simp only [if_true]
      rw [nl_assoc h hx hy hz]
    · simp only [if_neg e2]
      split
      · rw [nl_obj h hx]; simp only [Prod.mk.injEq, and_true]; omega
      · simp only [Prod.mk.injEq, and_true]; omega
  · simp only [if_neg e1]
    by_cases e2 : b = c
    · subst e2
      simp only [if_true, if_neg e1]
      split
      · rw [hob hz]
      · simp only [Prod.mk.injEq, and_true]; omega
    · simp only [if_neg e2]
      split
      · rw [hob hz]
        split
        · rw [nl_obj h hx]; simp only [Prod.mk.injEq, and_true]; omega
        · simp only [Prod.mk.injEq, and_true]; omega
      · split
        · rw [nl_obj h hx]; simp only [Prod.mk.injEq, and_true]; omega
        · simp only [Prod.mk.injEq, and_true]; omega
/-- Least among classes. -/
theorem lubF_least {L : List Cl} (h : Tb L) {n m c : ByteArray} (hn : clsN L n) (hm : clsN L m) (hc : clsN L c) (h1 : LeN L (0, some n) (0, some c)) (h2 : LeN L (0, some m) (0, some c)) : LeN L (lubF L (0, some n) (0, some m)) (0, some c) := by
  have key : ∀ {x}, clsN L x → LeN L (0, some x) (0, some c) → c ∈ chainS L x := by
    intro x hx hl
    rcases hl with ⟨_, q | ⟨a, b, e1, e2, e3⟩⟩ | ⟨_, q⟩
    · cases q; exact chain_self h.acyc (cls_mem hx)
    · cases e1; cases e2; exact up_chain h e3 hc
    · cases q; exact chain_obj h (cls_mem hx)
  obtain ⟨z, z1, z2, z3⟩ := nl_cls h hn hm
  unfold lubF
  simp only [if_true]
  rw [z1]
  have := (z3 c).2 ⟨key hn h1, key hm h2⟩
  rcases chain_up h.acyc _ _ _ this with q | q
  · exact .inl ⟨rfl, .inl (by rw [q])⟩
  · exact .inl ⟨rfl, .inr ⟨z, c, rfl, rfl, q⟩⟩
/-! The same of types. -/
theorem unnorm_known {L : List Cl} (h : Tb L) (hN : Nm L) {a b : Ty} (ha : isRefS a = true) (hb : isRefS b = true) (hka : knownS L a = true) (hkb : knownS L b = true) : knownS L (lubN L a.1.toNat a b) = true ∧ isRefS (lubN L a.1.toNat a b) = true ∧ normT (lubN L a.1.toNat a b) = lubF L (normT a) (normT b) := by
  obtain ⟨k1, k2, k3⟩ := lub_norm h hN _ a b rfl ha hb
  refine ⟨?_, k1, k3⟩
  generalize lubN L a.1.toNat a b = z at *
  have hr : rightS z = true := by simp only [isRefS, Bool.and_eq_true] at k1; exact k1.1
  have ho := lubF_ok h (known_ref hka) (known_ref hkb)
  rw [← k3] at ho
  simp only [knownS, Bool.and_eq_true, Bool.or_eq_true, decide_eq_true_eq]
  refine ⟨hr, ?_⟩
  by_cases q : z.2 = nilB
  · exact .inl q
  · refine .inr (findC_isSome.2 (ho z.2 ?_))
    simp [normT, q]
/-- Sub, of what is known: the same type, or both references and below. -/
theorem sub_iff {L : List Cl} (a b : Ty) : subS L a b = true ↔ knownS L a = true ∧ knownS L b = true ∧ (a = b ∨ (isRefS a = true ∧ isRefS b = true ∧ LeN L (normT a) (normT b))) := by
  unfold subS
  simp only [Bool.and_eq_true, and_assoc]
  refine and_congr Iff.rfl (and_congr Iff.rfl ?_)
  by_cases ha : isRefS a = true ∧ isRefS b = true
  · rw [sub_norm L _ a b rfl ha.1 ha.2]
    constructor
    · exact fun q => .inr ⟨ha.1, ha.2, q⟩
    · rintro (rfl | ⟨_, _, q⟩)
      · exact leN_refl _ _
      · exact q
  · unfold subN
    by_cases e : a = b
    · rw [if_pos e]; simp [e]
    · rw [if_neg e, if_pos]
      · simp only [Bool.false_eq_true, false_iff, not_or, not_and]
        exact ⟨e, fun q1 q2 => absurd ⟨q1, q2⟩ ha⟩
      · by_cases q : isRefS a = true
        · exact .inr (by simpa using fun k => ha ⟨q, k⟩)
        · exact .inl (by simpa using q)
theorem sub_refl {L : List Cl} (a : Ty) : subS L a a = knownS L a := by
  rw [Bool.eq_iff_iff, sub_iff]
  exact ⟨fun q => q.1, fun q => ⟨q, q, .inl rfl⟩⟩
theorem sub_trans {L : List Cl} (h : Tb L) {a b c : Ty} (h1 : subS L a b = true) (h2 : subS L b c = true) : subS L a c = true := by
  obtain ⟨k1, k2, k3⟩ := (sub_iff a b).1 h1
  obtain ⟨m1, m2, m3⟩ := (sub_iff b c).1 h2
  refine (sub_iff a c).2 ⟨k1, m2, ?_⟩
  rcases k3 with rfl | ⟨r1, r2, r3⟩
  · exact m3
  · rcases m3 with rfl | ⟨s1, s2, s3⟩
    · exact .inr ⟨r1, r2, r3⟩
    · exact .inr ⟨r1, s2, leN_trans h (known_ref m2) r3 s3⟩
theorem lub_some {L : List Cl} {a b : Ty} (h : (lubS L a b).2 = true) : knownS L a = true ∧ knownS L b = true ∧ isRefS a = true ∧ isRefS b = true ∧ (lubS L a b).1 = lubN L a.1.toNat a b := by
  unfold lubS at h ⊢
  by_cases q : knownS L a = true ∧ knownS L b = true ∧ isRefS a = true ∧ isRefS b = true
  · rw [if_pos q]; exact ⟨q.1, q.2.1, q.2.2.1, q.2.2.2, rfl⟩
  · rw [if_neg q] at h; cases h
theorem lub_above {L : List Cl} (h : Tb L) (hN : Nm L) {a b : Ty} (hl : (lubS L a b).2 = true) : subS L a (lubS L a b).1 = true ∧ subS L b (lubS L a b).1 = true := by
  obtain ⟨k1, k2, k3, k4, k5⟩ := lub_some hl
  obtain ⟨m1, m2, m3⟩ := unnorm_known h hN k3 k4 k1 k2
  have := lubF_above h (known_ref k1) (known_ref k2)
  rw [← m3] at this
  rw [k5]
  exact ⟨(sub_iff _ _).2 ⟨k1, m1, .inr ⟨k3, m2, this.1⟩⟩, (sub_iff _ _).2 ⟨k2, m1, .inr ⟨k4, m2, this.2⟩⟩⟩
theorem lub_comm {L : List Cl} (h : Tb L) (hN : Nm L) (a b : Ty) : lubS L a b = lubS L b a := by
  unfold lubS
  by_cases q : knownS L a = true ∧ knownS L b = true ∧ isRefS a = true ∧ isRefS b = true
  · rw [if_pos q, if_pos ⟨q.2.1, q.1, q.2.2.2, q.2.2.1⟩]
    obtain ⟨m1, m2, m3⟩ := unnorm_known h hN q.2.2.1 q.2.2.2 q.1 q.2.1
    obtain ⟨l1, l2, l3⟩ := unnorm_known h hN q.2.2.2 q.2.2.1 q.2.1 q.1
    rw [norm_inj m2 l2 (by rw [m3, l3, lubF_comm h (known_ref q.1) (known_ref q.2.1)])]
  · rw [if_neg q, if_neg (fun k => q ⟨k.2.1, k.1, k.2.2.2, k.2.2.1⟩)]
theorem lub_assoc {L : List Cl} (h : Tb L) (hN : Nm L) {a b c : Ty} (h1 : (lubS L a b).2 = true) (h2 : (lubS L b c).2 = true) : (lubS L (lubS L a b).1 c).2 = true ∧ (lubS L a (lubS L b c).1).2 = true ∧ (lubS L (lubS L a b).1 c).1 = (lubS L a (lubS L b c).1).1 := by
  obtain ⟨k1, k2, k3, k4, k5⟩ := lub_some h1
  obtain ⟨j1, j2, j3, j4, j5⟩ := lub_some h2
  obtain ⟨m1, m2, m3⟩ := unnorm_known h hN k3 k4 k1 k2
  obtain ⟨l1, l2, l3⟩ := unnorm_known h hN j3 j4 j1 j2
  rw [k5, j5]
  generalize lubN L a.1.toNat a b = x at *
  generalize lubN L b.1.toNat b c = y at *
  obtain ⟨p1, p2, p3⟩ := unnorm_known h hN m2 j4 m1 j2
  obtain ⟨q1, q2, q3⟩ := unnorm_known h hN k3 l2 k1 l1
  unfold lubS
  rw [if_pos ⟨m1, j2, m2, j4⟩, if_pos ⟨k1, l1, k3, l2⟩]
  refine ⟨rfl, rfl, norm_inj p2 q2 ?_⟩
  rw [p3, q3, m3, l3, lubF_assoc h (known_ref k1) (known_ref k2) (known_ref j2)]
theorem lub_least {L : List Cl} (h : Tb L) (hN : Nm L) {n m c : ByteArray} (hn : clsN L n) (hm : clsN L m) (hc : clsN L c) (hl : (lubS L (0, n) (0, m)).2 = true) (h1 : subS L (0, n) (0, c) = true) (h2 : subS L (0, m) (0, c) = true) : subS L (lubS L (0, n) (0, m)).1 (0, c) = true := by
  obtain ⟨k1, k2, k3, k4, k5⟩ := lub_some hl
  obtain ⟨m1, m2, m3⟩ := unnorm_known h hN k3 k4 k1 k2
  obtain ⟨p1, p2, p3⟩ := (sub_iff _ _).1 h1
  obtain ⟨q1, q2, q3⟩ := (sub_iff _ _).1 h2
  have nn : ∀ {x}, clsN L x → normT ((0 : Int), x) = (0, some x) := fun {x} hx => by
    have : x ≠ nilB := by
      obtain ⟨d, hd, e⟩ := List.mem_map.1 (cls_mem hx)
      rw [← e]; exact h.nonil d hd
    simp [normT, this]
  have hcr : isRefS ((0 : Int), c) = true := by
    obtain ⟨d, hd, e⟩ := List.mem_map.1 (cls_mem hc)
    rw [← e]; exact ref_name (hN.2 d hd) (h.nonil d hd) (by decide) (by decide)
  rw [k5]
  refine (sub_iff _ _).2 ⟨m1, p2, .inr ⟨m2, hcr, ?_⟩⟩
  rw [m3, nn hn, nn hm, nn hc]
  refine lubF_least h hn hm hc ?_ ?_
  · rcases p3 with p3 | ⟨_, _, p3⟩
    · simp only [Prod.mk.injEq, true_and] at p3; rw [p3]; exact leN_refl _ _
    · rwa [nn hn, nn hc] at p3
  · rcases q3 with p3 | ⟨_, _, p3⟩
    · simp only [Prod.mk.injEq, true_and] at p3; rw [p3]; exact leN_refl _ _
    · rwa [nn hm, nn hc] at p3
/-! Files in another order; an archive on top; what a chain is. -/
theorem kinds_zero {L : List Cl} : ∀ {cs : List Cl} {i : Nat}, (∀ c ∈ cs, kindS L c = 0) → (kindsS L cs i).1 = 0
  | [], _, _ => rfl
  | c :: cs, i, h => by
    rw [kindsS, if_neg (by rw [h c (List.mem_cons_self ..)]; simp)]
    exact kinds_zero (fun d hd => h d (List.mem_cons_of_mem _ hd))
theorem cyc_zero {L : List Cl} : ∀ {cs : List Cl} {i : Nat}, (∀ c ∈ cs, ¬ UpC L c.name c.name) → (cycS L cs i).1 = 0
  | [], _, _ => rfl
  | c :: cs, i, h => by
    rw [cycS, if_neg (fun q => h c (List.mem_cons_self ..) (upB_iff.1 q))]
    exact cyc_zero (fun d hd => h d (List.mem_cons_of_mem _ hd))
theorem add_zero : ∀ {fs : List RC} {L : List Cl} {i : Nat}, (∀ f ∈ fs, f.1 = 0) → ((L ++ fs.map (·.2)).map (·.name)).Nodup → (addS L fs i).1 = 0
  | [], _, _, _, _ => rfl
  | f :: fs, L, i, h, hd => by
    rw [addS, if_neg (by rw [h f (List.mem_cons_self ..)]; simp), if_neg]
    · exact add_zero (fun g hg => h g (List.mem_cons_of_mem _ hg)) (by simpa using hd)
    · intro q
      have := findC_isSome.1 q
      rw [List.map_append, List.nodup_append] at hd
      exact hd.2.2 _ this _ (by simp) rfl
theorem open_iff {T : List Cl} {fs : List RC} (hT : (T.map (·.name)).Nodup) : (∃ L, (openS T fs).1 = some L) ↔ fs.length ≤ 64 ∧ (∀ f ∈ fs, f.1 = 0) ∧ ((T.map unown ++ fs.map (·.2)).map (·.name)).Nodup ∧ (∀ f ∈ fs, kindS (T.map unown ++ fs.map (·.2)) f.2 = 0) ∧ (∀ f ∈ fs, ¬ UpC (T.map unown ++ fs.map (·.2)) f.2.name f.2.name) := by
  constructor
  · rintro ⟨L, h⟩
    obtain ⟨rfl, _, h2, h3, h4⟩ := open_some h
    exact ⟨h2, fun f hf => (h3 f hf).1, h4 hT, fun f hf => (h3 f hf).2.1, fun f hf => (h3 f hf).2.2⟩
  · rintro ⟨h1, h2, h3, h4, h5⟩
    refine ⟨T.map unown ++ fs.map (·.2), ?_⟩
    unfold openS
    have k4 : ∀ c ∈ fs.map (·.2), kindS (T.map unown ++ fs.map (·.2)) c = 0 := fun c hc => by
      obtain ⟨f, hf, rfl⟩ := List.mem_map.1 hc; exact h4 f hf
    have k5 : ∀ c ∈ fs.map (·.2), ¬ UpC (T.map unown ++ fs.map (·.2)) c.name c.name := fun c hc => by
      obtain ⟨f, hf, rfl⟩ := List.mem_map.1 hc; exact h5 f hf
    rw [if_neg (by omega), if_neg (by rw [add_zero h2 h3]; simp), if_neg (by rw [kinds_zero k4]; simp), if_neg (by rw [cyc_zero k5]; simp)]
theorem open_none {T : List Cl} {fs : List RC} (h : (openS T fs).1 = none) : (openS T fs).2.1 ≠ 0 := by
  unfold openS at h ⊢
  split at h
  · rename_i q; rw [if_pos q]; simp
  · rename_i q0
    rw [if_neg q0]
    split at h
    · rename_i q; rw [if_pos q]; exact q
    · rename_i q1
      rw [if_neg q1]
      split at h
      · rename_i q; rw [if_pos q]; exact q
      · rename_i q2
        rw [if_neg q2]
        split at h
        · rename_i q; rw [if_pos q]; exact q
        · cases h
def noAt (c : Cl) : Cl := { c with at_ := 0 }
/-- Tables that tell the same of all names, but for places. -/
structure Like (L M : List Cl) : Prop where
  find : ∀ s, (findC L s).map noAt = (findC M s).map noAt
  len : L.length = M.length
theorem Like.get {L M : List Cl} (h : Like L M) (s : ByteArray) : noAt (getC L s) = noAt (getC M s) := by
  have := h.find s
  unfold getC
  cases h1 : findC L s <;> cases h2 : findC M s <;> rw [h1, h2] at this <;> simp only [Option.map_some, Option.map_none, Option.some.injEq, reduceCtorEq] at this
  exact this
theorem Like.some {L M : List Cl} (h : Like L M) (s : ByteArray) : (findC L s).isSome = (findC M s).isSome := by
  have := h.find s
  cases h1 : findC L s <;> cases h2 : findC M s <;> rw [h1, h2] at this <;> simp at this <;> rfl
theorem Like.symm {L M : List Cl} (h : Like L M) : Like M L := ⟨fun s => (h.find s).symm, h.len.symm⟩
theorem noAt_eq {c d : Cl} (h : noAt c = noAt d) : c.name = d.name ∧ c.super = d.super ∧ c.ifaces = d.ifaces ∧ c.iface = d.iface ∧ c.abs = d.abs ∧ c.own = d.own := by
  obtain ⟨a1, a2, a3, a4, a5, a6, a7⟩ := c
  obtain ⟨b1, b2, b3, b4, b5, b6, b7⟩ := d
  simp only [noAt, Cl.mk.injEq, and_true] at h
  exact h
theorem Like.edge {L M : List Cl} (h : Like L M) (x y : ByteArray) : EdgeC L x y ↔ EdgeC M x y := by
  obtain ⟨_, e2, e3, _⟩ := noAt_eq (h.get x)
  rw [EdgeC, EdgeC, e2, e3]
theorem Like.up {L M : List Cl} (h : Like L M) (x y : ByteArray) : UpC L x y ↔ UpC M x y :=
  ⟨Up.mono fun a b q => (h.edge a b).1 q, Up.mono fun a b q => (h.edge a b).2 q⟩
theorem Like.upB {L M : List Cl} (h : Like L M) (x y : ByteArray) : upB L x y = upB M x y := by
  rw [Bool.eq_iff_iff, upB_iff, upB_iff, h.up]
theorem Like.kind {L M : List Cl} (h : Like L M) (c : Cl) : kindS L c = kindS M c := by
  have h1 : ∀ i, (findC L i).isNone = (findC M i).isNone := fun i => by
    have := h.some i
    cases h1 : findC L i <;> cases h2 : findC M i <;> rw [h1, h2] at this <;> simp at this <;> rfl
  have h2 : ∀ i, (getC L i).iface = (getC M i).iface := fun i => (noAt_eq (h.get i)).2.2.2.1
  unfold kindS
  simp only [h1, h2]
  have := h.find c.super
  cases e1 : findC L c.super with
  | none => cases e2 : findC M c.super with
    | none => rfl
    | some t => rw [e1, e2] at this; simp at this
  | some s => cases e2 : findC M c.super with
    | none => rw [e1, e2] at this; simp at this
    | some t =>
      rw [e1, e2] at this
      simp only [Option.map_some, Option.some.injEq] at this
      obtain ⟨n1, _, _, n4, _⟩ := noAt_eq this
      simp only [n1, n4]
theorem Like.chain {L M : List Cl} (h : Like L M) (s : ByteArray) : chainS L s = chainS M s := by
  have : ∀ n s, chainF n L s = chainF n M s := by
    intro n
    induction n with
    | zero => intro s; rfl
    | succ n ih =>
      intro s
      unfold chainF
      have := h.find s
      cases h1 : findC L s <;> cases h2 : findC M s <;> rw [h1, h2] at this <;> simp only [Option.map_some, Option.map_none, Option.some.injEq, reduceCtorEq] at this
      obtain ⟨e1, e2, _⟩ := noAt_eq this
      simp only [e1, e2, ih]
  unfold chainS
  rw [h.len, this]
theorem Like.known {L M : List Cl} (h : Like L M) (a : Ty) : knownS L a = knownS M a := by unfold knownS; rw [h.some]
theorem Like.sub {L M : List Cl} (h : Like L M) (a b : Ty) : subS L a b = subS M a b := by
  rw [Bool.eq_iff_iff, sub_iff, sub_iff, h.known, h.known]
  have : LeN L (normT a) (normT b) ↔ LeN M (normT a) (normT b) := by unfold LeN; simp only [h.up]
  rw [this]
theorem Like.lub {L M : List Cl} (h : Like L M) (a b : Ty) : lubS L a b = lubS M a b := by
  have h0 : ∀ a b, lub0 L a b = lub0 M a b := fun a b => by unfold lub0; rw [h.chain, h.chain, (noAt_eq (h.get a.2)).2.2.2.1, (noAt_eq (h.get b.2)).2.2.2.1]
  have hn : ∀ n a b, lubN L n a b = lubN M n a b := by
    intro n
    induction n with
    | zero => intro a b; unfold lubN; simp only [h0]
    | succ n ih => intro a b; unfold lubN; simp only [h0, ih]
  unfold lubS
  rw [h.known, h.known, hn]
theorem findC_iff {L : List Cl} (hd : (L.map (·.name)).Nodup) {s : ByteArray} {c : Cl} : findC L s = some c ↔ c ∈ L ∧ c.name = s := by
  constructor
  · intro h; exact ⟨(findC_name h).2, (findC_name h).1⟩
  · rintro ⟨h, rfl⟩; exact findC_of_mem hd h
/-- The same classes in another order. -/
theorem like_perm {L M : List Cl} (hl : (L.map (·.name)).Nodup) (hp : (L.map noAt).Perm (M.map noAt)) : Like L M ∧ (M.map (·.name)).Nodup := by
  have hn : ∀ K : List Cl, K.map (·.name) = (K.map noAt).map (·.name) := fun K => by simp [noAt]
  have hm : (M.map (·.name)).Nodup := by
    rw [hn] at hl ⊢
    exact ((hp.map _).nodup_iff).1 hl
  refine ⟨⟨fun s => ?_, ?_⟩, hm⟩
  · have key : ∀ {A B : List Cl}, (A.map (·.name)).Nodup → (B.map (·.name)).Nodup → (A.map noAt).Perm (B.map noAt) → ∀ c, findC A s = some c → ∃ d, findC B s = some d ∧ noAt d = noAt c := by
      intro A B ha hb hq c hc
      obtain ⟨h1, h2⟩ := (findC_iff ha).1 hc
      obtain ⟨d, hd, e⟩ := List.mem_map.1 (hq.mem_iff.1 (List.mem_map.2 ⟨c, h1, rfl⟩))
      exact ⟨d, (findC_iff hb).2 ⟨hd, by rw [(noAt_eq e).1, h2]⟩, e⟩
    cases h1 : findC L s with
    | some c =>
      obtain ⟨d, h2, e⟩ := key hl hm hp c h1
      rw [h2]; simp [e]
    | none =>
      cases h2 : findC M s with
      | none => rfl
      | some d =>
        obtain ⟨c, h3, _⟩ := key hm hl hp.symm d h2
        rw [h1] at h3; cases h3
  · have := hp.length_eq
    simpa using this
def naRC (f : RC) : RC := (f.1, noAt f.2)
theorem open_perm {T : List Cl} {fs gs : List RC} (hT : (T.map (·.name)).Nodup) (hp : (fs.map naRC).Perm (gs.map naRC)) {L : List Cl} (h : (openS T fs).1 = some L) : ∃ M, (openS T gs).1 = some M ∧ Like L M := by
  have hL := (open_some h).1
  obtain ⟨h1, h2, h3, h4, h5⟩ := (open_iff hT).1 ⟨L, h⟩
  have hpc : ((T.map unown ++ fs.map (·.2)).map noAt).Perm ((T.map unown ++ gs.map (·.2)).map noAt) := by
    have e : ∀ ks : List RC, (ks.map (·.2)).map noAt = (ks.map naRC).map (·.2) := fun ks => by simp [naRC]
    rw [List.map_append, List.map_append, e fs, e gs]
    exact List.Perm.append_left _ (hp.map _)
  obtain ⟨hlike, hnd⟩ := like_perm h3 hpc
  have hmem : ∀ g ∈ gs, ∃ f ∈ fs, naRC f = naRC g := fun g hg => by
    obtain ⟨f, hf, e⟩ := List.mem_map.1 (hp.mem_iff.2 (List.mem_map.2 ⟨g, hg, rfl⟩))
    exact ⟨f, hf, e⟩
  have hk0 : ∀ {A : List Cl} {f g : RC}, naRC f = naRC g → kindS A f.2 = kindS A g.2 ∧ f.2.name = g.2.name ∧ f.1 = g.1 := fun {A f g} e => by
    simp only [naRC, Prod.mk.injEq] at e
    obtain ⟨n1, n2, n3, n4, n5, n6⟩ := noAt_eq e.2
    refine ⟨?_, n1, e.1⟩
    unfold kindS
    rw [n2, n3, n4]
  have hgs : ∃ M, (openS T gs).1 = some M := by
    refine (open_iff hT).2 ⟨?_, fun g hg => ?_, hnd, fun g hg => ?_, fun g hg => ?_⟩
    · have := hp.length_eq
      simp only [List.length_map] at this
      omega
    · obtain ⟨f, hf, e⟩ := hmem g hg
      rw [← (hk0 (A := []) e).2.2]; exact h2 f hf
    · obtain ⟨f, hf, e⟩ := hmem g hg
      rw [← (hk0 e).1, ← hlike.kind]; exact h4 f hf
    · obtain ⟨f, hf, e⟩ := hmem g hg
      rw [← (hk0 (A := []) e).2.1]
      exact fun u => h5 f hf ((hlike.up _ _).2 u)
  obtain ⟨M, hM⟩ := hgs
  refine ⟨M, hM, ?_⟩
  rw [hL, (open_some hM).1]
  exact hlike
/-- What is known below stays so in an archive on top. -/
theorem sub_above {T : List Cl} {fs : List RC} {L : List Cl} (hT : Tb T) (hn : ∀ f ∈ fs, f.1 = 0 → f.2.name ≠ nilB) (h : (openS T fs).1 = some L) {a b : Ty} (ha : a.2 ∈ T.map (·.name)) (hb : b.2 ∈ T.map (·.name)) : subS T a b = subS L a b := by
  obtain ⟨hL, _, _, hf, _⟩ := open_some h
  have htb := open_tb hT hn h
  subst hL
  have hnm : (T.map unown).map (·.name) = T.map (·.name) := by simp [unown]
  have hk : ∀ {c : Ty}, c.2 ∈ T.map (·.name) → knownS T c = knownS (T.map unown ++ fs.map (·.2)) c := fun {c} hc => by
    unfold knownS
    rw [(getC_append_left (by rw [hnm]; exact hc)).2, findC_unown]
    cases findC T c.2 <;> rfl
  have hu : ∀ x y, x ∈ T.map (·.name) → (UpC T x y ↔ UpC (T.map unown ++ fs.map (·.2)) x y) := fun x y hx => by
    rw [← hT.unown.up_append htb.nonil (by rw [hnm]; exact hx), up_unown]
  rw [Bool.eq_iff_iff, sub_iff, sub_iff, hk ha, hk hb]
  have : LeN T (normT a) (normT b) ↔ LeN (T.map unown ++ fs.map (·.2)) (normT a) (normT b) := by
    unfold LeN
    have e : ∀ n m, (normT a).2 = some n → (UpC T n m ↔ UpC (T.map unown ++ fs.map (·.2)) n m) := fun n m q => by
      refine hu n m ?_
      unfold normT at q
      split at q
      · cases q
      · cases q; exact ha
    constructor
    · rintro (⟨q, q2 | ⟨n, m, q2, q3, q4⟩⟩ | q)
      · exact .inl ⟨q, .inl q2⟩
      · exact .inl ⟨q, .inr ⟨n, m, q2, q3, (e n m q2).1 q4⟩⟩
      · exact .inr q
    · rintro (⟨q, q2 | ⟨n, m, q2, q3, q4⟩⟩ | q)
      · exact .inl ⟨q, .inl q2⟩
      · exact .inl ⟨q, .inr ⟨n, m, q2, q3, (e n m q2).2 q4⟩⟩
      · exact .inr q
  rw [this]
/-- A class's chain. -/
theorem chain_head {L : List Cl} (h : Tb L) {s : ByteArray} (hs : s ∈ L.map (·.name)) : ∃ l, chainS L s = s :: l ∧ ∀ x ∈ l, UpC L s x ∧ x ∈ L.map (·.name) := by
  obtain ⟨c, hc⟩ := findC_mem hs
  refine ⟨chainS L c.super, by rw [chain_some h.acyc hc, (findC_name hc).1], fun x hx => ⟨?_, chain_names hx⟩⟩
  rcases chain_up h.acyc _ _ _ hx with rfl | q
  · exact up_super hc
  · exact Up.trans (up_super hc) q
theorem chain_last {L : List Cl} (h : Tb L) {s : ByteArray} (hs : s ∈ L.map (·.name)) : ∃ p, chainS L s = p ++ [objB] := by
  obtain ⟨p, h1, _⟩ := chain_end h.acyc _ s rfl objB (chain_obj h hs)
  obtain ⟨o, o1, o2, _⟩ := h.object
  rw [chain_some h.acyc o1, o2, chain_none (findC_none.2 h.nonil), (findC_name o1).1] at h1
  exact ⟨p, h1⟩
theorem name_ref {L : List Cl} (h : Tb L) (hN : Nm L) {s : ByteArray} (hs : s ∈ L.map (·.name)) : isRefS ((0 : Int), s) = true ∧ knownS L (0, s) = true ∧ normT ((0 : Int), s) = (0, some s) := by
  obtain ⟨c, hc, e⟩ := List.mem_map.1 hs
  have h0 : s ≠ nilB := by rw [← e]; exact h.nonil c hc
  have hr := ref_name (d := 0) (by rw [← e]; exact hN.2 c hc : nameS s = true) h0 (by decide) (by decide)
  refine ⟨hr, ?_, by simp [normT, h0]⟩
  simp only [isRefS, Bool.and_eq_true] at hr
  simp only [knownS, Bool.and_eq_true, Bool.or_eq_true, decide_eq_true_eq]
  exact ⟨hr.1, .inr (findC_isSome.2 hs)⟩
theorem sub_names {L : List Cl} (h : Tb L) (hN : Nm L) {s t : ByteArray} (hs : s ∈ L.map (·.name)) (ht : t ∈ L.map (·.name)) : subS L (0, s) (0, t) = true ↔ (s = t ∨ UpC L s t ∨ t = objB) := by
  obtain ⟨a1, a2, a3⟩ := name_ref h hN hs
  obtain ⟨b1, b2, b3⟩ := name_ref h hN ht
  rw [sub_iff, a3, b3]
  constructor
  · rintro ⟨_, _, q | ⟨_, _, ⟨_, q | ⟨n, m, q1, q2, q3⟩⟩ | ⟨_, q⟩⟩⟩
    · simp only [Prod.mk.injEq, true_and] at q; exact .inl q
    · simp only [Option.some.injEq] at q; exact .inl q
    · cases q1; cases q2; exact .inr (.inl q3)
    · simp only [Option.some.injEq] at q; exact .inr (.inr q)
  · rintro (q | q | q)
    · exact ⟨a2, b2, .inl (by rw [q])⟩
    · exact ⟨a2, b2, .inr ⟨a1, b1, .inl ⟨rfl, .inr ⟨s, t, rfl, rfl, q⟩⟩⟩⟩
    · exact ⟨a2, b2, .inr ⟨a1, b1, .inr ⟨Nat.le_refl _, by rw [q]⟩⟩⟩
/-- All of a chain is above, and nothing of it below but the class. -/
theorem chain_sub {L : List Cl} (h : Tb L) (hN : Nm L) {s : ByteArray} (hs : s ∈ L.map (·.name)) {k : Nat} (hk : k < (chainS L s).length) : subS L (0, s) (0, (chainS L s)[k]) = true ∧ (0 < k → subS L (0, (chainS L s)[k]) (0, s) = false) := by
  obtain ⟨l, h1, h2⟩ := chain_head h hs
  have hm : (chainS L s)[k] ∈ chainS L s := List.getElem_mem hk
  refine ⟨(sub_names h hN hs (chain_names hm)).2 ?_, fun h0 => ?_⟩
  · rcases chain_up h.acyc _ _ _ hm with q | q
    · exact .inl q.symm
    · exact .inr (.inl q)
  · have hml : (chainS L s)[k] ∈ l := by
      obtain ⟨j, rfl⟩ : ∃ j, k = j + 1 := ⟨k - 1, by omega⟩
      have : (chainS L s)[j + 1]? = l[j]? := by rw [h1]; rfl
      rw [List.getElem?_eq_getElem hk] at this
      exact List.mem_of_getElem? this.symm
    obtain ⟨u1, u2⟩ := h2 _ hml
    generalize (chainS L s)[k] = x at *
    cases hq : subS L (0, x) (0, s) with
    | false => rfl
    | true =>
      exfalso
      obtain ⟨c, hc, e⟩ := List.mem_map.1 hs
      rcases (sub_names h hN u2 hs).1 hq with q | q | q
      · rw [q] at u1; exact h.acyc c hc (by rw [e]; exact u1)
      · exact h.acyc c hc (by rw [e]; exact Up.trans u1 q)
      · rw [q] at u1
        have := obj_up h u1
        obtain ⟨d, hd, e2⟩ := List.mem_map.1 u2
        exact h.nonil d hd (by rw [e2, this])
end Go.Proofs.YtfjplmbknegidaaGreatDoor.Sp
end
