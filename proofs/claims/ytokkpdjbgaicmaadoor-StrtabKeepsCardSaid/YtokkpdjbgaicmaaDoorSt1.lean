/-
  Plain words for chapter 16's code: entries; a table in memory, the program's and the reference's.
-/
import Derived.Test.YtokkpdjbgaicmaaDoorStD
import Derived.StringKeys
import Derived.DataShut
import Derived.StillTailTactics
import Derived.Maps.AppendAt
import Derived.Deep.RegionHeld3
set_option linter.unusedVariables false
set_option linter.unusedSimpArgs false
namespace Go.Proofs.YtokkpdjbgaicmaaDoor
open Go.RowKit Go.Lib Go.Maps

namespace Sp
/-- An entry: a text, and where it stands. -/
abbrev En := ByteArray × Int
def hasT (E : List En) (t : ByteArray) : Bool := E.any fun e => decide (e.1 = t)
def hasA (E : List En) (a : Int) : Bool := E.any fun e => decide (e.2 = a)
def atT : List En → ByteArray → Option Int
  | [], _ => none
  | e :: E, t => if e.1 = t then some e.2 else atT E t
def lenA : List En → Int → Option Int
  | [], _ => none
  | e :: E, a => if e.2 = a then some ((runes e.1).length : Nat) else lenA E a
def runesN : List En → Nat
  | [] => 0
  | e :: E => (runes e.1).length + runesN E
def enterS (E : List En) (t : ByteArray) (a : Int) : Int :=
  if validD t.data.toList = false then 4 else if a < 1 then 1 else if (atT E t).isSome = true ∨ (lenA E a).isSome = true then 15 else if 1048576 ≤ E.length then 3 else 0
def nextE (E : List En) (t : ByteArray) (a : Int) : List En := if enterS E t a = 0 then E ++ [(t, a)] else E
theorem atT_snoc (E : List En) (t s : ByteArray) (a : Int) : atT (E ++ [(t, a)]) s = (atT E s).or (if t = s then some a else none) := by
  induction E with
  | nil => simp only [List.nil_append, atT]; split <;> rfl
  | cons e E ih =>
    simp only [List.cons_append, atT]
    split
    · rfl
    · exact ih
theorem lenA_snoc (E : List En) (t : ByteArray) (a b : Int) : lenA (E ++ [(t, a)]) b = (lenA E b).or (if a = b then some ((runes t).length : Nat) else none) := by
  induction E with
  | nil => simp only [List.nil_append, lenA]; split <;> rfl
  | cons e E ih =>
    simp only [List.cons_append, lenA]
    split
    · rfl
    · exact ih
theorem runesN_append (E F : List En) : runesN (E ++ F) = runesN E + runesN F := by
  induction E with
  | nil => simp [runesN]
  | cons e E ih => simp only [List.cons_append, runesN, ih]; omega
theorem runesN_le (E : List En) (h : ∀ e ∈ E, e.1.size ≤ 1000000) : runesN E ≤ E.length * 1000000 := by
  induction E with
  | nil => simp [runesN]
  | cons e E ih =>
    have h1 := ih (fun x hx => h x (List.mem_cons_of_mem _ hx))
    have h2 := h e (List.mem_cons_self ..)
    have h3 : (runes e.1).length ≤ e.1.size := runes_le e.1
    simp only [runesN, List.length_cons, Nat.add_mul]
    omega
/-- The maps, as functions. -/
def fT (E : List En) : Value → Option Value
  | .string s => (atT E s).map (.int .i64)
  | _ => none
def fA (E : List En) : Value → Option Value
  | .int .i64 a => (lenA E a).map (.int .i64)
  | _ => none
theorem fT_at (E : List En) (s : ByteArray) : fT E (.string s) = (atT E s).map (.int .i64) := rfl
theorem fA_at (E : List En) (a : Int) : fA E (.int .i64 a) = (lenA E a).map (.int .i64) := rfl
theorem fT_put (E : List En) (t : ByteArray) (a : Int) (h : atT E t = none) : fT (E ++ [(t, a)]) (.string t) = some (.int .i64 a) ∧ ∀ x, x ≠ .string t → fT (E ++ [(t, a)]) x = fT E x := by
  refine ⟨by rw [fT_at, atT_snoc, h, if_pos rfl]; rfl, fun x hx => ?_⟩
  cases x with
  | string s =>
    have hne : ¬ t = s := fun q => hx (by rw [q])
    rw [fT_at, fT_at, atT_snoc, if_neg hne, Option.or_none]
  | _ => rfl
theorem fA_put (E : List En) (t : ByteArray) (a : Int) (h : lenA E a = none) : fA (E ++ [(t, a)]) (.int .i64 a) = some (.int .i64 ((runes t).length : Nat)) ∧ ∀ x, x ≠ .int .i64 a → fA (E ++ [(t, a)]) x = fA E x := by
  refine ⟨by rw [fA_at, lenA_snoc, h, if_pos rfl]; rfl, fun x hx => ?_⟩
  cases x with
  | int k b =>
    cases k with
    | i64 =>
      have hne : ¬ a = b := fun q => hx (by rw [q])
      rw [fA_at, fA_at, lenA_snoc, if_neg hne, Option.or_none]
    | _ => rfl
  | _ => rfl
end Sp

/-- The blocks S and those that came between two worlds. -/
def Grow (S : Nat → Prop) (w w' : World) : Nat → Prop := fun k => S k ∨ (w.heap.size ≤ k ∧ k < w'.heap.size)

/-- The program's table. -/
structure TabAt (w : World) (S : Nat → Prop) (tb N : Nat) (E : List Sp.En) (ba bo : Nat) (A : Option Addr) (c : Nat) : Prop where
  box : w.heap[tb]? = some (.cells #[.slice A E.length c, .map (some ba), .map (some bo), .int .i64 (Sp.runesN E : Nat)] 56 (0, 0))
  row : w.ownsRow 0 9 1 (.slice A E.length c) E.length (E.map fun e => .string e.1)
  mt : MapV Tryd.prog w 9 ba N (Sp.fT E)
  ma : MapV Tryd.prog w 3 bo N (Sp.fA E)
  ne : ba ≠ bo
  sb : S tb
  sa : S ba
  so : S bo
  sr : ∀ k, (Value.slice A E.length c).ownBlock = some k → S k ∧ k ≠ tb
  lt : ∀ k, S k → k < w.heap.size
  len : E.length ≤ N
  sm : ∀ e ∈ E, e.1.size ≤ 1000000

theorem infoStr : (Tryd.prog.info? 9).map (fun i => (i.zero, i.size, i.bytes)) = some (some (.string ⟨#[]⟩), 1, 16) := by kernel_rfl
theorem lawS : Maps.Keyed Tryd.prog 9 := string_keyed Tryd.underlying9
theorem lawI : Maps.Keyed Tryd.prog 3 := int_keyed Tryd.underlying3
theorem zeroI (w : World) : (zeroValue 3).run Tryd.prog w = .ok (.int .i64 0) w := by kernel_rfl
theorem keyS (s : ByteArray) (h : s.size ≤ maxLen) : keyOf Tryd.prog 9 (.string s) = some (.string s.data.toList) := Go.WideMaps.keyOf_string_mk Tryd.underlying9 h
theorem keyI (a : Int) (h : -9223372036854775808 ≤ a ∧ a ≤ 9223372036854775807) : keyOf Tryd.prog 3 (.int .i64 a) = some (.int .i64 a) := keyOf_int_mk Tryd.underlying3 ((Lit.wf_int_iff _ _).2 h)
end Go.Proofs.YtokkpdjbgaicmaaDoor
