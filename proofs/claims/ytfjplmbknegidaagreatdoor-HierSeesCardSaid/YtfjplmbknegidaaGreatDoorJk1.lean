/-
  Texts of the proof, joined: each says at its head what it proves.
-/
import Derived.Lib.RuneCount
import Derived.Lib.RuneBytes
import Derived.Lib.ValidU
import Derived.RowKit
import Derived.KernelRfl
import Derived.Laws.BitsLemmas
import Derived.Test.YtfjplmbknegidaaGreatDoorProg
import Derived.WalkKit
import Derived.Lib.Walk
import Derived.Laws.RangeString
import Derived.Laws.RangeAny
import Derived.LoopTactic
import Derived.Below
import Derived.Deep.QuietTactic
import Derived.BigQuiet
import Derived.Lib.Hide
import Derived.IntWalk
import Derived.WalkLawsBesides
import Derived.WalkSpells
import Derived.Test.YtfjplmbknegidaaGreatDoorShelf
import Derived.Shelf.Strings.BuilderRune
import Derived.Shelf.Utf8.AppendRune
import Derived.Laws.AppendOwn
import Derived.Laws.BytesArg
import Derived.OwnWalk
import Derived.WalkSmall
import Derived.Laws.IdiomStrings
import Derived.Laws.Cover4
section
/-
  Plain words for chapter 1's code, with no program in sight: a string's runes one by one, as the model's own decoder tells them.
-/
set_option linter.unusedVariables false
namespace Go.Proofs.YtfjplmbknegidaaGreatDoor.Sp
open Go.Lib

/-- The runes from place pos on, at most fuel of them. -/
def rl (s : ByteArray) : Nat → Nat → List Int
  | 0, _ => []
  | f + 1, pos => if pos < s.size then ((Utf8.decode s pos).1 : Int) :: rl s f (pos + (Utf8.decode s pos).2) else []

theorem rl_end (s : ByteArray) (f pos : Nat) (h : ¬ pos < s.size) : rl s f pos = [] := by cases f <;> simp [rl, h]

theorem rl_step (s : ByteArray) (f pos : Nat) (h : pos < s.size) (hf : s.size ≤ pos + f) :
    ∃ g, f = g + 1 ∧ s.size ≤ pos + (Utf8.decode s pos).2 + g ∧ rl s f pos = ((Utf8.decode s pos).1 : Int) :: rl s g (pos + (Utf8.decode s pos).2) := by
  obtain ⟨g, rfl⟩ : ∃ g, f = g + 1 := ⟨f - 1, by omega⟩
  have := decode_width_pos s pos h
  exact ⟨g, rfl, by omega, by simp [rl, h]⟩

/-- All runes of a string. -/
def runes (s : ByteArray) : List Int := rl s s.size 0

/-- The rune at a place, and whether there is one. -/
def atL : List Int → Int → Int × Bool
  | [], _ => (0, false)
  | r :: l, i => if i = 0 then (r, true) else atL l (i - 1)

theorem rl_length (s : ByteArray) : ∀ f pos, (rl s f pos).length = runeCountFrom s f pos
  | 0, _ => rfl
  | f + 1, pos => by
    unfold rl runeCountFrom
    split
    · simp [rl_length s f]; omega
    · rfl

theorem runes_length (s : ByteArray) : (runes s).length = runeCount s := rl_length s _ _

theorem rl_range (s : ByteArray) : ∀ f pos, ∀ r ∈ rl s f pos, 0 ≤ r ∧ r ≤ 2147483647
  | 0, _, r, h => by simp [rl] at h
  | f + 1, pos, r, h => by
    unfold rl at h
    split at h
    · rcases List.mem_cons.1 h with rfl | h
      · have := decode_le s pos
        omega
      · exact rl_range s f _ r h
    · simp at h

/-! Bits of a byte -/
theorem byte_cases (p : Int → Prop) (h : ∀ n : Fin 256, p (n.val : Int)) (c : Int) (h0 : 0 ≤ c) (h1 : c ≤ 255) : p c := by
  have := h ⟨c.toNat, by omega⟩
  simpa [Int.toNat_of_nonneg h0] using this
theorem and63 (c : Int) (h0 : 0 ≤ c) (h1 : c ≤ 255) : Go.bits .and .u8 c 63 = c % 64 :=
  byte_cases (fun c => Go.bits .and .u8 c 63 = c % 64) (by decide +kernel) c h0 h1
theorem and192 (c : Int) (h0 : 0 ≤ c) (h1 : c ≤ 255) : (Go.bits .and .u8 c 192 == 128) = decide (128 ≤ c ∧ c < 192) :=
  byte_cases (fun c => (Go.bits .and .u8 c 192 == 128) = decide (128 ≤ c ∧ c < 192)) (by decide +kernel) c h0 h1
theorem and224 (c : Int) (h0 : 0 ≤ c) (h1 : c ≤ 255) : (Go.bits .and .u8 c 224 == 192) = decide (192 ≤ c ∧ c < 224) :=
  byte_cases (fun c => (Go.bits .and .u8 c 224 == 192) = decide (192 ≤ c ∧ c < 224)) (by decide +kernel) c h0 h1
theorem and240 (c : Int) (h0 : 0 ≤ c) (h1 : c ≤ 255) : (Go.bits .and .u8 c 240 == 224) = decide (224 ≤ c ∧ c < 240) :=
  byte_cases (fun c => (Go.bits .and .u8 c 240 == 224) = decide (224 ≤ c ∧ c < 240)) (by decide +kernel) c h0 h1
theorem and31 (c : Int) (h0 : 0 ≤ c) (h1 : c ≤ 255) : Go.bits .and .u8 c 31 = c % 32 :=
  byte_cases (fun c => Go.bits .and .u8 c 31 = c % 32) (by decide +kernel) c h0 h1
theorem and15 (c : Int) (h0 : 0 ≤ c) (h1 : c ≤ 255) : Go.bits .and .u8 c 15 = c % 16 :=
  byte_cases (fun c => Go.bits .and .u8 c 15 = c % 16) (by decide +kernel) c h0 h1

theorem i32_and63 (x : Int) (h0 : 0 ≤ x) (h1 : x < 2147483648) : Go.bits .and .i32 x 63 = x % 64 := Go.bits_mask .i32 31 (by decide) Go.wraps_i32 6 (by decide) x h0 h1
theorem i32_and1023 (x : Int) (h0 : 0 ≤ x) (h1 : x < 2147483648) : Go.bits .and .i32 x 1023 = x % 1024 := Go.bits_mask .i32 31 (by decide) Go.wraps_i32 10 (by decide) x h0 h1
theorem or128 (y : Int) (h0 : 0 ≤ y) (h1 : y < 64) : Go.bits .or .u8 128 y = 128 + y := Go.u8_or128 _ h0 h1
theorem or192 (y : Int) (h0 : 0 ≤ y) (h1 : y < 32) : Go.bits .or .u8 192 y = 192 + y := Go.u8_or192 _ h0 h1

/-- A byte of a string, as a number; 0 behind the end. -/
def bt (s : ByteArray) (i : Nat) : Int := if h : i < s.size then ((s[i]'h).toNat : Int) else 0
theorem bt_range (s : ByteArray) (i : Nat) : 0 ≤ bt s i ∧ bt s i ≤ 255 := by
  unfold bt
  split
  · rename_i h
    have := (s[i]'h).toNat_lt
    omega
  · omega
theorem bt_in (s : ByteArray) (i : Nat) (h : i < s.size) : ((s[i]'h).toNat : Int) = bt s i := by simp [bt, h]

/-! The bytes of a rune in modified UTF-8 -/
def three (r : Int) : List Int := [224 + r / 4096, 128 + r / 64 % 64, 128 + r % 64]
def encZ (r : Int) : List Int :=
  if 0 < r ∧ r < 128 then [r]
  else if r < 2048 then [192 + r / 64, 128 + r % 64]
  else if r < 65536 then three r
  else three (55296 + (r - 65536) / 1024) ++ three (56320 + (r - 65536) % 1024)

theorem encZ_length (r : Int) : 1 ≤ (encZ r).length ∧ (encZ r).length ≤ 6 := by
  unfold encZ three
  repeat' split
  all_goals simp

theorem decode_max (s : ByteArray) (pos : Nat) : (Utf8.decode s pos).1 ≤ 1114111 := by
  have hb : ∀ k, (s.get! (pos + k)).toNat < 256 := fun k => (s.get! (pos + k)).toNat_lt
  have h0 := hb 0; have h1 := hb 1; have h2 := hb 2; have h3 := hb 3
  simp only [Utf8.decode]
  repeat' split
  all_goals simp_all [Utf8.runeError, Utf8.valid]
  all_goals omega

theorem rl_max (s : ByteArray) : ∀ f pos, ∀ r ∈ rl s f pos, 0 ≤ r ∧ r ≤ 1114111
  | 0, _, r, h => by simp [rl] at h
  | f + 1, pos, r, h => by
    unfold rl at h
    split at h
    · rcases List.mem_cons.1 h with rfl | h
      · have := decode_max s pos
        omega
      · exact rl_max s f _ r h
    · simp at h

end Go.Proofs.YtfjplmbknegidaaGreatDoor.Sp
end
section
/-
  Shared lemmas of the walks.
-/
set_option linter.unusedVariables false
namespace Go.Proofs.YtfjplmbknegidaaGreatDoor
open Go.RowKit Go.Lib

theorem below_drewNv {B : Nat} {a w : World} (h : Below B a w) (n : Nat) : Below B a (w.drewN n) := h.trans ⟨rfl, rfl, rfl, Nat.le_refl _, fun _ _ => rfl⟩
theorem below_iter (w : World) (s : ByteArray) (pos : Nat) : Below w.heap.size w (w.iter s pos) :=
  (Below.refl _ _).alloc (Nat.le_refl _) _

end Go.Proofs.YtfjplmbknegidaaGreatDoor
end
section
/-
  Walks of mutf.unit and its closure.
-/
set_option linter.unusedVariables false
set_option linter.unusedSimpArgs false
namespace Go.Proofs.YtfjplmbknegidaaGreatDoor
open Go.RowKit Go.Lib

theorem min2_int (k k' : IntKind) (x y : Int) : Builtin.min2 (.int k x) (.int k' y) = pure (.int k (if y < x then y else x)) := by simp only [Builtin.min2]
theorem min_two (ats : Array TypeId) (ty : TypeId) (a b : Value) : Builtin.min_ ats ty #[a, b] = (Builtin.min2 a b >>= fun s => pure s) := by simp only [Builtin.min_, List.foldlM_cons, List.foldlM_nil]
attribute [local go_sem] min2_int min_two

namespace Sp
/-- What the closure tells of a byte: its lowest six bits (of the last byte, behind the end), and whether it is a tail. -/
def tx (s : ByteArray) (i : Nat) : Int := bt s (if i < s.size then i else s.size - 1) % 64
def tl (s : ByteArray) (i : Nat) : Bool := decide (i < s.size) && decide (128 ≤ bt s i ∧ bt s i < 192)
theorem tx_range (s : ByteArray) (i : Nat) : 0 ≤ tx s i ∧ tx s i ≤ 63 := by unfold tx; omega
/-- What unit tells. -/
def unitF (c x y : Int) (a b : Bool) : Int × Int :=
  if 0 < c ∧ c < 128 then (c, 1)
  else if (192 ≤ c ∧ c < 224) ∧ a = true then
    if c % 32 * 64 + x = 0 ∨ 128 ≤ c % 32 * 64 + x then (c % 32 * 64 + x, 2) else (0, 0)
  else if (224 ≤ c ∧ c < 240) ∧ a = true ∧ b = true then
    if 2048 ≤ c % 16 * 4096 + x * 64 + y then (c % 16 * 4096 + x * 64 + y, 3) else (0, 0)
  else (0, 0)
def unitS (s : ByteArray) : Int × Int := unitF (bt s 0) (tx s 1) (tx s 2) (tl s 1) (tl s 2)
end Sp

end Go.Proofs.YtfjplmbknegidaaGreatDoor
end
section
/-
  (*strings.Builder).copyCheck and WriteRune in this cut (turned from the kit's shelf to this program's own text).
-/
set_option linter.unusedVariables false
namespace Go.Proofs.YtfjplmbknegidaaGreatDoor
open Go.RowKit Go.Lib

theorem sizeBuilder : (Tryz.prog.info? 130).map (·.size) = some 2 := by kernel_rfl
theorem infoByte : (Tryz.prog.info? 5).map (fun i => (i.zero, i.size, i.bytes)) = some (some (.int .u8 0), 1, 1) := by kernel_rfl

set_option maxHeartbeats 1000000 in
set_option maxRecDepth 100000 in
theorem copyCheck_used (b : Nat) (w : World) (h0 : w.cell? ⟨b, 0, none⟩ = some (.pointer (some ⟨b, 0, none⟩))) :
    Calls Tryz.prog 118 #[.pointer (some ⟨b, 0, none⟩)] w fun e w' => e = .returned (.tuple #[]) ∧ w' = w := by
  obtain ⟨j, hj, _⟩ := Option.map_eq_some_iff.1 sizeBuilder
  go_enter Tryz.func118, Tryz.ntmps118
  go_wp2
  rw [Lib.run_neq_ptr_same w _ Tryz.underlying128 hj]
  go_wp2
  go_end0
  exact ⟨rfl, rfl⟩
set_option maxHeartbeats 1000000 in
set_option maxRecDepth 100000 in
theorem copyCheck_fresh (b : Nat) (w : World) (h0 : w.cell? ⟨b, 0, none⟩ = some (.pointer none)) (hsh : w.shape? b = some (130, 2)) (hfz : w.frozen? ⟨b, 0, none⟩ = false) :
    Calls Tryz.prog 118 #[.pointer (some ⟨b, 0, none⟩)] w fun e w' => e = .returned (.tuple #[]) ∧ w' = w.setCell ⟨b, 0, none⟩ (.pointer (some ⟨b, 0, none⟩)) := by
  obtain ⟨j, hj, hjs⟩ := Option.map_eq_some_iff.1 sizeBuilder
  go_enter Tryz.func118, Tryz.ntmps118
  go_wp2
  rw [Lib.run_to_unsafe w ⟨b, 0, none⟩ Tryz.underlying128 Tryz.underlying178 hj (by rw [hjs]; decide) hsh (Nat.zero_lt_succ 1)]
  simp only [Result.andThen]
  rw [Oper.upon_value]
  go_wp2
  rw [run_callFunc_extern Tryz.func132 (by kernel_rfl) (by kernel_rfl) (by kernel_rfl) (e := Extern.AbiNoEscape.same) (by kernel_rfl)]
  rw [Lib.run_noEscape]
  simp only [Result.andThen]
  rw [Oper.upon_value]
  go_wp2
  rw [Lib.run_from_unsafe w ⟨b, 0, none⟩ Tryz.underlying178 Tryz.underlying128 hj hsh (by kernel_rfl)]
  simp only [Result.andThen]
  rw [Oper.upon_value]
  go_wp2
  go_end0
  exact ⟨rfl, rfl⟩

theorem copyCheck_k (B b : Nat) (bs : List Value) (w : World) (h : Lib.IsBuilderF 130 5 B b bs w) :
    Calls Tryz.prog 118 #[.pointer (some ⟨b, 0, none⟩)] w fun e w' => e = .returned (.tuple #[]) ∧ (Lib.BuilderAtF 130 5 B b (.pointer (some ⟨b, 0, none⟩)) bs w' ∧ Below B w w' ∧ Lib.OthersKept 5 (some b) w w') := by
  rcases h with h | h
  · refine (copyCheck_fresh b w h.cell0 h.shape h.frozen0).mono ?_
    rintro e w' ⟨rfl, rfl⟩
    exact ⟨rfl, h.used _, (Below.refl B w).setCell (p := ⟨b, 0, none⟩) h.1 _, (Lib.OthersKept.refl _ _ w).setCell ⟨b, 0, none⟩ rfl _⟩
  · refine (copyCheck_used b w h.cell0).mono ?_
    rintro e w' ⟨rfl, rfl⟩
    exact ⟨rfl, h, Below.refl B _, Lib.OthersKept.refl _ _ _⟩

end Go.Proofs.YtfjplmbknegidaaGreatDoor
end
section
/-
  The walk of mutf.Decode.
-/
set_option linter.unusedVariables false
set_option linter.unusedSimpArgs false
namespace Go.Proofs.YtfjplmbknegidaaGreatDoor
open Go.RowKit Go.Lib

namespace Sp
/-- What Decode makes of the bytes that are left, behind what it has written; none: ErrForm. -/
def decG : Nat → ByteArray → List UInt8 → Option (List UInt8)
  | 0, _, _ => none
  | f + 1, b, acc =>
    if b.size = 0 then some acc
    else if (unitS b).2 = 0 ∨ (56320 ≤ (unitS b).1 ∧ (unitS b).1 < 57344) then none
    else if 55296 ≤ (unitS b).1 ∧ (unitS b).1 < 56320 then
      if b.size < 6 then none
      else if (unitS (b.extract 3 b.size)).2 = 0 ∨ (unitS (b.extract 3 b.size)).1 < 56320 ∨ 57344 ≤ (unitS (b.extract 3 b.size)).1 then none
      else decG f (b.extract 6 b.size) (acc ++ encodeRune (65536 + ((unitS b).1 - 55296) * 1024 + ((unitS (b.extract 3 b.size)).1 - 56320)))
    else decG f (b.extract (unitS b).2.toNat b.size) (acc ++ encodeRune (unitS b).1)

theorem unitF_range (c x y : Int) (a b : Bool) (hx : 0 ≤ x ∧ x ≤ 63) (hy : 0 ≤ y ∧ y ≤ 63) : 0 ≤ (unitF c x y a b).1 ∧ (unitF c x y a b).1 ≤ 65535 ∧ 0 ≤ (unitF c x y a b).2 ∧ (unitF c x y a b).2 ≤ 3 := by
  unfold unitF
  repeat' split
  all_goals (simp only []; omega)

theorem unitS_size (s : ByteArray) (h : 0 < s.size) : (unitS s).2 ≤ s.size := by
  unfold unitS unitF tl
  repeat' split
  all_goals simp only []
  all_goals first | omega | (simp_all; omega) | simp_all

theorem unitS_three (s : ByteArray) (h : 2048 ≤ (unitS s).1) : (unitS s).2 = 3 := by
  revert h
  unfold unitS unitF
  have hx := tx_range s 1
  have hy := tx_range s 2
  repeat' split
  all_goals simp only []
  all_goals first | (intro _; trivial) | (intro h; omega)

theorem unitS_range (s : ByteArray) : 0 ≤ (unitS s).1 ∧ (unitS s).1 ≤ 65535 ∧ 0 ≤ (unitS s).2 ∧ (unitS s).2 ≤ 3 := unitF_range _ _ _ _ _ (tx_range s 1) (tx_range s 2)
def decS (b : ByteArray) : ByteArray × Int :=
  if 65535 < b.size then (⟨#[]⟩, 2)
  else match decG (b.size + 1) b [] with
    | none => (⟨#[]⟩, 4)
    | some l => (⟨l.toArray⟩, 0)
end Sp

theorem builderAtF_below {T e : TypeId} {B b : Nat} {p : Value} {bs : List Value} {w w1 : World} (h : BuilderAtF T e B b p bs w) (hb : Below w.heap.size w w1) : BuilderAtF T e B b p bs w1 := by
  obtain ⟨hB, v, hbk, hown, hne⟩ := h
  refine ⟨hB, v, (hb.block b (Array.getElem?_eq_some_iff.1 hbk).1).trans hbk, ⟨hown.1, ?_⟩, hne⟩
  rcases hown.2 with h | ⟨g, cap, cur, fz, h1, h2, h3, h4⟩
  · exact .inl h
  · exact .inr ⟨g, cap, cur, fz, h1, h2, (hb.block g (Array.getElem?_eq_some_iff.1 h3).1).trans h3, h4⟩
theorem isBuilderF_below {T e : TypeId} {B b : Nat} {bs : List Value} {w w1 : World} (h : IsBuilderF T e B b bs w) (hb : Below w.heap.size w w1) : IsBuilderF T e B b bs w1 :=
  h.elim (fun x => .inl (builderAtF_below x hb)) (fun x => .inr (builderAtF_below x hb))
theorem below_then {B : Nat} {w w1 w2 : World} (h : Below B w w1) (hB : B ≤ w1.heap.size) (k : Below w1.heap.size w1 w2) : Below B w w2 :=
  h.trans ⟨k.os, k.tape, k.output, k.size, fun i hi => k.block i (Nat.lt_of_lt_of_le hi hB)⟩
def strOf : Value → ByteArray
  | .string s => s
  | _ => ⟨#[]⟩

end Go.Proofs.YtfjplmbknegidaaGreatDoor
end
section
/-
  The walk of mutf.Encode.
-/
set_option linter.unusedVariables false
set_option linter.unusedSimpArgs false
namespace Go.Proofs.YtfjplmbknegidaaGreatDoor
open Go.RowKit Go.Lib

/-- Numbers as the cells of a row of bytes. -/
def numc (xs : List Int) : List Value := xs.map (Value.int .u8)
theorem numc_append (xs ys : List Int) : numc (xs ++ ys) = numc xs ++ numc ys := by simp [numc]
theorem numc_length (xs : List Int) : (numc xs).length = xs.length := by simp [numc]

set_option maxHeartbeats 4000000 in
set_option maxRecDepth 100000 in
theorem three_own (B : Nat) (v : Value) (xs : List Int) r (h0 : 0 ≤ r) (h1 : r < 65536) (w : World) (hown : w.ownsRow B 5 1 v xs.length (numc xs)) (hlen : xs.length + 3 ≤ 140737488355328) (hBw : B ≤ w.heap.size) :
    Calls Tryz.prog 107 #[v, .int .i32 r] w fun e w' => ∃ v', e = .returned v' ∧ w'.ownsRow B 5 1 v' (xs.length + 3) (numc (xs ++ Sp.three r)) ∧ ∃ o, (w.alloc o).grownBy w' v.ownBlock := by
  obtain ⟨i0, hi, hz0, hz1, hz2⟩ := info_parts infoByte
  go_enter Tryz.func107, Tryz.ntmps107
  go_wp2_with (at_builtin; refine wpList_append_own _ rfl _ _ 114 rfl B 5 i0 (.int .u8 0) 1 1 Tryz.underlying114 hi hz0 hz1 hz2 rfl (by decide) _ _ _ rfl (hown.alloc _) ⟨w.heap.size, 0, none⟩ 3 3 (numc (Sp.three r)) rfl rfl ?c1 ?c2 ?c3 ?c4 ?c5 ?_)
  case c1 =>
    have e1 : bits BinOp.or IntKind.u8 128 (bits BinOp.and IntKind.i32 (r / 64) 63 % 256) = 128 + r / 64 % 64 := by
      rw [Sp.i32_and63 _ (by omega) (by omega), Sp.or128 _ (by omega) (by omega)]; omega
    have e2 : bits BinOp.or IntKind.u8 128 (bits BinOp.and IntKind.i32 r 63 % 256) = 128 + r % 64 := by
      rw [Sp.i32_and63 _ (by omega) (by omega), Sp.or128 _ (by omega) (by omega)]; omega
    intro j u hj
    match j, hj with
    | 0, hj => simp [numc, Sp.three] at hj; subst hj; simp [Addr.add]
    | 1, hj => simp [numc, Sp.three] at hj; subst hj; simp [Addr.add, e1]
    | 2, hj => simp [numc, Sp.three] at hj; subst hj; simp [Addr.add, e2]
    | (j + 3), hj => simp [numc, Sp.three] at hj
  case c2 => intro u hu; simp [numc, Sp.three] at hu; rcases hu with rfl | rfl | rfl <;> rfl
  case c3 => unfold maxLen; omega
  case c4 => omega
  case c5 => simp; omega
  intro v' w2 hown' hgrow _
  go_wp2
  go_ret
  exact ⟨_, rfl, by rw [numc_append]; exact hown', _, hgrow⟩

theorem iter_grown {w w' : World} {v : Value} {B n : Nat} {xs : List Value} {k : Nat} {s : ByteArray} {pos : Nat} (hown : w.ownsRow B 5 1 v n xs) (hg : w.grownBy w' v.ownBlock) (hk : w.heap[k]? = some (.stringIter s pos)) : w'.heap[k]? = some (.stringIter s pos) :=
  (OthersKept.grown (OthersKept.refl 5 none w) hg (Lib.ownsRowF_kind (World.ownsRowF_of hown))) k _ hk (by simp) (fun _ _ e1 => by cases e1)
theorem own_base {w : World} {base : Nat} {e : TypeId} {size n : Nat} {v : Value} {xs : List Value} (h : w.ownsRow base e size v n xs) (k : Nat) (hk : v.ownBlock = some k) : base ≤ k := by
  rcases h.2 with ⟨rfl, _⟩ | ⟨g, cap, cur, rfl, hb, _⟩
  · simp [Value.ownBlock] at hk
  · have : g = k := by simpa [Value.ownBlock] using hk
    omega

theorem app_step {w0 w2 w3 : World} {o : Obj} {v4 v' : Value} {acc news : List Int} {m k B0 : Nat} {s : ByteArray} {pos : Nat} (hown : w2.ownsRow (k + 1) 5 1 v4 acc.length (numc acc)) (hl : news.length = m)
    (hown' : w3.ownsRow (k + 1) 5 1 v' (acc.length + m) (numc (acc ++ news))) (hg : (w2.alloc o).grownBy w3 v4.ownBlock) (hit : w2.heap[k]? = some (.stringIter s pos)) (hb : Below B0 w0 w2) (hB0 : B0 ≤ k) :
    w3.ownsRow (k + 1) 5 1 v' (acc ++ news).length (numc (acc ++ news)) ∧ w3.heap[k]? = some (.stringIter s pos) ∧ Below B0 w0 w3 := by
  have hlt : k < w2.heap.size := (Array.getElem?_eq_some_iff.1 hit).1
  refine ⟨by rw [List.length_append, hl]; exact hown', iter_grown (hown.alloc _) hg ((Lib.alloc_old w2 _ k hlt).trans hit), ?_⟩
  exact (hb.alloc (by omega) _).grown hg (by simp; omega) (fun q hq => by have := own_base hown q hq; omega)

theorem own_string {P : Program} {w : World} {base n : Nat} {e' src dst e : TypeId} {v : Value} {xs : List Int} (hs : P.underlying src = some (.slice e)) (he : P.underlying e = some (.int .u8)) (hd : P.underlying dst = some .string)
    (h : w.ownsRow base e' 1 v n (numc xs)) : (convert src dst v).run P w = .ok (.string (Go.strOfNums xs)) w := by
  have hl : xs.length = n := by have := h.1; simp [numc] at this; exact this
  rcases h.2 with ⟨rfl, rfl⟩ | ⟨g, cap, cur, rfl, _⟩
  · obtain rfl : xs = [] := List.eq_nil_of_length_eq_zero hl
    exact run_convert_bytes_nil w src e hs he 0 0 dst hd
  · refine run_convert_bytes_arg w src e hs he g 0 n cap xs hl (fun i hi => ?_) dst hd
    have hc := h.cells (g := g) rfl i (.int .u8 (xs.getD i 0)) (by simp [numc, List.getElem?_eq_getElem (show i < xs.length by omega), List.getD_eq_getElem?_getD])
    have ha : (⟨g, 0, none⟩ : Addr).add i = ⟨g, 0 + i, none⟩ := by unfold Addr.add; split <;> simp_all
    rwa [ha] at hc

namespace Sp
/-- What Encode writes. -/
def encL (l : List Int) : List Int := l.flatMap encZ
def encS (s : ByteArray) : ByteArray × Int :=
  if validD s.data.toList = false then (⟨#[]⟩, 4)
  else if 65535 < (encL (runes s)).length then (⟨#[]⟩, 2)
  else (Go.strOfNums (encL (runes s)), 0)
end Sp

set_option maxHeartbeats 8000000 in
set_option maxRecDepth 100000 in
theorem encode_any (s : ByteArray) (w : World) (hs : s.size ≤ 1099511627776) (hT : Lib.Utf8Tabs (Tryz.lays196_ren.g 3) (Tryz.lays196_ren.g 4) w) :
    Calls Tryz.prog 81 #[.string s] w fun e w' => e = .returned (.tuple #[.string (Sp.encS s).1, .int .i64 (Sp.encS s).2]) ∧ Below w.heap.size w w' := by
  obtain ⟨i0, hi, hz0, hz1, hz2⟩ := info_parts infoByte
  have hV := Tryz.utf8_ValidString s w (by omega) hT
  have HE := Lib.hid (show Sp.encS s = _ by rw [Sp.encS])
  generalize Sp.encS s = R at HE ⊢
  generalize validD s.data.toList = V at hV HE
  have HV := Lib.hid hV
  clear hV
  go_enter Tryz.func81, Tryz.ntmps81
  go_wp2_with fail
  refine HV.out.mono ?_
  rintro e W1 ⟨rfl, hb1⟩
  clear HV
  cases V with
  | false =>
    have hR : Hid (R = (⟨#[]⟩, 4)) := Lib.hid (by rw [HE.out, if_pos rfl])
    clear HE
    go_wp2
    go_ret2
    exact ⟨by rw [hR.out]; rfl, hb1⟩
  | true =>
    have HR : Hid (R = if 65535 < (Sp.encL (Sp.runes s)).length then (⟨#[]⟩, 2) else (Go.strOfNums (Sp.encL (Sp.runes s)), 0)) := Lib.hid (by rw [HE.out, if_neg (by simp)])
    clear HE
    have hsz1 := hb1.size
    go_wp2
    go_loopw [4] (fun v4 wr => ∃ (pos f : Nat) (acc : List Int), wr.ownsRow (W1.heap.size + 1) 5 1 v4 acc.length (numc acc) ∧ wr.heap[W1.heap.size]? = some (.stringIter s pos) ∧ Below w.heap.size w wr ∧ Hid (acc ++ Sp.encL (Sp.rl s f pos) = Sp.encL (Sp.runes s)) ∧ s.size ≤ pos + f ∧ acc.length ≤ 6 * pos) (fun _ wr => s.size - wr.iterPos W1.heap.size)
    case atStart =>
      refine ⟨0, s.size, [], ⟨by simp [numc], .inl ⟨rfl, rfl⟩⟩, ?_, below_then hb1 hsz1 (below_iter _ _ _), Lib.hid rfl, by omega, by simp⟩
      exact World.iter_heap W1 s 0
    case round =>
      obtain ⟨pos, f, acc, hown, hit, hbw, hacc, hfu, hal⟩ := hrel
      have hsz : W1.heap.size < wr.heap.size := (Array.getElem?_eq_some_iff.1 hit).1
      by_cases hp : pos < s.size
      · have hnx : ∀ ty, (Instr.next (.pointer (some ⟨W1.heap.size, 0, none⟩)) true ty).run Tryz.prog wr = _ := fun ty => Lib.run_next_any_at wr W1.heap.size s pos ty hit hp
        have hwd := Lib.decode_width_pos s pos hp
        have hmx : ((Utf8.decode s pos).1 : Int) ≤ 1114111 := by have := Sp.decode_max s pos; omega
        have hmn : (0 : Int) ≤ ((Utf8.decode s pos).1 : Int) := by omega
        obtain ⟨g, rfl, hg, hr⟩ := Sp.rl_step s f pos hp hfu
        have hr' := Lib.hid hr
        clear hr
        have hit2 := Lib.iterAt_heap wr W1.heap.size s pos (pos + (Utf8.decode s pos).2) hit
        have hbw2 := Lib.below_iterAt hbw (k := W1.heap.size) (by omega) s (pos + (Utf8.decode s pos).2)
        have hown2 := ownsRow_iterAt hown (k := W1.heap.size) (by omega) s (pos + (Utf8.decode s pos).2)
        have hsz2 : W1.heap.size < (wr.iterAt W1.heap.size s (pos + (Utf8.decode s pos).2)).heap.size := by rw [Lib.iterAt_size]; omega
        have hlt2 : pos < pos + (Utf8.decode s pos).2 := by omega
        generalize pos + (Utf8.decode s pos).2 = pos2 at *
        generalize ((Utf8.decode s pos).1 : Int) = r at *
        generalize wr.iterAt W1.heap.size s pos2 = w2 at *
        clear hown hbw hsz
        by_cases c1 : 0 < r ∧ r < 128
        · have he : Sp.encZ r = [r] := by rw [Sp.encZ, if_pos (by omega)]
          have HE := Lib.hid he
          clear he
          obtain ⟨c10, c11⟩ := c1
          go_wp2_with (at_builtin; refine wpList_append_own _ rfl _ _ 114 rfl (W1.heap.size + 1) 5 i0 (.int .u8 0) 1 1 Tryz.underlying114 hi hz0 hz1 hz2 rfl (by decide) _ _ _ rfl (hown2.alloc _) ⟨w2.heap.size, 0, none⟩ 1 1 (numc [r]) rfl rfl ?c1 ?c2 ?c3 ?c4 ?c5 ?_)
          case c1 =>
            intro j u hj
            match j, hj with
            | 0, hj => simp [numc] at hj; subst hj; simp [Addr.add]
            | (j + 1), hj => simp [numc] at hj
          case c2 => intro u hu; simp [numc] at hu; subst hu; rfl
          case c3 => unfold maxLen; omega
          case c4 => omega
          case c5 => first | omega | (simp; omega)
          intro v' w3 hown' hgrow _
          obtain ⟨ho3, hi3, hb3⟩ := app_step (o := _) (news := [r]) hown2 rfl (by rw [numc_append]; exact hown') hgrow hit2 hbw2 (by omega)
          go_wp2
          go_roundw
          case rel =>
            refine ⟨pos2, g, acc ++ [r], ho3, hi3, hb3, Lib.hid ?_, by omega, by simp; omega⟩
            rw [← hacc.out, hr'.out, Sp.encL, Sp.encL, List.flatMap_cons, HE.out, List.append_assoc]
          case measure =>
            simp only [World.iterPos, hi3, hit]
            omega
        have c1b : ¬ (0 < r) ∨ ¬ (r < 128) := by omega
        by_cases c2 : r < 2048
        · have he : Sp.encZ r = [192 + r / 64, 128 + r % 64] := by rw [Sp.encZ, if_neg (by omega), if_pos (by omega)]
          have HE := Lib.hid he
          clear he
          by_cases c0 : 0 < r
          · have c0b : 128 ≤ r := by omega
            clear c1 c1b
            go_wp2_with (at_builtin; refine wpList_append_own _ rfl _ _ 114 rfl (W1.heap.size + 1) 5 i0 (.int .u8 0) 1 1 Tryz.underlying114 hi hz0 hz1 hz2 rfl (by decide) _ _ _ rfl (hown2.alloc _) ⟨w2.heap.size, 0, none⟩ 2 2 (numc [192 + r / 64, 128 + r % 64]) rfl rfl ?c1 ?c2 ?c3 ?c4 ?c5 ?_)
            case c1 =>
              have e2 : bits BinOp.or IntKind.u8 128 (bits BinOp.and IntKind.i32 r 63 % 256) = 128 + r % 64 := by
                rw [Sp.i32_and63 _ (by omega) (by omega), Sp.or128 _ (by omega) (by omega)]; omega
              intro j u hj
              match j, hj with
              | 0, hj => simp [numc] at hj; subst hj; simp [Addr.add]
              | 1, hj => simp [numc] at hj; subst hj; simp [Addr.add, e2]
              | (j + 2), hj => simp [numc] at hj
            case c2 => intro u hu; simp [numc] at hu; rcases hu with rfl | rfl <;> rfl
            case c3 => unfold maxLen; omega
            case c4 => omega
            case c5 => first | omega | (simp; omega)
            intro v' w3 hown' hgrow _
            obtain ⟨ho3, hi3, hb3⟩ := app_step (o := _) (news := [192 + r / 64, 128 + r % 64]) hown2 rfl (by rw [numc_append]; exact hown') hgrow hit2 hbw2 (by omega)
            go_wp2
            go_roundw
            case rel =>
              refine ⟨pos2, g, acc ++ [192 + r / 64, 128 + r % 64], ho3, hi3, hb3, Lib.hid ?_, by omega, by simp; omega⟩
              rw [← hacc.out, hr'.out, Sp.encL, Sp.encL, List.flatMap_cons, HE.out, List.append_assoc]
            case measure =>
              simp only [World.iterPos, hi3, hit]
              omega
          · have c0b : r ≤ 0 := by omega
            clear c1 c1b
            go_wp2_with (at_builtin; refine wpList_append_own _ rfl _ _ 114 rfl (W1.heap.size + 1) 5 i0 (.int .u8 0) 1 1 Tryz.underlying114 hi hz0 hz1 hz2 rfl (by decide) _ _ _ rfl (hown2.alloc _) ⟨w2.heap.size, 0, none⟩ 2 2 (numc [192 + r / 64, 128 + r % 64]) rfl rfl ?c1 ?c2 ?c3 ?c4 ?c5 ?_)
            case c1 =>
              have e2 : bits BinOp.or IntKind.u8 128 (bits BinOp.and IntKind.i32 r 63 % 256) = 128 + r % 64 := by
                rw [Sp.i32_and63 _ (by omega) (by omega), Sp.or128 _ (by omega) (by omega)]; omega
              intro j u hj
              match j, hj with
              | 0, hj => simp [numc] at hj; subst hj; simp [Addr.add]
              | 1, hj => simp [numc] at hj; subst hj; simp [Addr.add, e2]
              | (j + 2), hj => simp [numc] at hj
            case c2 => intro u hu; simp [numc] at hu; rcases hu with rfl | rfl <;> rfl
            case c3 => unfold maxLen; omega
            case c4 => omega
            case c5 => first | omega | (simp; omega)
            intro v' w3 hown' hgrow _
            obtain ⟨ho3, hi3, hb3⟩ := app_step (o := _) (news := [192 + r / 64, 128 + r % 64]) hown2 rfl (by rw [numc_append]; exact hown') hgrow hit2 hbw2 (by omega)
            go_wp2
            go_roundw
            case rel =>
              refine ⟨pos2, g, acc ++ [192 + r / 64, 128 + r % 64], ho3, hi3, hb3, Lib.hid ?_, by omega, by simp; omega⟩
              rw [← hacc.out, hr'.out, Sp.encL, Sp.encL, List.flatMap_cons, HE.out, List.append_assoc]
            case measure =>
              simp only [World.iterPos, hi3, hit]
              omega
        have c2b : ¬ (r < 2048) := by omega
        have c0b : (128 : Int) ≤ r := by omega
        by_cases c3 : r < 65536
        · have he : Sp.encZ r = Sp.three r := by rw [Sp.encZ, if_neg (by omega), if_neg c2b, if_pos (by omega)]
          have HE := Lib.hid he
          clear he c1b
          have h3 := Lib.hid (three_own (W1.heap.size + 1) u4 acc r (by omega) (by omega) w2 hown2 (by omega) (by omega))
          clear c2 c1
          go_wp2_with fail
          refine h3.out.mono ?_
          rintro e w3 ⟨v', rfl, hown', o, hgrow⟩
          clear h3
          obtain ⟨ho3, hi3, hb3⟩ := app_step (o := _) (news := Sp.three r) hown2 rfl hown' hgrow hit2 hbw2 (by omega)
          go_wp2
          go_roundw
          case rel =>
            refine ⟨pos2, g, acc ++ Sp.three r, ho3, hi3, hb3, Lib.hid ?_, by omega, by simp [Sp.three]; omega⟩
            rw [← hacc.out, hr'.out, Sp.encL, Sp.encL, List.flatMap_cons, HE.out, List.append_assoc]
          case measure =>
            simp only [World.iterPos, hi3, hit]
            omega
        have c3b : ¬ (r < 65536) := by omega
        have he : Sp.encZ r = Sp.three (55296 + (r - 65536) / 1024) ++ Sp.three (56320 + (r - 65536) % 1024) := by rw [Sp.encZ, if_neg (by omega), if_neg c2b, if_neg c3b]
        have HE := Lib.hid he
        clear he c1b
        have h3 := Lib.hid (three_own (W1.heap.size + 1) u4 acc (55296 + (r - 65536) / 1024) (by omega) (by omega) w2 hown2 (by omega) (by omega))
        clear c2 c3 c1
        go_wp2_with fail
        refine h3.out.mono ?_
        rintro e w3 ⟨v', rfl, hown', o, hgrow⟩
        clear h3
        obtain ⟨ho3, hi3, hb3⟩ := app_step (o := _) (news := Sp.three (55296 + (r - 65536) / 1024)) hown2 rfl hown' hgrow hit2 hbw2 (by omega)
        have hsz3 : W1.heap.size < w3.heap.size := (Array.getElem?_eq_some_iff.1 hi3).1
        have h4 := Lib.hid (three_own (W1.heap.size + 1) v' (acc ++ Sp.three (55296 + (r - 65536) / 1024)) (56320 + (r - 65536) % 1024) (by omega) (by omega) w3 ho3 (by simp [Sp.three]; omega) (by omega))
        have e1023 : bits BinOp.and IntKind.i32 (r - 65536) 1023 = (r - 65536) % 1024 := Sp.i32_and1023 _ (by omega) (by omega)
        clear hown' hgrow hown2 hit2 hbw2
        go_wp2_with fail
        refine h4.out.mono ?_
        rintro e w4 ⟨v'', rfl, hown4, o4, hgrow4⟩
        clear h4
        obtain ⟨ho4, hi4, hb4⟩ := app_step (o := _) (news := Sp.three (56320 + (r - 65536) % 1024)) ho3 rfl hown4 hgrow4 hi3 hb3 (by omega)
        go_wp2
        go_roundw
        case rel =>
          refine ⟨pos2, g, _, ho4, hi4, hb4, Lib.hid ?_, by omega, by simp [Sp.three]; omega⟩
          rw [← hacc.out, hr'.out, Sp.encL, Sp.encL, List.flatMap_cons, HE.out]
          simp only [List.append_assoc]
        case measure =>
          simp only [World.iterPos, hi4, hit]
          omega
      · have hnx : ∀ ty, (Instr.next (.pointer (some ⟨W1.heap.size, 0, none⟩)) true ty).run Tryz.prog wr = _ := fun ty => Lib.run_next_end_at wr W1.heap.size s pos ty hit hp
        have hfin : Hid (Sp.encL (Sp.runes s) = acc) := Lib.hid (by rw [← hacc.out, Sp.rl_end _ _ _ hp]; simp [Sp.encL])
        obtain ⟨A, c, rfl⟩ : ∃ A c, u4 = .slice A acc.length c := by
          rcases hown.2 with ⟨hv, h0⟩ | ⟨g, cap, cur, hv, _⟩
          · exact ⟨none, 0, by rw [hv, h0]⟩
          · exact ⟨_, _, hv⟩
        by_cases hlen : 65535 < acc.length
        · have hR : Hid (R = (⟨#[]⟩, 2)) := Lib.hid (by rw [HR.out, hfin.out, if_pos hlen])
          have hlz : (65535 : Int) < (acc.length : Int) := by omega
          clear HR hfin hacc
          go_wp2
          go_ret2
          exact ⟨by rw [hR.out]; rfl, hbw⟩
        · have hR : Hid (R = (Go.strOfNums acc, 0)) := Lib.hid (by rw [HR.out, hfin.out, if_neg hlen])
          have hlz : ¬ (65535 : Int) < (acc.length : Int) := by omega
          have hconv := own_string (P := Tryz.prog) (src := 114) (dst := 9) Tryz.underlying114 Tryz.underlying5 Tryz.underlying9 hown
          clear HR hfin hacc
          go_wp2
          go_ret2
          exact ⟨by rw [hR.out]; rfl, hbw⟩
end Go.Proofs.YtfjplmbknegidaaGreatDoor
end
section
/-
  Walks of slices.Contains at []rune, mutf.Runes and mutf.Make.
-/
set_option linter.unusedVariables false
set_option linter.unusedSimpArgs false
namespace Go.Proofs.YtfjplmbknegidaaGreatDoor
open Go.RowKit Go.Lib

/-- A slice of numbers that is read: nil, empty and other slices alike. -/
def RdN (k : IntKind) (w : World) (A : Option Addr) (xs : List Int) : Prop :=
  xs.length ≤ 9223372036854775807 ∧ (0 < xs.length → ∃ b o, A = some ⟨b, o, none⟩ ∧ ∀ j, j < xs.length → w.cell? ⟨b, o + j, none⟩ = some (.int k (xs.getD j 0)))

/-- The place of a number. -/
def idx : List Int → Int → Int → Int
  | [], _, _ => -1
  | x :: l, v, at_ => if v = x then at_ else idx l v (at_ + 1)

theorem idx_lo : ∀ (l : List Int) (v a : Int), 0 ≤ a → (idx l v a = -1 ∧ v ∉ l) ∨ (0 ≤ idx l v a ∧ v ∈ l)
  | [], _, _, _ => .inl ⟨rfl, by simp⟩
  | x :: l, v, a, h => by
    unfold idx
    split
    · rename_i e; exact .inr ⟨h, by simp [e]⟩
    · rename_i e
      rcases idx_lo l v (a + 1) (by omega) with ⟨h1, h2⟩ | ⟨h1, h2⟩
      · exact .inl ⟨h1, by simp [e, h2]⟩
      · exact .inr ⟨h1, by simp [h2]⟩

set_option maxHeartbeats 4000000 in
theorem index_rune (A : Option Addr) (c : Nat) (xs : List Int) (v : Int) (w : World) (h : RdN .i32 w A xs) :
    Calls Tryz.prog 120 #[.slice A xs.length c, .int .i32 v] w fun e w' => e = .returned (.int .i64 (idx xs v 0)) ∧ w' = w := by
  obtain ⟨hl, hc⟩ := h
  have HC := Lib.hid hc
  clear hc
  go_enter Tryz.func120, Tryz.ntmps120
  go_wp2
  go_loop [8] (fun n => ∃ k : Nat, k ≤ xs.length ∧ n = .int .i64 k ∧ Hid (idx (xs.drop k) v k = idx xs v 0)) (fun n => xs.length - (RowKit.intOf n).toNat)
  case atStart => exact ⟨0, Nat.zero_le _, rfl, Lib.hid (by simp)⟩
  case round =>
    obtain ⟨k, hk, rfl, hi⟩ := hrel
    by_cases hlt : k < xs.length
    · obtain ⟨b, o, rfl, hcell⟩ := HC.out (by omega)
      have hck := hcell k hlt
      clear hcell
      have hd : Hid (xs.drop k = xs.getD k 0 :: xs.drop (k + 1)) := Lib.hid (by rw [List.drop_eq_getElem_cons hlt]; simp [List.getD_eq_getElem?_getD, hlt])
      generalize xs.getD k 0 = y at hck hd
      by_cases he : v = y
      · have he' : (v == y) = true := by simpa using he
        have hv : Hid (idx xs v 0 = k) := Lib.hid (by rw [← hi.out, hd.out, idx, if_pos he])
        clear he hi hd
        go_wp2
        go_ret
        exact ⟨by rw [hv.out]; rfl, rfl⟩
      · have he' : (v == y) = false := by simpa using he
        have hv : Hid (idx (xs.drop (k + 1)) v (k + 1 : Nat) = idx xs v 0) := Lib.hid (by rw [← hi.out, hd.out, idx, if_neg he]; simp)
        clear he hi hd
        go_wp2
        go_round
        case rel => exact ⟨k + 1, by omega, by go_num, hv⟩
        case measure => simp [RowKit.intOf]; omega
    · have hv : Hid (idx xs v 0 = -1) := Lib.hid (by rw [← hi.out, List.drop_eq_nil_of_le (by omega)]; rfl)
      clear hi
      go_wp2
      go_ret
      exact ⟨by rw [hv.out]; rfl, rfl⟩

theorem contains_rune (A : Option Addr) (c : Nat) (xs : List Int) (v : Int) (w : World) (h : RdN .i32 w A xs) :
    Calls Tryz.prog 99 #[.slice A xs.length c, .int .i32 v] w fun e w' => e = .returned (.bool (decide (v ∈ xs))) ∧ w' = w := by
  rcases idx_lo xs v 0 (by omega) with ⟨h1, h2⟩ | ⟨h1, h2⟩
  · have hd : decide (v ∈ xs) = false := by simpa using h2
    have H1 := Lib.hid h1
    clear h1 h2
    go_enter Tryz.func99, Tryz.ntmps99
    go_wp2_with fail
    refine (index_rune A c xs v _ h).mono ?_
    rintro e w' ⟨rfl, rfl⟩
    rw [H1.out]
    go_wp2
    go_ret
    exact ⟨by rw [hd]; rfl, rfl⟩
  · have hd : decide (v ∈ xs) = true := by simpa using h2
    have H1 := Lib.hid h1
    clear h1 h2
    go_enter Tryz.func99, Tryz.ntmps99
    go_wp2_with fail
    refine (index_rune A c xs v _ h).mono ?_
    rintro e w' ⟨rfl, rfl⟩
    have h1' := H1.out
    generalize idx xs v 0 = q at h1' ⊢
    go_wp2
    go_ret
    exact ⟨by rw [hd]; rfl, rfl⟩
end Go.Proofs.YtfjplmbknegidaaGreatDoor
end
