/-
  Texts of the proof, joined.
-/
import Derived.Lib.RuneCount
import Derived.Lib.RuneBytes
import Derived.Lib.ValidU
import Derived.RowKit
import Derived.KernelRfl
import Derived.Laws.BitsLemmas
import Derived.Test.YtjjlcoimaihdoaaGreatDoorProg
import Derived.WalkKit
import Derived.Lib.Walk
import Derived.Laws.RangeString
import Derived.Laws.RangeAny
import Derived.LoopTactic
import Derived.Below
import Derived.Deep.QuietTactic
import Derived.BigQuiet
import Derived.Lib.Hide
import Derived.IntWalk
import Derived.WalkLawsBesides
import Derived.WalkSpells
import Derived.Shelf.Unicode.ValidAny
import Derived.Shelf.Strings.Builder1
import Derived.Shelf.Strings.Builder2
import Derived.Shelf.Strings.Trim
import Derived.Shelf.Small.Utf8
import Derived.Shelf.Small.Strs
import Derived.Shelf.Small.Wraps
import Derived.Shelf.Strings.BuilderF
import Derived.Shelf.Strings.BuilderK
import Derived.Shelf.Strings.BuilderRune
import Derived.Shelf.Utf8.AppendRune
import Derived.Shelf.Utf8.AppendRunePlain
import Derived.Shelf.Utf8.RuneCount
import Derived.Shelf.Strings.Builder2Cap
import Derived.Shelf.Strings.Search1
import Derived.Shelf.Strings.Search2
import Derived.Shelf.Strings.Cut
import Derived.Shelf.LaysM
import Derived.Shelf.Strings.Shaped
import Derived.Shelf.Strings.Prefix
import Derived.Shelf.Unicode.Decode
import Derived.Shelf.Strings.Runes
import Derived.Shelf.Strings.RuneCount
import Derived.Shelf.Strings.AsciiSet
import Derived.Shelf.Bits.Mul64
import Derived.Shelf.Strings.Repeat
import Derived.Shelf.Unicode.DecodeSlow
import Derived.Shelf.Unicode.DecodeAny
import Derived.Shelf.Strings.BuilderCap
import Derived.Ground.Names2Prog
import Derived.Shelf.Slices.Clone
import Derived.Ground.SlgnProg
import Derived.Shelf.SlicesE.Clone
import Derived.Laws.AppendOwn
import Derived.Laws.BytesArg
import Derived.OwnWalk
import Derived.WalkSmall
import Derived.Laws.IdiomStrings
import Derived.Laws.Cover4
import Derived.DataShut
import Derived.OpenShut
import Derived.Lib.Strings
import Derived.Lib.TrimByte
import Derived.Lib.SlicesS
set_option linter.unusedVariables false
set_option linter.unusedSimpArgs false
namespace Go.Proofs.YtjjlcoimaihdoaaGreatDoor.Sp
open Go.Lib
def rl (s : ByteArray) : Nat → Nat → List Int
 | 0, _ => []
 | f + 1, pos => if pos < s.size then ((Utf8.decode s pos).1 : Int) :: rl s f (pos + (Utf8.decode s pos).2) else []
theorem rl_end (s : ByteArray) (f pos : Nat) (h : ¬ pos < s.size) : rl s f pos = [] := by cases f <;> simp [rl, h]
theorem rl_step (s : ByteArray) (f pos : Nat) (h : pos < s.size) (hf : s.size ≤ pos + f) :
  ∃ g, f = g + 1 ∧ s.size ≤ pos + (Utf8.decode s pos).2 + g ∧ rl s f pos = ((Utf8.decode s pos).1 : Int) :: rl s g (pos + (Utf8.decode s pos).2) := by
 obtain ⟨g, rfl⟩ : ∃ g, f = g + 1 := ⟨f - 1, by omega⟩
 have := decode_width_pos s pos h
 exact ⟨g, rfl, by omega, by simp [rl, h]⟩
def runes (s : ByteArray) : List Int := rl s s.size 0
theorem rl_length (s : ByteArray) : ∀ f pos, (rl s f pos).length = runeCountFrom s f pos
 | 0, _ => rfl
 | f + 1, pos => by
  unfold rl runeCountFrom
  split
  ·simp [rl_length s f]; omega
  ·rfl
theorem runes_length (s : ByteArray) : (runes s).length = runeCount s := rl_length s _ _
theorem byte_cases (p : Int → Prop) (h : ∀ n : Fin 256, p (n.val : Int)) (c : Int) (h0 : 0 ≤ c) (h1 : c ≤ 255) : p c := by
 have := h ⟨c.toNat, by omega⟩
 simpa [Int.toNat_of_nonneg h0] using this
theorem and63 (c : Int) (h0 : 0 ≤ c) (h1 : c ≤ 255) : Go.bits .and .u8 c 63 = c % 64 :=
 byte_cases (fun c => Go.bits .and .u8 c 63 = c % 64) (by decide +kernel) c h0 h1
theorem and192 (c : Int) (h0 : 0 ≤ c) (h1 : c ≤ 255) : (Go.bits .and .u8 c 192 == 128) = decide (128 ≤ c ∧ c < 192) :=
 byte_cases (fun c => (Go.bits .and .u8 c 192 == 128) = decide (128 ≤ c ∧ c < 192)) (by decide +kernel) c h0 h1
theorem and224 (c : Int) (h0 : 0 ≤ c) (h1 : c ≤ 255) : (Go.bits .and .u8 c 224 == 192) = decide (192 ≤ c ∧ c < 224) :=
 byte_cases (fun c => (Go.bits .and .u8 c 224 == 192) = decide (192 ≤ c ∧ c < 224)) (by decide +kernel) c h0 h1
theorem and240 (c : Int) (h0 : 0 ≤ c) (h1 : c ≤ 255) : (Go.bits .and .u8 c 240 == 224) = decide (224 ≤ c ∧ c < 240) :=
 byte_cases (fun c => (Go.bits .and .u8 c 240 == 224) = decide (224 ≤ c ∧ c < 240)) (by decide +kernel) c h0 h1
theorem i32_and63 (x : Int) (h0 : 0 ≤ x) (h1 : x < 2147483648) : Go.bits .and .i32 x 63 = x % 64 := Go.bits_mask .i32 31 (by decide) Go.wraps_i32 6 (by decide) x h0 h1
theorem i32_and1023 (x : Int) (h0 : 0 ≤ x) (h1 : x < 2147483648) : Go.bits .and .i32 x 1023 = x % 1024 := Go.bits_mask .i32 31 (by decide) Go.wraps_i32 10 (by decide) x h0 h1
theorem or128 (y : Int) (h0 : 0 ≤ y) (h1 : y < 64) : Go.bits .or .u8 128 y = 128 + y := Go.u8_or128 _ h0 h1
def bt (s : ByteArray) (i : Nat) : Int := if h : i < s.size then ((s[i]'h).toNat : Int) else 0
theorem bt_range (s : ByteArray) (i : Nat) : 0 ≤ bt s i ∧ bt s i ≤ 255 := by
 unfold bt
 split
 ·rename_i h
  have := (s[i]'h).toNat_lt
  omega
 ·omega
theorem bt_in (s : ByteArray) (i : Nat) (h : i < s.size) : ((s[i]'h).toNat : Int) = bt s i := by simp [bt, h]
def three (r : Int) : List Int := [224 + r / 4096, 128 + r / 64 % 64, 128 + r % 64]
def encZ (r : Int) : List Int :=
 if 0 < r ∧ r < 128 then [r]
 else if r < 2048 then [192 + r / 64, 128 + r % 64]
 else if r < 65536 then three r
 else three (55296 + (r - 65536) / 1024) ++ three (56320 + (r - 65536) % 1024)
theorem encZ_length (r : Int) : 1 ≤ (encZ r).length ∧ (encZ r).length ≤ 6 := by
 unfold encZ three
 repeat' split
 all_goals simp
theorem decode_max (s : ByteArray) (pos : Nat) : (Utf8.decode s pos).1 ≤ 1114111 := by
 have hb : ∀ k, (s.get! (pos + k)).toNat < 256 := fun k => (s.get! (pos + k)).toNat_lt
 have h0 := hb 0; have h1 := hb 1; have h2 := hb 2; have h3 := hb 3
 simp only [Utf8.decode]
 repeat' split
 all_goals simp_all [Utf8.runeError, Utf8.valid]
 all_goals omega
theorem rl_max (s : ByteArray) : ∀ f pos, ∀ r ∈ rl s f pos, 0 ≤ r ∧ r ≤ 1114111
 | 0, _, r, h => by simp [rl] at h
 | f + 1, pos, r, h => by
  unfold rl at h
  split at h
  ·rcases List.mem_cons.1 h with rfl | h
   ·have := decode_max s pos
    omega
   ·exact rl_max s f _ r h
  ·simp at h
end Go.Proofs.YtjjlcoimaihdoaaGreatDoor.Sp
namespace Go.Proofs.YtjjlcoimaihdoaaGreatDoor
open Go.RowKit Go.Lib
theorem below_drewNv {B : Nat} {a w : World} (h : Below B a w) (n : Nat) : Below B a (w.drewN n) := h.trans ⟨rfl, rfl, rfl, Nat.le_refl _, fun _ _ => rfl⟩
theorem below_iter (w : World) (s : ByteArray) (pos : Nat) : Below w.heap.size w (w.iter s pos) :=
 (Below.refl _ _).alloc (Nat.le_refl _) _
theorem min2_int (k k' : IntKind) (x y : Int) : Builtin.min2 (.int k x) (.int k' y) = pure (.int k (if y < x then y else x)) := by simp only [Builtin.min2]
theorem min_two (ats : Array TypeId) (ty : TypeId) (a b : Value) : Builtin.min_ ats ty #[a, b] = (Builtin.min2 a b >>= fun s => pure s) := by simp only [Builtin.min_, List.foldlM_cons, List.foldlM_nil]
attribute [local go_sem] min2_int min_two
namespace Sp
def tx (s : ByteArray) (i : Nat) : Int := bt s (if i < s.size then i else s.size - 1) % 64
def tl (s : ByteArray) (i : Nat) : Bool := decide (i < s.size) && decide (128 ≤ bt s i ∧ bt s i < 192)
theorem tx_range (s : ByteArray) (i : Nat) : 0 ≤ tx s i ∧ tx s i ≤ 63 := by unfold tx; omega
def unitF (c x y : Int) (a b : Bool) : Int × Int :=
 if 0 < c ∧ c < 128 then (c, 1)
 else if (192 ≤ c ∧ c < 224) ∧ a = true then
  if c % 32 * 64 + x = 0 ∨ 128 ≤ c % 32 * 64 + x then (c % 32 * 64 + x, 2) else (0, 0)
 else if (224 ≤ c ∧ c < 240) ∧ a = true ∧ b = true then
  if 2048 ≤ c % 16 * 4096 + x * 64 + y then (c % 16 * 4096 + x * 64 + y, 3) else (0, 0)
 else (0, 0)
def unitS (s : ByteArray) : Int × Int := unitF (bt s 0) (tx s 1) (tx s 2) (tl s 1) (tl s 2)
end Sp
set_option maxHeartbeats 4000000 in
theorem tail_in (i : Nat) (b : Nat) (s : ByteArray) (w : World) (hc : w.cell? ⟨b, 0, none⟩ = some (.string s)) (hi : i < s.size) (hs : s.size ≤ 140737488351232) :
  Calls Tryz.prog 288 #[.int .i64 i, .pointer (some ⟨b, 0, none⟩)] w fun e w' => e = .returned (.tuple #[.int .i32 (Sp.tx s i), .bool (Sp.tl s i)]) ∧ ∃ n, w' = w.drewN n := by
 have hr := Sp.bt_range s i
 have hx := Lib.hid (show Sp.tx s i = Go.bits .and .u8 (Sp.bt s i) 63 by rw [Sp.tx, if_pos hi, Sp.and63 _ hr.1 hr.2])
 have hy := Lib.hid (show Sp.tl s i = (Go.bits .and .u8 (Sp.bt s i) 192 == 128) by rw [Sp.tl, Sp.and192 _ hr.1 hr.2]; simp [hi])
 have hlt : (i : Int) < (s.size : Int) := by omega
 have hld : decide ((i : Int) < (s.size : Int)) = true := by simpa using hi
 have hld2 : decide (i < s.size) = true := by simpa using hi
 have hm : ¬ ((s.size : Int) - 1 < (i : Int)) := by omega
 have h0 : (0 : Int) ≤ (s.size : Int) - 1 := by omega
 have hidx : ∀ W : World, (Instr.index 9 (.string s) (.int .i64 (i : Int))).run Tryz.prog W = .ok (.int .u8 (Sp.bt s i)) W := by
  intro W
  rw [run_index_string W 9 s .i64 _ Tryz.underlying9, dif_pos ⟨by omega, by omega⟩]
  simp only [Int.toNat_natCast, Sp.bt_in s i hi]
 have hr32 := Sp.tx_range s i
 go_enter Tryz.func288, Tryz.ntmps288
 go_wp2
 go_quiet (fail)
 go_wp2
 go_ret2
 refine ⟨?_, _, rfl⟩
 rw [hx.out, hy.out]
 have hq := hx.out ▸ hr32
 have : wrap32 (bits BinOp.and IntKind.u8 (Sp.bt s i) 63) = bits BinOp.and IntKind.u8 (Sp.bt s i) 63 := by unfold wrap32; omega
 simp [this, Sp.and63 _ hr.1 hr.2]
set_option maxHeartbeats 4000000 in
theorem tail_out (i : Nat) (b : Nat) (s : ByteArray) (w : World) (hc : w.cell? ⟨b, 0, none⟩ = some (.string s)) (hi : ¬ i < s.size) (h00 : 0 < s.size) (hs : s.size ≤ 140737488351232) :
  Calls Tryz.prog 288 #[.int .i64 i, .pointer (some ⟨b, 0, none⟩)] w fun e w' => e = .returned (.tuple #[.int .i32 (Sp.tx s i), .bool (Sp.tl s i)]) ∧ ∃ n, w' = w.drewN n := by
 have hr := Sp.bt_range s (s.size - 1)
 have hx := Lib.hid (show Sp.tx s i = Go.bits .and .u8 (Sp.bt s (s.size - 1)) 63 by rw [Sp.tx, if_neg hi, Sp.and63 _ hr.1 hr.2])
 have hy := Lib.hid (show Sp.tl s i = false by simp [Sp.tl, hi])
 have hlt : ¬ (i : Int) < (s.size : Int) := by omega
 have hld : decide ((i : Int) < (s.size : Int)) = false := by simpa using hi
 have hld2 : decide (i < s.size) = false := by simpa using hi
 have hm : ((s.size : Int) - 1 < (i : Int)) := by omega
 have h0 : (0 : Int) ≤ (s.size : Int) - 1 := by omega
 have h2 : (s.size : Int) - 1 < (s.size : Int) := by omega
 have hidx : ∀ W : World, (Instr.index 9 (.string s) (.int .i64 ((s.size : Int) - 1))).run Tryz.prog W = .ok (.int .u8 (Sp.bt s (s.size - 1))) W := by
  intro W
  rw [run_index_string W 9 s .i64 _ Tryz.underlying9, dif_pos ⟨by omega, by omega⟩]
  have e : ((s.size : Int) - 1).toNat = s.size - 1 := by omega
  simp only [e, Sp.bt_in s (s.size - 1) (by omega)]
 have hr32 := Sp.tx_range s i
 go_enter Tryz.func288, Tryz.ntmps288
 go_wp2
 go_quiet (fail)
 go_wp2
 go_ret2
 refine ⟨?_, _, rfl⟩
 rw [hx.out, hy.out]
 have hq := hx.out ▸ hr32
 have : wrap32 (bits BinOp.and IntKind.u8 (Sp.bt s (s.size - 1)) 63) = bits BinOp.and IntKind.u8 (Sp.bt s (s.size - 1)) 63 := by unfold wrap32; omega
 simp [this, Sp.and63 _ hr.1 hr.2]
theorem tail_any (i : Nat) (b : Nat) (s : ByteArray) (w : World) (hc : w.cell? ⟨b, 0, none⟩ = some (.string s)) (h00 : 0 < s.size) (hs : s.size ≤ 140737488351232) :
  Calls Tryz.prog 288 #[.int .i64 i, .pointer (some ⟨b, 0, none⟩)] w fun e w' => e = .returned (.tuple #[.int .i32 (Sp.tx s i), .bool (Sp.tl s i)]) ∧ ∃ n, w' = w.drewN n := by
 by_cases hi : i < s.size
 ·exact tail_in i b s w hc hi hs
 ·exact tail_out i b s w hc hi h00 hs
set_option maxHeartbeats 4000000 in
theorem unit_any (s : ByteArray) (w : World) (h00 : 0 < s.size) (hs : s.size ≤ 140737488351232) :
  Calls Tryz.prog 263 #[.string s] w fun e w' => e = .returned (.tuple #[.int .i32 (Sp.unitS s).1, .int .i64 (Sp.unitS s).2]) ∧ Below w.heap.size w w' := by
 have hb0 := Sp.bt_range s 0
 have hidx : ∀ W : World, (Instr.index 9 (.string s) (.int .i64 0)).run Tryz.prog W = .ok (.int .u8 (Sp.bt s 0)) W := by
  intro W
  rw [run_index_string W 9 s .i64 _ Tryz.underlying9, dif_pos ⟨by omega, by omega⟩]
  simp only [Int.toNat_zero, Sp.bt_in s 0 h00]
 have h1 := fun W hc => tail_any 1 w.heap.size s W hc h00 hs
 have h2 := fun W hc => tail_any 2 w.heap.size s W hc h00 hs
 have q1 := Sp.tx_range s 1
 have q2 := Sp.tx_range s 2
 unfold Sp.unitS
 generalize Sp.bt s 0 = c at hidx hb0 ⊢
 generalize Sp.tx s 1 = x at h1 q1 ⊢
 generalize Sp.tx s 2 = y at h2 q2 ⊢
 generalize Sp.tl s 1 = a at h1 ⊢
 generalize Sp.tl s 2 = b at h2 ⊢
 have e224 := Lib.hid (show (Go.bits .and .u8 c 224 = 192) ↔ (192 ≤ c ∧ c < 224) by simpa using congrArg (· = true) (Sp.and224 c hb0.1 hb0.2))
 have e240 := Lib.hid (show (Go.bits .and .u8 c 240 = 224) ↔ (224 ≤ c ∧ c < 240) by simpa using congrArg (· = true) (Sp.and240 c hb0.1 hb0.2))
 have H1 := Lib.hid h1
 have H2 := Lib.hid h2
 clear h1 h2
 go_enter Tryz.func263, Tryz.ntmps263
 go_wp2_with fail
 refine (H1.out _ (by simp)).mono ?_
 rintro e w1 ⟨rfl, n1, rfl⟩
 go_wp2_with fail
 refine (H2.out _ (by simp)).mono ?_
 rintro e w2 ⟨rfl, n2, rfl⟩
 clear H1 H2 hidx
 go_wp2
 all_goals go_ret2
 all_goals
  have E1 := e224.out
  have E2 := e240.out
  refine ⟨?_, below_drewNv ((Below.refl _ _).alloc (Nat.le_refl _) _) _⟩
  clear e224 e240
  unfold Sp.unitF
  repeat' split
  all_goals first | rfl | (exfalso; simp_all; done) | (exfalso; simp_all; omega) | (exfalso; omega) | (simp [*]; done)
end Go.Proofs.YtjjlcoimaihdoaaGreatDoor
namespace Go.Proofs
open Go.Shelf
def Tryz.lays169_ren : Go.Shelf.Ren := ⟨fun | 169 => 265 | n => n, fun | 70 => 331 | 9 => 9 | 0 => 0 | 72 => 333 | 37 => 33 | 127 => 363 | 3 => 3 | 5 => 5 | n => n, fun | n => n⟩
theorem Tryz.lays169 : Go.Proofs.Lays.n169 Tryz.prog Tryz.lays169_ren := {
 mixed := by kernel_rfl
 f169 := Tryz.func265.trans (congrArg some (by kernel_rfl))
 t0 := Tryz.underlying0
 a0 := Tryz.isAgg0
 z0 := Tryz.sizeOf0
 v0 := Tryz.zeroValue0
 t3 := Tryz.underlying3
 a3 := Tryz.isAgg3
 z3 := Tryz.sizeOf3
 v3 := Tryz.zeroValue3
 t9 := Tryz.underlying9
 a9 := Tryz.isAgg9
 z9 := Tryz.sizeOf9
 v9 := Tryz.zeroValue9
 t37 := Tryz.underlying33
 a37 := Tryz.isAgg33
 z37 := Tryz.sizeOf33
 v37 := Tryz.zeroValue33
 t70 := Tryz.underlying331
 a70 := Tryz.isAgg331
 z70 := Tryz.sizeOf331
 v70 := Tryz.zeroValue331
 t72 := Tryz.underlying333
 a72 := Tryz.isAgg333
 z72 := Tryz.sizeOf333
 v72 := Tryz.zeroValue333
 t127 := Tryz.underlying363
 a127 := Tryz.isAgg363
 z127 := Tryz.sizeOf363
 v127 := Tryz.zeroValue363 }
theorem Tryz.Builder_Extra_169 : Builder.Extra Tryz.prog Tryz.lays169_ren := {
 sizeBuilder := by kernel_rfl
 liesBuilder := by kernel_rfl
 t5 := Tryz.underlying5
 a5 := Tryz.isAgg5
 z5 := Tryz.sizeOf5
 v5 := Tryz.zeroValue5
 infoByte := by kernel_rfl
 cellsByte := by kernel_rfl
 sizeByte := by kernel_rfl
 neB5 := by decide }
def Tryz.lays161_ren : Go.Shelf.Ren := ⟨fun | 161 => 285 | 231 => 298 | 227 => 299 | 233 => 300 | 235 => 301 | 228 => 306 | 197 => 307 | 151 => 308 | 260 => 310 | 152 => 311 | 137 => 316 | 119 => 317 | 224 => 314 | 225 => 313 | 217 => 312 | 266 => 318 | n => n, fun | 9 => 9 | 4 => 4 | 3 => 3 | 5 => 5 | 117 => 373 | 116 => 372 | 0 => 0 | 124 => 376 | 105 => 334 | 21 => 21 | 119 => 327 | 46 => 258 | 139 => 330 | 138 => 329 | n => n, fun | 3 => 1 | 4 => 2 | n => n⟩
theorem Tryz.lays161 : Go.Proofs.Lays.n161 Tryz.prog Tryz.lays161_ren := {
 mixed := by kernel_rfl
 f119 := Tryz.func317.trans (congrArg some (by kernel_rfl))
 f137 := Tryz.func316.trans (congrArg some (by kernel_rfl))
 f151 := Tryz.func308.trans (congrArg some (by kernel_rfl))
 f152 := Tryz.func311.trans (congrArg some (by kernel_rfl))
 f161 := Tryz.func285.trans (congrArg some (by kernel_rfl))
 f197 := Tryz.func307.trans (congrArg some (by kernel_rfl))
 f217 := Tryz.func312.trans (congrArg some (by kernel_rfl))
 f224 := Tryz.func314.trans (congrArg some (by kernel_rfl))
 f225 := Tryz.func313.trans (congrArg some (by kernel_rfl))
 f227 := Tryz.func299.trans (congrArg some (by kernel_rfl))
 f228 := Tryz.func306.trans (congrArg some (by kernel_rfl))
 f231 := Tryz.func298.trans (congrArg some (by kernel_rfl))
 f233 := Tryz.func300.trans (congrArg some (by kernel_rfl))
 f235 := Tryz.func301.trans (congrArg some (by kernel_rfl))
 f260 := Tryz.func310.trans (congrArg some (by kernel_rfl))
 f266 := Tryz.func318.trans (congrArg some (by kernel_rfl))
 t0 := Tryz.underlying0
 a0 := Tryz.isAgg0
 z0 := Tryz.sizeOf0
 v0 := Tryz.zeroValue0
 t3 := Tryz.underlying3
 a3 := Tryz.isAgg3
 z3 := Tryz.sizeOf3
 v3 := Tryz.zeroValue3
 t4 := Tryz.underlying4
 a4 := Tryz.isAgg4
 z4 := Tryz.sizeOf4
 v4 := Tryz.zeroValue4
 t5 := Tryz.underlying5
 a5 := Tryz.isAgg5
 z5 := Tryz.sizeOf5
 v5 := Tryz.zeroValue5
 t9 := Tryz.underlying9
 a9 := Tryz.isAgg9
 z9 := Tryz.sizeOf9
 v9 := Tryz.zeroValue9
 t21 := Tryz.underlying21
 a21 := Tryz.isAgg21
 z21 := Tryz.sizeOf21
 v21 := Tryz.zeroValue21
 t46 := Tryz.underlying258
 a46 := Tryz.isAgg258
 z46 := Tryz.sizeOf258
 v46 := Tryz.zeroValue258
 t105 := Tryz.underlying334
 a105 := Tryz.isAgg334
 z105 := Tryz.sizeOf334
 v105 := Tryz.zeroValue334
 t116 := Tryz.underlying372
 a116 := Tryz.isAgg372
 z116 := Tryz.sizeOf372
 t117 := Tryz.underlying373
 a117 := Tryz.isAgg373
 z117 := Tryz.sizeOf373
 v117 := Tryz.zeroValue373
 t119 := Tryz.underlying327
 a119 := Tryz.isAgg327
 z119 := Tryz.sizeOf327
 t124 := Tryz.underlying376
 a124 := Tryz.isAgg376
 z124 := Tryz.sizeOf376
 v124 := Tryz.zeroValue376
 t138 := Tryz.underlying329
 a138 := Tryz.isAgg329
 z138 := Tryz.sizeOf329
 v138 := Tryz.zeroValue329
 t139 := Tryz.underlying330
 a139 := Tryz.isAgg330
 z139 := Tryz.sizeOf330
 v139 := Tryz.zeroValue330
 g3 := by kernel_rfl
 g4 := by kernel_rfl }
open Go.RowKit in
theorem Tryz.strings_TrimLeft_one (s : ByteArray) (c : UInt8) (hc : c.toNat < 128) (w : World) :
  Calls Tryz.prog 285 #[.string s, .string ⟨#[c]⟩] w fun e w' => e = .returned (.string ⟨(Lib.trimLeftB s.data.toList c).toArray⟩) ∧ w' = w := Any.strings_TrimLeft_one Tryz.lays161 s c hc w
def Tryz.lays103_ren : Go.Shelf.Ren := ⟨fun | 103 => 280 | 210 => 297 | 206 => 294 | n => n, fun | 9 => 9 | 4 => 4 | 24 => 127 | 3 => 3 | n => n, fun | n => n⟩
theorem Tryz.lays103 : Go.Proofs.Lays.n103 Tryz.prog Tryz.lays103_ren := {
 mixed := by kernel_rfl
 f103 := Tryz.func280.trans (congrArg some (by kernel_rfl))
 f206 := Tryz.func294.trans (congrArg some (by kernel_rfl))
 f210 := Tryz.func297.trans (congrArg some (by kernel_rfl))
 t3 := Tryz.underlying3
 a3 := Tryz.isAgg3
 z3 := Tryz.sizeOf3
 v3 := Tryz.zeroValue3
 t4 := Tryz.underlying4
 a4 := Tryz.isAgg4
 z4 := Tryz.sizeOf4
 v4 := Tryz.zeroValue4
 t9 := Tryz.underlying9
 a9 := Tryz.isAgg9
 z9 := Tryz.sizeOf9
 v9 := Tryz.zeroValue9
 t24 := Tryz.underlying127
 a24 := Tryz.isAgg127
 z24 := Tryz.sizeOf127
 v24 := Tryz.zeroValue127 }
open Go.RowKit in
theorem Tryz.strings_CutPrefix (s p : ByteArray) (w : World) :
  Calls Tryz.prog 280 #[.string s, .string p] w fun e w' => e = .returned (.tuple #[.string ⟨(Lib.trimPrefix s.data.toList p.data.toList).toArray⟩, .bool (Lib.hasPrefix s.data.toList p.data.toList)]) ∧ w' = w := Any.strings_CutPrefix Tryz.lays103 s p w
open Go.RowKit in
theorem Tryz.Builder_String_any_k (B b : Nat) (l : List UInt8) (w : World) (h : Lib.IsBuilderF 333 5 B b (Lib.byteCells l) w) (hBw : B ≤ w.heap.size) :
  Calls Tryz.prog 265 #[.pointer (some ⟨b, 0, none⟩)] w fun e w' => e = .returned (.string ⟨l.toArray⟩) ∧ (Lib.IsBuilderF 333 5 B b (Lib.byteCells l) w' ∧ Below B w w' ∧ Lib.OthersKept 5 (some b) w w') := Any.Builder_String_any_k Tryz.lays169 Tryz.Builder_Extra_169 B b l w h hBw
def Tryz.lays242_ren : Go.Shelf.Ren := ⟨fun | 242 => 290 | 278 => 304 | n => n, fun | 37 => 33 | 21 => 21 | 51 => 364 | 4 => 4 | 5 => 5 | 46 => 258 | n => n, fun | n => n⟩
theorem Tryz.lays242 : Go.Proofs.Lays.n242 Tryz.prog Tryz.lays242_ren := {
 mixed := by kernel_rfl
 f242 := Tryz.func290.trans (congrArg some (by kernel_rfl))
 f278 := Tryz.func304.trans (congrArg some (by kernel_rfl))
 t4 := Tryz.underlying4
 a4 := Tryz.isAgg4
 z4 := Tryz.sizeOf4
 v4 := Tryz.zeroValue4
 t5 := Tryz.underlying5
 a5 := Tryz.isAgg5
 z5 := Tryz.sizeOf5
 v5 := Tryz.zeroValue5
 t21 := Tryz.underlying21
 a21 := Tryz.isAgg21
 z21 := Tryz.sizeOf21
 v21 := Tryz.zeroValue21
 t37 := Tryz.underlying33
 a37 := Tryz.isAgg33
 z37 := Tryz.sizeOf33
 v37 := Tryz.zeroValue33
 t46 := Tryz.underlying258
 a46 := Tryz.isAgg258
 z46 := Tryz.sizeOf258
 v46 := Tryz.zeroValue258
 t51 := Tryz.underlying364
 a51 := Tryz.isAgg364
 z51 := Tryz.sizeOf364
 v51 := Tryz.zeroValue364 }
open Go.RowKit in
theorem Tryz.utf8_AppendRune_row (B : Nat) (v : Value) (n : Nat) (xs : List Value) (r : Int) (hr0 : -2147483648 ≤ r) (hr1 : r ≤ 2147483647) (w : World) (hown : w.ownsRowF B 5 1 v n xs) (hlen : n + 4 ≤ 140737488355328) (hBw : B ≤ w.heap.size) :
  Calls Tryz.prog 290 #[v, .int .i32 r] w fun e w' => ∃ v', e = .returned v' ∧ w'.ownsRowF B 5 1 v' (n + (Lib.runeCells r).length) (xs ++ Lib.runeCells r) ∧ ∃ o, (w.alloc o).grownBy w' v.ownBlock := Any.utf8_AppendRune_row Tryz.lays242 (by kernel_rfl) B v n xs r hr0 hr1 w hown hlen hBw
def Tryz.lays195_ren : Go.Shelf.Ren := ⟨fun | 195 => 287 | n => n, fun | 9 => 9 | 3 => 3 | 0 => 0 | 4 => 4 | n => n, fun | n => n⟩
theorem Tryz.lays195 : Go.Proofs.Lays.n195 Tryz.prog Tryz.lays195_ren := {
 mixed := by kernel_rfl
 f195 := Tryz.func287.trans (congrArg some (by kernel_rfl))
 t0 := Tryz.underlying0
 a0 := Tryz.isAgg0
 z0 := Tryz.sizeOf0
 v0 := Tryz.zeroValue0
 t3 := Tryz.underlying3
 a3 := Tryz.isAgg3
 z3 := Tryz.sizeOf3
 v3 := Tryz.zeroValue3
 t4 := Tryz.underlying4
 a4 := Tryz.isAgg4
 z4 := Tryz.sizeOf4
 v4 := Tryz.zeroValue4
 t9 := Tryz.underlying9
 a9 := Tryz.isAgg9
 z9 := Tryz.sizeOf9
 v9 := Tryz.zeroValue9 }
open Go.RowKit in
theorem Tryz.utf8_RuneCountInString (s : ByteArray) (w : World) (hs : s.size < 9223372036854775807) :
  Calls Tryz.prog 287 #[.string s] w fun e w' => e = .returned (.int .i64 (Lib.runeCount s)) ∧ ∃ pos, w' = w.iter s pos := Any.utf8_RuneCountInString Tryz.lays195 s w hs
def Tryz.lays219_ren : Go.Shelf.Ren := ⟨fun | 219 => 309 | 217 => 312 | 225 => 313 | 224 => 314 | 267 => 315 | 266 => 318 | 314 => 319 | n => n, fun | 9 => 9 | 3 => 3 | 4 => 4 | 5 => 5 | 46 => 258 | 146 => 365 | 51 => 364 | n => n, fun | 1 => 3 | n => n⟩
theorem Tryz.lays219 : Go.Proofs.Lays.n219 Tryz.prog Tryz.lays219_ren := {
 mixed := by kernel_rfl
 f217 := Tryz.func312.trans (congrArg some (by kernel_rfl))
 f219 := Tryz.func309.trans (congrArg some (by kernel_rfl))
 f224 := Tryz.func314.trans (congrArg some (by kernel_rfl))
 f225 := Tryz.func313.trans (congrArg some (by kernel_rfl))
 f266 := Tryz.func318.trans (congrArg some (by kernel_rfl))
 f267 := Tryz.func315.trans (congrArg some (by kernel_rfl))
 f314 := Tryz.func319.trans (congrArg some (by kernel_rfl))
 t3 := Tryz.underlying3
 a3 := Tryz.isAgg3
 z3 := Tryz.sizeOf3
 v3 := Tryz.zeroValue3
 t4 := Tryz.underlying4
 a4 := Tryz.isAgg4
 z4 := Tryz.sizeOf4
 v4 := Tryz.zeroValue4
 t5 := Tryz.underlying5
 a5 := Tryz.isAgg5
 z5 := Tryz.sizeOf5
 v5 := Tryz.zeroValue5
 t9 := Tryz.underlying9
 a9 := Tryz.isAgg9
 z9 := Tryz.sizeOf9
 v9 := Tryz.zeroValue9
 t46 := Tryz.underlying258
 a46 := Tryz.isAgg258
 z46 := Tryz.sizeOf258
 v46 := Tryz.zeroValue258
 t51 := Tryz.underlying364
 a51 := Tryz.isAgg364
 z51 := Tryz.sizeOf364
 v51 := Tryz.zeroValue364
 t146 := Tryz.underlying365
 a146 := Tryz.isAgg365
 z146 := Tryz.sizeOf365
 v146 := Tryz.zeroValue365
 g1 := by kernel_rfl }
open Go.RowKit Go.Lib in
theorem Tryz.stringslite_Index_one (s : ByteArray) (c : UInt8) (w : World) :
  Calls Tryz.prog 309 #[.string s, .string ⟨#[c]⟩] w fun e w' => e = .returned (.int .i64 (Lib.indexByte s.data.toList c)) ∧ w' = w := Any.stringslite_Index_one Tryz.lays219 s c w
def Tryz.lays99_ren : Go.Shelf.Ren := ⟨fun | 99 => 275 | 206 => 294 | n => n, fun | 9 => 9 | 4 => 4 | 3 => 3 | n => n, fun | n => n⟩
theorem Tryz.lays99 : Go.Proofs.Lays.n99 Tryz.prog Tryz.lays99_ren := {
 mixed := by kernel_rfl
 f99 := Tryz.func275.trans (congrArg some (by kernel_rfl))
 f206 := Tryz.func294.trans (congrArg some (by kernel_rfl))
 t3 := Tryz.underlying3
 a3 := Tryz.isAgg3
 z3 := Tryz.sizeOf3
 v3 := Tryz.zeroValue3
 t4 := Tryz.underlying4
 a4 := Tryz.isAgg4
 z4 := Tryz.sizeOf4
 v4 := Tryz.zeroValue4
 t9 := Tryz.underlying9
 a9 := Tryz.isAgg9
 z9 := Tryz.sizeOf9
 v9 := Tryz.zeroValue9 }
open Go.RowKit Go.Lib in
theorem Tryz.strings_HasPrefix (s p : ByteArray) (w : World) :
  Calls Tryz.prog 275 #[.string s, .string p] w fun e w' => e = .returned (.bool (Lib.hasPrefix s.data.toList p.data.toList)) ∧ w' = w := Any.strings_HasPrefix Tryz.lays99 s p w
def Tryz.lays196_ren : Go.Shelf.Ren := ⟨fun | 196 => 222 | 259 => 262 | n => n, fun | 9 => 9 | 4 => 4 | 3 => 3 | 5 => 5 | 12 => 12 | 119 => 327 | 0 => 0 | 46 => 258 | 139 => 330 | 138 => 329 | 53 => 257 | n => n, fun | 3 => 1 | 4 => 2 | n => n⟩
theorem Tryz.lays196 : Go.Proofs.Lays.n196 Tryz.prog Tryz.lays196_ren := {
 mixed := by kernel_rfl
 f196 := Tryz.func222.trans (congrArg some (by kernel_rfl))
 f259 := Tryz.func262.trans (congrArg some (by kernel_rfl))
 t0 := Tryz.underlying0
 a0 := Tryz.isAgg0
 z0 := Tryz.sizeOf0
 v0 := Tryz.zeroValue0
 t3 := Tryz.underlying3
 a3 := Tryz.isAgg3
 z3 := Tryz.sizeOf3
 v3 := Tryz.zeroValue3
 t4 := Tryz.underlying4
 a4 := Tryz.isAgg4
 z4 := Tryz.sizeOf4
 v4 := Tryz.zeroValue4
 t5 := Tryz.underlying5
 a5 := Tryz.isAgg5
 z5 := Tryz.sizeOf5
 v5 := Tryz.zeroValue5
 t9 := Tryz.underlying9
 a9 := Tryz.isAgg9
 z9 := Tryz.sizeOf9
 v9 := Tryz.zeroValue9
 t12 := Tryz.underlying12
 a12 := Tryz.isAgg12
 z12 := Tryz.sizeOf12
 v12 := Tryz.zeroValue12
 t46 := Tryz.underlying258
 a46 := Tryz.isAgg258
 z46 := Tryz.sizeOf258
 v46 := Tryz.zeroValue258
 t53 := Tryz.underlying257
 a53 := Tryz.isAgg257
 z53 := Tryz.sizeOf257
 v53 := Tryz.zeroValue257
 t119 := Tryz.underlying327
 a119 := Tryz.isAgg327
 z119 := Tryz.sizeOf327
 t138 := Tryz.underlying329
 a138 := Tryz.isAgg329
 z138 := Tryz.sizeOf329
 v138 := Tryz.zeroValue329
 t139 := Tryz.underlying330
 a139 := Tryz.isAgg330
 z139 := Tryz.sizeOf330
 v139 := Tryz.zeroValue330
 g3 := by kernel_rfl
 g4 := by kernel_rfl }
theorem Tryz.utf8_ValidString (s : ByteArray) (w : World) (hs : s.size ≤ 9223372036854775807) (hT : Lib.Utf8Tabs (Tryz.lays196_ren.g 3) (Tryz.lays196_ren.g 4) w) :
  Calls Tryz.prog 222 #[.string s] w fun e w' => e = .returned (.bool (Lib.validD s.data.toList)) ∧ RowKit.Below w.heap.size w w' := Any.utf8_ValidString Tryz.lays196 s w hs hT
end Go.Proofs
namespace Go.Proofs.YtjjlcoimaihdoaaGreatDoor
open Go.RowKit Go.Lib
theorem sizeBuilder : (Tryz.prog.info? 333).map (·.size) = some 2 := by kernel_rfl
theorem infoByte : (Tryz.prog.info? 5).map (fun i => (i.zero, i.size, i.bytes)) = some (some (.int .u8 0), 1, 1) := by kernel_rfl
set_option maxHeartbeats 1000000 in
set_option maxRecDepth 100000 in
theorem copyCheck_used (b : Nat) (w : World) (h0 : w.cell? ⟨b, 0, none⟩ = some (.pointer (some ⟨b, 0, none⟩))) :
  Calls Tryz.prog 289 #[.pointer (some ⟨b, 0, none⟩)] w fun e w' => e = .returned (.tuple #[]) ∧ w' = w := by
 obtain ⟨j, hj, _⟩ := Option.map_eq_some_iff.1 sizeBuilder
 go_enter Tryz.func289, Tryz.ntmps289
 go_wp2
 rw [Lib.run_neq_ptr_same w _ Tryz.underlying331 hj]
 go_wp2
 go_end0
 exact ⟨rfl, rfl⟩
set_option maxHeartbeats 1000000 in
set_option maxRecDepth 100000 in
theorem copyCheck_fresh (b : Nat) (w : World) (h0 : w.cell? ⟨b, 0, none⟩ = some (.pointer none)) (hsh : w.shape? b = some (333, 2)) (hfz : w.frozen? ⟨b, 0, none⟩ = false) :
  Calls Tryz.prog 289 #[.pointer (some ⟨b, 0, none⟩)] w fun e w' => e = .returned (.tuple #[]) ∧ w' = w.setCell ⟨b, 0, none⟩ (.pointer (some ⟨b, 0, none⟩)) := by
 obtain ⟨j, hj, hjs⟩ := Option.map_eq_some_iff.1 sizeBuilder
 go_enter Tryz.func289, Tryz.ntmps289
 go_wp2
 rw [Lib.run_to_unsafe w ⟨b, 0, none⟩ Tryz.underlying331 Tryz.underlying377 hj (by rw [hjs]; decide) hsh (Nat.zero_lt_succ 1)]
 simp only [Result.andThen]
 rw [Oper.upon_value]
 go_wp2
 rw [run_callFunc_extern Tryz.func303 (by kernel_rfl) (by kernel_rfl) (by kernel_rfl) (e := Extern.AbiNoEscape.same) (by kernel_rfl)]
 rw [Lib.run_noEscape]
 simp only [Result.andThen]
 rw [Oper.upon_value]
 go_wp2
 rw [Lib.run_from_unsafe w ⟨b, 0, none⟩ Tryz.underlying377 Tryz.underlying331 hj hsh (by kernel_rfl)]
 simp only [Result.andThen]
 rw [Oper.upon_value]
 go_wp2
 go_end0
 exact ⟨rfl, rfl⟩
theorem copyCheck_k (B b : Nat) (bs : List Value) (w : World) (h : Lib.IsBuilderF 333 5 B b bs w) :
  Calls Tryz.prog 289 #[.pointer (some ⟨b, 0, none⟩)] w fun e w' => e = .returned (.tuple #[]) ∧ (Lib.BuilderAtF 333 5 B b (.pointer (some ⟨b, 0, none⟩)) bs w' ∧ Below B w w' ∧ Lib.OthersKept 5 (some b) w w') := by
 rcases h with h | h
 ·refine (copyCheck_fresh b w h.cell0 h.shape h.frozen0).mono ?_
  rintro e w' ⟨rfl, rfl⟩
  exact ⟨rfl, h.used _, (Below.refl B w).setCell (p := ⟨b, 0, none⟩) h.1 _, (Lib.OthersKept.refl _ _ w).setCell ⟨b, 0, none⟩ rfl _⟩
 ·refine (copyCheck_used b w h.cell0).mono ?_
  rintro e w' ⟨rfl, rfl⟩
  exact ⟨rfl, h, Below.refl B _, Lib.OthersKept.refl _ _ _⟩
set_option maxHeartbeats 2000000 in
set_option maxRecDepth 100000 in
theorem writeRune_k (B b : Nat) (bs : List Value) (r : Int) (hr0 : -2147483648 ≤ r) (hr1 : r ≤ 2147483647) (w : World) (h : Lib.IsBuilderF 333 5 B b bs w) (hlen : bs.length + 4 ≤ 140737488355328) (hBw : B ≤ w.heap.size) :
  Calls Tryz.prog 264 #[.pointer (some ⟨b, 0, none⟩), .int .i32 r] w fun e w' => e = .returned (.tuple #[.int .i64 (Lib.runeCells r).length, .nilIface]) ∧ (Lib.BuilderAtF 333 5 B b (.pointer (some ⟨b, 0, none⟩)) (bs ++ Lib.runeCells r) w' ∧ Below B w w' ∧ Lib.OthersKept 5 (some b) w w') := by
 have hk4 := Lib.runeCells_le r
 go_enter Tryz.func264, Tryz.ntmps264
 go_wp2_with (go_at_call 289; refine (copyCheck_k B b bs _ h).mono ?_)
 rintro e w1 ⟨rfl, h1, hb1, hk1⟩
 obtain ⟨hB, v, hbk, hown, hne⟩ := h1
 obtain ⟨ao, cap, rfl⟩ : ∃ ao cap, v = .slice ao bs.length cap := by
  rcases hown.2 with ⟨hv, h0⟩ | ⟨g, cap, cur, fz, hv, _⟩
  ·exact ⟨none, 0, by rw [hv, h0]⟩
  ·exact ⟨_, _, hv⟩
 have c0 : w1.cell? ⟨b, 0, none⟩ = some (.pointer (some ⟨b, 0, none⟩)) := by rw [Lib.cell_of_heap hbk]; rfl
 have c1 : w1.cell? ⟨b, 1, none⟩ = some (.slice ao bs.length cap) := by rw [Lib.cell_of_heap hbk]; rfl
 go_wp2_with (go_at_call 290; refine (Tryz.utf8_AppendRune_row B _ bs.length bs r hr0 hr1 _ hown hlen (by have := hb1.size; omega)).mono ?_)
 rintro e w2 ⟨v', rfl, hown', o, hgrow⟩
 have hlt : b < w1.heap.size := by
  rcases Nat.lt_or_ge b w1.heap.size with h' | h'
  ·exact h'
  ·simp [Array.getElem?_eq_none h'] at hbk
 have hb2 : w2.heap[b]? = some (.cells #[.pointer (some ⟨b, 0, none⟩), .slice ao bs.length cap] 333 (0, 0)) := by
  rw [hgrow.block b (by simp; omega) (fun e => hne e.symm), Lib.alloc_old w1 _ b hlt]
  exact hbk
 have d0 : w2.cell? ⟨b, 0, none⟩ = some (.pointer (some ⟨b, 0, none⟩)) := by rw [Lib.cell_of_heap hb2]; rfl
 have d1 : w2.cell? ⟨b, 1, none⟩ = some (.slice ao bs.length cap) := by rw [Lib.cell_of_heap hb2]; rfl
 have f1 : w2.frozen? ⟨b, 1, none⟩ = false := Lib.frozen_of_heap hb2 1
 obtain ⟨g, cap', rfl⟩ : ∃ g cap', v' = .slice (some ⟨g, 0, none⟩) (bs.length + (Lib.runeCells r).length) cap' := by
  rcases hown'.2 with ⟨_, h0⟩ | ⟨g, cap', cur, fz, hv, _⟩
  ·omega
  ·exact ⟨g, cap', hv⟩
 go_wp2
 go_ret2
 refine ⟨?_, ?_, ?_, ((hk1.alloc _).grown hgrow (Lib.ownsRowF_kind (hown.alloc _))).setCell ⟨b, 1, none⟩ rfl _⟩
 ·have e : ((bs.length : Int) + ((Lib.runeCells r).length : Int) - (bs.length : Int)) = ((Lib.runeCells r).length : Int) := by omega
  simp [e]
 ·exact Lib.BuilderAtF.put (T := 333) (e := 5) hB hb2 (bs' := bs ++ Lib.runeCells r) (by simpa using hown') (by decide)
 ·exact ((hb1.alloc (by have := hb1.size; omega) _).grown hgrow (by have := hb1.size; simp; omega) (fun k hk => (hown.lt k hk).1)).setCell (p := ⟨b, 1, none⟩) hB _
namespace Sp
def decG : Nat → ByteArray → List UInt8 → Option (List UInt8)
 | 0, _, _ => none
 | f + 1, b, acc =>
  if b.size = 0 then some acc
  else if (unitS b).2 = 0 ∨ (56320 ≤ (unitS b).1 ∧ (unitS b).1 < 57344) then none
  else if 55296 ≤ (unitS b).1 ∧ (unitS b).1 < 56320 then
   if b.size < 6 then none
   else if (unitS (b.extract 3 b.size)).2 = 0 ∨ (unitS (b.extract 3 b.size)).1 < 56320 ∨ 57344 ≤ (unitS (b.extract 3 b.size)).1 then none
   else decG f (b.extract 6 b.size) (acc ++ encodeRune (65536 + ((unitS b).1 - 55296) * 1024 + ((unitS (b.extract 3 b.size)).1 - 56320)))
  else decG f (b.extract (unitS b).2.toNat b.size) (acc ++ encodeRune (unitS b).1)
theorem unitF_range (c x y : Int) (a b : Bool) (hx : 0 ≤ x ∧ x ≤ 63) (hy : 0 ≤ y ∧ y ≤ 63) : 0 ≤ (unitF c x y a b).1 ∧ (unitF c x y a b).1 ≤ 65535 ∧ 0 ≤ (unitF c x y a b).2 ∧ (unitF c x y a b).2 ≤ 3 := by
 unfold unitF
 repeat' split
 all_goals (simp only []; omega)
theorem unitS_size (s : ByteArray) (h : 0 < s.size) : (unitS s).2 ≤ s.size := by
 unfold unitS unitF tl
 repeat' split
 all_goals simp only []
 all_goals first | omega | (simp_all; omega) | simp_all
theorem unitS_three (s : ByteArray) (h : 2048 ≤ (unitS s).1) : (unitS s).2 = 3 := by
 revert h
 unfold unitS unitF
 have hx := tx_range s 1
 have hy := tx_range s 2
 repeat' split
 all_goals simp only []
 all_goals first | (intro _; trivial) | (intro h; omega)
theorem unitS_range (s : ByteArray) : 0 ≤ (unitS s).1 ∧ (unitS s).1 ≤ 65535 ∧ 0 ≤ (unitS s).2 ∧ (unitS s).2 ≤ 3 := unitF_range _ _ _ _ _ (tx_range s 1) (tx_range s 2)
def decS (b : ByteArray) : ByteArray × Int :=
 if 65535 < b.size then (⟨#[]⟩, 2)
 else match decG (b.size + 1) b [] with
  | none => (⟨#[]⟩, 4)
  | some l => (⟨l.toArray⟩, 0)
end Sp
theorem builderAtF_below {T e : TypeId} {B b : Nat} {p : Value} {bs : List Value} {w w1 : World} (h : BuilderAtF T e B b p bs w) (hb : Below w.heap.size w w1) : BuilderAtF T e B b p bs w1 := by
 obtain ⟨hB, v, hbk, hown, hne⟩ := h
 refine ⟨hB, v, (hb.block b (Array.getElem?_eq_some_iff.1 hbk).1).trans hbk, ⟨hown.1, ?_⟩, hne⟩
 rcases hown.2 with h | ⟨g, cap, cur, fz, h1, h2, h3, h4⟩
 ·exact .inl h
 ·exact .inr ⟨g, cap, cur, fz, h1, h2, (hb.block g (Array.getElem?_eq_some_iff.1 h3).1).trans h3, h4⟩
theorem isBuilderF_below {T e : TypeId} {B b : Nat} {bs : List Value} {w w1 : World} (h : IsBuilderF T e B b bs w) (hb : Below w.heap.size w w1) : IsBuilderF T e B b bs w1 :=
 h.elim (fun x => .inl (builderAtF_below x hb)) (fun x => .inr (builderAtF_below x hb))
theorem below_then {B : Nat} {w w1 w2 : World} (h : Below B w w1) (hB : B ≤ w1.heap.size) (k : Below w1.heap.size w1 w2) : Below B w w2 :=
 h.trans ⟨k.os, k.tape, k.output, k.size, fun i hi => k.block i (Nat.lt_of_lt_of_le hi hB)⟩
def strOf : Value → ByteArray
 | .string s => s
 | _ => ⟨#[]⟩
set_option maxHeartbeats 8000000 in
set_option maxRecDepth 100000 in
theorem decode_any (b : ByteArray) (w : World) :
  Calls Tryz.prog 224 #[.string b] w fun e w' => e = .returned (.tuple #[.string (Sp.decS b).1, .int .i64 (Sp.decS b).2]) ∧ Below w.heap.size w w' := by
 by_cases hlong : 65535 < b.size
 ·have hz : (65535 : Int) < (b.size : Int) := by omega
  have hv : Sp.decS b = (⟨#[]⟩, 2) := by rw [Sp.decS, if_pos hlong]
  rw [hv]
  go_enter Tryz.func224, Tryz.ntmps224
  go_wp2
  go_ret2
  exact ⟨rfl, Below.refl _ _⟩
 have hz : ¬ ((65535 : Int) < (b.size : Int)) := by omega
 have hv := Lib.hid (show Sp.decS b = match Sp.decG (b.size + 1) b [] with | none => (⟨#[]⟩, 4) | some l => (⟨l.toArray⟩, 0) by rw [Sp.decS, if_neg hlong])
 generalize Sp.decS b = R at hv ⊢
 go_enter Tryz.func224, Tryz.ntmps224
 go_wp2
 go_loopw [0] (fun v0 wr => ∃ (s : ByteArray) (f : Nat) (acc : List UInt8), v0 = .string s ∧ Hid (Sp.decG (b.size + 1) b [] = Sp.decG f s acc) ∧ s.size < f ∧ s.size ≤ b.size ∧ acc.length + 4 * s.size ≤ 4 * b.size ∧ IsBuilderF 333 5 w.heap.size w.heap.size (byteCells acc) wr ∧ Below w.heap.size w wr) (fun v0 _ => (strOf v0).size)
 case atStart => exact ⟨b, b.size + 1, [], rfl, Lib.hid rfl, by omega, by omega, by simp, Lib.IsBuilderF.of (Lib.fresh_isBuilder 333 5 w), (Below.refl _ _).alloc (Nat.le_refl _) _⟩
 case round =>
  obtain ⟨s, f, acc, rfl, hd, hf, hsb, hal, hI, hbw⟩ := hrel
  obtain ⟨g, rfl⟩ : ∃ g, f = g + 1 := ⟨f - 1, by omega⟩
  have hsz := hbw.size
  by_cases h0 : s.size = 0
  ·have hs0 : s = ⟨#[]⟩ := by
    rcases s with ⟨⟨l⟩⟩
    cases l with
    | nil => rfl
    | cons x l => simp [ByteArray.size] at h0
   subst hs0
   have hR : Hid (R = (⟨acc.toArray⟩, 0)) := Lib.hid (by rw [hv.out, hd.out, Sp.decG, if_pos h0])
   clear hv hd h0
   go_wp2_with (go_at_call 265; refine (Tryz.Builder_String_any_k w.heap.size w.heap.size acc _ hI hsz).mono ?_)
   rintro e W1 ⟨rfl, _, b1, _⟩
   go_wp2
   go_ret2
   exact ⟨by rw [hR.out]; rfl, hbw.trans b1⟩
  ·have hpos : 0 < s.size := by omega
   have hne : s.toList.isEmpty = false := by
    rw [Lib.toList_data]
    rcases s with ⟨⟨l⟩⟩
    cases l with
    | nil => simp [ByteArray.size] at h0
    | cons x l => rfl
   have hd' := Lib.hid (show Sp.decG (b.size + 1) b [] = _ by rw [hd.out, Sp.decG, if_neg h0])
   clear hd
   have hu := fun W => unit_any s W hpos (by omega)
   have hr := Sp.unitS_range s
   have hn := Sp.unitS_size s hpos
   have h3 := Sp.unitS_three s
   generalize Sp.unitS s = q at hd' hu hr hn h3
   obtain ⟨r, n⟩ := q
   simp only at hd' hu hr hn h3
   have HU := Lib.hid hu
   clear hu
   go_wp2_with fail
   refine (HU.out _).mono ?_
   rintro e W1 ⟨rfl, hb1⟩
   clear HU
   have hI1 := isBuilderF_below hI hb1
   have hbw1 := below_then hbw hsz hb1
   have hsz1 := hbw1.size
   clear hI hb1
   by_cases hbad : n = 0 ∨ (56320 ≤ r ∧ r < 57344)
   ·have hR : Hid (R = (⟨#[]⟩, 4)) := Lib.hid (by rw [hv.out, hd'.out, if_pos hbad])
    clear hv hd'
    go_wp2
    all_goals go_ret2
    all_goals exact ⟨by rw [hR.out]; rfl, hbw1⟩
   have hd2 := Lib.hid (show Sp.decG (b.size + 1) b [] = _ by rw [hd'.out, if_neg hbad])
   clear hd'
   have hn0 : ¬ n = 0 := fun h => hbad (.inl h)
   have hr0 : r < 56320 ∨ 57344 ≤ r := by omega
   have hn1 : 1 ≤ n := by omega
   have hn0b : (n == 0) = false := by simpa using hn0
   clear hbad
   by_cases hhi : 55296 ≤ r ∧ r < 56320
   ·have hd3 := Lib.hid (show Sp.decG (b.size + 1) b [] = _ by rw [hd2.out, if_pos hhi])
    clear hd2
    have hn3 : n = 3 := h3 (by omega)
    subst hn3
    obtain ⟨hhi0, hhi1⟩ := hhi
    by_cases h6 : s.size < 6
    ·have hR : Hid (R = (⟨#[]⟩, 4)) := Lib.hid (by rw [hv.out, hd3.out, if_pos h6])
     have h6z : (s.size : Int) < 6 := by omega
     clear hv hd3
     go_wp2
     go_ret2
     exact ⟨by rw [hR.out]; rfl, hbw1⟩
    have hd4 := Lib.hid (show Sp.decG (b.size + 1) b [] = _ by rw [hd3.out, if_neg h6])
    clear hd3
    have h6z : ¬ ((s.size : Int) < 6) := by omega
    have he3 : (s.extract 3 s.size).size = s.size - 3 := by simp
    have hu2 := fun W => unit_any (s.extract 3 s.size) W (by omega) (by omega)
    have hr2 := Sp.unitS_range (s.extract 3 s.size)
    generalize Sp.unitS (s.extract 3 s.size) = q2 at hd4 hu2 hr2
    obtain ⟨r2, n2⟩ := q2
    simp only at hd4 hu2 hr2
    have HU2 := Lib.hid hu2
    clear hu2 he3
    go_wp2_with fail
    refine (HU2.out _).mono ?_
    rintro e W2 ⟨rfl, hb2⟩
    clear HU2
    have hI2 := isBuilderF_below hI1 hb2
    have hbw2 := below_then hbw1 hsz1 hb2
    have hsz2 := hbw2.size
    clear hI1 hb2
    by_cases hbad2 : n2 = 0 ∨ r2 < 56320 ∨ 57344 ≤ r2
    ·have hR : Hid (R = (⟨#[]⟩, 4)) := Lib.hid (by rw [hv.out, hd4.out, if_pos hbad2])
     clear hv hd4
     go_wp2
     all_goals go_ret2
     all_goals exact ⟨by rw [hR.out]; rfl, hbw2⟩
    have hd5 := Lib.hid (show Sp.decG (b.size + 1) b [] = _ by rw [hd4.out, if_neg hbad2])
    clear hd4
    have hn20 : ¬ n2 = 0 := fun h => hbad2 (.inl h)
    have hn20b : (n2 == 0) = false := by simpa using hn20
    have hr20 : 56320 ≤ r2 := by omega
    have hr21 : r2 < 57344 := by omega
    clear hbad2
    obtain ⟨x, hx⟩ : ∃ x, x = 65536 + (r - 55296) * 1024 + (r2 - 56320) := ⟨_, rfl⟩
    have h4 := Lib.runeCells_le x
    rw [Lib.runeCells_length] at h4
    have hw := fun (W : World) (hI : IsBuilderF 333 5 w.heap.size w.heap.size (byteCells acc) W) hs => writeRune_k w.heap.size w.heap.size (byteCells acc) x (by omega) (by omega) W hI (by rw [Lib.byteCells_length]; omega) hs
    rw [← hx] at hd5
    rw [hx] at hw
    have HX := Lib.hid hx
    have HW := Lib.hid hw
    have H4 := Lib.hid h4
    clear hw h4 hx
    go_wp2_with fail
    refine (HW.out _ hI2 hsz2).mono ?_
    rintro e W3 ⟨rfl, h1, b1, k1⟩
    rw [← HX.out] at h1
    go_wp2
    go_roundw
    case rel =>
     have h4 := H4.out
     have h7 : (s.extract 6 s.size).size = s.size - 6 := by simp
     refine ⟨_, g, acc ++ Lib.encodeRune x, rfl, Lib.hid hd5.out, by omega, by omega, by simp; omega, ?_, hbw2.trans b1⟩
     rw [Lib.byteCells_append, Lib.byteCells_encodeRune]; exact Or.inr h1
    case measure =>
     have h7 : (s.extract 6 s.size).size = s.size - 6 := by simp
     simp only [strOf]
     omega
   ·have hd3 := Lib.hid (show Sp.decG (b.size + 1) b [] = _ by rw [hd2.out, if_neg hhi])
    clear hd2
    have h4 := Lib.runeCells_le r
    rw [Lib.runeCells_length] at h4
    have hw := fun (W : World) (hI : IsBuilderF 333 5 w.heap.size w.heap.size (byteCells acc) W) hs => writeRune_k w.heap.size w.heap.size (byteCells acc) r (by omega) (by omega) W hI (by rw [Lib.byteCells_length]; omega) hs
    have HW := Lib.hid hw
    have H4 := Lib.hid h4
    clear hw h4
    obtain ⟨m, rfl⟩ : ∃ m : Nat, n = m := ⟨n.toNat, by omega⟩
    simp only [Int.toNat_natCast] at hd3
    have hm1 : 1 ≤ m := by omega
    have hms : m ≤ s.size := by omega
    have hd4 := Lib.hid (show s.size - (s.extract m s.size).size = m by simp; omega)
    go_wp2_with fail
    all_goals
     refine (HW.out _ hI1 hsz1).mono ?_
     rintro e W2 ⟨rfl, h1, b1, k1⟩
     go_wp2
     go_roundw
     case rel =>
      have h4 := H4.out
      have h5 := hd4.out
      have h6 : (s.extract m s.size).size = s.size - m := by simp
      refine ⟨_, g, acc ++ Lib.encodeRune r, rfl, Lib.hid hd3.out, by omega, by omega, by simp; omega, ?_, hbw1.trans b1⟩
      rw [Lib.byteCells_append, Lib.byteCells_encodeRune]; exact Or.inr h1
     case measure =>
      have h6 : (s.extract m s.size).size = s.size - m := by simp
      simp only [strOf]
      omega
def numc (xs : List Int) : List Value := xs.map (Value.int .u8)
theorem numc_append (xs ys : List Int) : numc (xs ++ ys) = numc xs ++ numc ys := by simp [numc]
set_option maxHeartbeats 4000000 in
set_option maxRecDepth 100000 in
theorem three_own (B : Nat) (v : Value) (xs : List Int) r (h0 : 0 ≤ r) (h1 : r < 65536) (w : World) (hown : w.ownsRow B 5 1 v xs.length (numc xs)) (hlen : xs.length + 3 ≤ 140737488355328) (hBw : B ≤ w.heap.size) :
  Calls Tryz.prog 223 #[v, .int .i32 r] w fun e w' => ∃ v', e = .returned v' ∧ w'.ownsRow B 5 1 v' (xs.length + 3) (numc (xs ++ Sp.three r)) ∧ ∃ o, (w.alloc o).grownBy w' v.ownBlock := by
 obtain ⟨i0, hi, hz0, hz1, hz2⟩ := info_parts infoByte
 go_enter Tryz.func223, Tryz.ntmps223
 go_wp2_with (at_builtin; refine wpList_append_own _ rfl _ _ 33 rfl B 5 i0 (.int .u8 0) 1 1 Tryz.underlying33 hi hz0 hz1 hz2 rfl (by decide) _ _ _ rfl (hown.alloc _) ⟨w.heap.size, 0, none⟩ 3 3 (numc (Sp.three r)) rfl rfl ?c1 ?c2 ?c3 ?c4 ?c5 ?_)
 case c1 =>
  have e1 : bits BinOp.or IntKind.u8 128 (bits BinOp.and IntKind.i32 (r / 64) 63 % 256) = 128 + r / 64 % 64 := by
   rw [Sp.i32_and63 _ (by omega) (by omega), Sp.or128 _ (by omega) (by omega)]; omega
  have e2 : bits BinOp.or IntKind.u8 128 (bits BinOp.and IntKind.i32 r 63 % 256) = 128 + r % 64 := by
   rw [Sp.i32_and63 _ (by omega) (by omega), Sp.or128 _ (by omega) (by omega)]; omega
  intro j u hj
  match j, hj with
  | 0, hj => simp [numc, Sp.three] at hj; subst hj; simp [Addr.add]
  | 1, hj => simp [numc, Sp.three] at hj; subst hj; simp [Addr.add, e1]
  | 2, hj => simp [numc, Sp.three] at hj; subst hj; simp [Addr.add, e2]
  | (j + 3), hj => simp [numc, Sp.three] at hj
 case c2 => intro u hu; simp [numc, Sp.three] at hu; rcases hu with rfl | rfl | rfl <;> rfl
 case c3 => unfold maxLen; omega
 case c4 => omega
 case c5 => simp; omega
 intro v' w2 hown' hgrow _
 go_wp2
 go_ret
 exact ⟨_, rfl, by rw [numc_append]; exact hown', _, hgrow⟩
theorem iter_grown {w w' : World} {v : Value} {B n : Nat} {xs : List Value} {k : Nat} {s : ByteArray} {pos : Nat} (hown : w.ownsRow B 5 1 v n xs) (hg : w.grownBy w' v.ownBlock) (hk : w.heap[k]? = some (.stringIter s pos)) : w'.heap[k]? = some (.stringIter s pos) :=
 (OthersKept.grown (OthersKept.refl 5 none w) hg (Lib.ownsRowF_kind (World.ownsRowF_of hown))) k _ hk (by simp) (fun _ _ e1 => by cases e1)
theorem own_base {w : World} {base : Nat} {e : TypeId} {size n : Nat} {v : Value} {xs : List Value} (h : w.ownsRow base e size v n xs) (k : Nat) (hk : v.ownBlock = some k) : base ≤ k := by
 rcases h.2 with ⟨rfl, _⟩ | ⟨g, cap, cur, rfl, hb, _⟩
 ·simp [Value.ownBlock] at hk
 ·have : g = k := by simpa [Value.ownBlock] using hk
  omega
theorem app_step {w0 w2 w3 : World} {o : Obj} {v4 v' : Value} {acc news : List Int} {m k B0 : Nat} {s : ByteArray} {pos : Nat} (hown : w2.ownsRow (k + 1) 5 1 v4 acc.length (numc acc)) (hl : news.length = m)
  (hown' : w3.ownsRow (k + 1) 5 1 v' (acc.length + m) (numc (acc ++ news))) (hg : (w2.alloc o).grownBy w3 v4.ownBlock) (hit : w2.heap[k]? = some (.stringIter s pos)) (hb : Below B0 w0 w2) (hB0 : B0 ≤ k) :
  w3.ownsRow (k + 1) 5 1 v' (acc ++ news).length (numc (acc ++ news)) ∧ w3.heap[k]? = some (.stringIter s pos) ∧ Below B0 w0 w3 := by
 have hlt : k < w2.heap.size := (Array.getElem?_eq_some_iff.1 hit).1
 refine ⟨by rw [List.length_append, hl]; exact hown', iter_grown (hown.alloc _) hg ((Lib.alloc_old w2 _ k hlt).trans hit), ?_⟩
 exact (hb.alloc (by omega) _).grown hg (by simp; omega) (fun q hq => by have := own_base hown q hq; omega)
theorem own_string {P : Program} {w : World} {base n : Nat} {e' src dst e : TypeId} {v : Value} {xs : List Int} (hs : P.underlying src = some (.slice e)) (he : P.underlying e = some (.int .u8)) (hd : P.underlying dst = some .string)
  (h : w.ownsRow base e' 1 v n (numc xs)) : (convert src dst v).run P w = .ok (.string (Go.strOfNums xs)) w := by
 have hl : xs.length = n := by have := h.1; simp [numc] at this; exact this
 rcases h.2 with ⟨rfl, rfl⟩ | ⟨g, cap, cur, rfl, _⟩
 ·obtain rfl : xs = [] := List.eq_nil_of_length_eq_zero hl
  exact run_convert_bytes_nil w src e hs he 0 0 dst hd
 ·refine run_convert_bytes_arg w src e hs he g 0 n cap xs hl (fun i hi => ?_) dst hd
  have hc := h.cells (g := g) rfl i (.int .u8 (xs.getD i 0)) (by simp [numc, List.getElem?_eq_getElem (show i < xs.length by omega), List.getD_eq_getElem?_getD])
  have ha : (⟨g, 0, none⟩ : Addr).add i = ⟨g, 0 + i, none⟩ := by unfold Addr.add; split <;> simp_all
  rwa [ha] at hc
namespace Sp
def encL (l : List Int) : List Int := l.flatMap encZ
def encS (s : ByteArray) : ByteArray × Int :=
 if validD s.data.toList = false then (⟨#[]⟩, 4)
 else if 65535 < (encL (runes s)).length then (⟨#[]⟩, 2)
 else (Go.strOfNums (encL (runes s)), 0)
end Sp
set_option maxHeartbeats 8000000 in
set_option maxRecDepth 100000 in
theorem encode_any (s : ByteArray) (w : World) (hs : s.size ≤ 1099511627776) (hT : Lib.Utf8Tabs (Tryz.lays196_ren.g 3) (Tryz.lays196_ren.g 4) w) :
  Calls Tryz.prog 161 #[.string s] w fun e w' => e = .returned (.tuple #[.string (Sp.encS s).1, .int .i64 (Sp.encS s).2]) ∧ Below w.heap.size w w' := by
 obtain ⟨i0, hi, hz0, hz1, hz2⟩ := info_parts infoByte
 have hV := Tryz.utf8_ValidString s w (by omega) hT
 have HE := Lib.hid (show Sp.encS s = _ by rw [Sp.encS])
 generalize Sp.encS s = R at HE ⊢
 generalize validD s.data.toList = V at hV HE
 have HV := Lib.hid hV
 clear hV
 go_enter Tryz.func161, Tryz.ntmps161
 go_wp2_with fail
 refine HV.out.mono ?_
 rintro e W1 ⟨rfl, hb1⟩
 clear HV
 cases V with
 | false =>
  have hR : Hid (R = (⟨#[]⟩, 4)) := Lib.hid (by rw [HE.out, if_pos rfl])
  clear HE
  go_wp2
  go_ret2
  exact ⟨by rw [hR.out]; rfl, hb1⟩
 | true =>
  have HR : Hid (R = if 65535 < (Sp.encL (Sp.runes s)).length then (⟨#[]⟩, 2) else (Go.strOfNums (Sp.encL (Sp.runes s)), 0)) := Lib.hid (by rw [HE.out, if_neg (by simp)])
  clear HE
  have hsz1 := hb1.size
  go_wp2
  go_loopw [4] (fun v4 wr => ∃ (pos f : Nat) (acc : List Int), wr.ownsRow (W1.heap.size + 1) 5 1 v4 acc.length (numc acc) ∧ wr.heap[W1.heap.size]? = some (.stringIter s pos) ∧ Below w.heap.size w wr ∧ Hid (acc ++ Sp.encL (Sp.rl s f pos) = Sp.encL (Sp.runes s)) ∧ s.size ≤ pos + f ∧ acc.length ≤ 6 * pos) (fun _ wr => s.size - wr.iterPos W1.heap.size)
  case atStart =>
   refine ⟨0, s.size, [], ⟨by simp [numc], .inl ⟨rfl, rfl⟩⟩, ?_, below_then hb1 hsz1 (below_iter _ _ _), Lib.hid rfl, by omega, by simp⟩
   exact World.iter_heap W1 s 0
  case round =>
   obtain ⟨pos, f, acc, hown, hit, hbw, hacc, hfu, hal⟩ := hrel
   have hsz : W1.heap.size < wr.heap.size := (Array.getElem?_eq_some_iff.1 hit).1
   by_cases hp : pos < s.size
   ·have hnx : ∀ ty, (Instr.next (.pointer (some ⟨W1.heap.size, 0, none⟩)) true ty).run Tryz.prog wr = _ := fun ty => Lib.run_next_any_at wr W1.heap.size s pos ty hit hp
    have hwd := Lib.decode_width_pos s pos hp
    have hmx : ((Utf8.decode s pos).1 : Int) ≤ 1114111 := by have := Sp.decode_max s pos; omega
    have hmn : (0 : Int) ≤ ((Utf8.decode s pos).1 : Int) := by omega
    obtain ⟨g, rfl, hg, hr⟩ := Sp.rl_step s f pos hp hfu
    have hr' := Lib.hid hr
    clear hr
    have hit2 := Lib.iterAt_heap wr W1.heap.size s pos (pos + (Utf8.decode s pos).2) hit
    have hbw2 := Lib.below_iterAt hbw (k := W1.heap.size) (by omega) s (pos + (Utf8.decode s pos).2)
    have hown2 := ownsRow_iterAt hown (k := W1.heap.size) (by omega) s (pos + (Utf8.decode s pos).2)
    have hsz2 : W1.heap.size < (wr.iterAt W1.heap.size s (pos + (Utf8.decode s pos).2)).heap.size := by rw [Lib.iterAt_size]; omega
    have hlt2 : pos < pos + (Utf8.decode s pos).2 := by omega
    generalize pos + (Utf8.decode s pos).2 = pos2 at *
    generalize ((Utf8.decode s pos).1 : Int) = r at *
    generalize wr.iterAt W1.heap.size s pos2 = w2 at *
    clear hown hbw hsz
    by_cases c1 : 0 < r ∧ r < 128
    ·have he : Sp.encZ r = [r] := by rw [Sp.encZ, if_pos (by omega)]
     have HE := Lib.hid he
     clear he
     obtain ⟨c10, c11⟩ := c1
     go_wp2_with (at_builtin; refine wpList_append_own _ rfl _ _ 33 rfl (W1.heap.size + 1) 5 i0 (.int .u8 0) 1 1 Tryz.underlying33 hi hz0 hz1 hz2 rfl (by decide) _ _ _ rfl (hown2.alloc _) ⟨w2.heap.size, 0, none⟩ 1 1 (numc [r]) rfl rfl ?c1 ?c2 ?c3 ?c4 ?c5 ?_)
     case c1 =>
      intro j u hj
      match j, hj with
      | 0, hj => simp [numc] at hj; subst hj; simp [Addr.add]
      | (j + 1), hj => simp [numc] at hj
     case c2 => intro u hu; simp [numc] at hu; subst hu; rfl
     case c3 => unfold maxLen; omega
     case c4 => omega
     case c5 => first | omega | (simp; omega)
     intro v' w3 hown' hgrow _
     obtain ⟨ho3, hi3, hb3⟩ := app_step (o := _) (news := [r]) hown2 rfl (by rw [numc_append]; exact hown') hgrow hit2 hbw2 (by omega)
     go_wp2
     go_roundw
     case rel =>
      refine ⟨pos2, g, acc ++ [r], ho3, hi3, hb3, Lib.hid ?_, by omega, by simp; omega⟩
      rw [← hacc.out, hr'.out, Sp.encL, Sp.encL, List.flatMap_cons, HE.out, List.append_assoc]
     case measure =>
      simp only [World.iterPos, hi3, hit]
      omega
    have c1b : ¬ (0 < r) ∨ ¬ (r < 128) := by omega
    by_cases c2 : r < 2048
    ·have he : Sp.encZ r = [192 + r / 64, 128 + r % 64] := by rw [Sp.encZ, if_neg (by omega), if_pos (by omega)]
     have HE := Lib.hid he
     clear he
     by_cases c0 : 0 < r
     ·have c0b : 128 ≤ r := by omega
      clear c1 c1b
      go_wp2_with (at_builtin; refine wpList_append_own _ rfl _ _ 33 rfl (W1.heap.size + 1) 5 i0 (.int .u8 0) 1 1 Tryz.underlying33 hi hz0 hz1 hz2 rfl (by decide) _ _ _ rfl (hown2.alloc _) ⟨w2.heap.size, 0, none⟩ 2 2 (numc [192 + r / 64, 128 + r % 64]) rfl rfl ?c1 ?c2 ?c3 ?c4 ?c5 ?_)
      case c1 =>
       have e2 : bits BinOp.or IntKind.u8 128 (bits BinOp.and IntKind.i32 r 63 % 256) = 128 + r % 64 := by
        rw [Sp.i32_and63 _ (by omega) (by omega), Sp.or128 _ (by omega) (by omega)]; omega
       intro j u hj
       match j, hj with
       | 0, hj => simp [numc] at hj; subst hj; simp [Addr.add]
       | 1, hj => simp [numc] at hj; subst hj; simp [Addr.add, e2]
       | (j + 2), hj => simp [numc] at hj
      case c2 => intro u hu; simp [numc] at hu; rcases hu with rfl | rfl <;> rfl
      case c3 => unfold maxLen; omega
      case c4 => omega
      case c5 => first | omega | (simp; omega)
      intro v' w3 hown' hgrow _
      obtain ⟨ho3, hi3, hb3⟩ := app_step (o := _) (news := [192 + r / 64, 128 + r % 64]) hown2 rfl (by rw [numc_append]; exact hown') hgrow hit2 hbw2 (by omega)
      go_wp2
      go_roundw
      case rel =>
       refine ⟨pos2, g, acc ++ [192 + r / 64, 128 + r % 64], ho3, hi3, hb3, Lib.hid ?_, by omega, by simp; omega⟩
       rw [← hacc.out, hr'.out, Sp.encL, Sp.encL, List.flatMap_cons, HE.out, List.append_assoc]
      case measure =>
       simp only [World.iterPos, hi3, hit]
       omega
     ·have c0b : r ≤ 0 := by omega
      clear c1 c1b
      go_wp2_with (at_builtin; refine wpList_append_own _ rfl _ _ 33 rfl (W1.heap.size + 1) 5 i0 (.int .u8 0) 1 1 Tryz.underlying33 hi hz0 hz1 hz2 rfl (by decide) _ _ _ rfl (hown2.alloc _) ⟨w2.heap.size, 0, none⟩ 2 2 (numc [192 + r / 64, 128 + r % 64]) rfl rfl ?c1 ?c2 ?c3 ?c4 ?c5 ?_)
      case c1 =>
       have e2 : bits BinOp.or IntKind.u8 128 (bits BinOp.and IntKind.i32 r 63 % 256) = 128 + r % 64 := by
        rw [Sp.i32_and63 _ (by omega) (by omega), Sp.or128 _ (by omega) (by omega)]; omega
       intro j u hj
       match j, hj with
       | 0, hj => simp [numc] at hj; subst hj; simp [Addr.add]
       | 1, hj => simp [numc] at hj; subst hj; simp [Addr.add, e2]
       | (j + 2), hj => simp [numc] at hj
      case c2 => intro u hu; simp [numc] at hu; rcases hu with rfl | rfl <;> rfl
      case c3 => unfold maxLen; omega
      case c4 => omega
      case c5 => first | omega | (simp; omega)
      intro v' w3 hown' hgrow _
      obtain ⟨ho3, hi3, hb3⟩ := app_step (o := _) (news := [192 + r / 64, 128 + r % 64]) hown2 rfl (by rw [numc_append]; exact hown') hgrow hit2 hbw2 (by omega)
      go_wp2
      go_roundw
      case rel =>
       refine ⟨pos2, g, acc ++ [192 + r / 64, 128 + r % 64], ho3, hi3, hb3, Lib.hid ?_, by omega, by simp; omega⟩
       rw [← hacc.out, hr'.out, Sp.encL, Sp.encL, List.flatMap_cons, HE.out, List.append_assoc]
      case measure =>
       simp only [World.iterPos, hi3, hit]
       omega
    have c2b : ¬ (r < 2048) := by omega
    have c0b : (128 : Int) ≤ r := by omega
    by_cases c3 : r < 65536
    ·have he : Sp.encZ r = Sp.three r := by rw [Sp.encZ, if_neg (by omega), if_neg c2b, if_pos (by omega)]
     have HE := Lib.hid he
     clear he c1b
     have h3 := Lib.hid (three_own (W1.heap.size + 1) u4 acc r (by omega) (by omega) w2 hown2 (by omega) (by omega))
     clear c2 c1
     go_wp2_with fail
     refine h3.out.mono ?_
     rintro e w3 ⟨v', rfl, hown', o, hgrow⟩
     clear h3
     obtain ⟨ho3, hi3, hb3⟩ := app_step (o := _) (news := Sp.three r) hown2 rfl hown' hgrow hit2 hbw2 (by omega)
     go_wp2
     go_roundw
     case rel =>
      refine ⟨pos2, g, acc ++ Sp.three r, ho3, hi3, hb3, Lib.hid ?_, by omega, by simp [Sp.three]; omega⟩
      rw [← hacc.out, hr'.out, Sp.encL, Sp.encL, List.flatMap_cons, HE.out, List.append_assoc]
     case measure =>
      simp only [World.iterPos, hi3, hit]
      omega
    have c3b : ¬ (r < 65536) := by omega
    have he : Sp.encZ r = Sp.three (55296 + (r - 65536) / 1024) ++ Sp.three (56320 + (r - 65536) % 1024) := by rw [Sp.encZ, if_neg (by omega), if_neg c2b, if_neg c3b]
    have HE := Lib.hid he
    clear he c1b
    have h3 := Lib.hid (three_own (W1.heap.size + 1) u4 acc (55296 + (r - 65536) / 1024) (by omega) (by omega) w2 hown2 (by omega) (by omega))
    clear c2 c3 c1
    go_wp2_with fail
    refine h3.out.mono ?_
    rintro e w3 ⟨v', rfl, hown', o, hgrow⟩
    clear h3
    obtain ⟨ho3, hi3, hb3⟩ := app_step (o := _) (news := Sp.three (55296 + (r - 65536) / 1024)) hown2 rfl hown' hgrow hit2 hbw2 (by omega)
    have hsz3 : W1.heap.size < w3.heap.size := (Array.getElem?_eq_some_iff.1 hi3).1
    have h4 := Lib.hid (three_own (W1.heap.size + 1) v' (acc ++ Sp.three (55296 + (r - 65536) / 1024)) (56320 + (r - 65536) % 1024) (by omega) (by omega) w3 ho3 (by simp [Sp.three]; omega) (by omega))
    have e1023 : bits BinOp.and IntKind.i32 (r - 65536) 1023 = (r - 65536) % 1024 := Sp.i32_and1023 _ (by omega) (by omega)
    clear hown' hgrow hown2 hit2 hbw2
    go_wp2_with fail
    refine h4.out.mono ?_
    rintro e w4 ⟨v'', rfl, hown4, o4, hgrow4⟩
    clear h4
    obtain ⟨ho4, hi4, hb4⟩ := app_step (o := _) (news := Sp.three (56320 + (r - 65536) % 1024)) ho3 rfl hown4 hgrow4 hi3 hb3 (by omega)
    go_wp2
    go_roundw
    case rel =>
     refine ⟨pos2, g, _, ho4, hi4, hb4, Lib.hid ?_, by omega, by simp [Sp.three]; omega⟩
     rw [← hacc.out, hr'.out, Sp.encL, Sp.encL, List.flatMap_cons, HE.out]
     simp only [List.append_assoc]
    case measure =>
     simp only [World.iterPos, hi4, hit]
     omega
   ·have hnx : ∀ ty, (Instr.next (.pointer (some ⟨W1.heap.size, 0, none⟩)) true ty).run Tryz.prog wr = _ := fun ty => Lib.run_next_end_at wr W1.heap.size s pos ty hit hp
    have hfin : Hid (Sp.encL (Sp.runes s) = acc) := Lib.hid (by rw [← hacc.out, Sp.rl_end _ _ _ hp]; simp [Sp.encL])
    obtain ⟨A, c, rfl⟩ : ∃ A c, u4 = .slice A acc.length c := by
     rcases hown.2 with ⟨hv, h0⟩ | ⟨g, cap, cur, hv, _⟩
     ·exact ⟨none, 0, by rw [hv, h0]⟩
     ·exact ⟨_, _, hv⟩
    by_cases hlen : 65535 < acc.length
    ·have hR : Hid (R = (⟨#[]⟩, 2)) := Lib.hid (by rw [HR.out, hfin.out, if_pos hlen])
     have hlz : (65535 : Int) < (acc.length : Int) := by omega
     clear HR hfin hacc
     go_wp2
     go_ret2
     exact ⟨by rw [hR.out]; rfl, hbw⟩
    ·have hR : Hid (R = (Go.strOfNums acc, 0)) := Lib.hid (by rw [HR.out, hfin.out, if_neg hlen])
     have hlz : ¬ (65535 : Int) < (acc.length : Int) := by omega
     have hconv := own_string (P := Tryz.prog) (src := 33) (dst := 9) Tryz.underlying33 Tryz.underlying5 Tryz.underlying9 hown
     clear HR hfin hacc
     go_wp2
     go_ret2
     exact ⟨by rw [hR.out]; rfl, hbw⟩
def RdN (k : IntKind) (w : World) (A : Option Addr) (xs : List Int) : Prop :=
 xs.length ≤ 9223372036854775807 ∧ (0 < xs.length → ∃ b o, A = some ⟨b, o, none⟩ ∧ ∀ j, j < xs.length → w.cell? ⟨b, o + j, none⟩ = some (.int k (xs.getD j 0)))
def idx : List Int → Int → Int → Int
 | [], _, _ => -1
 | x :: l, v, at_ => if v = x then at_ else idx l v (at_ + 1)
theorem idx_lo : ∀ (l : List Int) (v a : Int), 0 ≤ a → (idx l v a = -1 ∧ v ∉ l) ∨ (0 ≤ idx l v a ∧ v ∈ l)
 | [], _, _, _ => .inl ⟨rfl, by simp⟩
 | x :: l, v, a, h => by
  unfold idx
  split
  ·rename_i e; exact .inr ⟨h, by simp [e]⟩
  ·rename_i e
   rcases idx_lo l v (a + 1) (by omega) with ⟨h1, h2⟩ | ⟨h1, h2⟩
   ·exact .inl ⟨h1, by simp [e, h2]⟩
   ·exact .inr ⟨h1, by simp [h2]⟩
set_option maxHeartbeats 4000000 in
theorem index_rune (A : Option Addr) (c : Nat) (xs : List Int) (v : Int) (w : World) (h : RdN .i32 w A xs) :
  Calls Tryz.prog 296 #[.slice A xs.length c, .int .i32 v] w fun e w' => e = .returned (.int .i64 (idx xs v 0)) ∧ w' = w := by
 obtain ⟨hl, hc⟩ := h
 have HC := Lib.hid hc
 clear hc
 go_enter Tryz.func296, Tryz.ntmps296
 go_wp2
 go_loop [8] (fun n => ∃ k : Nat, k ≤ xs.length ∧ n = .int .i64 k ∧ Hid (idx (xs.drop k) v k = idx xs v 0)) (fun n => xs.length - (RowKit.intOf n).toNat)
 case atStart => exact ⟨0, Nat.zero_le _, rfl, Lib.hid (by simp)⟩
 case round =>
  obtain ⟨k, hk, rfl, hi⟩ := hrel
  by_cases hlt : k < xs.length
  ·obtain ⟨b, o, rfl, hcell⟩ := HC.out (by omega)
   have hck := hcell k hlt
   clear hcell
   have hd : Hid (xs.drop k = xs.getD k 0 :: xs.drop (k + 1)) := Lib.hid (by rw [List.drop_eq_getElem_cons hlt]; simp [List.getD_eq_getElem?_getD, hlt])
   generalize xs.getD k 0 = y at hck hd
   by_cases he : v = y
   ·have he' : (v == y) = true := by simpa using he
    have hv : Hid (idx xs v 0 = k) := Lib.hid (by rw [← hi.out, hd.out, idx, if_pos he])
    clear he hi hd
    go_wp2
    go_ret
    exact ⟨by rw [hv.out]; rfl, rfl⟩
   ·have he' : (v == y) = false := by simpa using he
    have hv : Hid (idx (xs.drop (k + 1)) v (k + 1 : Nat) = idx xs v 0) := Lib.hid (by rw [← hi.out, hd.out, idx, if_neg he]; simp)
    clear he hi hd
    go_wp2
    go_round
    case rel => exact ⟨k + 1, by omega, by go_num, hv⟩
    case measure => simp [RowKit.intOf]; omega
  ·have hv : Hid (idx xs v 0 = -1) := Lib.hid (by rw [← hi.out, List.drop_eq_nil_of_le (by omega)]; rfl)
   clear hi
   go_wp2
   go_ret
   exact ⟨by rw [hv.out]; rfl, rfl⟩
theorem contains_rune (A : Option Addr) (c : Nat) (xs : List Int) (v : Int) (w : World) (h : RdN .i32 w A xs) :
  Calls Tryz.prog 279 #[.slice A xs.length c, .int .i32 v] w fun e w' => e = .returned (.bool (decide (v ∈ xs))) ∧ w' = w := by
 rcases idx_lo xs v 0 (by omega) with ⟨h1, h2⟩ | ⟨h1, h2⟩
 ·have hd : decide (v ∈ xs) = false := by simpa using h2
  have H1 := Lib.hid h1
  clear h1 h2
  go_enter Tryz.func279, Tryz.ntmps279
  go_wp2_with fail
  refine (index_rune A c xs v _ h).mono ?_
  rintro e w' ⟨rfl, rfl⟩
  rw [H1.out]
  go_wp2
  go_ret
  exact ⟨by rw [hd]; rfl, rfl⟩
 ·have hd : decide (v ∈ xs) = true := by simpa using h2
  have H1 := Lib.hid h1
  clear h1 h2
  go_enter Tryz.func279, Tryz.ntmps279
  go_wp2_with fail
  refine (index_rune A c xs v _ h).mono ?_
  rintro e w' ⟨rfl, rfl⟩
  have h1' := H1.out
  generalize idx xs v 0 = q at h1' ⊢
  go_wp2
  go_ret
  exact ⟨by rw [hd]; rfl, rfl⟩
namespace Sp
def goodR (r : Int) : Bool := decide (32 < r) && decide (r ≠ 127) && !decide (r ∈ ([59, 91, 40, 41, 46] : List Int))
def nameS (s : ByteArray) : Bool := (runes s).all goodR && decide (0 < (runes s).length) && decide ((runes s).length ≤ 64) && validD s.data.toList
end Sp
theorem cell_below {w w1 : World} (h : Below w.heap.size w w1) {a : Addr} {v : Value} (hc : w.cell? a = some v) : w1.cell? a = some v := (h.cell (World.block_lt_of_cell? w a hc)).trans hc
theorem tabs_below {w w1 : World} {g3 g4 : Nat} (hT : Lib.Utf8Tabs g3 g4 w) (h : Below w.heap.size w w1) : Lib.Utf8Tabs g3 g4 w1 :=
 ⟨fun c hc => cell_below h (hT.1 c hc), fun i hi => ⟨cell_below h (hT.2 i hi).1, cell_below h (hT.2 i hi).2⟩⟩
def Tabs (w : World) : Prop := Lib.Utf8Tabs (Tryz.lays196_ren.g 3) (Tryz.lays196_ren.g 4) w
theorem Tabs.below {w w1 : World} (h : Tabs w) (hb : Below w.heap.size w w1) : Tabs w1 := tabs_below h hb
theorem len_any (s : ByteArray) (w : World) (hs : s.size ≤ 140737488351232) :
  Calls Tryz.prog 257 #[.string s] w fun e w' => e = .returned (.int .i64 ((Sp.runes s).length : Nat)) ∧ Below w.heap.size w w' := by
 have hc := Lib.hid (Tryz.utf8_RuneCountInString s w (by omega))
 rw [Sp.runes_length]
 generalize Lib.runeCount s = n at hc ⊢
 go_enter Tryz.func257, Tryz.ntmps257
 go_wp2_with fail
 refine hc.out.mono ?_
 rintro e w' ⟨rfl, pos, rfl⟩
 go_wp2
 go_ret
 exact ⟨rfl, below_iter _ _ _⟩
set_option maxHeartbeats 8000000 in
set_option maxRecDepth 100000 in
theorem name_any (s : ByteArray) (w : World) (hs : s.size ≤ 140737488351232) (hT : ∀ W, Below w.heap.size w W → Lib.Utf8Tabs (Tryz.lays196_ren.g 3) (Tryz.lays196_ren.g 4) W) :
  Calls Tryz.prog 235 #[.string s] w fun e w' => e = .returned (.bool (Sp.nameS s)) ∧ Below w.heap.size w w' := by
 have HV := Lib.hid (fun W h => Tryz.utf8_ValidString s W (by omega) (hT W h))
 have HE := Lib.hid (show Sp.nameS s = _ by rw [Sp.nameS])
 generalize Sp.nameS s = R at HE ⊢
 generalize validD s.data.toList = V at HV HE
 clear hT
 go_enter Tryz.func235, Tryz.ntmps235
 go_wp2
 go_loopw [3] (fun v3 wr => ∃ (pos f k : Nat), v3 = .int .i64 k ∧ wr.heap[w.heap.size]? = some (.stringIter s pos) ∧ Below w.heap.size w wr ∧ Hid ((Sp.rl s f pos).all Sp.goodR = (Sp.runes s).all Sp.goodR) ∧ Hid ((Sp.runes s).length = k + (Sp.rl s f pos).length) ∧ s.size ≤ pos + f ∧ k ≤ pos) (fun _ wr => s.size - wr.iterPos w.heap.size)
 case atStart => exact ⟨0, s.size, 0, rfl, World.iter_heap w s 0, below_iter _ _ _, Lib.hid rfl, Lib.hid (by simp [Sp.runes]), by omega, by omega⟩
 case round =>
  obtain ⟨pos, f, k, rfl, hit, hbw, hall, hcnt, hfu, hk⟩ := hrel
  have hsz : w.heap.size < wr.heap.size := (Array.getElem?_eq_some_iff.1 hit).1
  by_cases hp : pos < s.size
  ·have hnx : ∀ ty, (Instr.next (.pointer (some ⟨w.heap.size, 0, none⟩)) true ty).run Tryz.prog wr = _ := fun ty => Lib.run_next_any_at wr w.heap.size s pos ty hit hp
   have hwd := Lib.decode_width_pos s pos hp
   have hmx : ((Utf8.decode s pos).1 : Int) ≤ 1114111 := by have := Sp.decode_max s pos; omega
   have hmn : (0 : Int) ≤ ((Utf8.decode s pos).1 : Int) := by omega
   obtain ⟨g, rfl, hg, hr⟩ := Sp.rl_step s f pos hp hfu
   have hr' := Lib.hid hr
   clear hr
   have hit2 := Lib.iterAt_heap wr w.heap.size s pos (pos + (Utf8.decode s pos).2) hit
   have hbw2 := Lib.below_iterAt hbw (k := w.heap.size) (by omega) s (pos + (Utf8.decode s pos).2)
   have hsz2 : w.heap.size < (wr.iterAt w.heap.size s (pos + (Utf8.decode s pos).2)).heap.size := by rw [Lib.iterAt_size]; omega
   have hlt2 : pos < pos + (Utf8.decode s pos).2 := by omega
   generalize pos + (Utf8.decode s pos).2 = pos2 at *
   generalize ((Utf8.decode s pos).1 : Int) = r at *
   generalize wr.iterAt w.heap.size s pos2 = w2 at *
   clear hbw hsz
   by_cases c1 : r ≤ 32
   ·have hR : Hid (R = false) := Lib.hid (by rw [HE.out, ← hall.out, hr'.out]; simp [Sp.goodR, show ¬ (32 < r) by omega])
    clear HE hall hcnt hr'
    go_wp2
    go_ret
    exact ⟨by rw [hR.out]; rfl, hbw2⟩
   by_cases c2 : r = 127
   ·have hR : Hid (R = false) := Lib.hid (by rw [HE.out, ← hall.out, hr'.out]; simp [Sp.goodR, c2])
    have c2b : (r == 127) = true := by simpa using c2
    clear HE hall hcnt hr' c2
    go_wp2
    go_ret
    exact ⟨by rw [hR.out]; rfl, hbw2⟩
   have c2b : (r == 127) = false := by simpa using c2
   have hct := Lib.hid (contains_rune (some ⟨w2.heap.size, 0, none⟩) 5 [59, 91, 40, 41, 46] r (w2.alloc (.cells #[.int .i32 59, .int .i32 91, .int .i32 40, .int .i32 41, .int .i32 46] 21)) ⟨by simp, fun _ => ⟨w2.heap.size, 0, rfl, fun j hj => by
    match j, hj with
    | 0, _ => simp
    | 1, _ => simp
    | 2, _ => simp
    | 3, _ => simp
    | 4, _ => simp
    | j + 5, hj => simp at hj; omega⟩⟩)
   by_cases c3 : r ∈ ([59, 91, 40, 41, 46] : List Int)
   ·have hR : Hid (R = false) := Lib.hid (by rw [HE.out, ← hall.out, hr'.out]; simp only [List.all_cons, Sp.goodR, c3]; simp)
    have c3b := Lib.hid (show decide (r ∈ ([59, 91, 40, 41, 46] : List Int)) = true by simpa using c3)
    clear HE hall hcnt hr' c2 c3
    go_wp2_with fail
    refine hct.out.mono ?_
    rintro e w3 ⟨rfl, rfl⟩
    rw [c3b.out]
    go_wp2
    go_ret
    exact ⟨by rw [hR.out]; rfl, hbw2.alloc (by omega) _⟩
   ·have hgood : Sp.goodR r = true := by
     simp only [Sp.goodR, c3]
     simp [c2]
     omega
    have c3b := Lib.hid (show decide (r ∈ ([59, 91, 40, 41, 46] : List Int)) = false by simpa using c3)
    have hall2 := Lib.hid (show (Sp.rl s g pos2).all Sp.goodR = (Sp.runes s).all Sp.goodR by rw [← hall.out, hr'.out, List.all_cons, hgood, Bool.true_and])
    have hcnt2 := Lib.hid (show (Sp.runes s).length = (k + 1 : Nat) + (Sp.rl s g pos2).length by rw [hcnt.out, hr'.out, List.length_cons]; omega)
    clear hall hcnt hr' c2 c3 hgood
    go_wp2_with fail
    refine hct.out.mono ?_
    rintro e w3 ⟨rfl, rfl⟩
    rw [c3b.out]
    have hit3 := (Lib.alloc_old w2 (.cells #[.int .i32 59, .int .i32 91, .int .i32 40, .int .i32 41, .int .i32 46] 21) w.heap.size hsz2).trans hit2
    go_wp2
    go_roundw
    case rel => exact ⟨pos2, g, k + 1, by go_num, hit3, hbw2.alloc (by omega) _, hall2, hcnt2, by omega, by omega⟩
    case measure =>
     simp only [World.iterPos, hit3, hit]
     omega
  ·have hnx : ∀ ty, (Instr.next (.pointer (some ⟨w.heap.size, 0, none⟩)) true ty).run Tryz.prog wr = _ := fun ty => Lib.run_next_end_at wr w.heap.size s pos ty hit hp
   have hl : Hid ((Sp.runes s).length = k) := Lib.hid (by rw [hcnt.out, Sp.rl_end _ _ _ hp]; simp)
   have ha : Hid ((Sp.runes s).all Sp.goodR = true) := Lib.hid (by rw [← hall.out, Sp.rl_end _ _ _ hp]; rfl)
   have hR0 := Lib.hid (show R = (decide (0 < k) && decide (k ≤ 64) && V) by rw [HE.out, hl.out, ha.out]; simp)
   clear HE hall hcnt
   by_cases c1 : 0 < k ∧ k ≤ 64
   ·have hR : Hid (R = V) := Lib.hid (by rw [hR0.out, decide_eq_true c1.1, decide_eq_true c1.2]; rfl)
    obtain ⟨c10, c11⟩ := c1
    clear hR0
    go_wp2_with fail
    refine (HV.out _ hbw).mono ?_
    rintro e w3 ⟨rfl, hb3⟩
    go_wp2
    go_ret
    exact ⟨by rw [hR.out]; rfl, below_then hbw (by omega) hb3⟩
   ·have hR : Hid (R = false) := Lib.hid (by
     rw [hR0.out]
     by_cases c : 0 < k
     ·rw [decide_eq_false (show ¬ k ≤ 64 by omega)]; simp
     ·rw [decide_eq_false c]; simp)
    by_cases c : 0 < k
    ·have c' : ¬ k ≤ 64 := by omega
     clear hR0 c1
     go_wp2
     go_ret
     exact ⟨by rw [hR.out]; rfl, hbw⟩
    ·clear hR0 c1
     go_wp2
     go_ret
     exact ⟨by rw [hR.out]; rfl, hbw⟩
theorem runes_le (s : ByteArray) : (Sp.runes s).length ≤ s.size := by rw [Sp.runes_length]; exact Lib.runeCount_le s
theorem rdN_below {k : IntKind} {w w1 : World} {A : Option Addr} {xs : List Int} (h : RdN k w A xs) (hb : Below w.heap.size w w1) : RdN k w1 A xs := by
 refine ⟨h.1, fun h0 => ?_⟩
 obtain ⟨b, o, e, hc⟩ := h.2 h0
 exact ⟨b, o, e, fun j hj => cell_below hb (hc j hj)⟩
def IsRow (k : IntKind) (w : World) (a : Option Addr) (len cap : Nat) (zs : List Int) : Prop :=
 (a = none ∧ len = 0 ∧ cap = 0 ∧ zs = []) ∨
 ∃ x, a = some x ∧ len ≤ cap ∧ cap ≤ maxLen ∧ zs.length = cap ∧ (∀ i, i < zs.length → w.cell? (x.add i) = some (.int k (zs.getD i 0))) ∧ ∀ n ∈ zs, (Lit.int k n).wf = true
theorem isRow_rd {k : IntKind} {w : World} {a : Option Addr} {len cap : Nat} {zs : List Int} (h : IsRow k w a len cap zs) :
  ∃ l, len = l.length ∧ RdN k w a l ∧ ∀ n ∈ l, k.min ≤ n ∧ n ≤ k.max := by
 rcases h with ⟨rfl, rfl, rfl, rfl⟩ | ⟨x, rfl, hl, hm, hz, hcell, hwf⟩
 ·exact ⟨[], rfl, ⟨by simp, fun h => by simp at h⟩, by simp⟩
 ·have hlen : (zs.take len).length = len := by simp; omega
  refine ⟨zs.take len, hlen.symm, ⟨by rw [hlen]; unfold maxLen at hm; omega, fun h0 => ?_⟩, fun n hn => (Lit.wf_int_iff k n).1 (hwf n (List.mem_of_mem_take hn))⟩
  rw [hlen] at h0
  obtain ⟨b, off, hx, hc⟩ := ints_at hcell (by omega)
  subst hx
  refine ⟨b, off, rfl, fun j hj => ?_⟩
  rw [hlen] at hj
  rw [hc j (by omega)]
  congr 2
  simp [List.getD_eq_getElem?_getD, List.getElem?_take, hj]
namespace Sp
def contG (s : ByteArray) : Nat → Nat → Int → Option Int
 | 0, _, r => some r
 | f + 1, i, r => if 128 ≤ bt s i ∧ bt s i < 192 then contG s f (i + 1) (r * 64 + bt s i - 128) else none
def finN (n r : Int) : Int × Int := if n = 3 ∧ r < 2048 ∨ n = 4 ∧ (r < 65536 ∨ 1114111 < r) ∨ 55296 ≤ r ∧ r < 57344 then (0, 0) else (r, n)
def goN (s : ByteArray) (n : Nat) (r0 : Int) : Int × Int :=
 if s.size < n then (0, 0) else match contG s (n - 1) 1 r0 with | none => (0, 0) | some r => finN n r
def refNext (s : ByteArray) : Int × Int :=
 if bt s 0 < 128 then (bt s 0, 1)
 else if 194 ≤ bt s 0 ∧ bt s 0 < 224 then goN s 2 (bt s 0 - 192)
 else if 224 ≤ bt s 0 ∧ bt s 0 < 240 then goN s 3 (bt s 0 - 224)
 else if 240 ≤ bt s 0 ∧ bt s 0 < 245 then goN s 4 (bt s 0 - 240)
 else (0, 0)
end Sp
theorem idx_str (s : ByteArray) (k : Nat) (hk : k < s.size) : ∀ W : World, (Instr.index 9 (.string s) (.int .i64 (k : Int))).run Tryz.prog W = .ok (.int .u8 (Sp.bt s k)) W := by
 intro W
 rw [run_index_string W 9 s .i64 _ Tryz.underlying9, dif_pos ⟨by omega, by omega⟩]
 simp only [Int.toNat_natCast, Sp.bt_in s k hk]
theorem idx_str0 (s : ByteArray) (hk : 0 < s.size) : ∀ W : World, (Instr.index 9 (.string s) (.int .i64 0)).run Tryz.prog W = .ok (.int .u8 (Sp.bt s 0)) W := idx_str s 0 hk
set_option maxHeartbeats 8000000 in
theorem refNext_any (s : ByteArray) (w : World) (h00 : 0 < s.size) (hs : s.size ≤ 140737488351232) :
  Calls Tryz.prog 272 #[.string s] w fun e w' => e = .returned (.tuple #[.int .i64 (Sp.refNext s).1, .int .i64 (Sp.refNext s).2]) ∧ w' = w := by
 have hb0 := Sp.bt_range s 0
 have hi0 := idx_str0 s h00
 have HE := Lib.hid (show Sp.refNext s = _ by rw [Sp.refNext])
 generalize Sp.refNext s = R at HE ⊢
 generalize hc : Sp.bt s 0 = c at *
 clear hc
 by_cases c1 : c < 128
 ·have hR : Hid (R = (c, 1)) := Lib.hid (by rw [HE.out, if_pos c1])
  clear HE
  go_enter Tryz.func272, Tryz.ntmps272
  go_wp2
  go_ret2
  exact ⟨by rw [hR.out]; rfl, rfl⟩
 by_cases c2 : 194 ≤ c ∧ c < 224
 ·have hR : Hid (R = Sp.goN s 2 (c - 192)) := Lib.hid (by rw [HE.out, if_neg c1, if_pos c2])
  clear HE
  obtain ⟨ca, cb⟩ := c2
  by_cases hn : s.size < 2
  ·have hR2 : Hid (R = (0, 0)) := Lib.hid (by rw [hR.out, Sp.goN, if_pos hn])
   have hnz : (s.size : Int) < 2 := by omega
   clear hR
   go_enter Tryz.func272, Tryz.ntmps272
   go_wp2
   go_ret2
   exact ⟨by rw [hR2.out]; rfl, rfl⟩
  have hnz : ¬ (s.size : Int) < 2 := by omega
  have hR2 : Hid (R = match Sp.contG s 1 1 (c - 192) with | none => (0, 0) | some r => Sp.finN 2 r) := Lib.hid (by rw [hR.out, Sp.goN, if_neg hn]; rfl)
  clear hR
  go_enter Tryz.func272, Tryz.ntmps272
  go_wp2
  go_loop [6, 7] (fun v6 v7 => ∃ (k : Nat) (r : Int), v6 = .int .i64 r ∧ v7 = .int .i64 k ∧ 1 ≤ k ∧ k ≤ 2 ∧ 0 ≤ r ∧ r ≤ 100000000000 ∧ Hid (r < 32 * 64 ^ (k - 1)) ∧ Hid (Sp.contG s 1 1 (c - 192) = Sp.contG s (2 - k) k r)) (fun _ v7 => 2 - (RowKit.intOf v7).toNat)
  case atStart => exact ⟨1, c - 192, rfl, rfl, by omega, by omega, by omega, by omega, Lib.hid (by omega), Lib.hid rfl⟩
  case round =>
   obtain ⟨k, r, rfl, rfl, hk1, hk2, hr0, hr1, hrk, hcg⟩ := hrel
   by_cases hlt : k < 2
   ·have hik := idx_str s k (by omega)
    have hbk := Sp.bt_range s k
    have hst := Lib.hid (show Sp.contG s 1 1 (c - 192) = if 128 ≤ Sp.bt s k ∧ Sp.bt s k < 192 then Sp.contG s (2 - (k + 1)) (k + 1) (r * 64 + Sp.bt s k - 128) else none by
     rw [hcg.out]
     obtain ⟨d, hd⟩ : ∃ d, 2 - k = d + 1 := ⟨2 - k - 1, by omega⟩
     rw [hd, show 2 - (k + 1) = d by omega, Sp.contG])
    clear hcg
    generalize hx : Sp.bt s k = x at *
    clear hx
    by_cases cx : 128 ≤ x ∧ x < 192
    ·have hst2 := Lib.hid (show Sp.contG s 1 1 (c - 192) = Sp.contG s (2 - (k + 1)) (k + 1) (r * 64 + x - 128) by rw [hst.out, if_pos cx])
     obtain ⟨cxa, cxb⟩ := cx
     have hrk2 : r * 64 + x - 128 ≤ 100000000000 := by
      have := hrk.out
      have : k = 1 ∨ k = 2 ∨ k = 3 := by omega
      rcases this with rfl | rfl | rfl <;> omega
     have hrk3 := Lib.hid (show r * 64 + x - 128 < 32 * 64 ^ (k + 1 - 1) by
      have := hrk.out
      have : k = 1 ∨ k = 2 ∨ k = 3 := by omega
      rcases this with rfl | rfl | rfl <;> omega)
     clear hst
     go_wp2
     go_round
     case rel => exact ⟨k + 1, r * 64 + x - 128, by go_num, by go_num, by omega, by omega, by omega, by omega, hrk3, hst2⟩
     case measure => simp [RowKit.intOf]; omega
    ·have hR3 : Hid (R = (0, 0)) := Lib.hid (by rw [hR2.out, hst.out, if_neg cx])
     clear hR2 hst
     by_cases cxa : x < 128
     ·clear cx
      go_wp2
      go_ret2
      exact ⟨by rw [hR3.out]; rfl, rfl⟩
     ·have cxb : 192 ≤ x := by omega
      clear cx
      go_wp2
      go_ret2
      exact ⟨by rw [hR3.out]; rfl, rfl⟩
   ·obtain rfl : k = 2 := by omega
    have hR3 : Hid (R = Sp.finN 2 r) := Lib.hid (by rw [hR2.out, hcg.out]; rfl)
    clear hR2 hcg hlt hk1 hk2
    go_wp2
    all_goals go_ret2
    all_goals
     refine ⟨?_, rfl⟩
     rw [hR3.out]
     unfold Sp.finN
     repeat' split
     all_goals first | rfl | (exfalso; omega) | (exfalso; simp_all; done) | (exfalso; simp_all; omega)
 by_cases c3 : 224 ≤ c ∧ c < 240
 ·have hR : Hid (R = Sp.goN s 3 (c - 224)) := Lib.hid (by rw [HE.out, if_neg c1, if_neg c2, if_pos c3])
  clear HE
  obtain ⟨ca, cb⟩ := c3
  by_cases hn : s.size < 3
  ·have hR2 : Hid (R = (0, 0)) := Lib.hid (by rw [hR.out, Sp.goN, if_pos hn])
   have hnz : (s.size : Int) < 3 := by omega
   clear hR
   go_enter Tryz.func272, Tryz.ntmps272
   go_wp2
   go_ret2
   exact ⟨by rw [hR2.out]; rfl, rfl⟩
  have hnz : ¬ (s.size : Int) < 3 := by omega
  have hR2 : Hid (R = match Sp.contG s 2 1 (c - 224) with | none => (0, 0) | some r => Sp.finN 3 r) := Lib.hid (by rw [hR.out, Sp.goN, if_neg hn]; rfl)
  clear hR
  go_enter Tryz.func272, Tryz.ntmps272
  go_wp2
  go_loop [6, 7] (fun v6 v7 => ∃ (k : Nat) (r : Int), v6 = .int .i64 r ∧ v7 = .int .i64 k ∧ 1 ≤ k ∧ k ≤ 3 ∧ 0 ≤ r ∧ r ≤ 100000000000 ∧ Hid (r < 32 * 64 ^ (k - 1)) ∧ Hid (Sp.contG s 2 1 (c - 224) = Sp.contG s (3 - k) k r)) (fun _ v7 => 3 - (RowKit.intOf v7).toNat)
  case atStart => exact ⟨1, c - 224, rfl, rfl, by omega, by omega, by omega, by omega, Lib.hid (by omega), Lib.hid rfl⟩
  case round =>
   obtain ⟨k, r, rfl, rfl, hk1, hk2, hr0, hr1, hrk, hcg⟩ := hrel
   by_cases hlt : k < 3
   ·have hik := idx_str s k (by omega)
    have hbk := Sp.bt_range s k
    have hst := Lib.hid (show Sp.contG s 2 1 (c - 224) = if 128 ≤ Sp.bt s k ∧ Sp.bt s k < 192 then Sp.contG s (3 - (k + 1)) (k + 1) (r * 64 + Sp.bt s k - 128) else none by
     rw [hcg.out]
     obtain ⟨d, hd⟩ : ∃ d, 3 - k = d + 1 := ⟨3 - k - 1, by omega⟩
     rw [hd, show 3 - (k + 1) = d by omega, Sp.contG])
    clear hcg
    generalize hx : Sp.bt s k = x at *
    clear hx
    by_cases cx : 128 ≤ x ∧ x < 192
    ·have hst2 := Lib.hid (show Sp.contG s 2 1 (c - 224) = Sp.contG s (3 - (k + 1)) (k + 1) (r * 64 + x - 128) by rw [hst.out, if_pos cx])
     obtain ⟨cxa, cxb⟩ := cx
     have hrk2 : r * 64 + x - 128 ≤ 100000000000 := by
      have := hrk.out
      have : k = 1 ∨ k = 2 ∨ k = 3 := by omega
      rcases this with rfl | rfl | rfl <;> omega
     have hrk3 := Lib.hid (show r * 64 + x - 128 < 32 * 64 ^ (k + 1 - 1) by
      have := hrk.out
      have : k = 1 ∨ k = 2 ∨ k = 3 := by omega
      rcases this with rfl | rfl | rfl <;> omega)
     clear hst
     go_wp2
     go_round
     case rel => exact ⟨k + 1, r * 64 + x - 128, by go_num, by go_num, by omega, by omega, by omega, by omega, hrk3, hst2⟩
     case measure => simp [RowKit.intOf]; omega
    ·have hR3 : Hid (R = (0, 0)) := Lib.hid (by rw [hR2.out, hst.out, if_neg cx])
     clear hR2 hst
     by_cases cxa : x < 128
     ·clear cx
      go_wp2
      go_ret2
      exact ⟨by rw [hR3.out]; rfl, rfl⟩
     ·have cxb : 192 ≤ x := by omega
      clear cx
      go_wp2
      go_ret2
      exact ⟨by rw [hR3.out]; rfl, rfl⟩
   ·obtain rfl : k = 3 := by omega
    have hR3 : Hid (R = Sp.finN 3 r) := Lib.hid (by rw [hR2.out, hcg.out]; rfl)
    clear hR2 hcg hlt hk1 hk2
    go_wp2
    all_goals go_ret2
    all_goals
     refine ⟨?_, rfl⟩
     rw [hR3.out]
     unfold Sp.finN
     repeat' split
     all_goals first | rfl | (exfalso; omega) | (exfalso; simp_all; done) | (exfalso; simp_all; omega)
 by_cases c4 : 240 ≤ c ∧ c < 245
 ·have hR : Hid (R = Sp.goN s 4 (c - 240)) := Lib.hid (by rw [HE.out, if_neg c1, if_neg c2, if_neg c3, if_pos c4])
  clear HE
  obtain ⟨ca, cb⟩ := c4
  by_cases hn : s.size < 4
  ·have hR2 : Hid (R = (0, 0)) := Lib.hid (by rw [hR.out, Sp.goN, if_pos hn])
   have hnz : (s.size : Int) < 4 := by omega
   clear hR
   go_enter Tryz.func272, Tryz.ntmps272
   go_wp2
   go_ret2
   exact ⟨by rw [hR2.out]; rfl, rfl⟩
  have hnz : ¬ (s.size : Int) < 4 := by omega
  have hR2 : Hid (R = match Sp.contG s 3 1 (c - 240) with | none => (0, 0) | some r => Sp.finN 4 r) := Lib.hid (by rw [hR.out, Sp.goN, if_neg hn]; rfl)
  clear hR
  go_enter Tryz.func272, Tryz.ntmps272
  go_wp2
  go_loop [6, 7] (fun v6 v7 => ∃ (k : Nat) (r : Int), v6 = .int .i64 r ∧ v7 = .int .i64 k ∧ 1 ≤ k ∧ k ≤ 4 ∧ 0 ≤ r ∧ r ≤ 100000000000 ∧ Hid (r < 32 * 64 ^ (k - 1)) ∧ Hid (Sp.contG s 3 1 (c - 240) = Sp.contG s (4 - k) k r)) (fun _ v7 => 4 - (RowKit.intOf v7).toNat)
  case atStart => exact ⟨1, c - 240, rfl, rfl, by omega, by omega, by omega, by omega, Lib.hid (by omega), Lib.hid rfl⟩
  case round =>
   obtain ⟨k, r, rfl, rfl, hk1, hk2, hr0, hr1, hrk, hcg⟩ := hrel
   by_cases hlt : k < 4
   ·have hik := idx_str s k (by omega)
    have hbk := Sp.bt_range s k
    have hst := Lib.hid (show Sp.contG s 3 1 (c - 240) = if 128 ≤ Sp.bt s k ∧ Sp.bt s k < 192 then Sp.contG s (4 - (k + 1)) (k + 1) (r * 64 + Sp.bt s k - 128) else none by
     rw [hcg.out]
     obtain ⟨d, hd⟩ : ∃ d, 4 - k = d + 1 := ⟨4 - k - 1, by omega⟩
     rw [hd, show 4 - (k + 1) = d by omega, Sp.contG])
    clear hcg
    generalize hx : Sp.bt s k = x at *
    clear hx
    by_cases cx : 128 ≤ x ∧ x < 192
    ·have hst2 := Lib.hid (show Sp.contG s 3 1 (c - 240) = Sp.contG s (4 - (k + 1)) (k + 1) (r * 64 + x - 128) by rw [hst.out, if_pos cx])
     obtain ⟨cxa, cxb⟩ := cx
     have hrk2 : r * 64 + x - 128 ≤ 100000000000 := by
      have := hrk.out
      have : k = 1 ∨ k = 2 ∨ k = 3 := by omega
      rcases this with rfl | rfl | rfl <;> omega
     have hrk3 := Lib.hid (show r * 64 + x - 128 < 32 * 64 ^ (k + 1 - 1) by
      have := hrk.out
      have : k = 1 ∨ k = 2 ∨ k = 3 := by omega
      rcases this with rfl | rfl | rfl <;> omega)
     clear hst
     go_wp2
     go_round
     case rel => exact ⟨k + 1, r * 64 + x - 128, by go_num, by go_num, by omega, by omega, by omega, by omega, hrk3, hst2⟩
     case measure => simp [RowKit.intOf]; omega
    ·have hR3 : Hid (R = (0, 0)) := Lib.hid (by rw [hR2.out, hst.out, if_neg cx])
     clear hR2 hst
     by_cases cxa : x < 128
     ·clear cx
      go_wp2
      go_ret2
      exact ⟨by rw [hR3.out]; rfl, rfl⟩
     ·have cxb : 192 ≤ x := by omega
      clear cx
      go_wp2
      go_ret2
      exact ⟨by rw [hR3.out]; rfl, rfl⟩
   ·obtain rfl : k = 4 := by omega
    have hR3 : Hid (R = Sp.finN 4 r) := Lib.hid (by rw [hR2.out, hcg.out]; rfl)
    clear hR2 hcg hlt hk1 hk2
    go_wp2
    all_goals go_ret2
    all_goals
     refine ⟨?_, rfl⟩
     rw [hR3.out]
     unfold Sp.finN
     repeat' split
     all_goals first | rfl | (exfalso; omega) | (exfalso; simp_all; done) | (exfalso; simp_all; omega)
 have hR : Hid (R = (0, 0)) := Lib.hid (by rw [HE.out, if_neg c1, if_neg c2, if_neg c3, if_neg c4])
 have d1 : ¬ c < 128 := c1
 by_cases e : c < 194
 ·clear HE c1 c2 c3 c4
  go_enter Tryz.func272, Tryz.ntmps272
  go_wp2
  go_ret2
  exact ⟨by rw [hR.out]; rfl, rfl⟩
 ·have e2 : 245 ≤ c := by omega
  clear HE c1 c2 c3 c4
  go_enter Tryz.func272, Tryz.ntmps272
  go_wp2
  go_ret2
  exact ⟨by rw [hR.out]; rfl, rfl⟩
def numk (k : IntKind) (xs : List Int) : List Value := xs.map (Value.int k)
theorem numk_append (k : IntKind) (xs ys : List Int) : numk k (xs ++ ys) = numk k xs ++ numk k ys := by simp [numk]
theorem own_slice {w : World} {base n : Nat} {e : TypeId} {size : Nat} {v : Value} {xs : List Value} (h : w.ownsRow base e size v n xs) : ∃ A c, v = .slice A n c := by
 rcases h.2 with ⟨hv, h0⟩ | ⟨g, cap, cur, hv, _⟩
 ·exact ⟨none, 0, by rw [hv, h0]⟩
 ·exact ⟨_, _, hv⟩
theorem own_max {w : World} {base n : Nat} {e : TypeId} {v : Value} {xs : List Value} (h : w.ownsRow base e 1 v n xs) : n ≤ 9223372036854775807 := by
 rcases h.2 with ⟨hv, h0⟩ | ⟨g, cap, cur, hv, h1, h2, h3, h4, h5⟩
 ·omega
 ·have := h4; unfold maxLen at this; omega
theorem own_rdN {k : IntKind} {w : World} {base : Nat} {e : TypeId} {A : Option Addr} {n c : Nat} {xs : List Int} (h : w.ownsRow base e 1 (.slice A n c) n (numk k xs)) : n = xs.length ∧ RdN k w A xs := by
 have hl : xs.length = n := by have := h.1; simp [numk] at this; exact this
 have hm := own_max h
 refine ⟨hl.symm, by omega, fun h0 => ?_⟩
 obtain ⟨g, hA⟩ : ∃ g, A = some ⟨g, 0, none⟩ := by
  rcases h.2 with ⟨_, h1⟩ | ⟨g, cap, cur, hv, _⟩
  ·omega
  ·exact ⟨g, by injection hv⟩
 subst hA
 refine ⟨g, 0, rfl, fun j hj => ?_⟩
 have hc := h.cells (g := g) rfl j (.int k (xs.getD j 0)) (by simp [numk, List.getElem?_eq_getElem hj, List.getD_eq_getElem?_getD])
 rw [show (⟨g, 0, none⟩ : Addr).add j = ⟨g, 0 + j, none⟩ by unfold Addr.add; split <;> simp_all] at hc
 exact hc
namespace Sp
def rB : Nat → ByteArray → List Int × Bool
 | 0, _ => ([], true)
 | f + 1, t =>
  if t.size = 0 then ([], true)
  else if (refNext t).2 = 0 then (65533 :: (rB f (t.extract 1 t.size)).1, false)
  else ((refNext t).1 :: (rB f (t.extract (refNext t).2.toNat t.size)).1, (rB f (t.extract (refNext t).2.toNat t.size)).2)
def refRunes (s : ByteArray) : List Int × Bool := rB s.size s
theorem finN_range (n r : Int) (hn : 0 ≤ n) : 0 ≤ (finN n r).2 ∧ (finN n r).2 ≤ n := by unfold finN; split <;> simp <;> omega
theorem goN_range (s : ByteArray) (n : Nat) (r0 : Int) : 0 ≤ (goN s n r0).2 ∧ (goN s n r0).2 ≤ n ∧ (goN s n r0).2 ≤ s.size := by
 unfold goN
 split
 ·simp
 ·split
  ·simp
  ·rename_i r _
   have := finN_range n r (by omega)
   omega
theorem refNext_range (s : ByteArray) (h : 0 < s.size) : 0 ≤ (refNext s).2 ∧ (refNext s).2 ≤ s.size := by
 unfold refNext
 repeat' split
 ·simp; omega
 ·have := goN_range s 2 (bt s 0 - 192); omega
 ·have := goN_range s 3 (bt s 0 - 224); omega
 ·have := goN_range s 4 (bt s 0 - 240); omega
 ·simp
end Sp
theorem infoInt : (Tryz.prog.info? 3).map (fun i => (i.zero, i.size, i.bytes)) = some (some (.int .i64 0), 1, 8) := by kernel_rfl
set_option maxHeartbeats 8000000 in
set_option maxRecDepth 100000 in
theorem refRunes_own (s : ByteArray) (w : World) (hs : s.size ≤ 1099511627776) :
  Calls Tryz.prog 232 #[.string s] w fun e w' => ∃ v, e = .returned (.tuple #[v, .bool (Sp.refRunes s).2]) ∧ w'.ownsRow w.heap.size 3 1 v (Sp.refRunes s).1.length (numk .i64 (Sp.refRunes s).1) ∧ Below w.heap.size w w' := by
 obtain ⟨i0, hi, hz0, hz1, hz2⟩ := info_parts infoInt
 generalize hR : Sp.refRunes s = R
 have HR := Lib.hid (show Sp.rB s.size s = R from hR)
 clear hR
 go_enter Tryz.func232, Tryz.ntmps232
 go_wp2
 go_loopw [0, 4, 5] (fun v0 v4 v5 wr => ∃ (t : ByteArray) (f : Nat) (acc : List Int) (ok : Bool), v0 = .string t ∧ v5 = .bool ok ∧ wr.ownsRow w.heap.size 3 1 v4 acc.length (numk .i64 acc) ∧ Below w.heap.size w wr ∧ Hid (acc ++ (Sp.rB f t).1 = R.1) ∧ Hid ((ok && (Sp.rB f t).2) = R.2) ∧ t.size ≤ f ∧ acc.length + t.size ≤ s.size) (fun v0 _ _ _ => (strOf v0).size)
 case atStart => exact ⟨s, s.size, [], true, rfl, rfl, ⟨by simp [numk], .inl ⟨rfl, rfl⟩⟩, Below.refl _ _, Lib.hid (by rw [HR.out]; rfl), Lib.hid (by rw [HR.out]; rfl), by omega, by simp⟩
 case round =>
  obtain ⟨t, f, acc, ok, rfl, rfl, hown, hbw, hl, hk, hf, hal⟩ := hrel
  have hsz := hbw.size
  by_cases h0 : t.size = 0
  ·have hz : ¬ (0 < (t.size : Int)) := by omega
   have hr1 := Lib.hid (show R.1 = acc by rw [← hl.out]; cases f <;> simp [Sp.rB, h0])
   have hr2 := Lib.hid (show R.2 = ok by rw [← hk.out]; cases f <;> simp [Sp.rB, h0])
   clear hl hk HR h0
   go_wp2
   go_ret2
   exact ⟨_, by rw [hr2.out]; rfl, by rw [hr1.out]; exact hown, hbw⟩
  obtain ⟨g, rfl⟩ : ∃ g, f = g + 1 := ⟨f - 1, by omega⟩
  have hpos : 0 < t.size := by omega
  have hz : (0 < (t.size : Int)) := by omega
  have hn := Lib.hid (refNext_any t wr hpos (by omega))
  have hrr := Sp.refNext_range t hpos
  have hl2 := Lib.hid (show acc ++ (if (Sp.refNext t).2 = 0 then (65533 :: (Sp.rB g (t.extract 1 t.size)).1, false) else ((Sp.refNext t).1 :: (Sp.rB g (t.extract (Sp.refNext t).2.toNat t.size)).1, (Sp.rB g (t.extract (Sp.refNext t).2.toNat t.size)).2)).1 = R.1 by rw [← hl.out, Sp.rB, if_neg h0])
  have hk2 := Lib.hid (show (ok && (if (Sp.refNext t).2 = 0 then (65533 :: (Sp.rB g (t.extract 1 t.size)).1, false) else ((Sp.refNext t).1 :: (Sp.rB g (t.extract (Sp.refNext t).2.toNat t.size)).1, (Sp.rB g (t.extract (Sp.refNext t).2.toNat t.size)).2)).2) = R.2 by rw [← hk.out, Sp.rB, if_neg h0])
  clear hl hk h0
  generalize Sp.refNext t = q at hn hrr hl2 hk2
  obtain ⟨r, n⟩ := q
  simp only at hn hrr hl2 hk2
  by_cases hn0 : n = 0
  ·have hl3 := Lib.hid (show (acc ++ [65533]) ++ (Sp.rB g (t.extract 1 t.size)).1 = R.1 by rw [← hl2.out, if_pos hn0]; simp)
   have hk3 := Lib.hid (show (false && (Sp.rB g (t.extract 1 t.size)).2) = R.2 by rw [← hk2.out, if_pos hn0]; simp)
   have hnb : (n == 0) = true := by simpa using hn0
   clear hl2 hk2 hn0
   go_wp2_with fail
   refine hn.out.mono ?_
   rintro e w1 ⟨rfl, rfl⟩
   clear hn
   go_wp2_with (at_builtin; refine wpList_append_own _ rfl _ _ 23 rfl w.heap.size 3 i0 (.int .i64 0) 1 8 Tryz.underlying23 hi hz0 hz1 hz2 rfl (by decide) _ _ _ rfl (hown.alloc _) ⟨w1.heap.size, 0, none⟩ 1 1 (numk .i64 [65533]) rfl rfl ?c1 ?c2 ?c3 ?c4 ?c5 ?_)
   case c1 =>
    intro j u hj
    match j, hj with
    | 0, hj => simp [numk] at hj; subst hj; simp [Addr.add]
    | (j + 1), hj => simp [numk] at hj
   case c2 => intro u hu; simp [numk] at hu; subst hu; rfl
   case c3 => unfold maxLen; omega
   case c4 => omega
   case c5 => first | omega | (simp; omega)
   intro v' w3 hown' hgrow _
   have hb3 := (hbw.alloc (by omega) _).grown hgrow (by simp; omega) (fun q hq => own_base hown q hq)
   go_wp2
   go_roundw
   case rel =>
    have hx : (t.extract 1 t.size).size = t.size - 1 := by simp
    exact ⟨t.extract 1 t.size, g, acc ++ [65533], false, rfl, rfl, by rw [List.length_append, numk_append]; exact hown', hb3, hl3, hk3, by omega, by simp; omega⟩
   case measure => simp only [strOf]; simp; omega
  ·have hl3 := Lib.hid (show (acc ++ [r]) ++ (Sp.rB g (t.extract n.toNat t.size)).1 = R.1 by rw [← hl2.out, if_neg hn0]; simp)
   have hk3 := Lib.hid (show (ok && (Sp.rB g (t.extract n.toNat t.size)).2) = R.2 by rw [← hk2.out, if_neg hn0])
   have hnb : (n == 0) = false := by simpa using hn0
   clear hl2 hk2
   obtain ⟨m, rfl⟩ : ∃ m : Nat, n = m := ⟨n.toNat, by omega⟩
   simp only [Int.toNat_natCast] at hl3 hk3
   have hm1 : 1 ≤ m := by omega
   have hms : m ≤ t.size := by omega
   clear hn0
   go_wp2_with fail
   refine hn.out.mono ?_
   rintro e w1 ⟨rfl, rfl⟩
   clear hn
   go_wp2_with (at_builtin; refine wpList_append_own _ rfl _ _ 23 rfl w.heap.size 3 i0 (.int .i64 0) 1 8 Tryz.underlying23 hi hz0 hz1 hz2 rfl (by decide) _ _ _ rfl (hown.alloc _) ⟨w1.heap.size, 0, none⟩ 1 1 (numk .i64 [r]) rfl rfl ?c1 ?c2 ?c3 ?c4 ?c5 ?_)
   case c1 =>
    intro j u hj
    match j, hj with
    | 0, hj => simp [numk] at hj; subst hj; simp [Addr.add]
    | (j + 1), hj => simp [numk] at hj
   case c2 => intro u hu; simp [numk] at hu; subst hu; rfl
   case c3 => unfold maxLen; omega
   case c4 => omega
   case c5 => first | omega | (simp; omega)
   intro v' w3 hown' hgrow _
   have hb3 := (hbw.alloc (by omega) _).grown hgrow (by simp; omega) (fun q hq => own_base hown q hq)
   go_wp2
   go_roundw
   case rel =>
    have hx : (t.extract m t.size).size = t.size - m := by simp
    exact ⟨t.extract m t.size, g, acc ++ [r], ok, rfl, rfl, by rw [List.length_append, numk_append]; exact hown', hb3, hl3, hk3, by omega, by simp; omega⟩
   case measure =>
    have hx : (t.extract m t.size).size = t.size - m := by simp
    simp only [strOf]; omega
theorem refRunes_any (s : ByteArray) (w : World) (hs : s.size ≤ 1099511627776) :
  Calls Tryz.prog 232 #[.string s] w fun e w' => ∃ A c, e = .returned (.tuple #[.slice A (Sp.refRunes s).1.length c, .bool (Sp.refRunes s).2]) ∧ RdN .i64 w' A (Sp.refRunes s).1 ∧ Below w.heap.size w w' := by
 refine (refRunes_own s w hs).mono fun e w' ⟨v, he, ho, hb⟩ => ?_
 obtain ⟨A, c, rfl⟩ := own_slice ho
 exact ⟨A, c, he, (own_rdN ho).2, hb⟩
namespace Sp
def refNameS (s : ByteArray) : Bool := (refRunes s).2 && decide (1 ≤ (refRunes s).1.length) && decide ((refRunes s).1.length ≤ 64) && (refRunes s).1.all goodR
end Sp
set_option maxHeartbeats 8000000 in
set_option maxRecDepth 100000 in
theorem refName_any (s : ByteArray) (w : World) (hs : s.size ≤ 1099511627776) :
  Calls Tryz.prog 236 #[.string s] w fun e w' => e = .returned (.bool (Sp.refNameS s)) ∧ Below w.heap.size w w' := by
 have hq := Lib.hid (refRunes_any s w hs)
 have HE := Lib.hid (show Sp.refNameS s = _ by rw [Sp.refNameS])
 generalize Sp.refNameS s = R at HE ⊢
 generalize Sp.refRunes s = q at hq HE
 obtain ⟨l, ok⟩ := q
 simp only at hq HE
 go_enter Tryz.func236, Tryz.ntmps236
 go_wp2_with fail
 refine hq.out.mono ?_
 rintro e w1 ⟨A, c, rfl, ⟨hml, hrd⟩, hb1⟩
 clear hq
 have HC := Lib.hid hrd
 clear hrd
 cases ok with
 | false =>
  have hR : Hid (R = false) := Lib.hid (by rw [HE.out]; simp)
  clear HE
  go_wp2
  go_ret
  exact ⟨by rw [hR.out]; rfl, hb1⟩
 | true =>
  by_cases h1 : (l.length : Int) < 1
  ·have hR : Hid (R = false) := Lib.hid (by rw [HE.out]; simp [show ¬ 1 ≤ l.length by omega])
   clear HE
   go_wp2
   go_ret
   exact ⟨by rw [hR.out]; rfl, hb1⟩
  by_cases h2 : 64 < (l.length : Int)
  ·have hR : Hid (R = false) := Lib.hid (by rw [HE.out]; simp [show ¬ l.length ≤ 64 by omega])
   clear HE
   go_wp2
   go_ret
   exact ⟨by rw [hR.out]; rfl, hb1⟩
  have hR : Hid (R = l.all Sp.goodR) := Lib.hid (by rw [HE.out]; simp [show 1 ≤ l.length by omega, show l.length ≤ 64 by omega])
  have hll : (l.length : Int) ≤ 64 := by omega
  clear HE
  go_wp2
  go_loop [5] (fun n => ∃ k : Nat, k ≤ l.length ∧ n = .int .i64 k ∧ Hid ((l.drop k).all Sp.goodR = l.all Sp.goodR)) (fun n => l.length - (RowKit.intOf n).toNat)
  case atStart => exact ⟨0, Nat.zero_le _, rfl, Lib.hid (by simp)⟩
  case round =>
   obtain ⟨k, hk, rfl, hi⟩ := hrel
   by_cases hlt : k < l.length
   ·obtain ⟨b, o, rfl, hcell⟩ := HC.out (by omega)
    have hck := hcell k hlt
    clear hcell
    have hd : Hid (l.drop k = l.getD k 0 :: l.drop (k + 1)) := Lib.hid (by rw [List.drop_eq_getElem_cons hlt]; simp [List.getD_eq_getElem?_getD, hlt])
    generalize l.getD k 0 = y at hck hd
    have hi2 := Lib.hid (show (Sp.goodR y && (l.drop (k + 1)).all Sp.goodR) = l.all Sp.goodR by rw [← hi.out, hd.out, List.all_cons])
    clear hi hd
    by_cases hg : Sp.goodR y = true
    ·have hi3 := Lib.hid (show (l.drop (k + 1)).all Sp.goodR = l.all Sp.goodR by rw [← hi2.out, hg, Bool.true_and])
     simp only [Sp.goodR, Bool.and_eq_true, decide_eq_true_eq, Bool.not_eq_true', decide_eq_false_iff_not, List.mem_cons, List.not_mem_nil, or_false, not_or] at hg
     obtain ⟨⟨ha, hb⟩, hc1, hc2, hc3, hc4, hc5⟩ := hg
     have e1 : (y == 127) = false := by simpa using hb
     have e2 : (y == 59) = false := by simpa using hc1
     have e3 : (y == 91) = false := by simpa using hc2
     have e4 : (y == 40) = false := by simpa using hc3
     have e5 : (y == 41) = false := by simpa using hc4
     have e6 : (y == 46) = false := by simpa using hc5
     clear hi2 hb hc1 hc2 hc3 hc4 hc5
     go_wp2
     go_round
     case rel => exact ⟨k + 1, by omega, by go_num, hi3⟩
     case measure => simp [RowKit.intOf]; omega
    ·have hR2 : Hid (R = false) := Lib.hid (by rw [hR.out, ← hi2.out]; simp [hg])
     have hbad : y ≤ 32 ∨ y = 127 ∨ y = 59 ∨ y = 91 ∨ y = 40 ∨ y = 41 ∨ y = 46 := by
      simp [Sp.goodR] at hg
      by_cases h32 : 32 < y
      ·by_cases h127 : y = 127
       ·exact .inr (.inl h127)
       ·exact .inr (.inr (by have := hg h32 h127; omega))
      ·exact .inl (by omega)
     clear hi2 hR hg
     rcases hbad with hy | rfl | rfl | rfl | rfl | rfl | rfl
     all_goals
      go_wp2
      go_ret
      exact ⟨by rw [hR2.out]; rfl, hb1⟩
   ·have hR2 : Hid (R = true) := Lib.hid (by rw [hR.out, ← hi.out, List.drop_eq_nil_of_le (by omega)]; rfl)
    clear hi hR
    go_wp2
    go_ret
    exact ⟨by rw [hR2.out]; rfl, hb1⟩
namespace Sp
def B (l : List UInt8) : ByteArray := ⟨l.toArray⟩
theorem B_size (l : List UInt8) : (B l).size = l.length := by simp [B, ByteArray.size]
abbrev Ty := Int × ByteArray
def tyV (t : Ty) : Value := .agg #[.int .i64 t.1, .string t.2]
def t0 : Ty := (0, ⟨#[]⟩)
def rightS (t : Ty) : Bool := decide (0 ≤ t.1) && decide (t.1 ≤ 4) && (decide (t.2.size = 0) || nameS t.2)
end Sp
end Go.Proofs.YtjjlcoimaihdoaaGreatDoor
