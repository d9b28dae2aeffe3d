/-
  Texts of the proof, joined.
-/
import Derived.Test.YtjjlcoimaihdoaaGreatDoorJh5
import Derived.Laws.Cover4
import Derived.Lib.AppendStr
import Derived.Lib.ConvBytes
import Derived.Test.YtjjlcoimaihdoaaGreatDoorJh4
set_option linter.unusedVariables false
set_option linter.unusedSimpArgs false
namespace Go.Proofs.YtjjlcoimaihdoaaGreatDoor.Sp
open Go.Lib
theorem unit3 (s : ByteArray) : (refUnit s = -1 ∧ ((unitS s).2 ≠ 3)) ∨ (0 ≤ refUnit s ∧ unitS s = (refUnit s, 3)) := by
 have h0 := bt_range s 0; have h1 := bt_range s 1; have h2 := bt_range s 2
 unfold refUnit unitS unitF tx tl
 by_cases hs : s.size < 3
 ·rw [if_pos (.inl hs)]
  refine .inl ⟨rfl, ?_⟩
  repeat' split
  all_goals simp only []
  all_goals simp_all
  all_goals omega
 have l1 : 1 < s.size := by omega
 have l2 : 2 < s.size := by omega
 simp only [if_pos l1, if_pos l2, decide_eq_true l1, decide_eq_true l2, Bool.true_and, decide_eq_true_eq]
 generalize bt s 0 = a at *
 generalize bt s 1 = b at *
 generalize bt s 2 = c at *
 by_cases g : 224 ≤ a ∧ a < 240 ∧ 128 ≤ b ∧ b < 192 ∧ 128 ≤ c ∧ c < 192
 ·obtain ⟨g1, g2, g3, g4, g5, g6⟩ := g
  rw [if_neg (by omega), if_neg (show ¬ (0 < a ∧ a < 128) by omega), if_neg (show ¬ ((192 ≤ a ∧ a < 224) ∧ 128 ≤ b ∧ b < 192) by omega), if_pos (show (224 ≤ a ∧ a < 240) ∧ (128 ≤ b ∧ b < 192) ∧ 128 ≤ c ∧ c < 192 by omega)]
  by_cases q : (a - 224) * 4096 + (b - 128) * 64 + c - 128 < 2048
  ·rw [if_pos q, if_neg (show ¬ 2048 ≤ a % 16 * 4096 + b % 64 * 64 + c % 64 by omega)]
   exact .inl ⟨rfl, by decide⟩
  ·rw [if_neg q, if_pos (show 2048 ≤ a % 16 * 4096 + b % 64 * 64 + c % 64 by omega)]
   refine .inr ⟨by omega, ?_⟩
   refine Prod.ext ?_ rfl
   simp only []
   omega
 ·rw [if_pos (by omega)]
  refine .inl ⟨rfl, ?_⟩
  rw [if_neg (show ¬ ((224 ≤ a ∧ a < 240) ∧ (128 ≤ b ∧ b < 192) ∧ 128 ≤ c ∧ c < 192) by omega)]
  repeat' split
  all_goals simp
theorem three_or (p q : Prop) [Decidable p] [Decidable q] (X : Int) (h : (if p then if q then (X, 3) else (0, 0) else ((0, 0) : Int × Int)).2 ≠ 3) : (if p then if q then (X, 3) else (0, 0) else ((0, 0) : Int × Int)) = (0, 0) := by
 by_cases c : p
 ·rw [if_pos c] at h ⊢
  by_cases d : q
  ·rw [if_pos d] at h; exact absurd rfl h
  ·rw [if_neg d]
 ·rw [if_neg c]
theorem unit12 (s : ByteArray) (h : (unitS s).2 ≠ 3) :
  unitS s =
   if 0 < bt s 0 ∧ bt s 0 < 128 then (bt s 0, 1)
   else if 192 ≤ bt s 0 ∧ bt s 0 < 224 ∧ 1 < s.size ∧ 128 ≤ bt s 1 ∧ bt s 1 < 192 ∧ ¬ (1 ≤ (bt s 0 - 192) * 64 + bt s 1 - 128 ∧ (bt s 0 - 192) * 64 + bt s 1 - 128 < 128) then ((bt s 0 - 192) * 64 + bt s 1 - 128, 2)
   else (0, 0) := by
 have h0 := bt_range s 0; have h1 := bt_range s 1; have h2 := bt_range s 2
 revert h
 unfold unitS unitF tx tl
 simp only [Bool.and_eq_true, decide_eq_true_eq]
 by_cases c1 : 0 < bt s 0 ∧ bt s 0 < 128
 ·rw [if_pos c1, if_pos c1]; intro _; rfl
 rw [if_neg c1, if_neg c1]
 by_cases c2 : (192 ≤ bt s 0 ∧ bt s 0 < 224) ∧ 1 < s.size ∧ 128 ≤ bt s 1 ∧ bt s 1 < 192
 ·rw [if_pos c2, if_pos c2.2.1]
  have e : bt s 0 % 32 * 64 + bt s 1 % 64 = (bt s 0 - 192) * 64 + bt s 1 - 128 := by omega
  rw [e]
  by_cases q : (bt s 0 - 192) * 64 + bt s 1 - 128 = 0 ∨ 128 ≤ (bt s 0 - 192) * 64 + bt s 1 - 128
  ·rw [if_pos q, if_pos (by omega)]; intro _; rfl
  ·rw [if_neg q, if_neg (by omega)]; intro _; rfl
 ·rw [if_neg c2, if_neg (show ¬ (192 ≤ bt s 0 ∧ bt s 0 < 224 ∧ 1 < s.size ∧ 128 ≤ bt s 1 ∧ bt s 1 < 192 ∧ ¬ (1 ≤ (bt s 0 - 192) * 64 + bt s 1 - 128 ∧ (bt s 0 - 192) * 64 + bt s 1 - 128 < 128)) by omega)]
  exact three_or _ _ _
def decStep (b : ByteArray) : Option (Int × Nat) :=
 if (unitS b).2 = 0 ∨ (56320 ≤ (unitS b).1 ∧ (unitS b).1 < 57344) then none
 else if 55296 ≤ (unitS b).1 ∧ (unitS b).1 < 56320 then
  if b.size < 6 then none
  else if (unitS (b.extract 3 b.size)).2 = 0 ∨ (unitS (b.extract 3 b.size)).1 < 56320 ∨ 57344 ≤ (unitS (b.extract 3 b.size)).1 then none
  else some (65536 + ((unitS b).1 - 55296) * 1024 + ((unitS (b.extract 3 b.size)).1 - 56320), 6)
 else some ((unitS b).1, (unitS b).2.toNat)
theorem decG_step (f : Nat) (b : ByteArray) (acc : List UInt8) (h : b.size ≠ 0) : decG (f + 1) b acc = match decStep b with | none => none | some q => decG f (b.extract q.2 b.size) (acc ++ encodeRune q.1) := by
 rw [decG, if_neg h]
 unfold decStep
 by_cases c1 : (unitS b).2 = 0 ∨ (56320 ≤ (unitS b).1 ∧ (unitS b).1 < 57344)
 ·rw [if_pos c1, if_pos c1]
 rw [if_neg c1, if_neg c1]
 by_cases c2 : 55296 ≤ (unitS b).1 ∧ (unitS b).1 < 56320
 ·rw [if_pos c2, if_pos c2]
  by_cases c3 : b.size < 6
  ·rw [if_pos c3, if_pos c3]
  rw [if_neg c3, if_neg c3]
  by_cases c4 : (unitS (b.extract 3 b.size)).2 = 0 ∨ (unitS (b.extract 3 b.size)).1 < 56320 ∨ 57344 ≤ (unitS (b.extract 3 b.size)).1
  ·rw [if_pos c4, if_pos c4]
  ·rw [if_neg c4, if_neg c4]
 ·rw [if_neg c2, if_neg c2]
theorem unit_low (s : ByteArray) (h : 2048 ≤ (unitS s).1) : unitS s = (refUnit s, 3) ∧ 0 ≤ refUnit s := by
 rcases unit3 s with ⟨h1, h2⟩ | ⟨h1, h2⟩
 ·exfalso
  rw [unit12 s h2] at h
  have h0 := bt_range s 0; have h1 := bt_range s 1
  split at h
  ·simp only at h; omega
  ·split at h
   ·simp only at h; omega
   ·simp at h
 ·exact ⟨h2, h1⟩
theorem step_eq (b : ByteArray) (h : 0 < b.size) : decStep b = if (refStep b).1 < 0 then none else some (refStep b) := by
 have h0 := bt_range b 0; have h1 := bt_range b 1
 have hx : (b.extract 3 b.size).size = b.size - 3 := by simp
 have hur := refUnit_range b
 rcases unit3 b with ⟨hu, hn⟩ | ⟨hu, hn⟩
 ·-- one or two bytes, or none
  have hU := unit12 b hn
  unfold decStep refStep
  rw [hu, if_neg (show ¬ (55296 ≤ (-1 : Int) ∧ (-1 : Int) < 56320) by omega), if_neg (show ¬ (0 ≤ (-1 : Int) ∧ ((-1 : Int) < 56320 ∨ 57344 ≤ (-1 : Int))) by omega)]
  by_cases c1 : 0 < bt b 0 ∧ bt b 0 < 128
  ·rw [if_pos c1] at hU
   rw [hU]
   simp only []
   rw [if_pos (show 1 ≤ bt b 0 ∧ bt b 0 < 128 by omega), if_neg (show ¬ ((1 : Int) = 0 ∨ (56320 ≤ bt b 0 ∧ bt b 0 < 57344)) by omega), if_neg (show ¬ (55296 ≤ bt b 0 ∧ bt b 0 < 56320) by omega), if_neg (show ¬ ((bt b 0, 1) : Int × Nat).1 < 0 by simp only []; omega)]
   rfl
  rw [if_neg c1] at hU
  rw [if_neg (show ¬ (1 ≤ bt b 0 ∧ bt b 0 < 128) by omega)]
  by_cases c2 : 192 ≤ bt b 0 ∧ bt b 0 < 224
  ·rw [if_pos c2]
   by_cases c3 : 1 < b.size ∧ 128 ≤ bt b 1 ∧ bt b 1 < 192
   ·rw [if_pos c3]
    by_cases c4 : 1 ≤ (bt b 0 - 192) * 64 + bt b 1 - 128 ∧ (bt b 0 - 192) * 64 + bt b 1 - 128 < 128
    ·rw [if_neg (fun q => q.2.2.2.2.2 c4)] at hU
     rw [hU, if_pos c4, if_pos (.inl rfl), if_pos (by decide)]
    ·rw [if_pos ⟨c2.1, c2.2, c3.1, c3.2.1, c3.2.2, c4⟩] at hU
     rw [hU, if_neg c4]
     simp only []
     have hv : 0 ≤ (bt b 0 - 192) * 64 + bt b 1 - 128 ∧ (bt b 0 - 192) * 64 + bt b 1 - 128 < 2048 := by omega
     generalize (bt b 0 - 192) * 64 + bt b 1 - 128 = v at *
     rw [if_neg (show ¬ ((2 : Int) = 0 ∨ (56320 ≤ v ∧ v < 57344)) by omega), if_neg (show ¬ (55296 ≤ v ∧ v < 56320) by omega), if_neg (show ¬ ((v, 2) : Int × Nat).1 < 0 by simp only []; omega)]
     rfl
   ·rw [if_neg (fun q => c3 ⟨q.2.2.1, q.2.2.2.1, q.2.2.2.2.1⟩)] at hU
    rw [hU, if_neg c3, if_pos (.inl rfl), if_pos (by decide)]
  ·rw [if_neg (fun q => c2 ⟨q.1, q.2.1⟩)] at hU
   rw [hU, if_neg c2, if_pos (.inl rfl), if_pos (by decide)]
 ·-- three bytes
  have hc := hur.2.2 hu
  unfold decStep refStep
  rw [hn]
  simp only []
  rw [if_neg (show ¬ (1 ≤ bt b 0 ∧ bt b 0 < 128) by omega)]
  have hc2 : 224 ≤ bt b 0 := hc.2
  rw [if_neg (show ¬ (192 ≤ bt b 0 ∧ bt b 0 < 224) by omega)]
  by_cases c1 : 55296 ≤ refUnit b ∧ refUnit b < 56320
  ·rw [if_neg (by omega), if_pos c1, if_pos c1]
   have hvr := refUnit_range (b.extract 3 b.size)
   by_cases hs : b.size < 6
   ·rw [if_pos hs]
    have : ¬ (56320 ≤ refUnit (b.extract 3 b.size) ∧ refUnit (b.extract 3 b.size) < 57344) := by
     intro hv
     have := (hvr.2.2 (by omega)).1
     omega
    rw [if_neg this, if_pos (by simp)]
   ·rw [if_neg hs]
    by_cases hv : 56320 ≤ refUnit (b.extract 3 b.size) ∧ refUnit (b.extract 3 b.size) < 57344
    ·rcases unit3 (b.extract 3 b.size) with ⟨q1, _⟩ | ⟨q1, q2⟩
     ·omega
     ·rw [q2]
      simp only []
      generalize refUnit (b.extract 3 b.size) = v at *
      rw [if_neg (show ¬ ((3 : Int) = 0 ∨ v < 56320 ∨ 57344 ≤ v) by omega), if_pos hv, if_neg (show ¬ ((65536 + (refUnit b - 55296) * 1024 + v - 56320, 6) : Int × Nat).1 < 0 by simp only; omega)]
      simp only [Option.some.injEq, Prod.mk.injEq, and_true]
      omega
    ·rw [if_neg hv, if_pos (show ((-1, 1) : Int × Nat).1 < 0 by decide)]
     refine if_pos ?_
     by_cases g : 2048 ≤ (unitS (b.extract 3 b.size)).1
     ·have := (unit_low _ g).1
      rw [this]
      simp only []
      omega
     ·exact .inr (.inl (by omega))
  ·rw [if_neg c1]
   by_cases c2 : 0 ≤ refUnit b ∧ (refUnit b < 56320 ∨ 57344 ≤ refUnit b)
   ·rw [if_neg (show ¬ ((3 : Int) = 0 ∨ (56320 ≤ refUnit b ∧ refUnit b < 57344)) by omega), if_neg c1, if_pos c2, if_neg (show ¬ ((refUnit b, 3) : Int × Nat).1 < 0 by simp only; omega)]
    rfl
   ·rw [if_pos (by omega), if_neg c1, if_neg c2, if_pos (show ((-1, 1) : Int × Nat).1 < 0 by decide)]
def utfB (l : List Int) : List UInt8 := l.flatMap encodeRune
theorem decG_ref : ∀ f (b : ByteArray) (l : List Int), decG f b (utfB l) = (refDecG f b l).map utfB
 | 0, _, _ => rfl
 | f + 1, b, l => by
  by_cases h0 : b.size = 0
  ·rw [decG, if_pos h0, refDecG, if_pos h0]; rfl
  rw [decG_step f b _ h0, step_eq b (by omega), refDecG, if_neg h0]
  by_cases hr : (refStep b).1 < 0
  ·rw [if_pos hr, if_pos hr]; rfl
  ·rw [if_neg hr, if_neg hr]
   simp only []
   have := decG_ref f (b.extract (refStep b).2 b.size) (l ++ [(refStep b).1])
   rw [← this]
   congr 1
   simp [utfB]
theorem utfB_eq (l : List Int) : (⟨(utfB l).toArray⟩ : ByteArray) = Go.strOfNums (utfL l) := by
 unfold Go.strOfNums utfB utfL
 congr 2
 rw [List.map_flatMap]
 rfl
theorem refStep_scal (b : ByteArray) (h : 0 ≤ (refStep b).1) : Scal (refStep b).1 := by
 have h0 := bt_range b 0; have h1 := bt_range b 1
 have hu := refUnit_range b
 unfold refStep at h ⊢
 by_cases c1 : 1 ≤ bt b 0 ∧ bt b 0 < 128
 ·rw [if_pos c1]; left; constructor <;> simp only [] <;> omega
 rw [if_neg c1] at h ⊢
 by_cases c2 : 192 ≤ bt b 0 ∧ bt b 0 < 224
 ·rw [if_pos c2] at h ⊢
  by_cases c3 : 1 < b.size ∧ 128 ≤ bt b 1 ∧ bt b 1 < 192
  ·rw [if_pos c3] at h ⊢
   by_cases c4 : 1 ≤ (bt b 0 - 192) * 64 + bt b 1 - 128 ∧ (bt b 0 - 192) * 64 + bt b 1 - 128 < 128
   ·rw [if_pos c4] at h; simp at h
   ·rw [if_neg c4]; left; constructor <;> simp only [] <;> omega
  ·rw [if_neg c3] at h; simp at h
 rw [if_neg c2] at h ⊢
 by_cases c3 : 55296 ≤ refUnit b ∧ refUnit b < 56320
 ·rw [if_pos c3] at h ⊢
  by_cases c4 : 56320 ≤ refUnit (b.extract 3 b.size) ∧ refUnit (b.extract 3 b.size) < 57344
  ·rw [if_pos c4]; right; constructor <;> simp only [] <;> omega
  ·rw [if_neg c4] at h; simp at h
 rw [if_neg c3] at h ⊢
 by_cases c4 : 0 ≤ refUnit b ∧ (refUnit b < 56320 ∨ 57344 ≤ refUnit b)
 ·rw [if_pos c4]
  unfold Scal
  simp only []
  omega
 ·rw [if_neg c4] at h; simp at h
theorem refDecG_scal : ∀ f (b : ByteArray) (acc l : List Int), (∀ r ∈ acc, Scal r) → refDecG f b acc = some l → ∀ r ∈ l, Scal r
 | 0, _, _, _, _, h => by simp [refDecG] at h
 | f + 1, b, acc, l, ha, h => by
  rw [refDecG] at h
  by_cases h0 : b.size = 0
  ·rw [if_pos h0] at h
   injection h with h
   subst h
   exact ha
  rw [if_neg h0] at h
  by_cases h1 : (refStep b).1 < 0
  ·rw [if_pos h1] at h
   exact absurd h (by simp)
  ·rw [if_neg h1] at h
   refine refDecG_scal f _ _ l ?_ h
   intro r hr
   rcases List.mem_append.1 hr with hr | hr
   ·exact ha r hr
   ·rw [List.mem_singleton.1 hr]
    exact refStep_scal b (by omega)
theorem refMakeS_all (l : List Int) (h : ∀ r ∈ l, Scal r) : refMakeS l = (Go.strOfNums (utfL l), true) := by
 rw [refMakeS, if_pos]
 rw [List.all_eq_true]
 intro r hr
 exact decide_eq_true (h r hr)
theorem decS_eq (b : ByteArray) : decS b = refDecS b := by
 unfold decS refDecS
 by_cases h : 65535 < b.size
 ·rw [if_pos h, if_pos h]
 ·rw [if_neg h, if_neg h, show ([] : List UInt8) = utfB [] from rfl, decG_ref]
  cases hd : refDecG (b.size + 1) b [] with
  | none => rfl
  | some l =>
   have hs := refDecG_scal _ _ _ _ (by simp) hd
   simp only [Option.map_some]
   rw [refMakeS_all l hs, utfB_eq]
def By (L : List Int) : Prop := ∀ x ∈ L, 0 ≤ x ∧ x ≤ 255
theorem By.app {L M : List Int} (h : By L) (k : By M) : By (L ++ M) := fun x hx => (List.mem_append.1 hx).elim (h x) (k x)
theorem By.drop {L : List Int} (h : By L) (n : Nat) : By (L.drop n) := fun x hx => h x (List.mem_of_mem_drop hx)
theorem By.take {L : List Int} (h : By L) (n : Nat) : By (L.take n) := fun x hx => h x (List.mem_of_mem_take hx)
theorem by_enc (r : Int) : By (encodeRuneZ r) := fun x hx => by have := encodeRuneZ_byte r x hx; omega
theorem by_utfL (l : List Int) : By (utfL l) := fun x hx => by
 obtain ⟨r, _, h⟩ := List.mem_flatMap.1 hx
 exact by_enc r x h
theorem size_nums (L : List Int) : (Go.strOfNums L).size = L.length := Go.strOfNums_size L
theorem bt_nums (L : List Int) (h : By L) (k : Nat) : bt (Go.strOfNums L) k = L.getD k 0 := by
 unfold bt
 rw [List.getD_eq_getElem?_getD]
 by_cases hk : k < L.length
 ·rw [dif_pos (by rw [size_nums]; exact hk), List.getElem?_eq_getElem hk]
  have hx := h L[k] (List.getElem_mem hk)
  have e : (Go.strOfNums L)[k]'(by rw [size_nums]; exact hk) = UInt8.ofNat (L[k]).toNat := by
   have : ∀ (M : List UInt8) (hM : k < (⟨M.toArray⟩ : ByteArray).size) (hM2 : k < M.length), (⟨M.toArray⟩ : ByteArray)[k]'hM = M[k]'hM2 := fun M _ _ => rfl
   refine (this _ _ (by simpa using hk)).trans ?_
   simp
  rw [e]
  have : (L[k]).toNat < 256 := by omega
  have e2 : (UInt8.ofNat (L[k]).toNat).toNat = (L[k]).toNat := by simp [UInt8.toNat_ofNat, Nat.mod_eq_of_lt this]
  rw [e2]
  simp only [Option.getD_some]
  omega
 ·rw [dif_neg (by rw [size_nums]; exact hk), List.getElem?_eq_none (by omega)]
  rfl
theorem nb_nums (L : List Int) (h : By L) (k : Nat) : (nb (Go.strOfNums L) k : Int) = L.getD k 0 := by rw [← bt_nb, bt_nums L h]
theorem extract_nums (L : List Int) (k : Nat) : (Go.strOfNums L).extract k (Go.strOfNums L).size = Go.strOfNums (L.drop k) := by
 have h : ∀ s : ByteArray, s.extract k s.size = ⟨(s.data.toList.drop k).toArray⟩ := fun s => by
  have := Lib.extract_to_end s k
  rw [← this]
 rw [h, Go.strOfNums_data]
 unfold Go.strOfNums
 rw [List.map_drop]
def nums (s : ByteArray) : List Int := s.data.toList.map fun b => (b.toNat : Int)
theorem by_nums (s : ByteArray) : By (nums s) := fun x hx => by
 obtain ⟨b, _, rfl⟩ := List.mem_map.1 hx
 have := b.toNat_lt
 omega
theorem nums_str (s : ByteArray) : Go.strOfNums (nums s) = s := by
 unfold Go.strOfNums nums
 rw [List.map_map]
 have : ((fun n : Int => UInt8.ofNat n.toNat) ∘ fun b : UInt8 => (b.toNat : Int)) = id := by
  funext b
  simp [Function.comp]
 rw [this, List.map_id]
theorem str_nums (L : List Int) (h : By L) : nums (Go.strOfNums L) = L := by
 unfold nums
 rw [Go.strOfNums_data, List.map_map]
 rw [show L = L.map id by simp]
 simp only [List.map_map]
 apply List.map_congr_left
 intro x hx
 have := h x hx
 have h2 : x.toNat < 256 := by omega
 simp only [Function.comp, id]
 have e2 : (UInt8.ofNat x.toNat).toNat = x.toNat := by simp [UInt8.toNat_ofNat, Nat.mod_eq_of_lt h2]
 rw [e2]
 omega
theorem refNext_list (L : List Int) (h : By L) (h0 : 0 < L.length) : refNext (Go.strOfNums L) =
   if L.getD 0 0 < 128 then (L.getD 0 0, 1)
   else if 194 ≤ L.getD 0 0 ∧ L.getD 0 0 < 224 ∧ L.getD 1 0 / 64 = 2 then (L.getD 0 0 % 32 * 64 + L.getD 1 0 % 64, 2)
   else if 224 ≤ L.getD 0 0 ∧ L.getD 0 0 < 240 ∧ L.getD 1 0 / 64 = 2 ∧ L.getD 2 0 / 64 = 2 ∧ 2048 ≤ L.getD 0 0 % 16 * 4096 + L.getD 1 0 % 64 * 64 + L.getD 2 0 % 64 ∧ ¬ (55296 ≤ L.getD 0 0 % 16 * 4096 + L.getD 1 0 % 64 * 64 + L.getD 2 0 % 64 ∧ L.getD 0 0 % 16 * 4096 + L.getD 1 0 % 64 * 64 + L.getD 2 0 % 64 < 57344) then (L.getD 0 0 % 16 * 4096 + L.getD 1 0 % 64 * 64 + L.getD 2 0 % 64, 3)
   else if 240 ≤ L.getD 0 0 ∧ L.getD 0 0 < 245 ∧ L.getD 1 0 / 64 = 2 ∧ L.getD 2 0 / 64 = 2 ∧ L.getD 3 0 / 64 = 2 ∧ 65536 ≤ L.getD 0 0 % 8 * 262144 + L.getD 1 0 % 64 * 4096 + L.getD 2 0 % 64 * 64 + L.getD 3 0 % 64 ∧ L.getD 0 0 % 8 * 262144 + L.getD 1 0 % 64 * 4096 + L.getD 2 0 % 64 * 64 + L.getD 3 0 % 64 ≤ 1114111 then (L.getD 0 0 % 8 * 262144 + L.getD 1 0 % 64 * 4096 + L.getD 2 0 % 64 * 64 + L.getD 3 0 % 64, 4)
   else (0, 0) := by
 rw [refNext_nb _ (by rw [size_nums]; exact h0)]
 have e0 := nb_nums L h 0; have e1 := nb_nums L h 1; have e2 := nb_nums L h 2; have e3 := nb_nums L h 3
 rw [← e0, ← e1, ← e2, ← e3]
 clear e0 e1 e2 e3
 generalize nb (Go.strOfNums L) 0 = a
 generalize nb (Go.strOfNums L) 1 = b
 generalize nb (Go.strOfNums L) 2 = c
 generalize nb (Go.strOfNums L) 3 = d
 refine ite_congr (by simp only [eq_iff_iff]; omega) (fun _ => rfl) fun _ => ?_
 refine ite_congr (by simp only [eq_iff_iff]; omega) (fun _ => by simp only [Prod.mk.injEq, and_true]; omega) fun _ => ?_
 refine ite_congr (by simp only [eq_iff_iff]; omega) (fun _ => by simp only [Prod.mk.injEq, and_true]; omega) fun _ => ?_
 refine ite_congr (by simp only [eq_iff_iff]; omega) (fun _ => by simp only [Prod.mk.injEq, and_true]; omega) fun _ => rfl
theorem refNext_enc (r : Int) (M : List Int) (h : Scal r) (hM : By M) : refNext (Go.strOfNums (encodeRuneZ r ++ M)) = (r, ((encodeRuneZ r).length : Int)) := by
 have hl := encodeRuneZ_length r
 rw [refNext_list _ ((by_enc r).app hM) (by rw [List.length_append]; omega)]
 unfold Scal at h
 by_cases c1 : r ≤ 127
 ·rw [encodeRuneZ_one (by omega) c1]
  simp only [List.cons_append, List.nil_append, List.getD_cons_zero, List.length_cons, List.length_nil]
  rw [if_pos (by omega)]
  rfl
 by_cases c2 : r ≤ 2047
 ·rw [encodeRuneZ_two (by omega) c2]
  simp only [List.cons_append, List.nil_append, List.getD_cons_zero, List.getD_cons_succ, List.length_cons, List.length_nil]
  rw [if_neg (by omega), if_pos (by omega)]
  refine Prod.ext ?_ rfl
  simp only []
  omega
 by_cases c3 : r ≤ 65535
 ·rw [encodeRuneZ_three (by omega)]
  simp only [List.cons_append, List.nil_append, List.getD_cons_zero, List.getD_cons_succ, List.length_cons, List.length_nil]
  rw [if_neg (by omega), if_neg (by omega), if_pos (by omega)]
  refine Prod.ext ?_ rfl
  simp only []
  omega
 ·rw [encodeRuneZ_four (by omega) (by omega)]
  simp only [List.cons_append, List.nil_append, List.getD_cons_zero, List.getD_cons_succ, List.length_cons, List.length_nil]
  rw [if_neg (by omega), if_neg (by omega), if_neg (by omega), if_pos (by omega)]
  refine Prod.ext ?_ rfl
  simp only []
  omega
theorem list_head (L : List Int) (n : Nat) (hn : n ≤ L.length) : L = (List.range n).map (fun k => L.getD k 0) ++ L.drop n := by
 conv => lhs; rw [← List.take_append_drop n L]
 congr 1
 apply List.ext_getElem
 ·simp [hn]
 ·intro i h1 h2
  have : i < L.length := by simp at h1; omega
  simp [List.getD_eq_getElem?_getD, this]
theorem getD_out (L : List Int) (k : Nat) (h : L.length ≤ k) : L.getD k 0 = 0 := by simp [List.getD_eq_getElem?_getD, h]
theorem rB_utf : ∀ f (l : List Int), (∀ r ∈ l, Scal r) → (utfL l).length ≤ f → rB f (Go.strOfNums (utfL l)) = (l, true)
 | 0, l, h, hf => by
  cases l with
  | nil => rfl
  | cons r l =>
   exfalso
   have := encodeRuneZ_length r
   simp [utfL] at hf
   rw [hf.1] at this
   simp at this
 | f + 1, l, h, hf => by
  cases l with
  | nil => rw [rB, if_pos (by rfl)]
  | cons r l =>
   have hl := encodeRuneZ_length r
   have e : utfL (r :: l) = encodeRuneZ r ++ utfL l := by simp [utfL]
   rw [e, List.length_append] at hf
   rw [e, rB, if_neg (by rw [size_nums, List.length_append]; omega), refNext_enc r _ (h r (by simp)) (by_utfL l)]
   simp only [Int.toNat_natCast]
   rw [if_neg (by omega), extract_nums, List.drop_left, rB_utf f l (fun x hx => h x (by simp [hx])) (by omega)]
theorem refRunes_utf (l : List Int) (h : ∀ r ∈ l, Scal r) : refRunes (Go.strOfNums (utfL l)) = (l, true) := by
 rw [refRunes]
 exact rB_utf _ l h (by rw [size_nums]; exact Nat.le_refl _)
theorem runes_utf (l : List Int) (h : ∀ r ∈ l, Scal r) : runes (Go.strOfNums (utfL l)) = l := by
 have := refRunes_utf l h
 rw [refRunes_eq] at this
 exact (Prod.ext_iff.1 this).1
theorem valid_utf (l : List Int) (h : ∀ r ∈ l, Scal r) : validD (Go.strOfNums (utfL l)).data.toList = true := by
 have := refRunes_utf l h
 rw [refRunes_eq] at this
 exact (Prod.ext_iff.1 this).2
end Go.Proofs.YtjjlcoimaihdoaaGreatDoor.Sp
namespace Go.Proofs.YtjjlcoimaihdoaaGreatDoor
open Go.RowKit Go.Lib
structure Em (w : World) (X : Array Value) (W : World) (v : Value) (xs : List Int) : Prop where
 own : W.ownsRow (w.heap.size + 1) 5 1 v xs.length (numc xs)
 bel : Below w.heap.size w W
 box : W.heap[w.heap.size]? = some (.cells X 26 (0, 0))
def Tm (W : World) (v : Value) (tb : Nat) (o : Obj) : Prop := W.heap[tb]? = some o ∧ v.ownBlock ≠ some tb
section
variable {w W W' : World} {X : Array Value} {v v' : Value} {xs : List Int}
theorem Em.lt (h : Em w X W v xs) : w.heap.size < W.heap.size := blk_lt h.box
theorem Em.alloc (h : Em w X W v xs) (o : Obj) : Em w X (W.alloc o) v xs := ⟨h.own.alloc _, h.bel.alloc (by have := h.lt; omega) o, blk_old h.box⟩
theorem Em.drew (h : Em w X W v xs) : Em w X W.drew v xs := ⟨h.own, h.bel.drew, h.box⟩
theorem Em.onto (h : Em w X W v xs) (o : Onto v v' W W') {ys : List Int} (hy : W'.ownsRow (w.heap.size + 1) 5 1 v' ys.length (numc ys)) : Em w X W' v' ys :=
 ⟨hy, h.bel.trans (o.below (by have := h.lt; omega) (fun k hk => by have := own_base h.own k hk; omega)), o.keeps.obj h.box (fun q => by have := own_base h.own _ q; omega)⟩
theorem Em.max (h : Em w X W v xs) : xs.length ≤ 9223372036854775807 := own_max h.own
theorem Tm.new (h : Em w X W v xs) (o : Obj) : Tm (W.alloc o) v W.heap.size o := ⟨blk_new W o, fun q => by have := h.own.lt _ q; omega⟩
theorem Tm.alloc {tb : Nat} {o : Obj} (h : Tm W v tb o) (p : Obj) : Tm (W.alloc p) v tb o := ⟨blk_old h.1, h.2⟩
theorem Tm.drew {tb : Nat} {o : Obj} (h : Tm W v tb o) : Tm W.drew v tb o := h
theorem Tm.onto {tb : Nat} {o : Obj} (h : Tm W v tb o) (k : Onto v v' W W') : Tm W' v' tb o := ⟨k.keeps.obj h.1 h.2, fun q => (k.at_ _ q).elim h.2 (fun r => by have := blk_lt h.1; omega)⟩
end
theorem rdN_blk {W : World} {a : Nat} {C : Array Value} {T : TypeId} (l : List Int) (h : W.heap[a]? = some (.cells C T (0, 0))) (hC : C.toList = l.map (Value.int .i64)) (hl : l.length ≤ 9223372036854775807) : RdN .i64 W (some ⟨a, 0, none⟩) l := by
 refine ⟨hl, fun _ => ⟨a, 0, rfl, fun j hj => ?_⟩⟩
 rw [Nat.zero_add]
 refine (blk_cell h j _ ?_).1
 rw [← Array.getElem?_toList, hC, List.getElem?_map, List.getElem?_eq_getElem hj, Option.map_some, List.getD_eq_getElem?_getD, List.getElem?_eq_getElem hj]
 rfl
theorem put_em {w W : World} {X : Array Value} {v : Value} {xs : List Int} (h : Em w X W v xs) (n : Int) (m : Nat) (hm : m ≤ 8) (hm0 : 0 < m) (hlen : xs.length ≤ 1000000000) :
  Calls Tryz.prog 160 #[v, .int .i64 n, .int .i64 m] W fun e W' => ∃ v', e = .returned v' ∧ Em w X W' v' (xs ++ Sp.putL n m) ∧ Onto v v' W W' := by
 refine (put_any _ v xs n m W (.inl h.own) hm hlen (by have := h.lt; omega)).mono ?_
 rintro e W' ⟨v', rfl, ho, hO⟩
 exact ⟨v', rfl, h.onto hO (ho hm0), hO⟩
theorem puts_blk {w W : World} {X : Array Value} {v : Value} {xs : List Int} (h : Em w X W v xs) {a : Nat} {C : Array Value} {T : TypeId} (ht : Tm W v a (.cells C T (0, 0))) (l : List Int) (hC : C.toList = l.map (Value.int .i64)) (n c : Nat) (hn : n = l.length) (hlen : xs.length + 2 * l.length ≤ 1000000000) :
  Calls Tryz.prog 159 #[v, .slice (some ⟨a, 0, none⟩) n c] W fun e W' => ∃ v', e = .returned v' ∧ Em w X W' v' (xs ++ Sp.putsL l) ∧ Onto v v' W W' := by
 subst hn
 refine (puts_any _ v xs _ c l W (.inl h.own) (rdN_blk l ht.1 hC (by omega)) (fun b o e _ => by injection e with e; injection e with e _; subst e; exact ht.2) hlen (by have := h.lt; omega)).mono ?_
 rintro e W' ⟨v', rfl, ho, hO⟩
 exact ⟨v', rfl, h.onto hO (ho (.inl h.own)), hO⟩
theorem puts_first {w W : World} {X : Array Value} {v : Value} {xs : List Int} (h : RowG W (w.heap.size + 1) v xs.length (numc xs)) (hb : Below w.heap.size w W) (hx : W.heap[w.heap.size]? = some (.cells X 26 (0, 0))) {a : Nat} {C : Array Value} {T : TypeId} (ht : Tm W v a (.cells C T (0, 0))) (l : List Int) (h0 : 0 < l.length) (hC : C.toList = l.map (Value.int .i64)) (n c : Nat) (hn : n = l.length) (hlen : xs.length + 2 * l.length ≤ 1000000000) :
  Calls Tryz.prog 159 #[v, .slice (some ⟨a, 0, none⟩) n c] W fun e W' => ∃ v', e = .returned v' ∧ Em w X W' v' (xs ++ Sp.putsL l) ∧ Onto v v' W W' := by
 subst hn
 have hlt := blk_lt hx
 refine (puts_any _ v xs _ c l W h (rdN_blk l ht.1 hC (by omega)) (fun b o e _ => by injection e with e; injection e with e _; subst e; exact ht.2) hlen (by omega)).mono ?_
 rintro e W' ⟨v', rfl, ho, hO⟩
 exact ⟨v', rfl, ⟨ho (.inr h0), hb.trans (hO.below (by omega) (fun k hk => by have := h.base k hk; omega)), hO.keeps.obj hx (fun q => by have := h.base _ q; omega)⟩, hO⟩
theorem puts_old {w W : World} {X : Array Value} {v : Value} {xs : List Int} (h : Em w X W v xs) (A : Option Addr) (c : Nat) (l : List Int) (hr : RdN .i64 w A l) (hlen : xs.length + 2 * l.length ≤ 1000000000) :
  Calls Tryz.prog 159 #[v, .slice A l.length c] W fun e W' => ∃ v', e = .returned v' ∧ Em w X W' v' (xs ++ Sp.putsL l) ∧ Onto v v' W W' := by
 refine (puts_any _ v xs A c l W (.inl h.own) (rdN_below hr h.bel) (fun b o e h0 q => ?_) hlen (by have := h.lt; omega)).mono ?_
 ·obtain ⟨b', o', e', hc⟩ := hr.2 h0
  rw [e] at e'
  injection e' with e'
  injection e' with e1 e2
  subst e1
  have := World.block_lt_of_cell? _ _ (hc 0 h0)
  have := own_base h.own _ q
  simp at *
  omega
 ·rintro e W' ⟨v', rfl, ho, hO⟩
  exact ⟨v', rfl, h.onto hO (ho (.inl h.own)), hO⟩
theorem strCells_numc (s : ByteArray) : Lib.strCells s = numc (Sp.nums s) := by
 unfold Lib.strCells numc Sp.nums
 rw [List.map_map]
 rfl
theorem nums_length (s : ByteArray) : (Sp.nums s).length = s.size := by
 unfold Sp.nums
 rw [List.length_map, Array.length_toList]
 rfl
theorem Onto.of_grown {w W W' : World} {X : Array Value} {v v' : Value} {xs : List Int} (hg : W.grownBy W' v.ownBlock) (hat : v'.ownBlock = v.ownBlock ∨ v'.ownBlock = some W.heap.size) : Onto v v' W W' :=
 ⟨Keeps.of_grown hg (fun k hk => .inl hk), fun k hk => hat.elim (fun q => .inl (q ▸ hk)) (fun q => .inr (by rw [hk] at q; injection q with q; omega))⟩
theorem row_four (B : Nat) (W : World) (a b c d : Int) (fz : Nat × Nat) (hB : B ≤ W.heap.size) : RowG (W.alloc (.cells #[.int .u8 a, .int .u8 b, .int .u8 c, .int .u8 d] 5 fz)) B (.slice (some ⟨W.heap.size, 0, none⟩) 4 4) 4 (numc [a, b, c, d]) :=
 .inr ⟨rfl, W.heap.size, _, fz, rfl, hB, blk_new _ _, rfl⟩
namespace Sp
def constB (c : Cn) : List Int := putL c.tag 1 ++ (if c.tag = 1 then putsL [((encS c.text).1.size : Int)] ++ Sp.nums (encS c.text).1 else if c.tag = 2 then putL c.n 8 else if c.tag = 5 ∨ c.tag = 6 then putsL [c.a, c.b, c.c] else putsL [c.a])
def fieldB (m : Mb) : List Int := putL m.flags 1 ++ putsL [m.name, m.desc]
def handB (h : Hn) : List Int := putsL [h.fr, h.til, h.at_, h.cls]
def codeB (m : Mb) : List Int := putL m.stack 1 ++ putL m.locals 1 ++ putsL [(m.code.size : Int)] ++ (Sp.nums m.code ++ putL (m.hs.length : Int) 1) ++ m.hs.flatMap handB
def methodB (m : Mb) : List Int := putL m.flags 1 ++ putsL [m.name, m.desc] ++ (if m.flags = 2 then [] else codeB m)
def bytesS (F : Fl) : List Int := [67, 82, 85, 88] ++ putsL [(F.pool.length : Int)] ++ F.pool.flatMap constB ++ (putL F.flags 1 ++ putsL [F.this, F.super]) ++ (putL (F.ifaces.length : Int) 1 ++ putsL F.ifaces) ++ putL (F.fields.length : Int) 1 ++ F.fields.flatMap fieldB ++ putL (F.methods.length : Int) 1 ++ F.methods.flatMap methodB
def encodeF (F : Fl) : ByteArray × Int := if partsS F ≠ 0 then (⟨#[]⟩, partsS F) else if 65536 < (bytesS F).length then (⟨#[]⟩, 2) else (Go.strOfNums (bytesS F), 0)
end Sp
theorem run_storeCells_atT (P : Program) (g o : Nat) (t : TypeId) (fz : Nat × Nat) : ∀ (vs : List Value) (i : Nat) (cur : Array Value) (w : World), w.heap[g]? = some (.cells cur t fz) → (cur.size ≤ fz.1 ∨ fz.2 = 0) → o + i + vs.length ≤ cur.size → (∀ v ∈ vs, v.oneCell' = true) →
  (storeCells ⟨g, o, none⟩ vs i).run P w = .ok () (w.setRow g (cur.toList.take (o + i) ++ vs ++ cur.toList.drop (o + i + vs.length)).toArray)
 | [], i, cur, w, hg, _, _, _ => by
  simp only [storeCells, List.append_nil, List.length_nil, Nat.add_zero, List.take_append_drop, Array.toArray_toList]
  rw [setRow_self w g cur t fz hg]
  rfl
 | v :: rest, i, cur, w, hg, hfz, hl, h1 => by
  have hi : o + i < cur.size := by simp at hl; omega
  have hadd : (⟨g, o, none⟩ : Addr).add i = ⟨g, o + i, none⟩ := by unfold Addr.add; split <;> simp_all
  have hcell : w.cell? ⟨g, o + i, none⟩ = some cur[o + i] := by simp [World.cell?, hg, hi]
  have hfro : w.frozen? ⟨g, o + i, none⟩ = false := by
   obtain ⟨lo, hi'⟩ := fz
   simp only [World.frozen?, hg, Bool.and_eq_false_iff, decide_eq_false_iff_not]
   simp only at hfz
   rcases hfz with h | h
   ·left; omega
   ·right; omega
  have hst : (store ((⟨g, o, none⟩ : Addr).add i) v).run P w = .ok () (w.setRow g (cur.setIfInBounds (o + i) v)) := by
   rw [hadd, run_store P w _ v _ (h1 v (by simp)), hcell]
   simp [hfro, setCell_eq_setRow w g (o + i) cur t fz v hg]
  have ih := run_storeCells_atT P g o t fz rest (i + 1) (cur.setIfInBounds (o + i) v) (w.setRow g (cur.setIfInBounds (o + i) v)) (setRow_heap w g cur _ t _ hg) (by simpa using hfz) (by simp at hl ⊢; omega) (fun x hx => h1 x (by simp [hx]))
  simp only [storeCells, Sem.run_bind, hst, Result.andThen_ok, ih, setRow_setRow]
  congr 3
  have e := list_seg_step cur.toList (o + i) v rest (by simp at hl ⊢; omega)
  simpa [Array.toList_setIfInBounds, Nat.add_assoc] using e
def RowT (w : World) (B : Nat) (v : Value) (n : Nat) (xs : List Value) : Prop :=
 xs.length = n ∧ ∃ g cap cur fz, v = .slice (some ⟨g, 0, none⟩) n cap ∧ B ≤ g ∧ w.heap[g]? = some (.cells cur 5 fz) ∧ (cur.size ≤ fz.1 ∨ fz.2 = 0) ∧ n ≤ cap ∧ cap ≤ maxLen ∧ cur.size = cap ∧ cur.toList.take n = xs
theorem RowT.lt {w : World} {B : Nat} {v : Value} {n : Nat} {xs : List Value} (h : RowT w B v n xs) : ∀ k, v.ownBlock = some k → B ≤ k ∧ k < w.heap.size := by
 obtain ⟨_, g, cap, cur, fz, rfl, hb, hg, _⟩ := h
 intro k hk
 have : g = k := by simpa [Value.ownBlock] using hk
 subst this
 exact ⟨hb, blk_lt hg⟩
theorem RowT.keep {w w' : World} {B : Nat} {v : Value} {n : Nat} {xs : List Value} (h : RowT w B v n xs) (hk : ∀ k, v.ownBlock = some k → w'.heap[k]? = w.heap[k]?) : RowT w' B v n xs := by
 obtain ⟨hl, g, cap, cur, fz, rfl, hb, hg, r⟩ := h
 exact ⟨hl, g, cap, cur, fz, rfl, hb, (hk g rfl).trans hg, r⟩
theorem RowT.below {w w' : World} {B : Nat} {v : Value} {n : Nat} {xs : List Value} (h : RowT w B v n xs) (hb : Below w.heap.size w w') : RowT w' B v n xs := h.keep fun k hk => hb.block k (h.lt k hk).2
theorem RowT.alloc {w : World} {B : Nat} {v : Value} {n : Nat} {xs : List Value} (h : RowT w B v n xs) (o : Obj) : RowT (w.alloc o) B v n xs := h.keep fun k hk => Below.heap_alloc w o k (h.lt k hk).2
theorem RowT.cells {w : World} {B : Nat} {v : Value} {n : Nat} {xs : List Value} (h : RowT w B v n xs) {g : Nat} (hg : v.ownBlock = some g) : ∀ j u, xs[j]? = some u → w.cell? ((⟨g, 0, none⟩ : Addr).add j) = some u := by
 obtain ⟨hl, g', cap, cur, fz, rfl, hb, hgg, _, _, _, _, ht⟩ := h
 have : g' = g := by simpa [Value.ownBlock] using hg
 subst this
 intro j u hu
 have e : (⟨g', 0, none⟩ : Addr).add j = ⟨g', j, none⟩ := by rw [Addr.add_mid, Nat.zero_add]
 rw [e, Lib.cell_of_heap hgg j]
 rw [← ht, List.getElem?_take] at hu
 split at hu
 ·simpa using hu
 ·cases hu
theorem RowT.max {w : World} {B : Nat} {v : Value} {n : Nat} {xs : List Value} (h : RowT w B v n xs) : n ≤ 9223372036854775807 := by
 obtain ⟨_, g, cap, cur, fz, _, _, _, _, h1, h2, _⟩ := h
 unfold maxLen at h2
 omega
section
variable {P : Program} (w : World)
theorem rowT_string (base : Nat) (t u ty : TypeId) (i : TypeInfo) (ht : P.underlying t = some (.slice 5)) (hu : P.underlying u = some .string) (hi : P.info? 5 = some i) (hz : i.zero = some (.int .u8 0))
  (hsize : i.size = 1) (hby : i.bytes = 1) (v : Value) (n : Nat) (xs : List Value) (hown : RowT w base v n xs) (s : ByteArray)
  (h63 : n + s.size ≤ maxLen) (hbytes : n + s.size ≤ 140737488355328) (hbase : base ≤ w.heap.size) :
  ∃ v' w', (Builtin.append_ #[t, u] ty #[v, .string s]).run P w = .ok v' w' ∧ RowT w' base v' (n + s.size) (xs ++ strCells s) ∧ w.grownBy w' v.ownBlock ∧
   (v'.ownBlock = v.ownBlock ∨ v'.ownBlock = some w.heap.size) := by
 have hsmall : n + s.size ≤ 9223372036854775807 := by simp only [maxLen] at h63; omega
 have holdx := hown
 obtain ⟨hxl, g, cap, cur, fz, rfl, hbg, hg, hfz, hnc, hcm, hcs, htake⟩ := hown
 have hlen : (xs ++ strCells s).length = n + s.size := by rw [List.length_append, hxl, strCells_length]
 by_cases hroom : n + s.size ≤ cap
 ·have hf := run_firstCells_string (P := P) w 1 s
  have hst := run_storeCells_atT P g n 5 fz (strCells s) 0 cur w hg hfz (by rw [strCells_length]; omega) (strCells_oneCell s)
  simp only [Nat.add_zero, strCells_length] at hst
  have hr : (Builtin.append_ #[t, u] ty #[.slice (some ⟨g, 0, none⟩) n cap, .string s]).run P w =
    .ok (.slice (some ⟨g, 0, none⟩) (n + s.size) cap) (w.setRow g (cur.toList.take n ++ strCells s ++ cur.toList.drop (n + s.size)).toArray) := by
   simp [Builtin.append_, run_underlying ht, run_underlying hu, sizeOf, typeInfo, hi, hsize, Builtin.lenOf, hroom, hf, Addr.add_lit, hst]
  have hsz : (cur.toList.take n ++ strCells s ++ cur.toList.drop (n + s.size)).toArray.size = cap := by
   simp only [List.size_toArray, List.length_append, List.length_take, List.length_drop, Array.length_toList, strCells_length]
   omega
  refine ⟨_, _, hr, ⟨hlen, g, cap, _, fz, rfl, hbg, setRow_heap w g cur _ 5 _ hg, ?_, hroom, hcm, hsz, ?_⟩, ⟨rfl, rfl, rfl, by simp, fun k _ hk => setRow_other w g k _ (fun e => hk (by simp [Value.ownBlock, e]))⟩, Or.inl rfl⟩
  ·rw [hsz, ← hcs]; exact hfz
  ·show (cur.toList.take n ++ strCells s ++ cur.toList.drop (n + s.size)).take (n + s.size) = _
   rw [htake, ← hlen]
   exact List.take_left
 ·have hr := run_append_grow_string (P := P) w t u ty 5 i (.int .u8 0) ht hu hi hz ⟨g, 0, none⟩ n cap xs (by rw [hsize, Nat.mul_one]; exact hxl) (holdx.cells rfl) s (by omega) (by omega) (by rw [hby]; exact growslice_fits (by omega) (by omega))
  have hge := grownCap_ge w (n + s.size) cap 5
  have hcm2 : grownCap w (n + s.size) cap 5 ≤ maxLen := grownCap_le_maxLen w (n + s.size) cap 5 h63
  refine ⟨_, _, hr, ⟨hlen, w.heap.size, _, _, (0, 0), rfl, hbase, heap_alloc_new w.drew _, .inr rfl, hge, hcm2, ?_, ?_⟩, ⟨rfl, rfl, rfl, by simp, fun k hk _ => Below.heap_alloc w.drew _ k hk⟩, Or.inr rfl⟩
  ·have hz1 : (Value.int IntKind.u8 0).cells.size = 1 := rfl
   simp only [Array.size_append, List.size_toArray, size_zeroCells, hz1, hxl, strCells_length]
   omega
  ·simp only [Array.toList_append, List.append_assoc]
   rw [← List.append_assoc, ← hlen]
   exact List.take_left
theorem rowT_append (base : Nat) (t ty : TypeId) (i : TypeInfo) (ht : P.underlying t = some (.slice 5)) (hi : P.info? 5 = some i) (hz : i.zero = some (.int .u8 0))
  (hsize : i.size = 1) (hby : i.bytes = 1) (v : Value) (n : Nat) (xs : List Value) (hown : RowT w base v n xs)
  (a : Addr) (m c : Nat) (news : List Value) (hl : news.length = m * 1) (hnews : ∀ j u, news[j]? = some u → w.cell? (a.add j) = some u) (h1 : ∀ u ∈ news, u.oneCell' = true)
  (h63 : n + m ≤ maxLen) (hbytes : n + m ≤ 140737488355328) (hbase : base ≤ w.heap.size) :
  ∃ v' w', (Builtin.append_ #[t, t] ty #[v, .slice (some a) m c]).run P w = .ok v' w' ∧ RowT w' base v' (n + m) (xs ++ news) ∧ w.grownBy w' v.ownBlock ∧
   (v'.ownBlock = v.ownBlock ∨ v'.ownBlock = some w.heap.size) := by
 have hsmall : n + m ≤ 9223372036854775807 := by simp only [maxLen] at h63; omega
 have holdx := hown
 obtain ⟨hxl, g, cap, cur, fz, rfl, hbg, hg, hfz, hnc, hcm, hcs, htake⟩ := hown
 have hlen : (xs ++ news).length = n + m := by rw [List.length_append, hxl, hl]; omega
 by_cases hroom : n + m ≤ cap
 ·have hf := run_firstCells_some (P := P) w 1 m a m c news hl hnews
  have hst := run_storeCells_atT P g n 5 fz news 0 cur w hg hfz (by omega) h1
  simp only [Nat.add_zero] at hst
  have hr : (Builtin.append_ #[t, t] ty #[.slice (some ⟨g, 0, none⟩) n cap, .slice (some a) m c]).run P w =
    .ok (.slice (some ⟨g, 0, none⟩) (n + m) cap) (w.setRow g (cur.toList.take n ++ news ++ cur.toList.drop (n + news.length)).toArray) := by
   simp [Builtin.append_, run_underlying ht, sizeOf, typeInfo, hi, hsize, Builtin.lenOf, hroom, hf, Addr.add_lit, hst]
  have hsz : (cur.toList.take n ++ news ++ cur.toList.drop (n + news.length)).toArray.size = cap := by
   simp only [List.size_toArray, List.length_append, List.length_take, List.length_drop, Array.length_toList]
   omega
  refine ⟨_, _, hr, ⟨hlen, g, cap, _, fz, rfl, hbg, setRow_heap w g cur _ 5 _ hg, ?_, hroom, hcm, hsz, ?_⟩, ⟨rfl, rfl, rfl, by simp, fun k _ hk => setRow_other w g k _ (fun e => hk (by simp [Value.ownBlock, e]))⟩, Or.inl rfl⟩
  ·rw [hsz, ← hcs]; exact hfz
  ·show (cur.toList.take n ++ news ++ cur.toList.drop (n + news.length)).take (n + m) = _
   rw [htake, ← hlen]
   exact List.take_left
 ·have hr := run_append_grow (P := P) w t ty 5 i (.int .u8 0) ht hi hz ⟨g, 0, none⟩ n cap xs (by rw [hsize, Nat.mul_one]; exact hxl) (holdx.cells rfl) a m c news (by rw [hsize]; exact hl) hnews (by omega) (by omega) (by rw [hby]; exact growslice_fits (by omega) (by omega))
  have hge := grownCap_ge w (n + m) cap 5
  have hcm2 : grownCap w (n + m) cap 5 ≤ maxLen := grownCap_le_maxLen w (n + m) cap 5 h63
  refine ⟨_, _, hr, ⟨hlen, w.heap.size, _, _, (0, 0), rfl, hbase, heap_alloc_new w.drew _, .inr rfl, hge, hcm2, ?_, ?_⟩, ⟨rfl, rfl, rfl, by simp, fun k hk _ => Below.heap_alloc w.drew _ k hk⟩, Or.inr rfl⟩
  ·have hz1 : (Value.int IntKind.u8 0).cells.size = 1 := rfl
   simp only [Array.size_append, List.size_toArray, size_zeroCells, hz1, hxl, hl]
   omega
  ·simp only [Array.toList_append, List.append_assoc]
   rw [← List.append_assoc, ← hlen]
   exact List.take_left
theorem rowT_conv (s : ByteArray) (h : s.size ≤ 1000000000) (B : Nat) (hB : B ≤ w.heap.size) : RowT (bytesWorld w 5 s) B (.slice (some ⟨w.heap.size, 0, none⟩) s.size (grownCap w s.size 0 5)) s.size (strCells s) := by
 have hge := grownCap_ge w s.size 0 5
 have hcm : grownCap w s.size 0 5 ≤ maxLen := grownCap_le_maxLen w s.size 0 5 (by unfold maxLen; omega)
 have hsz : (bytesCells w 5 s).size = grownCap w s.size 0 5 := by
  unfold bytesCells
  simp only [Array.size_append, Array.size_map, Array.size_replicate]
  have : s.data.size = s.size := rfl
  omega
 refine ⟨strCells_length s, w.heap.size, _, _, _, rfl, hB, bytesWorld_at_new w 5 s, .inl (Nat.le_refl _), hge, hcm, hsz, ?_⟩
 unfold bytesCells
 rw [Array.toList_append, List.take_append_of_le_length (by simp)]
 have : (Array.map (fun b : UInt8 => Value.int IntKind.u8 (b.toNat : Int)) s.data).toList = strCells s := by simp [strCells]
 rw [this, ← strCells_length s]
 exact List.take_length
theorem below_conv (B : Nat) (s : ByteArray) (hB : B ≤ w.heap.size) : Below B w (bytesWorld w 5 s) :=
 ⟨rfl, rfl, rfl, by rw [bytesWorld_size]; omega, fun k hk => bytesWorld_at_old w 5 s k (by omega)⟩
end
structure Eb (w : World) (X : Array Value) (W : World) (v : Value) (xs : List Int) : Prop where
 own : RowT W (w.heap.size + 1) v xs.length (numc xs)
 bel : Below w.heap.size w W
 box : W.heap[w.heap.size]? = some (.cells X 26 (0, 0))
section
variable {w W W' : World} {X : Array Value} {v v' : Value} {xs : List Int}
theorem Eb.lt (h : Eb w X W v xs) : w.heap.size < W.heap.size := blk_lt h.box
theorem Eb.alloc (h : Eb w X W v xs) (o : Obj) : Eb w X (W.alloc o) v xs := ⟨h.own.alloc _, h.bel.alloc (by have := h.lt; omega) o, blk_old h.box⟩
theorem Eb.drew (h : Eb w X W v xs) : Eb w X W.drew v xs := ⟨h.own, h.bel.drew, h.box⟩
theorem Eb.below (h : Eb w X W v xs) (hb : Below W.heap.size W W') : Eb w X W' v xs := ⟨h.own.below hb, below_then h.bel (by have := h.lt; omega) hb, blk_below h.box hb⟩
theorem Eb.grown (h : Eb w X W v xs) {ys : List Int} (ho : RowT W' (w.heap.size + 1) v' ys.length (numc ys)) (hg : W.grownBy W' v.ownBlock) : Eb w X W' v' ys :=
 ⟨ho, h.bel.grown hg (by have := h.lt; omega) (fun q hq => by have := (h.own.lt q hq).1; omega), blk_grown h.box hg (fun q => by have := (h.own.lt _ q.symm).1; omega)⟩
theorem Eb.beside (h : Eb w X W v xs) {tb : Nat} {C : Array Value} {T : TypeId} (hb : W.heap[tb]? = some (.cells C T (0, 0))) (hT : T ≠ 5) (hg : W.grownBy W' v.ownBlock) : W'.heap[tb]? = some (.cells C T (0, 0)) := by
 refine blk_grown hb hg (fun q => ?_)
 obtain ⟨_, g, cap, cur, fz, rfl, _, hgb, _⟩ := h.own
 have : tb = g := by simpa [Value.ownBlock] using q
 subst this
 rw [hb] at hgb
 injection hgb with hgb
 injection hgb with _ e _
 exact hT e
theorem Eb.str (h : Eb w X W v xs) (s : ByteArray) (l : List Int) (hs : Sp.nums s = l) (hlen : xs.length + l.length ≤ 1000000000) {ty : TypeId} :
  ∃ v' W', (Builtin.append_ #[33, 9] ty #[v, .string s]).run Tryz.prog W = .ok v' W' ∧ Eb w X W' v' (xs ++ l) ∧ (∀ {tb : Nat} {C : Array Value} {T : TypeId}, T ≠ 5 → W.heap[tb]? = some (.cells C T (0, 0)) → W'.heap[tb]? = some (.cells C T (0, 0))) := by
 obtain ⟨i0, hi, hz0, hz1, hz2⟩ := info_parts infoByte
 have hz : s.size = l.length := by rw [← hs, nums_length]
 obtain ⟨v', W', hr, ho, hg, _⟩ := rowT_string (P := Tryz.prog) W (w.heap.size + 1) 33 9 ty i0 Tryz.underlying33 Tryz.underlying9 hi hz0 hz1 hz2 v xs.length (numc xs) h.own s (by unfold maxLen; omega) (by omega) (by have := h.lt; omega)
 refine ⟨v', W', hr, h.grown ?_ hg, fun hT hb => h.beside hb hT hg⟩
 rw [List.length_append, ← hz, numc_append, ← hs, ← strCells_numc]
 exact ho
theorem Eb.byte (h : Eb w X W v xs) (x : Int) (hlen : xs.length + 1 ≤ 1000000000) {ty : TypeId} :
  ∃ v' W', (Builtin.append_ #[33, 33] ty #[v, .slice (some ⟨W.heap.size, 0, none⟩) 1 1]).run Tryz.prog (W.alloc (.cells #[.int .u8 x] 5)) = .ok v' W' ∧ Eb w X W' v' (xs ++ [x]) ∧ (∀ {tb : Nat} {C : Array Value} {T : TypeId}, T ≠ 5 → W.heap[tb]? = some (.cells C T (0, 0)) → W'.heap[tb]? = some (.cells C T (0, 0))) := by
 obtain ⟨i0, hi, hz0, hz1, hz2⟩ := info_parts infoByte
 have ha := h.alloc (.cells #[.int .u8 x] 5)
 obtain ⟨v', W', hr, ho, hg, _⟩ := rowT_append (P := Tryz.prog) (W.alloc (.cells #[.int .u8 x] 5)) (w.heap.size + 1) 33 ty i0 Tryz.underlying33 hi hz0 hz1 hz2 v xs.length (numc xs) ha.own ⟨W.heap.size, 0, none⟩ 1 1 [.int .u8 x] rfl
  (fun j u hj => by
   match j, hj with
   | 0, hj => simp at hj; subst hj; simp [Addr.add]
   | (j + 1), hj => simp at hj) (by simp; rfl) (by unfold maxLen; omega) (by omega) (by have := ha.lt; omega)
 refine ⟨v', W', hr, ha.grown ?_ hg, fun hT hb => ha.beside (blk_old hb) hT hg⟩
 rw [List.length_append, numc_append]
 exact ho
end
end Go.Proofs.YtjjlcoimaihdoaaGreatDoor
namespace Go.Proofs.YtjjlcoimaihdoaaGreatDoor.Sp
open Go.Lib
theorem getD_by (L : List Int) (h : By L) (k : Nat) : 0 ≤ L.getD k 0 ∧ L.getD k 0 ≤ 255 := by
 by_cases hk : k < L.length
 ·rw [List.getD_eq_getElem?_getD, List.getElem?_eq_getElem hk]
  exact h _ (List.getElem_mem hk)
 ·rw [getD_out L k (by omega)]; omega
theorem refUnit_list (L : List Int) (h : By L) : refUnit (Go.strOfNums L) =
  if ¬ (224 ≤ L.getD 0 0 ∧ L.getD 0 0 < 240) ∨ ¬ (128 ≤ L.getD 1 0 ∧ L.getD 1 0 < 192) ∨ ¬ (128 ≤ L.getD 2 0 ∧ L.getD 2 0 < 192) then -1
  else if (L.getD 0 0 - 224) * 4096 + (L.getD 1 0 - 128) * 64 + L.getD 2 0 - 128 < 2048 then -1
  else (L.getD 0 0 - 224) * 4096 + (L.getD 1 0 - 128) * 64 + L.getD 2 0 - 128 := by
 have o2 : L.length ≤ 2 → L.getD 2 0 = 0 := fun q => getD_out L 2 q
 unfold refUnit
 rw [size_nums, bt_nums L h, bt_nums L h, bt_nums L h]
 generalize L.getD 0 0 = a at *
 generalize L.getD 1 0 = b at *
 generalize L.getD 2 0 = c at *
 exact ite_congr (by simp only [eq_iff_iff]; omega) (fun _ => rfl) fun _ => rfl
theorem refUnit_inv (L : List Int) (h : By L) (h0 : 0 ≤ refUnit (Go.strOfNums L)) : 2048 ≤ refUnit (Go.strOfNums L) ∧ refUnit (Go.strOfNums L) < 65536 ∧ L = three (refUnit (Go.strOfNums L)) ++ L.drop 3 := by
 have g0 := getD_by L h 0; have g1 := getD_by L h 1; have g2 := getD_by L h 2
 have o2 : L.length ≤ 2 → L.getD 2 0 = 0 := fun q => getD_out L 2 q
 have l3 := list_head L 3
 simp only [List.range, List.range.loop, List.map_cons, List.map_nil] at l3
 revert h0
 rw [refUnit_list L h]
 generalize L.getD 0 0 = a at *
 generalize L.getD 1 0 = b at *
 generalize L.getD 2 0 = c at *
 by_cases c1 : ¬ (224 ≤ a ∧ a < 240) ∨ ¬ (128 ≤ b ∧ b < 192) ∨ ¬ (128 ≤ c ∧ c < 192)
 ·rw [if_pos c1]; intro q; omega
 rw [if_neg c1]
 by_cases c2 : (a - 224) * 4096 + (b - 128) * 64 + c - 128 < 2048
 ·rw [if_pos c2]; intro q; omega
 rw [if_neg c2]
 intro _
 refine ⟨by omega, by omega, ?_⟩
 unfold three
 rw [show 224 + ((a - 224) * 4096 + (b - 128) * 64 + c - 128) / 4096 = a by omega, show 128 + ((a - 224) * 4096 + (b - 128) * 64 + c - 128) / 64 % 64 = b by omega, show 128 + ((a - 224) * 4096 + (b - 128) * 64 + c - 128) % 64 = c by omega]
 exact l3 (by omega)
theorem refStep_list (L : List Int) (h : By L) : refStep (Go.strOfNums L) =
 if 1 ≤ L.getD 0 0 ∧ L.getD 0 0 < 128 then (L.getD 0 0, 1)
 else if 192 ≤ L.getD 0 0 ∧ L.getD 0 0 < 224 then
  if 128 ≤ L.getD 1 0 ∧ L.getD 1 0 < 192 then
   if 1 ≤ (L.getD 0 0 - 192) * 64 + L.getD 1 0 - 128 ∧ (L.getD 0 0 - 192) * 64 + L.getD 1 0 - 128 < 128 then (-1, 2) else ((L.getD 0 0 - 192) * 64 + L.getD 1 0 - 128, 2)
  else (-1, 1)
 else if 55296 ≤ refUnit (Go.strOfNums L) ∧ refUnit (Go.strOfNums L) < 56320 then
  if 56320 ≤ refUnit (Go.strOfNums (L.drop 3)) ∧ refUnit (Go.strOfNums (L.drop 3)) < 57344 then (65536 + (refUnit (Go.strOfNums L) - 55296) * 1024 + refUnit (Go.strOfNums (L.drop 3)) - 56320, 6) else (-1, 1)
 else if 0 ≤ refUnit (Go.strOfNums L) ∧ (refUnit (Go.strOfNums L) < 56320 ∨ 57344 ≤ refUnit (Go.strOfNums L)) then (refUnit (Go.strOfNums L), 3)
 else (-1, 1) := by
 have o1 : L.length ≤ 1 → L.getD 1 0 = 0 := fun q => getD_out L 1 q
 unfold refStep
 rw [extract_nums, size_nums, bt_nums L h, bt_nums L h]
 refine ite_congr rfl (fun _ => rfl) fun _ => ?_
 refine ite_congr rfl (fun _ => ?_) fun _ => rfl
 refine ite_congr (by simp only [eq_iff_iff]; omega) (fun _ => rfl) fun _ => rfl
theorem refStep_inv (L : List Int) (h : By L) (h0 : 0 ≤ (refStep (Go.strOfNums L)).1) :
  (refStep (Go.strOfNums L)).2 = (encZ (refStep (Go.strOfNums L)).1).length ∧ L = encZ (refStep (Go.strOfNums L)).1 ++ L.drop (encZ (refStep (Go.strOfNums L)).1).length := by
 have g0 := getD_by L h 0; have g1 := getD_by L h 1
 have o0 : L.length ≤ 0 → L.getD 0 0 = 0 := fun q => getD_out L 0 q
 have o1 : L.length ≤ 1 → L.getD 1 0 = 0 := fun q => getD_out L 1 q
 have l1 := list_head L 1
 have l2 := list_head L 2
 simp only [List.range, List.range.loop, List.map_cons, List.map_nil] at l1 l2
 have hu := refUnit_inv L h
 have hv := refUnit_inv (L.drop 3) (h.drop 3)
 have hd3 : (L.drop 3).drop 3 = L.drop 6 := by simp [List.drop_drop]
 revert h0
 rw [refStep_list L h]
 generalize L.getD 0 0 = a at *
 generalize L.getD 1 0 = b at *
 generalize refUnit (Go.strOfNums L) = u at *
 generalize refUnit (Go.strOfNums (L.drop 3)) = v at *
 by_cases c1 : 1 ≤ a ∧ a < 128
 ·rw [if_pos c1]
  intro _
  have e : encZ a = [a] := by rw [encZ, if_pos (by omega)]
  simp only []
  rw [e]
  exact ⟨rfl, l1 (by omega)⟩
 rw [if_neg c1]
 by_cases c2 : 192 ≤ a ∧ a < 224
 ·rw [if_pos c2]
  by_cases c3 : 128 ≤ b ∧ b < 192
  ·rw [if_pos c3]
   by_cases c4 : 1 ≤ (a - 192) * 64 + b - 128 ∧ (a - 192) * 64 + b - 128 < 128
   ·rw [if_pos c4]; intro q; simp at q
   ·rw [if_neg c4]
    intro _
    have e : encZ ((a - 192) * 64 + b - 128) = [a, b] := by
     rw [encZ, if_neg (by omega), if_pos (by omega), show 192 + ((a - 192) * 64 + b - 128) / 64 = a by omega, show 128 + ((a - 192) * 64 + b - 128) % 64 = b by omega]
    simp only []
    rw [e]
    exact ⟨rfl, l2 (by omega)⟩
  ·rw [if_neg c3]; intro q; simp at q
 rw [if_neg c2]
 by_cases c3 : 55296 ≤ u ∧ u < 56320
 ·rw [if_pos c3]
  by_cases c4 : 56320 ≤ v ∧ v < 57344
  ·rw [if_pos c4]
   intro _
   have e : encZ (65536 + (u - 55296) * 1024 + v - 56320) = three u ++ three v := by
    rw [encZ, if_neg (by omega), if_neg (by omega), if_neg (by omega), show 55296 + (65536 + (u - 55296) * 1024 + v - 56320 - 65536) / 1024 = u by omega, show 56320 + (65536 + (u - 55296) * 1024 + v - 56320 - 65536) % 1024 = v by omega]
   simp only []
   rw [e]
   refine ⟨rfl, ?_⟩
   have e1 := (hu (by omega)).2.2
   have e2 := (hv (by omega)).2.2
   rw [List.append_assoc, show (three u ++ three v).length = 6 from rfl, ← hd3, ← e2]
   exact e1
  ·rw [if_neg c4]; intro q; simp at q
 rw [if_neg c3]
 by_cases c4 : 0 ≤ u ∧ (u < 56320 ∨ 57344 ≤ u)
 ·rw [if_pos c4]
  intro _
  obtain ⟨q1, q2, q3⟩ := hu c4.1
  have e : encZ u = three u := by rw [encZ, if_neg (by omega), if_neg (by omega), if_pos (by omega)]
  simp only []
  rw [e]
  exact ⟨rfl, q3⟩
 ·rw [if_neg c4]; intro q; simp at q
theorem encL_cons (r : Int) (l : List Int) : encL (r :: l) = encZ r ++ encL l := by simp [encL]
theorem refDecG_inv : ∀ f (L acc out : List Int), By L → refDecG f (Go.strOfNums L) acc = some out → ∃ l, out = acc ++ l ∧ (∀ r ∈ l, Scal r) ∧ L = encL l
 | 0, L, acc, out, h, hd => by simp [refDecG] at hd
 | f + 1, L, acc, out, h, hd => by
  rw [refDecG] at hd
  by_cases h0 : L.length = 0
  ·rw [if_pos (by rw [size_nums]; exact h0)] at hd
   injection hd with hd
   obtain rfl : L = [] := List.eq_nil_of_length_eq_zero h0
   exact ⟨[], by simp [hd], by simp, rfl⟩
  rw [if_neg (by rw [size_nums]; exact h0)] at hd
  by_cases h1 : (refStep (Go.strOfNums L)).1 < 0
  ·rw [if_pos h1] at hd; exact absurd hd (by simp)
  rw [if_neg h1] at hd
  obtain ⟨i1, i2⟩ := refStep_inv L h (by omega)
  have hs := refStep_scal (Go.strOfNums L) (by omega)
  rw [i1, extract_nums] at hd
  obtain ⟨l, j1, j2, j3⟩ := refDecG_inv f _ _ out (h.drop _) hd
  refine ⟨(refStep (Go.strOfNums L)).1 :: l, by simp [j1], ?_, ?_⟩
  ·intro x hx
   rcases List.mem_cons.1 hx with rfl | hx
   ·exact hs
   ·exact j2 x hx
  ·rw [encL_cons, ← j3]
   exact i2
theorem dec_inv (b : ByteArray) : (decS b = (⟨#[]⟩, 2) ∧ 65535 < b.size) ∨ decS b = (⟨#[]⟩, 4) ∨ ∃ l, (∀ r ∈ l, Scal r) ∧ b = Go.strOfNums (encL l) ∧ decS b = (Go.strOfNums (utfL l), 0) ∧ (encL l).length ≤ 65535 := by
 rw [decS_eq, refDecS]
 by_cases h : 65535 < b.size
 ·rw [if_pos h]; exact .inl ⟨rfl, h⟩
 rw [if_neg h]
 cases hd : refDecG (b.size + 1) b [] with
 | none => exact .inr (.inl rfl)
 | some l =>
  right; right
  rw [← nums_str b] at hd
  obtain ⟨m, j1, j2, j3⟩ := refDecG_inv _ _ _ _ (by_nums b) hd
  obtain rfl : l = m := by simpa using j1
  have e : b = Go.strOfNums (encL l) := by rw [← j3, nums_str]
  refine ⟨l, j2, e, ?_, ?_⟩
  ·simp only []
   rw [refMakeS_all l j2]
  ·rw [e, size_nums] at h
   omega
theorem enc_utf (l : List Int) (h : ∀ r ∈ l, Scal r) (hs : (encL l).length ≤ 65535) : encS (Go.strOfNums (utfL l)) = (Go.strOfNums (encL l), 0) := by
 rw [encS, valid_utf l h, if_neg (by simp), runes_utf l h, if_neg (by omega)]
end Go.Proofs.YtjjlcoimaihdoaaGreatDoor.Sp
namespace Go.Proofs.YtjjlcoimaihdoaaGreatDoor
open Go.RowKit Go.Lib
namespace Sp
def numV (l : List Int) : Int := l.foldl (fun n c => IntKind.i64.wrap (n * 256) + c) 0
def takeR (s : ByteArray) (e : Int) (n : Nat) : ByteArray × ByteArray × Int := if e = 0 then (if s.size < n then (⟨#[]⟩, s, 5) else (s.extract 0 n, s.extract n s.size, 0)) else (⟨#[]⟩, s, e)
def numR (s : ByteArray) (e : Int) (n : Nat) : Int × ByteArray × Int := (numV (nums (takeR s e n).1), (takeR s e n).2)
end Sp
theorem or_byte (x c : Int) (h0 : x % 256 = 0) (h1 : -9223372036854775808 ≤ x) (h2 : x ≤ 9223372036854775807) (h3 : 0 ≤ c) (h4 : c < 256) : bits BinOp.or IntKind.i64 x c = x + c := by
 have ha : (BitVec.ofInt 64 x).toNat = (x % 18446744073709551616).toNat := by rw [BitVec.toNat_ofInt]; rfl
 have hb : (BitVec.ofInt 64 c).toNat = c.toNat := by rw [BitVec.toNat_ofInt]; congr 1; omega
 show IntKind.i64.wrap (((BitVec.ofInt 64 x ||| BitVec.ofInt 64 c).toNat : Nat) : Int) = x + c
 rw [BitVec.toNat_or, ha, hb]
 have hq : (x % 18446744073709551616).toNat = 2 ^ 8 * ((x % 18446744073709551616).toNat / 256) := by omega
 have hor := Nat.two_pow_add_eq_or_of_lt (i := 8) (b := c.toNat) (by omega) ((x % 18446744073709551616).toNat / 256)
 rw [← hq] at hor
 rw [← hor, IntKind.wrap_i64]
 omega
theorem wrap64_eq (n : Int) : wrap64 n = IntKind.i64.wrap n := by
 rw [IntKind.wrap_i64]
 simp only [wrap64]
def Rd (w : World) (rb : Nat) (s : ByteArray) (e : Int) : Prop := w.heap[rb]? = some (.cells #[.string s, .int .i64 e] 242 (0, 0))
set_option maxHeartbeats 4000000 in
set_option maxRecDepth 100000 in
theorem take_any (rb : Nat) (s : ByteArray) (e : Int) (n : Nat) (w : World) (h : Rd w rb s e) (hs : s.size ≤ 1099511627776) (hn : n ≤ 1099511627776) :
  Calls Tryz.prog 162 #[.pointer (some ⟨rb, 0, none⟩), .int .i64 n] w fun x w' => x = .returned (.string (Sp.takeR s e n).1) ∧ Rd w' rb (Sp.takeR s e n).2.1 (Sp.takeR s e n).2.2 ∧ Keeps (fun i => i = rb) w w' := by
 obtain ⟨c0, f0⟩ := blk_cell h 0 _ rfl
 obtain ⟨c1, f1⟩ := blk_cell h 1 _ rfl
 have hlt := blk_lt h
 unfold Sp.takeR
 by_cases he : e = 0
 ·subst he
  rw [if_pos rfl]
  by_cases hq : s.size < n
  ·rw [if_pos hq]
   have hz : (s.size : Int) < (n : Int) := by omega
   have hS := blk_set (i := 1) h (.int .i64 5)
   go_enter Tryz.func162, Tryz.ntmps162
   go_wp2
   go_ret
   exact ⟨rfl, hS, (Keeps.refl (fun i => i = rb) w).setCell (a := ⟨rb, _, none⟩) (.inl rfl) _⟩
  ·rw [if_neg hq]
   have hz : ¬ (s.size : Int) < (n : Int) := by omega
   have hz0 : (0 : Int) ≤ (n : Int) := by omega
   have hz1 : (n : Int) ≤ (s.size : Int) := by omega
   have hS := blk_set (i := 0) h (.string (s.extract n s.size))
   go_enter Tryz.func162, Tryz.ntmps162
   go_wp2
   go_ret
   exact ⟨rfl, hS, (Keeps.refl (fun i => i = rb) w).setCell (a := ⟨rb, _, none⟩) (.inl rfl) _⟩
 ·rw [if_neg he]
  have hb : (e == 0) = false := by simp [he]
  have hb2 : (e != 0) = true := by simp [he]
  go_enter Tryz.func162, Tryz.ntmps162
  go_wp2
  go_ret
  exact ⟨rfl, h, Keeps.refl _ w⟩
theorem Rd.keep {w w' : World} {rb : Nat} {s : ByteArray} {e : Int} {S : Nat → Prop} (h : Rd w rb s e) (hk : Keeps S w w') (hS : ¬ S rb) : Rd w' rb s e := hk.obj h hS
theorem keeps_conv (S : Nat → Prop) (w : World) (s : ByteArray) : Keeps S w (bytesWorld w 5 s) := Keeps.of_below (below_conv w _ s (Nat.le_refl _))
namespace Sp
theorem numV_snoc (l : List Int) (c : Int) : numV (l ++ [c]) = IntKind.i64.wrap (numV l * 256) + c := by
 unfold numV
 rw [List.foldl_append]
 rfl
theorem wrap256 (n : Int) : IntKind.i64.wrap (n * 256) % 256 = 0 ∧ -9223372036854775808 ≤ IntKind.i64.wrap (n * 256) ∧ IntKind.i64.wrap (n * 256) ≤ 9223372036854775807 := by
 rw [IntKind.wrap_i64]
 omega
theorem nums_get (s : ByteArray) (k : Nat) (h : k < s.size) : (nums s)[k]? = some ((s.data.toList.getD k 0).toNat : Int) := by
 unfold nums
 have hl : k < s.data.toList.length := h
 rw [List.getElem?_map, List.getElem?_eq_getElem hl, List.getD_eq_getElem?_getD, List.getElem?_eq_getElem hl]
 rfl
theorem take_size (s : ByteArray) (e : Int) (n : Nat) : (takeR s e n).1.size ≤ n := by
 unfold takeR
 split
 ·split
  ·exact Nat.zero_le _
  ·simp only [ByteArray.size_extract]; omega
 ·exact Nat.zero_le _
end Sp
set_option maxHeartbeats 4000000 in
set_option maxRecDepth 100000 in
theorem number_any (rb : Nat) (s : ByteArray) (e : Int) (n : Nat) (w : World) (h : Rd w rb s e) (hs : s.size ≤ 1099511627776) (hn : n ≤ 1000) :
  Calls Tryz.prog 165 #[.pointer (some ⟨rb, 0, none⟩), .int .i64 n] w fun x w' => x = .returned (.int .i64 (Sp.numR s e n).1) ∧ Rd w' rb (Sp.numR s e n).2.1 (Sp.numR s e n).2.2 ∧ Keeps (fun i => i = rb) w w' := by
 have kt := Lib.hid (take_any rb s e n w h hs (by omega))
 have hz := Sp.take_size s e n
 unfold Sp.numR
 simp only []
 clear h
 generalize Sp.takeR s e n = T at *
 obtain ⟨t, s', e'⟩ := T
 simp only [] at kt hz ⊢
 go_enter Tryz.func165, Tryz.ntmps165
 go_wp2_with fail
 refine kt.out.mono ?_
 rintro x w1 ⟨rfl, hR1, hK1⟩
 clear kt
 have hcv := Lib.run_convert_string_bytes (P := Tryz.prog) w1 9 33 5 t Tryz.underlying9 Tryz.underlying33 Tryz.underlying5
 have hR2 := Lib.hid (hR1.keep (keeps_conv (fun _ => False) w1 t) (by simp))
 have hK2 := Lib.hid (hK1.trans (keeps_conv _ w1 t))
 have hc := Lib.hid (fun j (hj : j < t.size) => bytesWorld_cell w1 5 t j hj)
 have hL := Lib.hid (bytesWorld_size w1 5 t)
 clear hR1 hK1
 go_wp2
 clear hcv
 generalize bytesWorld w1 5 t = W2 at *
 go_loopw [5, 13] (fun v5 v13 wr => ∃ k : Nat, v13 = .int .i64 k ∧ k ≤ t.size ∧ v5 = .int .i64 (Sp.numV ((Sp.nums t).take k)) ∧ wr = W2) (fun _ v13 _ => t.size - (RowKit.intOf v13).toNat)
 case atStart => exact ⟨0, by go_num, Nat.zero_le _, rfl, rfl⟩
 case round =>
  obtain ⟨k, rfl, hk, rfl, rfl⟩ := hrel
  by_cases hlt : k < t.size
  ·have hzk : (k : Int) < (t.size : Int) := by omega
   have hzz : t.size ≤ 1000 := by omega
   have hck := hc.out k hlt
   have hlb := World.block_lt_of_cell? _ _ hck
   have hstep : Sp.numV ((Sp.nums t).take (k + 1)) = IntKind.i64.wrap (Sp.numV ((Sp.nums t).take k) * 256) + ((t.data.toList.getD k 0).toNat : Int) := by
    rw [List.take_add_one, Sp.nums_get t k hlt]
    exact Sp.numV_snoc _ _
   have hbb : ((t.data.toList.getD k 0).toNat : Int) < 256 := by have := (t.data.toList.getD k 0).toNat_lt; omega
   obtain ⟨g1, g2, g3⟩ := Sp.wrap256 (Sp.numV ((Sp.nums t).take k))
   have hor := or_byte _ _ g1 g2 g3 (Int.natCast_nonneg _) hbb
   clear g1 g2 g3 hbb
   have hgd : t.data.toList.getD k 0 = t.data[k]'hlt := by
    rw [List.getD_eq_getElem?_getD, List.getElem?_eq_getElem (show k < t.data.toList.length from hlt)]
    simp
   rw [hgd] at hstep hor
   have hwc : IntKind.i64.wrap (((t.data[k]'hlt).toNat : Nat) : Int) = (((t.data[k]'hlt).toNat : Nat) : Int) := IntWalk.i64_in _ (by have := (t.data[k]'hlt).toNat_lt; omega)
   have hHs := Lib.hid hstep
   have hHo := Lib.hid hor
   have hHw := Lib.hid hwc
   clear hstep hor hwc
   go_wp2
   refine ⟨⟨k + 1, by first | rfl | simp, by omega, ?_, trivial⟩, by simp [RowKit.intOf]; omega⟩
   rw [wrap64_eq, wrap64_eq, hHw.out, hHo.out, ← hHs.out]
  ·obtain rfl : k = t.size := by omega
   have hzk : ¬ (t.size : Int) < (t.size : Int) := by omega
   have htk : (Sp.nums t).take t.size = Sp.nums t := List.take_of_length_le (by rw [nums_length]; exact Nat.le_refl _)
   rw [htk]
   have h2 := hR2.out
   have h3 := hK2.out
   go_wp2
   go_ret
   exact ⟨rfl, h2, h3⟩
namespace Sp
def listR : Nat → ByteArray → Int → List Int × ByteArray × Int
 | 0, s, e => ([], s, e)
 | k + 1, s, e => ((numR s e 2).1 :: (listR k (numR s e 2).2.1 (numR s e 2).2.2).1, (listR k (numR s e 2).2.1 (numR s e 2).2.2).2)
def putC : Array Value → List Nat → List Int → Array Value
 | C, o :: os, v :: vs => putC (C.setIfInBounds o (.int .i64 v)) os vs
 | C, _, _ => C
theorem take_len (s : ByteArray) (e : Int) (n : Nat) : (takeR s e n).2.1.size ≤ s.size := by
 unfold takeR
 split
 ·split
  ·exact Nat.le_refl _
  ·simp only [ByteArray.size_extract]; omega
 ·exact Nat.le_refl _
theorem num_len (s : ByteArray) (e : Int) (n : Nat) : (numR s e n).2.1.size ≤ s.size := take_len s e n
end Sp
def ptrC (cb : Nat) (offs : List Nat) : Array Value := (offs.map fun o => Value.pointer (some ⟨cb, o, none⟩)).toArray
set_option maxHeartbeats 4000000 in
set_option maxRecDepth 100000 in
theorem list_any (rb cb tb : Nat) (s : ByteArray) (e : Int) (offs : List Nat) (C : Array Value) (T T2 : TypeId) (n c : Nat) (w : World) (h : Rd w rb s e) (hC : w.heap[cb]? = some (.cells C T (0, 0))) (hT : w.heap[tb]? = some (.cells (ptrC cb offs) T2 (0, 0)))
  (h1 : rb ≠ cb) (h2 : tb ≠ rb) (h3 : tb ≠ cb) (ho : ∀ o ∈ offs, o < C.size) (hn : n = offs.length) (hn4 : n ≤ 4) (hs : s.size ≤ 1099511627776) :
  Calls Tryz.prog 166 #[.pointer (some ⟨rb, 0, none⟩), .slice (some ⟨tb, 0, none⟩) n c] w fun x w' => x = .returned (.tuple #[]) ∧ Rd w' rb (Sp.listR n s e).2.1 (Sp.listR n s e).2.2 ∧ w'.heap[cb]? = some (.cells (Sp.putC C offs (Sp.listR n s e).1) T (0, 0)) ∧ Keeps (fun i => i = rb ∨ i = cb) w w' := by
 have HR := Lib.hid h
 have HC := Lib.hid hC
 have HT := Lib.hid hT
 clear h hC hT
 subst hn
 generalize hF : Sp.listR offs.length s e = F
 have HF := Lib.hid (show Sp.listR (offs.length - 0) s e = F from hF)
 have HP := Lib.hid (show Sp.putC C (offs.drop 0) (Sp.listR (offs.length - 0) s e).1 = Sp.putC C offs F.1 by rw [HF.out]; rfl)
 have HO := Lib.hid ho
 clear hF ho
 go_enter Tryz.func166, Tryz.ntmps166
 go_wp2
 go_loopw [8] (fun v8 wr => ∃ (k : Nat) (s1 : ByteArray) (e1 : Int) (C1 : Array Value), v8 = .int .i64 k ∧ k ≤ offs.length ∧ s1.size ≤ 1099511627776 ∧ C1.size = C.size ∧ Hid (Rd wr rb s1 e1) ∧ Hid (wr.heap[cb]? = some (.cells C1 T (0, 0))) ∧ Hid (wr.heap[tb]? = some (.cells (ptrC cb offs) T2 (0, 0))) ∧ Hid (Keeps (fun i => i = rb ∨ i = cb) w wr) ∧ Hid ((Sp.listR (offs.length - k) s1 e1).2 = F.2) ∧ Hid (Sp.putC C1 (offs.drop k) (Sp.listR (offs.length - k) s1 e1).1 = Sp.putC C offs F.1)) (fun v8 _ => offs.length - (RowKit.intOf v8).toNat)
 case atStart => exact ⟨0, s, e, C, by go_num, Nat.zero_le _, hs, rfl, HR, HC, HT, Lib.hid (Keeps.refl _ _), Lib.hid (by rw [HF.out]), HP⟩
 case round =>
  clear HR HC HT HF HP
  obtain ⟨k, s1, e1, C1, rfl, hk, hs1, hcs, hR, hC, hT, hK, hf, hp⟩ := hrel
  by_cases hlt : k < offs.length
  ·have hzk : (k : Int) < (offs.length : Int) := by omega
   have hko : offs[k] < C1.size := by rw [hcs]; exact HO.out _ (List.getElem_mem hlt)
   have c0 := (blk_cell hT.out k (.pointer (some ⟨cb, offs[k], none⟩)) (by unfold ptrC; simp [hlt])).1
   have hlb := blk_lt hT.out
   have kn := Lib.hid (number_any rb s1 e1 2 wr hR.out hs1 (by decide))
   have hlr : Sp.listR (offs.length - k) s1 e1 = ((Sp.numR s1 e1 2).1 :: (Sp.listR (offs.length - (k + 1)) (Sp.numR s1 e1 2).2.1 (Sp.numR s1 e1 2).2.2).1, (Sp.listR (offs.length - (k + 1)) (Sp.numR s1 e1 2).2.1 (Sp.numR s1 e1 2).2.2).2) := by
    rw [show offs.length - k = (offs.length - (k + 1)) + 1 by omega, Sp.listR]
   have hsz := Sp.num_len s1 e1 2
   have hdr : offs.drop k = offs[k] :: offs.drop (k + 1) := List.drop_eq_getElem_cons hlt
   have hf2 := hf.out
   have hp2 := hp.out
   rw [hlr] at hf2 hp2
   rw [hdr, Sp.putC] at hp2
   clear hf hp hlr hdr
   generalize Sp.numR s1 e1 2 = N at *
   obtain ⟨nv, s2, e2⟩ := N
   simp only [] at kn hf2 hp2 hsz
   have hf3 := Lib.hid hf2
   have hp3 := Lib.hid hp2
   clear hf2 hp2
   generalize offs[k] = o at *
   go_wp2_with fail
   refine kn.out.mono ?_
   rintro x w4 ⟨rfl, hR4, hK4⟩
   have hC4 := hK4.obj hC.out (fun q => h1 q.symm)
   have hT4 := Lib.hid (hK4.obj hT.out h2)
   have hKK := Lib.hid (hK.out.then hK4 (fun i q => .inl (.inl q)))
   obtain ⟨d0, f0⟩ := blk_cell hC4 o C1[o] (by simp [hko])
   have hlc := blk_lt hC4
   have hR5 := Lib.hid (show Rd (w4.setCell ⟨cb, o, none⟩ (.int .i64 nv)) rb s2 e2 from blk_other hR4 _ _ h1)
   have hC5 := Lib.hid (blk_set (i := o) hC4 (.int .i64 nv))
   have hT5 := Lib.hid (blk_other hT4.out ⟨cb, o, none⟩ (.int .i64 nv) h3)
   have hK5 := Lib.hid (hKK.out.setCell (a := ⟨cb, o, none⟩) (.inl (.inr rfl)) (.int .i64 nv))
   clear hR hC hT hK hR4 hK4 hT4 hKK kn c0 hlb
   go_wp2
   go_roundw
   case rel => exact ⟨k + 1, s2, e2, C1.setIfInBounds o (.int .i64 nv), by go_num, by omega, by omega, by simp [hcs], hR5, hC5, hT5, hK5, hf3, hp3⟩
   case measure => simp [RowKit.intOf]; omega
  ·obtain rfl : k = offs.length := by omega
   have hzk : ¬ (offs.length : Int) < (offs.length : Int) := by omega
   have hf2 := hf.out
   have hp2 := hp.out
   rw [Nat.sub_self, Sp.listR] at hf2 hp2
   rw [List.drop_length, Sp.putC] at hp2
   have hR2 := hR.out
   have hC2 := hC.out
   rw [hp2] at hC2
   rw [show s1 = F.2.1 from congrArg (·.1) hf2, show e1 = F.2.2 from congrArg (·.2) hf2] at hR2
   have hK2 := hK.out
   clear hf hp hf2 hp2
   go_wp2
   go_end0
   exact ⟨rfl, hR2, hC2, hK2⟩
end Go.Proofs.YtjjlcoimaihdoaaGreatDoor
