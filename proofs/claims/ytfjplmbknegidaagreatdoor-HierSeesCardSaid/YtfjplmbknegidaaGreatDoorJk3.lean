/-
  Texts of the proof, joined: each says at its head what it proves.
-/
import Derived.Test.YtfjplmbknegidaaGreatDoorJk2
import Derived.Lib.IndexBytes
import Derived.Deep.RegionWith
import Derived.Lib.Repeat
import Derived.Test.YtfjplmbknegidaaGreatDoorJk1
import Derived.BigQuiet
import Derived.Shelf.Strings.BuilderK
section
/-
  Plain: the reference's decoder is the model's.
-/
set_option linter.unusedVariables false
set_option linter.unusedSimpArgs false
namespace Go.Proofs.YtfjplmbknegidaaGreatDoor.Sp
open Go.Lib

theorem get_bt (s : ByteArray) (p k : Nat) (h : p + k < s.size) : ((s.get! (p + k)).toNat : Int) = bt s (p + k) := by
  rw [bt, dif_pos h]
  have : s.get! (p + k) = s[p + k] := by
    simp [ByteArray.get!, getElem!_pos, h]
    rfl
  rw [this]

/-- What the reference's next tells, by numbers. -/
theorem refNext_num (s : ByteArray) (n0 n1 n2 n3 : Nat) (h0 : 0 < s.size) (e0 : bt s 0 = n0) (e1 : 1 < s.size → bt s 1 = n1) (e2 : 2 < s.size → bt s 2 = n2) (e3 : 3 < s.size → bt s 3 = n3) (b0 : n0 < 256) (b1 : n1 < 256) (b2 : n2 < 256) (b3 : n3 < 256)
    (z1 : ¬ 1 < s.size → n1 = 0) (z2 : ¬ 2 < s.size → n2 = 0) (z3 : ¬ 3 < s.size → n3 = 0) :
    refNext s =
      if n0 < 128 then ((n0 : Int), 1)
      else if 194 ≤ n0 ∧ n0 < 224 ∧ n1 / 64 = 2 then ((((n0 % 32) * 64 + n1 % 64 : Nat) : Int), 2)
      else if 224 ≤ n0 ∧ n0 < 240 ∧ n1 / 64 = 2 ∧ n2 / 64 = 2 ∧ 2048 ≤ (n0 % 16) * 4096 + n1 % 64 * 64 + n2 % 64 ∧ ¬ (55296 ≤ (n0 % 16) * 4096 + n1 % 64 * 64 + n2 % 64 ∧ (n0 % 16) * 4096 + n1 % 64 * 64 + n2 % 64 < 57344) then ((((n0 % 16) * 4096 + n1 % 64 * 64 + n2 % 64 : Nat) : Int), 3)
      else if 240 ≤ n0 ∧ n0 < 245 ∧ n1 / 64 = 2 ∧ n2 / 64 = 2 ∧ n3 / 64 = 2 ∧ 65536 ≤ (n0 % 8) * 262144 + n1 % 64 * 4096 + n2 % 64 * 64 + n3 % 64 ∧ (n0 % 8) * 262144 + n1 % 64 * 4096 + n2 % 64 * 64 + n3 % 64 ≤ 1114111 then ((((n0 % 8) * 262144 + n1 % 64 * 4096 + n2 % 64 * 64 + n3 % 64 : Nat) : Int), 4)
      else (0, 0) := by
  unfold refNext
  rw [e0]
  by_cases c1 : n0 < 128
  · rw [if_pos (by omega), if_pos c1]
  rw [if_neg (by omega), if_neg c1]
  by_cases c2 : 194 ≤ n0 ∧ n0 < 224
  · rw [if_pos (by omega)]
    unfold goN
    by_cases hs : s.size < 2
    · have := z1 (by omega)
      rw [if_pos hs, if_neg (by omega), if_neg (by omega), if_neg (by omega)]
    · rw [if_neg hs]
      simp only [show 2 - 1 = 0 + 1 from rfl, contG, e1 (by omega)]
      by_cases g1 : n1 / 64 = 2
      · rw [if_pos (by omega), if_pos (by omega)]
        simp only [finN]
        rw [if_neg (by omega)]
        refine Prod.ext ?_ rfl
        simp only []
        omega
      · rw [if_neg (by omega), if_neg (by omega), if_neg (by omega), if_neg (by omega)]
  rw [if_neg (by omega), if_neg (by omega : ¬ (194 ≤ n0 ∧ n0 < 224 ∧ n1 / 64 = 2))]
  by_cases c3 : 224 ≤ n0 ∧ n0 < 240
  · rw [if_pos (by omega)]
    unfold goN
    by_cases hs : s.size < 3
    · have := z2 (by omega)
      rw [if_pos hs, if_neg (by omega), if_neg (by omega)]
    · rw [if_neg hs]
      simp only [show 3 - 1 = 0 + 1 + 1 from rfl, contG, e1 (by omega), e2 (by omega), Nat.reduceAdd]
      by_cases g1 : n1 / 64 = 2
      · rw [if_pos (by omega : 128 ≤ (n1 : Int) ∧ (n1 : Int) < 192)]
        by_cases g2 : n2 / 64 = 2
        · rw [if_pos (by omega : 128 ≤ (n2 : Int) ∧ (n2 : Int) < 192)]
          simp only [finN]
          by_cases g3 : 2048 ≤ (n0 % 16) * 4096 + n1 % 64 * 64 + n2 % 64 ∧ ¬ (55296 ≤ (n0 % 16) * 4096 + n1 % 64 * 64 + n2 % 64 ∧ (n0 % 16) * 4096 + n1 % 64 * 64 + n2 % 64 < 57344)
          · rw [if_neg (by omega), if_pos (by omega)]
            refine Prod.ext ?_ rfl
            simp only []
            omega
          · rw [if_pos (by omega), if_neg (by omega), if_neg (by omega)]
        · rw [if_neg (by omega : ¬ (128 ≤ (n2 : Int) ∧ (n2 : Int) < 192)), if_neg (by omega), if_neg (by omega)]
      · rw [if_neg (by omega : ¬ (128 ≤ (n1 : Int) ∧ (n1 : Int) < 192)), if_neg (by omega), if_neg (by omega)]
  rw [if_neg (by omega), if_neg (by omega : ¬ (224 ≤ n0 ∧ n0 < 240 ∧ n1 / 64 = 2 ∧ n2 / 64 = 2 ∧ 2048 ≤ (n0 % 16) * 4096 + n1 % 64 * 64 + n2 % 64 ∧ ¬ (55296 ≤ (n0 % 16) * 4096 + n1 % 64 * 64 + n2 % 64 ∧ (n0 % 16) * 4096 + n1 % 64 * 64 + n2 % 64 < 57344)))]
  by_cases c4 : 240 ≤ n0 ∧ n0 < 245
  · rw [if_pos (by omega)]
    unfold goN
    by_cases hs : s.size < 4
    · have := z3 (by omega)
      rw [if_pos hs, if_neg (by omega)]
    · rw [if_neg hs]
      simp only [show 4 - 1 = 0 + 1 + 1 + 1 from rfl, contG, e1 (by omega), e2 (by omega), e3 (by omega), Nat.reduceAdd]
      by_cases g1 : n1 / 64 = 2
      · rw [if_pos (by omega : 128 ≤ (n1 : Int) ∧ (n1 : Int) < 192)]
        by_cases g2 : n2 / 64 = 2
        · rw [if_pos (by omega : 128 ≤ (n2 : Int) ∧ (n2 : Int) < 192)]
          by_cases g3 : n3 / 64 = 2
          · rw [if_pos (by omega : 128 ≤ (n3 : Int) ∧ (n3 : Int) < 192)]
            simp only [finN]
            by_cases g4 : 65536 ≤ (n0 % 8) * 262144 + n1 % 64 * 4096 + n2 % 64 * 64 + n3 % 64 ∧ (n0 % 8) * 262144 + n1 % 64 * 4096 + n2 % 64 * 64 + n3 % 64 ≤ 1114111
            · rw [if_neg (by omega), if_pos (by omega)]
              refine Prod.ext ?_ rfl
              simp only []
              omega
            · rw [if_pos (by omega), if_neg (by omega)]
          · rw [if_neg (by omega : ¬ (128 ≤ (n3 : Int) ∧ (n3 : Int) < 192)), if_neg (by omega)]
        · rw [if_neg (by omega : ¬ (128 ≤ (n2 : Int) ∧ (n2 : Int) < 192)), if_neg (by omega)]
      · rw [if_neg (by omega : ¬ (128 ≤ (n1 : Int) ∧ (n1 : Int) < 192)), if_neg (by omega)]
  rw [if_neg (by omega), if_neg (by omega)]

set_option maxHeartbeats 4000000 in
/-- What the model's decoder tells, by numbers. -/
theorem decode_num (s : ByteArray) (p n0 n1 n2 n3 : Nat) (e0 : (s.get! (p + 0)).toNat = n0) (e1 : p + 1 < s.size → (s.get! (p + 1)).toNat = n1) (e2 : p + 2 < s.size → (s.get! (p + 2)).toNat = n2) (e3 : p + 3 < s.size → (s.get! (p + 3)).toNat = n3) (b0 : n0 < 256) (b1 : n1 < 256) (b2 : n2 < 256) (b3 : n3 < 256)
    (z1 : ¬ p + 1 < s.size → n1 = 0) (z2 : ¬ p + 2 < s.size → n2 = 0) (z3 : ¬ p + 3 < s.size → n3 = 0) :
    Utf8.decode s p =
      if n0 < 128 then (n0, 1)
      else if 194 ≤ n0 ∧ n0 < 224 ∧ n1 / 64 = 2 then ((n0 % 32) * 64 + n1 % 64, 2)
      else if 224 ≤ n0 ∧ n0 < 240 ∧ n1 / 64 = 2 ∧ n2 / 64 = 2 ∧ 2048 ≤ (n0 % 16) * 4096 + n1 % 64 * 64 + n2 % 64 ∧ ¬ (55296 ≤ (n0 % 16) * 4096 + n1 % 64 * 64 + n2 % 64 ∧ (n0 % 16) * 4096 + n1 % 64 * 64 + n2 % 64 < 57344) then ((n0 % 16) * 4096 + n1 % 64 * 64 + n2 % 64, 3)
      else if 240 ≤ n0 ∧ n0 < 245 ∧ n1 / 64 = 2 ∧ n2 / 64 = 2 ∧ n3 / 64 = 2 ∧ 65536 ≤ (n0 % 8) * 262144 + n1 % 64 * 4096 + n2 % 64 * 64 + n3 % 64 ∧ (n0 % 8) * 262144 + n1 % 64 * 4096 + n2 % 64 * 64 + n3 % 64 ≤ 1114111 then ((n0 % 8) * 262144 + n1 % 64 * 4096 + n2 % 64 * 64 + n3 % 64, 4)
      else (65533, 1) := by
  have k1 : (decide (p + 1 < s.size) && (s.get! (p + 1)).toNat / 64 == 2) = decide (n1 / 64 = 2) := by
    by_cases h : p + 1 < s.size
    · rw [e1 h]; simp [h]; rfl
    · rw [z1 h]; simp [h]
  have k2 : (decide (p + 2 < s.size) && (s.get! (p + 2)).toNat / 64 == 2) = decide (n2 / 64 = 2) := by
    by_cases h : p + 2 < s.size
    · rw [e2 h]; simp [h]; rfl
    · rw [z2 h]; simp [h]
  have k3 : (decide (p + 3 < s.size) && (s.get! (p + 3)).toNat / 64 == 2) = decide (n3 / 64 = 2) := by
    by_cases h : p + 3 < s.size
    · rw [e3 h]; simp [h]; rfl
    · rw [z3 h]; simp [h]
  have f1 : n1 / 64 = 2 → (s.get! (p + 1)).toNat = n1 := fun h => e1 (by by_cases q : p + 1 < s.size; exact q; have := z1 q; omega)
  have f2 : n2 / 64 = 2 → (s.get! (p + 2)).toNat = n2 := fun h => e2 (by by_cases q : p + 2 < s.size; exact q; have := z2 q; omega)
  have f3 : n3 / 64 = 2 → (s.get! (p + 3)).toNat = n3 := fun h => e3 (by by_cases q : p + 3 < s.size; exact q; have := z3 q; omega)
  simp only [Utf8.decode, k1, k2, k3, e0, Utf8.runeError, Utf8.valid]
  clear k1 k2 k3 e1 e2 e3 z1 z2 z3
  by_cases c1 : n0 < 128
  · rw [if_pos c1, if_pos c1]
  rw [if_neg c1, if_neg c1]
  by_cases g1 : n1 / 64 = 2
  · rw [f1 g1]
    by_cases g2 : n2 / 64 = 2
    · rw [f2 g2]
      by_cases g3 : n3 / 64 = 2
      · rw [f3 g3]
        repeat' split
        all_goals first | with_reducible rfl | (exfalso; simp at *; omega) | (simp at *; omega)
      · repeat' split
        all_goals first | with_reducible rfl | (exfalso; simp at *; omega) | (simp at *; omega)
    · repeat' split
      all_goals first | with_reducible rfl | (exfalso; simp at *; omega) | (simp at *; omega)
  · repeat' split
    all_goals first | with_reducible rfl | (exfalso; simp at *; omega) | (simp at *; omega)

/-- The byte at a place, 0 behind the end. -/
def nb (s : ByteArray) (p : Nat) : Nat := if p < s.size then (s.get! p).toNat else 0
theorem nb_lt (s : ByteArray) (p : Nat) : nb s p < 256 := by
  unfold nb
  split
  · exact (s.get! p).toNat_lt
  · omega
theorem nb_out (s : ByteArray) (p : Nat) (h : ¬ p < s.size) : nb s p = 0 := by rw [nb, if_neg h]
theorem nb_in (s : ByteArray) (p : Nat) (h : p < s.size) : (s.get! p).toNat = nb s p := by rw [nb, if_pos h]
theorem bt_nb (s : ByteArray) (p : Nat) : bt s p = nb s p := by
  by_cases h : p < s.size
  · have := get_bt s p 0 (by omega)
    simp only [Nat.add_zero] at this
    rw [← this, nb_in s p h]
  · rw [nb_out s p h, bt, dif_neg h]; rfl

theorem decode_nb (s : ByteArray) (p : Nat) (h : p < s.size) : Utf8.decode s p =
      if (nb s p) < 128 then ((nb s p), 1)
      else if 194 ≤ (nb s p) ∧ (nb s p) < 224 ∧ (nb s (p + 1)) / 64 = 2 then (((nb s p) % 32) * 64 + (nb s (p + 1)) % 64, 2)
      else if 224 ≤ (nb s p) ∧ (nb s p) < 240 ∧ (nb s (p + 1)) / 64 = 2 ∧ (nb s (p + 2)) / 64 = 2 ∧ 2048 ≤ ((nb s p) % 16) * 4096 + (nb s (p + 1)) % 64 * 64 + (nb s (p + 2)) % 64 ∧ ¬ (55296 ≤ ((nb s p) % 16) * 4096 + (nb s (p + 1)) % 64 * 64 + (nb s (p + 2)) % 64 ∧ ((nb s p) % 16) * 4096 + (nb s (p + 1)) % 64 * 64 + (nb s (p + 2)) % 64 < 57344) then (((nb s p) % 16) * 4096 + (nb s (p + 1)) % 64 * 64 + (nb s (p + 2)) % 64, 3)
      else if 240 ≤ (nb s p) ∧ (nb s p) < 245 ∧ (nb s (p + 1)) / 64 = 2 ∧ (nb s (p + 2)) / 64 = 2 ∧ (nb s (p + 3)) / 64 = 2 ∧ 65536 ≤ ((nb s p) % 8) * 262144 + (nb s (p + 1)) % 64 * 4096 + (nb s (p + 2)) % 64 * 64 + (nb s (p + 3)) % 64 ∧ ((nb s p) % 8) * 262144 + (nb s (p + 1)) % 64 * 4096 + (nb s (p + 2)) % 64 * 64 + (nb s (p + 3)) % 64 ≤ 1114111 then (((nb s p) % 8) * 262144 + (nb s (p + 1)) % 64 * 4096 + (nb s (p + 2)) % 64 * 64 + (nb s (p + 3)) % 64, 4)
      else (65533, 1) := decode_num s p (nb s p) (nb s (p + 1)) (nb s (p + 2)) (nb s (p + 3)) (nb_in s p h) (fun h => nb_in s _ h) (fun h => nb_in s _ h) (fun h => nb_in s _ h) (nb_lt _ _) (nb_lt _ _) (nb_lt _ _) (nb_lt _ _) (nb_out s _) (nb_out s _) (nb_out s _)
theorem refNext_nb (s : ByteArray) (h : 0 < s.size) : refNext s =
      if (nb s 0) < 128 then (((nb s 0) : Int), 1)
      else if 194 ≤ (nb s 0) ∧ (nb s 0) < 224 ∧ (nb s 1) / 64 = 2 then (((((nb s 0) % 32) * 64 + (nb s 1) % 64 : Nat) : Int), 2)
      else if 224 ≤ (nb s 0) ∧ (nb s 0) < 240 ∧ (nb s 1) / 64 = 2 ∧ (nb s 2) / 64 = 2 ∧ 2048 ≤ ((nb s 0) % 16) * 4096 + (nb s 1) % 64 * 64 + (nb s 2) % 64 ∧ ¬ (55296 ≤ ((nb s 0) % 16) * 4096 + (nb s 1) % 64 * 64 + (nb s 2) % 64 ∧ ((nb s 0) % 16) * 4096 + (nb s 1) % 64 * 64 + (nb s 2) % 64 < 57344) then (((((nb s 0) % 16) * 4096 + (nb s 1) % 64 * 64 + (nb s 2) % 64 : Nat) : Int), 3)
      else if 240 ≤ (nb s 0) ∧ (nb s 0) < 245 ∧ (nb s 1) / 64 = 2 ∧ (nb s 2) / 64 = 2 ∧ (nb s 3) / 64 = 2 ∧ 65536 ≤ ((nb s 0) % 8) * 262144 + (nb s 1) % 64 * 4096 + (nb s 2) % 64 * 64 + (nb s 3) % 64 ∧ ((nb s 0) % 8) * 262144 + (nb s 1) % 64 * 4096 + (nb s 2) % 64 * 64 + (nb s 3) % 64 ≤ 1114111 then (((((nb s 0) % 8) * 262144 + (nb s 1) % 64 * 4096 + (nb s 2) % 64 * 64 + (nb s 3) % 64 : Nat) : Int), 4)
      else (0, 0) := refNext_num s (nb s 0) (nb s 1) (nb s 2) (nb s 3) h (bt_nb s 0) (fun _ => bt_nb s 1) (fun _ => bt_nb s 2) (fun _ => bt_nb s 3) (nb_lt _ _) (nb_lt _ _) (nb_lt _ _) (nb_lt _ _) (nb_out s 1) (nb_out s 2) (nb_out s 3)

theorem refNext_decode (s : ByteArray) (h : 0 < s.size) : refNext s = if Utf8.decode s 0 = (65533, 1) then (0, 0) else (((Utf8.decode s 0).1 : Int), ((Utf8.decode s 0).2 : Int)) := by
  rw [refNext_nb s h, decode_nb s 0 h]
  simp only [Nat.zero_add]
  generalize nb s 0 = n0
  generalize nb s 1 = n1
  generalize nb s 2 = n2
  generalize nb s 3 = n3
  split
  · rw [if_neg (by simp; omega)]; rfl
  · split
    · rw [if_neg (by simp)]; rfl
    · split
      · rw [if_neg (by simp)]; rfl
      · split
        · rw [if_neg (by simp)]; rfl
        · rw [if_pos rfl]

theorem nb_extract (s : ByteArray) (p k : Nat) : nb (s.extract p s.size) k = nb s (p + k) := by
  have hs : (s.extract p s.size).size = s.size - p := by simp
  by_cases h : p + k < s.size
  · have hk : k < (s.extract p s.size).size := by omega
    have a := bt_nb (s.extract p s.size) k
    have b := bt_nb s (p + k)
    have : bt (s.extract p s.size) k = bt s (p + k) := by
      rw [bt, dif_pos hk, bt, dif_pos h]
      simp [ByteArray.getElem_extract]
    omega
  · rw [nb_out _ _ h, nb_out _ _ (by omega)]

theorem decode_extract (s : ByteArray) (p q : Nat) (h : p + q < s.size) : Utf8.decode (s.extract p s.size) q = Utf8.decode s (p + q) := by
  have hs : (s.extract p s.size).size = s.size - p := by simp
  rw [decode_nb _ q (by omega), decode_nb s (p + q) h]
  simp only [nb_extract, Nat.add_assoc]

theorem rl_extract (s : ByteArray) (p : Nat) : ∀ f q, p ≤ s.size → rl (s.extract p s.size) f q = rl s f (p + q)
  | 0, _, _ => rfl
  | f + 1, q, hp => by
    have hs : (s.extract p s.size).size = s.size - p := by simp
    unfold rl
    by_cases h : p + q < s.size
    · rw [if_pos (by omega), if_pos h, decode_extract s p q h, rl_extract s p f _ hp, Nat.add_assoc]
    · rw [if_neg (by omega), if_neg h]

theorem decode_fits (s : ByteArray) (h : 0 < s.size) : (Utf8.decode s 0).2 ≤ s.size := by
  have hr := refNext_range s h
  rw [refNext_decode s h] at hr
  by_cases hd : Utf8.decode s 0 = (65533, 1)
  · rw [hd]; exact h
  · rw [if_neg hd] at hr
    have := hr.2
    simp only at this
    omega

theorem decodeL_eq (s : ByteArray) : decodeL s.data.toList = Utf8.decode s 0 := by
  cases s
  simp [decodeL]

theorem rB_eq : ∀ f (t : ByteArray), t.size ≤ f → (rB f t).1 = rl t f 0 ∧ ∀ n, t.size ≤ n → (rB f t).2 = validGoD n t.data.toList
  | 0, t, h => by
    have h0 : t.data.toList = [] := List.eq_nil_of_length_eq_zero (by rw [← Lib.size_eq]; omega)
    refine ⟨rfl, fun n _ => ?_⟩
    rw [h0]
    cases n <;> simp [rB, validGoD]
  | f + 1, t, h => by
    by_cases h0 : t.size = 0
    · have hl : t.data.toList = [] := List.eq_nil_of_length_eq_zero (by rw [← Lib.size_eq]; omega)
      refine ⟨?_, fun n _ => ?_⟩
      · rw [rB, if_pos h0, rl, if_neg (by omega)]
      · rw [rB, if_pos h0, hl]
        cases n <;> simp [validGoD]
    have hp : 0 < t.size := by omega
    have hl : ¬ t.data.toList = [] := by
      intro e
      have h1 : t.size = t.data.toList.length := Lib.size_eq t
      rw [e] at h1
      exact h0 h1
    have hw := decode_width_pos t 0 hp
    have hf := decode_fits t hp
    have hs : ∀ k, (t.extract k t.size).size = t.size - k := fun k => by simp
    rw [rB, if_neg h0, refNext_decode t hp]
    by_cases hd : Utf8.decode t 0 = (65533, 1)
    · obtain ⟨i1, i2⟩ := rB_eq f (t.extract 1 t.size) (by rw [hs]; omega)
      rw [if_pos hd]
      simp only [if_true]
      refine ⟨?_, fun n hn => ?_⟩
      · rw [rl, if_pos hp, hd, i1, rl_extract t 1 f 0 (by omega)]
        rfl
      · obtain ⟨m, rfl⟩ : ∃ m, n = m + 1 := ⟨n - 1, by omega⟩
        rw [validGoD, if_neg hl, decodeL_eq, hd]
        simp
    · obtain ⟨i1, i2⟩ := rB_eq f (t.extract (Utf8.decode t 0).2 t.size) (by rw [hs]; omega)
      rw [if_neg hd]
      simp only [Int.toNat_natCast]
      rw [if_neg (show ¬ (((Utf8.decode t 0).2 : Nat) : Int) = 0 by omega)]
      refine ⟨?_, fun n hn => ?_⟩
      · simp only []
        rw [rl, if_pos hp, i1, rl_extract t _ f 0 (by omega), Nat.zero_add, Nat.add_zero]
      · obtain ⟨m, rfl⟩ : ∃ m, n = m + 1 := ⟨n - 1, by omega⟩
        simp only []
        rw [validGoD, if_neg hl, decodeL_eq, if_neg (fun e => hd (Prod.ext e.1 e.2)), i2 m (by rw [hs]; omega), Lib.extract_to_end]

theorem refRunes_eq (s : ByteArray) : refRunes s = (runes s, validD s.data.toList) := by
  obtain ⟨h1, h2⟩ := rB_eq s.size s (Nat.le_refl _)
  refine Prod.ext h1 ?_
  rw [validD, ← Lib.size_eq]
  exact h2 s.size (Nat.le_refl _)

theorem refName_eq (s : ByteArray) : refNameS s = nameS s := by
  simp only [refNameS, nameS, refRunes_eq]
  rw [Bool.eq_iff_iff]
  simp
  constructor
  · rintro ⟨⟨⟨a, b⟩, c⟩, d⟩; exact ⟨⟨⟨d, b⟩, c⟩, a⟩
  · rintro ⟨⟨⟨d, b⟩, c⟩, a⟩; exact ⟨⟨⟨a, b⟩, c⟩, d⟩
end Go.Proofs.YtfjplmbknegidaaGreatDoor.Sp
end
section
/-
  Walks of chapter 2's small functions.
-/
set_option linter.unusedVariables false
set_option linter.unusedSimpArgs false
namespace Go.Proofs.YtfjplmbknegidaaGreatDoor
open Go.RowKit Go.Lib

set_option maxHeartbeats 4000000 in
theorem right_any (d : Int) (n : ByteArray) (w : World) (hs : n.size ≤ 1099511627776) (hT : Tabs w) :
    Calls Tryz.prog 58 #[Sp.tyV (d, n)] w fun e w' => e = .returned (.bool (Sp.rightS (d, n))) ∧ Below w.heap.size w w' := by
  have HE := Lib.hid (show Sp.rightS (d, n) = _ by rw [Sp.rightS])
  simp only [] at HE
  generalize Sp.rightS (d, n) = R at HE ⊢
  unfold Sp.tyV
  simp only []
  by_cases c1 : 0 ≤ d
  · by_cases c2 : d ≤ 4
    · by_cases c3 : n.size = 0
      · have hR : R = true := by rw [HE.out]; simp [c1, c2, c3]
        obtain rfl := str_empty n c3
        subst hR
        clear HE
        go_enter Tryz.func58, Tryz.ntmps58
        go_wp2
        go_ret
        exact ⟨rfl, (Below.refl _ _).alloc (Nat.le_refl _) _⟩
      · have hR : R = Sp.nameS n := by rw [HE.out]; simp [c1, c2, c3]
        have hne : (n.toList == []) = false := by
          rw [Bool.eq_false_iff]
          intro q
          have := (bytes_beq_iff n ⟨#[]⟩).1 (by simpa using q)
          rw [this] at c3
          exact c3 rfl
        have h1 := Lib.hid (fun W hT => name_any n W (by omega) hT)
        have T0 := Lib.hid hT
        clear hT
        subst hR
        generalize Sp.nameS n = v at h1 ⊢
        clear HE
        go_enter Tryz.func58, Tryz.ntmps58
        go_wp2_with fail
        refine (h1.out _ (fun W h => Tabs.below (T0.out.below ((Below.refl _ _).alloc (Nat.le_refl _) _)) h)).mono ?_
        rintro e w1 ⟨rfl, hb⟩
        go_wp2
        go_ret
        exact ⟨rfl, below_then ((Below.refl _ _).alloc (Nat.le_refl _) _) (by simp) hb⟩
    · have hR : R = false := by rw [HE.out]; simp [c2]
      subst hR
      clear HE
      go_enter Tryz.func58, Tryz.ntmps58
      go_wp2
      go_ret
      exact ⟨rfl, (Below.refl _ _).alloc (Nat.le_refl _) _⟩
  · have hR : R = false := by rw [HE.out]; simp [c1]
    subst hR
    clear HE
    go_enter Tryz.func58, Tryz.ntmps58
    go_wp2
    go_ret
    exact ⟨rfl, (Below.refl _ _).alloc (Nat.le_refl _) _⟩

set_option maxHeartbeats 4000000 in
theorem refRight_any (d : Int) (n : ByteArray) (w : World) (hs : n.size ≤ 1099511627776) :
    Calls Tryz.prog 61 #[Sp.tyV (d, n)] w fun e w' => e = .returned (.bool (Sp.rightS (d, n))) ∧ Below w.heap.size w w' := by
  have h1 := Lib.hid (fun W => refName_any n W (by omega))
  rw [Sp.refName_eq] at h1
  have HE := Lib.hid (show Sp.rightS (d, n) = _ by rw [Sp.rightS])
  simp only [] at HE
  generalize Sp.rightS (d, n) = R at HE ⊢
  unfold Sp.tyV
  simp only []
  generalize Sp.nameS n = v at h1 HE
  go_enter Tryz.func61, Tryz.ntmps61
  go_wp2_with fail
  refine (h1.out _).mono ?_
  rintro e w1 ⟨rfl, hb⟩
  have c0 : w1.cell? ⟨w.heap.size, 0, none⟩ = some (.int .i64 d) := cell_below hb (by simp)
  have c1 : w1.cell? ⟨w.heap.size, 1, none⟩ = some (.string n) := cell_below hb (by simp)
  have hb' := below_then ((Below.refl w.heap.size w).alloc (Nat.le_refl _) _) (by simp) hb
  by_cases q1 : 0 ≤ d
  · by_cases q2 : d ≤ 4
    · by_cases q3 : n.size = 0
      · have hR : R = true := by rw [HE.out]; simp [q1, q2, q3]
        obtain rfl := str_empty n q3
        subst hR
        clear HE
        go_wp2
        go_ret
        exact ⟨rfl, hb'⟩
      · have hR : R = v := by rw [HE.out]; simp [q1, q2, q3]
        have hne : (n.toList == []) = false := by
          rw [Bool.eq_false_iff]
          intro q
          have := (bytes_beq_iff n ⟨#[]⟩).1 (by simpa using q)
          rw [this] at q3
          exact q3 rfl
        subst hR
        clear HE
        go_wp2
        go_ret
        exact ⟨rfl, hb'⟩
    · have hR : R = false := by rw [HE.out]; simp [q2]
      subst hR
      clear HE
      go_wp2
      go_ret
      exact ⟨rfl, hb'⟩
  · have hR : R = false := by rw [HE.out]; simp [q1]
    subst hR
    clear HE
    go_wp2
    go_ret
    exact ⟨rfl, hb'⟩

set_option maxHeartbeats 4000000 in
theorem elem_any (d : Int) (n : ByteArray) (w : World) (hs : n.size ≤ 1099511627776) (hd : -9223372036854775808 ≤ d ∧ d ≤ 9223372036854775807) (hT : Tabs w) :
    Calls Tryz.prog 59 #[Sp.tyV (d, n)] w fun e w' => e = .returned (.tuple #[Sp.tyV (Sp.elemS (d, n)).1, .bool (Sp.elemS (d, n)).2]) ∧ Below w.heap.size w w' := by
  have h1 := Lib.hid (fun W hT => right_any d n W hs hT)
  have T0 := Lib.hid hT
  clear hT
  have HE := Lib.hid (show Sp.elemS (d, n) = _ by rw [Sp.elemS])
  have hrg : Sp.rightS (d, n) = true → 0 ≤ d ∧ d ≤ 4 := by
    intro q
    simp [Sp.rightS] at q
    exact q.1
  simp only [] at HE
  generalize Sp.elemS (d, n) = R at HE ⊢
  generalize Sp.rightS (d, n) = v at h1 HE hrg
  unfold Sp.tyV at h1 ⊢
  simp only [] at h1 ⊢
  go_enter Tryz.func59, Tryz.ntmps59
  go_wp2_with fail
  refine (h1.out _ (T0.out.below (((Below.refl _ _).alloc (Nat.le_refl _) _).alloc (by simp) _))).mono ?_
  rintro e w1 ⟨rfl, hb⟩
  obtain ⟨c0, f0⟩ := kept_cell hb ⟨w.heap.size, 0, none⟩ (.int .i64 d) (by simp)
  obtain ⟨c1, f1⟩ := kept_cell hb ⟨w.heap.size, 1, none⟩ (.string n) (by simp)
  obtain ⟨c2, f2⟩ := kept_cell hb ⟨w.heap.size + 1, 0, none⟩ (.int .i64 0) (by simp)
  obtain ⟨c3, f3⟩ := kept_cell hb ⟨w.heap.size + 1, 1, none⟩ (.string ⟨#[]⟩) (by simp)
  have hb' := below_then (((Below.refl w.heap.size w).alloc (Nat.le_refl _) _).alloc (by simp) _) (by simp; omega) hb
  by_cases q1 : v = true
  · subst q1
    by_cases q2 : d = 0
    · have hR : R = (Sp.t0, false) := by rw [HE.out]; simp [q2]
      subst hR
      clear HE
      go_wp2
      (try simp only [Exit.inBlock, Exit.then]); refine bodyPost_ret (results_ct rfl _ _ _ rfl (ty_load _ (w.heap.size + 1) 0 (x := .int .i64 0) (y := .string ⟨#[]⟩) (by (repeat (first | with_reducible assumption | (with_reducible apply World.cell?_setCell_same) | (with_reducible refine cell_alloc _ _ ?_) | (refine (World.cell?_setCell_other _ _ _ _ (by first | (simp; done) | (intro q; simp at q; done) | (intro q; simp at q; omega))).trans ?_)))) (by (repeat (first | with_reducible assumption | (with_reducible apply World.cell?_setCell_same) | (with_reducible refine cell_alloc _ _ ?_) | (refine (World.cell?_setCell_other _ _ _ _ (by first | (simp; done) | (intro q; simp at q; done) | (intro q; simp at q; omega))).trans ?_)))))) rfl ?_
      exact ⟨rfl, (hb'.setCell (p := ⟨w.heap.size + 1, 0, none⟩) (by simp) _).setCell (p := ⟨w.heap.size + 1, 1, none⟩) (by simp) _⟩
    · have hR : R = ((d - 1, n), true) := by rw [HE.out]; simp [q2]
      have := hrg rfl
      subst hR
      clear HE
      go_wp2
      (try simp only [Exit.inBlock, Exit.then]); refine bodyPost_ret (results_ct rfl _ _ _ rfl (ty_load _ (w.heap.size + 1) 0 (x := .int .i64 (d - 1)) (y := .string n) (by (repeat (first | with_reducible assumption | (with_reducible apply World.cell?_setCell_same) | (with_reducible refine cell_alloc _ _ ?_) | (refine (World.cell?_setCell_other _ _ _ _ (by first | (simp; done) | (intro q; simp at q; done) | (intro q; simp at q; omega))).trans ?_)))) (by (repeat (first | with_reducible assumption | (with_reducible apply World.cell?_setCell_same) | (with_reducible refine cell_alloc _ _ ?_) | (refine (World.cell?_setCell_other _ _ _ _ (by first | (simp; done) | (intro q; simp at q; done) | (intro q; simp at q; omega))).trans ?_)))))) rfl ?_
      exact ⟨rfl, ((hb'.setCell (p := ⟨w.heap.size, 0, none⟩) (by simp) _).setCell (p := ⟨w.heap.size + 1, 0, none⟩) (by simp) _).setCell (p := ⟨w.heap.size + 1, 1, none⟩) (by simp) _⟩
  · have q1 : v = false := by simpa using q1
    have hR : R = (Sp.t0, false) := by rw [HE.out]; simp [q1]
    subst hR q1
    clear HE
    go_wp2
    (try simp only [Exit.inBlock, Exit.then]); refine bodyPost_ret (results_ct rfl _ _ _ rfl (ty_load _ (w.heap.size + 1) 0 (x := .int .i64 0) (y := .string ⟨#[]⟩) (by (repeat (first | with_reducible assumption | (with_reducible apply World.cell?_setCell_same) | (with_reducible refine cell_alloc _ _ ?_) | (refine (World.cell?_setCell_other _ _ _ _ (by first | (simp; done) | (intro q; simp at q; done) | (intro q; simp at q; omega))).trans ?_)))) (by (repeat (first | with_reducible assumption | (with_reducible apply World.cell?_setCell_same) | (with_reducible refine cell_alloc _ _ ?_) | (refine (World.cell?_setCell_other _ _ _ _ (by first | (simp; done) | (intro q; simp at q; done) | (intro q; simp at q; omega))).trans ?_)))))) rfl ?_
    exact ⟨rfl, (hb'.setCell (p := ⟨w.heap.size + 1, 0, none⟩) (by simp) _).setCell (p := ⟨w.heap.size + 1, 1, none⟩) (by simp) _⟩
end Go.Proofs.YtfjplmbknegidaaGreatDoor
end
section
/-
  Walks of chapter 2's small functions: ArrayOf, IsRef and the reference's.
-/
set_option linter.unusedVariables false
set_option linter.unusedSimpArgs false
namespace Go.Proofs.YtfjplmbknegidaaGreatDoor
open Go.RowKit Go.Lib

set_option maxHeartbeats 4000000 in
theorem isRef_any (d : Int) (n : ByteArray) (w : World) (hs : n.size ≤ 1099511627776) (hT : Tabs w) :
    Calls Tryz.prog 35 #[Sp.tyV (d, n)] w fun e w' => e = .returned (.bool (Sp.isRefS (d, n))) ∧ Below w.heap.size w w' := by
  have h1 := Lib.hid (fun W hT => right_any d n W hs hT)
  have T0 := Lib.hid hT
  clear hT
  have HE := Lib.hid (show Sp.isRefS (d, n) = _ by rw [Sp.isRefS])
  have hrg : Sp.rightS (d, n) = true → 0 ≤ d ∧ d ≤ 4 := by
    intro q
    simp [Sp.rightS] at q
    exact q.1
  simp only [] at HE
  generalize Sp.isRefS (d, n) = R at HE ⊢
  generalize Sp.rightS (d, n) = v at h1 HE hrg
  unfold Sp.tyV at h1 ⊢
  simp only [] at h1 ⊢
  go_enter Tryz.func35, Tryz.ntmps35
  go_wp2_with fail
  refine (h1.out _ (T0.out.below ((Below.refl _ _).alloc (Nat.le_refl _) _))).mono ?_
  rintro e w1 ⟨rfl, hb⟩
  obtain ⟨c0, f0⟩ := kept_cell hb ⟨w.heap.size, 0, none⟩ (.int .i64 d) (by simp)
  obtain ⟨c1, f1⟩ := kept_cell hb ⟨w.heap.size, 1, none⟩ (.string n) (by simp)
  have hb' := below_then ((Below.refl w.heap.size w).alloc (Nat.le_refl _) _) (by simp) hb
  cases v with
  | false =>
    have hR : R = false := by rw [HE.out]; simp
    subst hR
    clear HE
    go_wp2
    go_ret
    exact ⟨rfl, hb'⟩
  | true =>
    have hrg := hrg rfl
    by_cases q1 : d = 0
    · by_cases q2 : n.size = 0
      · have hR : R = false := by rw [HE.out]; simp [q1, q2]
        obtain rfl := str_empty n q2
        subst hR q1
        clear HE
        go_wp2
        go_ret
        exact ⟨by simp, hb'⟩
      · have hR : R = true := by rw [HE.out]; simp [q2]
        have hne : (n.toList == []) = false := by
          rw [Bool.eq_false_iff]
          intro q
          have := (bytes_beq_iff n ⟨#[]⟩).1 (by simpa using q)
          rw [this] at q2
          exact q2 rfl
        subst hR q1
        clear HE
        go_wp2
        go_ret
        exact ⟨by simp, hb'⟩
    · have hR : R = true := by rw [HE.out]; simp; omega
      have hnb : (d == 0) = false := by rw [beq_eq_false_iff_ne]; exact q1
      subst hR
      clear HE
      go_wp2
      go_ret
      exact ⟨by simp, hb'⟩

set_option maxHeartbeats 4000000 in
theorem refIsRef_any (d : Int) (n : ByteArray) (w : World) (hs : n.size ≤ 1099511627776) :
    Calls Tryz.prog 38 #[Sp.tyV (d, n)] w fun e w' => e = .returned (.bool (Sp.isRefS (d, n))) ∧ Below w.heap.size w w' := by
  have h1 := Lib.hid (fun W => refRight_any d n W hs)
  have HE := Lib.hid (show Sp.isRefS (d, n) = _ by rw [Sp.isRefS])
  simp only [] at HE
  generalize Sp.isRefS (d, n) = R at HE ⊢
  generalize Sp.rightS (d, n) = v at h1 HE
  unfold Sp.tyV at h1 ⊢
  simp only [] at h1 ⊢
  go_enter Tryz.func38, Tryz.ntmps38
  go_wp2_with fail
  refine (h1.out _).mono ?_
  rintro e w1 ⟨rfl, hb⟩
  obtain ⟨c0, f0⟩ := kept_cell hb ⟨w.heap.size, 0, none⟩ (.int .i64 d) (by simp)
  obtain ⟨c1, f1⟩ := kept_cell hb ⟨w.heap.size, 1, none⟩ (.string n) (by simp)
  have hb' := below_then ((Below.refl w.heap.size w).alloc (Nat.le_refl _) _) (by simp) hb
  cases v with
  | false =>
    have hR : R = false := by rw [HE.out]; simp
    subst hR
    clear HE
    go_wp2
    go_ret
    exact ⟨rfl, hb'⟩
  | true =>
    by_cases q1 : 0 < d
    · have hR : R = true := by rw [HE.out]; simp [q1]
      subst hR
      clear HE
      go_wp2
      go_ret
      exact ⟨rfl, hb'⟩
    · by_cases q2 : n.size = 0
      · have hR : R = false := by rw [HE.out]; simp [q1, q2]
        obtain rfl := str_empty n q2
        subst hR
        clear HE
        go_wp2
        go_ret
        exact ⟨by simp; omega, hb'⟩
      · have hR : R = true := by rw [HE.out]; simp [q2]
        have hne : (n.toList == []) = false := by
          rw [Bool.eq_false_iff]
          intro q
          have := (bytes_beq_iff n ⟨#[]⟩).1 (by simpa using q)
          rw [this] at q2
          exact q2 rfl
        subst hR
        clear HE
        go_wp2
        go_ret
        exact ⟨rfl, hb'⟩
end Go.Proofs.YtfjplmbknegidaaGreatDoor
end
section
/-
  Walks of chapter 2's Write and the reference's.
-/
set_option linter.unusedVariables false
set_option linter.unusedSimpArgs false
namespace Go.Proofs.YtfjplmbknegidaaGreatDoor
open Go.RowKit Go.Lib

namespace Sp
theorem rep_one (k : Nat) : (⟨(Lib.repeatL (⟨#[91]⟩ : ByteArray).data.toList k).toArray⟩ : ByteArray) = B (List.replicate k 91) := by
  have : Lib.repeatL (⟨#[91]⟩ : ByteArray).data.toList k = List.replicate k 91 := by
    have := Lib.repeatL_replicate 91 1 k
    simpa using this
  rw [this]; rfl
theorem rep_size (k : Nat) : (B (List.replicate k 91)).size = k := by rw [B_size]; simp
theorem nameB_some (k : Nat) (n : ByteArray) (h : ¬ n.size = 0) : (B (List.replicate k 91) ++ ⟨#[76]⟩) ++ n ++ ⟨#[59]⟩ = B (List.replicate k 91 ++ nameB n) := by
  have e1 : (⟨#[76]⟩ : ByteArray) = B [76] := rfl
  have e2 : (⟨#[59]⟩ : ByteArray) = B [59] := rfl
  have e3 : n = B n.data.toList := rfl
  rw [nameB, if_neg h]
  conv => lhs; rw [e1, e2, e3]
  rw [B_append, B_append, B_append]
  simp
theorem nameB_none (k : Nat) (n : ByteArray) (h : n.size = 0) : B (List.replicate k 91) ++ ⟨#[73]⟩ = B (List.replicate k 91 ++ nameB n) := by
  have e1 : (⟨#[73]⟩ : ByteArray) = B [73] := rfl
  rw [nameB, if_pos h, e1, B_append]
end Sp

set_option maxHeartbeats 8000000 in
set_option maxRecDepth 100000 in
theorem write_any (d : Int) (n : ByteArray) (w : World) (hs : n.size ≤ 1099511627776) (hT : Tabs w) :
    Calls Tryz.prog 57 #[Sp.tyV (d, n)] w fun e w' => e = .returned (.tuple #[.string (Sp.writeS (d, n)).1, .int .i64 (Sp.writeS (d, n)).2]) ∧ Below w.heap.size w w' := by
  have h1 := Lib.hid (fun W hT => right_any d n W hs hT)
  have T0 := Lib.hid hT
  clear hT
  have HE := Lib.hid (show Sp.writeS (d, n) = _ by rw [Sp.writeS])
  have hrg : Sp.rightS (d, n) = true → 0 ≤ d ∧ d ≤ 4 := by
    intro q
    simp [Sp.rightS] at q
    exact q.1
  simp only [] at HE
  generalize Sp.writeS (d, n) = R at HE ⊢
  generalize Sp.rightS (d, n) = v at h1 HE hrg
  unfold Sp.tyV at h1 ⊢
  simp only [] at h1 ⊢
  go_enter Tryz.func57, Tryz.ntmps57
  go_wp2_with fail
  refine (h1.out _ (T0.out.below ((Below.refl _ _).alloc (Nat.le_refl _) _))).mono ?_
  rintro e w1 ⟨rfl, hb⟩
  obtain ⟨c0, f0⟩ := kept_cell hb ⟨w.heap.size, 0, none⟩ (.int .i64 d) (by simp)
  obtain ⟨c1, f1⟩ := kept_cell hb ⟨w.heap.size, 1, none⟩ (.string n) (by simp)
  have hb' := below_then ((Below.refl w.heap.size w).alloc (Nat.le_refl _) _) (by simp) hb
  have S1 := hb'.size
  cases v with
  | false =>
    have hR : R = (⟨#[]⟩, 9) := by rw [HE.out]; simp
    subst hR
    clear HE
    go_wp2
    go_ret2
    exact ⟨rfl, hb'⟩
  | true =>
    have hrg := hrg rfl
    obtain ⟨k, rfl⟩ : ∃ k : Nat, d = k := ⟨d.toNat, by omega⟩
    have hrep := Lib.hid (fun W => Tryz.strings_Repeat ⟨#[91]⟩ k W (by omega) (by show 1 * k ≤ _; omega))
    rw [Sp.rep_one] at hrep
    have hrs := Sp.rep_size k
    have hR : R = (Sp.B (List.replicate k 91 ++ Sp.nameB n), 0) := by rw [HE.out]; simp
    clear HE
    by_cases q2 : n.size = 0
    · rw [← Sp.nameB_none k n q2] at hR
      obtain rfl := str_empty n q2
      subst hR
      go_wp2_with fail
      refine (hrep.out _).mono ?_
      rintro e w2 ⟨rfl, hb2⟩
      go_wp2
      go_ret2
      exact ⟨by simp, below_then hb' S1 hb2⟩
    · rw [← Sp.nameB_some k n q2] at hR
      have hne : (n.toList == []) = false := by
        rw [Bool.eq_false_iff]
        intro q
        have := (bytes_beq_iff n ⟨#[]⟩).1 (by simpa using q)
        rw [this] at q2
        exact q2 rfl
      subst hR
      go_wp2_with fail
      go_region_with (go_at_call 74; refine (hrep.out _).mono ?_; rintro e w2 ⟨rfl, hb2⟩; obtain ⟨c0', f0'⟩ := kept_cell hb2 ⟨w.heap.size, 0, none⟩ (.int .i64 k) ⟨c0, f0⟩; obtain ⟨c1', f1'⟩ := kept_cell hb2 ⟨w.heap.size, 1, none⟩ (.string n) ⟨c1, f1⟩)
      all_goals
        go_wp2
        go_ret2
        refine ⟨by simp, ?_⟩
        first | exact below_then hb' S1 hb2 | exact below_then hb'.drew S1 hb2

end Go.Proofs.YtfjplmbknegidaaGreatDoor
end
section
/-
  Walks of strings.Cut at one byte, and of (*strings.Builder).WriteString in this cut (turned from the kit's shelf).
-/
set_option linter.unusedVariables false
set_option linter.unusedSimpArgs false
namespace Go.Proofs.YtfjplmbknegidaaGreatDoor
open Go.RowKit Go.Lib

namespace Sp
/-- The place of a byte's first. -/
def ixB (l : List UInt8) (c : UInt8) : Int := Lib.indexByte l c
end Sp

set_option maxHeartbeats 4000000 in
theorem slcut1_any (s : ByteArray) (c : UInt8) (w : World) (hs : s.size ≤ 140737488351232) (hr : Lib.indexByte s.data.toList c < s.size ∧ -1 ≤ Lib.indexByte s.data.toList c) :
    Calls Tryz.prog 146 #[.string s, .string ⟨#[c]⟩] w fun e w' =>
      e = .returned (if 0 ≤ Lib.indexByte s.data.toList c then .tuple #[.string (s.extract 0 (Lib.indexByte s.data.toList c).toNat), .string (s.extract ((Lib.indexByte s.data.toList c).toNat + 1) s.size), .bool true] else .tuple #[.string s, .string ⟨#[]⟩, .bool false]) ∧ Below w.heap.size w w' := by
  have h1 := Lib.hid (Tryz.stringslite_Index_one s c w)
  generalize Lib.indexByte s.data.toList c = i at *
  have hc1 : (⟨#[c]⟩ : ByteArray).size = 1 := rfl
  by_cases hi : 0 ≤ i
  · obtain ⟨k, rfl⟩ : ∃ k : Nat, i = k := ⟨i.toNat, by omega⟩
    simp only [Int.toNat_natCast]
    go_enter Tryz.func146, Tryz.ntmps146
    go_wp2_with fail
    refine h1.out.mono ?_
    rintro e w1 ⟨rfl, rfl⟩
    go_wp2
    go_quiet (fail)
    go_wp2
    go_ret3
    exact ⟨by simp, below_drewNv (Below.refl _ _) _⟩
  · rw [if_neg hi]
    go_enter Tryz.func146, Tryz.ntmps146
    go_wp2_with fail
    refine h1.out.mono ?_
    rintro e w1 ⟨rfl, rfl⟩
    go_wp2
    go_ret3
    exact ⟨rfl, Below.refl _ _⟩

set_option maxHeartbeats 4000000 in
theorem cut1_any (s : ByteArray) (c : UInt8) (w : World) (hs : s.size ≤ 140737488351232) (hr : Lib.indexByte s.data.toList c < s.size ∧ -1 ≤ Lib.indexByte s.data.toList c) :
    Calls Tryz.prog 141 #[.string s, .string ⟨#[c]⟩] w fun e w' =>
      e = .returned (if 0 ≤ Lib.indexByte s.data.toList c then .tuple #[.string (s.extract 0 (Lib.indexByte s.data.toList c).toNat), .string (s.extract ((Lib.indexByte s.data.toList c).toNat + 1) s.size), .bool true] else .tuple #[.string s, .string ⟨#[]⟩, .bool false]) ∧ Below w.heap.size w w' := by
  have h1 := Lib.hid (slcut1_any s c w hs hr)
  generalize Lib.indexByte s.data.toList c = i at *
  by_cases hi : 0 ≤ i
  · rw [if_pos hi] at h1 ⊢
    go_enter Tryz.func141, Tryz.ntmps141
    go_wp2_with fail
    refine h1.out.mono ?_
    rintro e w1 ⟨rfl, hb⟩
    go_wp2
    go_ret3
    exact ⟨rfl, hb⟩
  · rw [if_neg hi] at h1 ⊢
    go_enter Tryz.func141, Tryz.ntmps141
    go_wp2_with fail
    refine h1.out.mono ?_
    rintro e w1 ⟨rfl, hb⟩
    go_wp2
    go_ret3
    exact ⟨rfl, hb⟩

set_option maxHeartbeats 2000000 in
set_option maxRecDepth 100000 in
theorem writeString_k (B b : Nat) (bs : List Value) (s : ByteArray) (w : World) (h : Lib.IsBuilderF 130 5 B b bs w) (hlen : bs.length + s.size ≤ 140737488355328) (hBw : B ≤ w.heap.size) :
    Calls Tryz.prog 96 #[.pointer (some ⟨b, 0, none⟩), .string s] w fun e w' => e = .returned (.tuple #[.int .i64 s.size, .nilIface]) ∧ (Lib.BuilderAtF 130 5 B b (.pointer (some ⟨b, 0, none⟩)) (bs ++ Lib.strCells s) w' ∧ Below B w w' ∧ Lib.OthersKept 5 (some b) w w') := by
  obtain ⟨i0, hi, hz0, hz1, hz2⟩ := info_parts infoByte
  go_enter Tryz.func96, Tryz.ntmps96
  go_wp2_with (go_at_call 118; refine (copyCheck_k B b bs _ h).mono ?_)
  rintro e w1 ⟨rfl, h1, hb1, hk1⟩
  obtain ⟨hB, v, hbk, hown, hne⟩ := h1
  have c0 : w1.cell? ⟨b, 0, none⟩ = some (.pointer (some ⟨b, 0, none⟩)) := by rw [Lib.cell_of_heap hbk]; rfl
  have c1 : w1.cell? ⟨b, 1, none⟩ = some v := by rw [Lib.cell_of_heap hbk]; rfl
  go_wp2_with (at_builtin; refine Lib.wpList_append_own_stringF _ rfl _ _ 114 9 rfl B 5 i0 Tryz.underlying114 Tryz.underlying9 hi hz0 hz1 hz2 _ _ _ rfl hown s rfl ?c3 ?c4 ?c5 ?_)
  case c3 => unfold maxLen; omega
  case c4 => omega
  case c5 => have := hb1.size; omega
  intro v' w2 hown' hgrow _
  have hlt : b < w1.heap.size := by
    rcases Nat.lt_or_ge b w1.heap.size with h' | h'
    · exact h'
    · simp [Array.getElem?_eq_none h'] at hbk
  have hb2 : w2.heap[b]? = some (.cells #[.pointer (some ⟨b, 0, none⟩), v] 130 (0, 0)) := by
    rw [hgrow.block b hlt (fun e => hne e.symm)]
    exact hbk
  have d0 : w2.cell? ⟨b, 0, none⟩ = some (.pointer (some ⟨b, 0, none⟩)) := by rw [Lib.cell_of_heap hb2]; rfl
  have d1 : w2.cell? ⟨b, 1, none⟩ = some v := by rw [Lib.cell_of_heap hb2]; rfl
  have f1 : w2.frozen? ⟨b, 1, none⟩ = false := Lib.frozen_of_heap hb2 1
  obtain ⟨ao, n', cap, rfl⟩ : ∃ ao n' cap, v' = .slice ao n' cap := by
    rcases hown'.2 with ⟨hv, _⟩ | ⟨g, cap, cur, fz, hv, _⟩
    · exact ⟨_, _, _, hv⟩
    · exact ⟨_, _, _, hv⟩
  go_wp2
  go_ret2
  refine ⟨rfl, ?_, ?_, (hk1.grown hgrow (Lib.ownsRowF_kind hown)).setCell ⟨b, 1, none⟩ rfl _⟩
  · exact Lib.BuilderAtF.put (T := 130) (e := 5) hB hb2 (bs' := bs ++ Lib.strCells s) (by simpa [Lib.strCells_length] using hown') (by decide)
  · exact (hb1.grown hgrow (by have := hb1.size; omega) (fun k hk => (hown.lt k hk).1)).setCell (p := ⟨b, 1, none⟩) hB _
end Go.Proofs.YtfjplmbknegidaaGreatDoor
end
