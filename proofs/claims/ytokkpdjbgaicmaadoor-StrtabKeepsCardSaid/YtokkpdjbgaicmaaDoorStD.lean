/-
  Plain: the reference's decoder is the model's.
-/
import Derived.Test.YtokkpdjbgaicmaaDoorStC
import Derived.Lib.IndexBytes
set_option linter.unusedVariables false
set_option linter.unusedSimpArgs false
namespace Go.Proofs.YtokkpdjbgaicmaaDoor.Sp
open Go.Lib

theorem get_bt (s : ByteArray) (p k : Nat) (h : p + k < s.size) : ((s.get! (p + k)).toNat : Int) = bt s (p + k) := by
  rw [bt, dif_pos h]
  have : s.get! (p + k) = s[p + k] := by
    simp [ByteArray.get!, getElem!_pos, h]
    rfl
  rw [this]

/-- What the reference's next tells, by numbers. -/
theorem refNext_num (s : ByteArray) (n0 n1 n2 n3 : Nat) (h0 : 0 < s.size) (e0 : bt s 0 = n0) (e1 : 1 < s.size → bt s 1 = n1) (e2 : 2 < s.size → bt s 2 = n2) (e3 : 3 < s.size → bt s 3 = n3) (b0 : n0 < 256) (b1 : n1 < 256) (b2 : n2 < 256) (b3 : n3 < 256)
    (z1 : ¬ 1 < s.size → n1 = 0) (z2 : ¬ 2 < s.size → n2 = 0) (z3 : ¬ 3 < s.size → n3 = 0) :
    refNext s =
      if n0 < 128 then ((n0 : Int), 1)
      else if 194 ≤ n0 ∧ n0 < 224 ∧ n1 / 64 = 2 then ((((n0 % 32) * 64 + n1 % 64 : Nat) : Int), 2)
      else if 224 ≤ n0 ∧ n0 < 240 ∧ n1 / 64 = 2 ∧ n2 / 64 = 2 ∧ 2048 ≤ (n0 % 16) * 4096 + n1 % 64 * 64 + n2 % 64 ∧ ¬ (55296 ≤ (n0 % 16) * 4096 + n1 % 64 * 64 + n2 % 64 ∧ (n0 % 16) * 4096 + n1 % 64 * 64 + n2 % 64 < 57344) then ((((n0 % 16) * 4096 + n1 % 64 * 64 + n2 % 64 : Nat) : Int), 3)
      else if 240 ≤ n0 ∧ n0 < 245 ∧ n1 / 64 = 2 ∧ n2 / 64 = 2 ∧ n3 / 64 = 2 ∧ 65536 ≤ (n0 % 8) * 262144 + n1 % 64 * 4096 + n2 % 64 * 64 + n3 % 64 ∧ (n0 % 8) * 262144 + n1 % 64 * 4096 + n2 % 64 * 64 + n3 % 64 ≤ 1114111 then ((((n0 % 8) * 262144 + n1 % 64 * 4096 + n2 % 64 * 64 + n3 % 64 : Nat) : Int), 4)
      else (0, 0) := by
  unfold refNext
  rw [e0]
  by_cases c1 : n0 < 128
  · rw [if_pos (by omega), if_pos c1]
  rw [if_neg (by omega), if_neg c1]
  by_cases c2 : 194 ≤ n0 ∧ n0 < 224
  · rw [if_pos (by omega)]
    unfold goN
    by_cases hs : s.size < 2
    · have := z1 (by omega)
      rw [if_pos hs, if_neg (by omega), if_neg (by omega), if_neg (by omega)]
    · rw [if_neg hs]
      simp only [show 2 - 1 = 0 + 1 from rfl, contG, e1 (by omega)]
      by_cases g1 : n1 / 64 = 2
      · rw [if_pos (by omega), if_pos (by omega)]
        simp only [finN]
        rw [if_neg (by omega)]
        refine Prod.ext ?_ rfl
        simp only []
        omega
      · rw [if_neg (by omega), if_neg (by omega), if_neg (by omega), if_neg (by omega)]
  rw [if_neg (by omega), if_neg (by omega : ¬ (194 ≤ n0 ∧ n0 < 224 ∧ n1 / 64 = 2))]
  by_cases c3 : 224 ≤ n0 ∧ n0 < 240
  · rw [if_pos (by omega)]
    unfold goN
    by_cases hs : s.size < 3
    · have := z2 (by omega)
      rw [if_pos hs, if_neg (by omega), if_neg (by omega)]
    · rw [if_neg hs]
      simp only [show 3 - 1 = 0 + 1 + 1 from rfl, contG, e1 (by omega), e2 (by omega), Nat.reduceAdd]
      by_cases g1 : n1 / 64 = 2
      · rw [if_pos (by omega : 128 ≤ (n1 : Int) ∧ (n1 : Int) < 192)]
        by_cases g2 : n2 / 64 = 2
        · rw [if_pos (by omega : 128 ≤ (n2 : Int) ∧ (n2 : Int) < 192)]
          simp only [finN]
          by_cases g3 : 2048 ≤ (n0 % 16) * 4096 + n1 % 64 * 64 + n2 % 64 ∧ ¬ (55296 ≤ (n0 % 16) * 4096 + n1 % 64 * 64 + n2 % 64 ∧ (n0 % 16) * 4096 + n1 % 64 * 64 + n2 % 64 < 57344)
          · rw [if_neg (by omega), if_pos (by omega)]
            refine Prod.ext ?_ rfl
            simp only []
            omega
          · rw [if_pos (by omega), if_neg (by omega), if_neg (by omega)]
        · rw [if_neg (by omega : ¬ (128 ≤ (n2 : Int) ∧ (n2 : Int) < 192)), if_neg (by omega), if_neg (by omega)]
      · rw [if_neg (by omega : ¬ (128 ≤ (n1 : Int) ∧ (n1 : Int) < 192)), if_neg (by omega), if_neg (by omega)]
  rw [if_neg (by omega), if_neg (by omega : ¬ (224 ≤ n0 ∧ n0 < 240 ∧ n1 / 64 = 2 ∧ n2 / 64 = 2 ∧ 2048 ≤ (n0 % 16) * 4096 + n1 % 64 * 64 + n2 % 64 ∧ ¬ (55296 ≤ (n0 % 16) * 4096 + n1 % 64 * 64 + n2 % 64 ∧ (n0 % 16) * 4096 + n1 % 64 * 64 + n2 % 64 < 57344)))]
  by_cases c4 : 240 ≤ n0 ∧ n0 < 245
  · rw [if_pos (by omega)]
    unfold goN
    by_cases hs : s.size < 4
    · have := z3 (by omega)
      rw [if_pos hs, if_neg (by omega)]
    · rw [if_neg hs]
      simp only [show 4 - 1 = 0 + 1 + 1 + 1 from rfl, contG, e1 (by omega), e2 (by omega), e3 (by omega), Nat.reduceAdd]
      by_cases g1 : n1 / 64 = 2
      · rw [if_pos (by omega : 128 ≤ (n1 : Int) ∧ (n1 : Int) < 192)]
        by_cases g2 : n2 / 64 = 2
        · rw [if_pos (by omega : 128 ≤ (n2 : Int) ∧ (n2 : Int) < 192)]
          by_cases g3 : n3 / 64 = 2
          · rw [if_pos (by omega : 128 ≤ (n3 : Int) ∧ (n3 : Int) < 192)]
            simp only [finN]
            by_cases g4 : 65536 ≤ (n0 % 8) * 262144 + n1 % 64 * 4096 + n2 % 64 * 64 + n3 % 64 ∧ (n0 % 8) * 262144 + n1 % 64 * 4096 + n2 % 64 * 64 + n3 % 64 ≤ 1114111
            · rw [if_neg (by omega), if_pos (by omega)]
              refine Prod.ext ?_ rfl
              simp only []
              omega
            · rw [if_pos (by omega), if_neg (by omega)]
          · rw [if_neg (by omega : ¬ (128 ≤ (n3 : Int) ∧ (n3 : Int) < 192)), if_neg (by omega)]
        · rw [if_neg (by omega : ¬ (128 ≤ (n2 : Int) ∧ (n2 : Int) < 192)), if_neg (by omega)]
      · rw [if_neg (by omega : ¬ (128 ≤ (n1 : Int) ∧ (n1 : Int) < 192)), if_neg (by omega)]
  rw [if_neg (by omega), if_neg (by omega)]

set_option maxHeartbeats 4000000 in
/-- What the model's decoder tells, by numbers. -/
theorem decode_num (s : ByteArray) (p n0 n1 n2 n3 : Nat) (e0 : (s.get! (p + 0)).toNat = n0) (e1 : p + 1 < s.size → (s.get! (p + 1)).toNat = n1) (e2 : p + 2 < s.size → (s.get! (p + 2)).toNat = n2) (e3 : p + 3 < s.size → (s.get! (p + 3)).toNat = n3) (b0 : n0 < 256) (b1 : n1 < 256) (b2 : n2 < 256) (b3 : n3 < 256)
    (z1 : ¬ p + 1 < s.size → n1 = 0) (z2 : ¬ p + 2 < s.size → n2 = 0) (z3 : ¬ p + 3 < s.size → n3 = 0) :
    Utf8.decode s p =
      if n0 < 128 then (n0, 1)
      else if 194 ≤ n0 ∧ n0 < 224 ∧ n1 / 64 = 2 then ((n0 % 32) * 64 + n1 % 64, 2)
      else if 224 ≤ n0 ∧ n0 < 240 ∧ n1 / 64 = 2 ∧ n2 / 64 = 2 ∧ 2048 ≤ (n0 % 16) * 4096 + n1 % 64 * 64 + n2 % 64 ∧ ¬ (55296 ≤ (n0 % 16) * 4096 + n1 % 64 * 64 + n2 % 64 ∧ (n0 % 16) * 4096 + n1 % 64 * 64 + n2 % 64 < 57344) then ((n0 % 16) * 4096 + n1 % 64 * 64 + n2 % 64, 3)
      else if 240 ≤ n0 ∧ n0 < 245 ∧ n1 / 64 = 2 ∧ n2 / 64 = 2 ∧ n3 / 64 = 2 ∧ 65536 ≤ (n0 % 8) * 262144 + n1 % 64 * 4096 + n2 % 64 * 64 + n3 % 64 ∧ (n0 % 8) * 262144 + n1 % 64 * 4096 + n2 % 64 * 64 + n3 % 64 ≤ 1114111 then ((n0 % 8) * 262144 + n1 % 64 * 4096 + n2 % 64 * 64 + n3 % 64, 4)
      else (65533, 1) := by
  have k1 : (decide (p + 1 < s.size) && (s.get! (p + 1)).toNat / 64 == 2) = decide (n1 / 64 = 2) := by
    by_cases h : p + 1 < s.size
    · rw [e1 h]; simp [h]; rfl
    · rw [z1 h]; simp [h]
  have k2 : (decide (p + 2 < s.size) && (s.get! (p + 2)).toNat / 64 == 2) = decide (n2 / 64 = 2) := by
    by_cases h : p + 2 < s.size
    · rw [e2 h]; simp [h]; rfl
    · rw [z2 h]; simp [h]
  have k3 : (decide (p + 3 < s.size) && (s.get! (p + 3)).toNat / 64 == 2) = decide (n3 / 64 = 2) := by
    by_cases h : p + 3 < s.size
    · rw [e3 h]; simp [h]; rfl
    · rw [z3 h]; simp [h]
  have f1 : n1 / 64 = 2 → (s.get! (p + 1)).toNat = n1 := fun h => e1 (by by_cases q : p + 1 < s.size; exact q; have := z1 q; omega)
  have f2 : n2 / 64 = 2 → (s.get! (p + 2)).toNat = n2 := fun h => e2 (by by_cases q : p + 2 < s.size; exact q; have := z2 q; omega)
  have f3 : n3 / 64 = 2 → (s.get! (p + 3)).toNat = n3 := fun h => e3 (by by_cases q : p + 3 < s.size; exact q; have := z3 q; omega)
  simp only [Utf8.decode, k1, k2, k3, e0, Utf8.runeError, Utf8.valid]
  clear k1 k2 k3 e1 e2 e3 z1 z2 z3
  by_cases c1 : n0 < 128
  · rw [if_pos c1, if_pos c1]
  rw [if_neg c1, if_neg c1]
  by_cases g1 : n1 / 64 = 2
  · rw [f1 g1]
    by_cases g2 : n2 / 64 = 2
    · rw [f2 g2]
      by_cases g3 : n3 / 64 = 2
      · rw [f3 g3]
        repeat' split
        all_goals first | with_reducible rfl | (exfalso; simp at *; omega) | (simp at *; omega)
      · repeat' split
        all_goals first | with_reducible rfl | (exfalso; simp at *; omega) | (simp at *; omega)
    · repeat' split
      all_goals first | with_reducible rfl | (exfalso; simp at *; omega) | (simp at *; omega)
  · repeat' split
    all_goals first | with_reducible rfl | (exfalso; simp at *; omega) | (simp at *; omega)

/-- The byte at a place, 0 behind the end. -/
def nb (s : ByteArray) (p : Nat) : Nat := if p < s.size then (s.get! p).toNat else 0
theorem nb_lt (s : ByteArray) (p : Nat) : nb s p < 256 := by
  unfold nb
  split
  · exact (s.get! p).toNat_lt
  · omega
theorem nb_out (s : ByteArray) (p : Nat) (h : ¬ p < s.size) : nb s p = 0 := by rw [nb, if_neg h]
theorem nb_in (s : ByteArray) (p : Nat) (h : p < s.size) : (s.get! p).toNat = nb s p := by rw [nb, if_pos h]
theorem bt_nb (s : ByteArray) (p : Nat) : bt s p = nb s p := by
  by_cases h : p < s.size
  · have := get_bt s p 0 (by omega)
    simp only [Nat.add_zero] at this
    rw [← this, nb_in s p h]
  · rw [nb_out s p h, bt, dif_neg h]; rfl

theorem decode_nb (s : ByteArray) (p : Nat) (h : p < s.size) : Utf8.decode s p =
      if (nb s p) < 128 then ((nb s p), 1)
      else if 194 ≤ (nb s p) ∧ (nb s p) < 224 ∧ (nb s (p + 1)) / 64 = 2 then (((nb s p) % 32) * 64 + (nb s (p + 1)) % 64, 2)
      else if 224 ≤ (nb s p) ∧ (nb s p) < 240 ∧ (nb s (p + 1)) / 64 = 2 ∧ (nb s (p + 2)) / 64 = 2 ∧ 2048 ≤ ((nb s p) % 16) * 4096 + (nb s (p + 1)) % 64 * 64 + (nb s (p + 2)) % 64 ∧ ¬ (55296 ≤ ((nb s p) % 16) * 4096 + (nb s (p + 1)) % 64 * 64 + (nb s (p + 2)) % 64 ∧ ((nb s p) % 16) * 4096 + (nb s (p + 1)) % 64 * 64 + (nb s (p + 2)) % 64 < 57344) then (((nb s p) % 16) * 4096 + (nb s (p + 1)) % 64 * 64 + (nb s (p + 2)) % 64, 3)
      else if 240 ≤ (nb s p) ∧ (nb s p) < 245 ∧ (nb s (p + 1)) / 64 = 2 ∧ (nb s (p + 2)) / 64 = 2 ∧ (nb s (p + 3)) / 64 = 2 ∧ 65536 ≤ ((nb s p) % 8) * 262144 + (nb s (p + 1)) % 64 * 4096 + (nb s (p + 2)) % 64 * 64 + (nb s (p + 3)) % 64 ∧ ((nb s p) % 8) * 262144 + (nb s (p + 1)) % 64 * 4096 + (nb s (p + 2)) % 64 * 64 + (nb s (p + 3)) % 64 ≤ 1114111 then (((nb s p) % 8) * 262144 + (nb s (p + 1)) % 64 * 4096 + (nb s (p + 2)) % 64 * 64 + (nb s (p + 3)) % 64, 4)
      else (65533, 1) := decode_num s p (nb s p) (nb s (p + 1)) (nb s (p + 2)) (nb s (p + 3)) (nb_in s p h) (fun h => nb_in s _ h) (fun h => nb_in s _ h) (fun h => nb_in s _ h) (nb_lt _ _) (nb_lt _ _) (nb_lt _ _) (nb_lt _ _) (nb_out s _) (nb_out s _) (nb_out s _)
theorem refNext_nb (s : ByteArray) (h : 0 < s.size) : refNext s =
      if (nb s 0) < 128 then (((nb s 0) : Int), 1)
      else if 194 ≤ (nb s 0) ∧ (nb s 0) < 224 ∧ (nb s 1) / 64 = 2 then (((((nb s 0) % 32) * 64 + (nb s 1) % 64 : Nat) : Int), 2)
      else if 224 ≤ (nb s 0) ∧ (nb s 0) < 240 ∧ (nb s 1) / 64 = 2 ∧ (nb s 2) / 64 = 2 ∧ 2048 ≤ ((nb s 0) % 16) * 4096 + (nb s 1) % 64 * 64 + (nb s 2) % 64 ∧ ¬ (55296 ≤ ((nb s 0) % 16) * 4096 + (nb s 1) % 64 * 64 + (nb s 2) % 64 ∧ ((nb s 0) % 16) * 4096 + (nb s 1) % 64 * 64 + (nb s 2) % 64 < 57344) then (((((nb s 0) % 16) * 4096 + (nb s 1) % 64 * 64 + (nb s 2) % 64 : Nat) : Int), 3)
      else if 240 ≤ (nb s 0) ∧ (nb s 0) < 245 ∧ (nb s 1) / 64 = 2 ∧ (nb s 2) / 64 = 2 ∧ (nb s 3) / 64 = 2 ∧ 65536 ≤ ((nb s 0) % 8) * 262144 + (nb s 1) % 64 * 4096 + (nb s 2) % 64 * 64 + (nb s 3) % 64 ∧ ((nb s 0) % 8) * 262144 + (nb s 1) % 64 * 4096 + (nb s 2) % 64 * 64 + (nb s 3) % 64 ≤ 1114111 then (((((nb s 0) % 8) * 262144 + (nb s 1) % 64 * 4096 + (nb s 2) % 64 * 64 + (nb s 3) % 64 : Nat) : Int), 4)
      else (0, 0) := refNext_num s (nb s 0) (nb s 1) (nb s 2) (nb s 3) h (bt_nb s 0) (fun _ => bt_nb s 1) (fun _ => bt_nb s 2) (fun _ => bt_nb s 3) (nb_lt _ _) (nb_lt _ _) (nb_lt _ _) (nb_lt _ _) (nb_out s 1) (nb_out s 2) (nb_out s 3)

theorem refNext_decode (s : ByteArray) (h : 0 < s.size) : refNext s = if Utf8.decode s 0 = (65533, 1) then (0, 0) else (((Utf8.decode s 0).1 : Int), ((Utf8.decode s 0).2 : Int)) := by
  rw [refNext_nb s h, decode_nb s 0 h]
  simp only [Nat.zero_add]
  generalize nb s 0 = n0
  generalize nb s 1 = n1
  generalize nb s 2 = n2
  generalize nb s 3 = n3
  split
  · rw [if_neg (by simp; omega)]; rfl
  · split
    · rw [if_neg (by simp)]; rfl
    · split
      · rw [if_neg (by simp)]; rfl
      · split
        · rw [if_neg (by simp)]; rfl
        · rw [if_pos rfl]

theorem nb_extract (s : ByteArray) (p k : Nat) : nb (s.extract p s.size) k = nb s (p + k) := by
  have hs : (s.extract p s.size).size = s.size - p := by simp
  by_cases h : p + k < s.size
  · have hk : k < (s.extract p s.size).size := by omega
    have a := bt_nb (s.extract p s.size) k
    have b := bt_nb s (p + k)
    have : bt (s.extract p s.size) k = bt s (p + k) := by
      rw [bt, dif_pos hk, bt, dif_pos h]
      simp [ByteArray.getElem_extract]
    omega
  · rw [nb_out _ _ h, nb_out _ _ (by omega)]

theorem decode_extract (s : ByteArray) (p q : Nat) (h : p + q < s.size) : Utf8.decode (s.extract p s.size) q = Utf8.decode s (p + q) := by
  have hs : (s.extract p s.size).size = s.size - p := by simp
  rw [decode_nb _ q (by omega), decode_nb s (p + q) h]
  simp only [nb_extract, Nat.add_assoc]

theorem rl_extract (s : ByteArray) (p : Nat) : ∀ f q, p ≤ s.size → rl (s.extract p s.size) f q = rl s f (p + q)
  | 0, _, _ => rfl
  | f + 1, q, hp => by
    have hs : (s.extract p s.size).size = s.size - p := by simp
    unfold rl
    by_cases h : p + q < s.size
    · rw [if_pos (by omega), if_pos h, decode_extract s p q h, rl_extract s p f _ hp, Nat.add_assoc]
    · rw [if_neg (by omega), if_neg h]

theorem decode_fits (s : ByteArray) (h : 0 < s.size) : (Utf8.decode s 0).2 ≤ s.size := by
  have hr := refNext_range s h
  rw [refNext_decode s h] at hr
  by_cases hd : Utf8.decode s 0 = (65533, 1)
  · rw [hd]; exact h
  · rw [if_neg hd] at hr
    have := hr.2
    simp only at this
    omega

theorem decodeL_eq (s : ByteArray) : decodeL s.data.toList = Utf8.decode s 0 := by
  cases s
  simp [decodeL]

theorem rB_eq : ∀ f (t : ByteArray), t.size ≤ f → (rB f t).1 = rl t f 0 ∧ ∀ n, t.size ≤ n → (rB f t).2 = validGoD n t.data.toList
  | 0, t, h => by
    have h0 : t.data.toList = [] := List.eq_nil_of_length_eq_zero (by rw [← Lib.size_eq]; omega)
    refine ⟨rfl, fun n _ => ?_⟩
    rw [h0]
    cases n <;> simp [rB, validGoD]
  | f + 1, t, h => by
    by_cases h0 : t.size = 0
    · have hl : t.data.toList = [] := List.eq_nil_of_length_eq_zero (by rw [← Lib.size_eq]; omega)
      refine ⟨?_, fun n _ => ?_⟩
      · rw [rB, if_pos h0, rl, if_neg (by omega)]
      · rw [rB, if_pos h0, hl]
        cases n <;> simp [validGoD]
    have hp : 0 < t.size := by omega
    have hl : ¬ t.data.toList = [] := by
      intro e
      have h1 : t.size = t.data.toList.length := Lib.size_eq t
      rw [e] at h1
      exact h0 h1
    have hw := decode_width_pos t 0 hp
    have hf := decode_fits t hp
    have hs : ∀ k, (t.extract k t.size).size = t.size - k := fun k => by simp
    rw [rB, if_neg h0, refNext_decode t hp]
    by_cases hd : Utf8.decode t 0 = (65533, 1)
    · obtain ⟨i1, i2⟩ := rB_eq f (t.extract 1 t.size) (by rw [hs]; omega)
      rw [if_pos hd]
      simp only [if_true]
      refine ⟨?_, fun n hn => ?_⟩
      · rw [rl, if_pos hp, hd, i1, rl_extract t 1 f 0 (by omega)]
        rfl
      · obtain ⟨m, rfl⟩ : ∃ m, n = m + 1 := ⟨n - 1, by omega⟩
        rw [validGoD, if_neg hl, decodeL_eq, hd]
        simp
    · obtain ⟨i1, i2⟩ := rB_eq f (t.extract (Utf8.decode t 0).2 t.size) (by rw [hs]; omega)
      rw [if_neg hd]
      simp only [Int.toNat_natCast]
      rw [if_neg (show ¬ (((Utf8.decode t 0).2 : Nat) : Int) = 0 by omega)]
      refine ⟨?_, fun n hn => ?_⟩
      · simp only []
        rw [rl, if_pos hp, i1, rl_extract t _ f 0 (by omega), Nat.zero_add, Nat.add_zero]
      · obtain ⟨m, rfl⟩ : ∃ m, n = m + 1 := ⟨n - 1, by omega⟩
        simp only []
        rw [validGoD, if_neg hl, decodeL_eq, if_neg (fun e => hd (Prod.ext e.1 e.2)), i2 m (by rw [hs]; omega), Lib.extract_to_end]

theorem refRunes_eq (s : ByteArray) : refRunes s = (runes s, validD s.data.toList) := by
  obtain ⟨h1, h2⟩ := rB_eq s.size s (Nat.le_refl _)
  refine Prod.ext h1 ?_
  rw [validD, ← Lib.size_eq]
  exact h2 s.size (Nat.le_refl _)

end Go.Proofs.YtokkpdjbgaicmaaDoor.Sp
