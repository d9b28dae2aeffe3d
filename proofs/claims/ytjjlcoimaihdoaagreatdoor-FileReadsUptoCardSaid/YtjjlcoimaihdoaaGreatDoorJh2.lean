/-
  Texts of the proof, joined.
-/
import Derived.Test.YtjjlcoimaihdoaaGreatDoorJh1
import Derived.Deep.MidRow
import Derived.Lib.IndexBytes
import Derived.Deep.RegionWith
import Derived.Lib.Repeat
import Derived.BigQuiet
import Derived.Shelf.Strings.BuilderK
import Derived.Deep.Heap
set_option linter.unusedVariables false
set_option linter.unusedSimpArgs false
namespace Go.Proofs.YtjjlcoimaihdoaaGreatDoor
open Go.RowKit Go.Lib
theorem str_empty (s : ByteArray) (h : s.size = 0) : s = ⟨#[]⟩ := by
 obtain ⟨⟨l⟩⟩ := s
 have : l = [] := List.eq_nil_of_length_eq_zero h
 rw [this]
theorem results_ct {fn : Func} {t u : Tmp} {ty : TypeId} (h : fn.results = #[.cell t ty, .tmp u]) (tmps : Array Value) (P : Program) (w : World) {p : Addr} (hp : tmps.getD t undef = .pointer (some p)) {v : Value} (hl : (loadVar ty p).run P w = .ok v w) :
  (results fn tmps).run P w = .ok (.tuple #[v, tmps.getD u undef]) w := by
 have hp' : tmps[t]?.getD undef = .pointer (some p) := by simpa using hp
 simp [results, h, Sem.run_bind, hp', asAddr, hl]
theorem results_c {fn : Func} {t : Tmp} {ty : TypeId} (h : fn.results = #[.cell t ty]) (tmps : Array Value) (P : Program) (w : World) {p : Addr} (hp : tmps.getD t undef = .pointer (some p)) {v : Value} (hl : (loadVar ty p).run P w = .ok v w) :
  (results fn tmps).run P w = .ok v w := by
 have hp' : tmps[t]?.getD undef = .pointer (some p) := by simpa using hp
 simp [results, h, Sem.run_bind, hp', asAddr, hl]
theorem results_ctt {fn : Func} {t u x : Tmp} {ty : TypeId} (h : fn.results = #[.cell t ty, .tmp u, .tmp x]) (tmps : Array Value) (P : Program) (w : World) {p : Addr} (hp : tmps.getD t undef = .pointer (some p)) {v : Value} (hl : (loadVar ty p).run P w = .ok v w) :
  (results fn tmps).run P w = .ok (.tuple #[v, tmps.getD u undef, tmps.getD x undef]) w := by
 have hp' : tmps[t]?.getD undef = .pointer (some p) := by simpa using hp
 simp [results, h, Sem.run_bind, hp', asAddr, hl]
theorem frozen_below {w w1 : World} (h : Below w.heap.size w w1) {a : Addr} {v : Value} (hc : w.cell? a = some v) {x : Bool} (hf : w.frozen? a = x) : w1.frozen? a = x := (h.frozen (World.block_lt_of_cell? w a hc)).trans hf
theorem kept_cell {w0 w1 : World} (h : Below w0.heap.size w0 w1) (a : Addr) (v : Value) (hc : w0.cell? a = some v ∧ w0.frozen? a = false) : w1.cell? a = some v ∧ w1.frozen? a = false :=
 ⟨cell_below h hc.1, frozen_below h hc.1 hc.2⟩
theorem range2 {w : World} {b o : Nat} {x y : Value} (h0 : w.cell? ⟨b, o, none⟩ = some x) (h1 : w.cell? ⟨b, o + 1, none⟩ = some y) : w.rangeAt b o [x, y] := by
 intro j v hj
 match j, hj with
 | 0, hj => simp at hj; subst hj; exact h0
 | 1, hj => simp at hj; subst hj; exact h1
 | j + 2, hj => simp at hj
theorem ty_load (w : World) (b o : Nat) {x y : Value} (h0 : w.cell? ⟨b, o, none⟩ = some x) (h1 : w.cell? ⟨b, o + 1, none⟩ = some y) : (loadVar 38 ⟨b, o, none⟩).run Tryz.prog w = .ok (.agg #[x, y]) w :=
 run_loadVar_mid w b o 38 [x, y] _ (range2 h0 h1) Tryz.underlying38 rfl (by kernel_rfl)
end Go.Proofs.YtjjlcoimaihdoaaGreatDoor
namespace Go.Proofs.YtjjlcoimaihdoaaGreatDoor.Sp
open Go.Lib
theorem get_bt (s : ByteArray) (p k : Nat) (h : p + k < s.size) : ((s.get! (p + k)).toNat : Int) = bt s (p + k) := by
 rw [bt, dif_pos h]
 have : s.get! (p + k) = s[p + k] := by
  simp [ByteArray.get!, getElem!_pos, h]
  rfl
 rw [this]
theorem refNext_num (s : ByteArray) (n0 n1 n2 n3 : Nat) (h0 : 0 < s.size) (e0 : bt s 0 = n0) (e1 : 1 < s.size → bt s 1 = n1) (e2 : 2 < s.size → bt s 2 = n2) (e3 : 3 < s.size → bt s 3 = n3) (b0 : n0 < 256) (b1 : n1 < 256) (b2 : n2 < 256) (b3 : n3 < 256)
  (z1 : ¬ 1 < s.size → n1 = 0) (z2 : ¬ 2 < s.size → n2 = 0) (z3 : ¬ 3 < s.size → n3 = 0) :
  refNext s =
   if n0 < 128 then ((n0 : Int), 1)
   else if 194 ≤ n0 ∧ n0 < 224 ∧ n1 / 64 = 2 then ((((n0 % 32) * 64 + n1 % 64 : Nat) : Int), 2)
   else if 224 ≤ n0 ∧ n0 < 240 ∧ n1 / 64 = 2 ∧ n2 / 64 = 2 ∧ 2048 ≤ (n0 % 16) * 4096 + n1 % 64 * 64 + n2 % 64 ∧ ¬ (55296 ≤ (n0 % 16) * 4096 + n1 % 64 * 64 + n2 % 64 ∧ (n0 % 16) * 4096 + n1 % 64 * 64 + n2 % 64 < 57344) then ((((n0 % 16) * 4096 + n1 % 64 * 64 + n2 % 64 : Nat) : Int), 3)
   else if 240 ≤ n0 ∧ n0 < 245 ∧ n1 / 64 = 2 ∧ n2 / 64 = 2 ∧ n3 / 64 = 2 ∧ 65536 ≤ (n0 % 8) * 262144 + n1 % 64 * 4096 + n2 % 64 * 64 + n3 % 64 ∧ (n0 % 8) * 262144 + n1 % 64 * 4096 + n2 % 64 * 64 + n3 % 64 ≤ 1114111 then ((((n0 % 8) * 262144 + n1 % 64 * 4096 + n2 % 64 * 64 + n3 % 64 : Nat) : Int), 4)
   else (0, 0) := by
 unfold refNext
 rw [e0]
 by_cases c1 : n0 < 128
 ·rw [if_pos (by omega), if_pos c1]
 rw [if_neg (by omega), if_neg c1]
 by_cases c2 : 194 ≤ n0 ∧ n0 < 224
 ·rw [if_pos (by omega)]
  unfold goN
  by_cases hs : s.size < 2
  ·have := z1 (by omega)
   rw [if_pos hs, if_neg (by omega), if_neg (by omega), if_neg (by omega)]
  ·rw [if_neg hs]
   simp only [show 2 - 1 = 0 + 1 from rfl, contG, e1 (by omega)]
   by_cases g1 : n1 / 64 = 2
   ·rw [if_pos (by omega), if_pos (by omega)]
    simp only [finN]
    rw [if_neg (by omega)]
    refine Prod.ext ?_ rfl
    simp only []
    omega
   ·rw [if_neg (by omega), if_neg (by omega), if_neg (by omega), if_neg (by omega)]
 rw [if_neg (by omega), if_neg (by omega : ¬ (194 ≤ n0 ∧ n0 < 224 ∧ n1 / 64 = 2))]
 by_cases c3 : 224 ≤ n0 ∧ n0 < 240
 ·rw [if_pos (by omega)]
  unfold goN
  by_cases hs : s.size < 3
  ·have := z2 (by omega)
   rw [if_pos hs, if_neg (by omega), if_neg (by omega)]
  ·rw [if_neg hs]
   simp only [show 3 - 1 = 0 + 1 + 1 from rfl, contG, e1 (by omega), e2 (by omega), Nat.reduceAdd]
   by_cases g1 : n1 / 64 = 2
   ·rw [if_pos (by omega : 128 ≤ (n1 : Int) ∧ (n1 : Int) < 192)]
    by_cases g2 : n2 / 64 = 2
    ·rw [if_pos (by omega : 128 ≤ (n2 : Int) ∧ (n2 : Int) < 192)]
     simp only [finN]
     by_cases g3 : 2048 ≤ (n0 % 16) * 4096 + n1 % 64 * 64 + n2 % 64 ∧ ¬ (55296 ≤ (n0 % 16) * 4096 + n1 % 64 * 64 + n2 % 64 ∧ (n0 % 16) * 4096 + n1 % 64 * 64 + n2 % 64 < 57344)
     ·rw [if_neg (by omega), if_pos (by omega)]
      refine Prod.ext ?_ rfl
      simp only []
      omega
     ·rw [if_pos (by omega), if_neg (by omega), if_neg (by omega)]
    ·rw [if_neg (by omega : ¬ (128 ≤ (n2 : Int) ∧ (n2 : Int) < 192)), if_neg (by omega), if_neg (by omega)]
   ·rw [if_neg (by omega : ¬ (128 ≤ (n1 : Int) ∧ (n1 : Int) < 192)), if_neg (by omega), if_neg (by omega)]
 rw [if_neg (by omega), if_neg (by omega : ¬ (224 ≤ n0 ∧ n0 < 240 ∧ n1 / 64 = 2 ∧ n2 / 64 = 2 ∧ 2048 ≤ (n0 % 16) * 4096 + n1 % 64 * 64 + n2 % 64 ∧ ¬ (55296 ≤ (n0 % 16) * 4096 + n1 % 64 * 64 + n2 % 64 ∧ (n0 % 16) * 4096 + n1 % 64 * 64 + n2 % 64 < 57344)))]
 by_cases c4 : 240 ≤ n0 ∧ n0 < 245
 ·rw [if_pos (by omega)]
  unfold goN
  by_cases hs : s.size < 4
  ·have := z3 (by omega)
   rw [if_pos hs, if_neg (by omega)]
  ·rw [if_neg hs]
   simp only [show 4 - 1 = 0 + 1 + 1 + 1 from rfl, contG, e1 (by omega), e2 (by omega), e3 (by omega), Nat.reduceAdd]
   by_cases g1 : n1 / 64 = 2
   ·rw [if_pos (by omega : 128 ≤ (n1 : Int) ∧ (n1 : Int) < 192)]
    by_cases g2 : n2 / 64 = 2
    ·rw [if_pos (by omega : 128 ≤ (n2 : Int) ∧ (n2 : Int) < 192)]
     by_cases g3 : n3 / 64 = 2
     ·rw [if_pos (by omega : 128 ≤ (n3 : Int) ∧ (n3 : Int) < 192)]
      simp only [finN]
      by_cases g4 : 65536 ≤ (n0 % 8) * 262144 + n1 % 64 * 4096 + n2 % 64 * 64 + n3 % 64 ∧ (n0 % 8) * 262144 + n1 % 64 * 4096 + n2 % 64 * 64 + n3 % 64 ≤ 1114111
      ·rw [if_neg (by omega), if_pos (by omega)]
       refine Prod.ext ?_ rfl
       simp only []
       omega
      ·rw [if_pos (by omega), if_neg (by omega)]
     ·rw [if_neg (by omega : ¬ (128 ≤ (n3 : Int) ∧ (n3 : Int) < 192)), if_neg (by omega)]
    ·rw [if_neg (by omega : ¬ (128 ≤ (n2 : Int) ∧ (n2 : Int) < 192)), if_neg (by omega)]
   ·rw [if_neg (by omega : ¬ (128 ≤ (n1 : Int) ∧ (n1 : Int) < 192)), if_neg (by omega)]
 rw [if_neg (by omega), if_neg (by omega)]
set_option maxHeartbeats 4000000 in
theorem decode_num (s : ByteArray) (p n0 n1 n2 n3 : Nat) (e0 : (s.get! (p + 0)).toNat = n0) (e1 : p + 1 < s.size → (s.get! (p + 1)).toNat = n1) (e2 : p + 2 < s.size → (s.get! (p + 2)).toNat = n2) (e3 : p + 3 < s.size → (s.get! (p + 3)).toNat = n3) (b0 : n0 < 256) (b1 : n1 < 256) (b2 : n2 < 256) (b3 : n3 < 256)
  (z1 : ¬ p + 1 < s.size → n1 = 0) (z2 : ¬ p + 2 < s.size → n2 = 0) (z3 : ¬ p + 3 < s.size → n3 = 0) :
  Utf8.decode s p =
   if n0 < 128 then (n0, 1)
   else if 194 ≤ n0 ∧ n0 < 224 ∧ n1 / 64 = 2 then ((n0 % 32) * 64 + n1 % 64, 2)
   else if 224 ≤ n0 ∧ n0 < 240 ∧ n1 / 64 = 2 ∧ n2 / 64 = 2 ∧ 2048 ≤ (n0 % 16) * 4096 + n1 % 64 * 64 + n2 % 64 ∧ ¬ (55296 ≤ (n0 % 16) * 4096 + n1 % 64 * 64 + n2 % 64 ∧ (n0 % 16) * 4096 + n1 % 64 * 64 + n2 % 64 < 57344) then ((n0 % 16) * 4096 + n1 % 64 * 64 + n2 % 64, 3)
   else if 240 ≤ n0 ∧ n0 < 245 ∧ n1 / 64 = 2 ∧ n2 / 64 = 2 ∧ n3 / 64 = 2 ∧ 65536 ≤ (n0 % 8) * 262144 + n1 % 64 * 4096 + n2 % 64 * 64 + n3 % 64 ∧ (n0 % 8) * 262144 + n1 % 64 * 4096 + n2 % 64 * 64 + n3 % 64 ≤ 1114111 then ((n0 % 8) * 262144 + n1 % 64 * 4096 + n2 % 64 * 64 + n3 % 64, 4)
   else (65533, 1) := by
 have k1 : (decide (p + 1 < s.size) && (s.get! (p + 1)).toNat / 64 == 2) = decide (n1 / 64 = 2) := by
  by_cases h : p + 1 < s.size
  ·rw [e1 h]; simp [h]; rfl
  ·rw [z1 h]; simp [h]
 have k2 : (decide (p + 2 < s.size) && (s.get! (p + 2)).toNat / 64 == 2) = decide (n2 / 64 = 2) := by
  by_cases h : p + 2 < s.size
  ·rw [e2 h]; simp [h]; rfl
  ·rw [z2 h]; simp [h]
 have k3 : (decide (p + 3 < s.size) && (s.get! (p + 3)).toNat / 64 == 2) = decide (n3 / 64 = 2) := by
  by_cases h : p + 3 < s.size
  ·rw [e3 h]; simp [h]; rfl
  ·rw [z3 h]; simp [h]
 have f1 : n1 / 64 = 2 → (s.get! (p + 1)).toNat = n1 := fun h => e1 (by by_cases q : p + 1 < s.size; exact q; have := z1 q; omega)
 have f2 : n2 / 64 = 2 → (s.get! (p + 2)).toNat = n2 := fun h => e2 (by by_cases q : p + 2 < s.size; exact q; have := z2 q; omega)
 have f3 : n3 / 64 = 2 → (s.get! (p + 3)).toNat = n3 := fun h => e3 (by by_cases q : p + 3 < s.size; exact q; have := z3 q; omega)
 simp only [Utf8.decode, k1, k2, k3, e0, Utf8.runeError, Utf8.valid]
 clear k1 k2 k3 e1 e2 e3 z1 z2 z3
 by_cases c1 : n0 < 128
 ·rw [if_pos c1, if_pos c1]
 rw [if_neg c1, if_neg c1]
 by_cases g1 : n1 / 64 = 2
 ·rw [f1 g1]
  by_cases g2 : n2 / 64 = 2
  ·rw [f2 g2]
   by_cases g3 : n3 / 64 = 2
   ·rw [f3 g3]
    repeat' split
    all_goals first | with_reducible rfl | (exfalso; simp at *; omega) | (simp at *; omega)
   ·repeat' split
    all_goals first | with_reducible rfl | (exfalso; simp at *; omega) | (simp at *; omega)
  ·repeat' split
   all_goals first | with_reducible rfl | (exfalso; simp at *; omega) | (simp at *; omega)
 ·repeat' split
  all_goals first | with_reducible rfl | (exfalso; simp at *; omega) | (simp at *; omega)
def nb (s : ByteArray) (p : Nat) : Nat := if p < s.size then (s.get! p).toNat else 0
theorem nb_lt (s : ByteArray) (p : Nat) : nb s p < 256 := by
 unfold nb
 split
 ·exact (s.get! p).toNat_lt
 ·omega
theorem nb_out (s : ByteArray) (p : Nat) (h : ¬ p < s.size) : nb s p = 0 := by rw [nb, if_neg h]
theorem nb_in (s : ByteArray) (p : Nat) (h : p < s.size) : (s.get! p).toNat = nb s p := by rw [nb, if_pos h]
theorem bt_nb (s : ByteArray) (p : Nat) : bt s p = nb s p := by
 by_cases h : p < s.size
 ·have := get_bt s p 0 (by omega)
  simp only [Nat.add_zero] at this
  rw [← this, nb_in s p h]
 ·rw [nb_out s p h, bt, dif_neg h]; rfl
theorem decode_nb (s : ByteArray) (p : Nat) (h : p < s.size) : Utf8.decode s p =
   if (nb s p) < 128 then ((nb s p), 1)
   else if 194 ≤ (nb s p) ∧ (nb s p) < 224 ∧ (nb s (p + 1)) / 64 = 2 then (((nb s p) % 32) * 64 + (nb s (p + 1)) % 64, 2)
   else if 224 ≤ (nb s p) ∧ (nb s p) < 240 ∧ (nb s (p + 1)) / 64 = 2 ∧ (nb s (p + 2)) / 64 = 2 ∧ 2048 ≤ ((nb s p) % 16) * 4096 + (nb s (p + 1)) % 64 * 64 + (nb s (p + 2)) % 64 ∧ ¬ (55296 ≤ ((nb s p) % 16) * 4096 + (nb s (p + 1)) % 64 * 64 + (nb s (p + 2)) % 64 ∧ ((nb s p) % 16) * 4096 + (nb s (p + 1)) % 64 * 64 + (nb s (p + 2)) % 64 < 57344) then (((nb s p) % 16) * 4096 + (nb s (p + 1)) % 64 * 64 + (nb s (p + 2)) % 64, 3)
   else if 240 ≤ (nb s p) ∧ (nb s p) < 245 ∧ (nb s (p + 1)) / 64 = 2 ∧ (nb s (p + 2)) / 64 = 2 ∧ (nb s (p + 3)) / 64 = 2 ∧ 65536 ≤ ((nb s p) % 8) * 262144 + (nb s (p + 1)) % 64 * 4096 + (nb s (p + 2)) % 64 * 64 + (nb s (p + 3)) % 64 ∧ ((nb s p) % 8) * 262144 + (nb s (p + 1)) % 64 * 4096 + (nb s (p + 2)) % 64 * 64 + (nb s (p + 3)) % 64 ≤ 1114111 then (((nb s p) % 8) * 262144 + (nb s (p + 1)) % 64 * 4096 + (nb s (p + 2)) % 64 * 64 + (nb s (p + 3)) % 64, 4)
   else (65533, 1) := decode_num s p (nb s p) (nb s (p + 1)) (nb s (p + 2)) (nb s (p + 3)) (nb_in s p h) (fun h => nb_in s _ h) (fun h => nb_in s _ h) (fun h => nb_in s _ h) (nb_lt _ _) (nb_lt _ _) (nb_lt _ _) (nb_lt _ _) (nb_out s _) (nb_out s _) (nb_out s _)
theorem refNext_nb (s : ByteArray) (h : 0 < s.size) : refNext s =
   if (nb s 0) < 128 then (((nb s 0) : Int), 1)
   else if 194 ≤ (nb s 0) ∧ (nb s 0) < 224 ∧ (nb s 1) / 64 = 2 then (((((nb s 0) % 32) * 64 + (nb s 1) % 64 : Nat) : Int), 2)
   else if 224 ≤ (nb s 0) ∧ (nb s 0) < 240 ∧ (nb s 1) / 64 = 2 ∧ (nb s 2) / 64 = 2 ∧ 2048 ≤ ((nb s 0) % 16) * 4096 + (nb s 1) % 64 * 64 + (nb s 2) % 64 ∧ ¬ (55296 ≤ ((nb s 0) % 16) * 4096 + (nb s 1) % 64 * 64 + (nb s 2) % 64 ∧ ((nb s 0) % 16) * 4096 + (nb s 1) % 64 * 64 + (nb s 2) % 64 < 57344) then (((((nb s 0) % 16) * 4096 + (nb s 1) % 64 * 64 + (nb s 2) % 64 : Nat) : Int), 3)
   else if 240 ≤ (nb s 0) ∧ (nb s 0) < 245 ∧ (nb s 1) / 64 = 2 ∧ (nb s 2) / 64 = 2 ∧ (nb s 3) / 64 = 2 ∧ 65536 ≤ ((nb s 0) % 8) * 262144 + (nb s 1) % 64 * 4096 + (nb s 2) % 64 * 64 + (nb s 3) % 64 ∧ ((nb s 0) % 8) * 262144 + (nb s 1) % 64 * 4096 + (nb s 2) % 64 * 64 + (nb s 3) % 64 ≤ 1114111 then (((((nb s 0) % 8) * 262144 + (nb s 1) % 64 * 4096 + (nb s 2) % 64 * 64 + (nb s 3) % 64 : Nat) : Int), 4)
   else (0, 0) := refNext_num s (nb s 0) (nb s 1) (nb s 2) (nb s 3) h (bt_nb s 0) (fun _ => bt_nb s 1) (fun _ => bt_nb s 2) (fun _ => bt_nb s 3) (nb_lt _ _) (nb_lt _ _) (nb_lt _ _) (nb_lt _ _) (nb_out s 1) (nb_out s 2) (nb_out s 3)
theorem refNext_decode (s : ByteArray) (h : 0 < s.size) : refNext s = if Utf8.decode s 0 = (65533, 1) then (0, 0) else (((Utf8.decode s 0).1 : Int), ((Utf8.decode s 0).2 : Int)) := by
 rw [refNext_nb s h, decode_nb s 0 h]
 simp only [Nat.zero_add]
 generalize nb s 0 = n0
 generalize nb s 1 = n1
 generalize nb s 2 = n2
 generalize nb s 3 = n3
 split
 ·rw [if_neg (by simp; omega)]; rfl
 ·split
  ·rw [if_neg (by simp)]; rfl
  ·split
   ·rw [if_neg (by simp)]; rfl
   ·split
    ·rw [if_neg (by simp)]; rfl
    ·rw [if_pos rfl]
theorem nb_extract (s : ByteArray) (p k : Nat) : nb (s.extract p s.size) k = nb s (p + k) := by
 have hs : (s.extract p s.size).size = s.size - p := by simp
 by_cases h : p + k < s.size
 ·have hk : k < (s.extract p s.size).size := by omega
  have a := bt_nb (s.extract p s.size) k
  have b := bt_nb s (p + k)
  have : bt (s.extract p s.size) k = bt s (p + k) := by
   rw [bt, dif_pos hk, bt, dif_pos h]
   simp [ByteArray.getElem_extract]
  omega
 ·rw [nb_out _ _ h, nb_out _ _ (by omega)]
theorem decode_extract (s : ByteArray) (p q : Nat) (h : p + q < s.size) : Utf8.decode (s.extract p s.size) q = Utf8.decode s (p + q) := by
 have hs : (s.extract p s.size).size = s.size - p := by simp
 rw [decode_nb _ q (by omega), decode_nb s (p + q) h]
 simp only [nb_extract, Nat.add_assoc]
theorem rl_extract (s : ByteArray) (p : Nat) : ∀ f q, p ≤ s.size → rl (s.extract p s.size) f q = rl s f (p + q)
 | 0, _, _ => rfl
 | f + 1, q, hp => by
  have hs : (s.extract p s.size).size = s.size - p := by simp
  unfold rl
  by_cases h : p + q < s.size
  ·rw [if_pos (by omega), if_pos h, decode_extract s p q h, rl_extract s p f _ hp, Nat.add_assoc]
  ·rw [if_neg (by omega), if_neg h]
theorem decode_fits (s : ByteArray) (h : 0 < s.size) : (Utf8.decode s 0).2 ≤ s.size := by
 have hr := refNext_range s h
 rw [refNext_decode s h] at hr
 by_cases hd : Utf8.decode s 0 = (65533, 1)
 ·rw [hd]; exact h
 ·rw [if_neg hd] at hr
  have := hr.2
  simp only at this
  omega
theorem decodeL_eq (s : ByteArray) : decodeL s.data.toList = Utf8.decode s 0 := by
 cases s
 simp [decodeL]
theorem rB_eq : ∀ f (t : ByteArray), t.size ≤ f → (rB f t).1 = rl t f 0 ∧ ∀ n, t.size ≤ n → (rB f t).2 = validGoD n t.data.toList
 | 0, t, h => by
  have h0 : t.data.toList = [] := List.eq_nil_of_length_eq_zero (by rw [← Lib.size_eq]; omega)
  refine ⟨rfl, fun n _ => ?_⟩
  rw [h0]
  cases n <;> simp [rB, validGoD]
 | f + 1, t, h => by
  by_cases h0 : t.size = 0
  ·have hl : t.data.toList = [] := List.eq_nil_of_length_eq_zero (by rw [← Lib.size_eq]; omega)
   refine ⟨?_, fun n _ => ?_⟩
   ·rw [rB, if_pos h0, rl, if_neg (by omega)]
   ·rw [rB, if_pos h0, hl]
    cases n <;> simp [validGoD]
  have hp : 0 < t.size := by omega
  have hl : ¬ t.data.toList = [] := by
   intro e
   have h1 : t.size = t.data.toList.length := Lib.size_eq t
   rw [e] at h1
   exact h0 h1
  have hw := decode_width_pos t 0 hp
  have hf := decode_fits t hp
  have hs : ∀ k, (t.extract k t.size).size = t.size - k := fun k => by simp
  rw [rB, if_neg h0, refNext_decode t hp]
  by_cases hd : Utf8.decode t 0 = (65533, 1)
  ·obtain ⟨i1, i2⟩ := rB_eq f (t.extract 1 t.size) (by rw [hs]; omega)
   rw [if_pos hd]
   simp only [if_true]
   refine ⟨?_, fun n hn => ?_⟩
   ·rw [rl, if_pos hp, hd, i1, rl_extract t 1 f 0 (by omega)]
    rfl
   ·obtain ⟨m, rfl⟩ : ∃ m, n = m + 1 := ⟨n - 1, by omega⟩
    rw [validGoD, if_neg hl, decodeL_eq, hd]
    simp
  ·obtain ⟨i1, i2⟩ := rB_eq f (t.extract (Utf8.decode t 0).2 t.size) (by rw [hs]; omega)
   rw [if_neg hd]
   simp only [Int.toNat_natCast]
   rw [if_neg (show ¬ (((Utf8.decode t 0).2 : Nat) : Int) = 0 by omega)]
   refine ⟨?_, fun n hn => ?_⟩
   ·simp only []
    rw [rl, if_pos hp, i1, rl_extract t _ f 0 (by omega), Nat.zero_add, Nat.add_zero]
   ·obtain ⟨m, rfl⟩ : ∃ m, n = m + 1 := ⟨n - 1, by omega⟩
    simp only []
    rw [validGoD, if_neg hl, decodeL_eq, if_neg (fun e => hd (Prod.ext e.1 e.2)), i2 m (by rw [hs]; omega), Lib.extract_to_end]
theorem refRunes_eq (s : ByteArray) : refRunes s = (runes s, validD s.data.toList) := by
 obtain ⟨h1, h2⟩ := rB_eq s.size s (Nat.le_refl _)
 refine Prod.ext h1 ?_
 rw [validD, ← Lib.size_eq]
 exact h2 s.size (Nat.le_refl _)
theorem refName_eq (s : ByteArray) : refNameS s = nameS s := by
 simp only [refNameS, nameS, refRunes_eq]
 rw [Bool.eq_iff_iff]
 simp
 constructor
 ·rintro ⟨⟨⟨a, b⟩, c⟩, d⟩; exact ⟨⟨⟨d, b⟩, c⟩, a⟩
 ·rintro ⟨⟨⟨d, b⟩, c⟩, a⟩; exact ⟨⟨⟨a, b⟩, c⟩, d⟩
end Go.Proofs.YtjjlcoimaihdoaaGreatDoor.Sp
namespace Go.Proofs.YtjjlcoimaihdoaaGreatDoor
open Go.RowKit Go.Lib
set_option maxHeartbeats 4000000 in
theorem right_any (d : Int) (n : ByteArray) (w : World) (hs : n.size ≤ 1099511627776) (hT : Tabs w) :
  Calls Tryz.prog 185 #[Sp.tyV (d, n)] w fun e w' => e = .returned (.bool (Sp.rightS (d, n))) ∧ Below w.heap.size w w' := by
 have HE := Lib.hid (show Sp.rightS (d, n) = _ by rw [Sp.rightS])
 simp only [] at HE
 generalize Sp.rightS (d, n) = R at HE ⊢
 unfold Sp.tyV
 simp only []
 by_cases c1 : 0 ≤ d
 ·by_cases c2 : d ≤ 4
  ·by_cases c3 : n.size = 0
   ·have hR : R = true := by rw [HE.out]; simp [c1, c2, c3]
    obtain rfl := str_empty n c3
    subst hR
    clear HE
    go_enter Tryz.func185, Tryz.ntmps185
    go_wp2
    go_ret
    exact ⟨rfl, (Below.refl _ _).alloc (Nat.le_refl _) _⟩
   ·have hR : R = Sp.nameS n := by rw [HE.out]; simp [c1, c2, c3]
    have hne : (n.toList == []) = false := by
     rw [Bool.eq_false_iff]
     intro q
     have := (bytes_beq_iff n ⟨#[]⟩).1 (by simpa using q)
     rw [this] at c3
     exact c3 rfl
    have h1 := Lib.hid (fun W hT => name_any n W (by omega) hT)
    have T0 := Lib.hid hT
    clear hT
    subst hR
    generalize Sp.nameS n = v at h1 ⊢
    clear HE
    go_enter Tryz.func185, Tryz.ntmps185
    go_wp2_with fail
    refine (h1.out _ (fun W h => Tabs.below (T0.out.below ((Below.refl _ _).alloc (Nat.le_refl _) _)) h)).mono ?_
    rintro e w1 ⟨rfl, hb⟩
    go_wp2
    go_ret
    exact ⟨rfl, below_then ((Below.refl _ _).alloc (Nat.le_refl _) _) (by simp) hb⟩
  ·have hR : R = false := by rw [HE.out]; simp [c2]
   subst hR
   clear HE
   go_enter Tryz.func185, Tryz.ntmps185
   go_wp2
   go_ret
   exact ⟨rfl, (Below.refl _ _).alloc (Nat.le_refl _) _⟩
 ·have hR : R = false := by rw [HE.out]; simp [c1]
  subst hR
  clear HE
  go_enter Tryz.func185, Tryz.ntmps185
  go_wp2
  go_ret
  exact ⟨rfl, (Below.refl _ _).alloc (Nat.le_refl _) _⟩
namespace Sp
end Sp
namespace Sp
end Sp
set_option maxHeartbeats 4000000 in
theorem slcut1_any (s : ByteArray) (c : UInt8) (w : World) (hs : s.size ≤ 140737488351232) (hr : Lib.indexByte s.data.toList c < s.size ∧ -1 ≤ Lib.indexByte s.data.toList c) :
  Calls Tryz.prog 302 #[.string s, .string ⟨#[c]⟩] w fun e w' =>
   e = .returned (if 0 ≤ Lib.indexByte s.data.toList c then .tuple #[.string (s.extract 0 (Lib.indexByte s.data.toList c).toNat), .string (s.extract ((Lib.indexByte s.data.toList c).toNat + 1) s.size), .bool true] else .tuple #[.string s, .string ⟨#[]⟩, .bool false]) ∧ Below w.heap.size w w' := by
 have h1 := Lib.hid (Tryz.stringslite_Index_one s c w)
 generalize Lib.indexByte s.data.toList c = i at *
 have hc1 : (⟨#[c]⟩ : ByteArray).size = 1 := rfl
 by_cases hi : 0 ≤ i
 ·obtain ⟨k, rfl⟩ : ∃ k : Nat, i = k := ⟨i.toNat, by omega⟩
  simp only [Int.toNat_natCast]
  go_enter Tryz.func302, Tryz.ntmps302
  go_wp2_with fail
  refine h1.out.mono ?_
  rintro e w1 ⟨rfl, rfl⟩
  go_wp2
  go_quiet (fail)
  go_wp2
  go_ret3
  exact ⟨by simp, below_drewNv (Below.refl _ _) _⟩
 ·rw [if_neg hi]
  go_enter Tryz.func302, Tryz.ntmps302
  go_wp2_with fail
  refine h1.out.mono ?_
  rintro e w1 ⟨rfl, rfl⟩
  go_wp2
  go_ret3
  exact ⟨rfl, Below.refl _ _⟩
set_option maxHeartbeats 4000000 in
theorem cut1_any (s : ByteArray) (c : UInt8) (w : World) (hs : s.size ≤ 140737488351232) (hr : Lib.indexByte s.data.toList c < s.size ∧ -1 ≤ Lib.indexByte s.data.toList c) :
  Calls Tryz.prog 286 #[.string s, .string ⟨#[c]⟩] w fun e w' =>
   e = .returned (if 0 ≤ Lib.indexByte s.data.toList c then .tuple #[.string (s.extract 0 (Lib.indexByte s.data.toList c).toNat), .string (s.extract ((Lib.indexByte s.data.toList c).toNat + 1) s.size), .bool true] else .tuple #[.string s, .string ⟨#[]⟩, .bool false]) ∧ Below w.heap.size w w' := by
 have h1 := Lib.hid (slcut1_any s c w hs hr)
 generalize Lib.indexByte s.data.toList c = i at *
 by_cases hi : 0 ≤ i
 ·rw [if_pos hi] at h1 ⊢
  go_enter Tryz.func286, Tryz.ntmps286
  go_wp2_with fail
  refine h1.out.mono ?_
  rintro e w1 ⟨rfl, hb⟩
  go_wp2
  go_ret3
  exact ⟨rfl, hb⟩
 ·rw [if_neg hi] at h1 ⊢
  go_enter Tryz.func286, Tryz.ntmps286
  go_wp2_with fail
  refine h1.out.mono ?_
  rintro e w1 ⟨rfl, hb⟩
  go_wp2
  go_ret3
  exact ⟨rfl, hb⟩
namespace Sp
def trimB (s : ByteArray) : ByteArray := ⟨(Lib.trimLeftB s.data.toList 91).toArray⟩
def tailB (s : ByteArray) : ByteArray := s.extract 1 s.size
def ixC (s : ByteArray) : Int := Lib.indexByte s.data.toList 59
def readS (s : ByteArray) : Option (Ty × ByteArray) :=
 if Lib.hasPrefix (trimB s).data.toList [73] = true then
  if rightS ((s.size : Int) - (trimB s).size, ⟨#[]⟩) = true then some (((s.size : Int) - (trimB s).size, ⟨#[]⟩), tailB (trimB s)) else none
 else if Lib.hasPrefix (trimB s).data.toList [76] = true then
  if ixC (tailB (trimB s)) < 0 ∨ ((tailB (trimB s)).extract 0 (ixC (tailB (trimB s))).toNat).size = 0 then none
  else if rightS ((s.size : Int) - (trimB s).size, (tailB (trimB s)).extract 0 (ixC (tailB (trimB s))).toNat) = true then some (((s.size : Int) - (trimB s).size, (tailB (trimB s)).extract 0 (ixC (tailB (trimB s))).toNat), (tailB (trimB s)).extract ((ixC (tailB (trimB s))).toNat + 1) (tailB (trimB s)).size) else none
 else none
theorem trim_size (s : ByteArray) : (trimB s).size ≤ s.size := by
 have h : (Lib.trimLeftB s.data.toList 91).length ≤ s.data.toList.length := by
  unfold Lib.trimLeftB
  exact (List.dropWhile_sublist _).length_le
 rw [show (trimB s).size = (Lib.trimLeftB s.data.toList 91).length from B_size _, Lib.size_eq s]
 exact h
theorem pre_size (s : ByteArray) (c : UInt8) (h : Lib.hasPrefix s.data.toList [c] = true) : 0 < s.size := by
 rw [Lib.size_eq]
 unfold Lib.hasPrefix at h
 cases hs : s.data.toList with
 | nil => rw [hs] at h; simp at h
 | cons a l => simp
theorem ix_range : ∀ (l : List UInt8) (c : UInt8), -1 ≤ Lib.indexByte l c ∧ Lib.indexByte l c < l.length
 | [], c => by simp [Lib.indexByte]
 | a :: l, c => by
  have := ix_range l c
  simp only [Lib.indexByte, List.length_cons]
  repeat' split
  all_goals omega
theorem ixC_range (s : ByteArray) : -1 ≤ ixC s ∧ ixC s < s.size := by
 have := ix_range s.data.toList 59
 rw [Lib.size_eq]
 exact this
end Sp
theorem grown_below {w w' : World} {b : Nat} (h : Below w.heap.size w w') : w.grownBy w' (some b) := ⟨h.os, h.tape, h.output, h.size, fun k hk _ => h.block k hk⟩
theorem grown_set {w w' : World} {b o : Nat} (h : w.grownBy w' (some b)) (v : Value) : w.grownBy (w'.setCell ⟨b, o, none⟩ v) (some b) := by
 have k := (Below.refl 0 w').setCell (p := ⟨b, o, none⟩) (Nat.zero_le _) v
 refine ⟨k.os.trans h.os, k.tape.trans h.tape, k.output.trans h.output, Nat.le_trans h.size k.size, fun i hi hne => ?_⟩
 rw [← h.block i hi hne]
 exact Go.Deep.blk_setCell_other _ _ _ _ (fun q => hne (by rw [q]))
theorem grown_new {w w' : World} {b o : Nat} (h : w.grownBy w' (some b)) (hb : b < w.heap.size) (v : Value) : w.grownBy (w'.setCell ⟨w.heap.size, o, none⟩ v) (some b) := by
 have k := (Below.refl 0 w').setCell (p := ⟨w.heap.size, o, none⟩) (Nat.zero_le _) v
 refine ⟨k.os.trans h.os, k.tape.trans h.tape, k.output.trans h.output, Nat.le_trans h.size k.size, fun i hi hne => ?_⟩
 rw [← h.block i hi hne]
 exact Go.Deep.blk_setCell_other _ _ _ _ (fun q => by simp at q; omega)
set_option maxHeartbeats 8000000 in
set_option maxRecDepth 100000 in
theorem reads1_any (b : Nat) (s : ByteArray) (w : World) (hs : s.size ≤ 1099511627776) (hc : w.cell? ⟨b, 0, none⟩ = some (.string s)) (hf : w.frozen? ⟨b, 0, none⟩ = false) (hT : Tabs w) :
  Calls Tryz.prog 284 #[.pointer (some ⟨b, 0, none⟩)] w fun e w' => match Sp.readS s with
   | none => e = .returned (.tuple #[Sp.tyV Sp.t0, .string s, .bool false]) ∧ Below w.heap.size w w'
   | some q => e = .returned (.tuple #[Sp.tyV q.1, .string q.2, .bool true]) ∧ w.grownBy w' (some b) ∧ w'.cell? ⟨b, 0, none⟩ = some (.string q.2) ∧ w'.frozen? ⟨b, 0, none⟩ = false := by
 have T0 := Lib.hid hT
 clear hT
 have hlt : b < w.heap.size := World.block_lt_of_cell? w _ hc
 have hne : w.heap.size ≠ b := by omega
 have HE := Lib.hid (show Sp.readS s = _ by rw [Sp.readS])
 have hx := Sp.trim_size s
 have k1 := Lib.hid (fun W => Tryz.strings_TrimLeft_one s 91 (by decide) W)
 have k2 := Lib.hid (fun W => Tryz.strings_HasPrefix (Sp.trimB s) ⟨#[73]⟩ W)
 have k3 := Lib.hid (fun W => Tryz.strings_HasPrefix (Sp.trimB s) ⟨#[76]⟩ W)
 have e1 : (⟨(Lib.trimLeftB s.data.toList 91).toArray⟩ : ByteArray) = Sp.trimB s := rfl
 rw [e1] at k1
 have e2 : (⟨#[73]⟩ : ByteArray).data.toList = [73] := rfl
 have e3 : (⟨#[76]⟩ : ByteArray).data.toList = [76] := rfl
 rw [e2] at k2
 rw [e3] at k3
 clear e1 e2 e3
 have hp1 := Sp.pre_size (Sp.trimB s) 73
 have hp2 := Sp.pre_size (Sp.trimB s) 76
 generalize Sp.readS s = R at HE ⊢
 generalize Sp.trimB s = x at *
 have hD : ((s.size : Int) - x.size) = ((s.size - x.size : Nat) : Int) := by omega
 go_enter Tryz.func284, Tryz.ntmps284
 go_wp2_with fail
 refine (k1.out _).mono ?_
 rintro e w1 ⟨rfl, rfl⟩
 go_wp2_with fail
 refine (k2.out _).mono ?_
 rintro e w2 ⟨rfl, rfl⟩
 by_cases p1 : Lib.hasPrefix x.data.toList [73] = true
 ·have hpos := hp1 p1
  rw [p1]
  rw [if_pos p1] at HE
  have k4 := Lib.hid (fun W hT => right_any ((s.size : Int) - x.size) ⟨#[]⟩ W (by decide) hT)
  have HE' := Lib.hid HE.out
  clear HE
  generalize Sp.rightS ((s.size : Int) - x.size, ⟨#[]⟩) = v at k4 HE'
  unfold Sp.tyV at k4
  simp only [] at k4
  rw [hD] at k4 HE'
  go_wp2_with fail
  refine (k4.out _ (T0.out.below (((Below.refl _ _).alloc (Nat.le_refl _) _).alloc (by simp) _))).mono ?_
  rintro e w3 ⟨rfl, hb3⟩
  obtain ⟨cb, fb⟩ := kept_cell hb3 ⟨b, 0, none⟩ (.string s) (kept_cell (((Below.refl w.heap.size w).alloc (Nat.le_refl _) _).alloc (by simp) _) _ _ ⟨hc, hf⟩)
  obtain ⟨c0, f0⟩ := kept_cell hb3 ⟨w.heap.size, 0, none⟩ (.int .i64 0) (by simp)
  obtain ⟨c1, f1⟩ := kept_cell hb3 ⟨w.heap.size, 1, none⟩ (.string ⟨#[]⟩) (by simp)
  obtain ⟨c2, f2⟩ := kept_cell hb3 ⟨w.heap.size + 1, 0, none⟩ (.int .i64 ((s.size - x.size : Nat) : Int)) (by simp)
  obtain ⟨c3, f3⟩ := kept_cell hb3 ⟨w.heap.size + 1, 1, none⟩ (.string ⟨#[]⟩) (by simp)
  have hb' := below_then (((Below.refl w.heap.size w).alloc (Nat.le_refl _) _).alloc (by simp) _) (by simp; omega) hb3
  cases v with
  | false =>
   have hR : R = none := by rw [HE'.out, if_neg (by simp)]
   subst hR
   clear HE'
   go_wp2
   go_region
   all_goals
    go_wp2
    (try simp only [Exit.inBlock, Exit.then]); refine bodyPost_ret (results_ctt rfl _ _ _ rfl (ty_load _ w.heap.size 0 (x := .int .i64 0) (y := .string ⟨#[]⟩) (by simp only [World.cell?_drew]; (repeat (first | with_reducible assumption | (with_reducible apply World.cell?_setCell_same) | (with_reducible refine cell_alloc _ _ ?_) | (refine (World.cell?_setCell_other _ _ _ _ (by first | (simp; done) | (intro q; simp at q; done) | (intro q; simp at q; omega))).trans ?_)))) (by simp only [World.cell?_drew]; (repeat (first | with_reducible assumption | (with_reducible apply World.cell?_setCell_same) | (with_reducible refine cell_alloc _ _ ?_) | (refine (World.cell?_setCell_other _ _ _ _ (by first | (simp; done) | (intro q; simp at q; done) | (intro q; simp at q; omega))).trans ?_)))))) rfl ?_
    exact ⟨rfl, ((hb'.setCell (p := ⟨w.heap.size, 0, none⟩) (Nat.le_refl _) _).setCell (p := ⟨w.heap.size, 1, none⟩) (Nat.le_refl _) _).drew⟩
  | true =>
   have hR : R = some ((((s.size - x.size : Nat) : Int), ⟨#[]⟩), x.extract 1 x.size) := by rw [HE'.out, if_pos rfl]; rfl
   subst hR
   clear HE'
   go_wp2
   (try simp only [Exit.inBlock, Exit.then]); refine bodyPost_ret (results_ctt rfl _ _ _ rfl (ty_load _ w.heap.size 0 (x := .int .i64 ((s.size - x.size : Nat) : Int)) (y := .string ⟨#[]⟩) (by (repeat (first | with_reducible assumption | (with_reducible apply World.cell?_setCell_same) | (with_reducible refine cell_alloc _ _ ?_) | (refine (World.cell?_setCell_other _ _ _ _ (by first | (simp; done) | (intro q; simp at q; done) | (intro q; simp at q; omega))).trans ?_)))) (by (repeat (first | with_reducible assumption | (with_reducible apply World.cell?_setCell_same) | (with_reducible refine cell_alloc _ _ ?_) | (refine (World.cell?_setCell_other _ _ _ _ (by first | (simp; done) | (intro q; simp at q; done) | (intro q; simp at q; omega))).trans ?_)))))) rfl ?_
   exact ⟨rfl, grown_new (grown_new (grown_set (grown_below hb') _) hlt _) hlt _, by (repeat (first | with_reducible assumption | (with_reducible apply World.cell?_setCell_same) | (with_reducible refine cell_alloc _ _ ?_) | (refine (World.cell?_setCell_other _ _ _ _ (by first | (simp; done) | (intro q; simp at q; done) | (intro q; simp at q; omega))).trans ?_))), by simp [fb]⟩
 ·rw [if_neg p1] at HE
  have p1' : Lib.hasPrefix x.data.toList [73] = false := by simpa using p1
  rw [p1']
  go_wp2_with fail
  refine (k3.out _).mono ?_
  rintro e w3 ⟨rfl, rfl⟩
  by_cases p2 : Lib.hasPrefix x.data.toList [76] = true
  ·have hpos := hp2 p2
   rw [p2]
   rw [if_pos p2] at HE
   have hix := Sp.ixC_range (Sp.tailB x)
   have htz : (Sp.tailB x).size = x.size - 1 := by simp [Sp.tailB]
   have k5 := Lib.hid (fun W => cut1_any (Sp.tailB x) 59 W (by omega) ⟨hix.2, hix.1⟩)
   have e5 : Lib.indexByte (Sp.tailB x).data.toList 59 = Sp.ixC (Sp.tailB x) := rfl
   rw [e5] at k5
   have e6 : x.extract 1 x.size = Sp.tailB x := rfl
   clear e5
   go_wp2_with fail
   clear e6
   generalize Sp.tailB x = q at *
   generalize Sp.ixC q = i at *
   by_cases hi : i < 0
   ·rw [if_pos (.inl hi)] at HE
    rw [if_neg (by omega)] at k5
    refine (k5.out _).mono ?_
    rintro e w4 ⟨rfl, hb4⟩
    obtain ⟨cb, fb⟩ := kept_cell hb4 ⟨b, 0, none⟩ (.string s) (kept_cell (((Below.refl w.heap.size w).alloc (Nat.le_refl _) _).alloc (by simp) _) _ _ ⟨hc, hf⟩)
    obtain ⟨c0, f0⟩ := kept_cell hb4 ⟨w.heap.size, 0, none⟩ (.int .i64 0) (by simp)
    obtain ⟨c1, f1⟩ := kept_cell hb4 ⟨w.heap.size, 1, none⟩ (.string ⟨#[]⟩) (by simp)
    obtain ⟨c2, f2⟩ := kept_cell hb4 ⟨w.heap.size + 1, 0, none⟩ (.int .i64 ((s.size - x.size : Nat) : Int)) (by simp)
    obtain ⟨c3, f3⟩ := kept_cell hb4 ⟨w.heap.size + 1, 1, none⟩ (.string ⟨#[]⟩) (by simp)
    have hb' := below_then (((Below.refl w.heap.size w).alloc (Nat.le_refl _) _).alloc (by simp) _) (by simp; omega) hb4
    have S4 := hb'.size
    have hR : R = none := HE.out
    subst hR
    clear HE
    go_wp2
    go_region
    all_goals
     go_wp2
     (try simp only [Exit.inBlock, Exit.then]); refine bodyPost_ret (results_ctt rfl _ _ _ rfl (ty_load _ w.heap.size 0 (x := .int .i64 0) (y := .string ⟨#[]⟩) (by simp only [World.cell?_drew]; (repeat (first | with_reducible assumption | (with_reducible apply World.cell?_setCell_same) | (with_reducible refine cell_alloc _ _ ?_) | (refine (World.cell?_setCell_other _ _ _ _ (by first | (simp; done) | (intro q; simp at q; done) | (intro q; simp at q; omega))).trans ?_)))) (by simp only [World.cell?_drew]; (repeat (first | with_reducible assumption | (with_reducible apply World.cell?_setCell_same) | (with_reducible refine cell_alloc _ _ ?_) | (refine (World.cell?_setCell_other _ _ _ _ (by first | (simp; done) | (intro q; simp at q; done) | (intro q; simp at q; omega))).trans ?_)))))) rfl ?_
     exact ⟨rfl, ((hb'.setCell (p := ⟨w.heap.size, 0, none⟩) (Nat.le_refl _) _).setCell (p := ⟨w.heap.size, 1, none⟩) (Nat.le_refl _) _).drew⟩
   ·rw [if_pos (by omega)] at k5
    obtain ⟨m, rfl⟩ : ∃ m : Nat, i = m := ⟨i.toNat, by omega⟩
    simp only [Int.toNat_natCast] at k5 HE
    refine (k5.out _).mono ?_
    rintro e w4 ⟨rfl, hb4⟩
    obtain ⟨cb, fb⟩ := kept_cell hb4 ⟨b, 0, none⟩ (.string s) (kept_cell (((Below.refl w.heap.size w).alloc (Nat.le_refl _) _).alloc (by simp) _) _ _ ⟨hc, hf⟩)
    obtain ⟨c0, f0⟩ := kept_cell hb4 ⟨w.heap.size, 0, none⟩ (.int .i64 0) (by simp)
    obtain ⟨c1, f1⟩ := kept_cell hb4 ⟨w.heap.size, 1, none⟩ (.string ⟨#[]⟩) (by simp)
    obtain ⟨c2, f2⟩ := kept_cell hb4 ⟨w.heap.size + 1, 0, none⟩ (.int .i64 ((s.size - x.size : Nat) : Int)) (by simp)
    obtain ⟨c3, f3⟩ := kept_cell hb4 ⟨w.heap.size + 1, 1, none⟩ (.string ⟨#[]⟩) (by simp)
    have hb' := below_then (((Below.refl w.heap.size w).alloc (Nat.le_refl _) _).alloc (by simp) _) (by simp; omega) hb4
    have S4 := hb'.size
    by_cases hnm : (q.extract 0 m).size = 0
    ·rw [if_pos (.inr hnm)] at HE
     have hR : R = none := HE.out
     subst hR
     clear HE
     have hne0 := str_empty _ hnm
     rw [hne0]
     go_wp2
     go_region
     all_goals
      go_wp2
      (try simp only [Exit.inBlock, Exit.then]); refine bodyPost_ret (results_ctt rfl _ _ _ rfl (ty_load _ w.heap.size 0 (x := .int .i64 0) (y := .string ⟨#[]⟩) (by simp only [World.cell?_drew]; (repeat (first | with_reducible assumption | (with_reducible apply World.cell?_setCell_same) | (with_reducible refine cell_alloc _ _ ?_) | (refine (World.cell?_setCell_other _ _ _ _ (by first | (simp; done) | (intro q; simp at q; done) | (intro q; simp at q; omega))).trans ?_)))) (by simp only [World.cell?_drew]; (repeat (first | with_reducible assumption | (with_reducible apply World.cell?_setCell_same) | (with_reducible refine cell_alloc _ _ ?_) | (refine (World.cell?_setCell_other _ _ _ _ (by first | (simp; done) | (intro q; simp at q; done) | (intro q; simp at q; omega))).trans ?_)))))) rfl ?_
      exact ⟨rfl, ((hb'.setCell (p := ⟨w.heap.size, 0, none⟩) (Nat.le_refl _) _).setCell (p := ⟨w.heap.size, 1, none⟩) (Nat.le_refl _) _).drew⟩
    ·rw [if_neg (by omega)] at HE
     have hms : (q.extract 0 m).size ≤ 1099511627776 := by simp; omega
     have k6 := Lib.hid (fun W hT => right_any ((s.size : Int) - x.size) (q.extract 0 m) W hms hT)
     have HE' := Lib.hid HE.out
     clear HE
     have hne2 : ((q.extract 0 m).toList == []) = false := by
      rw [Bool.eq_false_iff]
      intro r
      have := (bytes_beq_iff (q.extract 0 m) ⟨#[]⟩).1 (by simpa using r)
      rw [this] at hnm
      exact hnm rfl
     generalize q.extract 0 m = nm at *
     generalize q.extract (m + 1) q.size = rs at *
     generalize Sp.rightS ((s.size : Int) - x.size, nm) = v at k6 HE'
     unfold Sp.tyV at k6
     simp only [] at k6
     rw [hD] at k6 HE'
     go_wp2_with fail
     have hb4' := hb'.setCell (p := ⟨w.heap.size + 1, 1, none⟩) (by simp) (.string nm)
     refine (k6.out _ (T0.out.below hb4')).mono ?_
     rintro e w5 ⟨rfl, hb5⟩
     obtain ⟨db, gb⟩ := kept_cell hb5 ⟨b, 0, none⟩ (.string s) ⟨by (repeat (first | with_reducible assumption | (with_reducible apply World.cell?_setCell_same) | (with_reducible refine cell_alloc _ _ ?_) | (refine (World.cell?_setCell_other _ _ _ _ (by first | (simp; done) | (intro q; simp at q; done) | (intro q; simp at q; omega))).trans ?_))), by simpa using fb⟩
     obtain ⟨d0, g0⟩ := kept_cell hb5 ⟨w.heap.size, 0, none⟩ (.int .i64 0) ⟨by (repeat (first | with_reducible assumption | (with_reducible apply World.cell?_setCell_same) | (with_reducible refine cell_alloc _ _ ?_) | (refine (World.cell?_setCell_other _ _ _ _ (by first | (simp; done) | (intro q; simp at q; done) | (intro q; simp at q; omega))).trans ?_))), by simpa using f0⟩
     obtain ⟨d1, g1⟩ := kept_cell hb5 ⟨w.heap.size, 1, none⟩ (.string ⟨#[]⟩) ⟨by (repeat (first | with_reducible assumption | (with_reducible apply World.cell?_setCell_same) | (with_reducible refine cell_alloc _ _ ?_) | (refine (World.cell?_setCell_other _ _ _ _ (by first | (simp; done) | (intro q; simp at q; done) | (intro q; simp at q; omega))).trans ?_))), by simpa using f1⟩
     obtain ⟨d2, g2⟩ := kept_cell hb5 ⟨w.heap.size + 1, 0, none⟩ (.int .i64 ((s.size - x.size : Nat) : Int)) ⟨by (repeat (first | with_reducible assumption | (with_reducible apply World.cell?_setCell_same) | (with_reducible refine cell_alloc _ _ ?_) | (refine (World.cell?_setCell_other _ _ _ _ (by first | (simp; done) | (intro q; simp at q; done) | (intro q; simp at q; omega))).trans ?_))), by simpa using f2⟩
     obtain ⟨d3, g3⟩ := kept_cell hb5 ⟨w.heap.size + 1, 1, none⟩ (.string nm) ⟨by (repeat (first | with_reducible assumption | (with_reducible apply World.cell?_setCell_same) | (with_reducible refine cell_alloc _ _ ?_) | (refine (World.cell?_setCell_other _ _ _ _ (by first | (simp; done) | (intro q; simp at q; done) | (intro q; simp at q; omega))).trans ?_))), by simpa using f3⟩
     have hb' := below_then hb4' hb4'.size hb5
     clear hb4' hb5 hb4 cb fb c0 f0 c1 f1 c2 f2 c3 f3 S4
     cases v with
     | false =>
      have hR : R = none := by rw [HE'.out, if_neg (by simp)]
      subst hR
      clear HE'
      go_wp2
      go_region
      all_goals
       go_wp2
       (try simp only [Exit.inBlock, Exit.then]); refine bodyPost_ret (results_ctt rfl _ _ _ rfl (ty_load _ w.heap.size 0 (x := .int .i64 0) (y := .string ⟨#[]⟩) (by simp only [World.cell?_drew]; (repeat (first | with_reducible assumption | (with_reducible apply World.cell?_setCell_same) | (with_reducible refine cell_alloc _ _ ?_) | (refine (World.cell?_setCell_other _ _ _ _ (by first | (simp; done) | (intro q; simp at q; done) | (intro q; simp at q; omega))).trans ?_)))) (by simp only [World.cell?_drew]; (repeat (first | with_reducible assumption | (with_reducible apply World.cell?_setCell_same) | (with_reducible refine cell_alloc _ _ ?_) | (refine (World.cell?_setCell_other _ _ _ _ (by first | (simp; done) | (intro q; simp at q; done) | (intro q; simp at q; omega))).trans ?_)))))) rfl ?_
       exact ⟨rfl, ((hb'.setCell (p := ⟨w.heap.size, 0, none⟩) (Nat.le_refl _) _).setCell (p := ⟨w.heap.size, 1, none⟩) (Nat.le_refl _) _).drew⟩
     | true =>
      have hR : R = some ((((s.size - x.size : Nat) : Int), nm), rs) := by rw [HE'.out, if_pos rfl]
      subst hR
      clear HE'
      go_wp2
      (try simp only [Exit.inBlock, Exit.then]); refine bodyPost_ret (results_ctt rfl _ _ _ rfl (ty_load _ w.heap.size 0 (x := .int .i64 ((s.size - x.size : Nat) : Int)) (y := .string nm) (by (repeat (first | with_reducible assumption | (with_reducible apply World.cell?_setCell_same) | (with_reducible refine cell_alloc _ _ ?_) | (refine (World.cell?_setCell_other _ _ _ _ (by first | (simp; done) | (intro q; simp at q; done) | (intro q; simp at q; omega))).trans ?_)))) (by (repeat (first | with_reducible assumption | (with_reducible apply World.cell?_setCell_same) | (with_reducible refine cell_alloc _ _ ?_) | (refine (World.cell?_setCell_other _ _ _ _ (by first | (simp; done) | (intro q; simp at q; done) | (intro q; simp at q; omega))).trans ?_)))))) rfl ?_
      exact ⟨rfl, grown_new (grown_new (grown_set (grown_below hb') _) hlt _) hlt _, by (repeat (first | with_reducible assumption | (with_reducible apply World.cell?_setCell_same) | (with_reducible refine cell_alloc _ _ ?_) | (refine (World.cell?_setCell_other _ _ _ _ (by first | (simp; done) | (intro q; simp at q; done) | (intro q; simp at q; omega))).trans ?_))), by simpa using gb⟩
  ·have p2' : Lib.hasPrefix x.data.toList [76] = false := by simpa using p2
   rw [p2']
   rw [if_neg p2] at HE
   have hR : R = none := HE.out
   subst hR
   clear HE
   go_wp2
   go_region
   all_goals
    go_wp2
    (try simp only [Exit.inBlock, Exit.then]); refine bodyPost_ret (results_ctt rfl _ _ _ rfl (ty_load _ w.heap.size 0 (x := .int .i64 0) (y := .string ⟨#[]⟩) (by simp) (by simp))) rfl ?_
    exact ⟨rfl, (((Below.refl _ _).alloc (Nat.le_refl _) _).alloc (by simp) _).drew⟩
namespace Sp
def fieldS (s : ByteArray) : Ty × Int := match readS s with
 | none => (t0, 9)
 | some q => if q.2.size = 0 then (q.1, 0) else (t0, 9)
end Sp
theorem cell_alloc (w : World) (o : Obj) {a : Addr} {v : Value} (h : w.cell? a = some v) : (w.alloc o).cell? a = some v := cell_below ((Below.refl _ _).alloc (Nat.le_refl _) _) h
theorem reads_any (s : ByteArray) (w : World) :
  Calls Tryz.prog 249 #[.string s] w fun e w' => e = .returned (.func (Fn.func 284) #[] #[.pointer (some ⟨w.heap.size, 0, none⟩)]) ∧ w' = w.alloc (.cells #[.string s] 9) := by
 go_enter Tryz.func249, Tryz.ntmps249
 go_wp2
 go_ret
 exact ⟨rfl, rfl⟩
set_option maxHeartbeats 8000000 in
set_option maxRecDepth 100000 in
theorem field_any (s : ByteArray) (w : World) (hs : s.size ≤ 1099511627776) (hT : Tabs w) :
  Calls Tryz.prog 210 #[.string s] w fun e w' => e = .returned (.tuple #[Sp.tyV (Sp.fieldS s).1, .int .i64 (Sp.fieldS s).2]) ∧ Below w.heap.size w w' := by
 have T0 := Lib.hid hT
 clear hT
 have HE := Lib.hid (show Sp.fieldS s = _ by rw [Sp.fieldS])
 have k1 := Lib.hid (fun b W hc hf hT => reads1_any b s W hs hc hf hT)
 generalize Sp.fieldS s = R at HE ⊢
 generalize Sp.readS s = q at HE k1
 go_enter Tryz.func210, Tryz.ntmps210
 go_wp2_with fail
 refine (reads_any _ _).mono ?_
 rintro e w1 ⟨rfl, rfl⟩
 go_wp2_with fail
 have hB0 := ((Below.refl w.heap.size w).alloc (Nat.le_refl _) (.cells #[.int .i64 0, .string ⟨#[]⟩] 38)).alloc (by simp) (.cells #[.string s] 9)
 have k2 := k1.out (w.heap.size + 1) _ (by simp) (by simp) (T0.out.below hB0)
 clear k1
 cases q with
 | none =>
  have hR : R = (Sp.t0, 9) := HE.out
  subst hR
  clear HE
  refine k2.mono ?_
  rintro e w1 ⟨rfl, hb⟩
  obtain ⟨c0, f0⟩ := kept_cell hb ⟨w.heap.size, 0, none⟩ (.int .i64 0) (by simp)
  obtain ⟨c1, f1⟩ := kept_cell hb ⟨w.heap.size, 1, none⟩ (.string ⟨#[]⟩) (by simp)
  have hb' := below_then hB0 hB0.size hb
  have hlt : w.heap.size < w1.heap.size := by have := hb.size; simp at this; omega
  unfold Sp.tyV
  go_wp2
  (try simp only [Exit.inBlock, Exit.then]); refine bodyPost_ret (results_ct rfl _ _ _ rfl (ty_load _ w.heap.size 0 (x := .int .i64 0) (y := .string ⟨#[]⟩) (cell_alloc _ _ (by (repeat (first | with_reducible assumption | (with_reducible apply World.cell?_setCell_same) | (with_reducible refine cell_alloc _ _ ?_) | (refine (World.cell?_setCell_other _ _ _ _ (by first | (simp; done) | (intro q; simp at q; done) | (intro q; simp at q; omega))).trans ?_))))) (cell_alloc _ _ (by (repeat (first | with_reducible assumption | (with_reducible apply World.cell?_setCell_same) | (with_reducible refine cell_alloc _ _ ?_) | (refine (World.cell?_setCell_other _ _ _ _ (by first | (simp; done) | (intro q; simp at q; done) | (intro q; simp at q; omega))).trans ?_))))))) rfl ?_
  exact ⟨rfl, ((hb'.setCell (p := ⟨w.heap.size, 0, none⟩) (Nat.le_refl _) _).setCell (p := ⟨w.heap.size, 1, none⟩) (Nat.le_refl _) _).alloc (by simp; omega) _⟩
 | some q =>
  obtain ⟨⟨qd, qn⟩, qr⟩ := q
  refine k2.mono ?_
  rintro e w1 ⟨rfl, hg, hcb, hfb⟩
  have hlt : w.heap.size < w1.heap.size := by have := hg.size; simp at this; omega
  have hold : w1.heap[w.heap.size]? = ((w.alloc (.cells #[.int .i64 0, .string ⟨#[]⟩] 38)).alloc (.cells #[.string s] 9)).heap[w.heap.size]? := hg.block _ (by simp; omega) (by simp)
  have c0 : w1.cell? ⟨w.heap.size, 0, none⟩ = some (.int .i64 0) := (World.cell?_of_block (a := ⟨w.heap.size, 0, none⟩) hold).trans (by simp)
  have c1 : w1.cell? ⟨w.heap.size, 1, none⟩ = some (.string ⟨#[]⟩) := (World.cell?_of_block (a := ⟨w.heap.size, 1, none⟩) hold).trans (by simp)
  have f0 : w1.frozen? ⟨w.heap.size, 0, none⟩ = false := (World.frozen?_of_block (a := ⟨w.heap.size, 0, none⟩) hold).trans (by simp)
  have f1 : w1.frozen? ⟨w.heap.size, 1, none⟩ = false := (World.frozen?_of_block (a := ⟨w.heap.size, 1, none⟩) hold).trans (by simp)
  have hb' : Below w.heap.size w w1 := hB0.grown hg hB0.size (fun k hk => by simp at hk; omega)
  by_cases hz : qr.size = 0
  ·have hR : R = ((qd, qn), 0) := by rw [HE.out]; simp [hz]
   obtain rfl := str_empty qr hz
   subst hR
   clear HE
   unfold Sp.tyV
   go_wp2
   (try simp only [Exit.inBlock, Exit.then]); refine bodyPost_ret (results_ct rfl _ _ _ rfl (ty_load _ w.heap.size 0 (x := .int .i64 qd) (y := .string qn) (cell_alloc _ _ (by (repeat (first | with_reducible assumption | (with_reducible apply World.cell?_setCell_same) | (with_reducible refine cell_alloc _ _ ?_) | (refine (World.cell?_setCell_other _ _ _ _ (by first | (simp; done) | (intro q; simp at q; done) | (intro q; simp at q; omega))).trans ?_))))) (cell_alloc _ _ (by (repeat (first | with_reducible assumption | (with_reducible apply World.cell?_setCell_same) | (with_reducible refine cell_alloc _ _ ?_) | (refine (World.cell?_setCell_other _ _ _ _ (by first | (simp; done) | (intro q; simp at q; done) | (intro q; simp at q; omega))).trans ?_))))))) rfl ?_
   exact ⟨rfl, ((hb'.setCell (p := ⟨w.heap.size, 0, none⟩) (Nat.le_refl _) _).setCell (p := ⟨w.heap.size, 1, none⟩) (Nat.le_refl _) _).alloc (by simp; omega) _⟩
  ·have hR : R = (Sp.t0, 9) := by rw [HE.out]; simp [hz]
   have hne2 : (qr.toList == []) = false := by
    rw [Bool.eq_false_iff]
    intro r
    have := (bytes_beq_iff qr ⟨#[]⟩).1 (by simpa using r)
    rw [this] at hz
    exact hz rfl
   subst hR
   clear HE
   unfold Sp.tyV
   go_wp2
   (try simp only [Exit.inBlock, Exit.then]); refine bodyPost_ret (results_ct rfl _ _ _ rfl (ty_load _ w.heap.size 0 (x := .int .i64 0) (y := .string ⟨#[]⟩) (cell_alloc _ _ (by (repeat (first | with_reducible assumption | (with_reducible apply World.cell?_setCell_same) | (with_reducible refine cell_alloc _ _ ?_) | (refine (World.cell?_setCell_other _ _ _ _ (by first | (simp; done) | (intro q; simp at q; done) | (intro q; simp at q; omega))).trans ?_))))) (cell_alloc _ _ (by (repeat (first | with_reducible assumption | (with_reducible apply World.cell?_setCell_same) | (with_reducible refine cell_alloc _ _ ?_) | (refine (World.cell?_setCell_other _ _ _ _ (by first | (simp; done) | (intro q; simp at q; done) | (intro q; simp at q; omega))).trans ?_))))))) rfl ?_
   exact ⟨rfl, ((hb'.setCell (p := ⟨w.heap.size, 0, none⟩) (Nat.le_refl _) _).setCell (p := ⟨w.heap.size, 1, none⟩) (Nat.le_refl _) _).alloc (by simp; omega) _⟩
end Go.Proofs.YtjjlcoimaihdoaaGreatDoor
namespace Go.Proofs.YtjjlcoimaihdoaaGreatDoor.Sp
open Go.RowKit Go.Lib
def cnt (s : ByteArray) : Nat := s.size - (trimB s).size
theorem bt_list (s : ByteArray) (j : Nat) : bt s j = match s.data.toList[j]? with | some c => (c.toNat : Int) | none => 0 := by
 unfold bt
 by_cases h : j < s.size
 ·have h2 : j < s.data.toList.length := by rw [← Lib.size_eq]; exact h
  rw [dif_pos h, List.getElem?_eq_getElem h2]
  rfl
 ·have h2 : ¬ j < s.data.toList.length := by rw [← Lib.size_eq]; exact h
  rw [dif_neg h, List.getElem?_eq_none (by omega)]
theorem drop_split (c : UInt8) : ∀ l : List UInt8, ∃ k r, l = List.replicate k c ++ r ∧ l.dropWhile (· == c) = r ∧ ∀ x, r.head? = some x → x ≠ c
 | [] => ⟨0, [], rfl, rfl, by simp⟩
 | a :: l => by
  by_cases h : a = c
  ·subst h
   obtain ⟨k, r, h1, h2, h3⟩ := drop_split a l
   refine ⟨k + 1, r, ?_, ?_, h3⟩
   ·rw [List.replicate_succ, List.cons_append, ← h1]
   ·rw [List.dropWhile_cons, if_pos (by simp), h2]
  ·refine ⟨0, a :: l, rfl, ?_, ?_⟩
   ·rw [List.dropWhile_cons, if_neg (by simpa using h)]
   ·intro x hx
    simp at hx
    subst hx
    exact h
theorem trim_split (s : ByteArray) : s.data.toList = List.replicate (cnt s) 91 ++ (trimB s).data.toList ∧ (∀ x, (trimB s).data.toList.head? = some x → x ≠ 91) ∧ cnt s ≤ s.size := by
 obtain ⟨k, r, h1, h2, h3⟩ := drop_split 91 s.data.toList
 have e : (trimB s).data.toList = r := by
  rw [← h2]
  simp [trimB, Lib.trimLeftB]
 have hc : cnt s = k := by
  unfold cnt
  rw [Lib.size_eq, Lib.size_eq, e, h1]
  simp
 refine ⟨by rw [hc, e]; exact h1, by rw [e]; exact h3, ?_⟩
 unfold cnt
 omega
theorem cnt_bt (s : ByteArray) (j : Nat) (h : j < cnt s) : bt s j = 91 := by
 rw [bt_list, (trim_split s).1, List.getElem?_append_left (by simpa using h)]
 simp [h]
theorem trim_get (s : ByteArray) (j : Nat) : bt s (cnt s + j) = bt (trimB s) j := by
 rw [bt_list, bt_list, (trim_split s).1, List.getElem?_append_right (by simp)]
 simp
theorem pre_bt (s : ByteArray) (c : UInt8) (hc : c ≠ 0) : (Lib.hasPrefix s.data.toList [c] = true) ↔ bt s 0 = c.toNat := by
 rw [bt_list]
 unfold Lib.hasPrefix
 cases h : s.data.toList with
 | nil =>
  have : ¬ (0 : Int) = (c.toNat : Int) := by
   intro q
   apply hc
   have : c.toNat = 0 := by omega
   exact UInt8.toNat_inj.1 this
  simpa using this
 | cons a l =>
  simp
  constructor
  ·intro q; rw [q]
  ·intro q
   have : c.toNat = a.toNat := by omega
   exact UInt8.toNat_inj.1 this
theorem trim_head (s : ByteArray) (h : cnt s < s.size) : bt s (cnt s) ≠ 91 := by
 have h1 := trim_get s 0
 rw [Nat.add_zero] at h1
 rw [h1, bt_list]
 have h2 := (trim_split s).2.1
 cases hl : (trimB s).data.toList with
 | nil =>
  simp
 | cons a l =>
  rw [hl] at h2
  have := h2 a rfl
  simp
  intro q
  apply this
  have : a.toNat = (91 : UInt8).toNat := by
   show a.toNat = 91
   omega
  exact UInt8.toNat_inj.1 this
theorem ix_spec : ∀ (l : List UInt8) (c : UInt8), (Lib.indexByte l c = -1 ∧ ∀ (j : Nat) x, l[j]? = some x → x ≠ c) ∨ ∃ k : Nat, Lib.indexByte l c = k ∧ l[k]? = some c ∧ ∀ (j : Nat) x, j < k → l[j]? = some x → x ≠ c
 | [], c => .inl ⟨rfl, by simp⟩
 | a :: l, c => by
  by_cases h : a = c
  ·refine .inr ⟨0, ?_, by simp [h], by simp⟩
   simp [Lib.indexByte, h]
  ·have hb : (a == c) = false := by simpa using h
   rcases ix_spec l c with ⟨h1, h2⟩ | ⟨k, h1, h2, h3⟩
   ·refine .inl ⟨by simp [Lib.indexByte, hb, h1], ?_⟩
    intro j x hj
    cases j with
    | zero => simp at hj; subst hj; exact h
    | succ j => exact h2 j x (by simpa using hj)
   ·refine .inr ⟨k + 1, ?_, by simpa using h2, ?_⟩
    ·simp only [Lib.indexByte, hb, h1]
     have : ((k : Int) == -1) = false := by rw [beq_eq_false_iff_ne]; omega
     rw [this]
     simp
    ·intro j x hj hx
     cases j with
     | zero => simp at hx; subst hx; exact h
     | succ j => exact h3 j x (by omega) (by simpa using hx)
theorem bt_ne (s : ByteArray) (j : Nat) (h : j < s.size) (c : UInt8) (hx : ∀ x, s.data.toList[j]? = some x → x ≠ c) : bt s j ≠ c.toNat := by
 have h2 : j < s.data.toList.length := by rw [← Lib.size_eq]; exact h
 rw [bt_list, List.getElem?_eq_getElem h2]
 simp only []
 intro q
 apply hx _ (List.getElem?_eq_getElem h2)
 apply UInt8.toNat_inj.1
 omega
theorem ixC_spec (s : ByteArray) : (ixC s = -1 ∧ ∀ j, j < s.size → bt s j ≠ 59) ∨ ∃ k : Nat, ixC s = k ∧ k < s.size ∧ bt s k = 59 ∧ ∀ j, j < k → bt s j ≠ 59 := by
 rcases ix_spec s.data.toList 59 with ⟨h1, h2⟩ | ⟨k, h1, h2, h3⟩
 ·exact .inl ⟨h1, fun j hj => bt_ne s j hj 59 (fun x hx => h2 j x hx)⟩
 ·have hk : k < s.size := by
   have := (ixC_range s).2
   have e : ixC s = k := h1
   omega
  refine .inr ⟨k, h1, hk, ?_, fun j hj => bt_ne s j (by omega) 59 (fun x hx => h3 j x hj hx)⟩
  rw [bt_list, h2]
  rfl
theorem tail_get (s : ByteArray) (j : Nat) (h : cnt s < s.size) : bt (tailB (trimB s)) j = bt s (cnt s + 1 + j) ∧ (tailB (trimB s)).size = s.size - cnt s - 1 := by
 have hs : (tailB (trimB s)).size = (trimB s).size - 1 := by simp [tailB]
 have h2 := trim_size s
 have h3 : (trimB s).size = s.size - cnt s := by unfold cnt at *; omega
 refine ⟨?_, by omega⟩
 rw [bt_nb, tailB, nb_extract, ← bt_nb, ← trim_get, Nat.add_assoc]
theorem trim_zero (s : ByteArray) : bt s (cnt s) = bt (trimB s) 0 := by
 have := trim_get s 0
 rwa [Nat.add_zero] at this
theorem dims_eq (s : ByteArray) : ((s.size : Int) - (trimB s).size) = (cnt s : Int) := by
 have := trim_size s
 unfold cnt
 omega
theorem bt_end (s : ByteArray) (j : Nat) (h : ¬ j < s.size) : bt s j = 0 := by rw [bt, dif_neg h]
theorem readS_I (s : ByteArray) (h : bt s (cnt s) = 73) : readS s = if rightS ((cnt s : Int), ⟨#[]⟩) = true then some (((cnt s : Int), ⟨#[]⟩), tailB (trimB s)) else none := by
 rw [readS, if_pos ((pre_bt _ 73 (by decide)).2 (by rw [← trim_zero, h]; rfl)), dims_eq]
theorem readS_none (s : ByteArray) (h1 : bt s (cnt s) ≠ 73) (h2 : bt s (cnt s) ≠ 76) : readS s = none := by
 rw [readS, if_neg, if_neg]
 ·intro q
  exact h2 (by rw [trim_zero]; exact (pre_bt _ 76 (by decide)).1 q)
 ·intro q
  exact h1 (by rw [trim_zero]; exact (pre_bt _ 73 (by decide)).1 q)
theorem readS_L (s : ByteArray) (h : bt s (cnt s) = 76) : readS s =
  if ixC (tailB (trimB s)) < 0 ∨ ((tailB (trimB s)).extract 0 (ixC (tailB (trimB s))).toNat).size = 0 then none
  else if rightS ((cnt s : Int), (tailB (trimB s)).extract 0 (ixC (tailB (trimB s))).toNat) = true then some (((cnt s : Int), (tailB (trimB s)).extract 0 (ixC (tailB (trimB s))).toNat), (tailB (trimB s)).extract ((ixC (tailB (trimB s))).toNat + 1) (tailB (trimB s)).size) else none := by
 have h1 : ¬ Lib.hasPrefix (trimB s).data.toList [73] = true := by
  intro q
  have := (pre_bt _ 73 (by decide)).1 q
  rw [← trim_zero, h] at this
  revert this
  decide
 rw [readS, if_neg h1, if_pos ((pre_bt _ 76 (by decide)).2 (by rw [← trim_zero, h]; rfl)), dims_eq]
theorem readS_deep (s : ByteArray) (h : 4 < cnt s) : readS s = none := by
 have hr : ∀ n, rightS ((cnt s : Int), n) = false := by
  intro n
  have : ¬ (cnt s : Int) ≤ 4 := by omega
  simp [rightS, this]
 by_cases h1 : bt s (cnt s) = 73
 ·rw [readS_I s h1, if_neg (by rw [hr]; simp)]
 ·by_cases h2 : bt s (cnt s) = 76
  ·rw [readS_L s h2]
   split
   ·rfl
   ·rw [if_neg (by rw [hr]; simp)]
  ·exact readS_none s h1 h2
theorem ext_list (a b : ByteArray) (h : a.data.toList = b.data.toList) : a = b := by
 apply ByteArray.ext
 exact Array.ext' h
theorem trim_extract (s : ByteArray) : trimB s = s.extract (cnt s) s.size := by
 apply ext_list
 have h := (trim_split s).1
 rw [Lib.extract_to_end]
 rw [h]
 simp
theorem tail_extract (s : ByteArray) : tailB (trimB s) = s.extract (cnt s + 1) s.size := by
 apply ext_list
 rw [tailB, Lib.extract_to_end, trim_extract, Lib.extract_to_end, Lib.extract_to_end]
 simp [List.drop_drop]
theorem cut_extract (s : ByteArray) (a k : Nat) : (s.extract a s.size).extract 0 k = s.extract a (a + k) := by
 apply ext_list
 rw [Lib.extract_data, Lib.extract_to_end, Lib.extract_data, List.drop_zero, Nat.sub_zero, Nat.add_sub_cancel_left]
theorem drop_extract (s : ByteArray) (a k : Nat) : (s.extract a s.size).extract k (s.extract a s.size).size = s.extract (a + k) s.size := by
 apply ext_list
 rw [Lib.extract_to_end, Lib.extract_to_end, Lib.extract_to_end, List.drop_drop]
theorem readS_class (s : ByteArray) (h : bt s (cnt s) = 76) (hc : cnt s < s.size) (h4 : cnt s ≤ 4) :
  ∃ E, cnt s + 1 ≤ E ∧ E ≤ s.size ∧ (∀ j, cnt s + 1 ≤ j → j < E → bt s j ≠ 59) ∧ (E < s.size → bt s E = 59) ∧
   readS s = if E = s.size ∨ nameS (s.extract (cnt s + 1) E) = false then none else some (((cnt s : Int), s.extract (cnt s + 1) E), s.extract (E + 1) s.size) := by
 have hz := (tail_get s 0 hc).2
 have hr : ∀ n : ByteArray, n.size ≠ 0 → rightS ((cnt s : Int), n) = nameS n := by
  intro n hn
  have q0 : (0 : Int) ≤ (cnt s : Int) := by omega
  have q4 : (cnt s : Int) ≤ 4 := by omega
  simp only [rightS, decide_eq_true q0, decide_eq_true q4, Bool.true_and, decide_eq_false hn, Bool.false_or]
 have hn0 : ∀ n : ByteArray, n.size = 0 → nameS n = false := by
  intro n hn
  have : n = ⟨#[]⟩ := str_empty n hn
  subst this
  decide +kernel
 have hL := readS_L s h
 rcases ixC_spec (tailB (trimB s)) with ⟨h1, h2⟩ | ⟨k, h1, h2, h3, h5⟩
 ·refine ⟨s.size, by omega, Nat.le_refl _, ?_, fun q => absurd q (Nat.lt_irrefl _), ?_⟩
  ·intro j hj1 hj2
   have := h2 (j - (cnt s + 1)) (by omega)
   rw [(tail_get s _ hc).1] at this
   rwa [show cnt s + 1 + (j - (cnt s + 1)) = j by omega] at this
  ·rw [hL, h1, if_pos (.inl (by decide)), if_pos (.inl rfl)]
 ·have e1 : (tailB (trimB s)).extract 0 k = s.extract (cnt s + 1) (cnt s + 1 + k) := by rw [tail_extract, cut_extract]
  have e2 : (tailB (trimB s)).extract (k + 1) (tailB (trimB s)).size = s.extract (cnt s + 1 + k + 1) s.size := by rw [tail_extract, drop_extract, show cnt s + 1 + (k + 1) = cnt s + 1 + k + 1 by omega]
  refine ⟨cnt s + 1 + k, by omega, by omega, ?_, ?_, ?_⟩
  ·intro j hj1 hj2
   have := h5 (j - (cnt s + 1)) (by omega)
   rw [(tail_get s _ hc).1] at this
   rwa [show cnt s + 1 + (j - (cnt s + 1)) = j by omega] at this
  ·intro _
   rw [(tail_get s _ hc).1] at h3
   exact h3
  ·rw [hL, h1]
   simp only [Int.toNat_natCast]
   rw [e1, e2]
   by_cases hz0 : (s.extract (cnt s + 1) (cnt s + 1 + k)).size = 0
   ·rw [if_pos (.inr hz0), if_pos (.inr (hn0 _ hz0))]
   ·rw [if_neg (by omega), hr _ hz0]
    cases nameS (s.extract (cnt s + 1) (cnt s + 1 + k)) with
    | false => rw [if_neg (by simp), if_pos (.inr rfl)]
    | true => rw [if_pos rfl, if_neg (by simp; omega)]
end Go.Proofs.YtjjlcoimaihdoaaGreatDoor.Sp
namespace Go.Proofs.YtjjlcoimaihdoaaGreatDoor
open Go.RowKit Go.Lib
namespace Sp
def refNextS (s : ByteArray) : Ty × Int := match readS s with
 | none => (t0, 0)
 | some q => (q.1, (s.size : Int) - q.2.size)
end Sp
set_option maxHeartbeats 8000000 in
set_option maxRecDepth 100000 in
theorem refNext2_any (s : ByteArray) (w : World) (hs : s.size ≤ 1099511627776) :
  Calls Tryz.prog 241 #[.string s] w fun e w' => e = .returned (.tuple #[Sp.tyV (Sp.refNextS s).1, .int .i64 (Sp.refNextS s).2]) ∧ Below w.heap.size w w' := by
 have hcs := (Sp.trim_split s).2.2
 go_enter Tryz.func241, Tryz.ntmps241
 go_wp2
 go_loopw [9] (fun _ wr => ∃ j : Nat, j ≤ Sp.cnt s ∧ wr = (w.alloc (.cells #[.int .i64 0, .string ⟨#[]⟩] 38)).alloc (.cells #[.int .i64 j, .string ⟨#[]⟩] 38)) (fun _ wr => s.size - (RowKit.intOf ((wr.cell? ⟨w.heap.size + 1, 0, none⟩).getD undef)).toNat)
 case atStart => exact ⟨0, Nat.zero_le _, rfl⟩
 case round =>
  obtain ⟨j, hj, rfl⟩ := hrel
  by_cases hlt : j < Sp.cnt s
  ·have hck := idx_str s j (by omega)
   rw [Sp.cnt_bt s j hlt] at hck
   have hz : (j : Int) < (s.size : Int) := by omega
   go_wp2
   go_roundw
   case rel => exact ⟨j + 1, by omega, by simp⟩
   case measure => simp [RowKit.intOf]; omega
  ·obtain rfl : j = Sp.cnt s := by omega
   have D1 := Sp.readS_deep s
   have D2 := Sp.readS_I s
   have D3 := Sp.readS_none s
   have D4 := Sp.readS_L s
   have D5 := Sp.trim_head s
   have D6 := Sp.bt_end s
   have D7 := fun j => Sp.tail_get s j
   have Dc := Sp.readS_class s
   generalize hcc : Sp.cnt s = c at *
   by_cases hdeep : 4 < c
   ·have hR : Sp.refNextS s = (Sp.t0, 0) := by rw [Sp.refNextS, D1 hdeep]
    have hz4 : (4 : Int) < (c : Int) := by omega
    have hck := fun h => idx_str s c h
    by_cases hend : c < s.size
    ·have hk := idx_str s c hend
     have hne : ¬ Sp.bt s c = 91 := D5 hend
     generalize Sp.bt s c = y at *
     clear hck Dc D1 D2 D3 D4 D5 D6 D7
     go_wp2
     (try simp only [Exit.inBlock, Exit.then]); refine bodyPost_ret (results_ct rfl _ _ _ rfl (ty_load _ w.heap.size 0 (x := .int .i64 0) (y := .string ⟨#[]⟩) (by simp) (by simp))) rfl ?_
     exact ⟨by first | rfl | (rw [hR]; rfl), (((Below.refl _ _).alloc (Nat.le_refl _) _).alloc (by simp) _)⟩
    ·have hz : ¬ (c : Int) < (s.size : Int) := by omega
     clear hck Dc D1 D2 D3 D4 D5 D6 D7
     go_wp2
     (try simp only [Exit.inBlock, Exit.then]); refine bodyPost_ret (results_ct rfl _ _ _ rfl (ty_load _ w.heap.size 0 (x := .int .i64 0) (y := .string ⟨#[]⟩) (by simp) (by simp))) rfl ?_
     exact ⟨by first | rfl | (rw [hR]; rfl), (((Below.refl _ _).alloc (Nat.le_refl _) _).alloc (by simp) _)⟩
   have hz4 : ¬ (4 : Int) < (c : Int) := by omega
   by_cases hend : c < s.size
   ·have hk := idx_str s c hend
    have hne : ¬ Sp.bt s c = 91 := D5 hend
    have hz : (c : Int) < (s.size : Int) := by omega
    have hzc : ((c : Int) == (s.size : Int)) = false := by rw [beq_eq_false_iff_ne]; omega
    by_cases y1 : Sp.bt s c = 73
    ·have hts := (D7 0 hend).2
     have q0 : (0 : Int) ≤ (c : Int) := by omega
     have q4 : (c : Int) ≤ 4 := by omega
     have hri : Sp.rightS ((c : Int), ⟨#[]⟩) = true := by
      simp only [Sp.rightS, decide_eq_true q0, decide_eq_true q4, Bool.true_and]
      rfl
     have hR : Sp.refNextS s = (((c : Int), ⟨#[]⟩), (c : Int) + 1) := by
      rw [Sp.refNextS, D2 y1, if_pos hri]
      simp only [Prod.mk.injEq, true_and]
      rw [hts]
      omega
     rw [y1] at hk
     clear Dc D1 D2 D3 D4 D5 D6 D7 y1 hne
     go_wp2
     (try simp only [Exit.inBlock, Exit.then]); refine bodyPost_ret (results_ct rfl _ _ _ rfl (ty_load _ w.heap.size 0 (x := .int .i64 c) (y := .string ⟨#[]⟩) (by simp) (by simp))) rfl ?_
     exact ⟨by first | rfl | (rw [hR]; rfl), (((Below.refl _ _).alloc (Nat.le_refl _) _).alloc (by simp) _)⟩
    by_cases y2 : Sp.bt s c = 76
    ·rw [y2] at hk
     obtain ⟨E, g1, g2, g3, g4, g5⟩ := Dc y2 hend (by omega)
     have hnm : (s.extract (c + 1) E).size ≤ 1099511627776 := by simp; omega
     have k1 := Lib.hid (fun W => refName_any (s.extract (c + 1) E) W (by omega))
     rw [Sp.refName_eq] at k1
     have hR := Lib.hid (show Sp.refNextS s = if E = s.size ∨ Sp.nameS (s.extract (c + 1) E) = false then (Sp.t0, 0) else (((c : Int), s.extract (c + 1) E), (E : Int) + 1) by
      rw [Sp.refNextS, g5]
      by_cases q : E = s.size ∨ Sp.nameS (s.extract (c + 1) E) = false
      ·rw [if_pos q, if_pos q]
      ·rw [if_neg q, if_neg q]
       have hx : (s.extract (E + 1) s.size).size = s.size - (E + 1) := by simp
       simp only [hx]
       have : E < s.size := by omega
       refine Prod.ext rfl ?_
       simp only []
       omega)
     clear Dc D1 D2 D3 D4 D5 D6 D7 g5 hne y2
     generalize hN : s.extract (c + 1) E = nm at *
     generalize Sp.nameS nm = v at *
     go_wp2
     go_loop [6] (fun v6 => ∃ j : Nat, c + 1 ≤ j ∧ j ≤ E ∧ v6 = .int .i64 j) (fun v6 => E - (RowKit.intOf v6).toNat)
     case atStart => exact ⟨c + 1, Nat.le_refl _, g1, by go_num⟩
     case round =>
      obtain ⟨j, hj1, hj2, rfl⟩ := hrel
      by_cases hlt : j < E
      ·have hjs : j < s.size := by omega
       have hzj : (j : Int) < (s.size : Int) := by omega
       have hkj := idx_str s j hjs
       have hny := g3 j hj1 hlt
       generalize Sp.bt s j = y at hkj hny
       go_wp2
       go_round
       case rel => exact ⟨j + 1, by omega, by omega, by go_num⟩
       case measure => simp [RowKit.intOf]; omega
      ·obtain rfl : j = E := by omega
       clear g3
       have hfin : Hid (∀ W1, Below ((w.alloc (.cells #[.int .i64 0, .string ⟨#[]⟩] 38)).alloc (.cells #[.int .i64 c, .string nm] 38)).heap.size ((w.alloc (.cells #[.int .i64 0, .string ⟨#[]⟩] 38)).alloc (.cells #[.int .i64 c, .string nm] 38)) W1 → Below w.heap.size w W1) := Lib.hid (fun W1 h => below_then (((Below.refl _ _).alloc (Nat.le_refl _) _).alloc (by simp) _) (by simp; omega) h)
       by_cases hE : j = s.size
       ·have hR' : Sp.refNextS s = (Sp.t0, 0) := by rw [hR.out, if_pos (.inl hE)]
        have hze : ¬ (j : Int) < (s.size : Int) := by omega
        subst hE
        clear hR
        go_wp2_with fail
        refine (k1.out _).mono ?_
        rintro e w1 ⟨rfl, hb⟩
        obtain ⟨c0, f0⟩ := kept_cell hb ⟨w.heap.size, 0, none⟩ (.int .i64 0) (by simp)
        obtain ⟨c1, f1⟩ := kept_cell hb ⟨w.heap.size, 1, none⟩ (.string ⟨#[]⟩) (by simp)
        have hb' := hfin.out _ hb
        go_wp2
        (try simp only [Exit.inBlock, Exit.then]); refine bodyPost_ret (results_ct rfl _ _ _ rfl (ty_load _ w.heap.size 0 (x := .int .i64 0) (y := .string ⟨#[]⟩) (by (repeat (first | with_reducible assumption | (with_reducible apply World.cell?_setCell_same) | (with_reducible refine cell_alloc _ _ ?_) | (refine (World.cell?_setCell_other _ _ _ _ (by first | (simp; done) | (intro q; simp at q; done) | (intro q; simp at q; omega))).trans ?_)))) (by (repeat (first | with_reducible assumption | (with_reducible apply World.cell?_setCell_same) | (with_reducible refine cell_alloc _ _ ?_) | (refine (World.cell?_setCell_other _ _ _ _ (by first | (simp; done) | (intro q; simp at q; done) | (intro q; simp at q; omega))).trans ?_)))))) rfl ?_
        exact ⟨by first | rfl | (rw [hR']; rfl), (hb'.setCell (p := ⟨w.heap.size, 0, none⟩) (Nat.le_refl _) _).setCell (p := ⟨w.heap.size, 1, none⟩) (Nat.le_refl _) _⟩
       ·have hlt2 : j < s.size := by omega
        have hkE := idx_str s j hlt2
        rw [g4 hlt2] at hkE
        have hzl : (j : Int) < (s.size : Int) := by omega
        have hzb : ((j : Int) == (s.size : Int)) = false := by rw [beq_eq_false_iff_ne]; omega
        cases v with
        | false =>
         have hR' : Sp.refNextS s = (Sp.t0, 0) := by rw [hR.out, if_pos (.inr rfl)]
         clear hR
         go_wp2_with fail
         refine (k1.out _).mono ?_
         rintro e w1 ⟨rfl, hb⟩
         obtain ⟨c0, f0⟩ := kept_cell hb ⟨w.heap.size, 0, none⟩ (.int .i64 0) (by simp)
         obtain ⟨c1, f1⟩ := kept_cell hb ⟨w.heap.size, 1, none⟩ (.string ⟨#[]⟩) (by simp)
         have hb' := hfin.out _ hb
         go_wp2
         (try simp only [Exit.inBlock, Exit.then]); refine bodyPost_ret (results_ct rfl _ _ _ rfl (ty_load _ w.heap.size 0 (x := .int .i64 0) (y := .string ⟨#[]⟩) (by (repeat (first | with_reducible assumption | (with_reducible apply World.cell?_setCell_same) | (with_reducible refine cell_alloc _ _ ?_) | (refine (World.cell?_setCell_other _ _ _ _ (by first | (simp; done) | (intro q; simp at q; done) | (intro q; simp at q; omega))).trans ?_)))) (by (repeat (first | with_reducible assumption | (with_reducible apply World.cell?_setCell_same) | (with_reducible refine cell_alloc _ _ ?_) | (refine (World.cell?_setCell_other _ _ _ _ (by first | (simp; done) | (intro q; simp at q; done) | (intro q; simp at q; omega))).trans ?_)))))) rfl ?_
         exact ⟨by first | rfl | (rw [hR']; rfl), (hb'.setCell (p := ⟨w.heap.size, 0, none⟩) (Nat.le_refl _) _).setCell (p := ⟨w.heap.size, 1, none⟩) (Nat.le_refl _) _⟩
        | true =>
         have hR' : Sp.refNextS s = (((c : Int), nm), (j : Int) + 1) := by rw [hR.out, if_neg (by simp; omega)]
         clear hR
         go_wp2_with fail
         refine (k1.out _).mono ?_
         rintro e w1 ⟨rfl, hb⟩
         obtain ⟨c0, f0⟩ := kept_cell hb ⟨w.heap.size, 0, none⟩ (.int .i64 0) (by simp)
         obtain ⟨c1, f1⟩ := kept_cell hb ⟨w.heap.size, 1, none⟩ (.string ⟨#[]⟩) (by simp)
         obtain ⟨c2, f2⟩ := kept_cell hb ⟨w.heap.size + 1, 0, none⟩ (.int .i64 c) (by simp)
         obtain ⟨c3, f3⟩ := kept_cell hb ⟨w.heap.size + 1, 1, none⟩ (.string nm) (by simp)
         have hb' := hfin.out _ hb
         go_wp2
         (try simp only [Exit.inBlock, Exit.then]); refine bodyPost_ret (results_ct rfl _ _ _ rfl (ty_load _ w.heap.size 0 (x := .int .i64 c) (y := .string nm) (by (repeat (first | with_reducible assumption | (with_reducible apply World.cell?_setCell_same) | (with_reducible refine cell_alloc _ _ ?_) | (refine (World.cell?_setCell_other _ _ _ _ (by first | (simp; done) | (intro q; simp at q; done) | (intro q; simp at q; omega))).trans ?_)))) (by (repeat (first | with_reducible assumption | (with_reducible apply World.cell?_setCell_same) | (with_reducible refine cell_alloc _ _ ?_) | (refine (World.cell?_setCell_other _ _ _ _ (by first | (simp; done) | (intro q; simp at q; done) | (intro q; simp at q; omega))).trans ?_)))))) rfl ?_
         exact ⟨by first | rfl | (rw [hR']; rfl), (hb'.setCell (p := ⟨w.heap.size, 0, none⟩) (Nat.le_refl _) _).setCell (p := ⟨w.heap.size, 1, none⟩) (Nat.le_refl _) _⟩
    ·have hR : Sp.refNextS s = (Sp.t0, 0) := by rw [Sp.refNextS, D3 y1 y2]
     generalize Sp.bt s c = y at *
     clear Dc D1 D2 D3 D4 D5 D6 D7
     go_wp2
     (try simp only [Exit.inBlock, Exit.then]); refine bodyPost_ret (results_ct rfl _ _ _ rfl (ty_load _ w.heap.size 0 (x := .int .i64 0) (y := .string ⟨#[]⟩) (by simp) (by simp))) rfl ?_
     exact ⟨by first | rfl | (rw [hR]; rfl), (((Below.refl _ _).alloc (Nat.le_refl _) _).alloc (by simp) _)⟩
   ·have hR : Sp.refNextS s = (Sp.t0, 0) := by rw [Sp.refNextS, D3 (by rw [D6 c hend]; decide) (by rw [D6 c hend]; decide)]
    have hz : ¬ (c : Int) < (s.size : Int) := by omega
    have hce : c = s.size := by omega
    clear Dc D1 D2 D3 D4 D5 D6 D7
    go_wp2
    (try simp only [Exit.inBlock, Exit.then]); refine bodyPost_ret (results_ct rfl _ _ _ rfl (ty_load _ w.heap.size 0 (x := .int .i64 0) (y := .string ⟨#[]⟩) (by simp) (by simp))) rfl ?_
    exact ⟨by first | rfl | (rw [hR]; rfl), (((Below.refl _ _).alloc (Nat.le_refl _) _).alloc (by simp) _)⟩
namespace Sp
abbrev Sig := List Ty × Ty × Bool
def sig0 : Sig := ([], t0, false)
def argsF : Nat → ByteArray → Option (List Ty × ByteArray)
 | 0, _ => none
 | f + 1, s => if bt s 0 = 41 then some ([], s) else match readS s with
  | none => none
  | some q => (argsF f q.2).map fun r => (q.1 :: r.1, r.2)
def doneS (l : List Ty) (t : Ty) (v : Bool) : Sig × Int := if 16 < l.length then (sig0, 3) else ((l, t, v), 0)
def finS (l : List Ty) (r : ByteArray) : Sig × Int :=
 if r = B [41, 86] then doneS l t0 true else if (fieldS (r.extract 1 r.size)).2 = 0 then doneS l (fieldS (r.extract 1 r.size)).1 false else (sig0, 9)
def endS (o : Option (List Ty × ByteArray)) : Sig × Int := match o with
 | none => (sig0, 9)
 | some q => finS q.1 q.2
def methodS (s : ByteArray) : Sig × Int := if bt s 0 = 40 then endS (argsF s.size (s.extract 1 s.size)) else (sig0, 9)
def ahead (acc : List Ty) (o : Option (List Ty × ByteArray)) : Option (List Ty × ByteArray) := o.map fun r => (acc ++ r.1, r.2)
theorem ahead_nil (o : Option (List Ty × ByteArray)) : ahead [] o = o := by cases o <;> simp [ahead]
theorem ahead_cons (acc : List Ty) (t : Ty) (o : Option (List Ty × ByteArray)) : ahead acc (o.map fun r => (t :: r.1, r.2)) = ahead (acc ++ [t]) o := by cases o <;> simp [ahead]
theorem fieldS_err (s : ByteArray) : (fieldS s).2 = 0 ∨ (fieldS s).2 = 9 := by
 unfold fieldS
 split
 ·exact .inr rfl
 ·split
  ·exact .inl rfl
  ·exact .inr rfl
def sigV (A : Option Addr) (c : Nat) (m : Sig) : Value := .agg #[.slice A m.1.length c, .int .i64 m.2.1.1, .string m.2.1.2, .bool m.2.2]
def tyCells : List Ty → List Value
 | [] => []
 | t :: l => .int .i64 t.1 :: .string t.2 :: tyCells l
theorem tyCells_length : ∀ l : List Ty, (tyCells l).length = l.length * 2
 | [] => rfl
 | t :: l => by simp only [tyCells, List.length_cons, tyCells_length l]; omega
theorem tyCells_append : ∀ a b : List Ty, tyCells (a ++ b) = tyCells a ++ tyCells b
 | [], _ => rfl
 | t :: a, b => by simp only [List.cons_append, tyCells, tyCells_append a b]
end Sp
def RdT (w : World) (A : Option Addr) (l : List Sp.Ty) : Prop := l.length ≤ 9223372036854775807 ∧ (0 < l.length → ∃ b o, A = some ⟨b, o, none⟩ ∧ w.rangeAt b o (Sp.tyCells l))
theorem rdT_nil (w : World) (A : Option Addr) : RdT w A [] := ⟨by simp, fun h => by simp at h⟩
namespace Sp
theorem readS_size (s : ByteArray) (q : Ty × ByteArray) (h : readS s = some q) : q.2.size < s.size ∧ q.1.2.size ≤ s.size ∧ rightS q.1 = true := by
 have ht := trim_size s
 unfold readS at h
 by_cases c1 : Lib.hasPrefix (trimB s).data.toList [73] = true
 ·rw [if_pos c1] at h
  have hp := pre_size _ _ c1
  split at h
  ·rename_i hr
   injection h with h
   subst h
   exact ⟨by show (tailB (trimB s)).size < _; simp [tailB]; omega, by show (⟨#[]⟩ : ByteArray).size ≤ _; exact Nat.zero_le _, hr⟩
  ·cases h
 ·rw [if_neg c1] at h
  by_cases c2 : Lib.hasPrefix (trimB s).data.toList [76] = true
  ·rw [if_pos c2] at h
   have hp := pre_size _ _ c2
   have hz : (tailB (trimB s)).size = (trimB s).size - 1 := by simp [tailB]
   split at h
   ·cases h
   ·split at h
    ·rename_i hr
     injection h with h
     subst h
     refine ⟨?_, ?_, hr⟩
     ·simp only [ByteArray.size_extract]
      omega
     ·simp only [ByteArray.size_extract]
      omega
    ·cases h
  ·rw [if_neg c2] at h
   cases h
end Sp
theorem blk_cell {w : World} {b : Nat} {C : Array Value} {T : TypeId} (h : w.heap[b]? = some (.cells C T (0, 0))) (j : Nat) (v : Value) (hv : C[j]? = some v) : w.cell? ⟨b, j, none⟩ = some v ∧ w.frozen? ⟨b, j, none⟩ = false :=
 ⟨(Lib.cell_of_heap h j).trans hv, by simp [World.frozen?, h]⟩
theorem blk4 {w : World} {b : Nat} {x y z u : Value} {T : TypeId} (h : w.heap[b]? = some (.cells #[x, y, z, u] T (0, 0))) : (w.cell? ⟨b, 0, none⟩ = some x ∧ w.cell? ⟨b, 1, none⟩ = some y ∧ w.cell? ⟨b, 2, none⟩ = some z ∧ w.cell? ⟨b, 3, none⟩ = some u) ∧ (w.frozen? ⟨b, 0, none⟩ = false ∧ w.frozen? ⟨b, 1, none⟩ = false ∧ w.frozen? ⟨b, 2, none⟩ = false ∧ w.frozen? ⟨b, 3, none⟩ = false) :=
 ⟨⟨(blk_cell h 0 x rfl).1, (blk_cell h 1 y rfl).1, (blk_cell h 2 z rfl).1, (blk_cell h 3 u rfl).1⟩, (blk_cell h 0 x rfl).2, (blk_cell h 1 y rfl).2, (blk_cell h 2 z rfl).2, (blk_cell h 3 u rfl).2⟩
theorem blk2 {w : World} {b : Nat} {x y : Value} {T : TypeId} (h : w.heap[b]? = some (.cells #[x, y] T (0, 0))) : (w.cell? ⟨b, 0, none⟩ = some x ∧ w.cell? ⟨b, 1, none⟩ = some y) ∧ (w.frozen? ⟨b, 0, none⟩ = false ∧ w.frozen? ⟨b, 1, none⟩ = false) :=
 ⟨⟨(blk_cell h 0 x rfl).1, (blk_cell h 1 y rfl).1⟩, (blk_cell h 0 x rfl).2, (blk_cell h 1 y rfl).2⟩
theorem blk1 {w : World} {b : Nat} {x : Value} {T : TypeId} (h : w.heap[b]? = some (.cells #[x] T (0, 0))) : w.cell? ⟨b, 0, none⟩ = some x ∧ w.frozen? ⟨b, 0, none⟩ = false := blk_cell h 0 x rfl
theorem blk_set {w : World} {b i : Nat} {C : Array Value} {T : TypeId} {fr : Nat × Nat} (h : w.heap[b]? = some (.cells C T fr)) (v : Value) : (w.setCell ⟨b, i, none⟩ v).heap[b]? = some (.cells (C.setIfInBounds i v) T fr) := by
 simp [World.setCell, Array.getElem?_modify, h]
theorem blk_new (w : World) (o : Obj) : (w.alloc o).heap[w.heap.size]? = some o := by
 show (w.heap.push o)[w.heap.size]? = _
 simp
theorem blk_lt {w : World} {b : Nat} {o : Obj} (h : w.heap[b]? = some o) : b < w.heap.size := by
 obtain ⟨hlt, _⟩ := Array.getElem?_eq_some_iff.1 h
 exact hlt
theorem blk_old {w : World} {b : Nat} {o p : Obj} (h : w.heap[b]? = some p) : (w.alloc o).heap[b]? = some p := (Below.heap_alloc w o b (blk_lt h)).trans h
theorem blk_other {w : World} {b : Nat} {p : Obj} (h : w.heap[b]? = some p) (a : Addr) (v : Value) (hne : b ≠ a.block) : (w.setCell a v).heap[b]? = some p := (Below.heap_setCell w a v b hne).trans h
theorem blk_drew {w : World} {b : Nat} {p : Obj} (h : w.heap[b]? = some p) : w.drew.heap[b]? = some p := h
theorem blk_grown {w w' : World} {b : Nat} {p : Obj} {row : Option Nat} (h : w.heap[b]? = some p) (hg : w.grownBy w' row) (hne : some b ≠ row) : w'.heap[b]? = some p := (hg.block b (blk_lt h) hne).trans h
theorem blk_below {w w' : World} {b : Nat} {p : Obj} (h : w.heap[b]? = some p) (hg : Below w.heap.size w w') : w'.heap[b]? = some p := (hg.block b (blk_lt h)).trans h
theorem own_rdT {w : World} {base : Nat} {e : TypeId} {A : Option Addr} {n c : Nat} {l : List Sp.Ty} (h : w.ownsRow base e 2 (.slice A n c) n (Sp.tyCells l)) : n = l.length ∧ RdT w A l := by
 have hl : (Sp.tyCells l).length = n * 2 := h.1
 rw [Sp.tyCells_length] at hl
 have hn : n = l.length := by omega
 have hm : n ≤ 9223372036854775807 := by
  rcases h.2 with ⟨_, h0⟩ | ⟨g, cap, cur, hv, h1, h2, h3, h4, h5⟩
  ·omega
  ·have := h4; unfold maxLen at this; omega
 refine ⟨hn, by omega, fun h0 => ?_⟩
 obtain ⟨g, hA⟩ : ∃ g, A = some ⟨g, 0, none⟩ := by
  rcases h.2 with ⟨_, h1⟩ | ⟨g, cap, cur, hv, _⟩
  ·omega
  ·exact ⟨g, by injection hv⟩
 subst hA
 refine ⟨g, 0, rfl, fun j v hj => ?_⟩
 have hc := h.cells (g := g) rfl j v hj
 rw [show (⟨g, 0, none⟩ : Addr).add j = ⟨g, 0 + j, none⟩ by unfold Addr.add; split <;> simp_all] at hc
 exact hc
theorem own_sl {w : World} {base n : Nat} {e : TypeId} {size : Nat} {v : Value} {xs : List Value} (h : w.ownsRow base e size v n xs) : ∃ A c, v = .slice A n c := by
 rcases h.2 with ⟨hv, h0⟩ | ⟨g, cap, cur, hv, _⟩
 ·exact ⟨none, 0, by rw [hv, h0]⟩
 ·exact ⟨_, _, hv⟩
theorem own_len {w : World} {base n : Nat} {e : TypeId} {v : Value} {xs : List Value} (h : w.ownsRow base e 2 v n xs) : n ≤ 9223372036854775807 := by
 rcases h.2 with ⟨_, h0⟩ | ⟨g, cap, cur, hv, h1, h2, h3, h4, h5⟩
 ·omega
 ·have := h4; unfold maxLen at this; omega
theorem own_below {w w1 : World} {base n size : Nat} {e : TypeId} {v : Value} {xs : List Value} (h : w.ownsRow base e size v n xs) (hb : Below w.heap.size w w1) : w1.ownsRow base e size v n xs := by
 refine ⟨h.1, ?_⟩
 rcases h.2 with h0 | ⟨g, cap, cur, hv, h1, h2, h3, h4, h5⟩
 ·exact .inl h0
 ·exact .inr ⟨g, cap, cur, hv, h1, blk_below h2 hb, h3, h4, h5⟩
theorem kept_grown {w w1 : World} {row : Option Nat} (hg : w.grownBy w1 row) {a : Addr} {v : Value} (hc : w.cell? a = some v ∧ w.frozen? a = false) (hne : some a.block ≠ row) : w1.cell? a = some v ∧ w1.frozen? a = false := by
 have hlt := World.block_lt_of_cell? w a hc.1
 exact ⟨hg.cell hc.1 hne, (World.frozen?_of_block (hg.block a.block hlt hne)).trans hc.2⟩
theorem own_set {w : World} {base n size : Nat} {e : TypeId} {v : Value} {xs : List Value} (h : w.ownsRow base e size v n xs) {b o : Nat} (hne : ∀ k, v.ownBlock = some k → k ≠ b) (u : Value) : (w.setCell ⟨b, o, none⟩ u).ownsRow base e size v n xs := by
 refine h.kept (row := some b) (grown_set (World.grownBy.refl w (some b)) u) ?_
 cases hk : v.ownBlock with
 | none => exact .inl rfl
 | some k => exact .inr (fun e => hne k hk (by injection e))
end Go.Proofs.YtjjlcoimaihdoaaGreatDoor
