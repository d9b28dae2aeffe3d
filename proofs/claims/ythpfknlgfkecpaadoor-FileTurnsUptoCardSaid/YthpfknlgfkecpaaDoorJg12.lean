/-
  Texts of the proof, joined: each says at its head what it proves.
-/
import Derived.Test.YthpfknlgfkecpaaDoorJg9
import Derived.Test.YthpfknlgfkecpaaDoorJg11
import Derived.Test.YthpfknlgfkecpaaDoorJFileNamesx3
section
/-
  Walks of chapter 3's many: constants, handlers, numbers. (Printed by gen_many.py.)
-/
set_option linter.unusedVariables false
set_option linter.unusedSimpArgs false
namespace Go.Proofs.YthpfknlgfkecpaaDoor
open Go.RowKit Go.Lib

namespace Sp
/-- So many things, one behind the other, till there is an error. -/
def manyR {α : Type} (read : ByteArray → Int → α × ByteArray × Int) : Nat → ByteArray → Int → List α × ByteArray × Int
  | 0, s, e => ([], s, e)
  | n + 1, s, e => if e = 0 then ((read s e).1 :: (manyR read n (read s e).2.1 (read s e).2.2).1, (manyR read n (read s e).2.1 (read s e).2.2).2) else ([], s, e)
theorem manyR_err {α : Type} (read : ByteArray → Int → α × ByteArray × Int) (n : Nat) (s : ByteArray) (e : Int) (h : ¬ e = 0) : manyR read n s e = ([], s, e) := by
  cases n with
  | zero => rfl
  | succ n => rw [manyR, if_neg h]
theorem manyR_ok {α : Type} (read : ByteArray → Int → α × ByteArray × Int) (n : Nat) (s : ByteArray) : manyR read (n + 1) s 0 = ((read s 0).1 :: (manyR read n (read s 0).2.1 (read s 0).2.2).1, (manyR read n (read s 0).2.1 (read s 0).2.2).2) := by
  rw [manyR, if_pos rfl]
end Sp
def Sp.hnV (h : Sp.Hn) : Value := .agg #[.int .i64 h.fr, .int .i64 h.til, .int .i64 h.at_, .int .i64 h.cls]
theorem infoHn : (Tryd.prog.info? 97).map (fun i => (i.zero, i.size, i.bytes)) = some (some (.agg #[.int .i64 0, .int .i64 0, .int .i64 0, .int .i64 0]), 4, 32) := by kernel_rfl
theorem infoI : (Tryd.prog.info? 3).map (fun i => (i.zero, i.size, i.bytes)) = some (some (.int .i64 0), 1, 8) := by kernel_rfl
theorem grown_rd {w w' : World} {rb : Nat} {s : ByteArray} {e : Int} {row : Option Nat} (h : Rd w rb s e) (hg : w.grownBy w' row) (hne : some rb ≠ row) : Rd w' rb s e := blk_grown h hg hne

set_option maxHeartbeats 8000000 in
set_option maxRecDepth 100000 in
theorem manyCn_any (read : ByteArray → Int → Sp.Cn × ByteArray × Int) (f : FuncId) (v : Value) (rb : Nat) (s : ByteArray) (e : Int) (n : Nat) (w : World) (h : Rd w rb s e) (hs : s.size ≤ 1099511627776) (hn : n ≤ 2)
    (hrs : ∀ s e, (read s e).2.1.size ≤ s.size) (bd : Array Value) (hvv : v = .func (.func f) bd #[]) (hent : ∀ W, (callFunc f bd).run Tryd.prog W = .ok (.enter f bd) W)
    (hread : ∀ (s1 : ByteArray) (e1 : Int) (W : World), Keeps (fun i => i = rb) w W → Rd W rb s1 e1 → s1.size ≤ 1099511627776 → Calls Tryd.prog f bd W fun x W' => x = .returned (Sp.cnV (read s1 e1).1) ∧ Rd W' rb (read s1 e1).2.1 (read s1 e1).2.2 ∧ Keeps (fun i => i = rb) W W') :
    Calls Tryd.prog 67 #[.pointer (some ⟨rb, 0, none⟩), .int .i64 n, v] w fun x w' => ∃ A c, x = .returned (.slice A (Sp.manyR read (Sp.numR s e n).1.toNat (Sp.numR s e n).2.1 (Sp.numR s e n).2.2).1.length c) ∧
      w'.ownsRow w.heap.size 58 6 (.slice A (Sp.manyR read (Sp.numR s e n).1.toNat (Sp.numR s e n).2.1 (Sp.numR s e n).2.2).1.length c) (Sp.manyR read (Sp.numR s e n).1.toNat (Sp.numR s e n).2.1 (Sp.numR s e n).2.2).1.length ((Sp.manyR read (Sp.numR s e n).1.toNat (Sp.numR s e n).2.1 (Sp.numR s e n).2.2).1.flatMap Sp.cnC) ∧
      Rd w' rb (Sp.manyR read (Sp.numR s e n).1.toNat (Sp.numR s e n).2.1 (Sp.numR s e n).2.2).2.1 (Sp.manyR read (Sp.numR s e n).1.toNat (Sp.numR s e n).2.1 (Sp.numR s e n).2.2).2.2 ∧ Keeps (fun i => i = rb) w w' := by
  obtain ⟨i0, hi, hz0, hz1, hz2⟩ := info_parts infoCn
  subst hvv
  have kn := Lib.hid (number_any rb s e n w h hs (by omega))
  have hnv := Sp.num_two s e n hn
  have hz := Sp.num_len s e n
  have hlr := blk_lt h
  have hrd := Lib.hid hread
  have hrz := Lib.hid hrs
  clear hread h hrs
  generalize Sp.numR s e n = N at *
  obtain ⟨v, s0, e0⟩ := N
  simp only [] at kn hnv hz ⊢
  obtain ⟨m, rfl⟩ := Int.eq_ofNat_of_zero_le hnv.1
  rw [Int.toNat_natCast]
  generalize hF : Sp.manyR read m s0 e0 = F
  have HF := Lib.hid (show (([] : List Sp.Cn) ++ (Sp.manyR read m s0 e0).1, (Sp.manyR read m s0 e0).2) = F by rw [hF]; rfl)
  clear hF
  have hs0 : s0.size ≤ 1099511627776 := by omega
  have hm : m ≤ 65535 := by omega
  clear hnv hz hs
  go_enter Tryd.func67, Tryd.ntmps67
  go_wp2_with fail
  refine kn.out.mono ?_
  rintro x w1 ⟨rfl, hR1, hK1⟩
  have HR := Lib.hid hR1
  have HK := Lib.hid hK1
  have HO := Lib.hid (World.ownsRow_nil w1 w.heap.size 58 6)
  clear kn hR1 hK1
  go_wp2
  go_loopw [7, 8] (fun v7 v8 wr => ∃ (k : Nat) (acc : List Sp.Cn) (s1 : ByteArray) (e1 : Int), v8 = .int .i64 k ∧ acc.length + k ≤ 65535 ∧ s1.size ≤ 1099511627776 ∧ Hid (wr.ownsRow w.heap.size 58 6 v7 acc.length (acc.flatMap Sp.cnC)) ∧ Hid (Rd wr rb s1 e1) ∧ Hid (Keeps (fun i => i = rb) w wr) ∧ Hid ((acc ++ (Sp.manyR read k s1 e1).1, (Sp.manyR read k s1 e1).2) = F)) (fun _ v8 _ => (RowKit.intOf v8).toNat)
  case atStart => exact ⟨m, [], s0, e0, by first | rfl | go_num, by simp; omega, hs0, HO, HR, HK, HF⟩
  case round =>
    clear HR HK HO HF
    obtain ⟨k, acc, s1, e1, rfl, hak, hs1, hO, hR, hK, hf⟩ := hrel
    obtain ⟨r1, g1⟩ := blk_cell hR.out 1 _ rfl
    have hlb := blk_lt hR.out
    have hksz := hK.out.size
    have hback : ∀ (hq : (Sp.manyR read k s1 e1) = ([], s1, e1)), F = (acc, s1, e1) := fun hq => by rw [← hf.out, hq]; simp
    have hbk := Lib.hid hback
    clear hback
    by_cases hk0 : k = 0
    · subst hk0
      have hF := hbk.out rfl
      subst hF
      obtain ⟨A, c, rfl⟩ := own_sl hO.out
      have h1 := hO.out
      have h2 := hR.out
      have h3 := hK.out
      clear hf hbk
      go_wp2
      go_ret
      exact ⟨A, c, rfl, h1, h2, h3⟩
    · have hzk : (0 : Int) < (k : Int) := by omega
      by_cases he : e1 = 0
      · subst he
        obtain ⟨k', rfl⟩ : ∃ k', k = k' + 1 := ⟨k - 1, by omega⟩
        have hf2 := hf.out
        rw [Sp.manyR_ok] at hf2
        have kr := Lib.hid (hrd.out s1 0 wr hK.out hR.out hs1)
        have hrz1 := hrz.out s1 0
        clear hf hbk hk0
        generalize read s1 0 = N at *
        obtain ⟨el, s2, e2⟩ := N
        simp only [] at kr hf2 hrz1
        have hf3 := Lib.hid (show ((acc ++ [el]) ++ (Sp.manyR read k' s2 e2).1, (Sp.manyR read k' s2 e2).2) = F by rw [← hf2, List.append_assoc]; rfl)
        clear hf2
        obtain ⟨ct, cs, cn, ca, cb, cc⟩ := el
        unfold Sp.cnV at kr
        simp only [] at kr
        have hent' := hent
        go_wp2_with fail
        refine kr.out.mono ?_
        rintro x w4 ⟨rfl, hR4, hK4⟩
        have hbase := own_base hO.out
        have hO4 := Lib.hid (hK4.row hO.out (fun q hq e => by have := hbase q hq; omega))
        have hKK := Lib.hid (hK.out.trans hK4)
        have hR4' := Lib.hid hR4
        have hsz4 := hKK.out.size
        have hl4 := blk_lt hR4
        clear hO hR hK hR4 hK4 kr r1 g1 hlb hksz
        go_wp2_with (at_builtin; refine wpList_append_own _ rfl _ _ 49 rfl w.heap.size 58 i0 (.agg #[.int .i64 0, .string ⟨#[]⟩, .int .i64 0, .int .i64 0, .int .i64 0, .int .i64 0]) 6 56 Tryd.underlying49 hi hz0 hz1 hz2 rfl (by decide) _ acc.length (acc.flatMap Sp.cnC) rfl (hO4.out.alloc _) ⟨w4.heap.size, 0, none⟩ 1 1 ([.int .i64 ct, .string cs, .int .i64 cn, .int .i64 ca, .int .i64 cb, .int .i64 cc]) rfl rfl ?x2 ?x3 ?x4 ?x5 ?x6 ?_)
        try case x2 =>
          intro j u hj
          match j, hj with
          | 0, hj => simp at hj; subst hj; simp [Addr.add]
          | 1, hj => simp at hj; subst hj; simp [Addr.add]
          | 2, hj => simp at hj; subst hj; simp [Addr.add]
          | 3, hj => simp at hj; subst hj; simp [Addr.add]
          | 4, hj => simp at hj; subst hj; simp [Addr.add]
          | 5, hj => simp at hj; subst hj; simp [Addr.add]
          | (j + 6), hj => simp at hj
        try case x3 => intro u hu; simp at hu; rcases hu with rfl | rfl | rfl | rfl | rfl | rfl <;> rfl
        try case x4 => unfold maxLen; omega
        try case x5 => omega
        try case x6 => first | omega | (simp; omega)
        intro v' w5 hown' hg5 _
        have hO5 := Lib.hid (show w5.ownsRow w.heap.size 58 6 v' (acc ++ [(⟨ct, cs, cn, ca, cb, cc⟩ : Sp.Cn)]).length ((acc ++ [(⟨ct, cs, cn, ca, cb, cc⟩ : Sp.Cn)]).flatMap Sp.cnC) by rw [List.flatMap_append, List.length_append]; exact hown')
        have hR5 := Lib.hid (grown_rd (blk_old hR4'.out) hg5 (fun q => by have := hbase _ q.symm; omega))
        have hK5 := Lib.hid ((hKK.out.alloc _).then (Keeps.of_grown (S := fun i => w.heap.size ≤ i) hg5 (fun q hq => .inl (hbase q hq))) (fun i q => .inr q))
        clear hown' hg5 hO4 hR4' hKK hbase
        go_wp2
        go_roundw
        case rel => exact ⟨k', acc ++ [(⟨ct, cs, cn, ca, cb, cc⟩ : Sp.Cn)], s2, e2, by first | rfl | go_num | (simp; done) | (simp; omega), by simp; omega, by omega, hO5, hR5, hK5, hf3⟩
        case measure => first | (simp [RowKit.intOf]; done) | (simp [RowKit.intOf]; omega)
      · have heb : (e1 == 0) = false := by simp [he]
        have hF := hbk.out (Sp.manyR_err read k s1 e1 he)
        subst hF
        obtain ⟨A, c, rfl⟩ := own_sl hO.out
        have h1 := hO.out
        have h2 := hR.out
        have h3 := hK.out
        clear hf hbk
        go_wp2
        go_ret
        exact ⟨A, c, rfl, h1, h2, h3⟩

set_option maxHeartbeats 8000000 in
set_option maxRecDepth 100000 in
theorem manyHn_any (read : ByteArray → Int → Sp.Hn × ByteArray × Int) (f : FuncId) (v : Value) (rb : Nat) (s : ByteArray) (e : Int) (n : Nat) (w : World) (h : Rd w rb s e) (hs : s.size ≤ 1099511627776) (hn : n ≤ 2)
    (hrs : ∀ s e, (read s e).2.1.size ≤ s.size) (bd : Array Value) (hvv : v = .func (.func f) #[] bd) (hent : ∀ W, (callFunc f bd).run Tryd.prog W = .ok (.enter f bd) W)
    (hread : ∀ (s1 : ByteArray) (e1 : Int) (W : World), Keeps (fun i => i = rb) w W → Rd W rb s1 e1 → s1.size ≤ 1099511627776 → Calls Tryd.prog f bd W fun x W' => x = .returned (Sp.hnV (read s1 e1).1) ∧ Rd W' rb (read s1 e1).2.1 (read s1 e1).2.2 ∧ Keeps (fun i => i = rb) W W') :
    Calls Tryd.prog 103 #[.pointer (some ⟨rb, 0, none⟩), .int .i64 n, v] w fun x w' => ∃ A c, x = .returned (.slice A (Sp.manyR read (Sp.numR s e n).1.toNat (Sp.numR s e n).2.1 (Sp.numR s e n).2.2).1.length c) ∧
      w'.ownsRow w.heap.size 97 4 (.slice A (Sp.manyR read (Sp.numR s e n).1.toNat (Sp.numR s e n).2.1 (Sp.numR s e n).2.2).1.length c) (Sp.manyR read (Sp.numR s e n).1.toNat (Sp.numR s e n).2.1 (Sp.numR s e n).2.2).1.length ((Sp.manyR read (Sp.numR s e n).1.toNat (Sp.numR s e n).2.1 (Sp.numR s e n).2.2).1.flatMap Sp.hnC) ∧
      Rd w' rb (Sp.manyR read (Sp.numR s e n).1.toNat (Sp.numR s e n).2.1 (Sp.numR s e n).2.2).2.1 (Sp.manyR read (Sp.numR s e n).1.toNat (Sp.numR s e n).2.1 (Sp.numR s e n).2.2).2.2 ∧ Keeps (fun i => i = rb) w w' := by
  obtain ⟨i0, hi, hz0, hz1, hz2⟩ := info_parts infoHn
  subst hvv
  have kn := Lib.hid (number_any rb s e n w h hs (by omega))
  have hnv := Sp.num_two s e n hn
  have hz := Sp.num_len s e n
  have hlr := blk_lt h
  have hrd := Lib.hid hread
  have hrz := Lib.hid hrs
  clear hread h hrs
  generalize Sp.numR s e n = N at *
  obtain ⟨v, s0, e0⟩ := N
  simp only [] at kn hnv hz ⊢
  obtain ⟨m, rfl⟩ := Int.eq_ofNat_of_zero_le hnv.1
  rw [Int.toNat_natCast]
  generalize hF : Sp.manyR read m s0 e0 = F
  have HF := Lib.hid (show (([] : List Sp.Hn) ++ (Sp.manyR read m s0 e0).1, (Sp.manyR read m s0 e0).2) = F by rw [hF]; rfl)
  clear hF
  have hs0 : s0.size ≤ 1099511627776 := by omega
  have hm : m ≤ 65535 := by omega
  clear hnv hz hs
  go_enter Tryd.func103, Tryd.ntmps103
  go_wp2_with fail
  refine kn.out.mono ?_
  rintro x w1 ⟨rfl, hR1, hK1⟩
  have HR := Lib.hid hR1
  have HK := Lib.hid hK1
  have HO := Lib.hid (World.ownsRow_nil w1 w.heap.size 97 4)
  clear kn hR1 hK1
  go_wp2
  go_loopw [7, 8] (fun v7 v8 wr => ∃ (k : Nat) (acc : List Sp.Hn) (s1 : ByteArray) (e1 : Int), v8 = .int .i64 k ∧ acc.length + k ≤ 65535 ∧ s1.size ≤ 1099511627776 ∧ Hid (wr.ownsRow w.heap.size 97 4 v7 acc.length (acc.flatMap Sp.hnC)) ∧ Hid (Rd wr rb s1 e1) ∧ Hid (Keeps (fun i => i = rb) w wr) ∧ Hid ((acc ++ (Sp.manyR read k s1 e1).1, (Sp.manyR read k s1 e1).2) = F)) (fun _ v8 _ => (RowKit.intOf v8).toNat)
  case atStart => exact ⟨m, [], s0, e0, by first | rfl | go_num, by simp; omega, hs0, HO, HR, HK, HF⟩
  case round =>
    clear HR HK HO HF
    obtain ⟨k, acc, s1, e1, rfl, hak, hs1, hO, hR, hK, hf⟩ := hrel
    obtain ⟨r1, g1⟩ := blk_cell hR.out 1 _ rfl
    have hlb := blk_lt hR.out
    have hksz := hK.out.size
    have hback : ∀ (hq : (Sp.manyR read k s1 e1) = ([], s1, e1)), F = (acc, s1, e1) := fun hq => by rw [← hf.out, hq]; simp
    have hbk := Lib.hid hback
    clear hback
    by_cases hk0 : k = 0
    · subst hk0
      have hF := hbk.out rfl
      subst hF
      obtain ⟨A, c, rfl⟩ := own_sl hO.out
      have h1 := hO.out
      have h2 := hR.out
      have h3 := hK.out
      clear hf hbk
      go_wp2
      go_ret
      exact ⟨A, c, rfl, h1, h2, h3⟩
    · have hzk : (0 : Int) < (k : Int) := by omega
      by_cases he : e1 = 0
      · subst he
        obtain ⟨k', rfl⟩ : ∃ k', k = k' + 1 := ⟨k - 1, by omega⟩
        have hf2 := hf.out
        rw [Sp.manyR_ok] at hf2
        have kr := Lib.hid (hrd.out s1 0 wr hK.out hR.out hs1)
        have hrz1 := hrz.out s1 0
        clear hf hbk hk0
        generalize read s1 0 = N at *
        obtain ⟨el, s2, e2⟩ := N
        simp only [] at kr hf2 hrz1
        have hf3 := Lib.hid (show ((acc ++ [el]) ++ (Sp.manyR read k' s2 e2).1, (Sp.manyR read k' s2 e2).2) = F by rw [← hf2, List.append_assoc]; rfl)
        clear hf2
        obtain ⟨hf, ht, ha, hc⟩ := el
        unfold Sp.hnV at kr
        simp only [] at kr
        have hent' := hent
        go_wp2_with fail
        refine kr.out.mono ?_
        rintro x w4 ⟨rfl, hR4, hK4⟩
        have hbase := own_base hO.out
        have hO4 := Lib.hid (hK4.row hO.out (fun q hq e => by have := hbase q hq; omega))
        have hKK := Lib.hid (hK.out.trans hK4)
        have hR4' := Lib.hid hR4
        have hsz4 := hKK.out.size
        have hl4 := blk_lt hR4
        clear hO hR hK hR4 hK4 kr r1 g1 hlb hksz
        go_wp2_with (at_builtin; refine wpList_append_own _ rfl _ _ 63 rfl w.heap.size 97 i0 (.agg #[.int .i64 0, .int .i64 0, .int .i64 0, .int .i64 0]) 4 32 Tryd.underlying63 hi hz0 hz1 hz2 rfl (by decide) _ acc.length (acc.flatMap Sp.hnC) rfl (hO4.out.alloc _) ⟨w4.heap.size, 0, none⟩ 1 1 ([.int .i64 hf, .int .i64 ht, .int .i64 ha, .int .i64 hc]) rfl rfl ?x2 ?x3 ?x4 ?x5 ?x6 ?_)
        try case x2 =>
          intro j u hj
          match j, hj with
          | 0, hj => simp at hj; subst hj; simp [Addr.add]
          | 1, hj => simp at hj; subst hj; simp [Addr.add]
          | 2, hj => simp at hj; subst hj; simp [Addr.add]
          | 3, hj => simp at hj; subst hj; simp [Addr.add]
          | (j + 4), hj => simp at hj
        try case x3 => intro u hu; simp at hu; rcases hu with rfl | rfl | rfl | rfl <;> rfl
        try case x4 => unfold maxLen; omega
        try case x5 => omega
        try case x6 => first | omega | (simp; omega)
        intro v' w5 hown' hg5 _
        have hO5 := Lib.hid (show w5.ownsRow w.heap.size 97 4 v' (acc ++ [(⟨hf, ht, ha, hc⟩ : Sp.Hn)]).length ((acc ++ [(⟨hf, ht, ha, hc⟩ : Sp.Hn)]).flatMap Sp.hnC) by rw [List.flatMap_append, List.length_append]; exact hown')
        have hR5 := Lib.hid (grown_rd (blk_old hR4'.out) hg5 (fun q => by have := hbase _ q.symm; omega))
        have hK5 := Lib.hid ((hKK.out.alloc _).then (Keeps.of_grown (S := fun i => w.heap.size ≤ i) hg5 (fun q hq => .inl (hbase q hq))) (fun i q => .inr q))
        clear hown' hg5 hO4 hR4' hKK hbase
        go_wp2
        go_roundw
        case rel => exact ⟨k', acc ++ [(⟨hf, ht, ha, hc⟩ : Sp.Hn)], s2, e2, by first | rfl | go_num | (simp; done) | (simp; omega), by simp; omega, by omega, hO5, hR5, hK5, hf3⟩
        case measure => first | (simp [RowKit.intOf]; done) | (simp [RowKit.intOf]; omega)
      · have heb : (e1 == 0) = false := by simp [he]
        have hF := hbk.out (Sp.manyR_err read k s1 e1 he)
        subst hF
        obtain ⟨A, c, rfl⟩ := own_sl hO.out
        have h1 := hO.out
        have h2 := hR.out
        have h3 := hK.out
        clear hf hbk
        go_wp2
        go_ret
        exact ⟨A, c, rfl, h1, h2, h3⟩

set_option maxHeartbeats 8000000 in
set_option maxRecDepth 100000 in
theorem manyI_any (read : ByteArray → Int → Int × ByteArray × Int) (f : FuncId) (v : Value) (rb : Nat) (s : ByteArray) (e : Int) (n : Nat) (w : World) (h : Rd w rb s e) (hs : s.size ≤ 1099511627776) (hn : n ≤ 2)
    (hrs : ∀ s e, (read s e).2.1.size ≤ s.size) (bd : Array Value) (hvv : v = .func (.func f) #[] bd) (hent : ∀ W, (callFunc f bd).run Tryd.prog W = .ok (.enter f bd) W)
    (hread : ∀ (s1 : ByteArray) (e1 : Int) (W : World), Keeps (fun i => i = rb) w W → Rd W rb s1 e1 → s1.size ≤ 1099511627776 → Calls Tryd.prog f bd W fun x W' => x = .returned (Value.int .i64 (read s1 e1).1) ∧ Rd W' rb (read s1 e1).2.1 (read s1 e1).2.2 ∧ Keeps (fun i => i = rb) W W') :
    Calls Tryd.prog 71 #[.pointer (some ⟨rb, 0, none⟩), .int .i64 n, v] w fun x w' => ∃ A c, x = .returned (.slice A (Sp.manyR read (Sp.numR s e n).1.toNat (Sp.numR s e n).2.1 (Sp.numR s e n).2.2).1.length c) ∧
      w'.ownsRow w.heap.size 3 1 (.slice A (Sp.manyR read (Sp.numR s e n).1.toNat (Sp.numR s e n).2.1 (Sp.numR s e n).2.2).1.length c) (Sp.manyR read (Sp.numR s e n).1.toNat (Sp.numR s e n).2.1 (Sp.numR s e n).2.2).1.length ((Sp.manyR read (Sp.numR s e n).1.toNat (Sp.numR s e n).2.1 (Sp.numR s e n).2.2).1.flatMap intC) ∧
      Rd w' rb (Sp.manyR read (Sp.numR s e n).1.toNat (Sp.numR s e n).2.1 (Sp.numR s e n).2.2).2.1 (Sp.manyR read (Sp.numR s e n).1.toNat (Sp.numR s e n).2.1 (Sp.numR s e n).2.2).2.2 ∧ Keeps (fun i => i = rb) w w' := by
  obtain ⟨i0, hi, hz0, hz1, hz2⟩ := info_parts infoI
  subst hvv
  have kn := Lib.hid (number_any rb s e n w h hs (by omega))
  have hnv := Sp.num_two s e n hn
  have hz := Sp.num_len s e n
  have hlr := blk_lt h
  have hrd := Lib.hid hread
  have hrz := Lib.hid hrs
  clear hread h hrs
  generalize Sp.numR s e n = N at *
  obtain ⟨v, s0, e0⟩ := N
  simp only [] at kn hnv hz ⊢
  obtain ⟨m, rfl⟩ := Int.eq_ofNat_of_zero_le hnv.1
  rw [Int.toNat_natCast]
  generalize hF : Sp.manyR read m s0 e0 = F
  have HF := Lib.hid (show (([] : List Int) ++ (Sp.manyR read m s0 e0).1, (Sp.manyR read m s0 e0).2) = F by rw [hF]; rfl)
  clear hF
  have hs0 : s0.size ≤ 1099511627776 := by omega
  have hm : m ≤ 65535 := by omega
  clear hnv hz hs
  go_enter Tryd.func71, Tryd.ntmps71
  go_wp2_with fail
  refine kn.out.mono ?_
  rintro x w1 ⟨rfl, hR1, hK1⟩
  have HR := Lib.hid hR1
  have HK := Lib.hid hK1
  have HO := Lib.hid (World.ownsRow_nil w1 w.heap.size 3 1)
  clear kn hR1 hK1
  go_wp2
  go_loopw [7, 8] (fun v7 v8 wr => ∃ (k : Nat) (acc : List Int) (s1 : ByteArray) (e1 : Int), v8 = .int .i64 k ∧ acc.length + k ≤ 65535 ∧ s1.size ≤ 1099511627776 ∧ Hid (wr.ownsRow w.heap.size 3 1 v7 acc.length (acc.flatMap intC)) ∧ Hid (Rd wr rb s1 e1) ∧ Hid (Keeps (fun i => i = rb) w wr) ∧ Hid ((acc ++ (Sp.manyR read k s1 e1).1, (Sp.manyR read k s1 e1).2) = F)) (fun _ v8 _ => (RowKit.intOf v8).toNat)
  case atStart => exact ⟨m, [], s0, e0, by first | rfl | go_num, by simp; omega, hs0, HO, HR, HK, HF⟩
  case round =>
    clear HR HK HO HF
    obtain ⟨k, acc, s1, e1, rfl, hak, hs1, hO, hR, hK, hf⟩ := hrel
    obtain ⟨r1, g1⟩ := blk_cell hR.out 1 _ rfl
    have hlb := blk_lt hR.out
    have hksz := hK.out.size
    have hback : ∀ (hq : (Sp.manyR read k s1 e1) = ([], s1, e1)), F = (acc, s1, e1) := fun hq => by rw [← hf.out, hq]; simp
    have hbk := Lib.hid hback
    clear hback
    by_cases hk0 : k = 0
    · subst hk0
      have hF := hbk.out rfl
      subst hF
      obtain ⟨A, c, rfl⟩ := own_sl hO.out
      have h1 := hO.out
      have h2 := hR.out
      have h3 := hK.out
      clear hf hbk
      go_wp2
      go_ret
      exact ⟨A, c, rfl, h1, h2, h3⟩
    · have hzk : (0 : Int) < (k : Int) := by omega
      by_cases he : e1 = 0
      · subst he
        obtain ⟨k', rfl⟩ : ∃ k', k = k' + 1 := ⟨k - 1, by omega⟩
        have hf2 := hf.out
        rw [Sp.manyR_ok] at hf2
        have kr := Lib.hid (hrd.out s1 0 wr hK.out hR.out hs1)
        have hrz1 := hrz.out s1 0
        clear hf hbk hk0
        generalize read s1 0 = N at *
        obtain ⟨el, s2, e2⟩ := N
        simp only [] at kr hf2 hrz1
        have hf3 := Lib.hid (show ((acc ++ [el]) ++ (Sp.manyR read k' s2 e2).1, (Sp.manyR read k' s2 e2).2) = F by rw [← hf2, List.append_assoc]; rfl)
        clear hf2
        have hq0 : True := trivial
        have hent' := hent
        go_wp2_with fail
        refine kr.out.mono ?_
        rintro x w4 ⟨rfl, hR4, hK4⟩
        have hbase := own_base hO.out
        have hO4 := Lib.hid (hK4.row hO.out (fun q hq e => by have := hbase q hq; omega))
        have hKK := Lib.hid (hK.out.trans hK4)
        have hR4' := Lib.hid hR4
        have hsz4 := hKK.out.size
        have hl4 := blk_lt hR4
        clear hO hR hK hR4 hK4 kr r1 g1 hlb hksz
        go_wp2_with (at_builtin; refine wpList_append_own _ rfl _ _ 50 rfl w.heap.size 3 i0 (.int .i64 0) 1 8 Tryd.underlying50 hi hz0 hz1 hz2 rfl (by decide) _ acc.length (acc.flatMap intC) rfl (hO4.out.alloc _) ⟨w4.heap.size, 0, none⟩ 1 1 ([.int .i64 el]) rfl rfl ?x2 ?x3 ?x4 ?x5 ?x6 ?_)
        try case x2 =>
          intro j u hj
          match j, hj with
          | 0, hj => simp at hj; subst hj; simp [Addr.add]
          | (j + 1), hj => simp at hj
        try case x3 => intro u hu; simp at hu; rcases hu with rfl <;> rfl
        try case x4 => unfold maxLen; omega
        try case x5 => omega
        try case x6 => first | omega | (simp; omega)
        intro v' w5 hown' hg5 _
        have hO5 := Lib.hid (show w5.ownsRow w.heap.size 3 1 v' (acc ++ [(el : Int)]).length ((acc ++ [(el : Int)]).flatMap intC) by rw [List.flatMap_append, List.length_append]; exact hown')
        have hR5 := Lib.hid (grown_rd (blk_old hR4'.out) hg5 (fun q => by have := hbase _ q.symm; omega))
        have hK5 := Lib.hid ((hKK.out.alloc _).then (Keeps.of_grown (S := fun i => w.heap.size ≤ i) hg5 (fun q hq => .inl (hbase q hq))) (fun i q => .inr q))
        clear hown' hg5 hO4 hR4' hKK hbase
        go_wp2
        go_roundw
        case rel => exact ⟨k', acc ++ [(el : Int)], s2, e2, by first | rfl | go_num | (simp; done) | (simp; omega), by simp; omega, by omega, hO5, hR5, hK5, hf3⟩
        case measure => first | (simp [RowKit.intOf]; done) | (simp [RowKit.intOf]; omega)
      · have heb : (e1 == 0) = false := by simp [he]
        have hF := hbk.out (Sp.manyR_err read k s1 e1 he)
        subst hF
        obtain ⟨A, c, rfl⟩ := own_sl hO.out
        have h1 := hO.out
        have h2 := hR.out
        have h3 := hK.out
        clear hf hbk
        go_wp2
        go_ret
        exact ⟨A, c, rfl, h1, h2, h3⟩
end Go.Proofs.YthpfknlgfkecpaaDoor
end
