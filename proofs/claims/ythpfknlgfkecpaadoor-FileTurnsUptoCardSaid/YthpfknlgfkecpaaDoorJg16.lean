/-
  Texts of the proof, joined: each says at its head what it proves.
-/
import Derived.Test.YthpfknlgfkecpaaDoorJg15
import Derived.Test.YthpfknlgfkecpaaDoorJFileNamesx3
section
/-
  Plain words for chapter 3's reader: what is read is written as it was; what a class that is read is, as far as its numbers go.
-/
set_option linter.unusedVariables false
set_option linter.unusedSimpArgs false
namespace Go.Proofs.YthpfknlgfkecpaaDoor
open Go.RowKit Go.Lib

namespace Sp
def zeroFl : Fl := ⟨[], 0, 0, 0, [], [], []⟩
/-- What stands behind a class's first four bytes, read. -/
def bodyR (s : ByteArray) (e : Int) : Fl × ByteArray × Int :=
  let p := manyN constR 2 s e
  let fl := numR p.2.1 p.2.2 1
  let th := numR fl.2.1 fl.2.2 2
  let su := numR th.2.1 th.2.2 2
  let i := manyN (fun s e => numR s e 2) 1 su.2.1 su.2.2
  let f := manyN fieldR 1 i.2.1 i.2.2
  let m := manyN methodR 1 f.2.1 f.2.2
  (⟨p.1, fl.1, th.1, su.1, i.1, f.1, m.1⟩, m.2)
/-- The first four bytes, read. -/
def headR (b : ByteArray) : ByteArray × Int := ((takeR b 0 4).2.1, if (takeR b 0 4).2.2 = 0 ∧ (takeR b 0 4).1 ≠ ⟨#[67, 82, 85, 88]⟩ then 4 else (takeR b 0 4).2.2)
def endR (s : ByteArray) (e : Int) : Int := if e = 0 ∧ s ≠ ⟨#[]⟩ then 6 else e
def doneR (f : Fl) (e : Int) : Fl × Int :=
  if e = 0 then (if partsS f = 0 then (f, 0) else (zeroFl, partsS f)) else (zeroFl, e)
/-- A class that is read out of bytes, or an error. -/
def parseS (b : ByteArray) : Fl × Int :=
  if 65536 < b.size then (zeroFl, 2) else
  let x := bodyR (headR b).1 (headR b).2
  doneR x.1 (endR x.2.1 x.2.2)

/-! Numbers in bytes. -/
theorem putL_snoc (n : Int) : ∀ m, putL n (m + 1) = putL (n / 256) m ++ [n % 256]
  | 0 => by simp [putL]
  | m + 1 => by
    have e : n / 2 ^ (8 * (m + 1)) = n / 256 / 2 ^ (8 * m) := by
      rw [Int.ediv_ediv_of_nonneg (by decide), show 8 * (m + 1) = 8 + 8 * m by omega, Int.pow_add]
      rfl
    rw [putL, putL_snoc n m, putL, e]
    rfl
theorem putL_mod (v k : Int) (m : Nat) (hm : m ≤ 7) : putL (v + 72057594037927936 * k) m = putL v m := by
  match m, hm with
  | 0, _ => rfl
  | 1, _ => simp [putL]; omega
  | 2, _ => simp [putL]; omega
  | 3, _ => simp [putL]; omega
  | 4, _ => simp [putL]; omega
  | 5, _ => simp [putL]; omega
  | 6, _ => simp [putL]; omega
  | 7, _ => simp [putL]; omega
theorem snoc_cases (l : List Int) : l = [] ∨ ∃ L c, l = L ++ [c] := (List.eq_nil_or_concat l).imp id (fun ⟨L, c, h⟩ => ⟨L, c, by rw [h, List.concat_eq_append]⟩)
theorem numV_put : ∀ (m : Nat) (l : List Int), m ≤ 8 → By l → l.length = m → putL (numV l) m = l
  | 0, l, _, _, h => by
    obtain rfl := List.length_eq_zero_iff.1 h
    rfl
  | m + 1, l, hm, hb, h => by
    rcases snoc_cases l with rfl | ⟨L, c, rfl⟩
    · simp at h
    · have hL : L.length = m := by simpa using h
      have hc := hb c (by simp)
      have ih := numV_put m L (by omega) (fun x hx => hb x (by simp [hx])) hL
      rw [numV_snoc, putL_snoc]
      have h1 : (IntKind.i64.wrap (numV L * 256) + c) % 256 = c := by rw [IntKind.wrap_i64]; omega
      have h2 : (IntKind.i64.wrap (numV L * 256) + c) / 256 = numV L + 72057594037927936 * ((IntKind.i64.wrap (numV L * 256) - numV L * 256) / 18446744073709551616) := by rw [IntKind.wrap_i64]; omega
      rw [h1, h2, putL_mod _ _ _ (by omega), ih]
theorem numV_in (l : List Int) (h : By l) : In64 (numV l) := by
  rcases snoc_cases l with rfl | ⟨L, c, rfl⟩
  · exact ⟨by decide, by decide⟩
  · rw [numV_snoc]
    obtain ⟨a, b, d⟩ := wrap256 (numV L)
    have := h c (by simp)
    unfold In64
    omega
theorem num_in (s : ByteArray) (e : Int) (n : Nat) : In64 (numR s e n).1 := numV_in _ (by_nums _)
theorem nums_ext (s : ByteArray) (n : Nat) : nums s = nums (s.extract 0 n) ++ nums (s.extract n s.size) := by
  unfold nums
  rw [← List.map_append]
  congr 1
  rw [ByteArray.data_extract, ByteArray.data_extract]
  simp only [Array.toList_extract, List.extract_eq_take_drop, List.drop_zero, Nat.sub_zero]
  rw [show s.size - n = (s.data.toList.drop n).length by rw [List.length_drop]; rfl, List.take_length, List.take_append_drop]
theorem take_inv (s : ByteArray) (e : Int) (n : Nat) (h : (takeR s e n).2.2 = 0) : e = 0 ∧ nums s = nums (takeR s e n).1 ++ nums (takeR s e n).2.1 ∧ (takeR s e n).1.size = n := by
  unfold takeR at h ⊢
  by_cases he : e = 0
  · subst he
    rw [if_pos rfl] at h ⊢
    by_cases hq : s.size < n
    · rw [if_pos hq] at h
      simp at h
    · rw [if_neg hq]
      exact ⟨rfl, nums_ext s n, by rw [ByteArray.size_extract]; omega⟩
  · rw [if_neg he] at h
    exact absurd h he
theorem num_inv (s : ByteArray) (e : Int) (n : Nat) (hn : n ≤ 8) (h : (numR s e n).2.2 = 0) : e = 0 ∧ nums s = putL (numR s e n).1 n ++ nums (numR s e n).2.1 := by
  obtain ⟨h1, h2, h3⟩ := take_inv s e n h
  refine ⟨h1, ?_⟩
  show nums s = putL (numV (nums (takeR s e n).1)) n ++ nums (takeR s e n).2.1
  rw [numV_put n _ hn (by_nums _) (by rw [nums_length, h3]), ← h2]
theorem list_inv : ∀ (k : Nat) (s : ByteArray) (e : Int), (listR k s e).2.2 = 0 → e = 0 ∧ nums s = putsL (listR k s e).1 ++ nums (listR k s e).2.1
  | 0, s, e, h => ⟨h, rfl⟩
  | k + 1, s, e, h => by
    rw [listR] at h ⊢
    obtain ⟨a, b⟩ := list_inv k _ _ h
    obtain ⟨c, d⟩ := num_inv s e 2 (by decide) a
    refine ⟨c, ?_⟩
    rw [d, b]
    simp only [putsL, List.append_assoc]
/-- What is read is written as it was. -/
def Inv {α : Type} (read : ByteArray → Int → α × ByteArray × Int) (enc : α → List Int) : Prop := ∀ s e, (read s e).2.2 = 0 → e = 0 ∧ nums s = enc (read s e).1 ++ nums (read s e).2.1
theorem field_inv : Inv fieldR fieldB := fun s e h => by
  obtain ⟨a3, b3⟩ := num_inv _ _ 2 (by decide) h
  obtain ⟨a2, b2⟩ := num_inv _ _ 2 (by decide) a3
  obtain ⟨a1, b1⟩ := num_inv s e 1 (by decide) a2
  refine ⟨a1, ?_⟩
  rw [b1, b2, b3]
  unfold fieldR fieldB
  simp only [putsL, List.append_assoc, List.append_nil, List.nil_append]
theorem hand_inv : Inv handR handB := fun s e h => by
  obtain ⟨a1, b1⟩ := list_inv 4 s e h
  refine ⟨a1, ?_⟩
  obtain ⟨a, b, c, d, hf⟩ := list_four s e
  unfold handR handB
  rw [b1, hf]
  rfl
theorem many_inv {α : Type} {read : ByteArray → Int → α × ByteArray × Int} {enc : α → List Int} (hI : Inv read enc) : ∀ (n : Nat) (s : ByteArray) (e : Int), (manyR read n s e).2.2 = 0 → e = 0 ∧ nums s = (manyR read n s e).1.flatMap enc ++ nums (manyR read n s e).2.1 ∧ (manyR read n s e).1.length = n
  | 0, s, e, h => ⟨h, rfl, rfl⟩
  | n + 1, s, e, h => by
    by_cases he : e = 0
    · subst he
      rw [manyR_ok] at h ⊢
      obtain ⟨a, b, c⟩ := many_inv hI n _ _ h
      obtain ⟨_, d⟩ := hI s 0 a
      refine ⟨rfl, ?_, by simp [c]⟩
      rw [d, b]
      simp only [List.flatMap_cons, List.append_assoc]
    · rw [manyR_err _ _ _ _ he] at h
      exact absurd h he
theorem manyN_inv {α : Type} {read : ByteArray → Int → α × ByteArray × Int} {enc : α → List Int} (hI : Inv read enc) (m : Nat) (hm : m ≤ 2) : Inv (manyN read m) (fun l => putL (l.length : Int) m ++ l.flatMap enc) := fun s e h => by
  unfold manyN at h ⊢
  obtain ⟨a, b, c⟩ := many_inv hI _ _ _ h
  obtain ⟨d, f⟩ := num_inv s e m (by omega) a
  have hn := num_two s e m hm
  refine ⟨d, ?_⟩
  rw [f, b]
  simp only [c]
  rw [Int.toNat_of_nonneg hn.1, List.append_assoc]
theorem constT_inv (t : Int) (s : ByteArray) (e : Int) (h : (constT t s e).2.2 = 0) : e = 0 ∧ putL t 1 ++ nums s = constB (constT t s e).1 ++ nums (constT t s e).2.1 := by
  unfold constT at h ⊢
  by_cases h1 : t = 1
  · subst h1
    rw [if_pos rfl] at h ⊢
    simp only [] at h ⊢
    by_cases hz : (takeR (numR s e 2).2.1 (numR s e 2).2.2 (numR s e 2).1.toNat).2.2 = 0
    · rw [if_pos hz] at h
      obtain ⟨a, b, c⟩ := take_inv _ _ _ hz
      obtain ⟨d, f⟩ := num_inv s e 2 (by decide) a
      have hn := num_two s e 2 (by decide)
      generalize (takeR (numR s e 2).2.1 (numR s e 2).2.2 (numR s e 2).1.toNat) = T at *
      obtain ⟨tt, s2, e2⟩ := T
      simp only [] at *
      refine ⟨d, ?_⟩
      rcases dec_inv tt with ⟨q, _⟩ | q | ⟨l, q1, q2, q3, q4⟩
      · rw [q] at h
        simp at h
      · rw [q] at h
        simp at h
      · have hu := enc_utf l q1 q4
        unfold constB
        simp only [q3, hu, if_true]
        rw [← q2, f, b, c, Int.toNat_of_nonneg hn.1]
        simp only [putsL, List.append_assoc, List.append_nil, List.nil_append]
    · rw [if_neg hz] at h
      exact absurd h hz
  · rw [if_neg h1] at h ⊢
    by_cases h2 : t = 2
    · subst h2
      rw [if_pos rfl] at h ⊢
      simp only [] at h ⊢
      obtain ⟨d, f⟩ := num_inv s e 8 (by decide) h
      refine ⟨d, ?_⟩
      rw [f]
      simp [constB]
    · rw [if_neg h2] at h ⊢
      by_cases h3 : t = 3 ∨ t = 4 ∨ t = 7
      · rw [if_pos h3] at h ⊢
        simp only [] at h ⊢
        obtain ⟨d, f⟩ := num_inv s e 2 (by decide) h
        refine ⟨d, ?_⟩
        have h5 : ¬ (t = 5 ∨ t = 6) := by omega
        rw [f]
        simp only [constB, if_neg h1, if_neg h2, if_neg h5, putsL, List.append_assoc, List.append_nil, List.nil_append]
      · rw [if_neg h3] at h ⊢
        by_cases h5 : t = 5 ∨ t = 6
        · rw [if_pos h5] at h ⊢
          simp only [] at h ⊢
          obtain ⟨a3, b3⟩ := num_inv _ _ 2 (by decide) h
          obtain ⟨a2, b2⟩ := num_inv _ _ 2 (by decide) a3
          obtain ⟨a1, b1⟩ := num_inv s e 2 (by decide) a2
          refine ⟨a1, ?_⟩
          rw [b1, b2, b3]
          simp only [constB, if_neg h1, if_neg h2, if_pos h5, putsL, List.append_assoc, List.append_nil, List.nil_append]
        · rw [if_neg h5] at h
          simp only [] at h
          split at h
          · simp at h
          · rename_i q
            exact absurd h q
theorem const_inv : Inv constR constB := fun s e h => by
  unfold constR at h ⊢
  obtain ⟨a, b⟩ := constT_inv _ _ _ h
  obtain ⟨d, f⟩ := num_inv s e 1 (by decide) a
  exact ⟨d, by rw [f, b]⟩
theorem code_inv (m : Mb) (s : ByteArray) (e : Int) (h : (codeR m s e).2.2 = 0) : e = 0 ∧ nums s = codeB (codeR m s e).1 ++ nums (codeR m s e).2.1 := by
  unfold codeR at h ⊢
  simp only [] at h ⊢
  obtain ⟨a5, b5⟩ := manyN_inv hand_inv 1 (by decide) _ _ h
  obtain ⟨a4, b4, c4⟩ := take_inv _ _ _ a5
  obtain ⟨a3, b3⟩ := num_inv _ _ 2 (by decide) a4
  obtain ⟨a2, b2⟩ := num_inv _ _ 1 (by decide) a3
  obtain ⟨a1, b1⟩ := num_inv s e 1 (by decide) a2
  have hn := num_two (numR (numR s e 1).2.1 (numR s e 1).2.2 1).2.1 (numR (numR s e 1).2.1 (numR s e 1).2.2 1).2.2 2 (by decide)
  refine ⟨a1, ?_⟩
  rw [b1, b2, b3, b4, b5]
  unfold codeB
  simp only [c4]
  rw [Int.toNat_of_nonneg hn.1]
  simp only [putsL, List.append_assoc, List.append_nil, List.nil_append]
theorem method_inv : Inv methodR methodB := fun s e h => by
  unfold methodR at h ⊢
  by_cases hf : (fieldR s e).1.flags = 2
  · rw [if_pos hf] at h ⊢
    obtain ⟨a, b⟩ := field_inv s e h
    refine ⟨a, ?_⟩
    rw [b]
    unfold methodB fieldB
    rw [if_pos hf, List.append_nil]
  · rw [if_neg hf] at h ⊢
    obtain ⟨a, b⟩ := code_inv _ _ _ h
    obtain ⟨c, d⟩ := field_inv s e a
    refine ⟨c, ?_⟩
    rw [d, b]
    unfold methodB fieldB
    have hg : ¬ (codeR (fieldR s e).1 (fieldR s e).2.1 (fieldR s e).2.2).1.flags = 2 := hf
    rw [if_neg hg]
    simp only [List.append_assoc]
    rfl
theorem puts_flat : ∀ l : List Int, putsL l = l.flatMap (fun n => putL n 2)
  | [] => rfl
  | n :: l => by rw [putsL, List.flatMap_cons, puts_flat l]
theorem body_inv (s : ByteArray) (e : Int) (h : (bodyR s e).2.2 = 0) : e = 0 ∧ bytesS (bodyR s e).1 ++ nums (bodyR s e).2.1 = [67, 82, 85, 88] ++ nums s := by
  unfold bodyR at h ⊢
  simp only [] at h ⊢
  obtain ⟨a7, b7⟩ := manyN_inv method_inv 1 (by decide) _ _ h
  obtain ⟨a6, b6⟩ := manyN_inv field_inv 1 (by decide) _ _ a7
  obtain ⟨a5, b5⟩ := manyN_inv (read := fun s e => numR s e 2) (enc := fun n => putL n 2) (fun s e h => num_inv s e 2 (by decide) h) 1 (by decide) _ _ a6
  obtain ⟨a4, b4⟩ := num_inv _ _ 2 (by decide) a5
  obtain ⟨a3, b3⟩ := num_inv _ _ 2 (by decide) a4
  obtain ⟨a2, b2⟩ := num_inv _ _ 1 (by decide) a3
  obtain ⟨a1, b1⟩ := manyN_inv const_inv 2 (by decide) s e a2
  refine ⟨a1, ?_⟩
  rw [b1, b2, b3, b4, b5, b6, b7]
  unfold bytesS
  simp only [puts_flat, List.flatMap_cons, List.flatMap_nil, List.append_assoc, List.append_nil, List.nil_append]
theorem nums_nil {s : ByteArray} (h : s = ⟨#[]⟩) : nums s = [] := by
  subst h
  rfl
theorem done_inv {f : Fl} {e : Int} (h : (doneR f e).2 = 0) : e = 0 ∧ partsS f = 0 ∧ (doneR f e).1 = f := by
  unfold doneR at h ⊢
  by_cases h0 : e = 0
  · rw [if_pos h0] at h ⊢
    by_cases hp : partsS f = 0
    · rw [if_pos hp]
      exact ⟨h0, hp, rfl⟩
    · rw [if_neg hp] at h
      exact absurd h hp
  · rw [if_neg h0] at h
    exact absurd h h0
theorem end_inv {s : ByteArray} {e : Int} (h : endR s e = 0) : e = 0 ∧ s = ⟨#[]⟩ := by
  unfold endR at h
  split at h
  · simp at h
  · rename_i q
    exact ⟨h, Classical.byContradiction fun r => q ⟨h, r⟩⟩
theorem head_inv (b : ByteArray) (h : (headR b).2 = 0) : nums b = [67, 82, 85, 88] ++ nums (headR b).1 := by
  unfold headR at h ⊢
  simp only [] at h ⊢
  split at h
  · simp at h
  · rename_i q
    obtain ⟨d, f, _⟩ := take_inv b 0 4 h
    have ht : (takeR b 0 4).1 = ⟨#[67, 82, 85, 88]⟩ := Classical.byContradiction fun r => q ⟨h, r⟩
    rw [f, ht]
    rfl
theorem parse_eq (b : ByteArray) (hl : ¬ 65536 < b.size) : parseS b = doneR (bodyR (headR b).1 (headR b).2).1 (endR (bodyR (headR b).1 (headR b).2).2.1 (bodyR (headR b).1 (headR b).2).2.2) := by
  unfold parseS
  rw [if_neg hl]
/-- What is read is written as it was. -/
theorem parse_inv (b : ByteArray) (h : (parseS b).2 = 0) : partsS (parseS b).1 = 0 ∧ bytesS (parseS b).1 = nums b ∧ b.size ≤ 65536 := by
  by_cases hl : 65536 < b.size
  · unfold parseS at h
    rw [if_pos hl] at h
    simp at h
  · rw [parse_eq b hl] at h ⊢
    obtain ⟨h0, hp, hd⟩ := done_inv h
    rw [hd]
    obtain ⟨h1, h2⟩ := end_inv h0
    obtain ⟨a, c⟩ := body_inv _ _ h1
    rw [nums_nil h2, List.append_nil] at c
    exact ⟨hp, by rw [c, head_inv b a], by omega⟩
theorem done_none {f : Fl} {e : Int} (h : (doneR f e).2 ≠ 0) : (doneR f e).1 = zeroFl := by
  unfold doneR at h ⊢
  by_cases h0 : e = 0
  · rw [if_pos h0] at h ⊢
    by_cases hp : partsS f = 0
    · rw [if_pos hp] at h
      exact absurd rfl h
    · rw [if_neg hp]
  · rw [if_neg h0]
theorem parse_none (b : ByteArray) (h : (parseS b).2 ≠ 0) : (parseS b).1 = zeroFl := by
  by_cases hl : 65536 < b.size
  · unfold parseS
    rw [if_pos hl]
  · rw [parse_eq b hl] at h ⊢
    exact done_none h
theorem parse_again (b : ByteArray) (h : (parseS b).2 = 0) : encodeF (parseS b).1 = (b, 0) := by
  obtain ⟨h1, h2, h3⟩ := parse_inv b h
  unfold encodeF
  rw [if_neg (by rw [h1]; simp), h2, if_neg (by rw [nums_length]; omega), nums_str]

/-! What a class that is read is, as far as its numbers and texts go. -/
theorem many_all {α : Type} {read : ByteArray → Int → α × ByteArray × Int} {P : α → Prop} (h : ∀ s e, P (read s e).1) : ∀ (n : Nat) (s : ByteArray) (e : Int), ∀ x ∈ (manyR read n s e).1, P x
  | 0, s, e, x, hx => by simp [manyR] at hx
  | n + 1, s, e, x, hx => by
    by_cases he : e = 0
    · subst he
      rw [manyR_ok] at hx
      rcases List.mem_cons.1 hx with rfl | hx
      · exact h s 0
      · exact many_all h n _ _ x hx
    · rw [manyR_err _ _ _ _ he] at hx
      simp at hx
theorem many_small {α : Type} {read : ByteArray → Int → α × ByteArray × Int} : ∀ (n : Nat) (s : ByteArray) (e : Int), (manyR read n s e).1.length ≤ n
  | 0, s, e => by simp [manyR]
  | n + 1, s, e => by
    by_cases he : e = 0
    · subst he
      rw [manyR_ok]
      have := many_small (read := read) n (read s 0).2.1 (read s 0).2.2
      simp only [List.length_cons]
      omega
    · rw [manyR_err _ _ _ _ he]
      simp
theorem many_len {α : Type} {read : ByteArray → Int → α × ByteArray × Int} (h : ∀ s e, (read s e).2.1.size ≤ s.size) : ∀ (n : Nat) (s : ByteArray) (e : Int), (manyR read n s e).2.1.size ≤ s.size
  | 0, s, e => Nat.le_refl _
  | n + 1, s, e => by
    by_cases he : e = 0
    · subst he
      rw [manyR_ok]
      exact Nat.le_trans (many_len h n _ _) (h s 0)
    · rw [manyR_err _ _ _ _ he]
      exact Nat.le_refl _
theorem manyN_len {α : Type} {read : ByteArray → Int → α × ByteArray × Int} (h : ∀ s e, (read s e).2.1.size ≤ s.size) (n : Nat) (s : ByteArray) (e : Int) : (manyN read n s e).2.1.size ≤ s.size := Nat.le_trans (many_len h _ _ _) (num_len s e n)
theorem manyN_small {α : Type} {read : ByteArray → Int → α × ByteArray × Int} (n : Nat) (hn : n ≤ 2) (s : ByteArray) (e : Int) : (manyN read n s e).1.length ≤ 65535 := by
  have := many_small (read := read) (numR s e n).1.toNat (numR s e n).2.1 (numR s e n).2.2
  have := num_two s e n hn
  show (manyR _ _ _ _).1.length ≤ _
  omega
theorem field_len (s : ByteArray) (e : Int) : (fieldR s e).2.1.size ≤ s.size := Nat.le_trans (num_len _ _ 2) (Nat.le_trans (num_len _ _ 2) (num_len s e 1))
theorem hand_len (s : ByteArray) (e : Int) : (handR s e).2.1.size ≤ s.size := list_len s e 4 s e
theorem const_len (s : ByteArray) (e : Int) : (constR s e).2.1.size ≤ s.size := by
  unfold constR constT
  have h1 := num_len s e 1
  generalize numR s e 1 = N at *
  obtain ⟨t, s1, e1⟩ := N
  simp only [] at h1 ⊢
  have h2 := num_len s1 e1 2
  have h3 := num_len s1 e1 8
  split
  · exact Nat.le_trans (take_len _ _ _) (Nat.le_trans h2 h1)
  · split
    · exact Nat.le_trans h3 h1
    · split
      · exact Nat.le_trans h2 h1
      · split
        · exact Nat.le_trans (num_len _ _ 2) (Nat.le_trans (num_len _ _ 2) (Nat.le_trans h2 h1))
        · exact h1
theorem code_len (m : Mb) (s : ByteArray) (e : Int) : (codeR m s e).2.1.size ≤ s.size := by
  unfold codeR
  simp only []
  exact Nat.le_trans (manyN_len hand_len 1 _ _) (Nat.le_trans (take_len _ _ _) (Nat.le_trans (num_len _ _ 2) (Nat.le_trans (num_len _ _ 1) (num_len s e 1))))
theorem method_len (s : ByteArray) (e : Int) : (methodR s e).2.1.size ≤ s.size := by
  unfold methodR
  split
  · exact field_len s e
  · exact Nat.le_trans (code_len _ _ _) (field_len s e)
theorem utf_small : ∀ l : List Int, (utfL l).length ≤ 4 * (encL l).length
  | [] => by simp [utfL, encL]
  | r :: l => by
    have h1 := encZ_length r
    have h2 := encodeRuneZ_length r
    have ih := utf_small l
    rw [encL_cons]
    simp only [utfL, List.flatMap_cons, List.length_append] at ih ⊢
    omega
theorem dec_small (b : ByteArray) : (decS b).1.size ≤ 1048576 := by
  rcases dec_inv b with ⟨q, _⟩ | q | ⟨l, q1, q2, q3, q4⟩
  · rw [q]
    decide
  · rw [q]
    decide
  · rw [q3]
    have := utf_small l
    rw [size_nums]
    omega
theorem in64_zero : In64 0 := ⟨by decide, by decide⟩
theorem in64_one : In64 1 := ⟨by decide, by decide⟩
theorem in64_two : In64 2 := ⟨by decide, by decide⟩
theorem none_size : (⟨#[]⟩ : ByteArray).size ≤ 1099511627776 := by decide
def CnOk (c : Cn) : Prop := In64 c.tag ∧ In64 c.n ∧ In64 c.a ∧ In64 c.b ∧ In64 c.c ∧ c.text.size ≤ 1099511627776
theorem const_ok (s : ByteArray) (e : Int) : CnOk (constR s e).1 := by
  unfold constR constT
  have h1 := num_in s e 1
  generalize numR s e 1 = N at *
  obtain ⟨t, s1, e1⟩ := N
  simp only [] at h1 ⊢
  split
  · exact ⟨in64_one, in64_zero, in64_zero, in64_zero, in64_zero, Nat.le_trans (dec_small _) (by decide)⟩
  · split
    · exact ⟨in64_two, num_in _ _ _, in64_zero, in64_zero, in64_zero, none_size⟩
    · split
      · exact ⟨h1, in64_zero, num_in _ _ _, in64_zero, in64_zero, none_size⟩
      · split
        · exact ⟨h1, in64_zero, num_in _ _ _, num_in _ _ _, num_in _ _ _, none_size⟩
        · exact ⟨h1, in64_zero, in64_zero, in64_zero, in64_zero, none_size⟩
def MbOk (m : Mb) : Prop := In64 m.flags ∧ In64 m.name ∧ In64 m.desc ∧ In64 m.stack ∧ In64 m.locals ∧ m.code.size ≤ 65535 ∧ ∀ h ∈ m.hs, In64 h.fr ∧ In64 h.til ∧ In64 h.at_ ∧ In64 h.cls
theorem none_size2 : (⟨#[]⟩ : ByteArray).size ≤ 65535 := by decide
theorem field_ok (s : ByteArray) (e : Int) : MbOk (fieldR s e).1 := ⟨num_in _ _ _, num_in _ _ _, num_in _ _ _, in64_zero, in64_zero, none_size2, fun h hh => by cases hh⟩
theorem hand_ok (s : ByteArray) (e : Int) : In64 (handR s e).1.fr ∧ In64 (handR s e).1.til ∧ In64 (handR s e).1.at_ ∧ In64 (handR s e).1.cls := ⟨num_in _ _ _, num_in _ _ _, num_in _ _ _, num_in _ _ _⟩
theorem method_ok (s : ByteArray) (e : Int) : MbOk (methodR s e).1 := by
  unfold methodR
  split
  · exact field_ok s e
  · obtain ⟨h1, h2, h3, _⟩ := field_ok s e
    unfold codeR
    refine ⟨h1, h2, h3, num_in _ _ _, num_in _ _ _, ?_, many_all hand_ok _ _ _⟩
    have h2 := num_two (numR (numR (fieldR s e).2.1 (fieldR s e).2.2 1).2.1 (numR (fieldR s e).2.1 (fieldR s e).2.2 1).2.2 1).2.1 (numR (numR (fieldR s e).2.1 (fieldR s e).2.2 1).2.1 (numR (fieldR s e).2.1 (fieldR s e).2.2 1).2.2 1).2.2 2 (by decide)
    refine Nat.le_trans (take_size _ _ _) ?_
    omega
theorem manyN_all {α : Type} {read : ByteArray → Int → α × ByteArray × Int} {P : α → Prop} (h : ∀ s e, P (read s e).1) (n : Nat) (s : ByteArray) (e : Int) : ∀ x ∈ (manyN read n s e).1, P x := many_all h _ _ _
theorem body_ok (s : ByteArray) (e : Int) (F : FlP) (h : F.fl = (bodyR s e).1) : FlOk F := by
  unfold bodyR at h
  simp only [] at h
  have k1 := manyN_all const_ok 2 s e
  generalize manyN constR 2 s e = M at *
  obtain ⟨pool, s2, e2⟩ := M
  simp only [] at h k1
  have k2 := num_in s2 e2 1
  generalize numR s2 e2 1 = M at *
  obtain ⟨fl, s3, e3⟩ := M
  simp only [] at h k2
  have k3 := num_in s3 e3 2
  generalize numR s3 e3 2 = M at *
  obtain ⟨th, s4, e4⟩ := M
  simp only [] at h k3
  have k4 := num_in s4 e4 2
  generalize numR s4 e4 2 = M at *
  obtain ⟨su, s5, e5⟩ := M
  simp only [] at h k4
  have k5 := manyN_all (fun s e => num_in s e 2) 1 s5 e5
  generalize manyN (fun s e => numR s e 2) 1 s5 e5 = M at *
  obtain ⟨ifs, s6, e6⟩ := M
  simp only [] at h k5
  have k6 := manyN_all field_ok 1 s6 e6
  generalize manyN fieldR 1 s6 e6 = M at *
  obtain ⟨fds, s7, e7⟩ := M
  simp only [] at h k6
  have k7 := manyN_all method_ok 1 s7 e7
  generalize manyN methodR 1 s7 e7 = M at *
  obtain ⟨mths, s8, e8⟩ := M
  simp only [] at h k7
  obtain ⟨p, f, t, u, i, x, y⟩ := F
  unfold FlP.fl at h
  simp only [Fl.mk.injEq] at h
  obtain ⟨rfl, rfl, rfl, rfl, rfl, rfl, rfl⟩ := h
  refine ⟨k2, k3, k4, k5, k1, fun m hm => ?_, fun m hm => ?_⟩
  · have h2 := k6 m.1 (List.mem_map_of_mem hm)
    exact ⟨h2.1, h2.2.1, h2.2.2.1⟩
  · obtain ⟨a, b, c, d, f, g, i⟩ := k7 m.1 (List.mem_map_of_mem hm)
    exact ⟨a, b, c, d, f, Nat.le_trans g (by decide), i⟩
theorem zero_ok (F : FlP) (h : F.fl = zeroFl) : FlOk F := by
  obtain ⟨pool, fl, th, su, ifs, fds, mths⟩ := F
  unfold FlP.fl zeroFl at h
  simp only [Fl.mk.injEq, List.map_eq_nil_iff] at h
  obtain ⟨rfl, rfl, rfl, rfl, rfl, rfl, rfl⟩ := h
  exact ⟨in64_zero, in64_zero, in64_zero, fun i h => (by cases h), fun i h => (by cases h), fun i h => (by cases h), fun i h => (by cases h)⟩
theorem parse_ok (b : ByteArray) (F : FlP) (h : F.fl = (parseS b).1) : FlOk F := by
  by_cases hl : 65536 < b.size
  · unfold parseS at h
    rw [if_pos hl] at h
    exact zero_ok F h
  · rw [parse_eq b hl] at h
    have hb := body_ok (headR b).1 (headR b).2 F
    generalize bodyR (headR b).1 (headR b).2 = X at *
    obtain ⟨f, s8, e8⟩ := X
    simp only [] at h hb
    generalize endR s8 e8 = E at *
    unfold doneR at h
    by_cases h0 : E = 0
    · rw [if_pos h0] at h
      by_cases hp : partsS f = 0
      · rw [if_pos hp] at h
        exact hb h
      · rw [if_neg hp] at h
        exact zero_ok F h
    · rw [if_neg h0] at h
      exact zero_ok F h
end Sp
end Go.Proofs.YthpfknlgfkecpaaDoor
end
