/-
  Texts of the proof, joined: each says at its head what it proves.
-/
import Derived.Test.YthpfknlgfkecpaaDoorJg16
import Derived.Test.YthpfknlgfkecpaaDoorJg21
section
/-
  Plain words for chapter 3's reader: what is written is read as it was; what is cut is none.
-/
set_option linter.unusedVariables false
set_option linter.unusedSimpArgs false
namespace Go.Proofs.YthpfknlgfkecpaaDoor
open Go.RowKit Go.Lib

namespace Sp
theorem extract_take (L : List Int) (n : Nat) : (Go.strOfNums L).extract 0 n = Go.strOfNums (L.take n) := by
  have h : ∀ s : ByteArray, s.extract 0 n = ⟨(s.data.toList.take n).toArray⟩ := fun s => by
    apply ByteArray.ext
    rw [ByteArray.data_extract]
    apply Array.toList_inj.1
    simp [Array.toList_extract, List.extract_eq_take_drop]
  rw [h, Go.strOfNums_data]
  unfold Go.strOfNums
  rw [List.map_take]
theorem take_str (L : List Int) (n : Nat) : takeR (Go.strOfNums L) 0 n = if L.length < n then (⟨#[]⟩, Go.strOfNums L, 5) else (Go.strOfNums (L.take n), Go.strOfNums (L.drop n), 0) := by
  unfold takeR
  rw [if_pos rfl, extract_take, extract_nums, size_nums]
/-- An error that is there stays. -/
def Kp {α : Type} (read : ByteArray → Int → α × ByteArray × Int) : Prop := ∀ s e, e ≠ 0 → (read s e).2.2 = e
/-- What is written so is read so; and none, if it is cut. -/
structure Fw {α : Type} (read : ByteArray → Int → α × ByteArray × Int) (l : List Int) (x : α) : Prop where
  by_ : By l
  ok : ∀ r, By r → read (Go.strOfNums (l ++ r)) 0 = (x, Go.strOfNums r, 0)
  cut : ∀ k, k < l.length → (read (Go.strOfNums (l.take k)) 0).2.2 = 5
def bindR {α β : Type} (f : ByteArray → Int → α × ByteArray × Int) (g : α → ByteArray → Int → β × ByteArray × Int) : ByteArray → Int → β × ByteArray × Int := fun s e => g (f s e).1 (f s e).2.1 (f s e).2.2
def retR {α : Type} (x : α) : ByteArray → Int → α × ByteArray × Int := fun s e => (x, s, e)
theorem by_nil : By [] := fun x hx => by simp at hx
theorem Kp.ret {α : Type} (x : α) : Kp (retR x) := fun s e h => rfl
theorem Fw.ret {α : Type} (x : α) : Fw (retR x) [] x := ⟨by_nil, fun r hr => rfl, fun k hk => by simp at hk⟩
theorem Kp.bind {α β : Type} {f : ByteArray → Int → α × ByteArray × Int} {g : α → ByteArray → Int → β × ByteArray × Int} (hf : Kp f) (hg : ∀ a, Kp (g a)) : Kp (bindR f g) := fun s e he => by
  have h := hf s e he
  unfold bindR
  rw [hg _ _ _ (by rw [h]; exact he), h]
theorem Fw.bind {α β : Type} {f : ByteArray → Int → α × ByteArray × Int} {g : α → ByteArray → Int → β × ByteArray × Int} {l m : List Int} {x : α} {y : β} (hf : Fw f l x) (hg : Fw (g x) m y) (hk : ∀ a, Kp (g a)) : Fw (bindR f g) (l ++ m) y where
  by_ := hf.by_.app hg.by_
  ok := fun r hr => by
    unfold bindR
    rw [List.append_assoc, hf.ok _ (hg.by_.app hr)]
    exact hg.ok r hr
  cut := fun k hk' => by
    unfold bindR
    by_cases h : k < l.length
    · rw [List.take_append_of_le_length (by omega)]
      have h5 := hf.cut k h
      rw [hk _ _ _ (by rw [h5]; decide), h5]
    · rw [List.take_append, List.take_of_length_le (by omega), hf.ok _ (hg.by_.take _)]
      exact hg.cut _ (by rw [List.length_append] at hk'; omega)
theorem Fw.congr {α : Type} {f g : ByteArray → Int → α × ByteArray × Int} {l : List Int} {x : α} (h : Fw f l x) (he : ∀ s, g s 0 = f s 0) : Fw g l x :=
  ⟨h.by_, fun r hr => by rw [he]; exact h.ok r hr, fun k hk => by rw [he]; exact h.cut k hk⟩
theorem take_kp (n : Nat) : Kp (fun s e => takeR s e n) := fun s e he => by
  show (takeR s e n).2.2 = e
  unfold takeR
  rw [if_neg he]
theorem num_kp (n : Nat) : Kp (fun s e => numR s e n) := fun s e he => take_kp n s e he
theorem take_fw (l : List Int) (h : By l) (n : Nat) (hn : n = l.length) : Fw (fun s e => takeR s e n) l (Go.strOfNums l) where
  by_ := h
  ok := fun r hr => by
    subst hn
    show takeR _ _ _ = _
    rw [take_str, if_neg (by rw [List.length_append]; omega), List.take_left, List.drop_left]
  cut := fun k hk => by
    subst hn
    show (takeR _ _ _).2.2 = _
    rw [take_str, if_pos (by rw [List.length_take]; omega)]
theorem by_put (n : Int) : ∀ m, By (putL n m)
  | 0 => by_nil
  | m + 1 => fun x hx => by
    rw [putL] at hx
    rcases List.mem_cons.1 hx with rfl | hx
    · omega
    · exact by_put n m x hx
theorem num_fw (v : Int) (n : Nat) (h : numV (putL v n) = v) : Fw (fun s e => numR s e n) (putL v n) v where
  by_ := by_put v n
  ok := fun r hr => by
    have ht := (take_fw (putL v n) (by_put v n) n (putL_length v n).symm).ok r hr
    show (numV (nums (takeR _ _ n).1), (takeR _ _ n).2) = _
    rw [show takeR (Go.strOfNums (putL v n ++ r)) 0 n = _ from ht]
    simp only []
    rw [str_nums _ (by_put v n), h]
  cut := fun k hk => (take_fw (putL v n) (by_put v n) n (putL_length v n).symm).cut k hk
theorem numV_1 (n : Int) : numV (putL n 1) = n % 256 := by
  rw [putL_snoc, numV_snoc]
  simp only [putL, numV, List.foldl_nil, IntKind.wrap_i64]
  omega
theorem numV_2 (n : Int) : numV (putL n 2) = n % 65536 := by
  rw [putL_snoc, numV_snoc, numV_1, IntKind.wrap_i64]
  omega
theorem numV_3 (n : Int) : numV (putL n 3) = n % 16777216 := by
  rw [putL_snoc, numV_snoc, numV_2, IntKind.wrap_i64]
  omega
theorem numV_4 (n : Int) : numV (putL n 4) = n % 4294967296 := by
  rw [putL_snoc, numV_snoc, numV_3, IntKind.wrap_i64]
  omega
theorem numV_5 (n : Int) : numV (putL n 5) = n % 1099511627776 := by
  rw [putL_snoc, numV_snoc, numV_4, IntKind.wrap_i64]
  omega
theorem numV_6 (n : Int) : numV (putL n 6) = n % 281474976710656 := by
  rw [putL_snoc, numV_snoc, numV_5, IntKind.wrap_i64]
  omega
theorem numV_7 (n : Int) : numV (putL n 7) = n % 72057594037927936 := by
  rw [putL_snoc, numV_snoc, numV_6, IntKind.wrap_i64]
  omega
theorem numV_8 (n : Int) (h : In64 n) : numV (putL n 8) = n := by
  unfold In64 at h
  rw [putL_snoc, numV_snoc, numV_7, IntKind.wrap_i64]
  omega
theorem num1_fw (v : Int) (h : In8 v) : Fw (fun s e => numR s e 1) (putL v 1) v := num_fw v 1 (by rw [numV_1]; unfold In8 at h; omega)
theorem num2_fw (v : Int) (h : In16 v) : Fw (fun s e => numR s e 2) (putL v 2) v := num_fw v 2 (by rw [numV_2]; unfold In16 at h; omega)
theorem num8_fw (v : Int) (h : In64 v) : Fw (fun s e => numR s e 8) (putL v 8) v := num_fw v 8 (numV_8 v h)
theorem many_kp {α : Type} (read : ByteArray → Int → α × ByteArray × Int) (n : Nat) : Kp (manyR read n) := fun s e he => by rw [manyR_err _ _ _ _ he]
theorem many_fw {α : Type} {read : ByteArray → Int → α × ByteArray × Int} {enc : α → List Int} : ∀ (l : List α), (∀ x ∈ l, Fw read (enc x) x) → Fw (manyR read l.length) (l.flatMap enc) l
  | [], _ => Fw.ret []
  | x :: l, h => by
    have h1 : Fw (bindR read (fun a => bindR (manyR read l.length) (fun t => retR (a :: t)))) (enc x ++ (l.flatMap enc ++ [])) (x :: l) :=
      Fw.bind (h x (by simp)) (Fw.bind (many_fw l (fun y hy => h y (by simp [hy]))) (Fw.ret _) (fun _ => Kp.ret _)) (fun _ => Kp.bind (many_kp _ _) (fun _ => Kp.ret _))
    rw [List.flatMap_cons]
    rw [List.append_nil] at h1
    exact h1.congr (fun s => manyR_ok _ _ _)
theorem manyN_binds {α : Type} (read : ByteArray → Int → α × ByteArray × Int) (n : Nat) : manyN read n = bindR (fun s e => numR s e n) (fun v => manyR read v.toNat) := rfl
theorem manyN_kp {α : Type} (read : ByteArray → Int → α × ByteArray × Int) (n : Nat) : Kp (manyN read n) := by
  rw [manyN_binds]
  exact Kp.bind (num_kp n) (fun _ => many_kp _ _)
theorem manyN_fw {α : Type} {read : ByteArray → Int → α × ByteArray × Int} {enc : α → List Int} (l : List α) (h : ∀ x ∈ l, Fw read (enc x) x) (n : Nat) (hn : Fw (fun s e => numR s e n) (putL (l.length : Int) n) (l.length : Int)) : Fw (manyN read n) (putL (l.length : Int) n ++ l.flatMap enc) l := by
  rw [manyN_binds]
  refine Fw.bind hn ?_ (fun _ => many_kp _ _)
  show Fw (manyR read ((l.length : Int)).toNat) _ l
  rw [Int.toNat_natCast]
  exact many_fw l h
theorem Fw.by_eq {α : Type} {read : ByteArray → Int → α × ByteArray × Int} {l l' : List Int} {x : α} (h : Fw read l x) (e : l = l') : Fw read l' x := e ▸ h

theorem field_binds : fieldR = bindR (fun s e => numR s e 1) (fun a => bindR (fun s e => numR s e 2) (fun b => bindR (fun s e => numR s e 2) (fun c => retR (⟨a, b, c, 0, 0, ⟨#[]⟩, []⟩ : Mb)))) := rfl
theorem field_kp : Kp fieldR := by
  rw [field_binds]
  exact Kp.bind (num_kp 1) (fun _ => Kp.bind (num_kp 2) (fun _ => Kp.bind (num_kp 2) (fun _ => Kp.ret _)))
theorem head_fw (a b c : Int) (h1 : In8 a) (h2 : In16 b) (h3 : In16 c) : Fw fieldR (putL a 1 ++ putsL [b, c]) ⟨a, b, c, 0, 0, ⟨#[]⟩, []⟩ := by
  rw [field_binds]
  exact Fw.bind (num1_fw a h1) (Fw.bind (num2_fw b h2) (Fw.bind (num2_fw c h3) (Fw.ret _) (fun _ => Kp.ret _)) (fun _ => Kp.bind (num_kp 2) (fun _ => Kp.ret _))) (fun _ => Kp.bind (num_kp 2) (fun _ => Kp.bind (num_kp 2) (fun _ => Kp.ret _)))
theorem hand_binds : handR = bindR (fun s e => numR s e 2) (fun a => bindR (fun s e => numR s e 2) (fun b => bindR (fun s e => numR s e 2) (fun c => bindR (fun s e => numR s e 2) (fun d => retR (⟨a, b, c, d⟩ : Hn))))) := rfl
theorem hand_fw (h : Hn) (hr : In16 h.fr ∧ In16 h.til ∧ In16 h.at_ ∧ In16 h.cls) : Fw handR (handB h) h := by
  rw [hand_binds]
  exact Fw.bind (num2_fw _ hr.1) (Fw.bind (num2_fw _ hr.2.1) (Fw.bind (num2_fw _ hr.2.2.1) (Fw.bind (num2_fw _ hr.2.2.2) (Fw.ret _) (fun _ => Kp.ret _)) (fun _ => Kp.bind (num_kp 2) (fun _ => Kp.ret _))) (fun _ => Kp.bind (num_kp 2) (fun _ => Kp.bind (num_kp 2) (fun _ => Kp.ret _)))) (fun _ => Kp.bind (num_kp 2) (fun _ => Kp.bind (num_kp 2) (fun _ => Kp.bind (num_kp 2) (fun _ => Kp.ret _))))
theorem code_binds (m : Mb) : codeR m = bindR (fun s e => numR s e 1) (fun a => bindR (fun s e => numR s e 1) (fun b => bindR (fun s e => numR s e 2) (fun l => bindR (fun s e => takeR s e l.toNat) (fun c => bindR (manyN handR 1) (fun h => retR (⟨m.flags, m.name, m.desc, a, b, c, h⟩ : Mb)))))) := rfl
theorem code_kp (m : Mb) : Kp (codeR m) := by
  rw [code_binds]
  exact Kp.bind (num_kp 1) (fun _ => Kp.bind (num_kp 1) (fun _ => Kp.bind (num_kp 2) (fun _ => Kp.bind (take_kp _) (fun _ => Kp.bind (manyN_kp _ 1) (fun _ => Kp.ret _)))))
theorem code_fw (m : Mb) (h1 : In8 m.stack) (h2 : In8 m.locals) (h3 : m.code.size ≤ 4096) (h4 : m.hs.length ≤ 32) (h5 : ∀ h ∈ m.hs, In16 h.fr ∧ In16 h.til ∧ In16 h.at_ ∧ In16 h.cls) : Fw (codeR ⟨m.flags, m.name, m.desc, 0, 0, ⟨#[]⟩, []⟩) (codeB m) m := by
  rw [code_binds]
  have hc : Fw (fun s e => takeR s e ((m.code.size : Int)).toNat) (nums m.code) m.code := by
    rw [Int.toNat_natCast]
    have := take_fw (nums m.code) (by_nums _) m.code.size (nums_length _).symm
    rwa [nums_str] at this
  have hh : Fw (manyN handR 1) (putL (m.hs.length : Int) 1 ++ m.hs.flatMap handB) m.hs := manyN_fw m.hs (fun h hh => hand_fw h (h5 h hh)) 1 (num1_fw _ (by unfold In8; omega))
  have hz : Fw (fun s e => numR s e 2) (putL (m.code.size : Int) 2) (m.code.size : Int) := num2_fw _ (by unfold In16; omega)
  have e : codeB m = putL m.stack 1 ++ (putL m.locals 1 ++ (putL (m.code.size : Int) 2 ++ (nums m.code ++ ((putL (m.hs.length : Int) 1 ++ m.hs.flatMap handB) ++ [])))) := by
    unfold codeB
    simp only [putsL, List.append_assoc, List.append_nil, List.nil_append]
  rw [e]
  exact Fw.bind (num1_fw _ h1) (Fw.bind (num1_fw _ h2) (Fw.bind hz (Fw.bind hc (Fw.bind hh (Fw.ret _) (fun _ => Kp.ret _)) (fun _ => Kp.bind (manyN_kp _ 1) (fun _ => Kp.ret _))) (fun _ => Kp.bind (take_kp _) (fun _ => Kp.bind (manyN_kp _ 1) (fun _ => Kp.ret _)))) (fun _ => Kp.bind (num_kp 2) (fun _ => Kp.bind (take_kp _) (fun _ => Kp.bind (manyN_kp _ 1) (fun _ => Kp.ret _))))) (fun _ => Kp.bind (num_kp 1) (fun _ => Kp.bind (num_kp 2) (fun _ => Kp.bind (take_kp _) (fun _ => Kp.bind (manyN_kp _ 1) (fun _ => Kp.ret _)))))
theorem method_binds : methodR = bindR fieldR (fun m => if m.flags = 2 then retR m else codeR m) := by
  funext s e
  show (if (fieldR s e).1.flags = 2 then fieldR s e else codeR (fieldR s e).1 (fieldR s e).2.1 (fieldR s e).2.2) = (if (fieldR s e).1.flags = 2 then retR (fieldR s e).1 else codeR (fieldR s e).1) (fieldR s e).2.1 (fieldR s e).2.2
  by_cases h : (fieldR s e).1.flags = 2
  · rw [if_pos h, if_pos h]
    rfl
  · rw [if_neg h, if_neg h]
theorem method_kp : Kp methodR := by
  rw [method_binds]
  refine Kp.bind field_kp (fun m => ?_)
  split
  · exact Kp.ret _
  · exact code_kp _
theorem bare_eq {m : Mb} (h : bareS m = true) : m = ⟨m.flags, m.name, m.desc, 0, 0, ⟨#[]⟩, []⟩ := by
  obtain ⟨fl, nm, ds, st, lo, cd, hs⟩ := m
  simp only [bareS, Bool.and_eq_true, decide_eq_true_eq] at h
  obtain ⟨⟨⟨rfl, rfl⟩, h3⟩, h4⟩ := h
  rw [size_zero] at h3
  subst h3
  rw [List.length_eq_zero_iff] at h4
  subst h4
  rfl
theorem method_fw (m : Mb) (h : RngM m) (hb : m.flags = 2 → bareS m = true) : Fw methodR (methodB m) m := by
  rw [method_binds]
  have hk : ∀ m : Mb, Kp (if m.flags = 2 then retR m else codeR m) := fun m => by
    split
    · exact Kp.ret _
    · exact code_kp _
  unfold methodB
  refine Fw.bind (head_fw m.flags m.name m.desc h.1 h.2.1 h.2.2.1) ?_ hk
  by_cases hf : m.flags = 2
  · rw [if_pos hf, if_pos hf]
    have hm := bare_eq (hb hf)
    rw [← hm]
    exact Fw.ret m
  · rw [if_neg hf, if_neg hf]
    obtain ⟨a, b, c, d, f⟩ := h.2.2.2 hf
    exact code_fw m a b c d f
theorem const_text (s : ByteArray) (h : (encS s).2 = 0) : Fw (constT 1) (putsL [((encS s).1.size : Int)] ++ nums (encS s).1) ⟨1, s, 0, 0, 0, 0⟩ := by
  obtain ⟨l, h1, h2, h3, h4, h5⟩ := enc_ok s h
  have hb := by_encL l h1
  have e : constT 1 = bindR (fun s e => numR s e 2) (fun n => bindR (fun s e => takeR s e n.toNat) (fun t => fun s e => ((⟨1, (decS t).1, 0, 0, 0, 0⟩ : Cn), s, if e = 0 then (decS t).2 else e))) := by
    funext s e
    unfold constT
    rw [if_pos rfl]
    rfl
  rw [e, h5]
  simp only []
  rw [str_nums _ hb, size_nums]
  have hz : Fw (fun s e => numR s e 2) (putL ((encL l).length : Int) 2) ((encL l).length : Int) := num2_fw _ (by unfold In16; omega)
  have ht : Fw (fun s e => takeR s e ((encL l).length : Int).toNat) (encL l) (Go.strOfNums (encL l)) := by
    rw [Int.toNat_natCast]
    exact take_fw _ hb _ rfl
  have hd := dec_enc l h1 h4
  have hl : Fw (fun s e => ((⟨1, (decS (Go.strOfNums (encL l))).1, 0, 0, 0, 0⟩ : Cn), s, if e = 0 then (decS (Go.strOfNums (encL l))).2 else e)) [] ⟨1, s, 0, 0, 0, 0⟩ := by
    refine ⟨by_nil, fun r hr => ?_, fun k hk => by simp at hk⟩
    simp only []
    rw [hd]
    simp only [if_true]
    rw [← h2]
    rfl
  have hlk : ∀ t, Kp (fun s e => ((⟨1, (decS t).1, 0, 0, 0, 0⟩ : Cn), s, if e = 0 then (decS t).2 else e)) := fun t s e he => by
    simp only []
    rw [if_neg he]
  refine (Fw.bind hz (Fw.bind ht hl hlk) (fun _ => Kp.bind (take_kp _) hlk)).by_eq ?_
  simp only [putsL, List.append_nil]
theorem constT_kp (t : Int) : Kp (constT t) := fun s e he => by
  unfold constT
  split
  · rename_i h
    have h1 := num_kp 2 s e he
    simp only [] at h1 ⊢
    have h2 := take_kp (numR s e 2).1.toNat (numR s e 2).2.1 (numR s e 2).2.2 (by rw [h1]; exact he)
    simp only [] at h2
    rw [if_neg (by rw [h2, h1]; exact he), h2, h1]
  · split
    · exact num_kp 8 s e he
    · split
      · exact num_kp 2 s e he
      · split
        · exact Kp.bind (g := fun a => bindR (fun s e => numR s e 2) (fun b => fun s e => numR s e 2)) (num_kp 2) (fun _ => Kp.bind (num_kp 2) (fun _ => num_kp 2)) s e he
        · first | rfl | exact if_neg he
theorem const_binds : constR = bindR (fun s e => numR s e 1) (fun t => constT t) := rfl
theorem const_kp : Kp constR := by
  rw [const_binds]
  exact Kp.bind (num_kp 1) constT_kp
theorem const_fw {p : List Cn} (c : Cn) (hp : p.length ≤ 2000) (h : constS p c = 0) (hn : In64 c.n) : Fw constR (constB c) c := by
  obtain ⟨h1, h2, h3⟩ := const_range hp h
  have hl : leanS c = true := by
    unfold constS at h
    split at h
    · cases h
    · rename_i q
      simpa using q
  have ht : c.tag = 1 → (encS c.text).2 = 0 := fun q => by
    unfold constS at h
    rw [hl, if_neg (by simp), if_pos q] at h
    unfold textS at h
    split at h
    · assumption
    · exact h
  rw [const_binds]
  unfold constB
  refine Fw.bind (num1_fw c.tag (by unfold In8; omega)) ?_ constT_kp
  obtain ⟨t, tx, n, a, b, d⟩ := c
  simp only [leanS, Bool.and_eq_true, Bool.or_eq_true, decide_eq_true_eq] at hl h1 h2 h3 hn ht ⊢
  obtain ⟨⟨⟨⟨_, l1⟩, l2⟩, l3⟩, l4⟩ := hl
  by_cases t1 : t = 1
  · subst t1
    obtain rfl : n = 0 := by omega
    obtain rfl : a = 0 := by omega
    obtain ⟨rfl, rfl⟩ : b = 0 ∧ d = 0 := by omega
    rw [if_pos rfl]
    exact const_text tx (ht rfl)
  · rw [if_neg t1]
    have hx : tx = ⟨#[]⟩ := by
      rw [← size_zero]
      omega
    subst hx
    by_cases t2 : t = 2
    · subst t2
      obtain rfl : a = 0 := by omega
      obtain ⟨rfl, rfl⟩ : b = 0 ∧ d = 0 := by omega
      rw [if_pos rfl]
      have e : constT 2 = bindR (fun s e => numR s e 8) (fun v => retR (⟨2, ⟨#[]⟩, v, 0, 0, 0⟩ : Cn)) := by
        funext s e
        unfold constT
        rw [if_neg (by decide), if_pos rfl]
        rfl
      rw [e]
      rw [show putL n 8 = putL n 8 ++ [] from (List.append_nil _).symm]
      exact Fw.bind (num8_fw n hn) (Fw.ret _) (fun _ => Kp.ret _)
    · rw [if_neg t2]
      obtain rfl : n = 0 := by omega
      by_cases t5 : t = 5 ∨ t = 6
      · rw [if_pos t5]
        have e : constT t = bindR (fun s e => numR s e 2) (fun x => bindR (fun s e => numR s e 2) (fun y => bindR (fun s e => numR s e 2) (fun z => retR (⟨t, ⟨#[]⟩, 0, x, y, z⟩ : Cn)))) := by
          funext s e
          unfold constT
          rw [if_neg t1, if_neg t2, if_neg (by omega), if_pos t5]
          rfl
        rw [e]
        exact Fw.bind (num2_fw a (h2 t1 t2)) (Fw.bind (num2_fw b (h3 t5).1) (Fw.bind (num2_fw d (h3 t5).2) (Fw.ret _) (fun _ => Kp.ret _)) (fun _ => Kp.bind (num_kp 2) (fun _ => Kp.ret _))) (fun _ => Kp.bind (num_kp 2) (fun _ => Kp.bind (num_kp 2) (fun _ => Kp.ret _)))
      · rw [if_neg t5]
        obtain ⟨rfl, rfl⟩ : b = 0 ∧ d = 0 := by omega
        have e : constT t = bindR (fun s e => numR s e 2) (fun x => retR (⟨t, ⟨#[]⟩, 0, x, 0, 0⟩ : Cn)) := by
          funext s e
          unfold constT
          rw [if_neg t1, if_neg t2, if_pos (by omega)]
          rfl
        rw [e]
        exact Fw.bind (num2_fw a (h2 t1 t2)) (Fw.ret _) (fun _ => Kp.ret _)

/-- What stands behind a class's first four bytes, written. -/
def bodyB (F : Fl) : List Int := putL (F.pool.length : Int) 2 ++ F.pool.flatMap constB ++ (putL F.flags 1 ++ (putL F.this 2 ++ (putL F.super 2 ++ (putL (F.ifaces.length : Int) 1 ++ F.ifaces.flatMap (fun n => putL n 2) ++ (putL (F.fields.length : Int) 1 ++ F.fields.flatMap fieldB ++ (putL (F.methods.length : Int) 1 ++ F.methods.flatMap methodB ++ []))))))
theorem bytes_body (F : Fl) : bytesS F = [67, 82, 85, 88] ++ bodyB F := by
  unfold bytesS bodyB
  simp only [puts_flat, List.flatMap_cons, List.flatMap_nil, List.append_assoc, List.append_nil, List.nil_append]
set_option maxHeartbeats 2000000 in
theorem body_binds : bodyR = bindR (manyN constR 2) (fun p => bindR (fun s e => numR s e 1) (fun fl => bindR (fun s e => numR s e 2) (fun th => bindR (fun s e => numR s e 2) (fun su => bindR (manyN (fun s e => numR s e 2) 1) (fun i => bindR (manyN fieldR 1) (fun f => bindR (manyN methodR 1) (fun m => retR (⟨p, fl, th, su, i, f, m⟩ : Fl)))))))) := by
  funext s e
  simp only [bodyR, bindR, retR]
theorem body_kp : Kp bodyR := by
  rw [body_binds]
  exact Kp.bind (manyN_kp _ 2) (fun _ => Kp.bind (num_kp 1) (fun _ => Kp.bind (num_kp 2) (fun _ => Kp.bind (num_kp 2) (fun _ => Kp.bind (manyN_kp _ 1) (fun _ => Kp.bind (manyN_kp _ 1) (fun _ => Kp.bind (manyN_kp _ 1) (fun _ => Kp.ret _)))))))
/-- What a right class is. -/
theorem parts_all {F : Fl} (h : partsS F = 0) : (∀ c ∈ F.pool, constS F.pool c = 0) ∧ (∀ m ∈ F.fields, fieldM F.pool F.flags m = 0) ∧ ∀ m ∈ F.methods, methodM F.pool F.flags m = 0 := by
  unfold partsS at h
  split at h
  · cases h
  split at h
  · rename_i q; exact absurd h q
  rename_i h2
  split at h
  · rename_i q; exact absurd h q
  split at h
  · rename_i q; exact absurd h q
  rename_i h4
  have h2' : poolF F.pool F.pool = 0 := by simpa using h2
  have h4' : memS (fieldM F.pool F.flags) (keyM F.pool false) F.fields = 0 := by simpa using h4
  unfold memS at h4' h
  split at h4'
  · cases h4'
  split at h
  · cases h
  exact ⟨fun c hc => pool_range h2' c hc, (memF_all h4').1, (memF_all h).1⟩
theorem field_bare {p : List Cn} {ff : Int} {m : Mb} (h : fieldM p ff m = 0) : bareS m = true := by
  unfold fieldM at h
  split at h
  · cases h
  split at h
  · split at h
    · assumption
    · cases h
  · rename_i q
    exact absurd h q
theorem method_bare {p : List Cn} {ff : Int} {m : Mb} (h : methodM p ff m = 0) (h2 : m.flags = 2) : bareS m = true := by
  unfold methodM at h
  split at h
  · cases h
  split at h
  · rename_i q
    exact absurd h q
  split at h
  · cases h
  (try rw [if_pos h2] at h)
  split at h
  · assumption
  · cases h
theorem body_fw (F : Fl) (h : partsS F = 0) (hn : ∀ c ∈ F.pool, In64 c.n) : Fw bodyR (bodyB F) F := by
  have hr := rng_of h
  obtain ⟨a1, a2, a3⟩ := parts_all h
  have k1 : Fw (manyN constR 2) (putL (F.pool.length : Int) 2 ++ F.pool.flatMap constB) F.pool := manyN_fw _ (fun c hc => const_fw c hr.npool (a1 c hc) (hn c hc)) 2 (num2_fw _ (by have := hr.npool; unfold In16; omega))
  have k2 : Fw (manyN (fun s e => numR s e 2) 1) (putL (F.ifaces.length : Int) 1 ++ F.ifaces.flatMap (fun n => putL n 2)) F.ifaces := manyN_fw _ (fun i hi => num2_fw i (hr.ifs i hi)) 1 (num1_fw _ (by have := hr.nifs; unfold In8; omega))
  have k3 : Fw (manyN fieldR 1) (putL (F.fields.length : Int) 1 ++ F.fields.flatMap fieldB) F.fields := manyN_fw _ (fun m hm => by
    have hx := head_fw m.flags m.name m.desc (hr.fields m hm).1 (hr.fields m hm).2.1 (hr.fields m hm).2.2
    rw [← bare_eq (field_bare (a2 m hm))] at hx
    exact hx) 1 (num1_fw _ (by have := hr.nfields; unfold In8; omega))
  have k4 : Fw (manyN methodR 1) (putL (F.methods.length : Int) 1 ++ F.methods.flatMap methodB) F.methods := manyN_fw _ (fun m hm => method_fw m (hr.methods m hm) (method_bare (a3 m hm))) 1 (num1_fw _ (by have := hr.nmethods; unfold In8; omega))
  rw [body_binds]
  have g7 : ∀ p fl th su i f, Kp (bindR (manyN methodR 1) (fun m => retR (⟨p, fl, th, su, i, f, m⟩ : Fl))) := fun _ _ _ _ _ _ => Kp.bind (manyN_kp _ 1) (fun _ => Kp.ret _)
  have g6 := fun p fl th su i => Kp.bind (manyN_kp fieldR 1) (fun f => g7 p fl th su i f)
  have g5 := fun p fl th su => Kp.bind (manyN_kp (fun s e => numR s e 2) 1) (fun i => g6 p fl th su i)
  have g4 := fun p fl th => Kp.bind (num_kp 2) (fun su => g5 p fl th su)
  have g3 := fun p fl => Kp.bind (num_kp 2) (fun th => g4 p fl th)
  have g2 := fun p => Kp.bind (num_kp 1) (fun fl => g3 p fl)
  exact Fw.bind k1 (Fw.bind (num1_fw _ hr.flags) (Fw.bind (num2_fw _ hr.this) (Fw.bind (num2_fw _ hr.super) (Fw.bind k2 (Fw.bind k3 (Fw.bind k4 (Fw.ret _) (fun _ => Kp.ret _)) (fun f => g7 _ _ _ _ _ f)) (fun i => g6 _ _ _ _ i)) (fun su => g5 _ _ _ su)) (fun th => g4 _ _ th)) (fun fl => g3 _ fl)) g2
theorem crux_str : Go.strOfNums [67, 82, 85, 88] = ⟨#[67, 82, 85, 88]⟩ := by decide +kernel
theorem by_crux : By [67, 82, 85, 88] := by
  intro x hx
  simp at hx
  omega
theorem head_str (r : List Int) (h : By r) : headR (Go.strOfNums ([67, 82, 85, 88] ++ r)) = (Go.strOfNums r, 0) := by
  have ht : takeR (Go.strOfNums ([67, 82, 85, 88] ++ r)) 0 4 = (Go.strOfNums [67, 82, 85, 88], Go.strOfNums r, 0) := (take_fw [67, 82, 85, 88] by_crux 4 rfl).ok r h
  unfold headR
  rw [ht]
  simp only []
  rw [crux_str, if_neg (by simp)]
theorem end_err (s : ByteArray) {e : Int} (he : e ≠ 0) : endR s e = e := by
  unfold endR
  rw [if_neg (fun q => he q.1)]
theorem done_err (f : Fl) {e : Int} (he : e ≠ 0) : doneR f e = (zeroFl, e) := by
  unfold doneR
  rw [if_neg he]
theorem done_ok {f : Fl} (h : partsS f = 0) : doneR f 0 = (f, 0) := by
  unfold doneR
  rw [if_pos rfl, if_pos h]
theorem end_none : endR (Go.strOfNums []) 0 = 0 := by
  unfold endR
  rw [if_neg (fun q => q.2 rfl)]
/-- What is written is read as it was. -/
theorem parse_back (F : Fl) (h : partsS F = 0) (hn : ∀ c ∈ F.pool, In64 c.n) (hl : (bytesS F).length ≤ 65536) : parseS (Go.strOfNums (bytesS F)) = (F, 0) := by
  have hf := body_fw F h hn
  have ho := hf.ok [] by_nil
  rw [List.append_nil] at ho
  rw [parse_eq _ (by rw [size_nums]; omega), bytes_body, head_str _ hf.by_]
  simp only []
  rw [ho]
  simp only []
  rw [end_none, done_ok h]
theorem parse_err (b : ByteArray) (e : Int) (he : e ≠ 0) (h : (bodyR (headR b).1 (headR b).2).2.2 = e) (hl : ¬ 65536 < b.size) : parseS b = (zeroFl, e) := by
  rw [parse_eq b hl, h, end_err _ he, done_err _ he]
/-- What is cut is none. -/
theorem parse_cut (F : Fl) (h : partsS F = 0) (hn : ∀ c ∈ F.pool, In64 c.n) (hl : (bytesS F).length ≤ 65536) (k : Nat) (hk : k < (bytesS F).length) : parseS (Go.strOfNums ((bytesS F).take k)) = (zeroFl, 5) := by
  have hf := body_fw F h hn
  refine parse_err _ 5 (by decide) ?_ (by rw [size_nums, List.length_take]; omega)
  rw [bytes_body] at hk ⊢
  by_cases h4 : k < 4
  · have hc : (takeR (Go.strOfNums ([67, 82, 85, 88].take k)) 0 4).2.2 = 5 := (take_fw [67, 82, 85, 88] by_crux 4 rfl).cut k h4
    rw [List.take_append_of_le_length (by simp; omega)]
    have hd : (headR (Go.strOfNums ([67, 82, 85, 88].take k))).2 = 5 := by
      unfold headR
      simp only []
      rw [hc]
      rfl
    have hb := body_kp (headR (Go.strOfNums ([67, 82, 85, 88].take k))).1 (headR (Go.strOfNums ([67, 82, 85, 88].take k))).2 (by rw [hd]; decide)
    rw [hb]
    exact hd
  · rw [List.take_append, List.take_of_length_le (by simp; omega), head_str _ (hf.by_.take _)]
    simp only []
    refine hf.cut _ ?_
    rw [List.length_append] at hk
    simp at hk ⊢
    omega
/-- A byte more is none. -/
theorem parse_more (F : Fl) (h : partsS F = 0) (hn : ∀ c ∈ F.pool, In64 c.n) (x : Int) (hx : 0 ≤ x ∧ x ≤ 255) : parseS (Go.strOfNums (bytesS F ++ [x])) = if 65536 < (bytesS F).length + 1 then (zeroFl, 2) else (zeroFl, 6) := by
  have hf := body_fw F h hn
  have hb : By [x] := fun y hy => by
    rw [List.mem_singleton] at hy
    subst hy
    exact hx
  by_cases hl : 65536 < (bytesS F).length + 1
  · unfold parseS
    rw [size_nums, List.length_append, List.length_singleton, if_pos hl, if_pos hl]
  · rw [parse_eq _ (by rw [size_nums, List.length_append, List.length_singleton]; exact hl), if_neg hl, bytes_body, List.append_assoc, head_str _ (hf.by_.app hb)]
    simp only []
    rw [hf.ok _ hb]
    have hne : Go.strOfNums [x] ≠ ⟨#[]⟩ := fun q => by
      have := congrArg ByteArray.size q
      rw [size_nums] at this
      cases this
    have hE : endR (Go.strOfNums [x]) 0 = 6 := by
      unfold endR
      rw [if_pos ⟨rfl, hne⟩]
    simp only []
    rw [hE, done_err _ (by decide)]
end Sp
end Go.Proofs.YthpfknlgfkecpaaDoor
end
