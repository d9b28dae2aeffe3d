/-
  Texts of the proof, joined: each says at its head what it proves.
-/
import Derived.Test.YtfjplmbknegidaaGreatDoorJk22
import Derived.Test.YtfjplmbknegidaaGreatDoorJk23
import Derived.Test.YtfjplmbknegidaaGreatDoorJk13
import Derived.Test.YtfjplmbknegidaaGreatDoorJk25
section
/-
  Plain: the document's own classes are a table.
-/
set_option linter.unusedVariables false
set_option linter.unusedSimpArgs false
namespace Go.Proofs.YtfjplmbknegidaaGreatDoor.Sp
open Go.RowKit Go.Lib

def builtC : List Cl := builtP.map (·.1)
/-- Where edges only lead down a number nothing stands above itself. -/
theorem acyc_rank {L : List Cl} (rank : ByteArray → Nat) (h0 : ∀ c ∈ L, c.name ≠ nilB) (h : ∀ c ∈ L, ∀ y ∈ c.super :: c.ifaces, y = nilB ∨ rank y < rank c.name) : Acyc L := by
  intro c hc hu
  have key : ∀ {x y : ByteArray}, UpC L x y → y = nilB ∨ rank y < rank x := by
    intro x y hu
    have edge : ∀ {a b : ByteArray}, EdgeC L a b → b = nilB ∨ rank b < rank a := by
      intro a b he
      unfold EdgeC at he
      cases hf : findC L a with
      | none => rw [getC_none hf] at he; exact .inl (by simpa [zC] using he)
      | some d =>
        rw [getC_some hf] at he
        obtain ⟨e1, e2⟩ := findC_name hf
        rw [← e1]
        exact h d e2 b he
    induction hu with
    | one he => exact edge he
    | @step a b z he hu ih =>
      rcases edge he with rfl | q
      · -- from no name only to no name
        left
        have := Up.closed (S := fun z => z = nilB) (fun a b ha hab => by
          unfold EdgeC at hab
          rw [ha, getC_none (findC_none.2 h0)] at hab
          simpa [zC] using hab) rfl hu
        exact this.1
      · rcases ih with r | r
        · exact .inl r
        · exact .inr (by omega)
  rcases key hu with q | q
  · exact h0 c hc q
  · omega
def rankB (s : ByteArray) : Nat := if s = objB then 0 else if under.any (fun y => decide (y = s)) = true then 1 else 2
theorem built_all : builtC.all (fun c => decide (c.name ≠ nilB) && c.ifaces.isEmpty && !c.iface && !c.own && decide (c.super = nilB ∨ rankB c.super < rankB c.name) && (decide (c.name = objB) || (findC builtC c.super).isSome)) = true := by decide +kernel
theorem built_tb : Tb builtC := by
  have hall := List.all_eq_true.1 built_all
  have hc : ∀ c ∈ builtC, c.name ≠ nilB ∧ c.ifaces = [] ∧ c.iface = false ∧ (c.super = nilB ∨ rankB c.super < rankB c.name) ∧ (c.name = objB ∨ (findC builtC c.super).isSome = true) := fun c h => by
    have := hall c h
    simp only [Bool.and_eq_true, Bool.or_eq_true, decide_eq_true_eq, Bool.not_eq_true', List.isEmpty_iff] at this
    exact ⟨this.1.1.1.1.1, this.1.1.1.1.2, this.1.1.1.2, this.1.2, this.2⟩
  refine ⟨by decide +kernel, fun c h => (hc c h).1, ⟨_, rfl, rfl, rfl, rfl⟩, fun c h hne => ?_, fun c h i hi => ?_, acyc_rank rankB (fun c h => (hc c h).1) (fun c h y hy => ?_)⟩
  · rcases (hc c h).2.2.2.2 with q | q
    · exact absurd q hne
    · obtain ⟨s, hs⟩ := Option.isSome_iff_exists.1 q
      exact ⟨s, hs, (hc s (findC_name hs).2).2.2.1, fun r => by rw [(hc c h).2.2.1] at r; cases r⟩
  · rw [(hc c h).2.1] at hi; cases hi
  · rw [(hc c h).2.1] at hy
    have : y = c.super := by simpa using hy
    rw [this]
    exact (hc c h).2.2.2.1
theorem built_nm : Nm builtC := ⟨by decide +kernel, List.all_eq_true.1 (by decide +kernel : builtC.all (fun c => nameS c.name) = true)⟩
end Go.Proofs.YtfjplmbknegidaaGreatDoor.Sp
end
section
/-
  Plain: a small class's bytes are not many.
-/
set_option linter.unusedVariables false
set_option linter.unusedSimpArgs false
namespace Go.Proofs.YtfjplmbknegidaaGreatDoor.Sp
open Go.Lib

theorem constB_len (c : Cn) : (constB c).length ≤ 65538 := by
  unfold constB
  have h := encS_size c.text
  rw [List.length_append, putL_length]
  split
  · rw [List.length_append, putsL_length, nums_length]; simp only [List.length_cons, List.length_nil]; omega
  · split
    · rw [putL_length]; omega
    · split
      · rw [putsL_length]; simp only [List.length_cons, List.length_nil]; omega
      · rw [putsL_length]; simp only [List.length_cons, List.length_nil]; omega
theorem constB_all : ∀ l : List Cn, (l.flatMap constB).length ≤ l.length * 65538
  | [] => by simp
  | c :: l => by
    have h1 := constB_len c
    have h2 := constB_all l
    rw [List.flatMap_cons, List.length_append, List.length_cons]
    omega
theorem handB_all (l : List Hn) : (l.flatMap handB).length = 8 * l.length := by
  induction l with
  | nil => rfl
  | cons h l ih =>
    rw [List.flatMap_cons, List.length_append, ih, handB, putsL_length]
    simp only [List.length_cons, List.length_nil]
    omega
theorem fieldB_all (l : List Mb) : (l.flatMap fieldB).length = 5 * l.length := by
  induction l with
  | nil => rfl
  | cons h l ih =>
    rw [List.flatMap_cons, List.length_append, ih, fieldB, List.length_append, putL_length, putsL_length]
    simp only [List.length_cons, List.length_nil]
    omega
theorem methodB_all (l : List Mb) : (l.flatMap methodB).length ≤ 10 * l.length + codeN l := by
  induction l with
  | nil => simp
  | cons m l ih =>
    rw [List.flatMap_cons, List.length_append, codeN, List.length_cons]
    have : (methodB m).length ≤ 10 + (m.code.size + 8 * m.hs.length) := by
      unfold methodB
      rw [List.length_append, List.length_append, putL_length, putsL_length]
      simp only [List.length_cons, List.length_nil]
      split
      · simp only [List.length_nil]; omega
      · unfold codeB
        simp only [List.length_append, putL_length, putsL_length, List.length_cons, List.length_nil, nums_length, handB_all]
        omega
    omega
theorem small_bytes {F : Fl} (h : smallS F = true) : (bytesS F).length ≤ 900000000 := by
  unfold smallS at h
  obtain ⟨h1, h2, h3, h4, h5⟩ := of_decide_eq_true h
  have a1 := constB_all F.pool
  have a2 := fieldB_all F.fields
  have a3 := methodB_all F.methods
  unfold bytesS
  simp only [List.length_append, putL_length, putsL_length, List.length_cons, List.length_nil]
  omega
end Go.Proofs.YtfjplmbknegidaaGreatDoor.Sp
end
section
/-
  Plain: chapter 6's laws: the files of raw classes, the types of raw numbers; what holds of a table that is made of files.
-/
set_option linter.unusedVariables false
set_option linter.unusedSimpArgs false
namespace Go.Proofs.YtfjplmbknegidaaGreatDoor.Sp
open Go.RowKit Go.Lib
/-- A raw class. -/
structure Rw where
  flags : Int
  name : Int
  super : Int
  ifaces : List Int
abbrev RwP := Rw × Option Addr × Nat
def rwC (r : RwP) : List Value := [.int .i64 r.1.flags, .int .i64 r.1.name, .int .i64 r.1.super, .slice r.2.1 r.1.ifaces.length r.2.2]
theorem rwC_len (r : RwP) : (rwC r).length = 4 := rfl
/-- Which of n things a raw number speaks of. -/
def pickN (c n : Int) : Int := if c < 0 then (-(c + 1)) % n else c % n
theorem pickN_in (c n : Int) (h : 0 < n) : 0 ≤ pickN c n ∧ pickN c n < n := by
  unfold pickN
  split
  · exact ⟨Int.emod_nonneg _ (by omega), Int.emod_lt_of_pos _ h⟩
  · exact ⟨Int.emod_nonneg _ (by omega), Int.emod_lt_of_pos _ h⟩
def names11 : List ByteArray := [⟨#[65]⟩, ⟨#[66]⟩, ⟨#[67]⟩, ⟨#[68]⟩, ⟨#[73]⟩, ⟨#[74]⟩, ⟨#[79, 98, 106, 101, 99, 116]⟩, ⟨#[84, 104, 114, 111, 119, 97, 98, 108, 101]⟩, ⟨#[83, 116, 114, 105, 110, 103]⟩, ⟨#[78, 117, 108, 108]⟩, ⟨#[88]⟩]
def nameR (n : Int) : ByteArray := names11.getD (pickN n 11).toNat nilB
def flagR (n : Int) : Int := ([0, 0, 2, 3] : List Int).getD (pickN n 4).toNat 0
theorem nameR_mem (n : Int) : nameR n ∈ names11 := by
  unfold nameR
  have := pickN_in n 11 (by decide)
  have hl : (pickN n 11).toNat < names11.length := by show _ < 11; omega
  rw [List.getD_eq_getElem?_getD, List.getElem?_eq_getElem hl]
  exact List.getElem_mem hl
theorem names11_all : names11.all (fun s => nameS s && decide (s.size ≤ 20)) = true := by decide +kernel
theorem nameR_ok (n : Int) : nameS (nameR n) = true ∧ (nameR n).size ≤ 20 := by
  have := List.all_eq_true.1 names11_all _ (nameR_mem n)
  simpa using this
theorem flagR_in (n : Int) : flagR n = 0 ∨ flagR n = 2 ∨ flagR n = 3 := by
  unfold flagR
  have := pickN_in n 4 (by decide)
  generalize (pickN n 4).toNat = k at *
  match k with
  | 0 => exact .inl rfl
  | 1 => exact .inl rfl
  | 2 => exact .inr (.inl rfl)
  | 3 => exact .inr (.inr rfl)
  | k + 4 => exact .inl rfl
/-- The constants of an interface's name. -/
def ifP (ifs : List ByteArray) (i : Nat) : List Cn := [⟨1, ifs.getD i nilB, 0, 0, 0, 0⟩, ⟨4, nilB, 0, 5 + 2 * (i : Int), 0, 0⟩]
def fileF (flags : Int) (name super : ByteArray) (ifs : List ByteArray) : FlP :=
  ⟨[⟨1, name, 0, 0, 0, 0⟩, ⟨4, nilB, 0, 1, 0, 0⟩, ⟨1, super, 0, 0, 0, 0⟩, ⟨4, nilB, 0, 3, 0, 0⟩] ++ (List.range ifs.length).flatMap (ifP ifs), flags, 2, 4, (List.range ifs.length).map (fun i : Nat => 6 + 2 * (i : Int)), [], []⟩
theorem fileF_pool {fl : Int} {nm su : ByteArray} {ifs : List ByteArray} (h1 : nm.size ≤ 1000) (h2 : su.size ≤ 1000) (h3 : ifs.length ≤ 16) (h4 : ∀ i ∈ ifs, i.size ≤ 1000) :
    ∀ c ∈ (fileF fl nm su ifs).pool, (In64 c.tag ∧ In64 c.n ∧ In64 c.a ∧ In64 c.b ∧ In64 c.c) ∧ c.text.size ≤ 1000 := by
  intro c hc
  rcases List.mem_append.1 hc with hc | hc
  · simp only [List.mem_cons, List.not_mem_nil, or_false] at hc
    rcases hc with rfl | rfl | rfl | rfl
    · exact ⟨by unfold In64; simp, h1⟩
    · exact ⟨by unfold In64; simp, Nat.zero_le _⟩
    · exact ⟨by unfold In64; simp, h2⟩
    · exact ⟨by unfold In64; simp, Nat.zero_le _⟩
  · obtain ⟨i, hi, hc⟩ := List.mem_flatMap.1 hc
    have hi := List.mem_range.1 hi
    simp only [ifP, List.mem_cons, List.not_mem_nil, or_false] at hc
    rcases hc with rfl | rfl
    · refine ⟨by unfold In64; simp, ?_⟩
      simp only
      rw [List.getD_eq_getElem?_getD, List.getElem?_eq_getElem hi]
      exact h4 _ (List.getElem_mem hi)
    · refine ⟨?_, Nat.zero_le _⟩
      unfold In64
      simp only
      omega
theorem textN_le (k : Nat) : ∀ l : List Cn, (∀ c ∈ l, c.text.size ≤ k) → textN l ≤ l.length * k
  | [], _ => Nat.zero_le _
  | c :: l, h => by
    have h1 := h c (List.mem_cons_self ..)
    have h2 := textN_le k l (fun d hd => h d (List.mem_cons_of_mem _ hd))
    rw [textN, List.length_cons, Nat.succ_mul]
    omega
theorem fileF_len (fl : Int) (nm su : ByteArray) (ifs : List ByteArray) : (fileF fl nm su ifs).pool.length = 4 + 2 * ifs.length := by
  have : ∀ n, ((List.range n).flatMap (ifP ifs)).length = 2 * n := by
    intro n
    induction n with
    | zero => rfl
    | succ n ih => rw [List.range_succ, List.flatMap_append, List.length_append, ih]; rfl
  unfold fileF
  rw [List.length_append, this]
  rfl
theorem fileF_ok {fl : Int} {nm su : ByteArray} {ifs : List ByteArray} (hf : In64 fl) (h1 : nm.size ≤ 1000) (h2 : su.size ≤ 1000) (h3 : ifs.length ≤ 16) (h4 : ∀ i ∈ ifs, i.size ≤ 1000) :
    FlOk (fileF fl nm su ifs) ∧ (bytesS (fileF fl nm su ifs).fl).length ≤ 900000000 := by
  have hp := fileF_pool (fl := fl) h1 h2 h3 h4
  have hl := fileF_len fl nm su ifs
  refine ⟨⟨hf, by unfold In64 fileF; simp, by unfold In64 fileF; simp, fun i hi => ?_, fun c hc => ?_, fun m hm => (by cases hm), fun m hm => (by cases hm)⟩, small_bytes ?_⟩
  · obtain ⟨k, hk, rfl⟩ := List.mem_map.1 hi
    have := List.mem_range.1 hk
    unfold In64
    omega
  · obtain ⟨⟨q1, q2, q3, q4, q5⟩, q6⟩ := hp c hc
    exact ⟨q1, q2, q3, q4, q5, by omega⟩
  · have ht := textN_le 1000 (fileF fl nm su ifs).pool (fun c hc => (hp c hc).2)
    have hi : (fileF fl nm su ifs).ifaces.length = ifs.length := by simp [fileF]
    unfold smallS
    refine decide_eq_true ⟨?_, ?_, Nat.zero_le _, Nat.zero_le _, ?_⟩
    · show (fileF fl nm su ifs).pool.length ≤ 3000
      omega
    · show (fileF fl nm su ifs).ifaces.length ≤ 100
      omega
    · show textN (fileF fl nm su ifs).pool + 0 + 0 < 100000
      have : (4 + 2 * ifs.length) * 1000 ≤ 36000 := by omega
      rw [hl] at ht
      omega
def fileR (r : Rw) : FlP := fileF (flagR r.flags) (nameR r.name) (nameR r.super) ((r.ifaces.take 4).map nameR)
theorem fileR_ok (r : Rw) : FlOk (fileR r) ∧ (bytesS (fileR r).fl).length ≤ 900000000 := by
  refine fileF_ok ?_ ?_ ?_ ?_ ?_
  · rcases flagR_in r.flags with h | h | h <;> rw [h] <;> unfold In64 <;> decide
  · have := (nameR_ok r.name).2; omega
  · have := (nameR_ok r.super).2; omega
  · rw [List.length_map, List.length_take]; omega
  · intro i hi
    obtain ⟨k, _, rfl⟩ := List.mem_map.1 hi
    have := (nameR_ok k).2; omega
def filesF (l : List Rw) : List FlP := (l.take 70).map fileR
def typeR (n : Int) : Ty := (pickN n 40 / 13, if pickN n 7 = 3 then nilB else nameR n)
def typesS (l : List Int) : List Ty := (l.take 12).map typeR
theorem typeR_right (n : Int) : rightS (typeR n) = true := by
  have h1 := pickN_in n 40 (by decide)
  unfold rightS typeR
  simp only [Bool.and_eq_true, Bool.or_eq_true, decide_eq_true_eq]
  refine ⟨⟨by omega, by omega⟩, ?_⟩
  split
  · exact .inl rfl
  · exact .inr (nameR_ok n).1
theorem typeR_size (n : Int) : (typeR n).2.size ≤ 20 ∧ 0 ≤ (typeR n).1 ∧ (typeR n).1 ≤ 4 := by
  have h1 := pickN_in n 40 (by decide)
  unfold typeR
  simp only
  refine ⟨?_, by omega, by omega⟩
  split
  · exact Nat.zero_le _
  · exact (nameR_ok n).2
/-- Files, each with its error and its class, without where they lie. -/
def rcF : List FlP → Nat → List RC
  | [], _ => []
  | F :: l, i => ((encodeF F.fl).2, clOf F i) :: rcF l (i + 1)
theorem rcF_rc : ∀ (l : List (At × FlP)) (i : Nat), rcS l i = rcF (l.map (·.2)) i
  | [], _ => rfl
  | x :: l, i => by rw [rcS, List.map_cons, rcF, rcF_rc l (i + 1)]
theorem rcF_len : ∀ (l : List FlP) (i : Nat), (rcF l i).length = l.length
  | [], _ => rfl
  | _ :: l, i => by simp [rcF, rcF_len l (i + 1)]
theorem rcF_name : ∀ {l : List FlP} {i : Nat}, ∀ f ∈ rcF l i, f.1 = 0 → nameS f.2.name = true
  | [], _, f, hf => by cases hf
  | x :: l, i, f, hf => by
    intro h0
    rw [rcF] at hf
    rcases List.mem_cons.1 hf with rfl | hf
    · exact enc_name h0
    · exact rcF_name f hf h0
theorem rcF_na : ∀ (l : List FlP) (i : Nat), (rcF l i).map naRC = l.map (fun F => ((encodeF F.fl).2, noAt (clOf F 0)))
  | [], _ => rfl
  | F :: l, i => by
    rw [rcF, List.map_cons, List.map_cons, rcF_na l (i + 1)]
    rfl
theorem rcF_get : ∀ (l : List FlP) (i k : Nat) (hk : k < (rcF l i).length), ((rcF l i)[k]).2.at_ = ((i + k : Nat) : Int) ∧ ((rcF l i)[k]).2.own = true
  | [], _, k, hk => by simp [rcF] at hk
  | F :: l, i, 0, hk => ⟨rfl, rfl⟩
  | F :: l, i, k + 1, hk => by
    simp only [rcF, List.getElem_cons_succ]
    have := rcF_get l (i + 1) k (by simpa [rcF] using hk)
    rw [show i + (k + 1) = i + 1 + k by omega]
    exact this
/-- What files make of a table is a table; its names are right. -/
theorem made_tb {T L : List Cl} {fs : List FlP} (hT : Tb T) (hN : Nm T) (h : (openS T (rcF fs 0)).1 = some L) : Tb L ∧ Nm L ∧ L.length = T.length + fs.length ∧ fs.length ≤ 64 := by
  obtain ⟨h1, h2, h3, h4, h5⟩ := open_some h
  refine ⟨open_tb hT (fun f hf h0 => name_ne (rcF_name f hf h0)) h, ⟨hN.1, fun c hc => ?_⟩, ?_, by rwa [rcF_len] at h3⟩
  · rw [h1] at hc
    rcases List.mem_append.1 hc with q | q
    · obtain ⟨d, hd, rfl⟩ := List.mem_map.1 q
      exact hN.2 d hd
    · obtain ⟨f, hf, rfl⟩ := List.mem_map.1 q
      exact rcF_name f hf (h4 f hf).1
  · rw [h1]; simp [rcF_len]
theorem known_right {L : List Cl} {a : Ty} (h : rightS a = true) : knownS L a = (decide (a.2 = nilB) || (findC L a.2).isSome) := by rw [knownS, h]; rfl
/-- Turned round: from a place on, then those ahead of it. -/
def rot {α : Type} (l : List α) (k : Nat) : List α := l.drop k ++ l.take k
theorem rot_perm {α : Type} (l : List α) (k : Nat) : (rot l k).Perm l := by
  unfold rot
  refine List.perm_append_comm.trans ?_
  rw [List.take_append_drop]
def turnR (l : List Rw) (at_ : Int) : List Rw := if l.length = 0 ∨ 70 < l.length then l else rot l (pickN at_ l.length).toNat
theorem turn_perm (l : List Rw) (at_ : Int) : (filesF (turnR l at_)).Perm (filesF l) := by
  unfold turnR
  split
  · exact List.Perm.refl _
  · rename_i h
    have hl : l.length ≤ 70 := by omega
    have hp := rot_perm l (pickN at_ l.length).toNat
    unfold filesF
    rw [List.take_of_length_le hl, List.take_of_length_le (by rw [hp.length_eq]; exact hl)]
    exact hp.map _
/-- In which order files stand makes no difference. -/
theorem turn_open (l : List Rw) (at_ : Int) : ((openS builtC (rcF (filesF l) 0)).1.isSome = (openS builtC (rcF (filesF (turnR l at_)) 0)).1.isSome) ∧
    (((openS builtC (rcF (filesF l) 0)).2.1 = 0) ↔ ((openS builtC (rcF (filesF (turnR l at_)) 0)).2.1 = 0)) ∧
    ∀ L M, (openS builtC (rcF (filesF l) 0)).1 = some L → (openS builtC (rcF (filesF (turnR l at_)) 0)).1 = some M → Like L M := by
  have hp : ((rcF (filesF l) 0).map naRC).Perm ((rcF (filesF (turnR l at_)) 0).map naRC) := by
    rw [rcF_na, rcF_na]
    exact (turn_perm l at_).symm.map _
  have h1 : ∀ L, (openS builtC (rcF (filesF l) 0)).1 = some L → ∃ M, (openS builtC (rcF (filesF (turnR l at_)) 0)).1 = some M ∧ Like L M := fun L h => open_perm built_tb.nodup hp h
  have h2 : ∀ L, (openS builtC (rcF (filesF (turnR l at_)) 0)).1 = some L → ∃ M, (openS builtC (rcF (filesF l) 0)).1 = some M ∧ Like L M := fun L h => open_perm built_tb.nodup hp.symm h
  have hz : ∀ fs, ((openS builtC fs).2.1 = 0 ↔ (openS builtC fs).1.isSome = true) := fun fs => by
    cases h : (openS builtC fs).1 with
    | none => exact ⟨fun q => absurd q (open_none h), fun q => by cases q⟩
    | some L => exact ⟨fun _ => rfl, fun _ => by rw [(open_some h).2.1]⟩
  have hs : (openS builtC (rcF (filesF l) 0)).1.isSome = (openS builtC (rcF (filesF (turnR l at_)) 0)).1.isSome := by
    rw [Bool.eq_iff_iff]
    constructor
    · intro q
      obtain ⟨L, hL⟩ := Option.isSome_iff_exists.1 q
      obtain ⟨M, hM, _⟩ := h1 L hL
      rw [hM]; rfl
    · intro q
      obtain ⟨L, hL⟩ := Option.isSome_iff_exists.1 q
      obtain ⟨M, hM, _⟩ := h2 L hL
      rw [hM]; rfl
  refine ⟨hs, by rw [hz, hz, hs], fun L M hL hM => ?_⟩
  obtain ⟨M', hM', hk⟩ := h1 L hL
  rw [hM] at hM'
  cases hM'
  exact hk
end Go.Proofs.YtfjplmbknegidaaGreatDoor.Sp
end
section
/-
  Walks of chapter 6's laws' own small functions: pick, name, sameTexts, class, types.
-/
set_option linter.unusedVariables false
set_option linter.unusedSimpArgs false
namespace Go.Proofs.YtfjplmbknegidaaGreatDoor
open Go.RowKit Go.Lib Go.Maps

set_option maxHeartbeats 4000000 in
set_option maxRecDepth 100000 in
theorem pick6_any (c n : Int) (w : World) (h : In64 c) (hn : 0 < n) (hn2 : n ≤ 9223372036854775807) :
    Calls Tryz.prog 31 #[.int .i64 c, .int .i64 n] w fun e w' => e = .returned (.int .i64 (Sp.pickN c n)) ∧ w' = w := by
  obtain ⟨h0, h1⟩ := h
  have hd : n ≠ 0 := by omega
  by_cases hc : c < 0
  · have hP := Lib.hid (show Sp.pickN c n = -(c + 1).tmod n by
      unfold Sp.pickN
      rw [if_pos hc, ← Int.neg_tmod]
      exact (Int.tmod_eq_emod_of_nonneg (by omega)).symm)
    go_enter Tryz.func31, Tryz.ntmps31
    go_wp2
    go_ret
    exact ⟨by rw [hP.out]; rfl, rfl⟩
  · have hP := Lib.hid (show Sp.pickN c n = c % n by unfold Sp.pickN; rw [if_neg hc])
    go_enter Tryz.func31, Tryz.ntmps31
    go_wp2
    go_ret
    exact ⟨by rw [hP.out]; rfl, rfl⟩

/-- The block of the names' literal. -/
def Sp.nmC : Array Value := #[.string ⟨#[65]⟩, .string ⟨#[66]⟩, .string ⟨#[67]⟩, .string ⟨#[68]⟩, .string ⟨#[73]⟩, .string ⟨#[74]⟩, .string ⟨#[79, 98, 106, 101, 99, 116]⟩, .string ⟨#[84, 104, 114, 111, 119, 97, 98, 108, 101]⟩, .string ⟨#[83, 116, 114, 105, 110, 103]⟩, .string ⟨#[78, 117, 108, 108]⟩, .string ⟨#[88]⟩]
theorem Sp.nameR_at {n : Int} {k : Nat} (h : Sp.pickN n 11 = k) (hk : k < 11) : (Sp.names11.map Value.string)[k]? = some (.string (Sp.nameR n)) := by
  unfold Sp.nameR
  rw [h, Int.toNat_natCast, List.getElem?_map, List.getElem?_eq_getElem (show k < Sp.names11.length from hk), List.getD_eq_getElem?_getD, List.getElem?_eq_getElem (show k < Sp.names11.length from hk)]
  rfl

set_option maxHeartbeats 4000000 in
set_option maxRecDepth 100000 in
theorem name6_any (n : Int) (w : World) (h : In64 n) :
    Calls Tryz.prog 30 #[.int .i64 n] w fun e w' => e = .returned (.string (Sp.nameR n)) ∧ w' = w.alloc (.cells Sp.nmC 9) := by
  obtain ⟨k, hk⟩ : ∃ k : Nat, Sp.pickN n 11 = k := ⟨(Sp.pickN n 11).toNat, by have := Sp.pickN_in n 11 (by decide); omega⟩
  have hk11 : k < 11 := by have := Sp.pickN_in n 11 (by decide); omega
  have hz : (k : Int) < 11 := by omega
  have kp := Lib.hid (fun W => pick6_any n 11 W h (by decide) (by decide))
  rw [hk] at kp
  have hN := Lib.hid (Sp.nameR_at hk hk11)
  generalize Sp.nameR n = R at *
  have hC := Lib.hid (blk_new w (.cells (Sp.names11.map Value.string).toArray 9))
  have hc : (w.alloc (.cells (Sp.names11.map Value.string).toArray 9)).cell? ⟨w.heap.size, k, none⟩ = some (.string R) := (blk_cell hC.out k _ (by rw [← hN.out]; simp)).1
  clear hk hN
  have he : (Sp.names11.map Value.string).toArray = #[.string ⟨#[65]⟩, .string ⟨#[66]⟩, .string ⟨#[67]⟩, .string ⟨#[68]⟩, .string ⟨#[73]⟩, .string ⟨#[74]⟩, .string ⟨#[79, 98, 106, 101, 99, 116]⟩, .string ⟨#[84, 104, 114, 111, 119, 97, 98, 108, 101]⟩, .string ⟨#[83, 116, 114, 105, 110, 103]⟩, .string ⟨#[78, 117, 108, 108]⟩, .string ⟨#[88]⟩] := rfl
  rw [he] at hc
  clear he hC
  go_enter Tryz.func30, Tryz.ntmps30
  go_wp2_with fail
  refine (kp.out _).mono ?_
  rintro e w2 ⟨rfl, rfl⟩
  go_wp2
  go_ret
  exact ⟨rfl, rfl⟩

set_option maxHeartbeats 8000000 in
set_option maxRecDepth 100000 in
theorem sameTexts6_any (A : Option Addr) (c : Nat) (l : List ByteArray) (A2 : Option Addr) (c2 : Nat) (m : List ByteArray) (w : World) (h1 : RdL Sp.strC w A l) (h2 : RdL Sp.strC w A2 m) :
    Calls Tryz.prog 25 #[.slice A l.length c, .slice A2 m.length c2] w fun e w' => e = .returned (.bool (decide (l = m))) ∧ Below w.heap.size w w' := by
  have hl := h1.1
  have hm := h2.1
  have H1 := Lib.hid h1
  have H2 := Lib.hid h2
  clear h1 h2
  generalize hR : decide (l = m) = R at *
  have hR := Lib.hid hR
  by_cases hne : l.length = m.length
  rotate_left
  · have hb : ((l.length : Int) != (m.length : Int)) = true := by simp; omega
    have hf : R = false := by rw [← hR.out]; exact decide_eq_false (fun q => hne (by rw [q]))
    subst hf
    clear hR
    go_enter Tryz.func25, Tryz.ntmps25
    go_wp2
    go_ret
    exact ⟨rfl, Below.refl _ _⟩
  have hb : ((l.length : Int) != (m.length : Int)) = false := by simp; omega
  have hne' := Lib.hid hne
  have hl2 : (m.length : Int) = (l.length : Int) := by omega
  rw [hl2] at hb
  rw [← hne]
  clear hne hl2
  go_enter Tryz.func25, Tryz.ntmps25
  go_upto_region 4 with fail
  have hq0 : Hid (R = decide (l.drop 0 = m.drop 0)) := hR.out ▸ Lib.hid rfl
  go_loopw [5] (fun v5 wr => ∃ k : Nat, v5 = .int .i64 k ∧ k ≤ l.length ∧ Below w.heap.size w wr ∧ Hid (R = decide (l.drop k = m.drop k))) (fun v5 _ => l.length - (RowKit.intOf v5).toNat)
  case atStart => exact ⟨0, by go_num, Nat.zero_le _, Below.refl _ _, hq0⟩
  case round =>
    clear hq0 hR
    obtain ⟨k, rfl, hk, hb, hq⟩ := hrel
    by_cases hlt : k < l.length
    · have hltm : k < m.length := by have := hne'.out; omega
      obtain ⟨b, o, rfl, hr⟩ := H1.out.2 (by omega)
      obtain ⟨b', o', rfl, hr'⟩ := H2.out.2 (by omega)
      have E0 : wr.cell? ⟨b, o + k, none⟩ = some (.string l[k]) := by
        have := cell_below hb (rdL_get 1 Sp.strC_len hr hlt 0 (by decide) (v := .string l[k]) rfl)
        simpa using this
      have E1 : wr.cell? ⟨b', o' + k, none⟩ = some (.string m[k]) := by
        have := cell_below hb (rdL_get 1 Sp.strC_len hr' hltm 0 (by decide) (v := .string m[k]) rfl)
        simpa using this
      have hzk : (k : Int) < (l.length : Int) := by omega
      have hzm : (k : Int) < (m.length : Int) := by omega
      have hz0 : (0 : Int) ≤ (k : Int) := by omega
      have hbd := hb.drew
      have hstep := hq.out
      rw [List.drop_eq_getElem_cons hlt, List.drop_eq_getElem_cons hltm] at hstep
      clear hr hr' hq
      generalize l[k] = x at *
      generalize m[k] = y at *
      by_cases hxy : x = y
      · subst hxy
        have hs2 := Lib.hid (show R = decide (l.drop (k + 1) = m.drop (k + 1)) by rw [hstep]; simp)
        have hxx : (x.toList != x.toList) = false := by simp
        clear hstep
        go_wp2
        go_region
        all_goals
          go_wp2
          go_roundw
          case rel => exact ⟨k + 1, by go_num, by omega, hbd, hs2⟩
          case measure => simp [RowKit.intOf]; omega
      · have hf : R = false := by rw [hstep]; exact decide_eq_false (fun q => hxy (by injection q))
        have hxx : (x.toList == y.toList) = false := by rw [bytes_eqb]; simp [hxy]
        subst hf
        clear hstep
        go_wp2
        go_region
        all_goals
          go_wp2
          go_ret
          exact ⟨rfl, hbd⟩
    · obtain rfl : k = l.length := by omega
      have hzk : ¬ (l.length : Int) < (l.length : Int) := by omega
      have ht : R = true := by
        rw [hq.out, List.drop_eq_nil_of_le (Nat.le_refl _), List.drop_eq_nil_of_le (by have := hne'.out; omega)]; rfl
      subst ht
      clear hq
      go_wp2
      go_ret
      exact ⟨rfl, hb⟩

set_option maxHeartbeats 4000000 in
set_option maxRecDepth 100000 in
theorem class6_any (n : ByteArray) (w : World) :
    Calls Tryz.prog 27 #[.string n] w fun e w' => e = .returned (Sp.tyV (0, n)) ∧ Below w.heap.size w w' := by
  have hf := Lib.hid (blk_new w (.cells #[.int .i64 0, .string n] 25))
  have hb := Lib.hid ((Below.refl w.heap.size w).alloc (Nat.le_refl _) (.cells #[.int .i64 0, .string n] 25))
  go_enter Tryz.func27, Tryz.ntmps27
  go_wp2
  (try simp only [Exit.inBlock, Exit.then])
  refine bodyPost_ret (results_c rfl _ _ _ rfl (ty_load _ _ 0 (blk_cell hf.out 0 _ rfl).1 (blk_cell hf.out 1 _ rfl).1)) rfl ?_
  exact ⟨rfl, hb.out⟩
namespace Sp
def tyL (t : Ty) : List Value := [.int .i64 t.1, .string t.2]
theorem tyL_len (t : Ty) : (tyL t).length = 2 := rfl
theorem tyL_one (x : Ty) : ∀ u ∈ tyL x, u.oneCell' = true := by
  intro u hu
  simp [tyL] at hu
  rcases hu with rfl | rfl <;> rfl
end Sp
/-- One thing more behind a row of one's own: a literal of one, laid just ahead, is appended. -/
theorem app_1 {α : Type} {enc : α → List Value} {size bytes : Nat} {t e ty : TypeId} {i : TypeInfo} {z : Value} (ht : Tryz.prog.underlying t = some (.slice e)) (hi : Tryz.prog.info? e = some i) (hz : i.zero = some z) (hsz : i.size = size) (hby : i.bytes = bytes) (hzs : z.cells.size = size) (h0 : 0 < size)
    (henc : ∀ x, (enc x).length = size) (h1 : ∀ x, ∀ u ∈ enc x, u.oneCell' = true) (hb : bytes ≤ 1000) (W : World) (B : Nat) (A : Option Addr) (c : Nat) (acc : List α) (x : α)
    (h : W.ownsRow B e size (.slice A acc.length c) acc.length (acc.flatMap enc)) (hl : acc.length ≤ 1000000) (hB : B ≤ W.heap.size) :
    ∃ A' c' w5, (Builtin.append_ #[t, t] ty #[.slice A acc.length c, .slice (some ⟨W.heap.size, 0, none⟩) 1 1]).run Tryz.prog (W.alloc (.cells (enc x).toArray e)) = .ok (.slice A' (acc ++ [x]).length c') w5 ∧ w5.ownsRow B e size (.slice A' (acc ++ [x]).length c') (acc ++ [x]).length ((acc ++ [x]).flatMap enc) ∧ Keeps (fun i => (Value.slice A acc.length c).ownBlock = some i) W w5 := by
  have hO := own_lit (l := [x]) henc (C := (enc x).toArray) (by simp) (blk_new W (.cells (enc x).toArray e)) (Nat.le_refl _) (by simp)
  obtain ⟨_, hrd, _⟩ := own_rdL henc h0 hO
  obtain ⟨A', c', w5, r1, r2, r3⟩ := app_rdL (ty := ty) ht hi hz hsz hby hzs h0 henc h1 hb (W.alloc (.cells (enc x).toArray e)) B A c acc (some ⟨W.heap.size, 0, none⟩) 1 [x] (h.alloc _) hrd (by simp; omega) (by simp; omega)
  exact ⟨A', c', w5, r1, r2, ((Keeps.refl _ W).alloc _).trans r3⟩
theorem app_ty {ty : TypeId} (W : World) (B : Nat) (A : Option Addr) (c : Nat) (acc : List Sp.Ty) (x : Sp.Ty) (h : W.ownsRow B 25 2 (.slice A acc.length c) acc.length (acc.flatMap Sp.tyL)) (hl : acc.length ≤ 1000000) (hB : B ≤ W.heap.size) :
    ∃ A' c' w5, (Builtin.append_ #[36, 36] ty #[.slice A acc.length c, .slice (some ⟨W.heap.size, 0, none⟩) 1 1]).run Tryz.prog (W.alloc (.cells #[.int .i64 x.1, .string x.2] 25)) = .ok (.slice A' (acc ++ [x]).length c') w5 ∧ w5.ownsRow B 25 2 (.slice A' (acc ++ [x]).length c') (acc ++ [x]).length ((acc ++ [x]).flatMap Sp.tyL) ∧ Keeps (fun i => (Value.slice A acc.length c).ownBlock = some i) W w5 := by
  obtain ⟨i0, hi, hz0, hzi1, hzi2⟩ := info_parts infoTy
  exact app_1 Tryz.underlying36 hi hz0 hzi1 hzi2 rfl (by decide) Sp.tyL_len Sp.tyL_one (by decide) W B A c acc x h hl hB
/-- Rows that lie at B or behind it. -/
theorem Keeps.own_below {W w5 w0 : World} {e : TypeId} {size n : Nat} {v : Value} {xs : List Value} (h : W.ownsRow w0.heap.size e size v n xs) (hk : Keeps (fun i => v.ownBlock = some i) W w5) (hb : Below w0.heap.size w0 W) : Below w0.heap.size w0 w5 :=
  (Keeps.of_below (S := fun _ => False) hb).then hk (fun i q => .inr (own_base h i q)) |>.below (Nat.le_refl _) (fun i q => q.elim)

end Go.Proofs.YtfjplmbknegidaaGreatDoor
end
