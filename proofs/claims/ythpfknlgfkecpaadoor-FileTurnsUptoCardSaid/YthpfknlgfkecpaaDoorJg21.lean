/-
  Texts of the proof, joined: each says at its head what it proves.
-/
import Derived.Test.YthpfknlgfkecpaaDoorJg20
import Derived.Test.YthpfknlgfkecpaaDoorJFileNamesx2
section
/-
  Plain: the numbers of a class whose parts are right lie in the bytes that they are written in.
-/
set_option linter.unusedVariables false
set_option linter.unusedSimpArgs false
namespace Go.Proofs.YthpfknlgfkecpaaDoor.Sp
open Go.Lib

def In16 (i : Int) : Prop := 0 ≤ i ∧ i ≤ 65535
def In8 (i : Int) : Prop := 0 ≤ i ∧ i ≤ 255
theorem tagged_range {p : List Cn} {i t : Int} (h : taggedS p i t = true) : 1 ≤ i ∧ i ≤ (p.length : Int) := by
  obtain ⟨k, hk, h1, _, _⟩ := tag_at p i t h
  omega
theorem link_range {p : List Cn} {a b : Int} {m : Bool} (h : linkS p a b m = 0) : (1 ≤ a ∧ a ≤ (p.length : Int)) ∧ (1 ≤ b ∧ b ≤ (p.length : Int)) := by
  unfold linkS at h
  split at h
  · cases h
  · rename_i q
    simp only [not_or, Bool.not_eq_false, cname_tag] at q
    exact ⟨tagged_range q.1, tagged_range q.2⟩
theorem const_range {p : List Cn} {c : Cn} (hp : p.length ≤ 2000) (h : constS p c = 0) : (1 ≤ c.tag ∧ c.tag ≤ 7) ∧ (c.tag ≠ 1 → c.tag ≠ 2 → In16 c.a) ∧ (c.tag = 5 ∨ c.tag = 6 → In16 c.b ∧ In16 c.c) := by
  unfold constS at h
  split at h
  · cases h
  rename_i hl
  have ht := lean_tag c (by simpa using hl)
  refine ⟨by omega, fun h1 h2 => ?_, fun h5 => ?_⟩
  · rw [if_neg h1] at h
    by_cases h5 : c.tag = 5 ∨ c.tag = 6
    · rw [if_pos h5] at h
      unfold linkedS at h
      split at h
      · cases h
      · rename_i q
        have := tagged_range (show taggedS p c.a 4 = true by simpa using q)
        unfold In16; omega
    · rw [if_neg h5, if_pos (by omega)] at h
      unfold namedS at h
      split at h
      · cases h
      · rename_i q
        have := tagged_range (show taggedS p c.a 1 = true by rw [← cname_tag]; simpa using q)
        unfold In16; omega
  · rw [if_neg (by omega), if_pos h5] at h
    unfold linkedS at h
    split at h
    · cases h
    · have := link_range h
      unfold In16; omega
theorem pool_range {p : List Cn} : ∀ {l : List Cn}, poolF p l = 0 → ∀ c ∈ l, constS p c = 0
  | [], _, c, hc => by cases hc
  | x :: l, h, c, hc => by
    rw [poolF] at h
    by_cases hx : constS p x = 0
    · rw [if_neg (by simp [hx])] at h
      rcases List.mem_cons.1 hc with rfl | hc
      · exact hx
      · exact pool_range h c hc
    · rw [if_pos hx] at h; exact absurd h hx
theorem head_range {p : List Cn} {f t s : Int} {ifs : List Int} (hp : p.length ≤ 2000) (h : headS p f t s ifs = 0) : In8 f ∧ In16 t ∧ In16 s ∧ ifs.length ≤ 255 ∧ ∀ i ∈ ifs, In16 i := by
  unfold headS at h
  split at h
  · cases h
  rename_i h1
  split at h
  · cases h
  rename_i h2
  split at h
  · cases h
  rename_i h3
  split at h
  · rename_i h4
    simp only [not_or, not_and, Bool.not_eq_false] at h2
    refine ⟨by unfold In8; omega, ?_, ?_, by omega, fun i hi => ?_⟩
    · have := tagged_range h2.1
      unfold In16; omega
    · by_cases hs : s = 0
      · unfold In16; omega
      · have := tagged_range (h2.2 hs)
        unfold In16; omega
    · have := tagged_range (List.all_eq_true.1 h4 i hi)
      unfold In16; omega
  · cases h
theorem fieldM_range {p : List Cn} {ff : Int} {m : Mb} (hp : p.length ≤ 2000) (h : fieldM p ff m = 0) : In8 m.flags ∧ In16 m.name ∧ In16 m.desc := by
  unfold fieldM at h
  split at h
  · cases h
  rename_i h1
  split at h
  · rename_i h2
    have := link_range h2
    unfold In8 In16; omega
  · rename_i h2
    exact absurd h h2
theorem hand_range {p : List Cn} {n : Int} (hp : p.length ≤ 2000) (hn : n ≤ 4096) : ∀ {l : List Hn}, handS p n l = 0 → ∀ h ∈ l, In16 h.fr ∧ In16 h.til ∧ In16 h.at_ ∧ In16 h.cls
  | [], _, h, hh => by cases hh
  | x :: l, h, y, hy => by
    rw [handS] at h
    split at h
    · cases h
    rename_i h1
    split at h
    · cases h
    rename_i h2
    rcases List.mem_cons.1 hy with rfl | hy
    · have hc : In16 y.cls := by
        by_cases hz : y.cls = 0
        · unfold In16; omega
        · have := tagged_range (show taggedS p y.cls 4 = true by
            cases q : taggedS p y.cls 4 with
            | true => rfl
            | false => exact absurd ⟨hz, q⟩ h2)
          unfold In16; omega
      refine ⟨?_, ?_, ?_, hc⟩ <;> unfold In16 <;> omega
    · exact hand_range hp hn h y hy
/-- A method's numbers. -/
def RngM (m : Mb) : Prop := In8 m.flags ∧ In16 m.name ∧ In16 m.desc ∧ (m.flags ≠ 2 → In8 m.stack ∧ In8 m.locals ∧ m.code.size ≤ 4096 ∧ m.hs.length ≤ 32 ∧ ∀ h ∈ m.hs, In16 h.fr ∧ In16 h.til ∧ In16 h.at_ ∧ In16 h.cls)
theorem methodM_range {p : List Cn} {ff : Int} {m : Mb} (hp : p.length ≤ 2000) (h : methodM p ff m = 0) : RngM m := by
  unfold methodM at h
  split at h
  · cases h
  rename_i h1
  split at h
  · rename_i h2
    exact absurd h h2
  rename_i h2
  have hl := link_range (show linkS p m.name m.desc true = 0 by simpa using h2)
  split at h
  · cases h
  refine ⟨by unfold In8; omega, by unfold In16; omega, by unfold In16; omega, fun h5 => ?_⟩
  rw [if_neg h5] at h
  unfold codedS at h
  split at h
  · cases h
  rename_i k1
  split at h
  · cases h
  split at h
  · cases h
  rename_i k3
  split at h
  · cases h
  rename_i k4
  exact ⟨by unfold In8; omega, by unfold In8; omega, by omega, by omega, hand_range hp (by omega) h⟩
/-- The numbers of a class. -/
structure Rng (F : Fl) : Prop where
  npool : F.pool.length ≤ 2000
  pool : ∀ c ∈ F.pool, (1 ≤ c.tag ∧ c.tag ≤ 7) ∧ (c.tag ≠ 1 → c.tag ≠ 2 → In16 c.a) ∧ (c.tag = 5 ∨ c.tag = 6 → In16 c.b ∧ In16 c.c)
  flags : In8 F.flags
  this : In16 F.this
  super : In16 F.super
  nifs : F.ifaces.length ≤ 255
  ifs : ∀ i ∈ F.ifaces, In16 i
  nfields : F.fields.length ≤ 200
  fields : ∀ m ∈ F.fields, In8 m.flags ∧ In16 m.name ∧ In16 m.desc
  nmethods : F.methods.length ≤ 200
  methods : ∀ m ∈ F.methods, RngM m
theorem rng_of {F : Fl} (h : partsS F = 0) : Rng F := by
  unfold partsS at h
  split at h
  · cases h
  rename_i h1
  split at h
  · rename_i q; exact absurd h q
  rename_i h2
  split at h
  · rename_i q; exact absurd h q
  rename_i h3
  split at h
  · rename_i q; exact absurd h q
  rename_i h4
  have hp : F.pool.length ≤ 2000 := by omega
  have h2' : poolF F.pool F.pool = 0 := by simpa using h2
  have h3' : headS F.pool F.flags F.this F.super F.ifaces = 0 := by simpa using h3
  have h4' : memS (fieldM F.pool F.flags) (keyM F.pool false) F.fields = 0 := by simpa using h4
  unfold memS at h4' h
  split at h4'
  · cases h4'
  split at h
  · cases h
  rename_i n1 n2
  obtain ⟨r1, r2, r3, r4, r5⟩ := head_range hp h3'
  exact ⟨hp, fun c hc => const_range hp (pool_range h2' c hc), r1, r2, r3, r4, r5, by omega, fun m hm => fieldM_range hp ((memF_all h4').1 m hm), by omega, fun m hm => methodM_range hp ((memF_all h).1 m hm)⟩
end Go.Proofs.YthpfknlgfkecpaaDoor.Sp
end
