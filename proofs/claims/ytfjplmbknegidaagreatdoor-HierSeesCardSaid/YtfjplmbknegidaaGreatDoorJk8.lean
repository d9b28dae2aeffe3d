/-
  Texts of the proof, joined: each says at its head what it proves.
-/
import Derived.Test.YtfjplmbknegidaaGreatDoorJk7
section
/-
  Walks of chapter 3's tagged, Name, bare, interface_, and the reference's.
-/
set_option linter.unusedVariables false
set_option linter.unusedSimpArgs false
namespace Go.Proofs.YtfjplmbknegidaaGreatDoor
open Go.RowKit Go.Lib

namespace Sp
theorem get_at (p : List Cn) (k : Nat) (h : k < p.length) : get p ((k : Int) + 1) = some p[k] := by
  unfold get
  rw [if_pos (by omega), show ((k : Int) + 1 - 1).toNat = k by omega, List.getElem?_eq_getElem h]
theorem get_low (p : List Cn) (i : Int) (h : ¬ 1 ≤ i) : get p i = none := by unfold get; rw [if_neg h]
theorem get_high (p : List Cn) (i : Int) (h : (p.length : Int) < i) : get p i = none := by
  unfold get
  split
  · rw [List.getElem?_eq_none]
    omega
  · rfl
theorem get_cases (p : List Cn) (i : Int) : (¬ 1 ≤ i ∧ get p i = none) ∨ (1 ≤ i ∧ (p.length : Int) < i ∧ get p i = none) ∨ ∃ (k : Nat) (h : k < p.length), i = (k : Int) + 1 ∧ get p i = some p[k] := by
  by_cases h1 : 1 ≤ i
  · by_cases h2 : (p.length : Int) < i
    · exact .inr (.inl ⟨h1, h2, get_high p i h2⟩)
    · obtain ⟨k, rfl⟩ : ∃ k : Nat, i = (k : Int) + 1 := ⟨(i - 1).toNat, by omega⟩
      exact .inr (.inr ⟨k, by omega, rfl, get_at p k (by omega)⟩)
  · exact .inl ⟨h1, get_low p i h1⟩
end Sp

/-- The cells of a constant. -/
theorem cn_cells {w : World} {b o : Nat} {p : List Sp.Cn} (hr : w.rangeAt b o (p.flatMap Sp.cnC)) {k : Nat} (hk : k < p.length) :
    w.cell? ⟨b, o + k * 6, none⟩ = some (.int .i64 p[k].tag) ∧ w.cell? ⟨b, o + k * 6 + 1, none⟩ = some (.string p[k].text) ∧ w.cell? ⟨b, o + k * 6 + 2, none⟩ = some (.int .i64 p[k].n) ∧ w.cell? ⟨b, o + k * 6 + 3, none⟩ = some (.int .i64 p[k].a) ∧ w.cell? ⟨b, o + k * 6 + 4, none⟩ = some (.int .i64 p[k].b) ∧ w.cell? ⟨b, o + k * 6 + 5, none⟩ = some (.int .i64 p[k].c) :=
  ⟨rdL_get 6 Sp.cnC_len hr hk 0 (by decide) rfl, rdL_get 6 Sp.cnC_len hr hk 1 (by decide) rfl, rdL_get 6 Sp.cnC_len hr hk 2 (by decide) rfl, rdL_get 6 Sp.cnC_len hr hk 3 (by decide) rfl, rdL_get 6 Sp.cnC_len hr hk 4 (by decide) rfl, rdL_get 6 Sp.cnC_len hr hk 5 (by decide) rfl⟩

set_option maxHeartbeats 4000000 in
set_option maxRecDepth 100000 in
theorem tagged_any (q : Sp.At) (F : FlP) (i tag : Int) (w : World) (hr : RdF w q F) (hi : -9223372036854775808 ≤ i ∧ i ≤ 9223372036854775807) :
    Calls Tryz.prog 82 #[.agg (flC q F), .int .i64 i, .int .i64 tag] w fun e w' => e = .returned (.bool (Sp.taggedS F.pool i tag)) ∧ Below w.heap.size w w' := by
  have hl := hr.pool.1
  have HP := Lib.hid hr.pool.2
  clear hr
  have HE := Lib.hid (show Sp.taggedS F.pool i tag = _ by rw [Sp.taggedS])
  generalize Sp.taggedS F.pool i tag = R at HE ⊢
  unfold flC
  rcases Sp.get_cases F.pool i with ⟨h1, h2⟩ | ⟨h1, h2, h3⟩ | ⟨k, hk, rfl, h3⟩
  · have hR : R = false := by rw [HE.out, h2]
    subst hR
    clear HE h2
    go_enter Tryz.func82, Tryz.ntmps82
    go_wp2
    go_ret
    exact ⟨by simp, by (repeat (first | with_reducible assumption | with_reducible exact Below.refl _ _ | (with_reducible refine Below.setCell ?_ (by first | exact Nat.le_refl _ | omega | (simp; done) | (simp; omega)) _) | (with_reducible refine Below.alloc ?_ (by first | exact Nat.le_refl _ | omega | (simp; done) | (simp; omega)) _) | (with_reducible refine Below.drew ?_)))⟩
  · have hR : R = false := by rw [HE.out, h3]
    subst hR
    have h4 : ¬ i ≤ (F.pool.length : Int) := by omega
    clear HE h3
    go_enter Tryz.func82, Tryz.ntmps82
    go_wp2
    go_ret
    exact ⟨by simp, by (repeat (first | with_reducible assumption | with_reducible exact Below.refl _ _ | (with_reducible refine Below.setCell ?_ (by first | exact Nat.le_refl _ | omega | (simp; done) | (simp; omega)) _) | (with_reducible refine Below.alloc ?_ (by first | exact Nat.le_refl _ | omega | (simp; done) | (simp; omega)) _) | (with_reducible refine Below.drew ?_)))⟩
  · obtain ⟨b, o, hA, hrg⟩ := HP.out (by omega)
    obtain ⟨c0, c1, c2, c3, c4, c5⟩ := cn_cells hrg hk
    have hb := World.block_lt_of_cell? _ _ c0
    have hR : R = decide (F.pool[k].tag = tag) := by rw [HE.out, h3]
    have h1 : (1 : Int) ≤ (k : Int) + 1 := by omega
    have h2 : (k : Int) + 1 ≤ (F.pool.length : Int) := by omega
    have h5 : (k : Int) < (F.pool.length : Int) := by omega
    have h6 : (k : Int) + 1 - 1 = (k : Int) := by omega
    subst hR
    clear HE h3 hrg c1 c2 c3 c4 c5
    rw [hA]
    generalize F.pool[k].tag = t at *
    go_enter Tryz.func82, Tryz.ntmps82
    go_wp2
    go_ret
    have hbe : (t == tag) = decide (t = tag) := by rw [Bool.eq_iff_iff]; simp
    exact ⟨by simp [hbe], by (repeat (first | with_reducible assumption | with_reducible exact Below.refl _ _ | (with_reducible refine Below.setCell ?_ (by first | exact Nat.le_refl _ | omega | (simp; done) | (simp; omega)) _) | (with_reducible refine Below.alloc ?_ (by first | exact Nat.le_refl _ | omega | (simp; done) | (simp; omega)) _) | (with_reducible refine Below.drew ?_)))⟩

set_option maxHeartbeats 4000000 in
set_option maxRecDepth 100000 in
theorem cname_any (q : Sp.At) (F : FlP) (i : Int) (w : World) (hr : RdF w q F) (hi : -9223372036854775808 ≤ i ∧ i ≤ 9223372036854775807) :
    Calls Tryz.prog 83 #[.agg (flC q F), .int .i64 i] w fun e w' => e = .returned (.tuple #[.string (Sp.cnameS F.pool i).1, .bool (Sp.cnameS F.pool i).2]) ∧ Below w.heap.size w w' := by
  have hl := hr.pool.1
  have HP := Lib.hid hr.pool.2
  have HE := Lib.hid (show Sp.cnameS F.pool i = _ by rw [Sp.cnameS])
  have HT := Lib.hid (show Sp.taggedS F.pool i 1 = _ by rw [Sp.taggedS])
  have k1 := Lib.hid (fun W hr => tagged_any q F i 1 W hr hi)
  have hr0 := Lib.hid hr
  clear hr
  generalize Sp.cnameS F.pool i = R at HE ⊢
  generalize Sp.taggedS F.pool i 1 = T at HT k1
  unfold flC at k1 ⊢
  have hB := (Below.refl w.heap.size w).alloc (Nat.le_refl _) (.cells #[.slice q.A F.pool.length q.c, .int .i64 F.flags, .int .i64 F.this, .int .i64 F.super, .slice q.I F.ifaces.length q.d, .slice q.X F.fields.length q.e, .slice q.Y F.methods.length q.g] 63)
  have hK := Lib.hid (blk_new w (.cells #[.slice q.A F.pool.length q.c, .int .i64 F.flags, .int .i64 F.this, .int .i64 F.super, .slice q.I F.ifaces.length q.d, .slice q.X F.fields.length q.e, .slice q.Y F.methods.length q.g] 63))
  go_enter Tryz.func83, Tryz.ntmps83
  go_wp2_with fail
  refine (k1.out _ (rdF_below hr0.out hB)).mono ?_
  rintro e w1 ⟨rfl, hb1⟩
  have K1 := Lib.hid (blk_below hK.out hb1)
  have B1 := below_then hB (by simp) hb1
  clear hK hb1 k1
  have c0 := (blk_cell K1.out 0 (.slice q.A F.pool.length q.c) rfl).1
  have hfail : T = false → R = (⟨#[]⟩, false) := by
    intro hT
    rw [HE.out]
    have := HT.out
    rw [hT] at this
    cases hg : Sp.get F.pool i with
    | none => rfl
    | some x =>
      rw [hg] at this
      simp only at this ⊢
      rw [if_neg]
      intro q
      rw [decide_eq_true q] at this
      cases this
  cases T with
  | false =>
    have hR := hfail rfl
    subst hR
    clear HE HT hfail
    go_wp2
    go_ret2
    exact ⟨rfl, B1⟩
  | true =>
    clear hfail
    rcases Sp.get_cases F.pool i with ⟨h1, h2⟩ | ⟨h1, h2, h3⟩ | ⟨k, hk, rfl, h3⟩
    · have := HT.out; rw [h2] at this; cases this
    · have := HT.out; rw [h3] at this; cases this
    · have ht : F.pool[k].tag = 1 := by have := HT.out; rw [h3] at this; simpa using this.symm
      have hR : R = (F.pool[k].text, true) := by rw [HE.out, h3]; simp only; rw [if_pos ht]
      obtain ⟨b, o, hA, hrg⟩ := HP.out (by omega)
      obtain ⟨d0, d1, d2, d3, d4, d5⟩ := cn_cells hrg hk
      have e1 := B1.cell (World.block_lt_of_cell? _ _ d1) |>.trans d1
      have h5 : (k : Int) < (F.pool.length : Int) := by omega
      have h6 : (k : Int) + 1 - 1 = (k : Int) := by omega
      clear HE HT h3 hrg d0 d1 d2 d3 d4 d5 ht
      rw [hA] at c0
      generalize F.pool[k].text = t at *
      subst hR
      go_wp2
      go_ret2
      exact ⟨rfl, B1⟩

set_option maxHeartbeats 4000000 in
set_option maxRecDepth 100000 in
theorem bare_any (m : Sp.Mp) (w : World) (hl : m.1.hs.length ≤ 9223372036854775807) :
    Calls Tryz.prog 128 #[Sp.mbV m] w fun e w' => e = .returned (.bool (decide (m.1.stack = 0) && decide (m.1.locals = 0) && decide (m.1.code.size = 0) && decide (m.1.hs.length = 0))) ∧ Below w.heap.size w w' := by
  obtain ⟨⟨fl, nm, ds, st, lc, cd, hs⟩, A, c⟩ := m
  unfold Sp.mbV
  simp only [] at hl ⊢
  by_cases h1 : st = 0
  · by_cases h2 : lc = 0
    · by_cases h3 : cd.size = 0
      · obtain rfl := str_empty cd h3
        subst h1 h2
        by_cases h4 : hs.length = 0
        · have h4b : (hs.length : Int) = 0 := by omega
          go_enter Tryz.func128, Tryz.ntmps128
          go_wp2
          go_ret
          exact ⟨by first | (simp [h4]; done) | (simp [h4]; rfl), by (repeat (first | with_reducible assumption | with_reducible exact Below.refl _ _ | (with_reducible refine Below.setCell ?_ (by first | exact Nat.le_refl _ | omega | (simp; done) | (simp; omega)) _) | (with_reducible refine Below.alloc ?_ (by first | exact Nat.le_refl _ | omega | (simp; done) | (simp; omega)) _) | (with_reducible refine Below.drew ?_)))⟩
        · have h4b : ((hs.length : Int) == 0) = false := by rw [beq_eq_false_iff_ne]; omega
          go_enter Tryz.func128, Tryz.ntmps128
          go_wp2
          go_ret
          exact ⟨by first | (simp [h4]; done) | (simp [h4]; rfl), by (repeat (first | with_reducible assumption | with_reducible exact Below.refl _ _ | (with_reducible refine Below.setCell ?_ (by first | exact Nat.le_refl _ | omega | (simp; done) | (simp; omega)) _) | (with_reducible refine Below.alloc ?_ (by first | exact Nat.le_refl _ | omega | (simp; done) | (simp; omega)) _) | (with_reducible refine Below.drew ?_)))⟩
      · have hne : (cd.toList == []) = false := by
          rw [Bool.eq_false_iff]
          intro r
          have := (bytes_beq_iff cd ⟨#[]⟩).1 (by simpa using r)
          rw [this] at h3
          exact h3 rfl
        subst h1 h2
        go_enter Tryz.func128, Tryz.ntmps128
        go_wp2
        go_ret
        exact ⟨by first | (simp [h3]; done) | (simp [h3]; rfl), by (repeat (first | with_reducible assumption | with_reducible exact Below.refl _ _ | (with_reducible refine Below.setCell ?_ (by first | exact Nat.le_refl _ | omega | (simp; done) | (simp; omega)) _) | (with_reducible refine Below.alloc ?_ (by first | exact Nat.le_refl _ | omega | (simp; done) | (simp; omega)) _) | (with_reducible refine Below.drew ?_)))⟩
    · have hb : (lc == 0) = false := by rw [beq_eq_false_iff_ne]; exact h2
      subst h1
      go_enter Tryz.func128, Tryz.ntmps128
      go_wp2
      go_ret
      exact ⟨by simp [h2], by (repeat (first | with_reducible assumption | with_reducible exact Below.refl _ _ | (with_reducible refine Below.setCell ?_ (by first | exact Nat.le_refl _ | omega | (simp; done) | (simp; omega)) _) | (with_reducible refine Below.alloc ?_ (by first | exact Nat.le_refl _ | omega | (simp; done) | (simp; omega)) _) | (with_reducible refine Below.drew ?_)))⟩
  · have hb : (st == 0) = false := by rw [beq_eq_false_iff_ne]; exact h1
    go_enter Tryz.func128, Tryz.ntmps128
    go_wp2
    go_ret
    exact ⟨by simp [h1], by (repeat (first | with_reducible assumption | with_reducible exact Below.refl _ _ | (with_reducible refine Below.setCell ?_ (by first | exact Nat.le_refl _ | omega | (simp; done) | (simp; omega)) _) | (with_reducible refine Below.alloc ?_ (by first | exact Nat.le_refl _ | omega | (simp; done) | (simp; omega)) _) | (with_reducible refine Below.drew ?_)))⟩
end Go.Proofs.YtfjplmbknegidaaGreatDoor
end
section
/-
  Walks of chapter 3's lean, interface_, described, link, constant.
-/
set_option linter.unusedVariables false
set_option linter.unusedSimpArgs false
namespace Go.Proofs.YtfjplmbknegidaaGreatDoor
open Go.RowKit Go.Lib

namespace Sp
def leanS (c : Cn) : Bool :=
  decide (1 ≤ c.tag) && decide (c.tag ≤ 7) && (decide (c.tag = 1) || decide (c.text.size = 0)) && (decide (c.tag = 2) || decide (c.n = 0)) && (decide (3 ≤ c.tag) || decide (c.a = 0)) && (decide (c.tag = 5) || decide (c.tag = 6) || (decide (c.b = 0) && decide (c.c = 0)))
def descS (s : ByteArray) (method : Bool) : Int := if method = true then (methodS s).2 else (fieldS s).2
def linkS (p : List Cn) (name desc : Int) (method : Bool) : Int :=
  if (cnameS p name).2 = false ∨ (cnameS p desc).2 = false then 7
  else if nameS (cnameS p name).1 = false then 8
  else descS (cnameS p desc).1 method
theorem size_zero (s : ByteArray) : (s.size = 0) = (s = ⟨#[]⟩) := by
  apply propext
  constructor
  · exact str_empty s
  · intro h; rw [h]; rfl
end Sp

set_option maxHeartbeats 8000000 in
set_option maxRecDepth 100000 in
theorem lean_any (c : Sp.Cn) (w : World) :
    Calls Tryz.prog 123 #[Sp.cnV c] w fun e w' => e = .returned (.bool (Sp.leanS c)) ∧ Below w.heap.size w w' := by
  obtain ⟨t, s, n, a, b, c⟩ := c
  unfold Sp.cnV
  simp only []
  have HS := Lib.hid (fun q : s.toList == [] => (bytes_beq_iff s ⟨#[]⟩).1 (by simpa using q))
  have HS2 := Lib.hid (Sp.size_zero s)
  by_cases h1 : t = 1
  · subst h1
    have HE := Lib.hid (show Sp.leanS ⟨1, s, n, a, b, c⟩ = (decide (n = 0) && decide (a = 0) && decide (b = 0) && decide (c = 0)) by simp [Sp.leanS, Bool.and_assoc])
    generalize Sp.leanS ⟨1, s, n, a, b, c⟩ = R at HE ⊢
    go_enter Tryz.func123, Tryz.ntmps123
    go_wp2
    all_goals (go_ret; exact ⟨by rw [HE.out]; simp [*], by (repeat (first | with_reducible assumption | with_reducible exact Below.refl _ _ | (with_reducible refine Below.setCell ?_ (by first | exact Nat.le_refl _ | omega | (simp; done) | (simp; omega)) _) | (with_reducible refine Below.alloc ?_ (by first | exact Nat.le_refl _ | omega | (simp; done) | (simp; omega)) _) | (with_reducible refine Below.drew ?_)))⟩)
  by_cases h2 : t = 2
  · subst h2
    have HE := Lib.hid (show Sp.leanS ⟨2, s, n, a, b, c⟩ = (decide (s.size = 0) && decide (a = 0) && decide (b = 0) && decide (c = 0)) by simp [Sp.leanS, Bool.and_assoc])
    generalize Sp.leanS ⟨2, s, n, a, b, c⟩ = R at HE ⊢
    by_cases hs : s.size = 0
    · obtain rfl := str_empty s hs
      go_enter Tryz.func123, Tryz.ntmps123
      go_wp2
      all_goals (go_ret; exact ⟨by rw [HE.out, decide_eq_true hs]; simp [*], by (repeat (first | with_reducible assumption | with_reducible exact Below.refl _ _ | (with_reducible refine Below.setCell ?_ (by first | exact Nat.le_refl _ | omega | (simp; done) | (simp; omega)) _) | (with_reducible refine Below.alloc ?_ (by first | exact Nat.le_refl _ | omega | (simp; done) | (simp; omega)) _) | (with_reducible refine Below.drew ?_)))⟩)
    · have hne : (s.toList == []) = false := by rw [Bool.eq_false_iff]; intro r; have := (bytes_beq_iff s ⟨#[]⟩).1 (by simpa using r); rw [this] at hs; exact hs rfl
      go_enter Tryz.func123, Tryz.ntmps123
      go_wp2
      all_goals (go_ret; exact ⟨by rw [HE.out, decide_eq_false hs]; simp [*], by (repeat (first | with_reducible assumption | with_reducible exact Below.refl _ _ | (with_reducible refine Below.setCell ?_ (by first | exact Nat.le_refl _ | omega | (simp; done) | (simp; omega)) _) | (with_reducible refine Below.alloc ?_ (by first | exact Nat.le_refl _ | omega | (simp; done) | (simp; omega)) _) | (with_reducible refine Below.drew ?_)))⟩)
  by_cases h3 : t = 3
  · subst h3
    have HE := Lib.hid (show Sp.leanS ⟨3, s, n, a, b, c⟩ = (decide (s.size = 0) && decide (n = 0) && decide (b = 0) && decide (c = 0)) by simp [Sp.leanS, Bool.and_assoc])
    generalize Sp.leanS ⟨3, s, n, a, b, c⟩ = R at HE ⊢
    by_cases hs : s.size = 0
    · obtain rfl := str_empty s hs
      go_enter Tryz.func123, Tryz.ntmps123
      go_wp2
      all_goals (go_ret; exact ⟨by rw [HE.out, decide_eq_true hs]; simp [*], by (repeat (first | with_reducible assumption | with_reducible exact Below.refl _ _ | (with_reducible refine Below.setCell ?_ (by first | exact Nat.le_refl _ | omega | (simp; done) | (simp; omega)) _) | (with_reducible refine Below.alloc ?_ (by first | exact Nat.le_refl _ | omega | (simp; done) | (simp; omega)) _) | (with_reducible refine Below.drew ?_)))⟩)
    · have hne : (s.toList == []) = false := by rw [Bool.eq_false_iff]; intro r; have := (bytes_beq_iff s ⟨#[]⟩).1 (by simpa using r); rw [this] at hs; exact hs rfl
      go_enter Tryz.func123, Tryz.ntmps123
      go_wp2
      all_goals (go_ret; exact ⟨by rw [HE.out, decide_eq_false hs]; simp [*], by (repeat (first | with_reducible assumption | with_reducible exact Below.refl _ _ | (with_reducible refine Below.setCell ?_ (by first | exact Nat.le_refl _ | omega | (simp; done) | (simp; omega)) _) | (with_reducible refine Below.alloc ?_ (by first | exact Nat.le_refl _ | omega | (simp; done) | (simp; omega)) _) | (with_reducible refine Below.drew ?_)))⟩)
  by_cases h4 : t = 4
  · subst h4
    have HE := Lib.hid (show Sp.leanS ⟨4, s, n, a, b, c⟩ = (decide (s.size = 0) && decide (n = 0) && decide (b = 0) && decide (c = 0)) by simp [Sp.leanS, Bool.and_assoc])
    generalize Sp.leanS ⟨4, s, n, a, b, c⟩ = R at HE ⊢
    by_cases hs : s.size = 0
    · obtain rfl := str_empty s hs
      go_enter Tryz.func123, Tryz.ntmps123
      go_wp2
      all_goals (go_ret; exact ⟨by rw [HE.out, decide_eq_true hs]; simp [*], by (repeat (first | with_reducible assumption | with_reducible exact Below.refl _ _ | (with_reducible refine Below.setCell ?_ (by first | exact Nat.le_refl _ | omega | (simp; done) | (simp; omega)) _) | (with_reducible refine Below.alloc ?_ (by first | exact Nat.le_refl _ | omega | (simp; done) | (simp; omega)) _) | (with_reducible refine Below.drew ?_)))⟩)
    · have hne : (s.toList == []) = false := by rw [Bool.eq_false_iff]; intro r; have := (bytes_beq_iff s ⟨#[]⟩).1 (by simpa using r); rw [this] at hs; exact hs rfl
      go_enter Tryz.func123, Tryz.ntmps123
      go_wp2
      all_goals (go_ret; exact ⟨by rw [HE.out, decide_eq_false hs]; simp [*], by (repeat (first | with_reducible assumption | with_reducible exact Below.refl _ _ | (with_reducible refine Below.setCell ?_ (by first | exact Nat.le_refl _ | omega | (simp; done) | (simp; omega)) _) | (with_reducible refine Below.alloc ?_ (by first | exact Nat.le_refl _ | omega | (simp; done) | (simp; omega)) _) | (with_reducible refine Below.drew ?_)))⟩)
  by_cases h7 : t = 7
  · subst h7
    have HE := Lib.hid (show Sp.leanS ⟨7, s, n, a, b, c⟩ = (decide (s.size = 0) && decide (n = 0) && decide (b = 0) && decide (c = 0)) by simp [Sp.leanS, Bool.and_assoc])
    generalize Sp.leanS ⟨7, s, n, a, b, c⟩ = R at HE ⊢
    by_cases hs : s.size = 0
    · obtain rfl := str_empty s hs
      go_enter Tryz.func123, Tryz.ntmps123
      go_wp2
      all_goals (go_ret; exact ⟨by rw [HE.out, decide_eq_true hs]; simp [*], by (repeat (first | with_reducible assumption | with_reducible exact Below.refl _ _ | (with_reducible refine Below.setCell ?_ (by first | exact Nat.le_refl _ | omega | (simp; done) | (simp; omega)) _) | (with_reducible refine Below.alloc ?_ (by first | exact Nat.le_refl _ | omega | (simp; done) | (simp; omega)) _) | (with_reducible refine Below.drew ?_)))⟩)
    · have hne : (s.toList == []) = false := by rw [Bool.eq_false_iff]; intro r; have := (bytes_beq_iff s ⟨#[]⟩).1 (by simpa using r); rw [this] at hs; exact hs rfl
      go_enter Tryz.func123, Tryz.ntmps123
      go_wp2
      all_goals (go_ret; exact ⟨by rw [HE.out, decide_eq_false hs]; simp [*], by (repeat (first | with_reducible assumption | with_reducible exact Below.refl _ _ | (with_reducible refine Below.setCell ?_ (by first | exact Nat.le_refl _ | omega | (simp; done) | (simp; omega)) _) | (with_reducible refine Below.alloc ?_ (by first | exact Nat.le_refl _ | omega | (simp; done) | (simp; omega)) _) | (with_reducible refine Below.drew ?_)))⟩)
  by_cases h5 : t = 5
  · subst h5
    have HE := Lib.hid (show Sp.leanS ⟨5, s, n, a, b, c⟩ = (decide (s.size = 0) && decide (n = 0)) by simp [Sp.leanS, Bool.and_assoc])
    generalize Sp.leanS ⟨5, s, n, a, b, c⟩ = R at HE ⊢
    by_cases hs : s.size = 0
    · obtain rfl := str_empty s hs
      go_enter Tryz.func123, Tryz.ntmps123
      go_wp2
      all_goals (go_ret; exact ⟨by rw [HE.out, decide_eq_true hs]; simp [*], by (repeat (first | with_reducible assumption | with_reducible exact Below.refl _ _ | (with_reducible refine Below.setCell ?_ (by first | exact Nat.le_refl _ | omega | (simp; done) | (simp; omega)) _) | (with_reducible refine Below.alloc ?_ (by first | exact Nat.le_refl _ | omega | (simp; done) | (simp; omega)) _) | (with_reducible refine Below.drew ?_)))⟩)
    · have hne : (s.toList == []) = false := by rw [Bool.eq_false_iff]; intro r; have := (bytes_beq_iff s ⟨#[]⟩).1 (by simpa using r); rw [this] at hs; exact hs rfl
      go_enter Tryz.func123, Tryz.ntmps123
      go_wp2
      all_goals (go_ret; exact ⟨by rw [HE.out, decide_eq_false hs]; simp [*], by (repeat (first | with_reducible assumption | with_reducible exact Below.refl _ _ | (with_reducible refine Below.setCell ?_ (by first | exact Nat.le_refl _ | omega | (simp; done) | (simp; omega)) _) | (with_reducible refine Below.alloc ?_ (by first | exact Nat.le_refl _ | omega | (simp; done) | (simp; omega)) _) | (with_reducible refine Below.drew ?_)))⟩)
  by_cases h6 : t = 6
  · subst h6
    have HE := Lib.hid (show Sp.leanS ⟨6, s, n, a, b, c⟩ = (decide (s.size = 0) && decide (n = 0)) by simp [Sp.leanS, Bool.and_assoc])
    generalize Sp.leanS ⟨6, s, n, a, b, c⟩ = R at HE ⊢
    by_cases hs : s.size = 0
    · obtain rfl := str_empty s hs
      go_enter Tryz.func123, Tryz.ntmps123
      go_wp2
      all_goals (go_ret; exact ⟨by rw [HE.out, decide_eq_true hs]; simp [*], by (repeat (first | with_reducible assumption | with_reducible exact Below.refl _ _ | (with_reducible refine Below.setCell ?_ (by first | exact Nat.le_refl _ | omega | (simp; done) | (simp; omega)) _) | (with_reducible refine Below.alloc ?_ (by first | exact Nat.le_refl _ | omega | (simp; done) | (simp; omega)) _) | (with_reducible refine Below.drew ?_)))⟩)
    · have hne : (s.toList == []) = false := by rw [Bool.eq_false_iff]; intro r; have := (bytes_beq_iff s ⟨#[]⟩).1 (by simpa using r); rw [this] at hs; exact hs rfl
      go_enter Tryz.func123, Tryz.ntmps123
      go_wp2
      all_goals (go_ret; exact ⟨by rw [HE.out, decide_eq_false hs]; simp [*], by (repeat (first | with_reducible assumption | with_reducible exact Below.refl _ _ | (with_reducible refine Below.setCell ?_ (by first | exact Nat.le_refl _ | omega | (simp; done) | (simp; omega)) _) | (with_reducible refine Below.alloc ?_ (by first | exact Nat.le_refl _ | omega | (simp; done) | (simp; omega)) _) | (with_reducible refine Below.drew ?_)))⟩)
  have HE : Sp.leanS ⟨t, s, n, a, b, c⟩ = false := by
    have q : (decide (1 ≤ t) && decide (t ≤ 7)) = false := by
      by_cases q1 : 1 ≤ t
      · have q2 : ¬ t ≤ 7 := by omega
        simp [q2]
      · simp [q1]
    simp only [Sp.leanS, q, Bool.false_and]
  have b1 : (t == 1) = false := by rw [beq_eq_false_iff_ne]; exact h1
  have b2 : (t == 2) = false := by rw [beq_eq_false_iff_ne]; exact h2
  have b3 : (t == 3) = false := by rw [beq_eq_false_iff_ne]; exact h3
  have b4 : (t == 4) = false := by rw [beq_eq_false_iff_ne]; exact h4
  have b5 : (t == 5) = false := by rw [beq_eq_false_iff_ne]; exact h5
  have b6 : (t == 6) = false := by rw [beq_eq_false_iff_ne]; exact h6
  have b7 : (t == 7) = false := by rw [beq_eq_false_iff_ne]; exact h7
  rw [HE]
  clear HE h1 h2 h3 h4 h5 h6 h7
  go_enter Tryz.func123, Tryz.ntmps123
  go_wp2
  go_ret
  exact ⟨by simp, by (repeat (first | with_reducible assumption | with_reducible exact Below.refl _ _ | (with_reducible refine Below.setCell ?_ (by first | exact Nat.le_refl _ | omega | (simp; done) | (simp; omega)) _) | (with_reducible refine Below.alloc ?_ (by first | exact Nat.le_refl _ | omega | (simp; done) | (simp; omega)) _) | (with_reducible refine Below.drew ?_)))⟩

set_option maxHeartbeats 4000000 in
set_option maxRecDepth 100000 in
theorem described_any (s : ByteArray) (m : Bool) (w : World) (hs : s.size ≤ 1099511627776) (hT : Tabs w) :
    Calls Tryz.prog 126 #[.string s, .bool m] w fun e w' => e = .returned (.int .i64 (Sp.descS s m)) ∧ Below w.heap.size w w' := by
  have k1 := Lib.hid (fun W hT => method_any s W hs hT)
  have k2 := Lib.hid (fun W hT => field_any s W hs hT)
  have HE := Lib.hid (show Sp.descS s m = _ by rw [Sp.descS])
  have T0 := Lib.hid hT
  clear hT
  generalize Sp.descS s m = R at HE ⊢
  generalize Sp.methodS s = M at *
  generalize Sp.fieldS s = F at *
  obtain ⟨⟨ml, ⟨md, mn⟩, mv⟩, me⟩ := M
  obtain ⟨⟨fd, fn⟩, fe⟩ := F
  unfold Sp.sigV at k1
  unfold Sp.tyV at k2
  simp only [] at k1 k2
  cases m with
  | true =>
    have hR : R = me := HE.out
    subst hR
    clear HE
    go_enter Tryz.func126, Tryz.ntmps126
    go_wp2_with fail
    refine (k1.out _ T0.out).mono ?_
    rintro e w1 ⟨A1, c1, rfl, _, hb⟩
    have hbz := hb.size
    go_wp2
    go_ret
    exact ⟨rfl, by (repeat (first | with_reducible assumption | with_reducible exact Below.refl _ _ | (with_reducible refine Below.setCell ?_ (by first | exact Nat.le_refl _ | omega | (simp; done) | (simp; omega)) _) | (with_reducible refine Below.alloc ?_ (by first | exact Nat.le_refl _ | omega | (simp; done) | (simp; omega)) _) | (with_reducible refine Below.drew ?_)))⟩
  | false =>
    have hR : R = fe := HE.out
    subst hR
    clear HE
    go_enter Tryz.func126, Tryz.ntmps126
    go_wp2_with fail
    refine (k2.out _ T0.out).mono ?_
    rintro e w1 ⟨rfl, hb⟩
    have hbz := hb.size
    go_wp2
    go_ret
    exact ⟨rfl, by (repeat (first | with_reducible assumption | with_reducible exact Below.refl _ _ | (with_reducible refine Below.setCell ?_ (by first | exact Nat.le_refl _ | omega | (simp; done) | (simp; omega)) _) | (with_reducible refine Below.alloc ?_ (by first | exact Nat.le_refl _ | omega | (simp; done) | (simp; omega)) _) | (with_reducible refine Below.drew ?_)))⟩

/-- A class in a box of its own, kept behind what only grew. -/
theorem flC_box {w : World} {b : Nat} {q : Sp.At} {F : FlP} {T : TypeId} (h : w.heap[b]? = some (.cells (flC q F) T (0, 0))) :
    w.cell? ⟨b, 0, none⟩ = some (.slice q.A F.pool.length q.c) ∧ w.cell? ⟨b, 1, none⟩ = some (.int .i64 F.flags) ∧ w.cell? ⟨b, 2, none⟩ = some (.int .i64 F.this) ∧ w.cell? ⟨b, 3, none⟩ = some (.int .i64 F.super) ∧ w.cell? ⟨b, 4, none⟩ = some (.slice q.I F.ifaces.length q.d) ∧ w.cell? ⟨b, 5, none⟩ = some (.slice q.X F.fields.length q.e) ∧ w.cell? ⟨b, 6, none⟩ = some (.slice q.Y F.methods.length q.g) :=
  ⟨(blk_cell h 0 _ rfl).1, (blk_cell h 1 _ rfl).1, (blk_cell h 2 _ rfl).1, (blk_cell h 3 _ rfl).1, (blk_cell h 4 _ rfl).1, (blk_cell h 5 _ rfl).1, (blk_cell h 6 _ rfl).1⟩

set_option maxHeartbeats 4000000 in
set_option maxRecDepth 100000 in
theorem link_any (q : Sp.At) (F : FlP) (i j : Int) (m : Bool) (w : World) (hr : RdF w q F) (hi : -9223372036854775808 ≤ i ∧ i ≤ 9223372036854775807) (hj : -9223372036854775808 ≤ j ∧ j ≤ 9223372036854775807)
    (hz : ∀ c ∈ F.pool, c.text.size ≤ 1099511627776) (hT : Tabs w) :
    Calls Tryz.prog 125 #[.agg (flC q F), .int .i64 i, .int .i64 j, .bool m] w fun e w' => e = .returned (.int .i64 (Sp.linkS F.pool i j m)) ∧ Below w.heap.size w w' := by
  have T0 := Lib.hid hT
  clear hT
  have hr0 := Lib.hid hr
  clear hr
  have hsz : ∀ i, (Sp.cnameS F.pool i).1.size ≤ 1099511627776 := by
    intro i
    unfold Sp.cnameS Sp.get
    split
    · rename_i c hc
      split at hc
      · split
        · exact hz _ (List.mem_of_getElem? hc)
        · exact Nat.zero_le _
      · cases hc
    · exact Nat.zero_le _
  have hs1 := hsz i
  have hs2 := hsz j
  clear hsz hz
  have k1 := Lib.hid (fun W hr => cname_any q F i W hr hi)
  have k2 := Lib.hid (fun W hr => cname_any q F j W hr hj)
  have k3 := Lib.hid (fun W hT => name_any (Sp.cnameS F.pool i).1 W (by omega) hT)
  have k4 := Lib.hid (fun W hT => described_any (Sp.cnameS F.pool j).1 m W (by omega) hT)
  have HE := Lib.hid (show Sp.linkS F.pool i j m = _ by rw [Sp.linkS])
  generalize Sp.linkS F.pool i j m = R at HE ⊢
  generalize Sp.cnameS F.pool i = N at *
  generalize Sp.cnameS F.pool j = D at *
  obtain ⟨n1, n2⟩ := N
  obtain ⟨d1, d2⟩ := D
  simp only [] at k1 k2 k3 k4 hs1 hs2
  have HE' := Lib.hid HE.out
  clear HE
  simp only [] at HE'
  generalize Sp.nameS n1 = nb at *
  generalize Sp.descS d1 m = db at *
  have hB := (Below.refl w.heap.size w).alloc (Nat.le_refl _) (.cells (flC q F) 63)
  have hK := Lib.hid (blk_new w (.cells (flC q F) 63))
  unfold flC at k1 k2
  have hfl : flC q F = #[.slice q.A F.pool.length q.c, .int .i64 F.flags, .int .i64 F.this, .int .i64 F.super, .slice q.I F.ifaces.length q.d, .slice q.X F.fields.length q.e, .slice q.Y F.methods.length q.g] := rfl
  rw [hfl] at hB ⊢
  clear hfl
  go_enter Tryz.func125, Tryz.ntmps125
  go_wp2_with fail
  refine (k1.out _ (rdF_below hr0.out hB)).mono ?_
  rintro e w1 ⟨rfl, hb1⟩
  have K1 := Lib.hid (blk_below hK.out hb1)
  have B1 := below_then hB (by simp) hb1
  have S1 := B1.size
  clear hK hB hb1 k1
  obtain ⟨c0, c1, c2, c3, c4, c5, c6⟩ := flC_box K1.out
  go_wp2_with fail
  refine (k2.out _ (rdF_below hr0.out B1)).mono ?_
  rintro e w2 ⟨rfl, hb2⟩
  have B2 := below_then B1 S1 hb2
  have S2 := B2.size
  clear K1 B1 S1 hb2 k2 c0 c1 c2 c3 c4 c5 c6
  cases n2 with
  | false =>
    have hR : R = 7 := by rw [HE'.out, if_pos (.inl rfl)]
    subst hR
    clear HE'
    go_wp2
    go_ret
    exact ⟨rfl, B2⟩
  | true =>
    cases d2 with
    | false =>
      have hR : R = 7 := by rw [HE'.out, if_pos (.inr rfl)]
      subst hR
      clear HE'
      go_wp2
      go_ret
      exact ⟨rfl, B2⟩
    | true =>
      have HF := Lib.hid (show R = if nb = false then 8 else db by rw [HE'.out, if_neg (by rintro (h | h) <;> cases h)])
      clear HE'
      go_wp2_with fail
      refine (k3.out _ (fun W h => Tabs.below (T0.out.below B2) h)).mono ?_
      rintro e w3 ⟨rfl, hb3⟩
      have B3 := below_then B2 S2 hb3
      have S3 := B3.size
      clear B2 S2 hb3 k3
      cases nb with
      | false =>
        have hR : R = 8 := HF.out
        subst hR
        clear HF
        go_wp2
        go_ret
        exact ⟨rfl, B3⟩
      | true =>
        have hR : R = db := HF.out
        subst hR
        clear HF
        go_wp2_with fail
        refine (k4.out _ (T0.out.below B3)).mono ?_
        rintro e w4 ⟨rfl, hb4⟩
        go_wp2
        go_ret
        exact ⟨rfl, below_then B3 S3 hb4⟩
end Go.Proofs.YtfjplmbknegidaaGreatDoor
end
