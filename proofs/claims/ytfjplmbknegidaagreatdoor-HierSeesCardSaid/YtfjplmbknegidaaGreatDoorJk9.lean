/-
  Texts of the proof, joined: each says at its head what it proves.
-/
import Derived.Test.YtfjplmbknegidaaGreatDoorJk8
import Derived.Test.YtfjplmbknegidaaGreatDoorJk7
section
/-
  Walk of chapter 3's constant. (Printed by gen_const.py.)
-/
set_option linter.unusedVariables false
set_option linter.unusedSimpArgs false
namespace Go.Proofs.YtfjplmbknegidaaGreatDoor
open Go.RowKit Go.Lib

namespace Sp
def textS (s : ByteArray) : Int := if (encS s).2 = 0 then (if 2000 < (runes s).length then 2 else 0) else (encS s).2
def namedS (p : List Cn) (tag a : Int) : Int :=
  if (cnameS p a).2 = false then 7 else if tag = 4 ∧ nameS (cnameS p a).1 = false then 8 else if tag = 7 then descS (cnameS p a).1 false else 0
def linkedS (p : List Cn) (tag a b c : Int) : Int := if taggedS p a 4 = false then 7 else linkS p b c (decide (tag = 6))
def constS (p : List Cn) (c : Cn) : Int :=
  if leanS c = false then 7
  else if c.tag = 1 then textS c.text
  else if c.tag = 5 ∨ c.tag = 6 then linkedS p c.tag c.a c.b c.c
  else if c.tag = 3 ∨ c.tag = 4 ∨ c.tag = 7 then namedS p c.tag c.a
  else 0
theorem lean_tag (c : Cn) (h : leanS c = true) : c.tag = 1 ∨ c.tag = 2 ∨ c.tag = 3 ∨ c.tag = 4 ∨ c.tag = 5 ∨ c.tag = 6 ∨ c.tag = 7 := by
  simp only [leanS, Bool.and_eq_true, decide_eq_true_eq] at h
  omega
theorem cname_size (p : List Cn) (hz : ∀ c ∈ p, c.text.size ≤ 1099511627776) (i : Int) : (cnameS p i).1.size ≤ 1099511627776 := by
  unfold cnameS get
  split
  · rename_i c hc
    split at hc
    · split
      · exact hz _ (List.mem_of_getElem? hc)
      · exact Nat.zero_le _
    · cases hc
  · exact Nat.zero_le _
end Sp
def In64 (i : Int) : Prop := -9223372036854775808 ≤ i ∧ i ≤ 9223372036854775807

set_option maxHeartbeats 8000000 in
set_option maxRecDepth 100000 in
theorem constant_any (q : Sp.At) (F : FlP) (c : Sp.Cn) (w : World) (hr : RdF w q F) (ha : In64 c.a) (hb : In64 c.b) (hc : In64 c.c) (hs : c.text.size ≤ 1099511627776)
    (hz : ∀ c ∈ F.pool, c.text.size ≤ 1099511627776) (hT : Tabs w) :
    Calls Tryz.prog 102 #[.agg (flC q F), Sp.cnV c] w fun e w' => e = .returned (.int .i64 (Sp.constS F.pool c)) ∧ Below w.heap.size w w' := by
  have T0 := Lib.hid hT
  clear hT
  have hr0 := Lib.hid hr
  clear hr
  have hsz := Sp.cname_size F.pool hz
  have htag := Sp.lean_tag c
  have k1 := Lib.hid (fun W => lean_any c W)
  have k2 := Lib.hid (fun W hT => encode_any c.text W (by omega) hT)
  have k3 := Lib.hid (fun W => len_any c.text W (by omega))
  have k4 := Lib.hid (fun W hr => tagged_any q F c.a 4 W hr ha)
  have k5 := Lib.hid (fun W hr m hT => link_any q F c.b c.c m W hr hb hc hz hT)
  have k6 := Lib.hid (fun W hr => cname_any q F c.a W hr ha)
  have k7 := Lib.hid (fun W hT => name_any (Sp.cnameS F.pool c.a).1 W (by have := hsz c.a; omega) hT)
  have k8 := Lib.hid (fun W hT => described_any (Sp.cnameS F.pool c.a).1 false W (hsz c.a) hT)
  have HE := Lib.hid (show Sp.constS F.pool c = _ by rw [Sp.constS, Sp.textS, Sp.namedS, Sp.linkedS])
  clear hsz hz ha hb hc hs
  generalize Sp.constS F.pool c = R at HE ⊢
  obtain ⟨t, s, n, a, b, c⟩ := c
  simp only [] at k1 k2 k3 k4 k5 k6 k7 k8 htag
  have HE' := Lib.hid HE.out
  clear HE
  simp only [] at HE'
  generalize Sp.leanS ⟨t, s, n, a, b, c⟩ = L at *
  generalize Sp.encS s = E at *
  generalize Sp.runes s = rn at *
  generalize Sp.taggedS F.pool a 4 = T at *
  generalize Sp.linkS F.pool b c = K at *
  generalize Sp.cnameS F.pool a = N at *
  obtain ⟨es, ee⟩ := E
  obtain ⟨n1, n2⟩ := N
  simp only [] at k2 k6 k7 k8 HE'
  generalize Sp.nameS n1 = nb at *
  generalize Sp.descS n1 false = db at *
  have hB := ((Below.refl w.heap.size w).alloc (Nat.le_refl _) (.cells (flC q F) 63)).alloc (by simp) (.cells #[.int .i64 t, .string s, .int .i64 n, .int .i64 a, .int .i64 b, .int .i64 c] 93)
  have hK := Lib.hid (blk_old (o := .cells #[.int .i64 t, .string s, .int .i64 n, .int .i64 a, .int .i64 b, .int .i64 c] 93) (blk_new w (.cells (flC q F) 63)))
  have hL := Lib.hid (blk_new (w.alloc (.cells (flC q F) 63)) (.cells #[.int .i64 t, .string s, .int .i64 n, .int .i64 a, .int .i64 b, .int .i64 c] 93))
  rw [show (w.alloc (.cells (flC q F) 63)).heap.size = w.heap.size + 1 by simp] at hL
  have hS : w.heap.size ≤ ((w.alloc (.cells (flC q F) 63)).alloc (.cells #[.int .i64 t, .string s, .int .i64 n, .int .i64 a, .int .i64 b, .int .i64 c] 93)).heap.size := hB.size
  unfold flC at k4 k5 k6
  unfold Sp.cnV at k1 ⊢
  simp only [] at k1 ⊢
  have hfl : flC q F = #[.slice q.A F.pool.length q.c, .int .i64 F.flags, .int .i64 F.this, .int .i64 F.super, .slice q.I F.ifaces.length q.d, .slice q.X F.fields.length q.e, .slice q.Y F.methods.length q.g] := rfl
  rw [hfl] at hB hS ⊢
  clear hfl
  go_enter Tryz.func102, Tryz.ntmps102
  go_wp2_with fail
  refine (k1.out _).mono ?_
  rintro e w1 ⟨rfl, hb1⟩
  have K1 := Lib.hid (blk_below hK.out hb1)
  have L1 := Lib.hid (blk_below hL.out hb1)
  have B1 := below_then hB hS hb1
  have S1 := B1.size
  clear hK hL hB hS hb1 k1
  cases L with
  | false =>
    have hR : R = 7 := by rw [HE'.out, if_pos rfl]
    subst hR
    clear HE' htag
    go_wp2
    go_ret
    exact ⟨rfl, B1⟩
  | true =>
    have HF := Lib.hid HE'.out
    rw [if_neg (by decide)] at HF
    clear HE'
    obtain ⟨c0, c1, c2, c3, c4, c5, c6⟩ := flC_box K1.out
    have d0 := (blk_cell L1.out 0 (.int .i64 t) rfl).1
    have d1 := (blk_cell L1.out 1 (.string s) rfl).1
    have d3 := (blk_cell L1.out 3 (.int .i64 a) rfl).1
    have d4 := (blk_cell L1.out 4 (.int .i64 b) rfl).1
    have d5 := (blk_cell L1.out 5 (.int .i64 c) rfl).1
    rcases htag rfl with rfl | rfl | rfl | rfl | rfl | rfl | rfl
    · clear htag
      have HG := Lib.hid (show R = if ee = 0 then (if 2000 < rn.length then 2 else 0) else ee by rw [HF.out, if_pos rfl])
      clear HF
      have HF := HG
      clear HG
      go_wp2_with fail
      refine (k2.out _ (T0.out.below B1)).mono ?_
      rintro e w2 ⟨rfl, hb2⟩
      have B2 := below_then B1 S1 hb2
      have S2 := B2.size
      have K2 := Lib.hid (blk_below K1.out hb2)
      have L2 := Lib.hid (blk_below L1.out hb2)
      clear hb2 B1 S1 K1 L1 c0 c1 c2 c3 c4 c5 c6 d0 d1 d3 d4 d5 k2
      obtain ⟨c0, c1, c2, c3, c4, c5, c6⟩ := flC_box K2.out
      have d0 := (blk_cell L2.out 0 (.int .i64 1) rfl).1
      have d1 := (blk_cell L2.out 1 (.string s) rfl).1
      have d3 := (blk_cell L2.out 3 (.int .i64 a) rfl).1
      have d4 := (blk_cell L2.out 4 (.int .i64 b) rfl).1
      have d5 := (blk_cell L2.out 5 (.int .i64 c) rfl).1
      by_cases he : ee = 0
      · subst he
        go_wp2_with fail
        refine (k3.out _).mono ?_
        rintro e w3 ⟨rfl, hb3⟩
        have B3 := below_then B2 S2 hb3
        have S3 := B3.size
        have K3 := Lib.hid (blk_below K2.out hb3)
        have L3 := Lib.hid (blk_below L2.out hb3)
        clear hb3 B2 S2 K2 L2 c0 c1 c2 c3 c4 c5 c6 d0 d1 d3 d4 d5 k3
        obtain ⟨c0, c1, c2, c3, c4, c5, c6⟩ := flC_box K3.out
        have d0 := (blk_cell L3.out 0 (.int .i64 1) rfl).1
        have d1 := (blk_cell L3.out 1 (.string s) rfl).1
        have d3 := (blk_cell L3.out 3 (.int .i64 a) rfl).1
        have d4 := (blk_cell L3.out 4 (.int .i64 b) rfl).1
        have d5 := (blk_cell L3.out 5 (.int .i64 c) rfl).1
        by_cases h2 : 2000 < rn.length
        · have hz : (2000 : Int) < (rn.length : Int) := by omega
          have hR : R = 2 := by rw [HF.out]; simp [h2]
          subst hR
          clear HF
          go_wp2
          go_ret
          exact ⟨rfl, B3⟩
        · have hz : ¬ (2000 : Int) < (rn.length : Int) := by omega
          have hR : R = 0 := by rw [HF.out]; simp [h2]
          subst hR
          clear HF
          go_wp2
          go_ret
          exact ⟨rfl, B3⟩
      · have heb : (ee == 0) = false := by rw [beq_eq_false_iff_ne]; exact he
        have hR : R = ee := by rw [HF.out, if_neg he]
        subst hR
        clear HF
        go_wp2
        go_ret
        exact ⟨rfl, B2⟩
    · clear htag
      have hR : R = 0 := by rw [HF.out, if_neg (by decide), if_neg (by decide), if_neg (by decide)]
      subst hR
      clear HF
      go_wp2
      go_ret
      exact ⟨rfl, B1⟩
    · clear htag
      have HG := Lib.hid (show R = if n2 = false then 7 else 0 by rw [HF.out, if_neg (by decide), if_neg (by decide), if_pos (by decide)]; cases n2 <;> cases nb <;> rfl)
      clear HF
      have HF := HG
      clear HG
      go_wp2_with fail
      refine (k6.out _ (rdF_below hr0.out B1)).mono ?_
      rintro e w2 ⟨rfl, hb2⟩
      have B2 := below_then B1 S1 hb2
      have S2 := B2.size
      have K2 := Lib.hid (blk_below K1.out hb2)
      have L2 := Lib.hid (blk_below L1.out hb2)
      clear hb2 B1 S1 K1 L1 c0 c1 c2 c3 c4 c5 c6 d0 d1 d3 d4 d5 k6
      obtain ⟨c0, c1, c2, c3, c4, c5, c6⟩ := flC_box K2.out
      have d0 := (blk_cell L2.out 0 (.int .i64 3) rfl).1
      have d1 := (blk_cell L2.out 1 (.string s) rfl).1
      have d3 := (blk_cell L2.out 3 (.int .i64 a) rfl).1
      have d4 := (blk_cell L2.out 4 (.int .i64 b) rfl).1
      have d5 := (blk_cell L2.out 5 (.int .i64 c) rfl).1
      cases n2 with
      | false =>
        have hR : R = 7 := by rw [HF.out, if_pos rfl]
        subst hR
        clear HF
        go_wp2
        go_ret
        exact ⟨rfl, B2⟩
      | true =>
        have hR : R = 0 := by rw [HF.out, if_neg (by decide)]
        subst hR
        clear HF
        go_wp2
        go_ret
        exact ⟨rfl, B2⟩
    · clear htag
      have HG := Lib.hid (show R = if n2 = false then 7 else if nb = false then 8 else 0 by rw [HF.out, if_neg (by decide), if_neg (by decide), if_pos (by decide)]; cases n2 <;> cases nb <;> rfl)
      clear HF
      have HF := HG
      clear HG
      go_wp2_with fail
      refine (k6.out _ (rdF_below hr0.out B1)).mono ?_
      rintro e w2 ⟨rfl, hb2⟩
      have B2 := below_then B1 S1 hb2
      have S2 := B2.size
      have K2 := Lib.hid (blk_below K1.out hb2)
      have L2 := Lib.hid (blk_below L1.out hb2)
      clear hb2 B1 S1 K1 L1 c0 c1 c2 c3 c4 c5 c6 d0 d1 d3 d4 d5 k6
      obtain ⟨c0, c1, c2, c3, c4, c5, c6⟩ := flC_box K2.out
      have d0 := (blk_cell L2.out 0 (.int .i64 4) rfl).1
      have d1 := (blk_cell L2.out 1 (.string s) rfl).1
      have d3 := (blk_cell L2.out 3 (.int .i64 a) rfl).1
      have d4 := (blk_cell L2.out 4 (.int .i64 b) rfl).1
      have d5 := (blk_cell L2.out 5 (.int .i64 c) rfl).1
      cases n2 with
      | false =>
        have hR : R = 7 := by rw [HF.out, if_pos rfl]
        subst hR
        clear HF
        go_wp2
        go_ret
        exact ⟨rfl, B2⟩
      | true =>
        go_wp2_with fail
        refine (k7.out _ (fun W h => Tabs.below (T0.out.below B2) h)).mono ?_
        rintro e w3 ⟨rfl, hb3⟩
        have B3 := below_then B2 S2 hb3
        have S3 := B3.size
        have K3 := Lib.hid (blk_below K2.out hb3)
        have L3 := Lib.hid (blk_below L2.out hb3)
        clear hb3 B2 S2 K2 L2 c0 c1 c2 c3 c4 c5 c6 d0 d1 d3 d4 d5 k7
        obtain ⟨c0, c1, c2, c3, c4, c5, c6⟩ := flC_box K3.out
        have d0 := (blk_cell L3.out 0 (.int .i64 4) rfl).1
        have d1 := (blk_cell L3.out 1 (.string s) rfl).1
        have d3 := (blk_cell L3.out 3 (.int .i64 a) rfl).1
        have d4 := (blk_cell L3.out 4 (.int .i64 b) rfl).1
        have d5 := (blk_cell L3.out 5 (.int .i64 c) rfl).1
        cases nb with
        | false =>
          have hR : R = 8 := by rw [HF.out, if_neg (by decide), if_pos rfl]
          subst hR
          clear HF
          go_wp2
          go_ret
          exact ⟨rfl, B3⟩
        | true =>
          have hR : R = 0 := by rw [HF.out, if_neg (by decide), if_neg (by decide)]
          subst hR
          clear HF
          go_wp2
          go_ret
          exact ⟨rfl, B3⟩
    · clear htag
      have HG := Lib.hid (show R = if T = false then 7 else K false by rw [HF.out, if_neg (by decide), if_pos (by decide)]; rfl)
      clear HF
      have HF := HG
      clear HG
      go_wp2_with fail
      refine (k4.out _ (rdF_below hr0.out B1)).mono ?_
      rintro e w2 ⟨rfl, hb2⟩
      have B2 := below_then B1 S1 hb2
      have S2 := B2.size
      have K2 := Lib.hid (blk_below K1.out hb2)
      have L2 := Lib.hid (blk_below L1.out hb2)
      clear hb2 B1 S1 K1 L1 c0 c1 c2 c3 c4 c5 c6 d0 d1 d3 d4 d5 k4
      obtain ⟨c0, c1, c2, c3, c4, c5, c6⟩ := flC_box K2.out
      have d0 := (blk_cell L2.out 0 (.int .i64 5) rfl).1
      have d1 := (blk_cell L2.out 1 (.string s) rfl).1
      have d3 := (blk_cell L2.out 3 (.int .i64 a) rfl).1
      have d4 := (blk_cell L2.out 4 (.int .i64 b) rfl).1
      have d5 := (blk_cell L2.out 5 (.int .i64 c) rfl).1
      cases T with
      | false =>
        have hR : R = 7 := by rw [HF.out, if_pos rfl]
        subst hR
        clear HF
        go_wp2
        go_ret
        exact ⟨rfl, B2⟩
      | true =>
        have k5n := Lib.hid (fun W hr hT => k5.out W hr false hT)
        clear k5
        go_wp2_with fail
        refine (k5n.out _ (rdF_below hr0.out B2) (T0.out.below B2)).mono ?_
        rintro e w3 ⟨rfl, hb3⟩
        have hR : R = K false := by rw [HF.out, if_neg (by decide)]
        subst hR
        clear HF
        go_wp2
        go_ret
        exact ⟨rfl, below_then B2 S2 hb3⟩
    · clear htag
      have HG := Lib.hid (show R = if T = false then 7 else K true by rw [HF.out, if_neg (by decide), if_pos (by decide)]; rfl)
      clear HF
      have HF := HG
      clear HG
      go_wp2_with fail
      refine (k4.out _ (rdF_below hr0.out B1)).mono ?_
      rintro e w2 ⟨rfl, hb2⟩
      have B2 := below_then B1 S1 hb2
      have S2 := B2.size
      have K2 := Lib.hid (blk_below K1.out hb2)
      have L2 := Lib.hid (blk_below L1.out hb2)
      clear hb2 B1 S1 K1 L1 c0 c1 c2 c3 c4 c5 c6 d0 d1 d3 d4 d5 k4
      obtain ⟨c0, c1, c2, c3, c4, c5, c6⟩ := flC_box K2.out
      have d0 := (blk_cell L2.out 0 (.int .i64 6) rfl).1
      have d1 := (blk_cell L2.out 1 (.string s) rfl).1
      have d3 := (blk_cell L2.out 3 (.int .i64 a) rfl).1
      have d4 := (blk_cell L2.out 4 (.int .i64 b) rfl).1
      have d5 := (blk_cell L2.out 5 (.int .i64 c) rfl).1
      cases T with
      | false =>
        have hR : R = 7 := by rw [HF.out, if_pos rfl]
        subst hR
        clear HF
        go_wp2
        go_ret
        exact ⟨rfl, B2⟩
      | true =>
        have k5n := Lib.hid (fun W hr hT => k5.out W hr true hT)
        clear k5
        go_wp2_with fail
        refine (k5n.out _ (rdF_below hr0.out B2) (T0.out.below B2)).mono ?_
        rintro e w3 ⟨rfl, hb3⟩
        have hR : R = K true := by rw [HF.out, if_neg (by decide)]
        subst hR
        clear HF
        go_wp2
        go_ret
        exact ⟨rfl, below_then B2 S2 hb3⟩
    · clear htag
      have HG := Lib.hid (show R = if n2 = false then 7 else db by rw [HF.out, if_neg (by decide), if_neg (by decide), if_pos (by decide)]; cases n2 <;> cases nb <;> rfl)
      clear HF
      have HF := HG
      clear HG
      go_wp2_with fail
      refine (k6.out _ (rdF_below hr0.out B1)).mono ?_
      rintro e w2 ⟨rfl, hb2⟩
      have B2 := below_then B1 S1 hb2
      have S2 := B2.size
      have K2 := Lib.hid (blk_below K1.out hb2)
      have L2 := Lib.hid (blk_below L1.out hb2)
      clear hb2 B1 S1 K1 L1 c0 c1 c2 c3 c4 c5 c6 d0 d1 d3 d4 d5 k6
      obtain ⟨c0, c1, c2, c3, c4, c5, c6⟩ := flC_box K2.out
      have d0 := (blk_cell L2.out 0 (.int .i64 7) rfl).1
      have d1 := (blk_cell L2.out 1 (.string s) rfl).1
      have d3 := (blk_cell L2.out 3 (.int .i64 a) rfl).1
      have d4 := (blk_cell L2.out 4 (.int .i64 b) rfl).1
      have d5 := (blk_cell L2.out 5 (.int .i64 c) rfl).1
      cases n2 with
      | false =>
        have hR : R = 7 := by rw [HF.out, if_pos rfl]
        subst hR
        clear HF
        go_wp2
        go_ret
        exact ⟨rfl, B2⟩
      | true =>
        go_wp2_with fail
        refine (k8.out _ (T0.out.below B2)).mono ?_
        rintro e w3 ⟨rfl, hb3⟩
        have hR : R = db := by rw [HF.out, if_neg (by decide)]
        subst hR
        clear HF
        go_wp2
        go_ret
        exact ⟨rfl, below_then B2 S2 hb3⟩
end Go.Proofs.YtfjplmbknegidaaGreatDoor
end
section
/-
  Walk of chapter 2's Sign.
-/
set_option linter.unusedVariables false
set_option linter.unusedSimpArgs false
namespace Go.Proofs.YtfjplmbknegidaaGreatDoor
open Go.RowKit Go.Lib

theorem blk_under {w w' : World} {Bn b : Nat} {p : Obj} (h : Below Bn w w') (hlt : b < Bn) (hp : w.heap[b]? = some p) : w'.heap[b]? = some p := (h.block b hlt).trans hp
theorem rdT_under {w w1 : World} {A : Option Addr} {l : List Sp.Ty} (h : RdT w A l) (hb : Below w.heap.size w w1) : RdT w1 A l := rdT_below h hb

end Go.Proofs.YtfjplmbknegidaaGreatDoor
end
section
/-
  Walk of the reference's Sign.
-/
set_option linter.unusedVariables false
set_option linter.unusedSimpArgs false
namespace Go.Proofs.YtfjplmbknegidaaGreatDoor
open Go.RowKit Go.Lib

end Go.Proofs.YtfjplmbknegidaaGreatDoor
end
section
/-
  Walks of the reference's Tagged, text, bare, described; of chapter 3's interface_.
-/
set_option linter.unusedVariables false
set_option linter.unusedSimpArgs false
namespace Go.Proofs.YtfjplmbknegidaaGreatDoor
open Go.RowKit Go.Lib

set_option maxHeartbeats 4000000 in
set_option maxRecDepth 100000 in
theorem refTagged_any (q : Sp.At) (F : FlP) (i tag : Int) (w : World) (hr : RdF w q F) (hi : -9223372036854775808 ≤ i ∧ i ≤ 9223372036854775807) :
    Calls Tryz.prog 72 #[.agg (flC q F), .int .i64 i, .int .i64 tag] w fun e w' => e = .returned (.bool (Sp.taggedS F.pool i tag)) ∧ Below w.heap.size w w' := by
  have hl := hr.pool.1
  have HP := Lib.hid hr.pool.2
  clear hr
  have HE := Lib.hid (show Sp.taggedS F.pool i tag = _ by rw [Sp.taggedS])
  generalize Sp.taggedS F.pool i tag = R at HE ⊢
  unfold flC
  rcases Sp.get_cases F.pool i with ⟨h1, h2⟩ | ⟨h1, h2, h3⟩ | ⟨k, hk, rfl, h3⟩
  · have hR : R = false := by rw [HE.out, h2]
    subst hR
    clear HE h2
    go_enter Tryz.func72, Tryz.ntmps72
    go_wp2
    go_ret
    exact ⟨by simp, by (repeat (first | with_reducible assumption | with_reducible exact Below.refl _ _ | (with_reducible refine Below.setCell ?_ (by first | exact Nat.le_refl _ | omega | (simp; done) | (simp; omega)) _) | (with_reducible refine Below.alloc ?_ (by first | exact Nat.le_refl _ | omega | (simp; done) | (simp; omega)) _) | (with_reducible refine Below.drew ?_)))⟩
  · have hR : R = false := by rw [HE.out, h3]
    subst hR
    have h4 : ¬ i ≤ (F.pool.length : Int) := by omega
    clear HE h3
    go_enter Tryz.func72, Tryz.ntmps72
    go_wp2
    go_ret
    exact ⟨by simp, by (repeat (first | with_reducible assumption | with_reducible exact Below.refl _ _ | (with_reducible refine Below.setCell ?_ (by first | exact Nat.le_refl _ | omega | (simp; done) | (simp; omega)) _) | (with_reducible refine Below.alloc ?_ (by first | exact Nat.le_refl _ | omega | (simp; done) | (simp; omega)) _) | (with_reducible refine Below.drew ?_)))⟩
  · obtain ⟨b, o, hA, hrg⟩ := HP.out (by omega)
    obtain ⟨c0, c1, c2, c3, c4, c5⟩ := cn_cells hrg hk
    have hb := World.block_lt_of_cell? _ _ c0
    have hR : R = decide (F.pool[k].tag = tag) := by rw [HE.out, h3]
    have h1 : (1 : Int) ≤ (k : Int) + 1 := by omega
    have h2 : (k : Int) + 1 ≤ (F.pool.length : Int) := by omega
    have h5 : (k : Int) < (F.pool.length : Int) := by omega
    have h6 : (k : Int) + 1 - 1 = (k : Int) := by omega
    subst hR
    clear HE h3 hrg c1 c2 c3 c4 c5
    rw [hA]
    generalize F.pool[k].tag = t at *
    go_enter Tryz.func72, Tryz.ntmps72
    go_wp2
    go_ret
    have hbe : (t == tag) = decide (t = tag) := by rw [Bool.eq_iff_iff]; simp
    exact ⟨by simp [hbe], by (repeat (first | with_reducible assumption | with_reducible exact Below.refl _ _ | (with_reducible refine Below.setCell ?_ (by first | exact Nat.le_refl _ | omega | (simp; done) | (simp; omega)) _) | (with_reducible refine Below.alloc ?_ (by first | exact Nat.le_refl _ | omega | (simp; done) | (simp; omega)) _) | (with_reducible refine Below.drew ?_)))⟩

set_option maxHeartbeats 4000000 in
set_option maxRecDepth 100000 in
theorem refBare_any (m : Sp.Mp) (w : World) (hl : m.1.hs.length ≤ 9223372036854775807) :
    Calls Tryz.prog 111 #[Sp.mbV m] w fun e w' => e = .returned (.bool (decide (m.1.stack = 0) && decide (m.1.locals = 0) && decide (m.1.code.size = 0) && decide (m.1.hs.length = 0))) ∧ Below w.heap.size w w' := by
  obtain ⟨⟨fl, nm, ds, st, lc, cd, hs⟩, A, c⟩ := m
  unfold Sp.mbV
  simp only [] at hl ⊢
  by_cases h1 : st = 0
  · by_cases h2 : lc = 0
    · by_cases h3 : cd.size = 0
      · obtain rfl := str_empty cd h3
        subst h1 h2
        by_cases h4 : hs.length = 0
        · have h4b : (hs.length : Int) = 0 := by omega
          go_enter Tryz.func111, Tryz.ntmps111
          go_wp2
          go_ret
          exact ⟨by first | (simp [h4]; done) | (simp [h4]; rfl), by (repeat (first | with_reducible assumption | with_reducible exact Below.refl _ _ | (with_reducible refine Below.setCell ?_ (by first | exact Nat.le_refl _ | omega | (simp; done) | (simp; omega)) _) | (with_reducible refine Below.alloc ?_ (by first | exact Nat.le_refl _ | omega | (simp; done) | (simp; omega)) _) | (with_reducible refine Below.drew ?_)))⟩
        · have h4b : ((hs.length : Int) == 0) = false := by rw [beq_eq_false_iff_ne]; omega
          go_enter Tryz.func111, Tryz.ntmps111
          go_wp2
          go_ret
          exact ⟨by first | (simp [h4]; done) | (simp [h4]; rfl), by (repeat (first | with_reducible assumption | with_reducible exact Below.refl _ _ | (with_reducible refine Below.setCell ?_ (by first | exact Nat.le_refl _ | omega | (simp; done) | (simp; omega)) _) | (with_reducible refine Below.alloc ?_ (by first | exact Nat.le_refl _ | omega | (simp; done) | (simp; omega)) _) | (with_reducible refine Below.drew ?_)))⟩
      · have hne : (cd.toList == []) = false := by
          rw [Bool.eq_false_iff]
          intro r
          have := (bytes_beq_iff cd ⟨#[]⟩).1 (by simpa using r)
          rw [this] at h3
          exact h3 rfl
        subst h1 h2
        go_enter Tryz.func111, Tryz.ntmps111
        go_wp2
        go_ret
        exact ⟨by first | (simp [h3]; done) | (simp [h3]; rfl), by (repeat (first | with_reducible assumption | with_reducible exact Below.refl _ _ | (with_reducible refine Below.setCell ?_ (by first | exact Nat.le_refl _ | omega | (simp; done) | (simp; omega)) _) | (with_reducible refine Below.alloc ?_ (by first | exact Nat.le_refl _ | omega | (simp; done) | (simp; omega)) _) | (with_reducible refine Below.drew ?_)))⟩
    · have hb : (lc == 0) = false := by rw [beq_eq_false_iff_ne]; exact h2
      subst h1
      go_enter Tryz.func111, Tryz.ntmps111
      go_wp2
      go_ret
      exact ⟨by simp [h2], by (repeat (first | with_reducible assumption | with_reducible exact Below.refl _ _ | (with_reducible refine Below.setCell ?_ (by first | exact Nat.le_refl _ | omega | (simp; done) | (simp; omega)) _) | (with_reducible refine Below.alloc ?_ (by first | exact Nat.le_refl _ | omega | (simp; done) | (simp; omega)) _) | (with_reducible refine Below.drew ?_)))⟩
  · have hb : (st == 0) = false := by rw [beq_eq_false_iff_ne]; exact h1
    go_enter Tryz.func111, Tryz.ntmps111
    go_wp2
    go_ret
    exact ⟨by simp [h1], by (repeat (first | with_reducible assumption | with_reducible exact Below.refl _ _ | (with_reducible refine Below.setCell ?_ (by first | exact Nat.le_refl _ | omega | (simp; done) | (simp; omega)) _) | (with_reducible refine Below.alloc ?_ (by first | exact Nat.le_refl _ | omega | (simp; done) | (simp; omega)) _) | (with_reducible refine Below.drew ?_)))⟩

set_option maxHeartbeats 4000000 in
set_option maxRecDepth 100000 in
theorem refDescribed_any (s : ByteArray) (m : Bool) (w : World) (hs : s.size ≤ 1099511627776) :
    Calls Tryz.prog 109 #[.string s, .bool m] w fun e w' => e = .returned (.int .i64 (Sp.descS s m)) ∧ Below w.heap.size w w' := by
  have k1 := Lib.hid (fun W => refMethod_any s W hs)
  have k2 := Lib.hid (fun W => refField_any s W hs)
  have HE := Lib.hid (show Sp.descS s m = _ by rw [Sp.descS])
  generalize Sp.descS s m = R at HE ⊢
  generalize Sp.methodS s = M at *
  generalize Sp.fieldS s = F at *
  obtain ⟨⟨ml, ⟨md, mn⟩, mv⟩, me⟩ := M
  obtain ⟨⟨fd, fn⟩, fe⟩ := F
  unfold Sp.sigV at k1
  unfold Sp.tyV at k2
  simp only [] at k1 k2
  cases m with
  | true =>
    have hR : R = me := HE.out
    subst hR
    clear HE
    go_enter Tryz.func109, Tryz.ntmps109
    go_wp2_with fail
    refine (k1.out _).mono ?_
    rintro e w1 ⟨A1, c1, rfl, _, hb⟩
    have hbz := hb.size
    go_wp2
    go_ret
    exact ⟨rfl, by (repeat (first | with_reducible assumption | with_reducible exact Below.refl _ _ | (with_reducible refine Below.setCell ?_ (by first | exact Nat.le_refl _ | omega | (simp; done) | (simp; omega)) _) | (with_reducible refine Below.alloc ?_ (by first | exact Nat.le_refl _ | omega | (simp; done) | (simp; omega)) _) | (with_reducible refine Below.drew ?_)))⟩
  | false =>
    have hR : R = fe := HE.out
    subst hR
    clear HE
    go_enter Tryz.func109, Tryz.ntmps109
    go_wp2_with fail
    refine (k2.out _).mono ?_
    rintro e w1 ⟨rfl, hb⟩
    have hbz := hb.size
    go_wp2
    go_ret
    exact ⟨rfl, by (repeat (first | with_reducible assumption | with_reducible exact Below.refl _ _ | (with_reducible refine Below.setCell ?_ (by first | exact Nat.le_refl _ | omega | (simp; done) | (simp; omega)) _) | (with_reducible refine Below.alloc ?_ (by first | exact Nat.le_refl _ | omega | (simp; done) | (simp; omega)) _) | (with_reducible refine Below.drew ?_)))⟩


set_option maxHeartbeats 4000000 in
set_option maxRecDepth 100000 in
theorem refText_any (q : Sp.At) (F : FlP) (k : Nat) (hk : k < F.pool.length) (w : World) (hr : RdF w q F) :
    Calls Tryz.prog 92 #[.agg (flC q F), .int .i64 ((k : Int) + 1)] w fun e w' => e = .returned (.string F.pool[k].text) ∧ Below w.heap.size w w' := by
  have hl := hr.pool.1
  obtain ⟨b, o, hA, hrg⟩ := hr.pool.2 (by omega)
  obtain ⟨c0, c1, c2, c3, c4, c5⟩ := cn_cells hrg hk
  have hb := World.block_lt_of_cell? _ _ c0
  have h5 : (k : Int) < (F.pool.length : Int) := by omega
  have h6 : (k : Int) + 1 - 1 = (k : Int) := by omega
  unfold flC
  rw [hA]
  clear hr hrg c0 c2 c3 c4 c5 hA
  generalize F.pool[k].text = t at *
  go_enter Tryz.func92, Tryz.ntmps92
  go_wp2
  go_ret
  exact ⟨rfl, by (repeat (first | with_reducible assumption | with_reducible exact Below.refl _ _ | (with_reducible refine Below.setCell ?_ (by first | exact Nat.le_refl _ | omega | (simp; done) | (simp; omega)) _) | (with_reducible refine Below.alloc ?_ (by first | exact Nat.le_refl _ | omega | (simp; done) | (simp; omega)) _) | (with_reducible refine Below.drew ?_)))⟩

/-- The flags of a class that may be. -/
def FlagsOk (f : Int) : Prop := f = 0 ∨ f = 2 ∨ f = 3

set_option maxHeartbeats 4000000 in
set_option maxRecDepth 100000 in
theorem interface_any (q : Sp.At) (F : FlP) (w : World) (hf : FlagsOk F.flags) :
    Calls Tryz.prog 127 #[.agg (flC q F)] w fun e w' => e = .returned (.bool (decide (F.flags = 3))) ∧ Below w.heap.size w w' := by
  unfold flC
  generalize F.flags = f at *
  rcases hf with rfl | rfl | rfl
  all_goals
    go_enter Tryz.func127, Tryz.ntmps127
    go_wp2
    go_ret
    exact ⟨by first | (simp; done) | (simp; decide +kernel), by (repeat (first | with_reducible assumption | with_reducible exact Below.refl _ _ | (with_reducible refine Below.setCell ?_ (by first | exact Nat.le_refl _ | omega | (simp; done) | (simp; omega)) _) | (with_reducible refine Below.alloc ?_ (by first | exact Nat.le_refl _ | omega | (simp; done) | (simp; omega)) _) | (with_reducible refine Below.drew ?_)))⟩
end Go.Proofs.YtfjplmbknegidaaGreatDoor
end
section
/-
  Walks of chapter 3's Find, the reference's Name and Find. (Printed by gen_find.py.)
-/
set_option linter.unusedVariables false
set_option linter.unusedSimpArgs false
namespace Go.Proofs.YtfjplmbknegidaaGreatDoor
open Go.RowKit Go.Lib

namespace Sp
def hitS (p : List Cn) (m : Mb) (name desc : ByteArray) : Bool := (cnameS p m.name).2 && (cnameS p m.desc).2 && decide ((cnameS p m.name).1 = name) && decide ((cnameS p m.desc).1 = desc)
def findF (p : List Cn) (name desc : ByteArray) : List Mb → Nat → Int
  | [], _ => -1
  | m :: l, i => if hitS p m name desc = true then (i : Int) else findF p name desc l (i + 1)
def findS (p : List Cn) (l : List Mb) (name desc : ByteArray) : Int := findF p name desc l 0
end Sp
/-- The cells of a member. -/
theorem mb_cells {w : World} {b o : Nat} {p : List Sp.Mp} (hr : w.rangeAt b o (p.flatMap Sp.mbC)) {k : Nat} (hk : k < p.length) :
    w.cell? ⟨b, o + k * 7, none⟩ = some (.int .i64 p[k].1.flags) ∧ w.cell? ⟨b, o + k * 7 + 1, none⟩ = some (.int .i64 p[k].1.name) ∧ w.cell? ⟨b, o + k * 7 + 2, none⟩ = some (.int .i64 p[k].1.desc) ∧ w.cell? ⟨b, o + k * 7 + 3, none⟩ = some (.int .i64 p[k].1.stack) ∧ w.cell? ⟨b, o + k * 7 + 4, none⟩ = some (.int .i64 p[k].1.locals) ∧ w.cell? ⟨b, o + k * 7 + 5, none⟩ = some (.string p[k].1.code) ∧ w.cell? ⟨b, o + k * 7 + 6, none⟩ = some (.slice p[k].2.1 p[k].1.hs.length p[k].2.2) :=
  ⟨rdL_get 7 Sp.mbC_len hr hk 0 (by decide) rfl, rdL_get 7 Sp.mbC_len hr hk 1 (by decide) rfl, rdL_get 7 Sp.mbC_len hr hk 2 (by decide) rfl, rdL_get 7 Sp.mbC_len hr hk 3 (by decide) rfl, rdL_get 7 Sp.mbC_len hr hk 4 (by decide) rfl, rdL_get 7 Sp.mbC_len hr hk 5 (by decide) rfl, rdL_get 7 Sp.mbC_len hr hk 6 (by decide) rfl⟩
theorem bytes_eqb (a b : ByteArray) : (a.toList == b.toList) = decide (a = b) := by
  rw [Bool.eq_iff_iff, decide_eq_true_eq]
  exact ⟨fun h => (bytes_beq_iff a b).1 (by simpa using h), fun h => by rw [h]; simp⟩


end Go.Proofs.YtfjplmbknegidaaGreatDoor
end
section
/-
  Walks of the reference's Name and Find.
-/
set_option linter.unusedVariables false
set_option linter.unusedSimpArgs false
namespace Go.Proofs.YtfjplmbknegidaaGreatDoor
open Go.RowKit Go.Lib

set_option maxHeartbeats 4000000 in
set_option maxRecDepth 100000 in
theorem refCname_any (q : Sp.At) (F : FlP) (i : Int) (w : World) (hr : RdF w q F) (hi : -9223372036854775808 ≤ i ∧ i ≤ 9223372036854775807) :
    Calls Tryz.prog 73 #[.agg (flC q F), .int .i64 i] w fun e w' => e = .returned (.tuple #[.string (Sp.cnameS F.pool i).1, .bool (Sp.cnameS F.pool i).2]) ∧ Below w.heap.size w w' := by
  have hl := hr.pool.1
  have HP := Lib.hid hr.pool.2
  have HE := Lib.hid (show Sp.cnameS F.pool i = _ by rw [Sp.cnameS])
  have HT := Lib.hid (show Sp.taggedS F.pool i 1 = _ by rw [Sp.taggedS])
  have k1 := Lib.hid (fun W hr => refTagged_any q F i 1 W hr hi)
  have hr0 := Lib.hid hr
  clear hr
  generalize Sp.cnameS F.pool i = R at HE ⊢
  generalize Sp.taggedS F.pool i 1 = T at HT k1
  unfold flC at k1 ⊢
  have hB := (Below.refl w.heap.size w).alloc (Nat.le_refl _) (.cells #[.slice q.A F.pool.length q.c, .int .i64 F.flags, .int .i64 F.this, .int .i64 F.super, .slice q.I F.ifaces.length q.d, .slice q.X F.fields.length q.e, .slice q.Y F.methods.length q.g] 63)
  have hK := Lib.hid (blk_new w (.cells #[.slice q.A F.pool.length q.c, .int .i64 F.flags, .int .i64 F.this, .int .i64 F.super, .slice q.I F.ifaces.length q.d, .slice q.X F.fields.length q.e, .slice q.Y F.methods.length q.g] 63))
  go_enter Tryz.func73, Tryz.ntmps73
  go_wp2_with fail
  refine (k1.out _ (rdF_below hr0.out hB)).mono ?_
  rintro e w1 ⟨rfl, hb1⟩
  have K1 := Lib.hid (blk_below hK.out hb1)
  have B1 := below_then hB (by simp) hb1
  clear hK hb1 k1
  have hfail : T = false → R = (⟨#[]⟩, false) := by
    intro hT
    rw [HE.out]
    have := HT.out
    rw [hT] at this
    cases hg : Sp.get F.pool i with
    | none => rfl
    | some x =>
      rw [hg] at this
      simp only at this ⊢
      rw [if_neg]
      intro q
      rw [decide_eq_true q] at this
      cases this
  cases T with
  | false =>
    have hR := hfail rfl
    subst hR
    clear HE HT hfail
    go_wp2
    go_ret2
    exact ⟨rfl, B1⟩
  | true =>
    clear hfail
    rcases Sp.get_cases F.pool i with ⟨h1, h2⟩ | ⟨h1, h2, h3⟩ | ⟨k, hk, rfl, h3⟩
    · have := HT.out; rw [h2] at this; cases this
    · have := HT.out; rw [h3] at this; cases this
    · have ht : F.pool[k].tag = 1 := by have := HT.out; rw [h3] at this; simpa using this.symm
      have hR : R = (F.pool[k].text, true) := by rw [HE.out, h3]; simp only; rw [if_pos ht]
      have k2 := Lib.hid (fun W hr => refText_any q F k hk W hr)
      have rr := Lib.hid (rdF_below hr0.out B1)
      have S1 := B1.size
      obtain ⟨c0, c1, c2, c3, c4, c5, c6⟩ := flC_box K1.out
      clear HE HT h3 ht
      generalize F.pool[k].text = t at *
      subst hR
      unfold flC at k2
      go_wp2_with fail
      refine (k2.out _ rr.out).mono ?_
      rintro e w2 ⟨rfl, hb2⟩
      go_wp2
      go_ret2
      exact ⟨rfl, below_then B1 S1 hb2⟩


end Go.Proofs.YtfjplmbknegidaaGreatDoor
end
section
/-
  Walk of the reference's named.
-/
set_option linter.unusedVariables false
set_option linter.unusedSimpArgs false
namespace Go.Proofs.YtfjplmbknegidaaGreatDoor
open Go.RowKit Go.Lib

namespace Sp
theorem cname_tag (p : List Cn) (i : Int) : (cnameS p i).2 = taggedS p i 1 := by
  unfold cnameS taggedS
  cases get p i with
  | none => rfl
  | some c =>
    simp only
    by_cases h : c.tag = 1
    · rw [if_pos h]; simp [h]
    · rw [if_neg h]; simp [h]
theorem tag_at (p : List Cn) (i t : Int) (h : taggedS p i t = true) : ∃ (k : Nat) (hk : k < p.length), i = (k : Int) + 1 ∧ p[k].tag = t ∧ get p i = some p[k] := by
  unfold taggedS at h
  rcases get_cases p i with ⟨_, h2⟩ | ⟨_, _, h3⟩ | ⟨k, hk, h1, h3⟩
  · rw [h2] at h; cases h
  · rw [h3] at h; cases h
  · rw [h3] at h
    exact ⟨k, hk, h1, by simpa using h, h3⟩
theorem cname_at (p : List Cn) (i : Int) (h : taggedS p i 1 = true) : ∃ (k : Nat) (hk : k < p.length), i = (k : Int) + 1 ∧ cnameS p i = (p[k].text, true) := by
  obtain ⟨k, hk, h1, h2, h3⟩ := tag_at p i 1 h
  exact ⟨k, hk, h1, by unfold cnameS; rw [h3]; simp only; rw [if_pos h2]⟩
end Sp

set_option maxHeartbeats 8000000 in
set_option maxRecDepth 100000 in
theorem refNamed_any (q : Sp.At) (F : FlP) (m : Sp.Mp) (me : Bool) (w : World) (hr : RdF w q F) (h1 : In64 m.1.name) (h2 : In64 m.1.desc) (hz : ∀ c ∈ F.pool, c.text.size ≤ 1099511627776) :
    Calls Tryz.prog 110 #[.agg (flC q F), Sp.mbV m, .bool me] w fun e w' => e = .returned (.int .i64 (Sp.linkS F.pool m.1.name m.1.desc me)) ∧ Below w.heap.size w w' := by
  obtain ⟨pool, fl, th, su, ifs, flds, mths⟩ := F
  obtain ⟨qA, qc, qI, qd, qX, qe, qY, qg⟩ := q
  obtain ⟨⟨mf, mn, md, ms, ml, mc, mh⟩, mA, mcap⟩ := m
  simp only [] at h1 h2 hz ⊢
  have hr0 := Lib.hid hr
  clear hr
  have HE := Lib.hid (show Sp.linkS pool mn md me = _ by rw [Sp.linkS])
  have hn := Lib.hid (Sp.cname_at pool mn)
  have hd := Lib.hid (Sp.cname_at pool md)
  have HE2 := Lib.hid HE.out
  rw [Sp.cname_tag, Sp.cname_tag] at HE2
  clear HE
  have k1 := Lib.hid (fun W hr => refTagged_any ⟨qA, qc, qI, qd, qX, qe, qY, qg⟩ ⟨pool, fl, th, su, ifs, flds, mths⟩ mn 1 W hr h1)
  have k2 := Lib.hid (fun W hr => refTagged_any ⟨qA, qc, qI, qd, qX, qe, qY, qg⟩ ⟨pool, fl, th, su, ifs, flds, mths⟩ md 1 W hr h2)
  have kt := Lib.hid (fun k (hk : k < pool.length) W hr => refText_any ⟨qA, qc, qI, qd, qX, qe, qY, qg⟩ ⟨pool, fl, th, su, ifs, flds, mths⟩ k hk W hr)
  have hz' := Lib.hid (fun k (hk : k < pool.length) => hz _ (List.getElem_mem hk))
  clear hz
  generalize Sp.linkS pool mn md me = R at HE2 ⊢
  simp only [] at k1 k2 kt
  generalize Sp.taggedS pool mn 1 = T at *
  generalize Sp.taggedS pool md 1 = U at *
  have hB := ((Below.refl w.heap.size w).alloc (Nat.le_refl _) (.cells (flC ⟨qA, qc, qI, qd, qX, qe, qY, qg⟩ ⟨pool, fl, th, su, ifs, flds, mths⟩) 63)).alloc (by simp) (.cells #[.int .i64 mf, .int .i64 mn, .int .i64 md, .int .i64 ms, .int .i64 ml, .string mc, .slice mA mh.length mcap] 105)
  have hK := Lib.hid (blk_old (o := .cells #[.int .i64 mf, .int .i64 mn, .int .i64 md, .int .i64 ms, .int .i64 ml, .string mc, .slice mA mh.length mcap] 105) (blk_new w (.cells (flC ⟨qA, qc, qI, qd, qX, qe, qY, qg⟩ ⟨pool, fl, th, su, ifs, flds, mths⟩) 63)))
  have hL := Lib.hid (blk_new (w.alloc (.cells (flC ⟨qA, qc, qI, qd, qX, qe, qY, qg⟩ ⟨pool, fl, th, su, ifs, flds, mths⟩) 63)) (.cells #[.int .i64 mf, .int .i64 mn, .int .i64 md, .int .i64 ms, .int .i64 ml, .string mc, .slice mA mh.length mcap] 105))
  rw [show (w.alloc (.cells (flC ⟨qA, qc, qI, qd, qX, qe, qY, qg⟩ ⟨pool, fl, th, su, ifs, flds, mths⟩) 63)).heap.size = w.heap.size + 1 by simp] at hL
  have hS := hB.size
  unfold flC at k1 k2 kt
  unfold Sp.mbV
  have hfl : flC ⟨qA, qc, qI, qd, qX, qe, qY, qg⟩ ⟨pool, fl, th, su, ifs, flds, mths⟩ = #[.slice qA pool.length qc, .int .i64 fl, .int .i64 th, .int .i64 su, .slice qI ifs.length qd, .slice qX flds.length qe, .slice qY mths.length qg] := rfl
  rw [hfl] at hB hS ⊢
  clear hfl
  simp only [] at k1 k2 kt ⊢
  go_enter Tryz.func110, Tryz.ntmps110
  go_wp2_with fail
  refine (k1.out _ (rdF_below hr0.out hB)).mono ?_
  rintro e w1 ⟨rfl, hb1⟩
  have K1 := Lib.hid (blk_below hK.out hb1)
  have L1 := Lib.hid (blk_below hL.out hb1)
  have B1 := below_then hB hS hb1
  have S1 := B1.size
  clear hK hL hB hS hb1 k1
  obtain ⟨c0, c1, c2, c3, c4, c5, c6⟩ := flC_box K1.out
  have e1 := (blk_cell L1.out 1 (.int .i64 mn) rfl).1
  have e2 := (blk_cell L1.out 2 (.int .i64 md) rfl).1
  go_wp2_with fail
  refine (k2.out _ (rdF_below hr0.out B1)).mono ?_
  rintro e w2 ⟨rfl, hb2⟩
  have K2 := Lib.hid (blk_below K1.out hb2)
  have L2 := Lib.hid (blk_below L1.out hb2)
  have B2 := below_then B1 S1 hb2
  have S2 := B2.size
  clear K1 L1 B1 S1 hb2 k2 c0 c1 c2 c3 c4 c5 c6 e1 e2
  cases T with
  | false =>
    have hR : R = 7 := by rw [HE2.out, if_pos (.inl rfl)]
    subst hR
    clear HE2
    go_wp2
    go_ret
    exact ⟨rfl, B2⟩
  | true =>
    cases U with
    | false =>
      have hR : R = 7 := by rw [HE2.out, if_pos (.inr rfl)]
      subst hR
      clear HE2
      go_wp2
      go_ret
      exact ⟨rfl, B2⟩
    | true =>
      obtain ⟨k, hk, rfl, hkn⟩ := hn.out rfl
      obtain ⟨j, hj, rfl, hjn⟩ := hd.out rfl
      have HF := Lib.hid HE2.out
      rw [if_neg (by rintro (h | h) <;> cases h), hkn, hjn] at HF
      have hs1 := hz'.out k hk
      have hs2 := hz'.out j hj
      have t1 := Lib.hid (fun W hr => kt.out k hk W hr)
      have t2 := Lib.hid (fun W hr => kt.out j hj W hr)
      clear HE2 hkn hjn hn hd kt hz'
      generalize pool[k].text = s1 at *
      generalize pool[j].text = s2 at *
      have k3 := Lib.hid (fun W => refName_any s1 W hs1)
      have k4 := Lib.hid (fun W => refDescribed_any s2 me W hs2)
      rw [Sp.refName_eq] at k3
      simp only [] at HF
      generalize Sp.nameS s1 = nb at *
      generalize Sp.descS s2 me = db at *
      obtain ⟨c0, c1, c2, c3, c4, c5, c6⟩ := flC_box K2.out
      have e1 := (blk_cell L2.out 1 (.int .i64 ((k : Int) + 1)) rfl).1
      go_wp2_with fail
      refine (t1.out _ (rdF_below hr0.out B2)).mono ?_
      rintro e w3 ⟨rfl, hb3⟩
      have K3 := Lib.hid (blk_below K2.out hb3)
      have L3 := Lib.hid (blk_below L2.out hb3)
      have B3 := below_then B2 S2 hb3
      have S3 := B3.size
      clear K2 L2 B2 S2 hb3 t1 c0 c1 c2 c3 c4 c5 c6 e1
      go_wp2_with fail
      refine (k3.out _).mono ?_
      rintro e w4 ⟨rfl, hb4⟩
      have K4 := Lib.hid (blk_below K3.out hb4)
      have L4 := Lib.hid (blk_below L3.out hb4)
      have B4 := below_then B3 S3 hb4
      have S4 := B4.size
      clear K3 L3 B3 S3 hb4 k3
      cases nb with
      | false =>
        have hR : R = 8 := HF.out
        subst hR
        clear HF
        go_wp2
        go_ret
        exact ⟨rfl, B4⟩
      | true =>
        have hR : R = db := HF.out
        subst hR
        clear HF
        obtain ⟨c0, c1, c2, c3, c4, c5, c6⟩ := flC_box K4.out
        have e2 := (blk_cell L4.out 2 (.int .i64 ((j : Int) + 1)) rfl).1
        go_wp2_with fail
        refine (t2.out _ (rdF_below hr0.out B4)).mono ?_
        rintro e w5 ⟨rfl, hb5⟩
        have B5 := below_then B4 S4 hb5
        have S5 := B5.size
        clear K4 L4 B4 S4 hb5 t2 c0 c1 c2 c3 c4 c5 c6 e2
        go_wp2_with fail
        refine (k4.out _).mono ?_
        rintro e w6 ⟨rfl, hb6⟩
        go_wp2
        go_ret
        exact ⟨rfl, below_then B5 S5 hb6⟩
end Go.Proofs.YtfjplmbknegidaaGreatDoor
end
