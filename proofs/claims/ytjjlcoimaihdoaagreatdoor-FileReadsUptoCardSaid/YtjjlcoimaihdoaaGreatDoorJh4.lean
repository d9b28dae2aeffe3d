/-
  Texts of the proof, joined.
-/
import Derived.Test.YtjjlcoimaihdoaaGreatDoorJh3
import Derived.Test.YtjjlcoimaihdoaaGreatDoorProg
import Derived.WalkKit
import Derived.Below
import Derived.Deep.Quiet
import Derived.Maps.OwnSet
import Derived.Maps.OwnOps
import Derived.WideKeyPair
import Derived.DeepKeys4
import Derived.WalkMore
set_option linter.unusedVariables false
set_option linter.unusedSimpArgs false
namespace Go.Proofs.YtjjlcoimaihdoaaGreatDoor
open Go.RowKit Go.Lib
namespace Sp
def textS (s : ByteArray) : Int := if (encS s).2 = 0 then (if 2000 < (runes s).length then 2 else 0) else (encS s).2
def namedS (p : List Cn) (tag a : Int) : Int :=
 if (cnameS p a).2 = false then 7 else if tag = 4 ∧ nameS (cnameS p a).1 = false then 8 else if tag = 7 then descS (cnameS p a).1 false else 0
def linkedS (p : List Cn) (tag a b c : Int) : Int := if taggedS p a 4 = false then 7 else linkS p b c (decide (tag = 6))
def constS (p : List Cn) (c : Cn) : Int :=
 if leanS c = false then 7
 else if c.tag = 1 then textS c.text
 else if c.tag = 5 ∨ c.tag = 6 then linkedS p c.tag c.a c.b c.c
 else if c.tag = 3 ∨ c.tag = 4 ∨ c.tag = 7 then namedS p c.tag c.a
 else 0
theorem lean_tag (c : Cn) (h : leanS c = true) : c.tag = 1 ∨ c.tag = 2 ∨ c.tag = 3 ∨ c.tag = 4 ∨ c.tag = 5 ∨ c.tag = 6 ∨ c.tag = 7 := by
 simp only [leanS, Bool.and_eq_true, decide_eq_true_eq] at h
 omega
theorem cname_size (p : List Cn) (hz : ∀ c ∈ p, c.text.size ≤ 1099511627776) (i : Int) : (cnameS p i).1.size ≤ 1099511627776 := by
 unfold cnameS get
 split
 ·rename_i c hc
  split at hc
  ·split
   ·exact hz _ (List.mem_of_getElem? hc)
   ·exact Nat.zero_le _
  ·cases hc
 ·exact Nat.zero_le _
end Sp
def In64 (i : Int) : Prop := -9223372036854775808 ≤ i ∧ i ≤ 9223372036854775807
set_option maxHeartbeats 8000000 in
set_option maxRecDepth 100000 in
theorem constant_any (q : Sp.At) (F : FlP) (c : Sp.Cn) (w : World) (hr : RdF w q F) (ha : In64 c.a) (hb : In64 c.b) (hc : In64 c.c) (hs : c.text.size ≤ 1099511627776)
  (hz : ∀ c ∈ F.pool, c.text.size ≤ 1099511627776) (hT : Tabs w) :
  Calls Tryz.prog 217 #[.agg (flC q F), Sp.cnV c] w fun e w' => e = .returned (.int .i64 (Sp.constS F.pool c)) ∧ Below w.heap.size w w' := by
 have T0 := Lib.hid hT
 clear hT
 have hr0 := Lib.hid hr
 clear hr
 have hsz := Sp.cname_size F.pool hz
 have htag := Sp.lean_tag c
 have k1 := Lib.hid (fun W => lean_any c W)
 have k2 := Lib.hid (fun W hT => encode_any c.text W (by omega) hT)
 have k3 := Lib.hid (fun W => len_any c.text W (by omega))
 have k4 := Lib.hid (fun W hr => tagged_any q F c.a 4 W hr ha)
 have k5 := Lib.hid (fun W hr m hT => link_any q F c.b c.c m W hr hb hc hz hT)
 have k6 := Lib.hid (fun W hr => cname_any q F c.a W hr ha)
 have k7 := Lib.hid (fun W hT => name_any (Sp.cnameS F.pool c.a).1 W (by have := hsz c.a; omega) hT)
 have k8 := Lib.hid (fun W hT => described_any (Sp.cnameS F.pool c.a).1 false W (hsz c.a) hT)
 have HE := Lib.hid (show Sp.constS F.pool c = _ by rw [Sp.constS, Sp.textS, Sp.namedS, Sp.linkedS])
 clear hsz hz ha hb hc hs
 generalize Sp.constS F.pool c = R at HE ⊢
 obtain ⟨t, s, n, a, b, c⟩ := c
 simp only [] at k1 k2 k3 k4 k5 k6 k7 k8 htag
 have HE' := Lib.hid HE.out
 clear HE
 simp only [] at HE'
 generalize Sp.leanS ⟨t, s, n, a, b, c⟩ = L at *
 generalize Sp.encS s = E at *
 generalize Sp.runes s = rn at *
 generalize Sp.taggedS F.pool a 4 = T at *
 generalize Sp.linkS F.pool b c = K at *
 generalize Sp.cnameS F.pool a = N at *
 obtain ⟨es, ee⟩ := E
 obtain ⟨n1, n2⟩ := N
 simp only [] at k2 k6 k7 k8 HE'
 generalize Sp.nameS n1 = nb at *
 generalize Sp.descS n1 false = db at *
 have hB := ((Below.refl w.heap.size w).alloc (Nat.le_refl _) (.cells (flC q F) 26)).alloc (by simp) (.cells #[.int .i64 t, .string s, .int .i64 n, .int .i64 a, .int .i64 b, .int .i64 c] 145)
 have hK := Lib.hid (blk_old (o := .cells #[.int .i64 t, .string s, .int .i64 n, .int .i64 a, .int .i64 b, .int .i64 c] 145) (blk_new w (.cells (flC q F) 26)))
 have hL := Lib.hid (blk_new (w.alloc (.cells (flC q F) 26)) (.cells #[.int .i64 t, .string s, .int .i64 n, .int .i64 a, .int .i64 b, .int .i64 c] 145))
 rw [show (w.alloc (.cells (flC q F) 26)).heap.size = w.heap.size + 1 by simp] at hL
 have hS : w.heap.size ≤ ((w.alloc (.cells (flC q F) 26)).alloc (.cells #[.int .i64 t, .string s, .int .i64 n, .int .i64 a, .int .i64 b, .int .i64 c] 145)).heap.size := hB.size
 unfold flC at k4 k5 k6
 unfold Sp.cnV at k1 ⊢
 simp only [] at k1 ⊢
 have hfl : flC q F = #[.slice q.A F.pool.length q.c, .int .i64 F.flags, .int .i64 F.this, .int .i64 F.super, .slice q.I F.ifaces.length q.d, .slice q.X F.fields.length q.e, .slice q.Y F.methods.length q.g] := rfl
 rw [hfl] at hB hS ⊢
 clear hfl
 go_enter Tryz.func217, Tryz.ntmps217
 go_wp2_with fail
 refine (k1.out _).mono ?_
 rintro e w1 ⟨rfl, hb1⟩
 have K1 := Lib.hid (blk_below hK.out hb1)
 have L1 := Lib.hid (blk_below hL.out hb1)
 have B1 := below_then hB hS hb1
 have S1 := B1.size
 clear hK hL hB hS hb1 k1
 cases L with
 | false =>
  have hR : R = 7 := by rw [HE'.out, if_pos rfl]
  subst hR
  clear HE' htag
  go_wp2
  go_ret
  exact ⟨rfl, B1⟩
 | true =>
  have HF := Lib.hid HE'.out
  rw [if_neg (by decide)] at HF
  clear HE'
  obtain ⟨c0, c1, c2, c3, c4, c5, c6⟩ := flC_box K1.out
  have d0 := (blk_cell L1.out 0 (.int .i64 t) rfl).1
  have d1 := (blk_cell L1.out 1 (.string s) rfl).1
  have d3 := (blk_cell L1.out 3 (.int .i64 a) rfl).1
  have d4 := (blk_cell L1.out 4 (.int .i64 b) rfl).1
  have d5 := (blk_cell L1.out 5 (.int .i64 c) rfl).1
  rcases htag rfl with rfl | rfl | rfl | rfl | rfl | rfl | rfl
  ·clear htag
   have HG := Lib.hid (show R = if ee = 0 then (if 2000 < rn.length then 2 else 0) else ee by rw [HF.out, if_pos rfl])
   clear HF
   have HF := HG
   clear HG
   go_wp2_with fail
   refine (k2.out _ (T0.out.below B1)).mono ?_
   rintro e w2 ⟨rfl, hb2⟩
   have B2 := below_then B1 S1 hb2
   have S2 := B2.size
   have K2 := Lib.hid (blk_below K1.out hb2)
   have L2 := Lib.hid (blk_below L1.out hb2)
   clear hb2 B1 S1 K1 L1 c0 c1 c2 c3 c4 c5 c6 d0 d1 d3 d4 d5 k2
   obtain ⟨c0, c1, c2, c3, c4, c5, c6⟩ := flC_box K2.out
   have d0 := (blk_cell L2.out 0 (.int .i64 1) rfl).1
   have d1 := (blk_cell L2.out 1 (.string s) rfl).1
   have d3 := (blk_cell L2.out 3 (.int .i64 a) rfl).1
   have d4 := (blk_cell L2.out 4 (.int .i64 b) rfl).1
   have d5 := (blk_cell L2.out 5 (.int .i64 c) rfl).1
   by_cases he : ee = 0
   ·subst he
    go_wp2_with fail
    refine (k3.out _).mono ?_
    rintro e w3 ⟨rfl, hb3⟩
    have B3 := below_then B2 S2 hb3
    have S3 := B3.size
    have K3 := Lib.hid (blk_below K2.out hb3)
    have L3 := Lib.hid (blk_below L2.out hb3)
    clear hb3 B2 S2 K2 L2 c0 c1 c2 c3 c4 c5 c6 d0 d1 d3 d4 d5 k3
    obtain ⟨c0, c1, c2, c3, c4, c5, c6⟩ := flC_box K3.out
    have d0 := (blk_cell L3.out 0 (.int .i64 1) rfl).1
    have d1 := (blk_cell L3.out 1 (.string s) rfl).1
    have d3 := (blk_cell L3.out 3 (.int .i64 a) rfl).1
    have d4 := (blk_cell L3.out 4 (.int .i64 b) rfl).1
    have d5 := (blk_cell L3.out 5 (.int .i64 c) rfl).1
    by_cases h2 : 2000 < rn.length
    ·have hz : (2000 : Int) < (rn.length : Int) := by omega
     have hR : R = 2 := by rw [HF.out]; simp [h2]
     subst hR
     clear HF
     go_wp2
     go_ret
     exact ⟨rfl, B3⟩
    ·have hz : ¬ (2000 : Int) < (rn.length : Int) := by omega
     have hR : R = 0 := by rw [HF.out]; simp [h2]
     subst hR
     clear HF
     go_wp2
     go_ret
     exact ⟨rfl, B3⟩
   ·have heb : (ee == 0) = false := by rw [beq_eq_false_iff_ne]; exact he
    have hR : R = ee := by rw [HF.out, if_neg he]
    subst hR
    clear HF
    go_wp2
    go_ret
    exact ⟨rfl, B2⟩
  ·clear htag
   have hR : R = 0 := by rw [HF.out, if_neg (by decide), if_neg (by decide), if_neg (by decide)]
   subst hR
   clear HF
   go_wp2
   go_ret
   exact ⟨rfl, B1⟩
  ·clear htag
   have HG := Lib.hid (show R = if n2 = false then 7 else 0 by rw [HF.out, if_neg (by decide), if_neg (by decide), if_pos (by decide)]; cases n2 <;> cases nb <;> rfl)
   clear HF
   have HF := HG
   clear HG
   go_wp2_with fail
   refine (k6.out _ (rdF_below hr0.out B1)).mono ?_
   rintro e w2 ⟨rfl, hb2⟩
   have B2 := below_then B1 S1 hb2
   have S2 := B2.size
   have K2 := Lib.hid (blk_below K1.out hb2)
   have L2 := Lib.hid (blk_below L1.out hb2)
   clear hb2 B1 S1 K1 L1 c0 c1 c2 c3 c4 c5 c6 d0 d1 d3 d4 d5 k6
   obtain ⟨c0, c1, c2, c3, c4, c5, c6⟩ := flC_box K2.out
   have d0 := (blk_cell L2.out 0 (.int .i64 3) rfl).1
   have d1 := (blk_cell L2.out 1 (.string s) rfl).1
   have d3 := (blk_cell L2.out 3 (.int .i64 a) rfl).1
   have d4 := (blk_cell L2.out 4 (.int .i64 b) rfl).1
   have d5 := (blk_cell L2.out 5 (.int .i64 c) rfl).1
   cases n2 with
   | false =>
    have hR : R = 7 := by rw [HF.out, if_pos rfl]
    subst hR
    clear HF
    go_wp2
    go_ret
    exact ⟨rfl, B2⟩
   | true =>
    have hR : R = 0 := by rw [HF.out, if_neg (by decide)]
    subst hR
    clear HF
    go_wp2
    go_ret
    exact ⟨rfl, B2⟩
  ·clear htag
   have HG := Lib.hid (show R = if n2 = false then 7 else if nb = false then 8 else 0 by rw [HF.out, if_neg (by decide), if_neg (by decide), if_pos (by decide)]; cases n2 <;> cases nb <;> rfl)
   clear HF
   have HF := HG
   clear HG
   go_wp2_with fail
   refine (k6.out _ (rdF_below hr0.out B1)).mono ?_
   rintro e w2 ⟨rfl, hb2⟩
   have B2 := below_then B1 S1 hb2
   have S2 := B2.size
   have K2 := Lib.hid (blk_below K1.out hb2)
   have L2 := Lib.hid (blk_below L1.out hb2)
   clear hb2 B1 S1 K1 L1 c0 c1 c2 c3 c4 c5 c6 d0 d1 d3 d4 d5 k6
   obtain ⟨c0, c1, c2, c3, c4, c5, c6⟩ := flC_box K2.out
   have d0 := (blk_cell L2.out 0 (.int .i64 4) rfl).1
   have d1 := (blk_cell L2.out 1 (.string s) rfl).1
   have d3 := (blk_cell L2.out 3 (.int .i64 a) rfl).1
   have d4 := (blk_cell L2.out 4 (.int .i64 b) rfl).1
   have d5 := (blk_cell L2.out 5 (.int .i64 c) rfl).1
   cases n2 with
   | false =>
    have hR : R = 7 := by rw [HF.out, if_pos rfl]
    subst hR
    clear HF
    go_wp2
    go_ret
    exact ⟨rfl, B2⟩
   | true =>
    go_wp2_with fail
    refine (k7.out _ (fun W h => Tabs.below (T0.out.below B2) h)).mono ?_
    rintro e w3 ⟨rfl, hb3⟩
    have B3 := below_then B2 S2 hb3
    have S3 := B3.size
    have K3 := Lib.hid (blk_below K2.out hb3)
    have L3 := Lib.hid (blk_below L2.out hb3)
    clear hb3 B2 S2 K2 L2 c0 c1 c2 c3 c4 c5 c6 d0 d1 d3 d4 d5 k7
    obtain ⟨c0, c1, c2, c3, c4, c5, c6⟩ := flC_box K3.out
    have d0 := (blk_cell L3.out 0 (.int .i64 4) rfl).1
    have d1 := (blk_cell L3.out 1 (.string s) rfl).1
    have d3 := (blk_cell L3.out 3 (.int .i64 a) rfl).1
    have d4 := (blk_cell L3.out 4 (.int .i64 b) rfl).1
    have d5 := (blk_cell L3.out 5 (.int .i64 c) rfl).1
    cases nb with
    | false =>
     have hR : R = 8 := by rw [HF.out, if_neg (by decide), if_pos rfl]
     subst hR
     clear HF
     go_wp2
     go_ret
     exact ⟨rfl, B3⟩
    | true =>
     have hR : R = 0 := by rw [HF.out, if_neg (by decide), if_neg (by decide)]
     subst hR
     clear HF
     go_wp2
     go_ret
     exact ⟨rfl, B3⟩
  ·clear htag
   have HG := Lib.hid (show R = if T = false then 7 else K false by rw [HF.out, if_neg (by decide), if_pos (by decide)]; rfl)
   clear HF
   have HF := HG
   clear HG
   go_wp2_with fail
   refine (k4.out _ (rdF_below hr0.out B1)).mono ?_
   rintro e w2 ⟨rfl, hb2⟩
   have B2 := below_then B1 S1 hb2
   have S2 := B2.size
   have K2 := Lib.hid (blk_below K1.out hb2)
   have L2 := Lib.hid (blk_below L1.out hb2)
   clear hb2 B1 S1 K1 L1 c0 c1 c2 c3 c4 c5 c6 d0 d1 d3 d4 d5 k4
   obtain ⟨c0, c1, c2, c3, c4, c5, c6⟩ := flC_box K2.out
   have d0 := (blk_cell L2.out 0 (.int .i64 5) rfl).1
   have d1 := (blk_cell L2.out 1 (.string s) rfl).1
   have d3 := (blk_cell L2.out 3 (.int .i64 a) rfl).1
   have d4 := (blk_cell L2.out 4 (.int .i64 b) rfl).1
   have d5 := (blk_cell L2.out 5 (.int .i64 c) rfl).1
   cases T with
   | false =>
    have hR : R = 7 := by rw [HF.out, if_pos rfl]
    subst hR
    clear HF
    go_wp2
    go_ret
    exact ⟨rfl, B2⟩
   | true =>
    have k5n := Lib.hid (fun W hr hT => k5.out W hr false hT)
    clear k5
    go_wp2_with fail
    refine (k5n.out _ (rdF_below hr0.out B2) (T0.out.below B2)).mono ?_
    rintro e w3 ⟨rfl, hb3⟩
    have hR : R = K false := by rw [HF.out, if_neg (by decide)]
    subst hR
    clear HF
    go_wp2
    go_ret
    exact ⟨rfl, below_then B2 S2 hb3⟩
  ·clear htag
   have HG := Lib.hid (show R = if T = false then 7 else K true by rw [HF.out, if_neg (by decide), if_pos (by decide)]; rfl)
   clear HF
   have HF := HG
   clear HG
   go_wp2_with fail
   refine (k4.out _ (rdF_below hr0.out B1)).mono ?_
   rintro e w2 ⟨rfl, hb2⟩
   have B2 := below_then B1 S1 hb2
   have S2 := B2.size
   have K2 := Lib.hid (blk_below K1.out hb2)
   have L2 := Lib.hid (blk_below L1.out hb2)
   clear hb2 B1 S1 K1 L1 c0 c1 c2 c3 c4 c5 c6 d0 d1 d3 d4 d5 k4
   obtain ⟨c0, c1, c2, c3, c4, c5, c6⟩ := flC_box K2.out
   have d0 := (blk_cell L2.out 0 (.int .i64 6) rfl).1
   have d1 := (blk_cell L2.out 1 (.string s) rfl).1
   have d3 := (blk_cell L2.out 3 (.int .i64 a) rfl).1
   have d4 := (blk_cell L2.out 4 (.int .i64 b) rfl).1
   have d5 := (blk_cell L2.out 5 (.int .i64 c) rfl).1
   cases T with
   | false =>
    have hR : R = 7 := by rw [HF.out, if_pos rfl]
    subst hR
    clear HF
    go_wp2
    go_ret
    exact ⟨rfl, B2⟩
   | true =>
    have k5n := Lib.hid (fun W hr hT => k5.out W hr true hT)
    clear k5
    go_wp2_with fail
    refine (k5n.out _ (rdF_below hr0.out B2) (T0.out.below B2)).mono ?_
    rintro e w3 ⟨rfl, hb3⟩
    have hR : R = K true := by rw [HF.out, if_neg (by decide)]
    subst hR
    clear HF
    go_wp2
    go_ret
    exact ⟨rfl, below_then B2 S2 hb3⟩
  ·clear htag
   have HG := Lib.hid (show R = if n2 = false then 7 else db by rw [HF.out, if_neg (by decide), if_neg (by decide), if_pos (by decide)]; cases n2 <;> cases nb <;> rfl)
   clear HF
   have HF := HG
   clear HG
   go_wp2_with fail
   refine (k6.out _ (rdF_below hr0.out B1)).mono ?_
   rintro e w2 ⟨rfl, hb2⟩
   have B2 := below_then B1 S1 hb2
   have S2 := B2.size
   have K2 := Lib.hid (blk_below K1.out hb2)
   have L2 := Lib.hid (blk_below L1.out hb2)
   clear hb2 B1 S1 K1 L1 c0 c1 c2 c3 c4 c5 c6 d0 d1 d3 d4 d5 k6
   obtain ⟨c0, c1, c2, c3, c4, c5, c6⟩ := flC_box K2.out
   have d0 := (blk_cell L2.out 0 (.int .i64 7) rfl).1
   have d1 := (blk_cell L2.out 1 (.string s) rfl).1
   have d3 := (blk_cell L2.out 3 (.int .i64 a) rfl).1
   have d4 := (blk_cell L2.out 4 (.int .i64 b) rfl).1
   have d5 := (blk_cell L2.out 5 (.int .i64 c) rfl).1
   cases n2 with
   | false =>
    have hR : R = 7 := by rw [HF.out, if_pos rfl]
    subst hR
    clear HF
    go_wp2
    go_ret
    exact ⟨rfl, B2⟩
   | true =>
    go_wp2_with fail
    refine (k8.out _ (T0.out.below B2)).mono ?_
    rintro e w3 ⟨rfl, hb3⟩
    have hR : R = db := by rw [HF.out, if_neg (by decide)]
    subst hR
    clear HF
    go_wp2
    go_ret
    exact ⟨rfl, below_then B2 S2 hb3⟩
set_option maxHeartbeats 4000000 in
set_option maxRecDepth 100000 in
theorem refTagged_any (q : Sp.At) (F : FlP) (i tag : Int) (w : World) (hr : RdF w q F) (hi : -9223372036854775808 ≤ i ∧ i ≤ 9223372036854775807) :
  Calls Tryz.prog 143 #[.agg (flC q F), .int .i64 i, .int .i64 tag] w fun e w' => e = .returned (.bool (Sp.taggedS F.pool i tag)) ∧ Below w.heap.size w w' := by
 have hl := hr.pool.1
 have HP := Lib.hid hr.pool.2
 clear hr
 have HE := Lib.hid (show Sp.taggedS F.pool i tag = _ by rw [Sp.taggedS])
 generalize Sp.taggedS F.pool i tag = R at HE ⊢
 unfold flC
 rcases Sp.get_cases F.pool i with ⟨h1, h2⟩ | ⟨h1, h2, h3⟩ | ⟨k, hk, rfl, h3⟩
 ·have hR : R = false := by rw [HE.out, h2]
  subst hR
  clear HE h2
  go_enter Tryz.func143, Tryz.ntmps143
  go_wp2
  go_ret
  exact ⟨by simp, by (repeat (first | with_reducible assumption | with_reducible exact Below.refl _ _ | (with_reducible refine Below.setCell ?_ (by first | exact Nat.le_refl _ | omega | (simp; done) | (simp; omega)) _) | (with_reducible refine Below.alloc ?_ (by first | exact Nat.le_refl _ | omega | (simp; done) | (simp; omega)) _) | (with_reducible refine Below.drew ?_)))⟩
 ·have hR : R = false := by rw [HE.out, h3]
  subst hR
  have h4 : ¬ i ≤ (F.pool.length : Int) := by omega
  clear HE h3
  go_enter Tryz.func143, Tryz.ntmps143
  go_wp2
  go_ret
  exact ⟨by simp, by (repeat (first | with_reducible assumption | with_reducible exact Below.refl _ _ | (with_reducible refine Below.setCell ?_ (by first | exact Nat.le_refl _ | omega | (simp; done) | (simp; omega)) _) | (with_reducible refine Below.alloc ?_ (by first | exact Nat.le_refl _ | omega | (simp; done) | (simp; omega)) _) | (with_reducible refine Below.drew ?_)))⟩
 ·obtain ⟨b, o, hA, hrg⟩ := HP.out (by omega)
  obtain ⟨c0, c1, c2, c3, c4, c5⟩ := cn_cells hrg hk
  have hb := World.block_lt_of_cell? _ _ c0
  have hR : R = decide (F.pool[k].tag = tag) := by rw [HE.out, h3]
  have h1 : (1 : Int) ≤ (k : Int) + 1 := by omega
  have h2 : (k : Int) + 1 ≤ (F.pool.length : Int) := by omega
  have h5 : (k : Int) < (F.pool.length : Int) := by omega
  have h6 : (k : Int) + 1 - 1 = (k : Int) := by omega
  subst hR
  clear HE h3 hrg c1 c2 c3 c4 c5
  rw [hA]
  generalize F.pool[k].tag = t at *
  go_enter Tryz.func143, Tryz.ntmps143
  go_wp2
  go_ret
  have hbe : (t == tag) = decide (t = tag) := by rw [Bool.eq_iff_iff]; simp
  exact ⟨by simp [hbe], by (repeat (first | with_reducible assumption | with_reducible exact Below.refl _ _ | (with_reducible refine Below.setCell ?_ (by first | exact Nat.le_refl _ | omega | (simp; done) | (simp; omega)) _) | (with_reducible refine Below.alloc ?_ (by first | exact Nat.le_refl _ | omega | (simp; done) | (simp; omega)) _) | (with_reducible refine Below.drew ?_)))⟩
set_option maxHeartbeats 4000000 in
set_option maxRecDepth 100000 in
theorem refBare_any (m : Sp.Mp) (w : World) (hl : m.1.hs.length ≤ 9223372036854775807) :
  Calls Tryz.prog 270 #[Sp.mbV m] w fun e w' => e = .returned (.bool (decide (m.1.stack = 0) && decide (m.1.locals = 0) && decide (m.1.code.size = 0) && decide (m.1.hs.length = 0))) ∧ Below w.heap.size w w' := by
 obtain ⟨⟨fl, nm, ds, st, lc, cd, hs⟩, A, c⟩ := m
 unfold Sp.mbV
 simp only [] at hl ⊢
 by_cases h1 : st = 0
 ·by_cases h2 : lc = 0
  ·by_cases h3 : cd.size = 0
   ·obtain rfl := str_empty cd h3
    subst h1 h2
    by_cases h4 : hs.length = 0
    ·have h4b : (hs.length : Int) = 0 := by omega
     go_enter Tryz.func270, Tryz.ntmps270
     go_wp2
     go_ret
     exact ⟨by first | (simp [h4]; done) | (simp [h4]; rfl), by (repeat (first | with_reducible assumption | with_reducible exact Below.refl _ _ | (with_reducible refine Below.setCell ?_ (by first | exact Nat.le_refl _ | omega | (simp; done) | (simp; omega)) _) | (with_reducible refine Below.alloc ?_ (by first | exact Nat.le_refl _ | omega | (simp; done) | (simp; omega)) _) | (with_reducible refine Below.drew ?_)))⟩
    ·have h4b : ((hs.length : Int) == 0) = false := by rw [beq_eq_false_iff_ne]; omega
     go_enter Tryz.func270, Tryz.ntmps270
     go_wp2
     go_ret
     exact ⟨by first | (simp [h4]; done) | (simp [h4]; rfl), by (repeat (first | with_reducible assumption | with_reducible exact Below.refl _ _ | (with_reducible refine Below.setCell ?_ (by first | exact Nat.le_refl _ | omega | (simp; done) | (simp; omega)) _) | (with_reducible refine Below.alloc ?_ (by first | exact Nat.le_refl _ | omega | (simp; done) | (simp; omega)) _) | (with_reducible refine Below.drew ?_)))⟩
   ·have hne : (cd.toList == []) = false := by
     rw [Bool.eq_false_iff]
     intro r
     have := (bytes_beq_iff cd ⟨#[]⟩).1 (by simpa using r)
     rw [this] at h3
     exact h3 rfl
    subst h1 h2
    go_enter Tryz.func270, Tryz.ntmps270
    go_wp2
    go_ret
    exact ⟨by first | (simp [h3]; done) | (simp [h3]; rfl), by (repeat (first | with_reducible assumption | with_reducible exact Below.refl _ _ | (with_reducible refine Below.setCell ?_ (by first | exact Nat.le_refl _ | omega | (simp; done) | (simp; omega)) _) | (with_reducible refine Below.alloc ?_ (by first | exact Nat.le_refl _ | omega | (simp; done) | (simp; omega)) _) | (with_reducible refine Below.drew ?_)))⟩
  ·have hb : (lc == 0) = false := by rw [beq_eq_false_iff_ne]; exact h2
   subst h1
   go_enter Tryz.func270, Tryz.ntmps270
   go_wp2
   go_ret
   exact ⟨by simp [h2], by (repeat (first | with_reducible assumption | with_reducible exact Below.refl _ _ | (with_reducible refine Below.setCell ?_ (by first | exact Nat.le_refl _ | omega | (simp; done) | (simp; omega)) _) | (with_reducible refine Below.alloc ?_ (by first | exact Nat.le_refl _ | omega | (simp; done) | (simp; omega)) _) | (with_reducible refine Below.drew ?_)))⟩
 ·have hb : (st == 0) = false := by rw [beq_eq_false_iff_ne]; exact h1
  go_enter Tryz.func270, Tryz.ntmps270
  go_wp2
  go_ret
  exact ⟨by simp [h1], by (repeat (first | with_reducible assumption | with_reducible exact Below.refl _ _ | (with_reducible refine Below.setCell ?_ (by first | exact Nat.le_refl _ | omega | (simp; done) | (simp; omega)) _) | (with_reducible refine Below.alloc ?_ (by first | exact Nat.le_refl _ | omega | (simp; done) | (simp; omega)) _) | (with_reducible refine Below.drew ?_)))⟩
set_option maxHeartbeats 4000000 in
set_option maxRecDepth 100000 in
theorem refDescribed_any (s : ByteArray) (m : Bool) (w : World) (hs : s.size ≤ 1099511627776) :
  Calls Tryz.prog 268 #[.string s, .bool m] w fun e w' => e = .returned (.int .i64 (Sp.descS s m)) ∧ Below w.heap.size w w' := by
 have k1 := Lib.hid (fun W => refMethod_any s W hs)
 have k2 := Lib.hid (fun W => refField_any s W hs)
 have HE := Lib.hid (show Sp.descS s m = _ by rw [Sp.descS])
 generalize Sp.descS s m = R at HE ⊢
 generalize Sp.methodS s = M at *
 generalize Sp.fieldS s = F at *
 obtain ⟨⟨ml, ⟨md, mn⟩, mv⟩, me⟩ := M
 obtain ⟨⟨fd, fn⟩, fe⟩ := F
 unfold Sp.sigV at k1
 unfold Sp.tyV at k2
 simp only [] at k1 k2
 cases m with
 | true =>
  have hR : R = me := HE.out
  subst hR
  clear HE
  go_enter Tryz.func268, Tryz.ntmps268
  go_wp2_with fail
  refine (k1.out _).mono ?_
  rintro e w1 ⟨A1, c1, rfl, _, hb⟩
  have hbz := hb.size
  go_wp2
  go_ret
  exact ⟨rfl, by (repeat (first | with_reducible assumption | with_reducible exact Below.refl _ _ | (with_reducible refine Below.setCell ?_ (by first | exact Nat.le_refl _ | omega | (simp; done) | (simp; omega)) _) | (with_reducible refine Below.alloc ?_ (by first | exact Nat.le_refl _ | omega | (simp; done) | (simp; omega)) _) | (with_reducible refine Below.drew ?_)))⟩
 | false =>
  have hR : R = fe := HE.out
  subst hR
  clear HE
  go_enter Tryz.func268, Tryz.ntmps268
  go_wp2_with fail
  refine (k2.out _).mono ?_
  rintro e w1 ⟨rfl, hb⟩
  have hbz := hb.size
  go_wp2
  go_ret
  exact ⟨rfl, by (repeat (first | with_reducible assumption | with_reducible exact Below.refl _ _ | (with_reducible refine Below.setCell ?_ (by first | exact Nat.le_refl _ | omega | (simp; done) | (simp; omega)) _) | (with_reducible refine Below.alloc ?_ (by first | exact Nat.le_refl _ | omega | (simp; done) | (simp; omega)) _) | (with_reducible refine Below.drew ?_)))⟩
set_option maxHeartbeats 4000000 in
set_option maxRecDepth 100000 in
theorem refText_any (q : Sp.At) (F : FlP) (k : Nat) (hk : k < F.pool.length) (w : World) (hr : RdF w q F) :
  Calls Tryz.prog 144 #[.agg (flC q F), .int .i64 ((k : Int) + 1)] w fun e w' => e = .returned (.string F.pool[k].text) ∧ Below w.heap.size w w' := by
 have hl := hr.pool.1
 obtain ⟨b, o, hA, hrg⟩ := hr.pool.2 (by omega)
 obtain ⟨c0, c1, c2, c3, c4, c5⟩ := cn_cells hrg hk
 have hb := World.block_lt_of_cell? _ _ c0
 have h5 : (k : Int) < (F.pool.length : Int) := by omega
 have h6 : (k : Int) + 1 - 1 = (k : Int) := by omega
 unfold flC
 rw [hA]
 clear hr hrg c0 c2 c3 c4 c5 hA
 generalize F.pool[k].text = t at *
 go_enter Tryz.func144, Tryz.ntmps144
 go_wp2
 go_ret
 exact ⟨rfl, by (repeat (first | with_reducible assumption | with_reducible exact Below.refl _ _ | (with_reducible refine Below.setCell ?_ (by first | exact Nat.le_refl _ | omega | (simp; done) | (simp; omega)) _) | (with_reducible refine Below.alloc ?_ (by first | exact Nat.le_refl _ | omega | (simp; done) | (simp; omega)) _) | (with_reducible refine Below.drew ?_)))⟩
def FlagsOk (f : Int) : Prop := f = 0 ∨ f = 2 ∨ f = 3
set_option maxHeartbeats 4000000 in
set_option maxRecDepth 100000 in
theorem interface_any (q : Sp.At) (F : FlP) (w : World) (hf : FlagsOk F.flags) :
  Calls Tryz.prog 260 #[.agg (flC q F)] w fun e w' => e = .returned (.bool (decide (F.flags = 3))) ∧ Below w.heap.size w w' := by
 unfold flC
 generalize F.flags = f at *
 rcases hf with rfl | rfl | rfl
 all_goals
  go_enter Tryz.func260, Tryz.ntmps260
  go_wp2
  go_ret
  exact ⟨by first | (simp; done) | (simp; decide +kernel), by (repeat (first | with_reducible assumption | with_reducible exact Below.refl _ _ | (with_reducible refine Below.setCell ?_ (by first | exact Nat.le_refl _ | omega | (simp; done) | (simp; omega)) _) | (with_reducible refine Below.alloc ?_ (by first | exact Nat.le_refl _ | omega | (simp; done) | (simp; omega)) _) | (with_reducible refine Below.drew ?_)))⟩
namespace Sp
end Sp
theorem mb_cells {w : World} {b o : Nat} {p : List Sp.Mp} (hr : w.rangeAt b o (p.flatMap Sp.mbC)) {k : Nat} (hk : k < p.length) :
  w.cell? ⟨b, o + k * 7, none⟩ = some (.int .i64 p[k].1.flags) ∧ w.cell? ⟨b, o + k * 7 + 1, none⟩ = some (.int .i64 p[k].1.name) ∧ w.cell? ⟨b, o + k * 7 + 2, none⟩ = some (.int .i64 p[k].1.desc) ∧ w.cell? ⟨b, o + k * 7 + 3, none⟩ = some (.int .i64 p[k].1.stack) ∧ w.cell? ⟨b, o + k * 7 + 4, none⟩ = some (.int .i64 p[k].1.locals) ∧ w.cell? ⟨b, o + k * 7 + 5, none⟩ = some (.string p[k].1.code) ∧ w.cell? ⟨b, o + k * 7 + 6, none⟩ = some (.slice p[k].2.1 p[k].1.hs.length p[k].2.2) :=
 ⟨rdL_get 7 Sp.mbC_len hr hk 0 (by decide) rfl, rdL_get 7 Sp.mbC_len hr hk 1 (by decide) rfl, rdL_get 7 Sp.mbC_len hr hk 2 (by decide) rfl, rdL_get 7 Sp.mbC_len hr hk 3 (by decide) rfl, rdL_get 7 Sp.mbC_len hr hk 4 (by decide) rfl, rdL_get 7 Sp.mbC_len hr hk 5 (by decide) rfl, rdL_get 7 Sp.mbC_len hr hk 6 (by decide) rfl⟩
theorem bytes_eqb (a b : ByteArray) : (a.toList == b.toList) = decide (a = b) := by
 rw [Bool.eq_iff_iff, decide_eq_true_eq]
 exact ⟨fun h => (bytes_beq_iff a b).1 (by simpa using h), fun h => by rw [h]; simp⟩
namespace Sp
theorem cname_tag (p : List Cn) (i : Int) : (cnameS p i).2 = taggedS p i 1 := by
 unfold cnameS taggedS
 cases get p i with
 | none => rfl
 | some c =>
  simp only
  by_cases h : c.tag = 1
  ·rw [if_pos h]; simp [h]
  ·rw [if_neg h]; simp [h]
theorem tag_at (p : List Cn) (i t : Int) (h : taggedS p i t = true) : ∃ (k : Nat) (hk : k < p.length), i = (k : Int) + 1 ∧ p[k].tag = t ∧ get p i = some p[k] := by
 unfold taggedS at h
 rcases get_cases p i with ⟨_, h2⟩ | ⟨_, _, h3⟩ | ⟨k, hk, h1, h3⟩
 ·rw [h2] at h; cases h
 ·rw [h3] at h; cases h
 ·rw [h3] at h
  exact ⟨k, hk, h1, by simpa using h, h3⟩
theorem cname_at (p : List Cn) (i : Int) (h : taggedS p i 1 = true) : ∃ (k : Nat) (hk : k < p.length), i = (k : Int) + 1 ∧ cnameS p i = (p[k].text, true) := by
 obtain ⟨k, hk, h1, h2, h3⟩ := tag_at p i 1 h
 exact ⟨k, hk, h1, by unfold cnameS; rw [h3]; simp only; rw [if_pos h2]⟩
end Sp
set_option maxHeartbeats 8000000 in
set_option maxRecDepth 100000 in
theorem refNamed_any (q : Sp.At) (F : FlP) (m : Sp.Mp) (me : Bool) (w : World) (hr : RdF w q F) (h1 : In64 m.1.name) (h2 : In64 m.1.desc) (hz : ∀ c ∈ F.pool, c.text.size ≤ 1099511627776) :
  Calls Tryz.prog 269 #[.agg (flC q F), Sp.mbV m, .bool me] w fun e w' => e = .returned (.int .i64 (Sp.linkS F.pool m.1.name m.1.desc me)) ∧ Below w.heap.size w w' := by
 obtain ⟨pool, fl, th, su, ifs, flds, mths⟩ := F
 obtain ⟨qA, qc, qI, qd, qX, qe, qY, qg⟩ := q
 obtain ⟨⟨mf, mn, md, ms, ml, mc, mh⟩, mA, mcap⟩ := m
 simp only [] at h1 h2 hz ⊢
 have hr0 := Lib.hid hr
 clear hr
 have HE := Lib.hid (show Sp.linkS pool mn md me = _ by rw [Sp.linkS])
 have hn := Lib.hid (Sp.cname_at pool mn)
 have hd := Lib.hid (Sp.cname_at pool md)
 have HE2 := Lib.hid HE.out
 rw [Sp.cname_tag, Sp.cname_tag] at HE2
 clear HE
 have k1 := Lib.hid (fun W hr => refTagged_any ⟨qA, qc, qI, qd, qX, qe, qY, qg⟩ ⟨pool, fl, th, su, ifs, flds, mths⟩ mn 1 W hr h1)
 have k2 := Lib.hid (fun W hr => refTagged_any ⟨qA, qc, qI, qd, qX, qe, qY, qg⟩ ⟨pool, fl, th, su, ifs, flds, mths⟩ md 1 W hr h2)
 have kt := Lib.hid (fun k (hk : k < pool.length) W hr => refText_any ⟨qA, qc, qI, qd, qX, qe, qY, qg⟩ ⟨pool, fl, th, su, ifs, flds, mths⟩ k hk W hr)
 have hz' := Lib.hid (fun k (hk : k < pool.length) => hz _ (List.getElem_mem hk))
 clear hz
 generalize Sp.linkS pool mn md me = R at HE2 ⊢
 simp only [] at k1 k2 kt
 generalize Sp.taggedS pool mn 1 = T at *
 generalize Sp.taggedS pool md 1 = U at *
 have hB := ((Below.refl w.heap.size w).alloc (Nat.le_refl _) (.cells (flC ⟨qA, qc, qI, qd, qX, qe, qY, qg⟩ ⟨pool, fl, th, su, ifs, flds, mths⟩) 26)).alloc (by simp) (.cells #[.int .i64 mf, .int .i64 mn, .int .i64 md, .int .i64 ms, .int .i64 ml, .string mc, .slice mA mh.length mcap] 131)
 have hK := Lib.hid (blk_old (o := .cells #[.int .i64 mf, .int .i64 mn, .int .i64 md, .int .i64 ms, .int .i64 ml, .string mc, .slice mA mh.length mcap] 131) (blk_new w (.cells (flC ⟨qA, qc, qI, qd, qX, qe, qY, qg⟩ ⟨pool, fl, th, su, ifs, flds, mths⟩) 26)))
 have hL := Lib.hid (blk_new (w.alloc (.cells (flC ⟨qA, qc, qI, qd, qX, qe, qY, qg⟩ ⟨pool, fl, th, su, ifs, flds, mths⟩) 26)) (.cells #[.int .i64 mf, .int .i64 mn, .int .i64 md, .int .i64 ms, .int .i64 ml, .string mc, .slice mA mh.length mcap] 131))
 rw [show (w.alloc (.cells (flC ⟨qA, qc, qI, qd, qX, qe, qY, qg⟩ ⟨pool, fl, th, su, ifs, flds, mths⟩) 26)).heap.size = w.heap.size + 1 by simp] at hL
 have hS := hB.size
 unfold flC at k1 k2 kt
 unfold Sp.mbV
 have hfl : flC ⟨qA, qc, qI, qd, qX, qe, qY, qg⟩ ⟨pool, fl, th, su, ifs, flds, mths⟩ = #[.slice qA pool.length qc, .int .i64 fl, .int .i64 th, .int .i64 su, .slice qI ifs.length qd, .slice qX flds.length qe, .slice qY mths.length qg] := rfl
 rw [hfl] at hB hS ⊢
 clear hfl
 simp only [] at k1 k2 kt ⊢
 go_enter Tryz.func269, Tryz.ntmps269
 go_wp2_with fail
 refine (k1.out _ (rdF_below hr0.out hB)).mono ?_
 rintro e w1 ⟨rfl, hb1⟩
 have K1 := Lib.hid (blk_below hK.out hb1)
 have L1 := Lib.hid (blk_below hL.out hb1)
 have B1 := below_then hB hS hb1
 have S1 := B1.size
 clear hK hL hB hS hb1 k1
 obtain ⟨c0, c1, c2, c3, c4, c5, c6⟩ := flC_box K1.out
 have e1 := (blk_cell L1.out 1 (.int .i64 mn) rfl).1
 have e2 := (blk_cell L1.out 2 (.int .i64 md) rfl).1
 go_wp2_with fail
 refine (k2.out _ (rdF_below hr0.out B1)).mono ?_
 rintro e w2 ⟨rfl, hb2⟩
 have K2 := Lib.hid (blk_below K1.out hb2)
 have L2 := Lib.hid (blk_below L1.out hb2)
 have B2 := below_then B1 S1 hb2
 have S2 := B2.size
 clear K1 L1 B1 S1 hb2 k2 c0 c1 c2 c3 c4 c5 c6 e1 e2
 cases T with
 | false =>
  have hR : R = 7 := by rw [HE2.out, if_pos (.inl rfl)]
  subst hR
  clear HE2
  go_wp2
  go_ret
  exact ⟨rfl, B2⟩
 | true =>
  cases U with
  | false =>
   have hR : R = 7 := by rw [HE2.out, if_pos (.inr rfl)]
   subst hR
   clear HE2
   go_wp2
   go_ret
   exact ⟨rfl, B2⟩
  | true =>
   obtain ⟨k, hk, rfl, hkn⟩ := hn.out rfl
   obtain ⟨j, hj, rfl, hjn⟩ := hd.out rfl
   have HF := Lib.hid HE2.out
   rw [if_neg (by rintro (h | h) <;> cases h), hkn, hjn] at HF
   have hs1 := hz'.out k hk
   have hs2 := hz'.out j hj
   have t1 := Lib.hid (fun W hr => kt.out k hk W hr)
   have t2 := Lib.hid (fun W hr => kt.out j hj W hr)
   clear HE2 hkn hjn hn hd kt hz'
   generalize pool[k].text = s1 at *
   generalize pool[j].text = s2 at *
   have k3 := Lib.hid (fun W => refName_any s1 W hs1)
   have k4 := Lib.hid (fun W => refDescribed_any s2 me W hs2)
   rw [Sp.refName_eq] at k3
   simp only [] at HF
   generalize Sp.nameS s1 = nb at *
   generalize Sp.descS s2 me = db at *
   obtain ⟨c0, c1, c2, c3, c4, c5, c6⟩ := flC_box K2.out
   have e1 := (blk_cell L2.out 1 (.int .i64 ((k : Int) + 1)) rfl).1
   go_wp2_with fail
   refine (t1.out _ (rdF_below hr0.out B2)).mono ?_
   rintro e w3 ⟨rfl, hb3⟩
   have K3 := Lib.hid (blk_below K2.out hb3)
   have L3 := Lib.hid (blk_below L2.out hb3)
   have B3 := below_then B2 S2 hb3
   have S3 := B3.size
   clear K2 L2 B2 S2 hb3 t1 c0 c1 c2 c3 c4 c5 c6 e1
   go_wp2_with fail
   refine (k3.out _).mono ?_
   rintro e w4 ⟨rfl, hb4⟩
   have K4 := Lib.hid (blk_below K3.out hb4)
   have L4 := Lib.hid (blk_below L3.out hb4)
   have B4 := below_then B3 S3 hb4
   have S4 := B4.size
   clear K3 L3 B3 S3 hb4 k3
   cases nb with
   | false =>
    have hR : R = 8 := HF.out
    subst hR
    clear HF
    go_wp2
    go_ret
    exact ⟨rfl, B4⟩
   | true =>
    have hR : R = db := HF.out
    subst hR
    clear HF
    obtain ⟨c0, c1, c2, c3, c4, c5, c6⟩ := flC_box K4.out
    have e2 := (blk_cell L4.out 2 (.int .i64 ((j : Int) + 1)) rfl).1
    go_wp2_with fail
    refine (t2.out _ (rdF_below hr0.out B4)).mono ?_
    rintro e w5 ⟨rfl, hb5⟩
    have B5 := below_then B4 S4 hb5
    have S5 := B5.size
    clear K4 L4 B4 S4 hb5 t2 c0 c1 c2 c3 c4 c5 c6 e2
    go_wp2_with fail
    refine (k4.out _).mono ?_
    rintro e w6 ⟨rfl, hb6⟩
    go_wp2
    go_ret
    exact ⟨rfl, below_then B5 S5 hb6⟩
end Go.Proofs.YtjjlcoimaihdoaaGreatDoor
namespace Go.Proofs.YtjjlcoimaihdoaaGreatDoor
open Go.RowKit Go.Maps
def heldR (v : Value) : Option (DataW Value × List MemPlace) := some (.held v, [])
def MapV (P : Program) (w : World) (k : TypeId) (b n : Nat) (f : Value → Option Value) : Prop :=
 ∃ D : DataW Value, w.ownsMap P k heldR b n D ∧ ∀ key kl, keyOf P k key = some kl → Maps.has D kl = (f key).isSome ∧ ∀ v, f key = some v → ∀ z, D.atKey kl z = .held v
section
variable {P : Program} {w : World} {k : TypeId} {b n : Nat} {f f' : Value → Option Value}
theorem mapV_made (w : World) (P : Program) (k : TypeId) : MapV P (w.alloc (.map #[] 0)) k w.heap.size 0 (fun _ => none) :=
 ⟨_, World.ownsMap_made w P k heldR, fun key kl h => ⟨rfl, fun v hv => by cases hv⟩⟩
theorem mapV_lt (h : MapV P w k b n f) : b < w.heap.size := by
 obtain ⟨D, h, _⟩ := h
 exact h.lt
theorem mapV_block {w' : World} (h : MapV P w k b n f) (hb : w'.heap[b]? = w.heap[b]?) : MapV P w' k b n f := by
 obtain ⟨D, ⟨es, clock, h1, h2, h3, h4⟩, h⟩ := h
 exact ⟨D, ⟨es, clock, hb.trans h1, h2, h3, h4⟩, h⟩
theorem mapV_congr (h : MapV P w k b n f) (hf : ∀ x, f' x = f x) : MapV P w k b n f' := by
 rw [show f' = f from funext hf]
 exact h
theorem mapV_look {t e : TypeId} (h : MapV P w k b n f) (K : Keyed P k) (ht : P.underlying t = some (.map k e)) {z : Value} (hz : (zeroValue e).run P w = .ok z w) {key : Value} {kl : Lit} (hkey : keyOf P k key = some kl) :
  (Instr.lookup t (.map (some b)) key true).run P w = .ok (.tuple #[(f key).getD z, .bool (f key).isSome]) w ∧ (Instr.lookup t (.map (some b)) key false).run P w = .ok ((f key).getD z) w := by
 obtain ⟨D, h1, h2⟩ := h
 obtain ⟨e1, e2⟩ := h2 key kl hkey
 obtain ⟨v, ps, hrun, hv⟩ := h1.look_ok (t := t) (zd := .held z) (zp := []) K ht hz rfl hkey
 obtain ⟨v', ps', hrun', hv'⟩ := h1.lookup (t := t) (zd := .held z) (zp := []) K ht hz rfl hkey
 have hat : D.atKey kl (.held z) = .held ((f key).getD z) := by
  cases hf : f key with
  | none =>
   rw [hf] at e1
   rw [Maps.atKey_of_not_has e1]
   rfl
  | some u => rw [e2 u hf]; rfl
 rw [hat] at hv hv'
 simp only [heldR, Option.some.injEq, Prod.mk.injEq, DataW.held.injEq] at hv hv'
 rw [hrun, hrun', hv.1, hv'.1, e1]
 exact ⟨rfl, rfl⟩
theorem mapV_alloc (h : MapV P w k b n f) (o : Obj) : MapV P (w.alloc o) k b n f := mapV_block h (Below.heap_alloc _ _ _ (mapV_lt h))
theorem mapV_set (h : MapV P w k b n f) {a : Addr} (hne : b ≠ a.block) (v : Value) : MapV P (w.setCell a v) k b n f := mapV_block h (Below.heap_setCell _ _ _ _ hne)
end
theorem wpList_lookup_mapV {P : Program} (w : World) {ops : Array Oper} {rest : List Oper} {o : Oper} {a : Act} {Q : Exit → Act → World → Prop}
  (hg : o.guard = none) (m x : Operand) (t : TypeId) (hop : o.op = Op.lookup t m x false)
  (k e : TypeId) (K : Keyed P k) (ht : P.underlying t = some (.map k e)) {z : Value} (hz : (zeroValue e).run P w = .ok z w) (b n : Nat) (f : Value → Option Value)
  (hm : a.eval m = .map (some b)) (hown : MapV P w k b n f) (key : Value) (kl : Lit) (hx : a.eval x = key) (hkey : keyOf P k key = some kl) (r : Option Value) (hr : f key = r)
  (hK : wpList P ops Q rest (a.put o.dst (r.getD z)) w) :
  wpList P ops Q (o :: rest) a w := by
 subst hr
 refine wpList_plain hg fun K' hK' => ?_
 have hrun := (mapV_look (t := t) hown K ht hz hkey).2
 unfold Oper.wp
 simp [execOp, hop, hm, hx, hrun, Result.andThen]
 exact hK' _ _ hK
theorem mapV_update {P : Program} {w : World} {k t e : TypeId} {b n : Nat} {f f' : Value → Option Value} (h : MapV P w k b n f) (K : Keyed P k) (ht : P.underlying t = some (.map k e)) (hn : n < maxLen) {key val : Value} {kl : Lit}
  (hkey : keyOf P k key = some kl) (hf : f' key = some val) (ho : ∀ x, x ≠ key → f' x = f x) :
  ∃ w', (Instr.mapUpdate t (.map (some b)) key val).run P w = .ok () w' ∧ MapV P w' k b (n + 1) f' ∧ w.grownBy w' (some b) := by
 obtain ⟨D, h1, h2⟩ := h
 obtain ⟨w', hrun, hown, hg⟩ := h1.update (t := t) (d := .held val) (ps := []) K ht hn hkey rfl
 refine ⟨w', hrun, ⟨_, hown, fun key' kl' hk' => ?_⟩, hg⟩
 by_cases hx : key' = key
 ·subst hx
  obtain rfl : kl' = kl := by rw [hkey] at hk'; exact (Option.some.inj hk').symm
  refine ⟨by rw [hf]; exact Maps.has_put_same h1.isMap (K.key hkey) _, fun v hv z => ?_⟩
  rw [hf] at hv
  cases hv
  exact Maps.atKey_put_same h1.isMap (K.key hkey) _ _
 ·have hne : kl' ≠ kl := fun q => hx (K.inj (by rw [hk', q]) hkey)
  obtain ⟨e1, e2⟩ := h2 key' kl' hk'
  rw [ho key' hx]
  exact ⟨by rw [Maps.has_put_other hne]; exact e1, fun v hv z => by rw [Maps.atKey_put_other hne]; exact e2 v hv z⟩
theorem wpList_mapUpdate_mapV {P : Program} (w : World) {ops : Array Oper} {rest : List Oper} {o : Oper} {a : Act} {Q : Exit → Act → World → Prop}
  (hg : o.guard = none) (m x v : Operand) (t : TypeId) (hop : o.op = Op.mapUpdate t m x v)
  (k e : TypeId) (K : Keyed P k) (ht : P.underlying t = some (.map k e)) (b n : Nat) (f f' : Value → Option Value)
  (hm : a.eval m = .map (some b)) (hown : MapV P w k b n f) (hn : n < maxLen) (key val : Value) (kl : Lit) (hx : a.eval x = key) (hv : a.eval v = val) (hkey : keyOf P k key = some kl)
  (hf : f' key = some val) (ho : ∀ x, x ≠ key → f' x = f x)
  (hK : ∀ w', MapV P w' k b (n + 1) f' → w.grownBy w' (some b) → wpList P ops Q rest (a.put o.dst undef) w') :
  wpList P ops Q (o :: rest) a w := by
 refine wpList_plain hg fun K' hK' => ?_
 obtain ⟨w', hrun, r1, r2⟩ := mapV_update (t := t) hown K ht hn hkey hf ho
 unfold Oper.wp
 simp [execOp, hop, hm, hx, hv, hrun, Result.andThen]
 exact hK' _ _ (hK w' r1 r2)
structure Keeps (S : Nat → Prop) (w w' : World) : Prop where
 os : w'.os = w.os
 tape : w'.tape = w.tape
 output : w'.output = w.output
 size : w.heap.size ≤ w'.heap.size
 block : ∀ k, k < w.heap.size → ¬ S k → w'.heap[k]? = w.heap[k]?
section
variable {S S' : Nat → Prop} {w w1 w2 : World}
theorem Keeps.refl (S : Nat → Prop) (w : World) : Keeps S w w := ⟨rfl, rfl, rfl, Nat.le_refl _, fun _ _ _ => rfl⟩
theorem Keeps.trans (h : Keeps S w w1) (k : Keeps S w1 w2) : Keeps S w w2 :=
 ⟨k.os.trans h.os, k.tape.trans h.tape, k.output.trans h.output, Nat.le_trans h.size k.size, fun i hi hs => (k.block i (Nat.lt_of_lt_of_le hi h.size) hs).trans (h.block i hi hs)⟩
theorem Keeps.then (h : Keeps S w w1) (k : Keeps S' w1 w2) (hs : ∀ i, S' i → S i ∨ w.heap.size ≤ i) : Keeps S w w2 :=
 ⟨k.os.trans h.os, k.tape.trans h.tape, k.output.trans h.output, Nat.le_trans h.size k.size, fun i hi hn => (k.block i (Nat.lt_of_lt_of_le hi h.size) (fun q => (hs i q).elim hn (fun r => by omega))).trans (h.block i hi hn)⟩
theorem Keeps.mono (h : Keeps S w w1) (hs : ∀ i, S i → S' i) : Keeps S' w w1 := ⟨h.os, h.tape, h.output, h.size, fun i hi hn => h.block i hi (fun q => hn (hs i q))⟩
theorem Keeps.of_below (h : Below w.heap.size w w1) : Keeps S w w1 := ⟨h.os, h.tape, h.output, h.size, fun i hi _ => h.block i hi⟩
theorem Keeps.of_grown {row : Option Nat} (h : w.grownBy w1 row) (hr : ∀ k, row = some k → S k ∨ w.heap.size ≤ k) : Keeps S w w1 :=
 ⟨h.os, h.tape, h.output, h.size, fun i hi hn => h.block i hi (fun e => (hr i e.symm).elim hn (fun r => by omega))⟩
theorem Keeps.below {B : Nat} (h : Keeps S w w1) (hB : B ≤ w.heap.size) (hs : ∀ i, S i → B ≤ i) : Below B w w1 :=
 ⟨h.os, h.tape, h.output, h.size, fun i hi => h.block i (Nat.lt_of_lt_of_le hi hB) (fun q => by have := hs i q; omega)⟩
theorem Keeps.alloc (h : Keeps S w w1) (o : Obj) : Keeps S w (w1.alloc o) :=
 h.trans ⟨rfl, rfl, rfl, by simp, fun k hk _ => Below.heap_alloc _ _ _ hk⟩
theorem Keeps.drew (h : Keeps S w w1) : Keeps S w w1.drew := ⟨h.os, h.tape, h.output, h.size, h.block⟩
theorem Keeps.drewN (h : Keeps S w w1) (n : Nat) : Keeps S w (w1.drewN n) := ⟨h.os, h.tape, h.output, h.size, h.block⟩
theorem Keeps.setCell (h : Keeps S w w1) {a : Addr} (ha : S a.block ∨ w.heap.size ≤ a.block) (v : Value) : Keeps S w (w1.setCell a v) :=
 ⟨h.os, h.tape, h.output, by simpa [World.setCell] using h.size, fun i hi hn => (Below.heap_setCell _ _ _ _ (fun e => by subst e; exact ha.elim hn (fun r => by omega))).trans (h.block i hi hn)⟩
theorem Keeps.cell (h : Keeps S w w1) {a : Addr} {v : Value} (hc : w.cell? a = some v) (hn : ¬ S a.block) : w1.cell? a = some v :=
 (World.cell?_of_block (h.block a.block (World.block_lt_of_cell? w a hc) hn)).trans hc
theorem Keeps.obj (h : Keeps S w w1) {b : Nat} {o : Obj} (hc : w.heap[b]? = some o) (hn : ¬ S b) : w1.heap[b]? = some o :=
 (h.block b (by obtain ⟨q, _⟩ := Array.getElem?_eq_some_iff.1 hc; exact q) hn).trans hc
theorem Keeps.row {base : Nat} {e : TypeId} {size : Nat} {v : Value} {n : Nat} {xs : List Value} (h : Keeps S w w1) (hr : w.ownsRow base e size v n xs) (hn : ∀ k, v.ownBlock = some k → ¬ S k) : w1.ownsRow base e size v n xs := by
 refine ⟨hr.1, ?_⟩
 rcases hr.2 with h2 | ⟨g, cap, cur, rfl, hb, hg, rest⟩
 ·exact .inl h2
 ·exact .inr ⟨g, cap, cur, rfl, hb, h.obj hg (hn g rfl), rest⟩
end
end Go.Proofs.YtjjlcoimaihdoaaGreatDoor
namespace Go.Proofs.YtjjlcoimaihdoaaGreatDoor
open Go.RowKit Go.Lib Go.Maps Go.WideMaps
namespace Sp
def inS (had : List (ByteArray × ByteArray)) (k : ByteArray × ByteArray) : Bool := had.any fun p => decide (p.1 = k.1) && decide (p.2 = k.2)
theorem inS_iff (had : List (ByteArray × ByteArray)) (a b : ByteArray) : inS had (a, b) = true ↔ (a, b) ∈ had := by
 unfold inS
 rw [List.any_eq_true]
 constructor
 ·rintro ⟨⟨c, d⟩, hp, he⟩
  simp at he
  obtain ⟨rfl, rfl⟩ := he
  exact hp
 ·intro h
  exact ⟨(a, b), h, by simp⟩
def memF (chk : Mb → Int) (key : Mb → ByteArray × ByteArray) : List (ByteArray × ByteArray) → List Mb → Int
 | _, [] => 0
 | had, m :: l => if chk m ≠ 0 then chk m else if inS had (key m) = true then 15 else memF chk key (key m :: had) l
def memS (chk : Mb → Int) (key : Mb → ByteArray × ByteArray) (l : List Mb) : Int := if 200 < l.length then 3 else memF chk key [] l
def keyM (p : List Cn) (method : Bool) (m : Mb) : ByteArray × ByteArray := ((cnameS p m.name).1, if method = true then (cnameS p m.desc).1 else ⟨#[]⟩)
open Classical in
noncomputable def hadF (had : List (ByteArray × ByteArray)) (x : Value) : Option Value := if ∃ p ∈ had, x = .agg #[.string p.1, .string p.2] then some (.int .i64 1) else none
theorem hadF_in {had : List (ByteArray × ByteArray)} {a b : ByteArray} (h : (a, b) ∈ had) : hadF had (.agg #[.string a, .string b]) = some (.int .i64 1) := by
 unfold hadF
 rw [if_pos ⟨(a, b), h, rfl⟩]
theorem hadF_out {had : List (ByteArray × ByteArray)} {a b : ByteArray} (h : (a, b) ∉ had) : hadF had (.agg #[.string a, .string b]) = none := by
 unfold hadF
 rw [if_neg]
 rintro ⟨⟨c, d⟩, hp, he⟩
 simp at he
 obtain ⟨rfl, rfl⟩ := he
 exact h hp
theorem hadF_put (had : List (ByteArray × ByteArray)) (a b : ByteArray) (x : Value) (h : x ≠ .agg #[.string a, .string b]) : hadF ((a, b) :: had) x = hadF had x := by
 unfold hadF
 congr 1
 apply propext
 constructor
 ·rintro ⟨p, hp, he⟩
  rcases List.mem_cons.1 hp with rfl | hp
  ·exact absurd he h
  ·exact ⟨p, hp, he⟩
 ·rintro ⟨p, hp, he⟩
  exact ⟨p, List.mem_cons_of_mem _ hp, he⟩
theorem hadF_nil (x : Value) : hadF [] x = none := by
 unfold hadF
 rw [if_neg]
 rintro ⟨p, hp, _⟩
 cases hp
end Sp
theorem keyArr : ArrKey Tryz.prog 324 9 2 := ⟨Tryz.underlying324, by kernel_rfl, by kernel_rfl, by kernel_rfl⟩
theorem keyLaw2 : Keyed Tryz.prog 324 := Keyed.of_law (deep_law_laid (m := 2) (by kernel_rfl) (by omega) (by exact of_decide_eq_true (by kernel_rfl)) (by kernel_rfl) (by rw [Tryz.underlying324]))
theorem zeroInt (w : World) : (zeroValue 3).run Tryz.prog w = .ok (.int .i64 0) w := by kernel_rfl
theorem keyOf2 (a b : ByteArray) (ha : a.size ≤ maxLen) (hb : b.size ≤ maxLen) : keyOf Tryz.prog 324 (.agg #[.string a, .string b]) = some (.string (keyBytes [.string a.data.toList, .string b.data.toList])) := by
 have A := keyArr
 obtain ⟨m, hm⟩ : ∃ m, Tryz.prog.types.size = m + 1 := ⟨Tryz.prog.types.size - 1, by have : 0 < Tryz.prog.types.size := of_decide_eq_true (by kernel_rfl); omega⟩
 have hkt := A.keyType ⟨m, hm⟩
 unfold keyOf
 simp only [A.hu]
 rw [if_pos (by simp [hkt, Value.formed, A.hu, A.size]), hm]
 unfold Program.keyLits
 simp only [A.hu, Value.cells]
 rw [if_pos (by rw [A.size]; rfl), show List.range 2 = [0, 1] from rfl, List.mapM_cons, List.mapM_cons, List.mapM_nil]
 simp [A.one, Program.keyLits, Tryz.underlying9, ha, hb]
set_option maxHeartbeats 16000000 in
set_option maxRecDepth 100000 in
theorem members_any (q : Sp.At) (F : FlP) (l : List Sp.Mp) (A : Option Addr) (c : Nat) (f : FuncId) (method : Bool) (chk : Sp.Mb → Int) (w : World) (hr : RdF w q F) (hm : RdM w A l) (hI : ∀ m ∈ l, In64 m.1.name ∧ In64 m.1.desc)
  (hz : ∀ c ∈ F.pool, c.text.size ≤ 1099511627776) (hent : ∀ (args : Array Value) W, (callFunc f args).run Tryz.prog W = .ok (.enter f args) W)
  (hchk : ∀ m ∈ l, ∀ W, Below w.heap.size w W → Calls Tryz.prog f #[.agg (flC q F), Sp.mbV m] W fun e W' => e = .returned (.int .i64 (chk m.1)) ∧ Below W.heap.size W W') :
  Calls Tryz.prog 219 #[.agg (flC q F), .slice A l.length c, .func (.func f) #[] #[], .bool method] w fun e w' => e = .returned (.int .i64 (Sp.memS chk (Sp.keyM F.pool method) (l.map (·.1)))) ∧ Below w.heap.size w w' := by
 have hmm := @run_makeMap Tryz.prog
 have HE := Lib.hid (show Sp.memS chk (Sp.keyM F.pool method) (l.map (·.1)) = _ by rw [Sp.memS])
 generalize Sp.memS chk (Sp.keyM F.pool method) (l.map (·.1)) = R at HE ⊢
 rw [List.length_map] at HE
 have hr0 := Lib.hid hr
 have hl := hm.1.1
 have HM := Lib.hid hm.1.2
 have HI := Lib.hid hI
 have HC := Lib.hid hchk
 have hzs := Lib.hid (Sp.cname_size F.pool hz)
 have kn := Lib.hid (fun i (hi : In64 i) W hr => cname_any q F i W hr hi)
 have hfl : flC q F = #[.slice q.A F.pool.length q.c, .int .i64 F.flags, .int .i64 F.this, .int .i64 F.super, .slice q.I F.ifaces.length q.d, .slice q.X F.fields.length q.e, .slice q.Y F.methods.length q.g] := rfl
 have hK := Lib.hid (blk_new w (.cells (flC q F) 26))
 have hB := (Below.refl w.heap.size w).alloc (Nat.le_refl _) (.cells (flC q F) 26)
 rw [hfl] at HC kn hB
 clear hr hm hI hchk hz
 by_cases h200 : 200 < l.length
 ·have hR : R = 3 := by rw [HE.out, if_pos h200]
  have hzz : (200 : Int) < (l.length : Int) := by omega
  subst hR
  rw [hfl]
  clear HE hK hfl
  go_enter Tryz.func219, Tryz.ntmps219
  go_wp2
  go_step3
  go_wp2
  (try rw [Exit.noGoto_ret])
  go_ret
  exact ⟨rfl, hB⟩
 have hzz : decide ((200 : Int) < (l.length : Int)) = false := decide_eq_false (by omega)
 have HF := Lib.hid (show Sp.memF chk (Sp.keyM F.pool method) [] (l.map (·.1)) = R by rw [HE.out, if_neg h200])
 have K0 := Lib.hid (blk_old (o := .map #[] 0) hK.out)
 have B0 := Lib.hid (hB.alloc (by simp) (.map #[] 0))
 have M0 : Hid (MapV Tryz.prog ((w.alloc (.cells (flC q F) 26)).alloc (.map #[] 0)) 324 (w.heap.size + 1) 0 (Sp.hadF [])) := Lib.hid (by
  have := mapV_made (w.alloc (.cells (flC q F) 26)) Tryz.prog 324
  rw [show (w.alloc (.cells (flC q F) 26)).heap.size = w.heap.size + 1 by simp] at this
  exact mapV_congr this (fun x => by rw [Sp.hadF_nil]))
 clear HE hK hB
 rw [hfl] at K0 M0 ⊢
 clear hfl
 have hone : ((l.length : Int) == 1) = true ∨ (((l.length : Int) == 1) = false) := by cases ((l.length : Int) == 1) <;> simp
 go_enter Tryz.func219, Tryz.ntmps219
 go_wp2
 go_step3
 go_wp2
 go_step3
 go_wp2
 go_loopw [20] (fun v20 wr => ∃ (k : Nat) (had : List (ByteArray × ByteArray)), v20 = .int .i64 k ∧ k ≤ l.length ∧ Hid (Below w.heap.size w wr) ∧ Hid (wr.heap[w.heap.size]? = some (.cells #[.slice q.A F.pool.length q.c, .int .i64 F.flags, .int .i64 F.this, .int .i64 F.super, .slice q.I F.ifaces.length q.d, .slice q.X F.fields.length q.e, .slice q.Y F.methods.length q.g] 26 (0, 0))) ∧ Hid (((l.length : Int) == 1) = false → MapV Tryz.prog wr 324 (w.heap.size + 1) k (Sp.hadF had)) ∧ Hid (((l.length : Int) == 1) = true → k = 0 → had = []) ∧ Hid (Sp.memF chk (Sp.keyM F.pool method) had ((l.drop k).map (·.1)) = R)) (fun v20 _ => l.length - (RowKit.intOf v20).toNat)
 case atStart => exact ⟨0, [], by go_num, Nat.zero_le _, B0, K0, Lib.hid (fun _ => M0.out), Lib.hid (fun _ _ => rfl), HF⟩
 case round =>
  clear B0 K0 M0 HF
  obtain ⟨k, had, rfl, hk, HB, hK, hM, h0, hf⟩ := hrel
  have hb := HB.out
  have hbz := hb.size
  have hlb := blk_lt hK.out
  obtain ⟨c0, c1, c2, c3, c4, c5, c6⟩ := flC_box hK.out
  by_cases hlt : k < l.length
  ·obtain ⟨b, o, rfl, hrg⟩ := HM.out (by omega)
   obtain ⟨d0, d1, d2, d3, d4, d5, d6⟩ := mb_cells hrg hlt
   have D0 := cell_below hb d0
   have D1 := cell_below hb d1
   have D2 := cell_below hb d2
   have D3 := cell_below hb d3
   have D4 := cell_below hb d4
   have D5 := cell_below hb d5
   have D6 := cell_below hb d6
   have hzk : (k : Int) < (l.length : Int) := by omega
   have hin := HI.out _ (List.getElem_mem hlt)
   have hcm := Lib.hid (HC.out _ (List.getElem_mem hlt))
   have hf2 := hf.out
   rw [List.drop_eq_getElem_cons hlt, List.map_cons, Sp.memF] at hf2
   have hf3 := Lib.hid hf2
   clear hf hf2 hrg d0 d1 d2 d3 d4 d5 d6
   generalize l[k] = m at *
   obtain ⟨⟨mf, mn, md, ms, ml, mc, mh⟩, mA, mcap⟩ := m
   simp only [] at D0 D1 D2 D3 D4 D5 D6 hin hcm hf3
   obtain ⟨hin1, hin2⟩ := hin
   have hin1 := Lib.hid hin1
   have hin2 := Lib.hid hin2
   unfold Sp.mbV at hcm
   simp only [] at hcm
   have hbt := hb.alloc hbz (.cells #[.int .i64 mf, .int .i64 mn, .int .i64 md, .int .i64 ms, .int .i64 ml, .string mc, .slice mA mh.length mcap] 131)
   have hKt := Lib.hid (blk_old (o := .cells #[.int .i64 mf, .int .i64 mn, .int .i64 md, .int .i64 ms, .int .i64 ml, .string mc, .slice mA mh.length mcap] 131) hK.out)
   have hMt := Lib.hid (blk_new wr (.cells #[.int .i64 mf, .int .i64 mn, .int .i64 md, .int .i64 ms, .int .i64 ml, .string mc, .slice mA mh.length mcap] 131))
   have hMa := Lib.hid (fun h => mapV_alloc (hM.out h) (.cells #[.int .i64 mf, .int .i64 mn, .int .i64 md, .int .i64 ms, .int .i64 ml, .string mc, .slice mA mh.length mcap] 131))
   have hbtz := hbt.size
   generalize hcv : chk ⟨mf, mn, md, ms, ml, mc, mh⟩ = cv at *
   go_wp2_with fail
   refine (hcm.out _ hbt).mono ?_
   rintro e w2 ⟨rfl, hb2⟩
   have K2 := Lib.hid (blk_below hKt.out hb2)
   have M2 := Lib.hid (blk_below hMt.out hb2)
   have A2 := Lib.hid (fun h => mapV_block (hMa.out h) (hb2.block _ (mapV_lt (hMa.out h))))
   have B2 := below_then hbt hbtz hb2
   have S2 := B2.size
   clear hb HB hK hM hlb c0 c1 c2 c3 c4 c5 c6 D0 D1 D2 D3 D4 D5 D6 hcm hbt hKt hMt hMa hbtz hb2 hcv
   by_cases hcz : cv = 0
   ·subst hcz
    have hf4 := Lib.hid hf3.out
    rw [if_neg (by simp)] at hf4
    clear hf3
    rcases hone with h1 | h1
    ·have hl1 : l.length = 1 := by have := beq_iff_eq.1 h1; omega
     have hk0 : k = 0 := by omega
     subst hk0
     have hd := h0.out h1 rfl
     subst hd
     rw [if_neg (by simp [Sp.inS])] at hf4
     have A3 : Hid (((l.length : Int) == 1) = false → MapV Tryz.prog w2 324 (w.heap.size + 1) (0 + 1) (Sp.hadF [Sp.keyM F.pool method ⟨mf, mn, md, ms, ml, mc, mh⟩])) := Lib.hid (fun h => by rw [h1] at h; cases h)
     have A4 : Hid (((l.length : Int) == 1) = true → 0 + 1 = 0 → [Sp.keyM F.pool method ⟨mf, mn, md, ms, ml, mc, mh⟩] = ([] : List (ByteArray × ByteArray))) := Lib.hid (fun _ h => by omega)
     have B2' := Lib.hid B2
     have hl1 := Lib.hid hl1
     clear h0 A2 B2
     go_wp2
     go_roundw
     case rel =>
      have e := hl1.out
      rw [e] at A3 A4 ⊢
      (repeat apply Exists.intro)
      exact ⟨⟨0 + 1, _, by go_num, by omega, B2', K2, A3, A4, hf4⟩, rfl⟩
     case measure => have := hl1.out; simp [RowKit.intOf]; omega
    ·obtain ⟨c0, c1, c2, c3, c4, c5, c6⟩ := flC_box K2.out
     have e1 := (blk_cell M2.out 1 (.int .i64 mn) rfl).1
     have A3 := Lib.hid (A2.out h1)
     clear A2 h0
     have hn1 := Lib.hid (hzs.out mn)
     have hn2 := Lib.hid (hzs.out md)
     have kn1 := Lib.hid (fun W hr => kn.out mn hin1.out W hr)
     have kn2 := Lib.hid (fun W hr => kn.out md hin2.out W hr)
     have hkey : Sp.keyM F.pool method ⟨mf, mn, md, ms, ml, mc, mh⟩ = ((Sp.cnameS F.pool mn).1, if method = true then (Sp.cnameS F.pool md).1 else ⟨#[]⟩) := rfl
     rw [hkey] at hf4
     have hf5 := Lib.hid hf4
     clear hf4 hkey kn hzs
     generalize Sp.cnameS F.pool mn = N1 at *
     generalize Sp.cnameS F.pool md = N2 at *
     obtain ⟨n1, z1⟩ := N1
     obtain ⟨n2, z2⟩ := N2
     simp only [] at hn1 hn2 kn1 kn2 hf5
     have hB3 := Lib.hid (B2.alloc S2 (.cells #[.string ⟨#[]⟩, .string ⟨#[]⟩] 324))
     have hz3 := hB3.out.size
     have hR3 := Lib.hid (rdF_below hr0.out (hB3.out))
     have hlb2 := blk_lt K2.out
     have hlm2 := blk_lt M2.out
     have hml := mapV_lt A3.out
     have hbm : w.heap.size + 1 ≠ w2.heap.size := by omega
     have K3 := Lib.hid (blk_old (o := .cells #[.string ⟨#[]⟩, .string ⟨#[]⟩] 324) K2.out)
     have M3 := Lib.hid (blk_old (o := .cells #[.string ⟨#[]⟩, .string ⟨#[]⟩] 324) M2.out)
     have A5 := Lib.hid (mapV_alloc A3.out (.cells #[.string ⟨#[]⟩, .string ⟨#[]⟩] 324))
     have C3 := Lib.hid (blk_new w2 (.cells #[.string ⟨#[]⟩, .string ⟨#[]⟩] 324))
     clear B2 K2 A3
     go_wp2_with fail
     refine (kn1.out _ hR3.out).mono ?_
     rintro e w4 ⟨rfl, hb4⟩
     have hB4 := Lib.hid (below_then hB3.out hz3 hb4)
     have hz4 := hB4.out.size
     have K4 := Lib.hid (blk_below K3.out hb4)
     have M4 := Lib.hid (blk_below M3.out hb4)
     have C4 := Lib.hid (blk_below C3.out hb4)
     have A6 := Lib.hid (mapV_block A5.out (hb4.block _ (mapV_lt A5.out)))
     have hlk4 := blk_lt K4.out
     have hlm4 := blk_lt M4.out
     have hlc4 := blk_lt C4.out
     clear hb4 K3 M3 C3 A5 hB3 hz3 hR3 kn1 c0 c1 c2 c3 c4 c5 c6 e1 hml M2
     obtain ⟨a0, g0⟩ := blk_cell C4.out 0 _ rfl
     obtain ⟨a1, g1⟩ := blk_cell C4.out 1 _ rfl
     have K5 := Lib.hid (blk_other K4.out ⟨w2.heap.size, 0, none⟩ (.string n1) (by simp; omega))
     have M5 := Lib.hid (blk_other M4.out ⟨w2.heap.size, 0, none⟩ (.string n1) (by simp; omega))
     have C5 : Hid ((w4.setCell ⟨w2.heap.size, 0, none⟩ (.string n1)).heap[w2.heap.size]? = some (.cells #[.string n1, .string ⟨#[]⟩] 324 (0, 0))) := Lib.hid (blk_set (i := 0) C4.out (.string n1))
     have MM := Lib.hid (mapV_set A6.out (a := ⟨w2.heap.size, 0, none⟩) (by simp; omega) (.string n1))
     have B5 := Lib.hid (hB4.out.setCell (p := ⟨w2.heap.size, 0, none⟩) (by simp; omega) (.string n1))
     clear A6
     cases method
     ·simp only [Bool.false_eq_true, if_false] at hf5
      clear kn2
      have kS := Lib.hid (keyOf2 n1 ⟨#[]⟩ (by have := hn1.out; unfold maxLen; omega) (by decide))
      have P1 := Lib.hid (Sp.hadF_in (had := (n1, ⟨#[]⟩) :: had) (List.mem_cons_self ..))
      have P2 := Lib.hid (Sp.hadF_put had n1 ⟨#[]⟩)
      by_cases hi : Sp.inS had (n1, ⟨#[]⟩) = true
      ·have hR : R = 15 := by have := hf5.out; first | rw [if_pos hi] at this; exact this.symm | (simp [hi] at this; exact this.symm)
       have HA := Lib.hid (Sp.hadF_in ((Sp.inS_iff _ _ _).1 hi))
       subst hR
       clear hf5 hi
       go_wp2_with (at_lookup; refine wpList_lookup_mapV _ rfl _ _ 323 rfl 324 3 keyLaw2 Tryz.underlying323 (zeroInt _) (w.heap.size + 1) k (Sp.hadF had) rfl MM.out _ _ rfl kS.out (some (.int .i64 1)) HA.out ?_)
       (try rw [Exit.noGoto_ret])
       go_ret
       exact ⟨rfl, B5.out⟩
      ·have HA := Lib.hid (Sp.hadF_out (fun q => hi ((Sp.inS_iff _ _ _).2 q)))
       have hf6 := Lib.hid (show Sp.memF chk (Sp.keyM F.pool false) ((n1, ⟨#[]⟩) :: had) ((l.drop (k + 1)).map (·.1)) = R by have := hf5.out; first | (rw [if_neg hi] at this; exact this) | (simp [hi] at this; exact this))
       clear hf5 hi
       go_wp2_with (first | (at_lookup; refine wpList_lookup_mapV _ rfl _ _ 323 rfl 324 3 keyLaw2 Tryz.underlying323 (zeroInt _) (w.heap.size + 1) k (Sp.hadF had) rfl MM.out _ _ rfl kS.out none HA.out ?_) | (at_mapUpdate; refine wpList_mapUpdate_mapV _ rfl _ _ _ 323 rfl 324 3 keyLaw2 Tryz.underlying323 (w.heap.size + 1) k (Sp.hadF had) (Sp.hadF ((n1, ⟨#[]⟩) :: had)) rfl MM.out ?y1 _ _ _ rfl rfl kS.out P1.out P2.out ?_))
       case y1 => unfold maxLen; omega
       intro w9 m9 hg9
       have K9 := Lib.hid (blk_grown K5.out hg9 (by intro e; injection e; omega))
       have B9 := Lib.hid (B5.out.grown hg9 (by have := B5.out.size; omega) (fun q hq => by injection hq with hq; omega))
       have M9 := Lib.hid (fun (_ : ((l.length : Int) == 1) = false) => m9)
       have h9 : Hid (((l.length : Int) == 1) = true → k + 1 = 0 → (n1, ⟨#[]⟩) :: had = []) := Lib.hid (fun _ h => by omega)
       clear m9 hg9 MM
       go_wp2
       go_roundw
       case rel => exact ⟨k + 1, _, by go_num, by omega, B9, K9, M9, h9, hf6⟩
       case measure => simp [RowKit.intOf]; omega
     ·simp only [if_true] at hf5
      obtain ⟨c0, c1, c2, c3, c4, c5, c6⟩ := flC_box K4.out
      have e2 := (blk_cell M4.out 2 (.int .i64 md) rfl).1
      have hR5 := Lib.hid (rdF_below hr0.out B5.out)
      have hz5 := B5.out.size
      go_wp2_with fail
      refine (kn2.out _ hR5.out).mono ?_
      rintro e w6 ⟨rfl, hb6⟩
      have hB6 := Lib.hid (below_then B5.out hz5 hb6)
      have hz6 := hB6.out.size
      have K6 := Lib.hid (blk_below K5.out hb6)
      have M6 := Lib.hid (blk_below M5.out hb6)
      have C6 := Lib.hid (blk_below C5.out hb6)
      have A7 := Lib.hid (mapV_block MM.out (hb6.block _ (mapV_lt MM.out)))
      have hlk6 := blk_lt K6.out
      have hlm6 := blk_lt M6.out
      have hlc6 := blk_lt C6.out
      clear hb6 K5 M5 C5 MM B5 hz5 hR5 kn2 c0 c1 c2 c3 c4 c5 c6 e2 a0 a1 g0 g1 K4 M4 C4 hB4
      obtain ⟨a0, g0⟩ := blk_cell C6.out 0 _ rfl
      obtain ⟨a1, g1⟩ := blk_cell C6.out 1 _ rfl
      have K7 := Lib.hid (blk_other K6.out ⟨w2.heap.size, 1, none⟩ (.string n2) (by simp; omega))
      have MN := Lib.hid (mapV_set A7.out (a := ⟨w2.heap.size, 1, none⟩) (by simp; omega) (.string n2))
      have B7 := Lib.hid (hB6.out.setCell (p := ⟨w2.heap.size, 1, none⟩) (by simp; omega) (.string n2))
      clear A7 K6 hB6
      have kS := Lib.hid (keyOf2 n1 n2 (by have := hn1.out; unfold maxLen; omega) (by have := hn2.out; unfold maxLen; omega))
      have P1 := Lib.hid (Sp.hadF_in (had := (n1, n2) :: had) (List.mem_cons_self ..))
      have P2 := Lib.hid (Sp.hadF_put had n1 n2)
      by_cases hi : Sp.inS had (n1, n2) = true
      ·have hR : R = 15 := by have := hf5.out; first | rw [if_pos hi] at this; exact this.symm | (simp [hi] at this; exact this.symm)
       have HA := Lib.hid (Sp.hadF_in ((Sp.inS_iff _ _ _).1 hi))
       subst hR
       clear hf5 hi
       go_wp2_with (at_lookup; refine wpList_lookup_mapV _ rfl _ _ 323 rfl 324 3 keyLaw2 Tryz.underlying323 (zeroInt _) (w.heap.size + 1) k (Sp.hadF had) rfl MN.out _ _ rfl kS.out (some (.int .i64 1)) HA.out ?_)
       (try rw [Exit.noGoto_ret])
       go_ret
       exact ⟨rfl, B7.out⟩
      ·have HA := Lib.hid (Sp.hadF_out (fun q => hi ((Sp.inS_iff _ _ _).2 q)))
       have hf6 := Lib.hid (show Sp.memF chk (Sp.keyM F.pool true) ((n1, n2) :: had) ((l.drop (k + 1)).map (·.1)) = R by have := hf5.out; first | (rw [if_neg hi] at this; exact this) | (simp [hi] at this; exact this))
       clear hf5 hi
       go_wp2_with (first | (at_lookup; refine wpList_lookup_mapV _ rfl _ _ 323 rfl 324 3 keyLaw2 Tryz.underlying323 (zeroInt _) (w.heap.size + 1) k (Sp.hadF had) rfl MN.out _ _ rfl kS.out none HA.out ?_) | (at_mapUpdate; refine wpList_mapUpdate_mapV _ rfl _ _ _ 323 rfl 324 3 keyLaw2 Tryz.underlying323 (w.heap.size + 1) k (Sp.hadF had) (Sp.hadF ((n1, n2) :: had)) rfl MN.out ?y1 _ _ _ rfl rfl kS.out P1.out P2.out ?_))
       case y1 => unfold maxLen; omega
       intro w9 m9 hg9
       have K9 := Lib.hid (blk_grown K7.out hg9 (by intro e; injection e; omega))
       have B9 := Lib.hid (B7.out.grown hg9 (by have := B7.out.size; omega) (fun q hq => by injection hq with hq; omega))
       have M9 := Lib.hid (fun (_ : ((l.length : Int) == 1) = false) => m9)
       have h9 : Hid (((l.length : Int) == 1) = true → k + 1 = 0 → (n1, n2) :: had = []) := Lib.hid (fun _ h => by omega)
       clear m9 hg9 MN
       go_wp2
       go_roundw
       case rel => exact ⟨k + 1, _, by go_num, by omega, B9, K9, M9, h9, hf6⟩
       case measure => simp [RowKit.intOf]; omega
   ·have hcb : (cv != 0) = true := by simp [hcz]
    have hR : R = cv := by rw [← hf3.out, if_pos hcz]
    subst hR
    clear hf3 hcz
    go_wp2
    (try rw [Exit.noGoto_ret])
    go_ret
    exact ⟨rfl, B2⟩
  ·obtain rfl : k = l.length := by omega
   have hzk : ¬ (l.length : Int) < (l.length : Int) := by omega
   have hR : R = 0 := by rw [← hf.out, List.drop_length]; rfl
   subst hR
   clear hf
   go_wp2
   (try rw [Exit.noGoto_ret])
   go_ret
   exact ⟨rfl, hb⟩
end Go.Proofs.YtjjlcoimaihdoaaGreatDoor
namespace Go.Proofs.YtjjlcoimaihdoaaGreatDoor
open Go.RowKit Go.Lib
namespace Sp
def headS (p : List Cn) (flags this super : Int) (ifs : List Int) : Int :=
 if flags ≠ 0 ∧ flags ≠ 2 ∧ flags ≠ 3 then 10
 else if taggedS p this 4 = false ∨ (super ≠ 0 ∧ taggedS p super 4 = false) then 7
 else if 16 < ifs.length then 3
 else if ifs.all (fun i => taggedS p i 4) = true then 0 else 7
def bareS (m : Mb) : Bool := decide (m.stack = 0) && decide (m.locals = 0) && decide (m.code.size = 0) && decide (m.hs.length = 0)
def fieldM (p : List Cn) (ff : Int) (m : Mb) : Int :=
 if (m.flags ≠ 0 ∧ m.flags ≠ 1) ∨ (m.flags = 0 ∧ ff = 3) then 10
 else if linkS p m.name m.desc false = 0 then (if bareS m = true then 0 else 1) else linkS p m.name m.desc false
end Sp
set_option maxHeartbeats 8000000 in
set_option maxRecDepth 100000 in
theorem head_any (q : Sp.At) (F : FlP) (w : World) (hr : RdF w q F) (h1 : In64 F.this) (h2 : In64 F.super) (h3 : ∀ i ∈ F.ifaces, In64 i) :
  Calls Tryz.prog 218 #[.agg (flC q F)] w fun e w' => e = .returned (.int .i64 (Sp.headS F.pool F.flags F.this F.super F.ifaces)) ∧ Below w.heap.size w w' := by
 obtain ⟨pool, fl, th, su, ifs, flds, mths⟩ := F
 obtain ⟨qA, qc, qI, qd, qX, qe, qY, qg⟩ := q
 simp only [] at h1 h2 h3 ⊢
 have HE := Lib.hid (show Sp.headS pool fl th su ifs = _ by rw [Sp.headS])
 have hr0 := Lib.hid hr
 have hil := hr.ifaces.1
 have HI := Lib.hid hr.ifaces.2
 clear hr
 have k1 := Lib.hid (fun W hr => tagged_any ⟨qA, qc, qI, qd, qX, qe, qY, qg⟩ ⟨pool, fl, th, su, ifs, flds, mths⟩ th 4 W hr h1)
 have k2 := Lib.hid (fun W hr => tagged_any ⟨qA, qc, qI, qd, qX, qe, qY, qg⟩ ⟨pool, fl, th, su, ifs, flds, mths⟩ su 4 W hr h2)
 have k3 := Lib.hid (fun i (hi : i ∈ ifs) W hr => tagged_any ⟨qA, qc, qI, qd, qX, qe, qY, qg⟩ ⟨pool, fl, th, su, ifs, flds, mths⟩ i 4 W hr (h3 i hi))
 generalize Sp.headS pool fl th su ifs = R at HE ⊢
 simp only [] at k1 k2 k3 hil HI
 generalize Sp.taggedS pool th 4 = T at *
 generalize Sp.taggedS pool su 4 = U at *
 have hB := (Below.refl w.heap.size w).alloc (Nat.le_refl _) (.cells (flC ⟨qA, qc, qI, qd, qX, qe, qY, qg⟩ ⟨pool, fl, th, su, ifs, flds, mths⟩) 26)
 have hK := Lib.hid (blk_new w (.cells (flC ⟨qA, qc, qI, qd, qX, qe, qY, qg⟩ ⟨pool, fl, th, su, ifs, flds, mths⟩) 26))
 have hS := hB.size
 unfold flC at k1 k2 k3
 have hfl : flC ⟨qA, qc, qI, qd, qX, qe, qY, qg⟩ ⟨pool, fl, th, su, ifs, flds, mths⟩ = #[.slice qA pool.length qc, .int .i64 fl, .int .i64 th, .int .i64 su, .slice qI ifs.length qd, .slice qX flds.length qe, .slice qY mths.length qg] := rfl
 rw [hfl] at hB hS ⊢
 clear hfl
 simp only [] at k1 k2 k3
 by_cases hf : fl ≠ 0 ∧ fl ≠ 2 ∧ fl ≠ 3
 ·have hR : R = 10 := by rw [HE.out, if_pos hf]
  obtain ⟨g1, g2, g3⟩ := hf
  have b1 : (fl != 0) = true := by simp [g1]
  have b2 : (fl != 2) = true := by simp [g2]
  have b3 : (fl != 3) = true := by simp [g3]
  subst hR
  clear HE g1 g2 g3
  go_enter Tryz.func218, Tryz.ntmps218
  go_wp2
  go_ret
  exact ⟨rfl, hB⟩
 have HE1 := Lib.hid HE.out
 rw [if_neg hf] at HE1
 clear HE
 have hf3 : fl = 0 ∨ fl = 2 ∨ fl = 3 := by omega
 clear hf
 have hU : su = 0 ∨ ¬ su = 0 := by omega
 rcases hf3 with rfl | rfl | rfl
 ·go_enter Tryz.func218, Tryz.ntmps218
  go_wp2_with fail
  refine (k1.out _ (rdF_below hr0.out hB)).mono ?_
  rintro e w1 ⟨rfl, hb1⟩
  have K1 := Lib.hid (blk_below hK.out hb1)
  have B1 := below_then hB hS hb1
  have S1 := B1.size
  clear hK hB hS hb1 k1
  cases T with
  | false =>
   have hR : R = 7 := by rw [HE1.out, if_pos (.inl rfl)]
   subst hR
   clear HE1
   go_wp2
   go_ret
   exact ⟨rfl, B1⟩
  | true =>
   obtain ⟨c0, c1, c2, c3, c4, c5, c6⟩ := flC_box K1.out
   rcases hU with rfl | hu
   ·have hub : ((0 : Int) != 0) = false := rfl
    have HE2 := Lib.hid (show R = if 16 < ifs.length then 3 else if ifs.all (fun i => Sp.taggedS pool i 4) = true then 0 else 7 by rw [HE1.out, if_neg (by rintro (h | ⟨h, _⟩); cases h; exact h rfl)])
    clear HE1
    have hno : R = R := rfl
    clear hno
    by_cases h16 : 16 < ifs.length
    ·have hz : (16 : Int) < (ifs.length : Int) := by omega
     have hR : R = 3 := by rw [HE2.out, if_pos h16]
     subst hR
     clear HE2
     go_wp2
     go_ret
     exact ⟨rfl, B1⟩
    ·have hz : ¬ (16 : Int) < (ifs.length : Int) := by omega
     have HF := Lib.hid (show R = if ifs.all (fun i => Sp.taggedS pool i 4) = true then 0 else 7 by rw [HE2.out, if_neg h16])
     clear HE2
     go_wp2
     clear c0 c1 c2 c3 c4 c5 c6
     go_loopw [4, 45] (fun _ v45 wr => ∃ k : Nat, v45 = .int .i64 k ∧ k ≤ ifs.length ∧ Below w.heap.size w wr ∧ Hid (wr.heap[w.heap.size]? = some (.cells (flC ⟨qA, qc, qI, qd, qX, qe, qY, qg⟩ ⟨pool, 0, th, 0, ifs, flds, mths⟩) 26 (0, 0))) ∧ Hid ((ifs.drop k).all (fun i => Sp.taggedS pool i 4) = ifs.all (fun i => Sp.taggedS pool i 4))) (fun _ v45 _ => ifs.length - (RowKit.intOf v45).toNat)
     case atStart => exact ⟨0, by go_num, Nat.zero_le _, B1, K1, Lib.hid rfl⟩
     case round =>
      clear B1 K1
      obtain ⟨k, rfl, hk, hb, hK, ha⟩ := hrel
      have hbz := hb.size
      obtain ⟨c0, c1, c2, c3, c4, c5, c6⟩ := flC_box hK.out
      by_cases hlt : k < ifs.length
      ·obtain ⟨b, o, rfl, hcell⟩ := HI.out (by omega)
       have ck := cell_below hb (hcell k hlt)
       have hzk : (k : Int) < (ifs.length : Int) := by omega
       have hmem : ifs.getD k 0 ∈ ifs := by rw [List.getD_eq_getElem?_getD, List.getElem?_eq_getElem hlt]; exact List.getElem_mem hlt
       have hd : ifs.drop k = ifs.getD k 0 :: ifs.drop (k + 1) := by rw [List.drop_eq_getElem_cons hlt]; simp [List.getD_eq_getElem?_getD, hlt]
       have ha2 := ha.out
       rw [hd, List.all_cons] at ha2
       have ka := Lib.hid (fun W hr => k3.out _ hmem W hr)
       clear ha hd hmem hcell
       generalize ifs.getD k 0 = y at *
       have ha3 := Lib.hid ha2
       clear ha2
       generalize Sp.taggedS pool y 4 = ty at *
       have hrw := Lib.hid (rdF_below hr0.out (show Below w.heap.size w wr from hb))
       go_wp2_with fail
       refine (ka.out _ hrw.out).mono ?_
       rintro e w4 ⟨rfl, hb4⟩
       have hK4 := Lib.hid (blk_below hK.out hb4)
       have hb' := below_then hb hbz hb4
       clear hK hb hb4 ka hrw c0 c1 c2 c3 c4 c5 c6
       cases ty with
       | false =>
        have hR : R = 7 := by rw [HF.out, ← ha3.out]; rfl
        subst hR
        clear HF ha3
        go_wp2
        go_ret
        exact ⟨rfl, hb'⟩
       | true =>
        have ha4 := Lib.hid (show (ifs.drop (k + 1)).all (fun i => Sp.taggedS pool i 4) = ifs.all (fun i => Sp.taggedS pool i 4) by rw [← ha3.out, Bool.true_and])
        clear ha3
        go_wp2
        go_roundw
        case rel => exact ⟨k + 1, by go_num, by omega, hb', hK4, ha4⟩
        case measure => simp [RowKit.intOf]; omega
      ·obtain rfl : k = ifs.length := by omega
       have hzk : ¬ (ifs.length : Int) < (ifs.length : Int) := by omega
       have hR : R = 0 := by rw [HF.out, ← ha.out, List.drop_length]; rfl
       subst hR
       clear HF ha
       go_wp2
       go_ret
       exact ⟨rfl, hb⟩
   ·have hub : (su != 0) = true := by simp [hu]
    go_wp2_with fail
    refine (k2.out _ (rdF_below hr0.out B1)).mono ?_
    rintro e w2 ⟨rfl, hb2⟩
    have K2 := Lib.hid (blk_below K1.out hb2)
    have B2 := below_then B1 S1 hb2
    clear K1 B1 S1 hb2 k2 c0 c1 c2 c3 c4 c5 c6
    obtain ⟨c0, c1, c2, c3, c4, c5, c6⟩ := flC_box K2.out
    cases U with
    | false =>
     have hR : R = 7 := by rw [HE1.out, if_pos (.inr ⟨hu, rfl⟩)]
     subst hR
     clear HE1
     go_wp2
     go_ret
     exact ⟨rfl, B2⟩
    | true =>
     have HE2 := Lib.hid (show R = if 16 < ifs.length then 3 else if ifs.all (fun i => Sp.taggedS pool i 4) = true then 0 else 7 by rw [HE1.out, if_neg (by rintro (h | ⟨_, h⟩) <;> cases h)])
     clear HE1
     have hno : R = R := rfl
     clear hno
     by_cases h16 : 16 < ifs.length
     ·have hz : (16 : Int) < (ifs.length : Int) := by omega
      have hR : R = 3 := by rw [HE2.out, if_pos h16]
      subst hR
      clear HE2
      go_wp2
      go_ret
      exact ⟨rfl, B2⟩
     ·have hz : ¬ (16 : Int) < (ifs.length : Int) := by omega
      have HF := Lib.hid (show R = if ifs.all (fun i => Sp.taggedS pool i 4) = true then 0 else 7 by rw [HE2.out, if_neg h16])
      clear HE2
      go_wp2
      clear c0 c1 c2 c3 c4 c5 c6
      go_loopw [4, 45] (fun _ v45 wr => ∃ k : Nat, v45 = .int .i64 k ∧ k ≤ ifs.length ∧ Below w.heap.size w wr ∧ Hid (wr.heap[w.heap.size]? = some (.cells (flC ⟨qA, qc, qI, qd, qX, qe, qY, qg⟩ ⟨pool, 0, th, su, ifs, flds, mths⟩) 26 (0, 0))) ∧ Hid ((ifs.drop k).all (fun i => Sp.taggedS pool i 4) = ifs.all (fun i => Sp.taggedS pool i 4))) (fun _ v45 _ => ifs.length - (RowKit.intOf v45).toNat)
      case atStart => exact ⟨0, by go_num, Nat.zero_le _, B2, K2, Lib.hid rfl⟩
      case round =>
       clear B2 K2
       obtain ⟨k, rfl, hk, hb, hK, ha⟩ := hrel
       have hbz := hb.size
       obtain ⟨c0, c1, c2, c3, c4, c5, c6⟩ := flC_box hK.out
       by_cases hlt : k < ifs.length
       ·obtain ⟨b, o, rfl, hcell⟩ := HI.out (by omega)
        have ck := cell_below hb (hcell k hlt)
        have hzk : (k : Int) < (ifs.length : Int) := by omega
        have hmem : ifs.getD k 0 ∈ ifs := by rw [List.getD_eq_getElem?_getD, List.getElem?_eq_getElem hlt]; exact List.getElem_mem hlt
        have hd : ifs.drop k = ifs.getD k 0 :: ifs.drop (k + 1) := by rw [List.drop_eq_getElem_cons hlt]; simp [List.getD_eq_getElem?_getD, hlt]
        have ha2 := ha.out
        rw [hd, List.all_cons] at ha2
        have ka := Lib.hid (fun W hr => k3.out _ hmem W hr)
        clear ha hd hmem hcell
        generalize ifs.getD k 0 = y at *
        have ha3 := Lib.hid ha2
        clear ha2
        generalize Sp.taggedS pool y 4 = ty at *
        have hrw := Lib.hid (rdF_below hr0.out (show Below w.heap.size w wr from hb))
        go_wp2_with fail
        refine (ka.out _ hrw.out).mono ?_
        rintro e w4 ⟨rfl, hb4⟩
        have hK4 := Lib.hid (blk_below hK.out hb4)
        have hb' := below_then hb hbz hb4
        clear hK hb hb4 ka hrw c0 c1 c2 c3 c4 c5 c6
        cases ty with
        | false =>
         have hR : R = 7 := by rw [HF.out, ← ha3.out]; rfl
         subst hR
         clear HF ha3
         go_wp2
         go_ret
         exact ⟨rfl, hb'⟩
        | true =>
         have ha4 := Lib.hid (show (ifs.drop (k + 1)).all (fun i => Sp.taggedS pool i 4) = ifs.all (fun i => Sp.taggedS pool i 4) by rw [← ha3.out, Bool.true_and])
         clear ha3
         go_wp2
         go_roundw
         case rel => exact ⟨k + 1, by go_num, by omega, hb', hK4, ha4⟩
         case measure => simp [RowKit.intOf]; omega
       ·obtain rfl : k = ifs.length := by omega
        have hzk : ¬ (ifs.length : Int) < (ifs.length : Int) := by omega
        have hR : R = 0 := by rw [HF.out, ← ha.out, List.drop_length]; rfl
        subst hR
        clear HF ha
        go_wp2
        go_ret
        exact ⟨rfl, hb⟩
 ·go_enter Tryz.func218, Tryz.ntmps218
  go_wp2_with fail
  refine (k1.out _ (rdF_below hr0.out hB)).mono ?_
  rintro e w1 ⟨rfl, hb1⟩
  have K1 := Lib.hid (blk_below hK.out hb1)
  have B1 := below_then hB hS hb1
  have S1 := B1.size
  clear hK hB hS hb1 k1
  cases T with
  | false =>
   have hR : R = 7 := by rw [HE1.out, if_pos (.inl rfl)]
   subst hR
   clear HE1
   go_wp2
   go_ret
   exact ⟨rfl, B1⟩
  | true =>
   obtain ⟨c0, c1, c2, c3, c4, c5, c6⟩ := flC_box K1.out
   rcases hU with rfl | hu
   ·have hub : ((0 : Int) != 0) = false := rfl
    have HE2 := Lib.hid (show R = if 16 < ifs.length then 3 else if ifs.all (fun i => Sp.taggedS pool i 4) = true then 0 else 7 by rw [HE1.out, if_neg (by rintro (h | ⟨h, _⟩); cases h; exact h rfl)])
    clear HE1
    have hno : R = R := rfl
    clear hno
    by_cases h16 : 16 < ifs.length
    ·have hz : (16 : Int) < (ifs.length : Int) := by omega
     have hR : R = 3 := by rw [HE2.out, if_pos h16]
     subst hR
     clear HE2
     go_wp2
     go_ret
     exact ⟨rfl, B1⟩
    ·have hz : ¬ (16 : Int) < (ifs.length : Int) := by omega
     have HF := Lib.hid (show R = if ifs.all (fun i => Sp.taggedS pool i 4) = true then 0 else 7 by rw [HE2.out, if_neg h16])
     clear HE2
     go_wp2
     clear c0 c1 c2 c3 c4 c5 c6
     go_loopw [4, 45] (fun _ v45 wr => ∃ k : Nat, v45 = .int .i64 k ∧ k ≤ ifs.length ∧ Below w.heap.size w wr ∧ Hid (wr.heap[w.heap.size]? = some (.cells (flC ⟨qA, qc, qI, qd, qX, qe, qY, qg⟩ ⟨pool, 2, th, 0, ifs, flds, mths⟩) 26 (0, 0))) ∧ Hid ((ifs.drop k).all (fun i => Sp.taggedS pool i 4) = ifs.all (fun i => Sp.taggedS pool i 4))) (fun _ v45 _ => ifs.length - (RowKit.intOf v45).toNat)
     case atStart => exact ⟨0, by go_num, Nat.zero_le _, B1, K1, Lib.hid rfl⟩
     case round =>
      clear B1 K1
      obtain ⟨k, rfl, hk, hb, hK, ha⟩ := hrel
      have hbz := hb.size
      obtain ⟨c0, c1, c2, c3, c4, c5, c6⟩ := flC_box hK.out
      by_cases hlt : k < ifs.length
      ·obtain ⟨b, o, rfl, hcell⟩ := HI.out (by omega)
       have ck := cell_below hb (hcell k hlt)
       have hzk : (k : Int) < (ifs.length : Int) := by omega
       have hmem : ifs.getD k 0 ∈ ifs := by rw [List.getD_eq_getElem?_getD, List.getElem?_eq_getElem hlt]; exact List.getElem_mem hlt
       have hd : ifs.drop k = ifs.getD k 0 :: ifs.drop (k + 1) := by rw [List.drop_eq_getElem_cons hlt]; simp [List.getD_eq_getElem?_getD, hlt]
       have ha2 := ha.out
       rw [hd, List.all_cons] at ha2
       have ka := Lib.hid (fun W hr => k3.out _ hmem W hr)
       clear ha hd hmem hcell
       generalize ifs.getD k 0 = y at *
       have ha3 := Lib.hid ha2
       clear ha2
       generalize Sp.taggedS pool y 4 = ty at *
       have hrw := Lib.hid (rdF_below hr0.out (show Below w.heap.size w wr from hb))
       go_wp2_with fail
       refine (ka.out _ hrw.out).mono ?_
       rintro e w4 ⟨rfl, hb4⟩
       have hK4 := Lib.hid (blk_below hK.out hb4)
       have hb' := below_then hb hbz hb4
       clear hK hb hb4 ka hrw c0 c1 c2 c3 c4 c5 c6
       cases ty with
       | false =>
        have hR : R = 7 := by rw [HF.out, ← ha3.out]; rfl
        subst hR
        clear HF ha3
        go_wp2
        go_ret
        exact ⟨rfl, hb'⟩
       | true =>
        have ha4 := Lib.hid (show (ifs.drop (k + 1)).all (fun i => Sp.taggedS pool i 4) = ifs.all (fun i => Sp.taggedS pool i 4) by rw [← ha3.out, Bool.true_and])
        clear ha3
        go_wp2
        go_roundw
        case rel => exact ⟨k + 1, by go_num, by omega, hb', hK4, ha4⟩
        case measure => simp [RowKit.intOf]; omega
      ·obtain rfl : k = ifs.length := by omega
       have hzk : ¬ (ifs.length : Int) < (ifs.length : Int) := by omega
       have hR : R = 0 := by rw [HF.out, ← ha.out, List.drop_length]; rfl
       subst hR
       clear HF ha
       go_wp2
       go_ret
       exact ⟨rfl, hb⟩
   ·have hub : (su != 0) = true := by simp [hu]
    go_wp2_with fail
    refine (k2.out _ (rdF_below hr0.out B1)).mono ?_
    rintro e w2 ⟨rfl, hb2⟩
    have K2 := Lib.hid (blk_below K1.out hb2)
    have B2 := below_then B1 S1 hb2
    clear K1 B1 S1 hb2 k2 c0 c1 c2 c3 c4 c5 c6
    obtain ⟨c0, c1, c2, c3, c4, c5, c6⟩ := flC_box K2.out
    cases U with
    | false =>
     have hR : R = 7 := by rw [HE1.out, if_pos (.inr ⟨hu, rfl⟩)]
     subst hR
     clear HE1
     go_wp2
     go_ret
     exact ⟨rfl, B2⟩
    | true =>
     have HE2 := Lib.hid (show R = if 16 < ifs.length then 3 else if ifs.all (fun i => Sp.taggedS pool i 4) = true then 0 else 7 by rw [HE1.out, if_neg (by rintro (h | ⟨_, h⟩) <;> cases h)])
     clear HE1
     have hno : R = R := rfl
     clear hno
     by_cases h16 : 16 < ifs.length
     ·have hz : (16 : Int) < (ifs.length : Int) := by omega
      have hR : R = 3 := by rw [HE2.out, if_pos h16]
      subst hR
      clear HE2
      go_wp2
      go_ret
      exact ⟨rfl, B2⟩
     ·have hz : ¬ (16 : Int) < (ifs.length : Int) := by omega
      have HF := Lib.hid (show R = if ifs.all (fun i => Sp.taggedS pool i 4) = true then 0 else 7 by rw [HE2.out, if_neg h16])
      clear HE2
      go_wp2
      clear c0 c1 c2 c3 c4 c5 c6
      go_loopw [4, 45] (fun _ v45 wr => ∃ k : Nat, v45 = .int .i64 k ∧ k ≤ ifs.length ∧ Below w.heap.size w wr ∧ Hid (wr.heap[w.heap.size]? = some (.cells (flC ⟨qA, qc, qI, qd, qX, qe, qY, qg⟩ ⟨pool, 2, th, su, ifs, flds, mths⟩) 26 (0, 0))) ∧ Hid ((ifs.drop k).all (fun i => Sp.taggedS pool i 4) = ifs.all (fun i => Sp.taggedS pool i 4))) (fun _ v45 _ => ifs.length - (RowKit.intOf v45).toNat)
      case atStart => exact ⟨0, by go_num, Nat.zero_le _, B2, K2, Lib.hid rfl⟩
      case round =>
       clear B2 K2
       obtain ⟨k, rfl, hk, hb, hK, ha⟩ := hrel
       have hbz := hb.size
       obtain ⟨c0, c1, c2, c3, c4, c5, c6⟩ := flC_box hK.out
       by_cases hlt : k < ifs.length
       ·obtain ⟨b, o, rfl, hcell⟩ := HI.out (by omega)
        have ck := cell_below hb (hcell k hlt)
        have hzk : (k : Int) < (ifs.length : Int) := by omega
        have hmem : ifs.getD k 0 ∈ ifs := by rw [List.getD_eq_getElem?_getD, List.getElem?_eq_getElem hlt]; exact List.getElem_mem hlt
        have hd : ifs.drop k = ifs.getD k 0 :: ifs.drop (k + 1) := by rw [List.drop_eq_getElem_cons hlt]; simp [List.getD_eq_getElem?_getD, hlt]
        have ha2 := ha.out
        rw [hd, List.all_cons] at ha2
        have ka := Lib.hid (fun W hr => k3.out _ hmem W hr)
        clear ha hd hmem hcell
        generalize ifs.getD k 0 = y at *
        have ha3 := Lib.hid ha2
        clear ha2
        generalize Sp.taggedS pool y 4 = ty at *
        have hrw := Lib.hid (rdF_below hr0.out (show Below w.heap.size w wr from hb))
        go_wp2_with fail
        refine (ka.out _ hrw.out).mono ?_
        rintro e w4 ⟨rfl, hb4⟩
        have hK4 := Lib.hid (blk_below hK.out hb4)
        have hb' := below_then hb hbz hb4
        clear hK hb hb4 ka hrw c0 c1 c2 c3 c4 c5 c6
        cases ty with
        | false =>
         have hR : R = 7 := by rw [HF.out, ← ha3.out]; rfl
         subst hR
         clear HF ha3
         go_wp2
         go_ret
         exact ⟨rfl, hb'⟩
        | true =>
         have ha4 := Lib.hid (show (ifs.drop (k + 1)).all (fun i => Sp.taggedS pool i 4) = ifs.all (fun i => Sp.taggedS pool i 4) by rw [← ha3.out, Bool.true_and])
         clear ha3
         go_wp2
         go_roundw
         case rel => exact ⟨k + 1, by go_num, by omega, hb', hK4, ha4⟩
         case measure => simp [RowKit.intOf]; omega
       ·obtain rfl : k = ifs.length := by omega
        have hzk : ¬ (ifs.length : Int) < (ifs.length : Int) := by omega
        have hR : R = 0 := by rw [HF.out, ← ha.out, List.drop_length]; rfl
        subst hR
        clear HF ha
        go_wp2
        go_ret
        exact ⟨rfl, hb⟩
 ·go_enter Tryz.func218, Tryz.ntmps218
  go_wp2_with fail
  refine (k1.out _ (rdF_below hr0.out hB)).mono ?_
  rintro e w1 ⟨rfl, hb1⟩
  have K1 := Lib.hid (blk_below hK.out hb1)
  have B1 := below_then hB hS hb1
  have S1 := B1.size
  clear hK hB hS hb1 k1
  cases T with
  | false =>
   have hR : R = 7 := by rw [HE1.out, if_pos (.inl rfl)]
   subst hR
   clear HE1
   go_wp2
   go_ret
   exact ⟨rfl, B1⟩
  | true =>
   obtain ⟨c0, c1, c2, c3, c4, c5, c6⟩ := flC_box K1.out
   rcases hU with rfl | hu
   ·have hub : ((0 : Int) != 0) = false := rfl
    have HE2 := Lib.hid (show R = if 16 < ifs.length then 3 else if ifs.all (fun i => Sp.taggedS pool i 4) = true then 0 else 7 by rw [HE1.out, if_neg (by rintro (h | ⟨h, _⟩); cases h; exact h rfl)])
    clear HE1
    have hno : R = R := rfl
    clear hno
    by_cases h16 : 16 < ifs.length
    ·have hz : (16 : Int) < (ifs.length : Int) := by omega
     have hR : R = 3 := by rw [HE2.out, if_pos h16]
     subst hR
     clear HE2
     go_wp2
     go_ret
     exact ⟨rfl, B1⟩
    ·have hz : ¬ (16 : Int) < (ifs.length : Int) := by omega
     have HF := Lib.hid (show R = if ifs.all (fun i => Sp.taggedS pool i 4) = true then 0 else 7 by rw [HE2.out, if_neg h16])
     clear HE2
     go_wp2
     clear c0 c1 c2 c3 c4 c5 c6
     go_loopw [4, 45] (fun _ v45 wr => ∃ k : Nat, v45 = .int .i64 k ∧ k ≤ ifs.length ∧ Below w.heap.size w wr ∧ Hid (wr.heap[w.heap.size]? = some (.cells (flC ⟨qA, qc, qI, qd, qX, qe, qY, qg⟩ ⟨pool, 3, th, 0, ifs, flds, mths⟩) 26 (0, 0))) ∧ Hid ((ifs.drop k).all (fun i => Sp.taggedS pool i 4) = ifs.all (fun i => Sp.taggedS pool i 4))) (fun _ v45 _ => ifs.length - (RowKit.intOf v45).toNat)
     case atStart => exact ⟨0, by go_num, Nat.zero_le _, B1, K1, Lib.hid rfl⟩
     case round =>
      clear B1 K1
      obtain ⟨k, rfl, hk, hb, hK, ha⟩ := hrel
      have hbz := hb.size
      obtain ⟨c0, c1, c2, c3, c4, c5, c6⟩ := flC_box hK.out
      by_cases hlt : k < ifs.length
      ·obtain ⟨b, o, rfl, hcell⟩ := HI.out (by omega)
       have ck := cell_below hb (hcell k hlt)
       have hzk : (k : Int) < (ifs.length : Int) := by omega
       have hmem : ifs.getD k 0 ∈ ifs := by rw [List.getD_eq_getElem?_getD, List.getElem?_eq_getElem hlt]; exact List.getElem_mem hlt
       have hd : ifs.drop k = ifs.getD k 0 :: ifs.drop (k + 1) := by rw [List.drop_eq_getElem_cons hlt]; simp [List.getD_eq_getElem?_getD, hlt]
       have ha2 := ha.out
       rw [hd, List.all_cons] at ha2
       have ka := Lib.hid (fun W hr => k3.out _ hmem W hr)
       clear ha hd hmem hcell
       generalize ifs.getD k 0 = y at *
       have ha3 := Lib.hid ha2
       clear ha2
       generalize Sp.taggedS pool y 4 = ty at *
       have hrw := Lib.hid (rdF_below hr0.out (show Below w.heap.size w wr from hb))
       go_wp2_with fail
       refine (ka.out _ hrw.out).mono ?_
       rintro e w4 ⟨rfl, hb4⟩
       have hK4 := Lib.hid (blk_below hK.out hb4)
       have hb' := below_then hb hbz hb4
       clear hK hb hb4 ka hrw c0 c1 c2 c3 c4 c5 c6
       cases ty with
       | false =>
        have hR : R = 7 := by rw [HF.out, ← ha3.out]; rfl
        subst hR
        clear HF ha3
        go_wp2
        go_ret
        exact ⟨rfl, hb'⟩
       | true =>
        have ha4 := Lib.hid (show (ifs.drop (k + 1)).all (fun i => Sp.taggedS pool i 4) = ifs.all (fun i => Sp.taggedS pool i 4) by rw [← ha3.out, Bool.true_and])
        clear ha3
        go_wp2
        go_roundw
        case rel => exact ⟨k + 1, by go_num, by omega, hb', hK4, ha4⟩
        case measure => simp [RowKit.intOf]; omega
      ·obtain rfl : k = ifs.length := by omega
       have hzk : ¬ (ifs.length : Int) < (ifs.length : Int) := by omega
       have hR : R = 0 := by rw [HF.out, ← ha.out, List.drop_length]; rfl
       subst hR
       clear HF ha
       go_wp2
       go_ret
       exact ⟨rfl, hb⟩
   ·have hub : (su != 0) = true := by simp [hu]
    go_wp2_with fail
    refine (k2.out _ (rdF_below hr0.out B1)).mono ?_
    rintro e w2 ⟨rfl, hb2⟩
    have K2 := Lib.hid (blk_below K1.out hb2)
    have B2 := below_then B1 S1 hb2
    clear K1 B1 S1 hb2 k2 c0 c1 c2 c3 c4 c5 c6
    obtain ⟨c0, c1, c2, c3, c4, c5, c6⟩ := flC_box K2.out
    cases U with
    | false =>
     have hR : R = 7 := by rw [HE1.out, if_pos (.inr ⟨hu, rfl⟩)]
     subst hR
     clear HE1
     go_wp2
     go_ret
     exact ⟨rfl, B2⟩
    | true =>
     have HE2 := Lib.hid (show R = if 16 < ifs.length then 3 else if ifs.all (fun i => Sp.taggedS pool i 4) = true then 0 else 7 by rw [HE1.out, if_neg (by rintro (h | ⟨_, h⟩) <;> cases h)])
     clear HE1
     have hno : R = R := rfl
     clear hno
     by_cases h16 : 16 < ifs.length
     ·have hz : (16 : Int) < (ifs.length : Int) := by omega
      have hR : R = 3 := by rw [HE2.out, if_pos h16]
      subst hR
      clear HE2
      go_wp2
      go_ret
      exact ⟨rfl, B2⟩
     ·have hz : ¬ (16 : Int) < (ifs.length : Int) := by omega
      have HF := Lib.hid (show R = if ifs.all (fun i => Sp.taggedS pool i 4) = true then 0 else 7 by rw [HE2.out, if_neg h16])
      clear HE2
      go_wp2
      clear c0 c1 c2 c3 c4 c5 c6
      go_loopw [4, 45] (fun _ v45 wr => ∃ k : Nat, v45 = .int .i64 k ∧ k ≤ ifs.length ∧ Below w.heap.size w wr ∧ Hid (wr.heap[w.heap.size]? = some (.cells (flC ⟨qA, qc, qI, qd, qX, qe, qY, qg⟩ ⟨pool, 3, th, su, ifs, flds, mths⟩) 26 (0, 0))) ∧ Hid ((ifs.drop k).all (fun i => Sp.taggedS pool i 4) = ifs.all (fun i => Sp.taggedS pool i 4))) (fun _ v45 _ => ifs.length - (RowKit.intOf v45).toNat)
      case atStart => exact ⟨0, by go_num, Nat.zero_le _, B2, K2, Lib.hid rfl⟩
      case round =>
       clear B2 K2
       obtain ⟨k, rfl, hk, hb, hK, ha⟩ := hrel
       have hbz := hb.size
       obtain ⟨c0, c1, c2, c3, c4, c5, c6⟩ := flC_box hK.out
       by_cases hlt : k < ifs.length
       ·obtain ⟨b, o, rfl, hcell⟩ := HI.out (by omega)
        have ck := cell_below hb (hcell k hlt)
        have hzk : (k : Int) < (ifs.length : Int) := by omega
        have hmem : ifs.getD k 0 ∈ ifs := by rw [List.getD_eq_getElem?_getD, List.getElem?_eq_getElem hlt]; exact List.getElem_mem hlt
        have hd : ifs.drop k = ifs.getD k 0 :: ifs.drop (k + 1) := by rw [List.drop_eq_getElem_cons hlt]; simp [List.getD_eq_getElem?_getD, hlt]
        have ha2 := ha.out
        rw [hd, List.all_cons] at ha2
        have ka := Lib.hid (fun W hr => k3.out _ hmem W hr)
        clear ha hd hmem hcell
        generalize ifs.getD k 0 = y at *
        have ha3 := Lib.hid ha2
        clear ha2
        generalize Sp.taggedS pool y 4 = ty at *
        have hrw := Lib.hid (rdF_below hr0.out (show Below w.heap.size w wr from hb))
        go_wp2_with fail
        refine (ka.out _ hrw.out).mono ?_
        rintro e w4 ⟨rfl, hb4⟩
        have hK4 := Lib.hid (blk_below hK.out hb4)
        have hb' := below_then hb hbz hb4
        clear hK hb hb4 ka hrw c0 c1 c2 c3 c4 c5 c6
        cases ty with
        | false =>
         have hR : R = 7 := by rw [HF.out, ← ha3.out]; rfl
         subst hR
         clear HF ha3
         go_wp2
         go_ret
         exact ⟨rfl, hb'⟩
        | true =>
         have ha4 := Lib.hid (show (ifs.drop (k + 1)).all (fun i => Sp.taggedS pool i 4) = ifs.all (fun i => Sp.taggedS pool i 4) by rw [← ha3.out, Bool.true_and])
         clear ha3
         go_wp2
         go_roundw
         case rel => exact ⟨k + 1, by go_num, by omega, hb', hK4, ha4⟩
         case measure => simp [RowKit.intOf]; omega
       ·obtain rfl : k = ifs.length := by omega
        have hzk : ¬ (ifs.length : Int) < (ifs.length : Int) := by omega
        have hR : R = 0 := by rw [HF.out, ← ha.out, List.drop_length]; rfl
        subst hR
        clear HF ha
        go_wp2
        go_ret
        exact ⟨rfl, hb⟩
set_option maxHeartbeats 8000000 in
set_option maxRecDepth 100000 in
theorem fieldM_any (q : Sp.At) (F : FlP) (m : Sp.Mp) (w : World) (hr : RdF w q F) (hf : FlagsOk F.flags) (h1 : In64 m.1.name) (h2 : In64 m.1.desc) (hh : m.1.hs.length ≤ 9223372036854775807)
  (hz : ∀ c ∈ F.pool, c.text.size ≤ 1099511627776) (hT : Tabs w) :
  Calls Tryz.prog 220 #[.agg (flC q F), Sp.mbV m] w fun e w' => e = .returned (.int .i64 (Sp.fieldM F.pool F.flags m.1)) ∧ Below w.heap.size w w' := by
 obtain ⟨pool, fl, th, su, ifs, flds, mths⟩ := F
 obtain ⟨qA, qc, qI, qd, qX, qe, qY, qg⟩ := q
 obtain ⟨⟨mf, mn, md, ms, ml, mc, mh⟩, mA, mcap⟩ := m
 simp only [] at hf h1 h2 hh hz ⊢
 have T0 := Lib.hid hT
 clear hT
 have hr0 := Lib.hid hr
 clear hr
 have HE := Lib.hid (show Sp.fieldM pool fl ⟨mf, mn, md, ms, ml, mc, mh⟩ = _ by rw [Sp.fieldM])
 have k1 := Lib.hid (fun W => interface_any ⟨qA, qc, qI, qd, qX, qe, qY, qg⟩ ⟨pool, fl, th, su, ifs, flds, mths⟩ W hf)
 have k2 := Lib.hid (fun W hr hT => link_any ⟨qA, qc, qI, qd, qX, qe, qY, qg⟩ ⟨pool, fl, th, su, ifs, flds, mths⟩ mn md false W hr h1 h2 hz hT)
 have k3 := Lib.hid (fun W => bare_any (⟨mf, mn, md, ms, ml, mc, mh⟩, mA, mcap) W hh)
 clear hz
 generalize Sp.fieldM pool fl ⟨mf, mn, md, ms, ml, mc, mh⟩ = R at HE ⊢
 have HE' := Lib.hid HE.out
 clear HE
 simp only [] at HE'
 have hbare : Sp.bareS ⟨mf, mn, md, ms, ml, mc, mh⟩ = (decide (ms = 0) && decide (ml = 0) && decide (mc.size = 0) && decide (mh.length = 0)) := rfl
 rw [hbare] at HE'
 clear hbare
 simp only [] at k1 k2 k3
 generalize (decide (ms = 0) && decide (ml = 0) && decide (mc.size = 0) && decide (mh.length = 0)) = br at *
 generalize Sp.linkS pool mn md false = le at *
 have hB := ((Below.refl w.heap.size w).alloc (Nat.le_refl _) (.cells (flC ⟨qA, qc, qI, qd, qX, qe, qY, qg⟩ ⟨pool, fl, th, su, ifs, flds, mths⟩) 26)).alloc (by simp) (.cells #[.int .i64 mf, .int .i64 mn, .int .i64 md, .int .i64 ms, .int .i64 ml, .string mc, .slice mA mh.length mcap] 131)
 have hK := Lib.hid (blk_old (o := .cells #[.int .i64 mf, .int .i64 mn, .int .i64 md, .int .i64 ms, .int .i64 ml, .string mc, .slice mA mh.length mcap] 131) (blk_new w (.cells (flC ⟨qA, qc, qI, qd, qX, qe, qY, qg⟩ ⟨pool, fl, th, su, ifs, flds, mths⟩) 26)))
 have hL := Lib.hid (blk_new (w.alloc (.cells (flC ⟨qA, qc, qI, qd, qX, qe, qY, qg⟩ ⟨pool, fl, th, su, ifs, flds, mths⟩) 26)) (.cells #[.int .i64 mf, .int .i64 mn, .int .i64 md, .int .i64 ms, .int .i64 ml, .string mc, .slice mA mh.length mcap] 131))
 rw [show (w.alloc (.cells (flC ⟨qA, qc, qI, qd, qX, qe, qY, qg⟩ ⟨pool, fl, th, su, ifs, flds, mths⟩) 26)).heap.size = w.heap.size + 1 by simp] at hL
 have hS := hB.size
 unfold flC at k1 k2
 unfold Sp.mbV at k3 ⊢
 have hfl : flC ⟨qA, qc, qI, qd, qX, qe, qY, qg⟩ ⟨pool, fl, th, su, ifs, flds, mths⟩ = #[.slice qA pool.length qc, .int .i64 fl, .int .i64 th, .int .i64 su, .slice qI ifs.length qd, .slice qX flds.length qe, .slice qY mths.length qg] := rfl
 rw [hfl] at hB hS ⊢
 clear hfl
 simp only [] at k1 k2 k3 ⊢
 have hm : (mf ≠ 0 ∧ mf ≠ 1) ∨ mf = 0 ∨ mf = 1 := by omega
 rcases hm with ⟨m0, m1⟩ | rfl | rfl
 ·have hR : R = 10 := by rw [HE'.out, if_pos (.inl ⟨m0, m1⟩)]
  have b1 : (mf != 0) = true := by simp [m0]
  have b2 : (mf != 1) = true := by simp [m1]
  subst hR
  clear HE' m0 m1
  go_enter Tryz.func220, Tryz.ntmps220
  go_wp2
  go_ret
  exact ⟨rfl, hB⟩
 ·go_enter Tryz.func220, Tryz.ntmps220
  go_wp2_with fail
  refine (k1.out _).mono ?_
  rintro e w1 ⟨rfl, hb1⟩
  have K1 := Lib.hid (blk_below hK.out hb1)
  have L1 := Lib.hid (blk_below hL.out hb1)
  have B1 := below_then hB hS hb1
  have S1 := B1.size
  clear hK hL hB hS hb1 k1
  have hi : (fl = 3 ∧ decide (fl = 3) = true) ∨ (¬ fl = 3 ∧ decide (fl = 3) = false) := by
   by_cases q : fl = 3
   ·exact .inl ⟨q, by simp [q]⟩
   ·exact .inr ⟨q, by simp [q]⟩
  rcases hi with ⟨hi, hid⟩ | ⟨hi, hid⟩
  ·have hR : R = 10 := by rw [HE'.out, if_pos (by simp [hi])]
   rw [hid]
   subst hR
   clear HE' hid
   go_wp2
   go_ret
   exact ⟨rfl, B1⟩
  ·have HF := Lib.hid (show R = if le = 0 then (if br = true then 0 else 1) else le by rw [HE'.out, if_neg (by simp [hi])])
   rw [hid]
   clear HE' hid
   obtain ⟨c0, c1, c2, c3, c4, c5, c6⟩ := flC_box K1.out
   have e1 := (blk_cell L1.out 1 (.int .i64 mn) rfl).1
   have e2 := (blk_cell L1.out 2 (.int .i64 md) rfl).1
   go_wp2_with fail
   refine (k2.out _ (rdF_below hr0.out B1) (T0.out.below B1)).mono ?_
   rintro e w2 ⟨rfl, hb2⟩
   have L2 := Lib.hid (blk_below L1.out hb2)
   have B2 := below_then B1 S1 hb2
   have S2 := B2.size
   clear K1 L1 B1 S1 hb2 k2 c0 c1 c2 c3 c4 c5 c6 e1 e2
   by_cases hle : le = 0
   ·subst hle
    have d0 := (blk_cell L2.out 0 (.int .i64 0) rfl).1
    have d1 := (blk_cell L2.out 1 (.int .i64 mn) rfl).1
    have d2 := (blk_cell L2.out 2 (.int .i64 md) rfl).1
    have d3 := (blk_cell L2.out 3 (.int .i64 ms) rfl).1
    have d4 := (blk_cell L2.out 4 (.int .i64 ml) rfl).1
    have d5 := (blk_cell L2.out 5 (.string mc) rfl).1
    have d6 := (blk_cell L2.out 6 (.slice mA mh.length mcap) rfl).1
    go_wp2_with fail
    refine (k3.out _).mono ?_
    rintro e w3 ⟨rfl, hb3⟩
    have B3 := below_then B2 S2 hb3
    clear d0 d1 d2 d3 d4 d5 d6
    cases br with
    | false =>
     have hR : R = 1 := HF.out
     subst hR
     clear HF
     go_wp2
     go_ret
     exact ⟨rfl, B3⟩
    | true =>
     have hR : R = 0 := HF.out
     subst hR
     clear HF
     go_wp2
     go_ret
     exact ⟨rfl, B3⟩
   ·have hleb : (le != 0) = true := by simp [hle]
    have hR : R = le := by rw [HF.out, if_neg hle]
    subst hR
    clear HF hle
    go_wp2
    go_ret
    exact ⟨rfl, B2⟩
 ·have HF := Lib.hid (show R = if le = 0 then (if br = true then 0 else 1) else le by rw [HE'.out, if_neg (by simp)])
  clear HE'
  have K1 := hK
  have L1 := hL
  have B1 := hB
  have S1 := hS
  clear hK hL hB hS
  go_enter Tryz.func220, Tryz.ntmps220
  go_wp2_with fail
  refine (k2.out _ (rdF_below hr0.out B1) (T0.out.below B1)).mono ?_
  rintro e w2 ⟨rfl, hb2⟩
  have L2 := Lib.hid (blk_below L1.out hb2)
  have B2 := below_then B1 S1 hb2
  have S2 := B2.size
  clear K1 L1 B1 S1 hb2 k2
  by_cases hle : le = 0
  ·subst hle
   have d0 := (blk_cell L2.out 0 (.int .i64 1) rfl).1
   have d1 := (blk_cell L2.out 1 (.int .i64 mn) rfl).1
   have d2 := (blk_cell L2.out 2 (.int .i64 md) rfl).1
   have d3 := (blk_cell L2.out 3 (.int .i64 ms) rfl).1
   have d4 := (blk_cell L2.out 4 (.int .i64 ml) rfl).1
   have d5 := (blk_cell L2.out 5 (.string mc) rfl).1
   have d6 := (blk_cell L2.out 6 (.slice mA mh.length mcap) rfl).1
   go_wp2_with fail
   refine (k3.out _).mono ?_
   rintro e w3 ⟨rfl, hb3⟩
   have B3 := below_then B2 S2 hb3
   clear d0 d1 d2 d3 d4 d5 d6
   cases br with
   | false =>
    have hR : R = 1 := HF.out
    subst hR
    clear HF
    go_wp2
    go_ret
    exact ⟨rfl, B3⟩
   | true =>
    have hR : R = 0 := HF.out
    subst hR
    clear HF
    go_wp2
    go_ret
    exact ⟨rfl, B3⟩
  ·have hleb : (le != 0) = true := by simp [hle]
   have hR : R = le := by rw [HF.out, if_neg hle]
   subst hR
   clear HF hle
   go_wp2
   go_ret
   exact ⟨rfl, B2⟩
end Go.Proofs.YtjjlcoimaihdoaaGreatDoor
