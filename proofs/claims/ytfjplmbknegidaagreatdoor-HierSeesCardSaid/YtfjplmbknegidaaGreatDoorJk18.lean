/-
  Texts of the proof, joined: each says at its head what it proves.
-/
import Derived.Test.YtfjplmbknegidaaGreatDoorJk17
import Derived.Test.YtfjplmbknegidaaGreatDoorJk9
section
/-
  Walk of chapter 6's classOf.
-/
set_option linter.unusedVariables false
set_option linter.unusedSimpArgs false
namespace Go.Proofs.YtfjplmbknegidaaGreatDoor
open Go.RowKit Go.Lib Go.Maps

namespace Sp
/-- The class that a file says, and where it stands. -/
def clOf (F : FlP) (i : Int) : Cl := ⟨(classNameS F.pool F.this).1, (classNameS F.pool F.super).1, F.ifaces.map (fun j => (classNameS F.pool j).1), decide (F.flags = 3), decide (F.flags ≠ 0), true, i⟩
end Sp

set_option maxHeartbeats 8000000 in
set_option maxRecDepth 100000 in
theorem classOf_any (q : Sp.At) (F : FlP) (i : Int) (w : World) (hr : RdF w q F) (hf : FlagsOk F.flags) (h1 : In64 F.this) (h2 : In64 F.super) (h3 : ∀ i ∈ F.ifaces, In64 i) (ha : ∀ c ∈ F.pool, In64 c.a) (hn : F.ifaces.length ≤ 100000) :
    Calls Tryz.prog 49 #[.agg (flC q F), .int .i64 i] w fun e w' => ∃ A c, e = .returned (Sp.clV (Sp.clOf F i, A, c)) ∧ w'.ownsRow w.heap.size 9 1 (.slice A F.ifaces.length c) F.ifaces.length ((Sp.clOf F i).ifaces.flatMap Sp.strC) ∧ Below w.heap.size w w' := by
  have kc := Lib.hid (fun j (hj : In64 j) W hr => className_any q F j W hr hj ha)
  obtain ⟨P, hP⟩ : ∃ P, Sp.clOf F i = P := ⟨_, rfl⟩
  rw [hP]
  have hP := Lib.hid hP.symm
  have hz := Sp.zP
  have hb1 := Lib.hid ((Below.refl w.heap.size w).alloc (Nat.le_refl _) (.cells (flC q F) 63))
  have hF1 := Lib.hid (blk_new w (.cells (flC q F) 63))
  have hr := Lib.hid hr
  have hn' := hn
  obtain ⟨pool, fl, th, su, ifs, flds, mths⟩ := F
  obtain ⟨qA, qc, qI, qd, qX, qe, qY, qg⟩ := q
  simp only [] at hf h1 h2 h3 hn hP ⊢
  have hfl : flC ⟨qA, qc, qI, qd, qX, qe, qY, qg⟩ ⟨pool, fl, th, su, ifs, flds, mths⟩ = #[.slice qA pool.length qc, .int .i64 fl, .int .i64 th, .int .i64 su, .slice qI ifs.length qd, .slice qX flds.length qe, .slice qY mths.length qg] := rfl
  rw [hfl] at kc hb1 hF1 ⊢
  clear hfl hz
  have hfg : Hid ((bits BinOp.and IntKind.i64 fl 1 != 0) = decide (fl = 3) ∧ (bits BinOp.and IntKind.i64 fl 2 != 0) = decide (fl ≠ 0)) := by
    rcases hf with rfl | rfl | rfl <;> exact Lib.hid (by decide +kernel)
  have hb3 := Lib.hid ((hb1.out.alloc (by simp) (.cells #[.string ⟨#[]⟩, .string ⟨#[]⟩, .slice none 0 0, .bool false, .bool false, .bool false, .int .i64 0] 44)).alloc (by simp; omega) (.cells #[.string ⟨#[]⟩, .string ⟨#[]⟩, .slice none 0 0, .bool (bits BinOp.and IntKind.i64 fl 1 != 0), .bool (bits BinOp.and IntKind.i64 fl 2 != 0), .bool true, .int .i64 i] 44))
  have hF3 := Lib.hid (blk_old (o := .cells #[.string ⟨#[]⟩, .string ⟨#[]⟩, .slice none 0 0, .bool (bits BinOp.and IntKind.i64 fl 1 != 0), .bool (bits BinOp.and IntKind.i64 fl 2 != 0), .bool true, .int .i64 i] 44) (blk_old (o := .cells #[.string ⟨#[]⟩, .string ⟨#[]⟩, .slice none 0 0, .bool false, .bool false, .bool false, .int .i64 0] 44) hF1.out))
  have hR3 := Lib.hid (blk_old (o := .cells #[.string ⟨#[]⟩, .string ⟨#[]⟩, .slice none 0 0, .bool (bits BinOp.and IntKind.i64 fl 1 != 0), .bool (bits BinOp.and IntKind.i64 fl 2 != 0), .bool true, .int .i64 i] 44) (blk_new (w.alloc (.cells #[.slice qA pool.length qc, .int .i64 fl, .int .i64 th, .int .i64 su, .slice qI ifs.length qd, .slice qX flds.length qe, .slice qY mths.length qg] 63)) (.cells #[.string ⟨#[]⟩, .string ⟨#[]⟩, .slice none 0 0, .bool false, .bool false, .bool false, .int .i64 0] 44)))
  have hC3 := Lib.hid (blk_new ((w.alloc (.cells #[.slice qA pool.length qc, .int .i64 fl, .int .i64 th, .int .i64 su, .slice qI ifs.length qd, .slice qX flds.length qe, .slice qY mths.length qg] 63)).alloc (.cells #[.string ⟨#[]⟩, .string ⟨#[]⟩, .slice none 0 0, .bool false, .bool false, .bool false, .int .i64 0] 44)) (.cells #[.string ⟨#[]⟩, .string ⟨#[]⟩, .slice none 0 0, .bool (bits BinOp.and IntKind.i64 fl 1 != 0), .bool (bits BinOp.and IntKind.i64 fl 2 != 0), .bool true, .int .i64 i] 44))
  go_enter Tryz.func49, Tryz.ntmps49
  go_wp2_with fail
  generalize (bits BinOp.and IntKind.i64 fl 1 != 0) = b1 at *
  generalize (bits BinOp.and IntKind.i64 fl 2 != 0) = b2 at *
  generalize (bits BinOp.and IntKind.i64 fl 1) = u1 at *
  generalize (bits BinOp.and IntKind.i64 fl 2) = u2 at *
  rw [show (w.alloc (.cells #[.slice qA pool.length qc, .int .i64 fl, .int .i64 th, .int .i64 su, .slice qI ifs.length qd, .slice qX flds.length qe, .slice qY mths.length qg] 63)).heap.size = w.heap.size + 1 by simp] at hR3
  rw [show ((w.alloc (.cells #[.slice qA pool.length qc, .int .i64 fl, .int .i64 th, .int .i64 su, .slice qI ifs.length qd, .slice qX flds.length qe, .slice qY mths.length qg] 63)).alloc (.cells #[.string ⟨#[]⟩, .string ⟨#[]⟩, .slice none 0 0, .bool false, .bool false, .bool false, .int .i64 0] 44)).heap.size = w.heap.size + 2 by simp] at hC3
  rw [show w.heap.size + 1 + 1 = w.heap.size + 2 from rfl]
  generalize ((w.alloc (.cells #[.slice qA pool.length qc, .int .i64 fl, .int .i64 th, .int .i64 su, .slice qI ifs.length qd, .slice qX flds.length qe, .slice qY mths.length qg] 63)).alloc (.cells #[.string ⟨#[]⟩, .string ⟨#[]⟩, .slice none 0 0, .bool false, .bool false, .bool false, .int .i64 0] 44)).alloc (.cells #[.string ⟨#[]⟩, .string ⟨#[]⟩, .slice none 0 0, .bool b1, .bool b2, .bool true, .int .i64 i] 44) = W at *
  refine (kc.out _ h1 _ (rdF_below hr.out hb3.out)).mono ?_
  rintro e w1 ⟨rfl, hbw⟩
  have hF := Lib.hid (blk_below hF3.out hbw)
  have hR := Lib.hid (blk_below hR3.out hbw)
  have hC := Lib.hid (blk_below hC3.out hbw)
  have hb := Lib.hid (below_then hb3.out hb3.out.size hbw)
  clear hF3 hR3 hC3 hb3 hF1 hb1 hbw
  obtain ⟨c0, d0⟩ := blk_cell hC.out 0 _ rfl
  have hlc := blk_lt hC.out
  have hC2 := Lib.hid (blk_set (i := 0) hC.out (.string (Sp.classNameS pool th).1))
  have hF2 := Lib.hid (blk_other hF.out ⟨w.heap.size + 2, 0, none⟩ (.string (Sp.classNameS pool th).1) (by simp))
  have hR2 := Lib.hid (blk_other hR.out ⟨w.heap.size + 2, 0, none⟩ (.string (Sp.classNameS pool th).1) (by simp))
  have hb2 := Lib.hid ((Keeps.of_below (S := fun i => w.heap.size ≤ i) hb.out).setCell (a := ⟨w.heap.size + 2, 0, none⟩) (by left; show w.heap.size ≤ w.heap.size + 2; omega) (.string (Sp.classNameS pool th).1))
  clear hF hR hC
  obtain ⟨f0, f1, f2, f3, f4, f5, f6⟩ := cells7 hF2.out
  have hlf := blk_lt hF2.out
  go_wp2_with fail
  clear c0 d0 f0 f1 f2 f3 f4 f5 f6 hlf hlc hb
  generalize w1.setCell ⟨w.heap.size + 2, 0, none⟩ (.string (Sp.classNameS pool th).1) = W2 at *
  refine (kc.out _ h2 _ (rdF_below hr.out (hb2.out.below (Nat.le_refl _) (fun i q => q)))).mono ?_
  rintro e w3 ⟨rfl, hbw⟩
  have hF := Lib.hid (blk_below hF2.out hbw)
  have hR := Lib.hid (blk_below hR2.out hbw)
  have hC := Lib.hid (blk_below hC2.out hbw)
  have hb := Lib.hid (hb2.out.trans (Keeps.of_below (S := fun i => w.heap.size ≤ i) hbw))
  clear hF2 hR2 hC2 hb2 hbw
  obtain ⟨c0, d0⟩ := blk_cell hC.out 1 (.string ⟨#[]⟩) rfl
  have hlc := blk_lt hC.out
  have hC2 := Lib.hid (blk_set (i := 1) hC.out (.string (Sp.classNameS pool su).1))
  have hF2 := Lib.hid (blk_other hF.out ⟨w.heap.size + 2, 1, none⟩ (.string (Sp.classNameS pool su).1) (by simp))
  have hR2 := Lib.hid (blk_other hR.out ⟨w.heap.size + 2, 1, none⟩ (.string (Sp.classNameS pool su).1) (by simp))
  have hb2 := Lib.hid (hb.out.setCell (a := ⟨w.heap.size + 2, 1, none⟩) (by left; show w.heap.size ≤ w.heap.size + 2; omega) (.string (Sp.classNameS pool su).1))
  clear hF hR hC
  obtain ⟨f0, f1, f2, f3, f4, f5, f6⟩ := cells7 hF2.out
  have hlf := blk_lt hF2.out
  go_upto_region 5 with fail
  clear c0 d0 f0 f1 f2 f3 f4 f5 f6 hlf hlc hb
  generalize w3.setCell ⟨w.heap.size + 2, 1, none⟩ (.string (Sp.classNameS pool su).1) = W4 at *
  have hP2 := Lib.hid (show P = ⟨(Sp.classNameS pool th).1, (Sp.classNameS pool su).1, ifs.map (fun j => (Sp.classNameS pool j).1), b1, b2, true, i⟩ by rw [hP.out, hfg.out.1, hfg.out.2]; rfl)
  clear hP hfg
  have hC5 : Hid (W4.heap[w.heap.size + 2]? = some (.cells #[.string (Sp.classNameS pool th).1, .string (Sp.classNameS pool su).1, .slice none 0 0, .bool b1, .bool b2, .bool true, .int .i64 i] 44 (0, 0))) := Lib.hid (by
    have := hC2.out
    simp only [List.setIfInBounds_toArray, List.set_cons_zero, List.set_cons_succ] at this
    exact this)
  have hO5 : Hid (W4.ownsRow w.heap.size 9 1 (.slice none 0 0) 0 (([] : List ByteArray).flatMap Sp.strC)) := Lib.hid ⟨rfl, .inl ⟨rfl, rfl⟩⟩
  have hIf := Lib.hid hr.out.ifaces
  simp only [] at hIf
  generalize (Sp.classNameS pool th).1 = nm0 at *
  generalize (Sp.classNameS pool su).1 = nm1 at *
  generalize (Sp.classNameS pool th).2 = ok0 at *
  generalize (Sp.classNameS pool su).2 = ok1 at *
  clear hC2 h1 h2
  go_loopw [7, 8, 9, 39] (fun _ _ _ vi wr => ∃ (acc post : List Int) (A' : Option Addr) (c' : Nat), vi = .int .i64 acc.length ∧ Hid (ifs = acc ++ post) ∧ Hid (wr.heap[w.heap.size]? = some (.cells #[.slice qA pool.length qc, .int .i64 fl, .int .i64 th, .int .i64 su, .slice qI ifs.length qd, .slice qX flds.length qe, .slice qY mths.length qg] 63 (0, 0))) ∧ Hid (wr.heap[w.heap.size + 1]? = some (.cells #[.string ⟨#[]⟩, .string ⟨#[]⟩, .slice none 0 0, .bool false, .bool false, .bool false, .int .i64 0] 44 (0, 0))) ∧ Hid (wr.heap[w.heap.size + 2]? = some (.cells #[.string nm0, .string nm1, .slice A' acc.length c', .bool b1, .bool b2, .bool true, .int .i64 i] 44 (0, 0))) ∧ Hid (wr.ownsRow w.heap.size 9 1 (.slice A' acc.length c') acc.length ((acc.map (fun j => (Sp.classNameS pool j).1)).flatMap Sp.strC)) ∧ Hid (Keeps (fun i => w.heap.size ≤ i) w wr)) (fun _ _ _ vi _ => ifs.length - (RowKit.intOf vi).toNat)
  case atStart => exact ⟨[], ifs, none, 0, by go_num, Lib.hid rfl, hF2, hR2, hC5, hO5, hb2⟩
  case round =>
    clear hF2 hR2 hC5 hO5 hb2
    obtain ⟨acc, post, A', c', rfl, hip, hF, hR, hC, hO, hK⟩ := hrel
    have hil : Hid (ifs.length = acc.length + post.length) := Lib.hid (by rw [hip.out]; simp)
    obtain ⟨f0, f1, f2, f3, f4, f5, f6⟩ := cells7 hF.out
    have hlf := blk_lt hF.out
    cases post with
    | cons y post =>
      have hlt : (acc.length : Int) < (ifs.length : Int) := by have := hil.out; rw [List.length_cons] at this; omega
      have hgy : ifs.getD acc.length 0 = y := by rw [hip.out]; simp [List.getD_eq_getElem?_getD]
      have hBw := hK.out.below (Nat.le_refl _) (fun i q => q)
      have hy := h3 y (by rw [hip.out]; simp)
      obtain ⟨b, o, rfl, hcell⟩ := hIf.out.2 (by have := hil.out; rw [List.length_cons] at this; omega)
      have ck := cell_below hBw (hcell acc.length (by omega))
      rw [hgy] at ck
      clear hcell hgy
      have hrw := Lib.hid (rdF_below hr.out hBw)
      have ky := Lib.hid (fun W hr => kc.out y hy W hr)
      have hip2 := Lib.hid (show ifs = (acc ++ [y]) ++ post by rw [hip.out]; simp)
      go_wp2_with fail
      refine (ky.out _ hrw.out).mono ?_
      rintro e w4 ⟨rfl, hb4⟩
      have hF4 := Lib.hid (blk_below hF.out hb4)
      have hR4 := Lib.hid (blk_below hR.out hb4)
      have hC4 := Lib.hid (blk_below hC.out hb4)
      have hO4 := Lib.hid ((Keeps.of_below (S := fun _ => False) hb4).row hO.out (fun k hk q => q))
      have hK4 := Lib.hid (hK.out.trans (Keeps.of_below (S := fun i => w.heap.size ≤ i) hb4))
      clear hF hR hC hO hK hBw f0 f1 f2 f3 f4 f5 f6 hlf ck ky hrw hip hb4
      have hBz := hK4.out.size
      have hml : (acc.map (fun j => (Sp.classNameS pool j).1)).length = acc.length := by simp
      obtain ⟨A2, c2, w5, hra, hO5, hK5⟩ := app_str (ty := 42) w4 w.heap.size A' c' (acc.map (fun j => (Sp.classNameS pool j).1)) (Sp.classNameS pool y).1 (by rw [hml]; exact hO4.out) (by rw [hml]; omega) hBz
      have hl2 : (acc.map (fun j => (Sp.classNameS pool j).1) ++ [(Sp.classNameS pool y).1]).length = acc.length + 1 := by simp
      rw [hml] at hra hK5
      rw [hl2] at hra hO5
      obtain ⟨ny, hny⟩ : ∃ s, (Sp.classNameS pool y).1 = s := ⟨_, rfl⟩
      rw [hny] at hra hO5
      have hny := Lib.hid hny
      have hra2 := Lib.hid hra
      have hno : ∀ k T C, w4.heap[k]? = some (.cells C T (0, 0)) → T ≠ 9 → (Value.slice A' acc.length c').ownBlock ≠ some k := fun k T C hh hT q => by
        rcases hO4.out.2 with ⟨h0, _⟩ | ⟨g, cp, cr, hv, hb, hq, _⟩
        · rw [h0] at q; simp [Value.ownBlock] at q
        · rw [hv] at q
          have : g = k := by simpa [Value.ownBlock] using q
          rw [this, hh] at hq
          injection hq with hq
          injection hq with _ ht
          exact hT ht
      have hF5 := Lib.hid (hK5.obj hF4.out (hno _ _ _ hF4.out (by decide)))
      have hR5 := Lib.hid (hK5.obj hR4.out (hno _ _ _ hR4.out (by decide)))
      have hC5 := Lib.hid (hK5.obj hC4.out (hno _ _ _ hC4.out (by decide)))
      have hK6 := Lib.hid (hK4.out.trans (hK5.mono (fun i q => own_base hO4.out i q)))
      have hO5 := Lib.hid hO5
      obtain ⟨c0, d0⟩ := blk_cell hC4.out 2 (.slice A' acc.length c') rfl
      have hlc := blk_lt hC4.out
      clear hra hK5 hml hl2 hno hO4 hF4 hR4 hK4
      go_wp2_with (at_builtin; refine wpList_app _ rfl _ _ _ _ rfl _ _ rfl rfl (.slice A2 (acc.length + 1) c2) w5 hra2.out ?_)
      intro v2 w2' hq
      obtain ⟨rfl, rfl⟩ := hq.out
      clear hq hra2 c0 d0 hlc hC4
      obtain ⟨c0, d0⟩ := blk_cell hC5.out 2 (.slice A' acc.length c') rfl
      have hlc := blk_lt hC5.out
      have hl3 : (acc ++ [y]).length = acc.length + 1 := by simp
      have hC6 := Lib.hid (show (w5.setCell ⟨w.heap.size + 2, 2, none⟩ (.slice A2 (acc.length + 1) c2)).heap[w.heap.size + 2]? = some (.cells #[.string nm0, .string nm1, .slice A2 (acc ++ [y]).length c2, .bool b1, .bool b2, .bool true, .int .i64 i] 44 (0, 0)) by rw [hl3]; exact blk_set (i := 2) hC5.out (.slice A2 (acc.length + 1) c2))
      have hF6 := Lib.hid (blk_other hF5.out ⟨w.heap.size + 2, 2, none⟩ (.slice A2 (acc.length + 1) c2) (by simp))
      have hR6 := Lib.hid (blk_other hR5.out ⟨w.heap.size + 2, 2, none⟩ (.slice A2 (acc.length + 1) c2) (by simp))
      have hK7 := Lib.hid (hK6.out.setCell (a := ⟨w.heap.size + 2, 2, none⟩) (by left; show w.heap.size ≤ w.heap.size + 2; omega) (.slice A2 (acc.length + 1) c2))
      have hO6 := Lib.hid (show (w5.setCell ⟨w.heap.size + 2, 2, none⟩ (.slice A2 (acc.length + 1) c2)).ownsRow w.heap.size 9 1 (.slice A2 (acc ++ [y]).length c2) (acc ++ [y]).length (((acc ++ [y]).map (fun j => (Sp.classNameS pool j).1)).flatMap Sp.strC) by
        rw [hl3, List.map_append, List.map_cons, List.map_nil, hny.out]
        exact ((Keeps.refl (fun i => i = w.heap.size + 2) w5).setCell (a := ⟨w.heap.size + 2, 2, none⟩) (.inl rfl) (.slice A2 (acc.length + 1) c2)).row hO5.out (fun k hk q => by
          rcases hO5.out.2 with ⟨h0, _⟩ | ⟨g, cp, cr, hv, hb, hq, _⟩
          · rw [h0] at hk; simp [Value.ownBlock] at hk
          · rw [hv] at hk
            have hgk : g = k := by simpa [Value.ownBlock] using hk
            rw [hgk, q, hC5.out] at hq
            injection hq with hq
            injection hq with _ ht
            exact absurd ht (by decide)))
      have hmz : ifs.length - (acc ++ [y]).length < ifs.length - acc.length := by have := hil.out; rw [List.length_cons] at this; omega
      clear hC5 hF5 hR5 hK6 hO5 hl3
      go_wp2
      go_roundw
      case rel => exact ⟨acc ++ [y], post, A2, c2, by first | rfl | go_num | (simp; done) | (simp; omega), hip2, hF6, hR6, hC6, hO6, hK7⟩
      case measure => simp [RowKit.intOf] at hmz ⊢; omega
    | nil =>
      have hlt : ¬ (acc.length : Int) < (ifs.length : Int) := by have := hil.out; simp at this; omega
      have hac : acc = ifs := by have := hip.out; rw [List.append_nil] at this; exact this.symm
      subst hac
      obtain ⟨c0, c1, c2, c3, c4, c5, c6⟩ := cells7 hC.out
      obtain ⟨r0, r1, r2, r3, r4, r5, r6⟩ := cells7 hR.out
      have hlc := blk_lt hC.out
      have hlr := blk_lt hR.out
      clear f0 f1 f2 f3 f4 f5 f6 hlf hF
      obtain ⟨z0, z1, z2, z3, z4, z5, z6⟩ := frz7 hR.out
      have hfin := Lib.hid (blk_set (i := 6) (blk_set (i := 5) (blk_set (i := 4) (blk_set (i := 3) (blk_set (i := 2) (blk_set (i := 1) (blk_set (i := 0) hR.out (.string nm0)) (.string nm1)) (.slice A' acc.length c')) (.bool b1)) (.bool b2)) (.bool true)) (.int .i64 i))
      have hKf := Lib.hid ((((((((Keeps.refl (fun i => i = w.heap.size + 1) wr).setCell (a := ⟨w.heap.size + 1, 0, none⟩) (.inl rfl) (.string nm0)).setCell (a := ⟨w.heap.size + 1, 1, none⟩) (.inl rfl) (.string nm1)).setCell (a := ⟨w.heap.size + 1, 2, none⟩) (.inl rfl) (.slice A' acc.length c')).setCell (a := ⟨w.heap.size + 1, 3, none⟩) (.inl rfl) (.bool b1)).setCell (a := ⟨w.heap.size + 1, 4, none⟩) (.inl rfl) (.bool b2)).setCell (a := ⟨w.heap.size + 1, 5, none⟩) (.inl rfl) (.bool true)).setCell (a := ⟨w.heap.size + 1, 6, none⟩) (.inl rfl) (.int .i64 i))
      have hO5 := Lib.hid (hKf.out.row hO.out (fun k hk q => by
        rcases hO.out.2 with ⟨h0, _⟩ | ⟨g, cp, cr, hv, hb, hq, _⟩
        · rw [h0] at hk; simp [Value.ownBlock] at hk
        · rw [hv] at hk
          have hgk : g = k := by simpa [Value.ownBlock] using hk
          rw [hgk, q, hR.out] at hq
          injection hq with hq
          injection hq with _ ht
          exact absurd ht (by decide)))
      have hB5 := Lib.hid ((hK.out.trans (hKf.out.mono (S' := fun i => w.heap.size ≤ i) (fun i q => by omega))).below (Nat.le_refl _) (fun i q => q))
      clear hK hO hKf hR hC
      go_wp2
      (try simp only [Exit.inBlock, Exit.then])
      refine bodyPost_ret (results_c rfl _ _ _ rfl (cl_load hfin.out)) rfl ?_
      rw [hP2.out]
      exact ⟨A', c', by simp [Sp.clV], hO5.out, hB5.out⟩
end Go.Proofs.YtfjplmbknegidaaGreatDoor
end
section
/-
  Walks of the library's IndexFunc, ContainsFunc at texts, the function one that captures a value.
-/
set_option linter.unusedVariables false
set_option linter.unusedSimpArgs false
namespace Go.Proofs.YtfjplmbknegidaaGreatDoor
open Go.RowKit Go.Lib Go.Maps

set_option maxHeartbeats 4000000 in
set_option maxRecDepth 100000 in
theorem indexFunc_any (g : FuncId) (cap : Value) (p : ByteArray → Bool) (A : Option Addr) (c : Nat) (l : List ByteArray) (w : World) (h : RdL Sp.strC w A l) (hl : l.length ≤ 100000) (hent : ∀ (args : Array Value) W, (callFunc g args).run Tryz.prog W = .ok (.enter g args) W)
    (hg : ∀ x ∈ l, ∀ W, Below w.heap.size w W → Calls Tryz.prog g #[.string x, cap] W fun e w' => e = .returned (.bool (p x)) ∧ Below W.heap.size W w') :
    Calls Tryz.prog 84 #[.slice A l.length c, .func (.func g) #[] #[cap]] w fun e w' => ∃ r : Int, e = .returned (.int .i64 r) ∧ decide (0 ≤ r) = l.any p ∧ Below w.heap.size w w' := by
  have hR := Lib.hid h
  have hG := Lib.hid hg
  have hb0 := Lib.hid (Below.refl w.heap.size w)
  clear h hg
  go_enter Tryz.func84, Tryz.ntmps84
  go_wp2
  go_loopw [5, 8] (fun _ vi wr => ∃ j : Nat, vi = .int .i64 j ∧ j ≤ l.length ∧ Hid (l.any p = (l.drop j).any p) ∧ Hid (Below w.heap.size w wr)) (fun _ vi _ => l.length - (RowKit.intOf vi).toNat)
  case atStart => exact ⟨0, by go_num, Nat.zero_le _, Lib.hid rfl, hb0⟩
  case round =>
    clear hb0
    obtain ⟨j, rfl, hj, ha, hb⟩ := hrel
    by_cases hlt : j < l.length
    · have hzj : (j : Int) < (l.length : Int) := by omega
      obtain ⟨b, o, rfl, hr⟩ := hR.out.2 (by omega)
      have ck : wr.cell? ⟨b, o + j, none⟩ = some (.string l[j]) := cell_below hb.out (by
        have := rdL_get 1 Sp.strC_len hr hlt 0 (by decide) (v := .string l[j]) rfl
        simpa using this)
      have ha2 := ha.out
      rw [List.drop_eq_getElem_cons hlt, List.any_cons] at ha2
      have kg := Lib.hid (hG.out _ (List.getElem_mem hlt) wr hb.out)
      clear hr ha
      generalize l[j] = x at *
      have ha2 := Lib.hid ha2
      go_wp2_with fail
      refine kg.out.mono ?_
      rintro e w2 ⟨rfl, hb2⟩
      have hb3 := Lib.hid (below_then hb.out hb.out.size hb2)
      clear kg hb hb2 ck
      cases hp : p x with
      | true =>
        have hE := Lib.hid ha2.out
        rw [hp, Bool.true_or] at hE
        clear ha2 hp
        go_wp2
        go_ret
        first
          | exact ⟨j, rfl, by rw [hE.out]; simp, hb3.out⟩
          | exact ⟨rfl, j, by rw [hE.out]; simp, hb3.out⟩
          | exact ⟨by rw [hE.out]; simp, hb3.out⟩
      | false =>
        have hE := Lib.hid ha2.out
        rw [hp, Bool.false_or] at hE
        clear ha2 hp
        go_wp2
        go_roundw
        case rel => exact ⟨j + 1, by go_num, by omega, hE, hb3⟩
        case measure => simp [RowKit.intOf]; omega
    · have hzj : ¬ (j : Int) < (l.length : Int) := by omega
      have hE := Lib.hid ha.out
      rw [List.drop_eq_nil_of_le (by omega), List.any_nil] at hE
      clear ha
      go_wp2
      go_ret
      first
        | exact ⟨-1, rfl, by rw [hE.out]; rfl, hb.out⟩
        | exact ⟨by rw [hE.out]; rfl, hb.out⟩

set_option maxHeartbeats 4000000 in
set_option maxRecDepth 100000 in
theorem containsFunc_any (g : FuncId) (cap : Value) (p : ByteArray → Bool) (A : Option Addr) (c : Nat) (l : List ByteArray) (w : World) (h : RdL Sp.strC w A l) (hl : l.length ≤ 100000) (hent : ∀ (args : Array Value) W, (callFunc g args).run Tryz.prog W = .ok (.enter g args) W)
    (hg : ∀ x ∈ l, ∀ W, Below w.heap.size w W → Calls Tryz.prog g #[.string x, cap] W fun e w' => e = .returned (.bool (p x)) ∧ Below W.heap.size W w') :
    Calls Tryz.prog 66 #[.slice A l.length c, .func (.func g) #[] #[cap]] w fun e w' => e = .returned (.bool (l.any p)) ∧ Below w.heap.size w w' := by
  have k := Lib.hid (indexFunc_any g cap p A c l w h hl hent hg)
  clear h hg
  generalize l.any p = P at *
  go_enter Tryz.func66, Tryz.ntmps66
  go_wp2_with fail
  refine k.out.mono ?_
  rintro e w' ⟨r, rfl, hr, hb⟩
  have hr := Lib.hid hr
  have hb := Lib.hid hb
  clear k
  go_wp2
  go_ret
  first
    | exact ⟨by rw [← hr.out]; rfl, hb.out⟩
    | (refine ⟨?_, hb.out⟩; rw [← hr.out]; simp)
end Go.Proofs.YtfjplmbknegidaaGreatDoor
end
section
/-
  Walks of chapter 6's sub and Sub.
-/
set_option linter.unusedVariables false
set_option linter.unusedSimpArgs false
namespace Go.Proofs.YtfjplmbknegidaaGreatDoor
open Go.RowKit Go.Lib Go.Maps

theorem Sp.subN_eq (L : List Sp.Cl) (d : Int) (x : ByteArray) (e : Int) (y : ByteArray) (hd : 0 ≤ d) : Sp.subN L d.toNat (d, x) (e, y) =
    if (d, x) = (e, y) then true else if Sp.isRefS (d, x) = false ∨ Sp.isRefS (e, y) = false then false else if (e, y) = (0, Sp.objB) then true else
    if 0 < d ∧ 0 < e then Sp.subN L (d - 1).toNat (d - 1, x) (e - 1, y) else decide (d = 0) && decide (e = 0) && Sp.upB L x y := by
  obtain ⟨n, rfl⟩ := Int.eq_ofNat_of_zero_le hd
  cases n with
  | zero =>
    rw [show ((0 : Nat) : Int).toNat = 0 from rfl, Sp.subN]
    simp only [Int.natCast_zero, Int.lt_irrefl, false_and, if_false]
  | succ n =>
    rw [show (((n + 1 : Nat)) : Int).toNat = n + 1 from rfl, Sp.subN, show ((((n + 1 : Nat)) : Int) - 1).toNat = n by omega]
theorem ty_box {w : World} {b : Nat} {d : Int} {x : ByteArray} (h : w.heap[b]? = some (.cells #[.int .i64 d, .string x] 25 (0, 0))) : w.cell? ⟨b, 0, none⟩ = some (.int .i64 d) ∧ w.frozen? ⟨b, 0, none⟩ = false ∧ w.cell? ⟨b, 1, none⟩ = some (.string x) ∧ w.frozen? ⟨b, 1, none⟩ = false :=
  ⟨(blk_cell h 0 _ rfl).1, (blk_cell h 0 _ rfl).2, (blk_cell h 1 _ rfl).1, (blk_cell h 1 _ rfl).2⟩

set_option maxHeartbeats 8000000 in
set_option maxRecDepth 100000 in
theorem hsub_step (tb mb : Nat) (A : Option Addr) (c : Nat) (L : List Sp.ClP) (hL : L.length ≤ 10000) (n : Nat)
    (IH : ∀ (d : Int) (x : ByteArray) (e : Int) (y : ByteArray) (w : World), d.toNat < n → 0 ≤ d → d ≤ 4 → 0 ≤ e → e ≤ 4 → x.size ≤ 1099511627776 → y.size ≤ 1099511627776 → HTab w tb mb A c L → Tabs w →
      Calls Tryz.prog 42 #[.pointer (some ⟨tb, 0, none⟩), .agg #[.int .i64 d, .string x], .agg #[.int .i64 e, .string y]] w fun r w' => r = .returned (.bool (Sp.subN (L.map (·.1)) d.toNat (d, x) (e, y))) ∧ Below w.heap.size w w')
    (d : Int) (x : ByteArray) (e : Int) (y : ByteArray) (w : World) (hn : d.toNat ≤ n) (d0 : 0 ≤ d) (d4 : d ≤ 4) (e0 : 0 ≤ e) (e4 : e ≤ 4) (hx : x.size ≤ 1099511627776) (hy : y.size ≤ 1099511627776) (hH : HTab w tb mb A c L) (hT : Tabs w) :
      Calls Tryz.prog 42 #[.pointer (some ⟨tb, 0, none⟩), .agg #[.int .i64 d, .string x], .agg #[.int .i64 e, .string y]] w fun r w' => r = .returned (.bool (Sp.subN (L.map (·.1)) d.toNat (d, x) (e, y))) ∧ Below w.heap.size w w' := by
  have HE := Lib.hid (Sp.subN_eq (L.map (·.1)) d x e y d0)
  have k1 := Lib.hid (fun W hT => isRef_any d x W hx hT)
  have k2 := Lib.hid (fun W hT => isRef_any e y W hy hT)
  have hr1 := Lib.hid (fun h => Sp.ref_pos (a := (d, x)) h)
  have hr2 := Lib.hid (fun h => Sp.ref_pos (a := (e, y)) h)
  generalize Sp.subN (L.map (·.1)) d.toNat (d, x) (e, y) = R at *
  generalize Sp.isRefS (d, x) = r1 at *
  generalize Sp.isRefS (e, y) = r2 at *
  unfold Sp.tyV at k1 k2
  simp only at k1 k2
  have H0 := Lib.hid hH
  have T0 := Lib.hid hT
  have IH1 := Lib.hid IH
  have hb1 := Lib.hid (((Below.refl w.heap.size w).alloc (Nat.le_refl _) (.cells #[.int .i64 d, .string x] 25)).alloc (by simp) (.cells #[.int .i64 e, .string y] 25))
  have hK := Lib.hid (blk_old (o := .cells #[.int .i64 e, .string y] 25) (blk_new w (.cells #[.int .i64 d, .string x] 25)))
  have hM := Lib.hid (blk_new (w.alloc (.cells #[.int .i64 d, .string x] 25)) (.cells #[.int .i64 e, .string y] 25))
  rw [show (w.alloc (.cells #[.int .i64 d, .string x] 25)).heap.size = w.heap.size + 1 by simp] at hM
  clear IH hH hT
  go_enter Tryz.func42, Tryz.ntmps42
  go_upto_region 1 with fail
  generalize (w.alloc (.cells #[.int .i64 d, .string x] 25)).alloc (.cells #[.int .i64 e, .string y] 25) = W at *
  obtain ⟨a1, a2, a3, a4⟩ := ty_box hK.out
  obtain ⟨c1, c2, c3, c4⟩ := ty_box hM.out
  have hlk := blk_lt hM.out
  go_cut [7] (fun v wx => v = .bool (decide ((d, x) = (e, y))) ∧ wx = W)
  case first =>
    by_cases hde : d = e
    · subst hde
      have td : (d == d) = true := by simp
      by_cases hxy : x = y
      · subst hxy
        have tx : (x.toList == x.toList) = true := by simp
        go_wp2
        go_meet
        exact ⟨by simp, rfl⟩
      · have tx : (x.toList == y.toList) = false := by rw [bytes_eqb]; exact decide_eq_false hxy
        go_wp2
        go_meet
        exact ⟨by simp [hxy], rfl⟩
    · have td : (d == e) = false := by simp [hde]
      go_wp2
      go_meet
      exact ⟨by simp [hde], rfl⟩
  case rest =>
    obtain ⟨rfl, rfl⟩ := hcut
    by_cases hab : (d, x) = (e, y)
    · have hR : R = true := by rw [HE.out, if_pos hab]
      rw [decide_eq_true hab]
      subst hR
      clear HE hab k1 k2
      go_wp2
      go_ret
      exact ⟨rfl, hb1.out⟩
    · have HE1 := Lib.hid HE.out
      rw [if_neg hab] at HE1
      rw [decide_eq_false hab]
      have hab := Lib.hid hab
      clear HE
      go_wp2_with fail
      refine (k1.out _ (T0.out.below hb1.out)).mono ?_
      rintro r w1 ⟨rfl, hb2⟩
      have hK1 := Lib.hid (blk_below hK.out hb2)
      have hM1 := Lib.hid (blk_below hM.out hb2)
      have hB1 := Lib.hid (below_then hb1.out hb1.out.size hb2)
      clear a1 a2 a3 a4 c1 c2 c3 c4 hlk hK hM hb1 hb2 k1
      obtain ⟨a1, a2, a3, a4⟩ := ty_box hK1.out
      obtain ⟨c1, c2, c3, c4⟩ := ty_box hM1.out
      have hlk := blk_lt hM1.out
      cases r1 with
      | false =>
        have hR : R = false := by rw [HE1.out, if_pos (.inl rfl)]
        subst hR
        clear HE1 k2
        go_wp2
        go_ret
        exact ⟨rfl, hB1.out⟩
      | true =>
        go_wp2_with fail
        refine (k2.out _ (T0.out.below hB1.out)).mono ?_
        rintro r w2 ⟨rfl, hb2⟩
        have hK2 := Lib.hid (blk_below hK1.out hb2)
        have hM2 := Lib.hid (blk_below hM1.out hb2)
        have hB2 := Lib.hid (below_then hB1.out hB1.out.size hb2)
        clear a1 a2 a3 a4 c1 c2 c3 c4 hlk hK1 hM1 hB1 hb2 k2
        obtain ⟨a1, a2, a3, a4⟩ := ty_box hK2.out
        obtain ⟨c1, c2, c3, c4⟩ := ty_box hM2.out
        have hlk := blk_lt hM2.out
        cases r2 with
        | false =>
          have hR : R = false := by rw [HE1.out, if_pos (.inr rfl)]
          subst hR
          clear HE1
          go_wp2
          go_ret
          exact ⟨rfl, hB2.out⟩
        | true =>
          have HE2 := Lib.hid HE1.out
          rw [if_neg (by simp)] at HE2
          clear HE1
          obtain ⟨q1, q2, q3⟩ := hr1.out (by simp)
          obtain ⟨p1, p2, p3⟩ := hr2.out (by simp)
          have q2 := Lib.hid q2
          have p2 := Lib.hid p2
          clear q1 q3 p1 p3 hr1 hr2
          have hob : (Sp.objB).toList = [79, 98, 106, 101, 99, 116] := by decide +kernel
          have hob := Lib.hid hob
          go_upto_region 5 with fail
          go_cut [20] (fun v wx => v = .bool (decide ((e, y) = ((0 : Int), Sp.objB))) ∧ wx = w2)
          case first =>
            by_cases he0 : e = 0
            · subst he0
              by_cases hyo : y = Sp.objB
              · have ty : (y.toList == [79, 98, 106, 101, 99, 116]) = true := by rw [← hob.out, bytes_eqb]; exact decide_eq_true hyo
                have hyo' := Lib.hid hyo
                clear hyo
                go_wp2
                go_meet
                exact ⟨by simp [hyo'.out], rfl⟩
              · have ty : (y.toList == [79, 98, 106, 101, 99, 116]) = false := by rw [← hob.out, bytes_eqb]; exact decide_eq_false hyo
                go_wp2
                go_meet
                exact ⟨by simp [hyo], rfl⟩
            · have te : (e == 0) = false := by simp [he0]
              go_wp2
              go_meet
              exact ⟨by simp [he0], rfl⟩
          case rest =>
            obtain ⟨rfl, rfl⟩ := hcut
            by_cases hbo : (e, y) = ((0 : Int), Sp.objB)
            · have hR : R = true := by rw [HE2.out, if_pos hbo]
              rw [decide_eq_true hbo]
              subst hR
              clear HE2 hbo
              go_wp2
              go_ret
              exact ⟨rfl, hB2.out⟩
            · have HE3 := Lib.hid HE2.out
              rw [if_neg hbo] at HE3
              rw [decide_eq_false hbo]
              clear HE2 hbo
              by_cases hd : 0 < d
              · by_cases he : 0 < e
                · have hR := Lib.hid HE3.out
                  rw [if_pos ⟨hd, he⟩] at hR
                  have hK3 := Lib.hid (show ((wc.setCell ⟨w.heap.size, 0, none⟩ (.int .i64 (d - 1))).setCell ⟨w.heap.size + 1, 0, none⟩ (.int .i64 (e - 1))).heap[w.heap.size]? = some (.cells #[.int .i64 (d - 1), .string x] 25 (0, 0)) from blk_other (blk_set (i := 0) hK2.out (.int .i64 (d - 1))) ⟨w.heap.size + 1, 0, none⟩ (.int .i64 (e - 1)) (by show w.heap.size ≠ w.heap.size + 1; omega))
                  have hM3 := Lib.hid (show ((wc.setCell ⟨w.heap.size, 0, none⟩ (.int .i64 (d - 1))).setCell ⟨w.heap.size + 1, 0, none⟩ (.int .i64 (e - 1))).heap[w.heap.size + 1]? = some (.cells #[.int .i64 (e - 1), .string y] 25 (0, 0)) from blk_set (i := 0) (blk_other hM2.out ⟨w.heap.size, 0, none⟩ (.int .i64 (d - 1)) (by show w.heap.size + 1 ≠ w.heap.size; omega)) (.int .i64 (e - 1)))
                  have hB3 := Lib.hid (Below.setCell (p := ⟨w.heap.size + 1, 0, none⟩) (Below.setCell (p := ⟨w.heap.size, 0, none⟩) hB2.out (Nat.le_refl _) (.int .i64 (d - 1))) (by show w.heap.size ≤ w.heap.size + 1; omega) (.int .i64 (e - 1)))
                  clear HE3
                  go_upto_region 10 with fail
                  generalize (wc.setCell ⟨w.heap.size, 0, none⟩ (.int .i64 (d - 1))).setCell ⟨w.heap.size + 1, 0, none⟩ (.int .i64 (e - 1)) = W3 at *
                  clear a1 a2 a3 a4 c1 c2 c3 c4 hlk hK2 hM2 hB2
                  obtain ⟨a1, a2, a3, a4⟩ := ty_box hK3.out
                  obtain ⟨c1, c2, c3, c4⟩ := ty_box hM3.out
                  have hlk := blk_lt hM3.out
                  have k9 := Lib.hid (IH1.out (d - 1) x (e - 1) y W3 (by omega) (by omega) (by omega) (by omega) (by omega) hx hy (H0.out.below hB3.out) (T0.out.below hB3.out))
                  rw [← hR.out] at k9
                  clear hR IH1
                  go_wp2_with fail
                  refine k9.out.mono ?_
                  rintro r w4 ⟨rfl, hb4⟩
                  have hB4 := Lib.hid (below_then hB3.out hB3.out.size hb4)
                  clear hB3 hb4 k9 a1 a2 a3 a4 c1 c2 c3 c4 hlk
                  go_wp2
                  go_ret
                  exact ⟨rfl, hB4.out⟩
                · have td0 : (d == 0) = false := by simp; omega
                  have hR : R = false := by rw [HE3.out, if_neg (fun q => he q.2), decide_eq_false (by omega)]; rfl
                  subst hR
                  clear HE3
                  go_wp2
                  go_ret
                  exact ⟨rfl, hB2.out⟩
              · have hd0 : d = 0 := by omega
                subst hd0
                by_cases he0 : e = 0
                · subst he0
                  have hyn : y ≠ Sp.nilB := fun q => by have := p2.out q; simp at this
                  have hR : R = Sp.upB (L.map (·.1)) x y := by rw [HE3.out, if_neg (by omega)]; simp
                  have k9 := Lib.hid (above_any wc tb mb A c L x y (H0.out.below hB2.out) hyn hx hL)
                  rw [← hR] at k9
                  clear HE3 hR
                  have hyn := Lib.hid hyn
                  go_wp2_with fail
                  refine k9.out.mono ?_
                  rintro r w4 ⟨rfl, hb4⟩
                  have hB4 := Lib.hid (below_then hB2.out hB2.out.size hb4)
                  clear hB2 hb4 k9 a1 a2 a3 a4 c1 c2 c3 c4 hlk hK2 hM2
                  go_wp2
                  go_ret
                  exact ⟨rfl, hB4.out⟩
                · have te0 : (e == 0) = false := by simp [he0]
                  have hR : R = false := by rw [HE3.out, if_neg (by omega), decide_eq_false he0]; simp
                  subst hR
                  clear HE3
                  go_wp2
                  go_ret
                  exact ⟨rfl, hB2.out⟩
theorem hsub_any (tb mb : Nat) (A : Option Addr) (c : Nat) (L : List Sp.ClP) (hL : L.length ≤ 10000) : ∀ (n : Nat) (d : Int) (x : ByteArray) (e : Int) (y : ByteArray) (w : World), d.toNat ≤ n → 0 ≤ d → d ≤ 4 → 0 ≤ e → e ≤ 4 → x.size ≤ 1099511627776 → y.size ≤ 1099511627776 → HTab w tb mb A c L → Tabs w →
      Calls Tryz.prog 42 #[.pointer (some ⟨tb, 0, none⟩), .agg #[.int .i64 d, .string x], .agg #[.int .i64 e, .string y]] w fun r w' => r = .returned (.bool (Sp.subN (L.map (·.1)) d.toNat (d, x) (e, y))) ∧ Below w.heap.size w w'
  | 0, d, x, e, y, w, hn, d0, d4, e0, e4, hx, hy, hH, hT => hsub_step tb mb A c L hL 0 (fun _ _ _ _ _ h => absurd h (Nat.not_lt_zero _)) d x e y w hn d0 d4 e0 e4 hx hy hH hT
  | n + 1, d, x, e, y, w, hn, d0, d4, e0, e4, hx, hy, hH, hT => hsub_step tb mb A c L hL (n + 1) (fun d x e y w h => hsub_any tb mb A c L hL n d x e y w (Nat.lt_succ_iff.1 h)) d x e y w hn d0 d4 e0 e4 hx hy hH hT

set_option maxHeartbeats 4000000 in
set_option maxRecDepth 100000 in
theorem hSub_any (w : World) (tb mb : Nat) (A : Option Addr) (c : Nat) (L : List Sp.ClP) (hL : L.length ≤ 10000) (d : Int) (x : ByteArray) (e : Int) (y : ByteArray) (hx : x.size ≤ 1099511627776) (hy : y.size ≤ 1099511627776) (hH : HTab w tb mb A c L) (hT : Tabs w) :
    Calls Tryz.prog 16 #[.pointer (some ⟨tb, 0, none⟩), Sp.tyV (d, x), Sp.tyV (e, y)] w fun r w' => r = .returned (.bool (Sp.subS (L.map (·.1)) (d, x) (e, y))) ∧ Below w.heap.size w w' := by
  have HE := Lib.hid (show Sp.subS (L.map (·.1)) (d, x) (e, y) = _ by rw [Sp.subS])
  simp only at HE
  have k1 := Lib.hid (fun W hH hT => hknown_any W tb mb A c L d x hH hx hT)
  have k2 := Lib.hid (fun W hH hT => hknown_any W tb mb A c L e y hH hy hT)
  have kr : ∀ (d : Int) (x : ByteArray), Sp.knownS (L.map (·.1)) (d, x) = true → 0 ≤ d ∧ d ≤ 4 := fun d x h => by
    simp only [Sp.knownS, Sp.rightS, Bool.and_eq_true, decide_eq_true_eq] at h
    exact ⟨h.1.1.1, h.1.1.2⟩
  have hr1 := Lib.hid (kr d x)
  have hr2 := Lib.hid (kr e y)
  have k3 := Lib.hid (fun W h1 h2 h3 h4 hH hT => hsub_any tb mb A c L hL d.toNat d x e y W (Nat.le_refl _) h1 h2 h3 h4 hx hy hH hT)
  generalize Sp.subS (L.map (·.1)) (d, x) (e, y) = R at *
  generalize Sp.subN (L.map (·.1)) d.toNat (d, x) (e, y) = N at *
  generalize Sp.knownS (L.map (·.1)) (d, x) = r1 at *
  generalize Sp.knownS (L.map (·.1)) (e, y) = r2 at *
  unfold Sp.tyV at k1 k2 ⊢
  simp only at k1 k2 ⊢
  have H0 := Lib.hid hH
  have T0 := Lib.hid hT
  have hb1 := Lib.hid (((Below.refl w.heap.size w).alloc (Nat.le_refl _) (.cells #[.int .i64 d, .string x] 25)).alloc (by simp) (.cells #[.int .i64 e, .string y] 25))
  have hK := Lib.hid (blk_old (o := .cells #[.int .i64 e, .string y] 25) (blk_new w (.cells #[.int .i64 d, .string x] 25)))
  have hM := Lib.hid (blk_new (w.alloc (.cells #[.int .i64 d, .string x] 25)) (.cells #[.int .i64 e, .string y] 25))
  rw [show (w.alloc (.cells #[.int .i64 d, .string x] 25)).heap.size = w.heap.size + 1 by simp] at hM
  clear hH hT kr
  go_enter Tryz.func16, Tryz.ntmps16
  go_upto_region 1 with fail
  generalize (w.alloc (.cells #[.int .i64 d, .string x] 25)).alloc (.cells #[.int .i64 e, .string y] 25) = W at *
  obtain ⟨a1, a2, a3, a4⟩ := ty_box hK.out
  obtain ⟨c1, c2, c3, c4⟩ := ty_box hM.out
  have hlk := blk_lt hM.out
  go_wp2_with fail
  refine (k1.out W (H0.out.below hb1.out) (T0.out.below hb1.out)).mono ?_
  rintro r w1 ⟨rfl, hb2⟩
  have hK1 := Lib.hid (blk_below hK.out hb2)
  have hM1 := Lib.hid (blk_below hM.out hb2)
  have hB1 := Lib.hid (below_then hb1.out hb1.out.size hb2)
  clear a1 a2 a3 a4 c1 c2 c3 c4 hlk hK hM hb1 hb2 k1
  obtain ⟨a1, a2, a3, a4⟩ := ty_box hK1.out
  obtain ⟨c1, c2, c3, c4⟩ := ty_box hM1.out
  have hlk := blk_lt hM1.out
  cases r1 with
  | false =>
    have hR : R = false := by rw [HE.out]; rfl
    subst hR
    clear HE k2 k3
    go_wp2
    go_ret
    exact ⟨rfl, hB1.out⟩
  | true =>
    go_wp2_with fail
    refine (k2.out w1 (H0.out.below hB1.out) (T0.out.below hB1.out)).mono ?_
    rintro r w2 ⟨rfl, hb2⟩
    have hK2 := Lib.hid (blk_below hK1.out hb2)
    have hM2 := Lib.hid (blk_below hM1.out hb2)
    have hB2 := Lib.hid (below_then hB1.out hB1.out.size hb2)
    clear a1 a2 a3 a4 c1 c2 c3 c4 hlk hK1 hM1 hB1 hb2 k2
    obtain ⟨a1, a2, a3, a4⟩ := ty_box hK2.out
    obtain ⟨c1, c2, c3, c4⟩ := ty_box hM2.out
    have hlk := blk_lt hM2.out
    cases r2 with
    | false =>
      have hR : R = false := by rw [HE.out]; rfl
      subst hR
      clear HE k3
      go_wp2
      go_ret
      exact ⟨rfl, hB2.out⟩
    | true =>
      have hR : R = N := by rw [HE.out]; rfl
      subst hR
      obtain ⟨g1, g2⟩ := hr1.out (by simp)
      obtain ⟨g3, g4⟩ := hr2.out (by simp)
      have k4 := Lib.hid (k3.out w2 g1 g2 g3 g4 (H0.out.below hB2.out) (T0.out.below hB2.out))
      clear HE k3 hr1 hr2
      go_wp2_with fail
      refine k4.out.mono ?_
      rintro r w4 ⟨rfl, hb4⟩
      have hB4 := Lib.hid (below_then hB2.out hB2.out.size hb4)
      clear hB2 hb4 k4 a1 a2 a3 a4 c1 c2 c3 c4 hlk hK2 hM2
      go_wp2
      go_ret
      exact ⟨rfl, hB4.out⟩
end Go.Proofs.YtfjplmbknegidaaGreatDoor
end
