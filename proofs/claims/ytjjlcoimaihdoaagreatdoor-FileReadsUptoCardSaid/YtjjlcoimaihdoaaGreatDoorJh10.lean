/-
  Texts of the proof, joined.
-/
import Derived.Test.YtjjlcoimaihdoaaGreatDoorJh9
import Derived.Test.YtjjlcoimaihdoaaGreatDoorJh8
import Derived.Test.YtjjlcoimaihdoaaGreatDoorJh4
import Derived.Test.YtjjlcoimaihdoaaGreatDoorJh5
import Derived.Test.YtjjlcoimaihdoaaGreatDoorJh6
import Derived.Lib.ConvBytes
set_option linter.unusedVariables false
set_option linter.unusedSimpArgs false
namespace Go.Proofs.YtjjlcoimaihdoaaGreatDoor
open Go.RowKit Go.Lib
set_option maxHeartbeats 8000000 in
set_option maxRecDepth 100000 in
theorem qfield_any (rb : Nat) (s : ByteArray) (e : Int) (w : World) (h : Rq w rb s e) (hs : s.size ≤ 1099511627776) :
  Calls Tryz.prog 175 #[.pointer (some ⟨rb, 0, none⟩), .bool false] w fun x w' => ∃ A c, x = .returned (Sp.mbV ((Sp.fieldR s e).1, A, c)) ∧ w'.ownsRow w.heap.size 239 4 (.slice A (Sp.fieldR s e).1.hs.length c) (Sp.fieldR s e).1.hs.length ((Sp.fieldR s e).1.hs.flatMap Sp.hnC) ∧ Rq w' rb (Sp.fieldR s e).2.1 (Sp.fieldR s e).2.2 ∧ Keeps (fun i => i = rb) w w' := by
 have HE : Sp.fieldR s e = (⟨(Sp.numR s e 1).1, (Sp.numR (Sp.numR s e 1).2.1 (Sp.numR s e 1).2.2 2).1, (Sp.numR (Sp.numR (Sp.numR s e 1).2.1 (Sp.numR s e 1).2.2 2).2.1 (Sp.numR (Sp.numR s e 1).2.1 (Sp.numR s e 1).2.2 2).2.2 2).1, 0, 0, ⟨#[]⟩, []⟩, (Sp.numR (Sp.numR (Sp.numR s e 1).2.1 (Sp.numR s e 1).2.2 2).2.1 (Sp.numR (Sp.numR s e 1).2.1 (Sp.numR s e 1).2.2 2).2.2 2).2) := rfl
 generalize Sp.fieldR s e = R at *
 have hlr := blk_lt h
 have hR0 := Lib.hid (blk_old (o := .cells #[.int .i64 0, .int .i64 0, .int .i64 0, .int .i64 0, .int .i64 0, .string ⟨#[]⟩, .slice none 0 0] 131) h)
 have hZ0 := Lib.hid (blk_new w (.cells #[.int .i64 0, .int .i64 0, .int .i64 0, .int .i64 0, .int .i64 0, .string ⟨#[]⟩, .slice none 0 0] 131))
 have hK0 := Lib.hid ((Keeps.refl (fun i => i = rb) w).alloc (.cells #[.int .i64 0, .int .i64 0, .int .i64 0, .int .i64 0, .int .i64 0, .string ⟨#[]⟩, .slice none 0 0] 131))
 have hz1 := Sp.num_len s e 1
 have k1 := Lib.hid (qnumber_any rb s e 1 _ hR0.out hs (by decide))
 generalize Sp.numR s e 1 = N at *
 obtain ⟨fl, s1, e1⟩ := N
 simp only [] at k1 hz1 HE
 have hz2 := Sp.num_len s1 e1 2
 have k2 := Lib.hid (fun W h => qnumber_any rb s1 e1 2 W h (by omega) (by decide))
 generalize Sp.numR s1 e1 2 = N at *
 obtain ⟨nm, s2, e2⟩ := N
 simp only [] at k2 hz2 HE
 have hz3 := Sp.num_len s2 e2 2
 have k3 := Lib.hid (fun W h => qnumber_any rb s2 e2 2 W h (by omega) (by decide))
 generalize Sp.numR s2 e2 2 = N at *
 obtain ⟨ds, s3, e3⟩ := N
 simp only [] at k3 hz3 HE
 have hs3 : s3.size ≤ 1099511627776 := by omega
 have HE2 := Lib.hid HE
 clear HE
 go_enter Tryz.func175, Tryz.ntmps175
 go_wp2_with fail
 refine k1.out.mono ?_
 rintro x w1 ⟨rfl, hR1, hK1⟩
 have hZ1 := Lib.hid (hK1.obj hZ0.out (by omega))
 have hKK := Lib.hid (hK0.out.trans hK1)
 have hlz := blk_lt hZ1.out
 have hwl := hKK.out.size
 have hl1 := blk_lt hR1
 clear hR0 hZ0 hK0 k1 hK1
 have hR := Lib.hid (blk_old (o := .cells #[.int .i64 fl, .int .i64 0, .int .i64 0, .int .i64 0, .int .i64 0, .string ⟨#[]⟩, .slice none 0 0] 131) hR1)
 have hZ := Lib.hid (blk_old (o := .cells #[.int .i64 fl, .int .i64 0, .int .i64 0, .int .i64 0, .int .i64 0, .string ⟨#[]⟩, .slice none 0 0] 131) hZ1.out)
 have hC := Lib.hid (blk_new w1 (.cells #[.int .i64 fl, .int .i64 0, .int .i64 0, .int .i64 0, .int .i64 0, .string ⟨#[]⟩, .slice none 0 0] 131))
 have hK := Lib.hid (hKK.out.alloc (.cells #[.int .i64 fl, .int .i64 0, .int .i64 0, .int .i64 0, .int .i64 0, .string ⟨#[]⟩, .slice none 0 0] 131))
 clear hR1 hZ1 hKK
 go_upto_region 2 with fail
 generalize w1.alloc (.cells #[.int .i64 fl, .int .i64 0, .int .i64 0, .int .i64 0, .int .i64 0, .string ⟨#[]⟩, .slice none 0 0] 131) = W1 at *
 generalize w1.heap.size = mb at *
 have hzb0 : w.heap.size ≤ w.heap.size := Nat.le_refl _
 generalize hzb : w.heap.size = zb at *
 have hne1 : rb ≠ mb := by omega
 have hne2 : rb ≠ zb := by omega
 have hne3 : zb ≠ mb := by omega
 have hle : w.heap.size ≤ zb := by omega
 have hle2 : w.heap.size ≤ mb := by omega
 have kq := Lib.hid (k2.out W1 hR.out)
 have hlq := blk_lt hC.out
 go_wp2_with fail
 refine kq.out.mono ?_
 rintro x w2 ⟨rfl, hRa, hKa⟩
 have hZa := hKa.obj hZ.out (fun q => hne2 q.symm)
 have hCa := hKa.obj hC.out (fun q => hne1 q.symm)
 have hKb := hK.out.trans hKa
 obtain ⟨dd, ff⟩ := blk_cell hCa 1 _ rfl
 have hlc := blk_lt hCa
 have hR' := Lib.hid (show Rq (w2.setCell ⟨mb, 1, none⟩ (.int .i64 nm)) rb s2 e2 from blk_other hRa _ _ hne1)
 have hZ' := Lib.hid (blk_other hZa ⟨mb, 1, none⟩ (.int .i64 nm) hne3)
 have hC' := Lib.hid (show (w2.setCell ⟨mb, 1, none⟩ (.int .i64 nm)).heap[mb]? = some (.cells #[.int .i64 fl, .int .i64 nm, .int .i64 0, .int .i64 0, .int .i64 0, .string ⟨#[]⟩, .slice none 0 0] 131 (0, 0)) from blk_set (i := 1) hCa (.int .i64 nm))
 have hK' := Lib.hid (hKb.setCell (a := ⟨mb, 1, none⟩) (.inr hle2) (.int .i64 nm))
 clear hRa hKa hZa hCa hKb kq hR hZ hC hK hlq
 go_upto_region 3 with fail
 clear dd ff hlc
 generalize w2.setCell ⟨mb, 1, none⟩ (.int .i64 nm) = W2 at *
 have hR := hR'
 clear hR'
 have hZ := hZ'
 clear hZ'
 have hC := hC'
 clear hC'
 have hK := hK'
 clear hK'
 have kq := Lib.hid (k3.out W2 hR.out)
 have hlq := blk_lt hC.out
 go_wp2_with fail
 refine kq.out.mono ?_
 rintro x w3 ⟨rfl, hRa, hKa⟩
 have hZa := hKa.obj hZ.out (fun q => hne2 q.symm)
 have hCa := hKa.obj hC.out (fun q => hne1 q.symm)
 have hKb := hK.out.trans hKa
 obtain ⟨dd, ff⟩ := blk_cell hCa 2 _ rfl
 have hlc := blk_lt hCa
 have hR' := Lib.hid (show Rq (w3.setCell ⟨mb, 2, none⟩ (.int .i64 ds)) rb s3 e3 from blk_other hRa _ _ hne1)
 have hZ' := Lib.hid (blk_other hZa ⟨mb, 2, none⟩ (.int .i64 ds) hne3)
 have hC' := Lib.hid (show (w3.setCell ⟨mb, 2, none⟩ (.int .i64 ds)).heap[mb]? = some (.cells #[.int .i64 fl, .int .i64 nm, .int .i64 ds, .int .i64 0, .int .i64 0, .string ⟨#[]⟩, .slice none 0 0] 131 (0, 0)) from blk_set (i := 2) hCa (.int .i64 ds))
 have hK' := Lib.hid (hKb.setCell (a := ⟨mb, 2, none⟩) (.inr hle2) (.int .i64 ds))
 clear hRa hKa hZa hCa hKb kq hR hZ hC hK hlq
 go_upto_region 4 with fail
 clear dd ff hlc
 generalize w3.setCell ⟨mb, 2, none⟩ (.int .i64 ds) = W3 at *
 have hR := hR'
 clear hR'
 have hZ := hZ'
 clear hZ'
 have hC := hC'
 clear hC'
 have hK := hK'
 clear hK'
 clear k2 k3
 have hE3 := HE2.out
 subst hE3
 obtain ⟨c0, c1, c2, c3, c4, c5, c6⟩ := cells7m hC.out
 obtain ⟨d0, d1, d2, d3, d4, d5, d6⟩ := cells7m hZ.out
 obtain ⟨f0, f1, f2, f3, f4, f5, f6⟩ := frz7m hZ.out
 have hlcc := blk_lt hC.out
 have hlzz := blk_lt hZ.out
 have hfin := Lib.hid (blk_set (i := 6) (blk_set (i := 5) (blk_set (i := 4) (blk_set (i := 3) (blk_set (i := 2) (blk_set (i := 1) (blk_set (i := 0) hZ.out (.int .i64 fl)) (.int .i64 nm)) (.int .i64 ds)) (.int .i64 0)) (.int .i64 0)) (.string ⟨#[]⟩)) (.slice none 0 0))
 have hKf := Lib.hid (((((((hK.out.setCell (a := ⟨zb, 0, none⟩) (.inr hle) (.int .i64 fl)).setCell (a := ⟨zb, 1, none⟩) (.inr hle) (.int .i64 nm)).setCell (a := ⟨zb, 2, none⟩) (.inr hle) (.int .i64 ds)).setCell (a := ⟨zb, 3, none⟩) (.inr hle) (.int .i64 0)).setCell (a := ⟨zb, 4, none⟩) (.inr hle) (.int .i64 0)).setCell (a := ⟨zb, 5, none⟩) (.inr hle) (.string ⟨#[]⟩)).setCell (a := ⟨zb, 6, none⟩) (.inr hle) (.slice none 0 0))
 have hRf := Lib.hid (blk_other (blk_other (blk_other (blk_other (blk_other (blk_other (blk_other hR.out ⟨zb, 0, none⟩ (.int .i64 fl) hne2) ⟨zb, 1, none⟩ (.int .i64 nm) hne2) ⟨zb, 2, none⟩ (.int .i64 ds) hne2) ⟨zb, 3, none⟩ (.int .i64 0) hne2) ⟨zb, 4, none⟩ (.int .i64 0) hne2) ⟨zb, 5, none⟩ (.string ⟨#[]⟩) hne2) ⟨zb, 6, none⟩ (.slice none 0 0) hne2)
 go_wp2
 (try simp only [Exit.inBlock, Exit.then])
 refine bodyPost_ret (results_c rfl _ _ _ rfl (mb_load hfin.out)) rfl ?_
 exact ⟨none, 0, rfl, World.ownsRow_nil _ _ _ _, hRf.out, hKf.out⟩
set_option maxHeartbeats 16000000 in
set_option maxRecDepth 100000 in
theorem qmethod_any (rb : Nat) (s : ByteArray) (e : Int) (w : World) (h : Rq w rb s e) (hs : s.size ≤ 1099511627776) :
  Calls Tryz.prog 175 #[.pointer (some ⟨rb, 0, none⟩), .bool true] w fun x w' => ∃ A c, x = .returned (Sp.mbV ((Sp.methodR s e).1, A, c)) ∧ w'.ownsRow w.heap.size 239 4 (.slice A (Sp.methodR s e).1.hs.length c) (Sp.methodR s e).1.hs.length ((Sp.methodR s e).1.hs.flatMap Sp.hnC) ∧ Rq w' rb (Sp.methodR s e).2.1 (Sp.methodR s e).2.2 ∧ Keeps (fun i => i = rb) w w' := by
 obtain ⟨i0, hi, hz0, hzi1, hzi2⟩ := info_parts infoHn
 have HE := (show Sp.methodR s e = _ by rw [Sp.methodR])
 have hFR : Sp.fieldR s e = (⟨(Sp.numR s e 1).1, (Sp.numR (Sp.numR s e 1).2.1 (Sp.numR s e 1).2.2 2).1, (Sp.numR (Sp.numR (Sp.numR s e 1).2.1 (Sp.numR s e 1).2.2 2).2.1 (Sp.numR (Sp.numR s e 1).2.1 (Sp.numR s e 1).2.2 2).2.2 2).1, 0, 0, ⟨#[]⟩, []⟩, (Sp.numR (Sp.numR (Sp.numR s e 1).2.1 (Sp.numR s e 1).2.2 2).2.1 (Sp.numR (Sp.numR s e 1).2.1 (Sp.numR s e 1).2.2 2).2.2 2).2) := rfl
 rw [hFR] at HE
 simp only [] at HE
 clear hFR
 generalize Sp.methodR s e = R at *
 have hlr := blk_lt h
 have hR0 := Lib.hid (blk_old (o := .cells #[.int .i64 0, .int .i64 0, .int .i64 0, .int .i64 0, .int .i64 0, .string ⟨#[]⟩, .slice none 0 0] 131) h)
 have hZ0 := Lib.hid (blk_new w (.cells #[.int .i64 0, .int .i64 0, .int .i64 0, .int .i64 0, .int .i64 0, .string ⟨#[]⟩, .slice none 0 0] 131))
 have hK0 := Lib.hid ((Keeps.refl (fun i => i = rb) w).alloc (.cells #[.int .i64 0, .int .i64 0, .int .i64 0, .int .i64 0, .int .i64 0, .string ⟨#[]⟩, .slice none 0 0] 131))
 have hz1 := Sp.num_len s e 1
 have k1 := Lib.hid (qnumber_any rb s e 1 _ hR0.out hs (by decide))
 generalize Sp.numR s e 1 = N at *
 obtain ⟨fl, s1, e1⟩ := N
 simp only [] at k1 hz1 HE
 have hz2 := Sp.num_len s1 e1 2
 have k2 := Lib.hid (fun W h => qnumber_any rb s1 e1 2 W h (by omega) (by decide))
 generalize Sp.numR s1 e1 2 = N at *
 obtain ⟨nm, s2, e2⟩ := N
 simp only [] at k2 hz2 HE
 have hz3 := Sp.num_len s2 e2 2
 have k3 := Lib.hid (fun W h => qnumber_any rb s2 e2 2 W h (by omega) (by decide))
 generalize Sp.numR s2 e2 2 = N at *
 obtain ⟨ds, s3, e3⟩ := N
 simp only [] at k3 hz3 HE
 have hs3 : s3.size ≤ 1099511627776 := by omega
 have HE2 := Lib.hid HE
 clear HE
 go_enter Tryz.func175, Tryz.ntmps175
 go_wp2_with fail
 refine k1.out.mono ?_
 rintro x w1 ⟨rfl, hR1, hK1⟩
 have hZ1 := Lib.hid (hK1.obj hZ0.out (by omega))
 have hKK := Lib.hid (hK0.out.trans hK1)
 have hlz := blk_lt hZ1.out
 have hwl := hKK.out.size
 have hl1 := blk_lt hR1
 clear hR0 hZ0 hK0 k1 hK1
 have hR := Lib.hid (blk_old (o := .cells #[.int .i64 fl, .int .i64 0, .int .i64 0, .int .i64 0, .int .i64 0, .string ⟨#[]⟩, .slice none 0 0] 131) hR1)
 have hZ := Lib.hid (blk_old (o := .cells #[.int .i64 fl, .int .i64 0, .int .i64 0, .int .i64 0, .int .i64 0, .string ⟨#[]⟩, .slice none 0 0] 131) hZ1.out)
 have hC := Lib.hid (blk_new w1 (.cells #[.int .i64 fl, .int .i64 0, .int .i64 0, .int .i64 0, .int .i64 0, .string ⟨#[]⟩, .slice none 0 0] 131))
 have hK := Lib.hid (hKK.out.alloc (.cells #[.int .i64 fl, .int .i64 0, .int .i64 0, .int .i64 0, .int .i64 0, .string ⟨#[]⟩, .slice none 0 0] 131))
 clear hR1 hZ1 hKK
 go_upto_region 2 with fail
 generalize w1.alloc (.cells #[.int .i64 fl, .int .i64 0, .int .i64 0, .int .i64 0, .int .i64 0, .string ⟨#[]⟩, .slice none 0 0] 131) = W1 at *
 generalize w1.heap.size = mb at *
 have hzb0 : w.heap.size ≤ w.heap.size := Nat.le_refl _
 generalize hzb : w.heap.size = zb at *
 have hne1 : rb ≠ mb := by omega
 have hne2 : rb ≠ zb := by omega
 have hne3 : zb ≠ mb := by omega
 have hle : w.heap.size ≤ zb := by omega
 have hle2 : w.heap.size ≤ mb := by omega
 have kq := Lib.hid (k2.out W1 hR.out)
 have hlq := blk_lt hC.out
 go_wp2_with fail
 refine kq.out.mono ?_
 rintro x w2 ⟨rfl, hRa, hKa⟩
 have hZa := hKa.obj hZ.out (fun q => hne2 q.symm)
 have hCa := hKa.obj hC.out (fun q => hne1 q.symm)
 have hKb := hK.out.trans hKa
 obtain ⟨dd, ff⟩ := blk_cell hCa 1 _ rfl
 have hlc := blk_lt hCa
 have hR' := Lib.hid (show Rq (w2.setCell ⟨mb, 1, none⟩ (.int .i64 nm)) rb s2 e2 from blk_other hRa _ _ hne1)
 have hZ' := Lib.hid (blk_other hZa ⟨mb, 1, none⟩ (.int .i64 nm) hne3)
 have hC' := Lib.hid (show (w2.setCell ⟨mb, 1, none⟩ (.int .i64 nm)).heap[mb]? = some (.cells #[.int .i64 fl, .int .i64 nm, .int .i64 0, .int .i64 0, .int .i64 0, .string ⟨#[]⟩, .slice none 0 0] 131 (0, 0)) from blk_set (i := 1) hCa (.int .i64 nm))
 have hK' := Lib.hid (hKb.setCell (a := ⟨mb, 1, none⟩) (.inr hle2) (.int .i64 nm))
 clear hRa hKa hZa hCa hKb kq hR hZ hC hK hlq
 go_upto_region 3 with fail
 clear dd ff hlc
 generalize w2.setCell ⟨mb, 1, none⟩ (.int .i64 nm) = W2 at *
 have hR := hR'
 clear hR'
 have hZ := hZ'
 clear hZ'
 have hC := hC'
 clear hC'
 have hK := hK'
 clear hK'
 have kq := Lib.hid (k3.out W2 hR.out)
 have hlq := blk_lt hC.out
 go_wp2_with fail
 refine kq.out.mono ?_
 rintro x w3 ⟨rfl, hRa, hKa⟩
 have hZa := hKa.obj hZ.out (fun q => hne2 q.symm)
 have hCa := hKa.obj hC.out (fun q => hne1 q.symm)
 have hKb := hK.out.trans hKa
 obtain ⟨dd, ff⟩ := blk_cell hCa 2 _ rfl
 have hlc := blk_lt hCa
 have hR' := Lib.hid (show Rq (w3.setCell ⟨mb, 2, none⟩ (.int .i64 ds)) rb s3 e3 from blk_other hRa _ _ hne1)
 have hZ' := Lib.hid (blk_other hZa ⟨mb, 2, none⟩ (.int .i64 ds) hne3)
 have hC' := Lib.hid (show (w3.setCell ⟨mb, 2, none⟩ (.int .i64 ds)).heap[mb]? = some (.cells #[.int .i64 fl, .int .i64 nm, .int .i64 ds, .int .i64 0, .int .i64 0, .string ⟨#[]⟩, .slice none 0 0] 131 (0, 0)) from blk_set (i := 2) hCa (.int .i64 ds))
 have hK' := Lib.hid (hKb.setCell (a := ⟨mb, 2, none⟩) (.inr hle2) (.int .i64 ds))
 clear hRa hKa hZa hCa hKb kq hR hZ hC hK hlq
 go_upto_region 4 with fail
 clear dd ff hlc
 generalize w3.setCell ⟨mb, 2, none⟩ (.int .i64 ds) = W3 at *
 have hR := hR'
 clear hR'
 have hZ := hZ'
 clear hZ'
 have hC := hC'
 clear hC'
 have hK := hK'
 clear hK'
 clear k2 k3
 by_cases hf : fl = 2
 ·have hE3 := HE2.out
  rw [if_pos hf] at hE3
  subst hE3
  have hfb : (fl == 2) = true := by simp [hf]
  clear hf
  obtain ⟨c0, c1, c2, c3, c4, c5, c6⟩ := cells7m hC.out
  obtain ⟨d0, d1, d2, d3, d4, d5, d6⟩ := cells7m hZ.out
  obtain ⟨f0, f1, f2, f3, f4, f5, f6⟩ := frz7m hZ.out
  have hlcc := blk_lt hC.out
  have hlzz := blk_lt hZ.out
  have hfin := Lib.hid (blk_set (i := 6) (blk_set (i := 5) (blk_set (i := 4) (blk_set (i := 3) (blk_set (i := 2) (blk_set (i := 1) (blk_set (i := 0) hZ.out (.int .i64 fl)) (.int .i64 nm)) (.int .i64 ds)) (.int .i64 0)) (.int .i64 0)) (.string ⟨#[]⟩)) (.slice none 0 0))
  have hKf := Lib.hid (((((((hK.out.setCell (a := ⟨zb, 0, none⟩) (.inr hle) (.int .i64 fl)).setCell (a := ⟨zb, 1, none⟩) (.inr hle) (.int .i64 nm)).setCell (a := ⟨zb, 2, none⟩) (.inr hle) (.int .i64 ds)).setCell (a := ⟨zb, 3, none⟩) (.inr hle) (.int .i64 0)).setCell (a := ⟨zb, 4, none⟩) (.inr hle) (.int .i64 0)).setCell (a := ⟨zb, 5, none⟩) (.inr hle) (.string ⟨#[]⟩)).setCell (a := ⟨zb, 6, none⟩) (.inr hle) (.slice none 0 0))
  have hRf := Lib.hid (blk_other (blk_other (blk_other (blk_other (blk_other (blk_other (blk_other hR.out ⟨zb, 0, none⟩ (.int .i64 fl) hne2) ⟨zb, 1, none⟩ (.int .i64 nm) hne2) ⟨zb, 2, none⟩ (.int .i64 ds) hne2) ⟨zb, 3, none⟩ (.int .i64 0) hne2) ⟨zb, 4, none⟩ (.int .i64 0) hne2) ⟨zb, 5, none⟩ (.string ⟨#[]⟩) hne2) ⟨zb, 6, none⟩ (.slice none 0 0) hne2)
  go_wp2
  (try simp only [Exit.inBlock, Exit.then])
  refine bodyPost_ret (results_c rfl _ _ _ rfl (mb_load hfin.out)) rfl ?_
  exact ⟨none, 0, rfl, World.ownsRow_nil _ _ _ _, hRf.out, hKf.out⟩
 ·have hE3 := HE2.out
  rw [if_neg hf] at hE3
  clear HE2
  have hfb : (fl == 2) = false := by simp [hf]
  obtain ⟨c0, g0⟩ := blk_cell hC.out 0 _ rfl
  unfold Sp.codeR Sp.manyN at hE3
  simp only [] at hE3
  have k4 := Lib.hid (fun W h => qnumber_any rb s3 e3 1 W h hs3 (by decide))
  have hz4 := Sp.num_len s3 e3 1
  generalize Sp.numR s3 e3 1 = N at *
  obtain ⟨a, s4, e4⟩ := N
  simp only [] at k4 hz4 hE3
  have k5 := Lib.hid (fun W h => qnumber_any rb s4 e4 1 W h (by omega) (by decide))
  have hz5 := Sp.num_len s4 e4 1
  generalize Sp.numR s4 e4 1 = N at *
  obtain ⟨b, s5, e5⟩ := N
  simp only [] at k5 hz5 hE3
  have k6 := Lib.hid (fun W h => qnumber_any rb s5 e5 2 W h (by omega) (by decide))
  have hz6 := Sp.num_len s5 e5 2
  have hv6 := Sp.num_two s5 e5 2 (by decide)
  generalize Sp.numR s5 e5 2 = N at *
  obtain ⟨l, s6, e6⟩ := N
  simp only [] at k6 hz6 hv6 hE3
  obtain ⟨l', rfl⟩ := Int.eq_ofNat_of_zero_le hv6.1
  rw [Int.toNat_natCast] at hE3
  have k7 := Lib.hid (fun W h => qtake_any rb s6 e6 l' W h (by omega) (by omega))
  have hz7 := Sp.take_len s6 e6 l'
  generalize Sp.takeR s6 e6 l' = N at *
  obtain ⟨cd, s7, e7⟩ := N
  simp only [] at k7 hz7 hE3
  have k8 := Lib.hid (fun W h => qnumber_any rb s7 e7 1 W h (by omega) (by decide))
  have hz8 := Sp.num_len s7 e7 1
  have hv8 := Sp.num_two s7 e7 1 (by decide)
  generalize Sp.numR s7 e7 1 = N at *
  obtain ⟨n, s8, e8⟩ := N
  simp only [] at k8 hz8 hv8 hE3
  obtain ⟨nn, rfl⟩ := Int.eq_ofNat_of_zero_le hv8.1
  rw [Int.toNat_natCast] at hE3
  have hnn : nn ≤ 65535 := by omega
  have hs8 : s8.size ≤ 1099511627776 := by omega
  generalize hF : Sp.manyR Sp.handR nn s8 e8 = F at *
  have HF := Lib.hid (show (([] : List Sp.Hn) ++ (Sp.manyR Sp.handR (nn - ([] : List Sp.Hn).length) s8 e8).1, (Sp.manyR Sp.handR (nn - ([] : List Sp.Hn).length) s8 e8).2) = F by rw [← hF]; rfl)
  clear hF hz4 hz5 hz6 hz7 hz8 hv6 hv8
  have HR := Lib.hid hE3
  clear hE3
  go_upto_region 6 with fail
  clear c0 g0 hfb hf
  have kq := Lib.hid (k4.out W3 hR.out)
  have hlq := blk_lt hC.out
  go_wp2_with fail
  refine kq.out.mono ?_
  rintro x w4 ⟨rfl, hRa, hKa⟩
  have hZa := hKa.obj hZ.out (fun q => hne2 q.symm)
  have hCa := hKa.obj hC.out (fun q => hne1 q.symm)
  have hKb := hK.out.trans hKa
  obtain ⟨dd, ff⟩ := blk_cell hCa 3 _ rfl
  have hlc := blk_lt hCa
  have hR' := Lib.hid (show Rq (w4.setCell ⟨mb, 3, none⟩ (.int .i64 a)) rb s4 e4 from blk_other hRa _ _ hne1)
  have hZ' := Lib.hid (blk_other hZa ⟨mb, 3, none⟩ (.int .i64 a) hne3)
  have hC' := Lib.hid (show (w4.setCell ⟨mb, 3, none⟩ (.int .i64 a)).heap[mb]? = some (.cells #[.int .i64 fl, .int .i64 nm, .int .i64 ds, .int .i64 a, .int .i64 0, .string ⟨#[]⟩, .slice none 0 0] 131 (0, 0)) from blk_set (i := 3) hCa (.int .i64 a))
  have hK' := Lib.hid (hKb.setCell (a := ⟨mb, 3, none⟩) (.inr hle2) (.int .i64 a))
  clear hRa hKa hZa hCa hKb kq hR hZ hC hK hlq
  go_upto_region 7 with fail
  clear dd ff hlc
  generalize w4.setCell ⟨mb, 3, none⟩ (.int .i64 a) = W4 at *
  have hR := hR'
  clear hR'
  have hZ := hZ'
  clear hZ'
  have hC := hC'
  clear hC'
  have hK := hK'
  clear hK'
  have kq := Lib.hid (k5.out W4 hR.out)
  have hlq := blk_lt hC.out
  go_wp2_with fail
  refine kq.out.mono ?_
  rintro x w5 ⟨rfl, hRa, hKa⟩
  have hZa := hKa.obj hZ.out (fun q => hne2 q.symm)
  have hCa := hKa.obj hC.out (fun q => hne1 q.symm)
  have hKb := hK.out.trans hKa
  obtain ⟨dd, ff⟩ := blk_cell hCa 4 _ rfl
  have hlc := blk_lt hCa
  have hR' := Lib.hid (show Rq (w5.setCell ⟨mb, 4, none⟩ (.int .i64 b)) rb s5 e5 from blk_other hRa _ _ hne1)
  have hZ' := Lib.hid (blk_other hZa ⟨mb, 4, none⟩ (.int .i64 b) hne3)
  have hC' := Lib.hid (show (w5.setCell ⟨mb, 4, none⟩ (.int .i64 b)).heap[mb]? = some (.cells #[.int .i64 fl, .int .i64 nm, .int .i64 ds, .int .i64 a, .int .i64 b, .string ⟨#[]⟩, .slice none 0 0] 131 (0, 0)) from blk_set (i := 4) hCa (.int .i64 b))
  have hK' := Lib.hid (hKb.setCell (a := ⟨mb, 4, none⟩) (.inr hle2) (.int .i64 b))
  clear hRa hKa hZa hCa hKb kq hR hZ hC hK hlq
  go_upto_region 8 with fail
  clear dd ff hlc
  generalize w5.setCell ⟨mb, 4, none⟩ (.int .i64 b) = W5 at *
  have hR := hR'
  clear hR'
  have hZ := hZ'
  clear hZ'
  have hC := hC'
  clear hC'
  have hK := hK'
  clear hK'
  have kq := Lib.hid (k6.out W5 hR.out)
  have hlq := blk_lt hC.out
  go_wp2_with fail
  refine kq.out.mono ?_
  rintro x w16 ⟨rfl, hRa, hKa⟩
  have hZx := Lib.hid (hKa.obj hZ.out (fun q => hne2 q.symm))
  have hCx := Lib.hid (hKa.obj hC.out (fun q => hne1 q.symm))
  have hKx := Lib.hid (hK.out.trans hKa)
  have hRx := Lib.hid hRa
  clear hR hZ hC hK kq hRa hKa hlq k4 k5 k6
  have hR := hRx
  have hZ := hZx
  have hC := hCx
  have hK := hKx
  clear hRx hZx hCx hKx
  have kq := Lib.hid (k7.out w16 hR.out)
  have hlq := blk_lt hC.out
  go_wp2_with fail
  refine kq.out.mono ?_
  rintro x w7 ⟨rfl, hRa, hKa⟩
  have hZa := hKa.obj hZ.out (fun q => hne2 q.symm)
  have hCa := hKa.obj hC.out (fun q => hne1 q.symm)
  have hKb := hK.out.trans hKa
  obtain ⟨dd, ff⟩ := blk_cell hCa 5 _ rfl
  have hlc := blk_lt hCa
  have hR' := Lib.hid (show Rq (w7.setCell ⟨mb, 5, none⟩ (.string cd)) rb s7 e7 from blk_other hRa _ _ hne1)
  have hZ' := Lib.hid (blk_other hZa ⟨mb, 5, none⟩ (.string cd) hne3)
  have hC' := Lib.hid (show (w7.setCell ⟨mb, 5, none⟩ (.string cd)).heap[mb]? = some (.cells #[.int .i64 fl, .int .i64 nm, .int .i64 ds, .int .i64 a, .int .i64 b, .string cd, .slice none 0 0] 131 (0, 0)) from blk_set (i := 5) hCa (.string cd))
  have hK' := Lib.hid (hKb.setCell (a := ⟨mb, 5, none⟩) (.inr hle2) (.string cd))
  clear hRa hKa hZa hCa hKb kq hR hZ hC hK hlq
  go_upto_region 9 with fail
  clear dd ff hlc
  generalize w7.setCell ⟨mb, 5, none⟩ (.string cd) = W7 at *
  have hR := hR'
  clear hR'
  have hZ := hZ'
  clear hZ'
  have hC := hC'
  clear hC'
  have hK := hK'
  clear hK'
  have kq := Lib.hid (k8.out W7 hR.out)
  have hlq := blk_lt hC.out
  go_wp2_with fail
  refine kq.out.mono ?_
  rintro x w8 ⟨rfl, hRa, hKa⟩
  have hZ8 := Lib.hid (hKa.obj hZ.out (fun q => hne2 q.symm))
  have hC8 := Lib.hid (hKa.obj hC.out (fun q => hne1 q.symm))
  have hK8 := Lib.hid (hK.out.trans hKa)
  have hR8 := Lib.hid hRa
  have hO8 := Lib.hid (World.ownsRow_nil w8 (mb + 1) 239 4)
  clear hR hZ hC hK kq hRa hKa hlq k7 k8
  go_wp2
  go_loopw [7, 8] (fun v7 v8 wr => ∃ (acc : List Sp.Hn) (t1 : ByteArray) (x1 : Int) (A : Option Addr) (c : Nat), v7 = .int .i64 acc.length ∧ acc.length ≤ nn ∧ t1.size ≤ 1099511627776 ∧ Hid (Rq wr rb t1 x1) ∧ Hid (wr.heap[zb]? = some (.cells #[.int .i64 0, .int .i64 0, .int .i64 0, .int .i64 0, .int .i64 0, .string ⟨#[]⟩, .slice none 0 0] 131 (0, 0))) ∧ Hid (wr.heap[mb]? = some (.cells #[.int .i64 fl, .int .i64 nm, .int .i64 ds, .int .i64 a, .int .i64 b, .string cd, .slice A acc.length c] 131 (0, 0))) ∧ Hid (wr.ownsRow (mb + 1) 239 4 (.slice A acc.length c) acc.length (acc.flatMap Sp.hnC)) ∧ Hid (Keeps (fun i => i = rb) w wr) ∧ Hid ((acc ++ (Sp.manyR Sp.handR (nn - acc.length) t1 x1).1, (Sp.manyR Sp.handR (nn - acc.length) t1 x1).2) = F)) (fun v7 _ _ => nn - (RowKit.intOf v7).toNat)
  case atStart => exact ⟨[], s8, e8, none, 0, by go_num, Nat.zero_le _, hs8, hR8, hZ8, hC8, hO8, hK8, HF⟩
  case round =>
   clear hR8 hZ8 hC8 hO8 hK8 HF hs8
   obtain ⟨acc, t1, x1, A, c, rfl, hak, hs1, hR, hZ, hC, hO, hK, hf⟩ := hrel
   obtain ⟨r1, g1⟩ := blk_cell hR.out 1 _ rfl
   have hlb := blk_lt hR.out
   by_cases hlt : acc.length < nn ∧ x1 = 0
   ·obtain ⟨hlt, hx⟩ := hlt
    subst hx
    have hzk : (acc.length : Int) < (nn : Int) := by omega
    have hHR : Sp.handR t1 0 = (⟨(Sp.numR t1 0 2).1, (Sp.numR (Sp.numR t1 0 2).2.1 (Sp.numR t1 0 2).2.2 2).1, (Sp.numR (Sp.numR (Sp.numR t1 0 2).2.1 (Sp.numR t1 0 2).2.2 2).2.1 (Sp.numR (Sp.numR t1 0 2).2.1 (Sp.numR t1 0 2).2.2 2).2.2 2).1, (Sp.numR (Sp.numR (Sp.numR (Sp.numR t1 0 2).2.1 (Sp.numR t1 0 2).2.2 2).2.1 (Sp.numR (Sp.numR t1 0 2).2.1 (Sp.numR t1 0 2).2.2 2).2.2 2).2.1 (Sp.numR (Sp.numR (Sp.numR t1 0 2).2.1 (Sp.numR t1 0 2).2.2 2).2.1 (Sp.numR (Sp.numR t1 0 2).2.1 (Sp.numR t1 0 2).2.2 2).2.2 2).2.2 2).1⟩, (Sp.numR (Sp.numR (Sp.numR (Sp.numR t1 0 2).2.1 (Sp.numR t1 0 2).2.2 2).2.1 (Sp.numR (Sp.numR t1 0 2).2.1 (Sp.numR t1 0 2).2.2 2).2.2 2).2.1 (Sp.numR (Sp.numR (Sp.numR t1 0 2).2.1 (Sp.numR t1 0 2).2.2 2).2.1 (Sp.numR (Sp.numR t1 0 2).2.1 (Sp.numR t1 0 2).2.2 2).2.2 2).2.2 2).2) := rfl
    have hf2 := hf.out
    rw [show nn - acc.length = (nn - (acc.length + 1)) + 1 by omega, Sp.manyR_ok, hHR] at hf2
    simp only [] at hf2
    clear hf hHR
    have q1 := Lib.hid (fun W h => qnumber_any rb t1 0 2 W h hs1 (by decide))
    have hy1 := Sp.num_len t1 0 2
    generalize Sp.numR t1 0 2 = N at *
    obtain ⟨a1, u1, y1⟩ := N
    simp only [] at q1 hy1 hf2
    have q2 := Lib.hid (fun W h => qnumber_any rb u1 y1 2 W h (by omega) (by decide))
    have hy2 := Sp.num_len u1 y1 2
    generalize Sp.numR u1 y1 2 = N at *
    obtain ⟨a2, u2, y2⟩ := N
    simp only [] at q2 hy2 hf2
    have q3 := Lib.hid (fun W h => qnumber_any rb u2 y2 2 W h (by omega) (by decide))
    have hy3 := Sp.num_len u2 y2 2
    generalize Sp.numR u2 y2 2 = N at *
    obtain ⟨a3, u3, y3⟩ := N
    simp only [] at q3 hy3 hf2
    have q4 := Lib.hid (fun W h => qnumber_any rb u3 y3 2 W h (by omega) (by decide))
    have hy4 := Sp.num_len u3 y3 2
    generalize Sp.numR u3 y3 2 = N at *
    obtain ⟨a4, u4, y4⟩ := N
    simp only [] at q4 hy4 hf2
    have hu4 : u4.size ≤ 1099511627776 := by omega
    have hf3 := Lib.hid (show ((acc ++ [(⟨a1, a2, a3, a4⟩ : Sp.Hn)]) ++ (Sp.manyR Sp.handR (nn - (acc ++ [(⟨a1, a2, a3, a4⟩ : Sp.Hn)]).length) u4 y4).1, (Sp.manyR Sp.handR (nn - (acc ++ [(⟨a1, a2, a3, a4⟩ : Sp.Hn)]).length) u4 y4).2) = F by rw [List.length_append, List.length_singleton, ← hf2, List.append_assoc]; rfl)
    clear hf2 hy1 hy2 hy3 hy4
    have kq := Lib.hid (q1.out wr hR.out)
    have hlq := blk_lt hC.out
    go_wp2_with fail
    refine kq.out.mono ?_
    rintro x wA ⟨rfl, hRa, hKa⟩
    have hZa := hKa.obj hZ.out (fun q => hne2 q.symm)
    have hCa := hKa.obj hC.out (fun q => hne1 q.symm)
    have hOa := hKa.row hO.out (fun q hq e => by have := own_base hO.out q hq; omega)
    have hKb := hK.out.trans hKa
    have hOl : ∀ q, (Value.slice A acc.length c).ownBlock = some q → q < wA.heap.size := fun q hq => (hOa.lt q hq).2
    have hKs := hKb.size
    have hla := blk_lt hCa
    have hR' := Lib.hid (show Rq (wA.alloc (.cells #[.int .i64 a1, .int .i64 0, .int .i64 0, .int .i64 0] 239)) rb u1 y1 from blk_old (o := .cells #[.int .i64 a1, .int .i64 0, .int .i64 0, .int .i64 0] 239) hRa)
    have hZ' := Lib.hid (blk_old (o := .cells #[.int .i64 a1, .int .i64 0, .int .i64 0, .int .i64 0] 239) hZa)
    have hC' := Lib.hid (blk_old (o := .cells #[.int .i64 a1, .int .i64 0, .int .i64 0, .int .i64 0] 239) hCa)
    have hH' := Lib.hid (blk_new wA (.cells #[.int .i64 a1, .int .i64 0, .int .i64 0, .int .i64 0] 239))
    have hO' := Lib.hid (hOa.alloc (.cells #[.int .i64 a1, .int .i64 0, .int .i64 0, .int .i64 0] 239))
    have hK' := Lib.hid (hKb.alloc (.cells #[.int .i64 a1, .int .i64 0, .int .i64 0, .int .i64 0] 239))
    clear kq hlq hRa hZa hCa hOa hKa hKb hR hZ hC hO hK q1 r1 g1 hlb
    go_upto_region 14 with fail
    generalize wA.alloc (.cells #[.int .i64 a1, .int .i64 0, .int .i64 0, .int .i64 0] 239) = V1 at *
    generalize wA.heap.size = hb at *
    have hnh1 : rb ≠ hb := by omega
    have hnh3 : zb ≠ hb := by omega
    have hnh4 : mb ≠ hb := by omega
    have hleh : w.heap.size ≤ hb := by omega
    have hOh : ∀ q, (Value.slice A acc.length c).ownBlock = some q → q < hb := hOl
    clear hOl
    have hR := hR'
    have hZ := hZ'
    have hC := hC'
    have hH := hH'
    have hO := hO'
    have hK := hK'
    clear hR' hZ' hC' hH' hO' hK'
    have kq := Lib.hid (q2.out V1 hR.out)
    have hlq := blk_lt hC.out
    go_wp2_with fail
    refine kq.out.mono ?_
    rintro x w21 ⟨rfl, hRa, hKa⟩
    have hZa := hKa.obj hZ.out (fun q => hne2 q.symm)
    have hCa := hKa.obj hC.out (fun q => hne1 q.symm)
    have hHa := hKa.obj hH.out (fun q => hnh1 q.symm)
    have hOa := hKa.row hO.out (fun q hq e => by have := own_base hO.out q hq; omega)
    have hKb := hK.out.trans hKa
    obtain ⟨dd, ff⟩ := blk_cell hHa 1 _ rfl
    have hlc := blk_lt hHa
    have hR' := Lib.hid (show Rq (w21.setCell ⟨hb, 1, none⟩ (.int .i64 a2)) rb u2 y2 from blk_other hRa _ _ hnh1)
    have hZ' := Lib.hid (blk_other hZa ⟨hb, 1, none⟩ (.int .i64 a2) hnh3)
    have hC' := Lib.hid (blk_other hCa ⟨hb, 1, none⟩ (.int .i64 a2) hnh4)
    have hH' := Lib.hid (show (w21.setCell ⟨hb, 1, none⟩ (.int .i64 a2)).heap[hb]? = some (.cells #[.int .i64 a1, .int .i64 a2, .int .i64 0, .int .i64 0] 239 (0, 0)) from blk_set (i := 1) hHa (.int .i64 a2))
    have hO' := Lib.hid (own_set hOa (b := hb) (o := 1) (fun q hq => by have := hOh q hq; omega) (.int .i64 a2))
    have hK' := Lib.hid (hKb.setCell (a := ⟨hb, 1, none⟩) (.inr hleh) (.int .i64 a2))
    clear hRa hKa hZa hCa hKb hHa hOa kq hR hZ hC hK hH hO hlq
    go_upto_region 15 with fail
    clear dd ff hlc
    generalize w21.setCell ⟨hb, 1, none⟩ (.int .i64 a2) = W21 at *
    have hR := hR'
    clear hR'
    have hZ := hZ'
    clear hZ'
    have hC := hC'
    clear hC'
    have hK := hK'
    clear hK'
    have hH := hH'
    clear hH'
    have hO := hO'
    clear hO'
    have kq := Lib.hid (q3.out W21 hR.out)
    have hlq := blk_lt hC.out
    go_wp2_with fail
    refine kq.out.mono ?_
    rintro x w22 ⟨rfl, hRa, hKa⟩
    have hZa := hKa.obj hZ.out (fun q => hne2 q.symm)
    have hCa := hKa.obj hC.out (fun q => hne1 q.symm)
    have hHa := hKa.obj hH.out (fun q => hnh1 q.symm)
    have hOa := hKa.row hO.out (fun q hq e => by have := own_base hO.out q hq; omega)
    have hKb := hK.out.trans hKa
    obtain ⟨dd, ff⟩ := blk_cell hHa 2 _ rfl
    have hlc := blk_lt hHa
    have hR' := Lib.hid (show Rq (w22.setCell ⟨hb, 2, none⟩ (.int .i64 a3)) rb u3 y3 from blk_other hRa _ _ hnh1)
    have hZ' := Lib.hid (blk_other hZa ⟨hb, 2, none⟩ (.int .i64 a3) hnh3)
    have hC' := Lib.hid (blk_other hCa ⟨hb, 2, none⟩ (.int .i64 a3) hnh4)
    have hH' := Lib.hid (show (w22.setCell ⟨hb, 2, none⟩ (.int .i64 a3)).heap[hb]? = some (.cells #[.int .i64 a1, .int .i64 a2, .int .i64 a3, .int .i64 0] 239 (0, 0)) from blk_set (i := 2) hHa (.int .i64 a3))
    have hO' := Lib.hid (own_set hOa (b := hb) (o := 2) (fun q hq => by have := hOh q hq; omega) (.int .i64 a3))
    have hK' := Lib.hid (hKb.setCell (a := ⟨hb, 2, none⟩) (.inr hleh) (.int .i64 a3))
    clear hRa hKa hZa hCa hKb hHa hOa kq hR hZ hC hK hH hO hlq
    go_upto_region 16 with fail
    clear dd ff hlc
    generalize w22.setCell ⟨hb, 2, none⟩ (.int .i64 a3) = W22 at *
    have hR := hR'
    clear hR'
    have hZ := hZ'
    clear hZ'
    have hC := hC'
    clear hC'
    have hK := hK'
    clear hK'
    have hH := hH'
    clear hH'
    have hO := hO'
    clear hO'
    have kq := Lib.hid (q4.out W22 hR.out)
    have hlq := blk_lt hC.out
    go_wp2_with fail
    refine kq.out.mono ?_
    rintro x w23 ⟨rfl, hRa, hKa⟩
    have hZa := hKa.obj hZ.out (fun q => hne2 q.symm)
    have hCa := hKa.obj hC.out (fun q => hne1 q.symm)
    have hHa := hKa.obj hH.out (fun q => hnh1 q.symm)
    have hOa := hKa.row hO.out (fun q hq e => by have := own_base hO.out q hq; omega)
    have hKb := hK.out.trans hKa
    obtain ⟨dd, ff⟩ := blk_cell hHa 3 _ rfl
    have hlc := blk_lt hHa
    have hR' := Lib.hid (show Rq (w23.setCell ⟨hb, 3, none⟩ (.int .i64 a4)) rb u4 y4 from blk_other hRa _ _ hnh1)
    have hZ' := Lib.hid (blk_other hZa ⟨hb, 3, none⟩ (.int .i64 a4) hnh3)
    have hC' := Lib.hid (blk_other hCa ⟨hb, 3, none⟩ (.int .i64 a4) hnh4)
    have hH' := Lib.hid (show (w23.setCell ⟨hb, 3, none⟩ (.int .i64 a4)).heap[hb]? = some (.cells #[.int .i64 a1, .int .i64 a2, .int .i64 a3, .int .i64 a4] 239 (0, 0)) from blk_set (i := 3) hHa (.int .i64 a4))
    have hO' := Lib.hid (own_set hOa (b := hb) (o := 3) (fun q hq => by have := hOh q hq; omega) (.int .i64 a4))
    have hK' := Lib.hid (hKb.setCell (a := ⟨hb, 3, none⟩) (.inr hleh) (.int .i64 a4))
    clear hRa hKa hZa hCa hKb hHa hOa kq hR hZ hC hK hH hO hlq
    go_upto_region 17 with fail
    clear dd ff hlc
    generalize w23.setCell ⟨hb, 3, none⟩ (.int .i64 a4) = W23 at *
    have hR := hR'
    clear hR'
    have hZ := hZ'
    clear hZ'
    have hC := hC'
    clear hC'
    have hK := hK'
    clear hK'
    have hH := hH'
    clear hH'
    have hO := hO'
    clear hO'
    obtain ⟨m6, n6⟩ := blk_cell hC.out 6 _ rfl
    obtain ⟨h0, h0f⟩ := blk_cell hH.out 0 _ rfl
    obtain ⟨h1, h1f⟩ := blk_cell hH.out 1 _ rfl
    obtain ⟨h2, h2f⟩ := blk_cell hH.out 2 _ rfl
    obtain ⟨h3, h3f⟩ := blk_cell hH.out 3 _ rfl
    have hlm := blk_lt hC.out
    have hlh := blk_lt hH.out
    have hbase := own_base hO.out
    go_wp2_with (at_builtin; refine wpList_append_own _ rfl _ _ 129 rfl (mb + 1) 239 i0 (.agg #[.int .i64 0, .int .i64 0, .int .i64 0, .int .i64 0]) 4 32 Tryz.underlying129 hi hz0 hzi1 hzi2 rfl (by decide) _ acc.length (acc.flatMap Sp.hnC) rfl (hO.out.alloc _) ⟨W23.heap.size, 0, none⟩ 1 1 [.int .i64 a1, .int .i64 a2, .int .i64 a3, .int .i64 a4] rfl rfl ?x2 ?x3 ?x4 ?x5 ?x6 ?_)
    try case x2 =>
     intro j u hj
     match j, hj with
     | 0, hj => simp at hj; subst hj; simp [Addr.add]
     | 1, hj => simp at hj; subst hj; simp [Addr.add]
     | 2, hj => simp at hj; subst hj; simp [Addr.add]
     | 3, hj => simp at hj; subst hj; simp [Addr.add]
     | (j + 4), hj => simp at hj
    try case x3 => intro u hu; simp at hu; rcases hu with rfl | rfl | rfl | rfl <;> rfl
    try case x4 => unfold maxLen; omega
    try case x5 => omega
    try case x6 => first | omega | (simp; omega)
    intro v' w5 hown' hg5 _
    obtain ⟨A', c', rfl⟩ := own_sl hown'
    have hlen : acc.length + 1 = (acc ++ [(⟨a1, a2, a3, a4⟩ : Sp.Hn)]).length := by simp
    have hO5 := Lib.hid (show w5.ownsRow (mb + 1) 239 4 (.slice A' (acc ++ [(⟨a1, a2, a3, a4⟩ : Sp.Hn)]).length c') (acc ++ [(⟨a1, a2, a3, a4⟩ : Sp.Hn)]).length ((acc ++ [(⟨a1, a2, a3, a4⟩ : Sp.Hn)]).flatMap Sp.hnC) by rw [List.flatMap_append, ← hlen]; exact hown')
    have hR5 : Rq w5 rb u4 y4 := blk_grown (blk_old hR.out) hg5 (fun q => by have := hbase _ q.symm; omega)
    have hZ5 := blk_grown (blk_old hZ.out) hg5 (fun q => by have := hbase _ q.symm; omega)
    have hC5 := blk_grown (blk_old hC.out) hg5 (fun q => by have := hbase _ q.symm; omega)
    have hK5 := (hK.out.alloc _).then (Keeps.of_grown (S := fun i => mb + 1 ≤ i) hg5 (fun q hq => .inl (hbase q hq))) (fun i q => .inr (by omega))
    have hR6 := Lib.hid (show Rq (w5.setCell ⟨mb, 6, none⟩ (.slice A' (acc.length + 1) c')) rb u4 y4 from blk_other hR5 _ _ hne1)
    have hZ6 := Lib.hid (blk_other hZ5 ⟨mb, 6, none⟩ (.slice A' (acc.length + 1) c') hne3)
    have hC6 := Lib.hid (show (w5.setCell ⟨mb, 6, none⟩ (.slice A' (acc.length + 1) c')).heap[mb]? = some (.cells #[.int .i64 fl, .int .i64 nm, .int .i64 ds, .int .i64 a, .int .i64 b, .string cd, .slice A' (acc ++ [(⟨a1, a2, a3, a4⟩ : Sp.Hn)]).length c'] 131 (0, 0)) by rw [← hlen]; exact blk_set (i := 6) hC5 (.slice A' (acc.length + 1) c'))
    have hO6 := Lib.hid (own_set hO5.out (b := mb) (o := 6) (fun q hq => by have := own_base hO5.out q hq; omega) (.slice A' (acc.length + 1) c'))
    have hK6 := Lib.hid (hK5.setCell (a := ⟨mb, 6, none⟩) (.inr hle2) (.slice A' (acc.length + 1) c'))
    obtain ⟨mm, mf⟩ := blk_cell hC5 6 _ rfl
    have hlm5 := blk_lt hC5
    have hal : (acc ++ [(⟨a1, a2, a3, a4⟩ : Sp.Hn)]).length ≤ nn := by rw [← hlen]; omega
    clear hlen hown' hg5 hO5 hR5 hZ5 hC5 hK5 hR hZ hC hH hO hK m6 n6 h0 h0f h1 h1f h2 h2f h3 h3f hlm hlh hbase hOh q2 q3 q4
    go_wp2
    go_roundw
    case rel => exact ⟨acc ++ [⟨a1, a2, a3, a4⟩], u4, y4, A', c', by first | rfl | go_num | (simp; done) | (simp; omega), hal, hu4, hR6, hZ6, hC6, hO6, hK6, hf3⟩
    case measure => first | (simp [RowKit.intOf]; done) | (simp [RowKit.intOf]; omega)
   ·have hFF : F = (acc, t1, x1) := by
     rw [← hf.out]
     by_cases hx : x1 = 0
     ·have hz : nn - acc.length = 0 := by omega
      rw [hz]
      simp [Sp.manyR]
     ·rw [Sp.manyR_err _ _ _ _ hx]
      simp
    have hR3 := HR.out
    rw [hFF] at hR3
    subst hR3
    clear hf hFF
    by_cases hlt2 : acc.length < nn
    ·have hx : (x1 == 0) = false := by
      have : ¬ x1 = 0 := fun q => hlt ⟨hlt2, q⟩
      simp [this]
     have hzk : (acc.length : Int) < (nn : Int) := by omega
     obtain ⟨c0, c1, c2, c3, c4, c5, c6⟩ := cells7m hC.out
     obtain ⟨d0, d1, d2, d3, d4, d5, d6⟩ := cells7m hZ.out
     obtain ⟨f0, f1, f2, f3, f4, f5, f6⟩ := frz7m hZ.out
     have hlcc := blk_lt hC.out
     have hlzz := blk_lt hZ.out
     have hfin := Lib.hid (blk_set (i := 6) (blk_set (i := 5) (blk_set (i := 4) (blk_set (i := 3) (blk_set (i := 2) (blk_set (i := 1) (blk_set (i := 0) hZ.out (.int .i64 fl)) (.int .i64 nm)) (.int .i64 ds)) (.int .i64 a)) (.int .i64 b)) (.string cd)) (.slice A acc.length c))
     have hKf := Lib.hid (((((((hK.out.setCell (a := ⟨zb, 0, none⟩) (.inr hle) (.int .i64 fl)).setCell (a := ⟨zb, 1, none⟩) (.inr hle) (.int .i64 nm)).setCell (a := ⟨zb, 2, none⟩) (.inr hle) (.int .i64 ds)).setCell (a := ⟨zb, 3, none⟩) (.inr hle) (.int .i64 a)).setCell (a := ⟨zb, 4, none⟩) (.inr hle) (.int .i64 b)).setCell (a := ⟨zb, 5, none⟩) (.inr hle) (.string cd)).setCell (a := ⟨zb, 6, none⟩) (.inr hle) (.slice A acc.length c))
     have hRf := Lib.hid (blk_other (blk_other (blk_other (blk_other (blk_other (blk_other (blk_other hR.out ⟨zb, 0, none⟩ (.int .i64 fl) hne2) ⟨zb, 1, none⟩ (.int .i64 nm) hne2) ⟨zb, 2, none⟩ (.int .i64 ds) hne2) ⟨zb, 3, none⟩ (.int .i64 a) hne2) ⟨zb, 4, none⟩ (.int .i64 b) hne2) ⟨zb, 5, none⟩ (.string cd) hne2) ⟨zb, 6, none⟩ (.slice A acc.length c) hne2)
     have hOz : ∀ q, (.slice A acc.length c : Value).ownBlock = some q → mb + 1 ≤ q := own_base hO.out
     have hOf := Lib.hid (own_set (b := zb) (o := 6) (own_set (b := zb) (o := 5) (own_set (b := zb) (o := 4) (own_set (b := zb) (o := 3) (own_set (b := zb) (o := 2) (own_set (b := zb) (o := 1) (own_set (b := zb) (o := 0) hO.out (fun q hq => by have := hOz q hq; omega) (.int .i64 fl)) (fun q hq => by have := hOz q hq; omega) (.int .i64 nm)) (fun q hq => by have := hOz q hq; omega) (.int .i64 ds)) (fun q hq => by have := hOz q hq; omega) (.int .i64 a)) (fun q hq => by have := hOz q hq; omega) (.int .i64 b)) (fun q hq => by have := hOz q hq; omega) (.string cd)) (fun q hq => by have := hOz q hq; omega) (.slice A acc.length c))
     go_wp2
     (try simp only [Exit.inBlock, Exit.then])
     refine bodyPost_ret (results_c rfl _ _ _ rfl (mb_load hfin.out)) rfl ?_
     exact ⟨A, c, rfl, own_mono hOf.out (by omega), hRf.out, hKf.out⟩
    ·have hzk : ¬ (acc.length : Int) < (nn : Int) := by omega
     obtain ⟨c0, c1, c2, c3, c4, c5, c6⟩ := cells7m hC.out
     obtain ⟨d0, d1, d2, d3, d4, d5, d6⟩ := cells7m hZ.out
     obtain ⟨f0, f1, f2, f3, f4, f5, f6⟩ := frz7m hZ.out
     have hlcc := blk_lt hC.out
     have hlzz := blk_lt hZ.out
     have hfin := Lib.hid (blk_set (i := 6) (blk_set (i := 5) (blk_set (i := 4) (blk_set (i := 3) (blk_set (i := 2) (blk_set (i := 1) (blk_set (i := 0) hZ.out (.int .i64 fl)) (.int .i64 nm)) (.int .i64 ds)) (.int .i64 a)) (.int .i64 b)) (.string cd)) (.slice A acc.length c))
     have hKf := Lib.hid (((((((hK.out.setCell (a := ⟨zb, 0, none⟩) (.inr hle) (.int .i64 fl)).setCell (a := ⟨zb, 1, none⟩) (.inr hle) (.int .i64 nm)).setCell (a := ⟨zb, 2, none⟩) (.inr hle) (.int .i64 ds)).setCell (a := ⟨zb, 3, none⟩) (.inr hle) (.int .i64 a)).setCell (a := ⟨zb, 4, none⟩) (.inr hle) (.int .i64 b)).setCell (a := ⟨zb, 5, none⟩) (.inr hle) (.string cd)).setCell (a := ⟨zb, 6, none⟩) (.inr hle) (.slice A acc.length c))
     have hRf := Lib.hid (blk_other (blk_other (blk_other (blk_other (blk_other (blk_other (blk_other hR.out ⟨zb, 0, none⟩ (.int .i64 fl) hne2) ⟨zb, 1, none⟩ (.int .i64 nm) hne2) ⟨zb, 2, none⟩ (.int .i64 ds) hne2) ⟨zb, 3, none⟩ (.int .i64 a) hne2) ⟨zb, 4, none⟩ (.int .i64 b) hne2) ⟨zb, 5, none⟩ (.string cd) hne2) ⟨zb, 6, none⟩ (.slice A acc.length c) hne2)
     have hOz : ∀ q, (.slice A acc.length c : Value).ownBlock = some q → mb + 1 ≤ q := own_base hO.out
     have hOf := Lib.hid (own_set (b := zb) (o := 6) (own_set (b := zb) (o := 5) (own_set (b := zb) (o := 4) (own_set (b := zb) (o := 3) (own_set (b := zb) (o := 2) (own_set (b := zb) (o := 1) (own_set (b := zb) (o := 0) hO.out (fun q hq => by have := hOz q hq; omega) (.int .i64 fl)) (fun q hq => by have := hOz q hq; omega) (.int .i64 nm)) (fun q hq => by have := hOz q hq; omega) (.int .i64 ds)) (fun q hq => by have := hOz q hq; omega) (.int .i64 a)) (fun q hq => by have := hOz q hq; omega) (.int .i64 b)) (fun q hq => by have := hOz q hq; omega) (.string cd)) (fun q hq => by have := hOz q hq; omega) (.slice A acc.length c))
     go_wp2
     (try simp only [Exit.inBlock, Exit.then])
     refine bodyPost_ret (results_c rfl _ _ _ rfl (mb_load hfin.out)) rfl ?_
     exact ⟨A, c, rfl, own_mono hOf.out (by omega), hRf.out, hKf.out⟩
theorem mconst_any (rb : Nat) (s : ByteArray) (e : Int) (w : World) (h : Rd w rb s e) (hs : s.size ≤ 1099511627776) :
  Calls Tryz.prog 163 #[.pointer (some ⟨rb, 0, none⟩), .int .i64 2, .func (.func 164) #[.pointer (some ⟨rb, 0, none⟩)] #[]] w fun x w' => ∃ A c, x = .returned (.slice A (Sp.manyN Sp.constR 2 s e).1.length c) ∧
   w'.ownsRow w.heap.size 145 6 (.slice A (Sp.manyN Sp.constR 2 s e).1.length c) (Sp.manyN Sp.constR 2 s e).1.length ((Sp.manyN Sp.constR 2 s e).1.flatMap Sp.cnC) ∧ Rd w' rb (Sp.manyN Sp.constR 2 s e).2.1 (Sp.manyN Sp.constR 2 s e).2.2 ∧ Keeps (fun i => i = rb) w w' :=
 manyCn_any Sp.constR 164 _ rb s e 2 w h hs (by decide) Sp.const_len #[.pointer (some ⟨rb, 0, none⟩)] rfl (fun W => by kernel_rfl) (fun s1 e1 W hk hR hz => rconst_any rb s1 e1 W hR hz)
theorem mint_any (rb vb : Nat) (s : ByteArray) (e : Int) (T : TypeId) (w : World) (h : Rd w rb s e) (hv : w.heap[vb]? = some (.cells #[.pointer (some ⟨rb, 0, none⟩)] T (0, 0))) (hne : vb ≠ rb) (hs : s.size ≤ 1099511627776) :
  Calls Tryz.prog 167 #[.pointer (some ⟨rb, 0, none⟩), .int .i64 1, .func (.func 168) #[] #[.pointer (some ⟨vb, 0, none⟩)]] w fun x w' => ∃ A c, x = .returned (.slice A (Sp.manyN (fun s e => Sp.numR s e 2) 1 s e).1.length c) ∧
   w'.ownsRow w.heap.size 3 1 (.slice A (Sp.manyN (fun s e => Sp.numR s e 2) 1 s e).1.length c) (Sp.manyN (fun s e => Sp.numR s e 2) 1 s e).1.length ((Sp.manyN (fun s e => Sp.numR s e 2) 1 s e).1.flatMap intC) ∧ Rd w' rb (Sp.manyN (fun s e => Sp.numR s e 2) 1 s e).2.1 (Sp.manyN (fun s e => Sp.numR s e 2) 1 s e).2.2 ∧ Keeps (fun i => i = rb) w w' :=
 manyI_any (fun s e => Sp.numR s e 2) 168 _ rb s e 1 w h hs (by decide) (fun s e => Sp.num_len s e 2) #[.pointer (some ⟨vb, 0, none⟩)] rfl (fun W => by kernel_rfl) (fun s1 e1 W hk hR hz => rint_any rb vb s1 e1 T W hR (hk.obj hv hne) hz)
theorem mfield_any (rb : Nat) (s : ByteArray) (e : Int) (w : World) (h : Rd w rb s e) (hs : s.size ≤ 1099511627776) :
  Calls Tryz.prog 169 #[.pointer (some ⟨rb, 0, none⟩), .int .i64 1, .func (.func 170) #[.pointer (some ⟨rb, 0, none⟩)] #[]] w fun x w' => ∃ A c L, L.map (·.1) = (Sp.manyN Sp.fieldR 1 s e).1 ∧ x = .returned (.slice A L.length c) ∧
   w'.ownsRow w.heap.size 131 7 (.slice A L.length c) L.length (L.flatMap Sp.mbC) ∧ OwnM w' w.heap.size L ∧ Rd w' rb (Sp.manyN Sp.fieldR 1 s e).2.1 (Sp.manyN Sp.fieldR 1 s e).2.2 ∧ Keeps (fun i => i = rb) w w' :=
 manyMb_any Sp.fieldR 170 _ rb s e 1 w h hs (by decide) Sp.field_len #[.pointer (some ⟨rb, 0, none⟩)] rfl (fun W => by kernel_rfl) (fun s1 e1 W hk hR hz => (rfield_any rb s1 e1 W hR hz).mono fun x W' q => ⟨none, 0, q.1, World.ownsRow_nil _ _ _ _, q.2⟩)
theorem mmethod_any (rb : Nat) (s : ByteArray) (e : Int) (w : World) (h : Rd w rb s e) (hs : s.size ≤ 1099511627776) :
  Calls Tryz.prog 169 #[.pointer (some ⟨rb, 0, none⟩), .int .i64 1, .func (.func 171) #[.pointer (some ⟨rb, 0, none⟩)] #[]] w fun x w' => ∃ A c L, L.map (·.1) = (Sp.manyN Sp.methodR 1 s e).1 ∧ x = .returned (.slice A L.length c) ∧
   w'.ownsRow w.heap.size 131 7 (.slice A L.length c) L.length (L.flatMap Sp.mbC) ∧ OwnM w' w.heap.size L ∧ Rd w' rb (Sp.manyN Sp.methodR 1 s e).2.1 (Sp.manyN Sp.methodR 1 s e).2.2 ∧ Keeps (fun i => i = rb) w w' :=
 manyMb_any Sp.methodR 171 _ rb s e 1 w h hs (by decide) Sp.method_len #[.pointer (some ⟨rb, 0, none⟩)] rfl (fun W => by kernel_rfl) (fun s1 e1 W hk hR hz => rmethod_any rb s1 e1 W hR hz)
def qZ : Sp.At := ⟨none, 0, none, 0, none, 0, none, 0⟩
def FZ : FlP := ⟨[], 0, 0, 0, [], [], []⟩
theorem rdF_zero (w : World) : RdF w qZ FZ := ⟨rdL_nil _ _ _, ⟨by simp [FZ], fun h => by simp [FZ] at h⟩, ⟨rdL_nil _ _ _, fun m hm => by simp [FZ] at hm⟩, ⟨rdL_nil _ _ _, fun m hm => by simp [FZ] at hm⟩⟩
theorem intC_numk (l : List Int) : l.flatMap intC = numk .i64 l := by
 induction l with
 | nil => rfl
 | cons a l ih => rw [List.flatMap_cons, ih]; rfl
theorem OwnM.mono {w : World} {B B' : Nat} {L : List Sp.Mp} (h : OwnM w B' L) (hb : B ≤ B') : OwnM w B L := fun m hm => own_mono (h m hm) hb
structure Pr (W : World) (B : Nat) (q : Sp.At) (F : FlP) : Prop where
 pool : W.ownsRow B 145 6 (.slice q.A F.pool.length q.c) F.pool.length (F.pool.flatMap Sp.cnC)
 ifs : W.ownsRow B 3 1 (.slice q.I F.ifaces.length q.d) F.ifaces.length (F.ifaces.flatMap intC)
 fields : W.ownsRow B 131 7 (.slice q.X F.fields.length q.e) F.fields.length (F.fields.flatMap Sp.mbC)
 fh : OwnM W B F.fields
 methods : W.ownsRow B 131 7 (.slice q.Y F.methods.length q.g) F.methods.length (F.methods.flatMap Sp.mbC)
 mh : OwnM W B F.methods
theorem Pr.nil (W : World) (B : Nat) (fl th su : Int) : Pr W B ⟨none, 0, none, 0, none, 0, none, 0⟩ ⟨[], fl, th, su, [], [], []⟩ :=
 ⟨World.ownsRow_nil _ _ _ _, World.ownsRow_nil _ _ _ _, World.ownsRow_nil _ _ _ _, fun m hm => by simp at hm, World.ownsRow_nil _ _ _ _, fun m hm => by simp at hm⟩
theorem Pr.keep {S : Nat → Prop} {W W' : World} {B : Nat} {q : Sp.At} {F : FlP} (h : Pr W B q F) (hk : Keeps S W W') (hS : ∀ i, B ≤ i → ¬ S i) : Pr W' B q F :=
 ⟨hk.row h.pool (fun k hq => hS k (own_base h.pool k hq)), hk.row h.ifs (fun k hq => hS k (own_base h.ifs k hq)), hk.row h.fields (fun k hq => hS k (own_base h.fields k hq)), h.fh.keep hk hS, hk.row h.methods (fun k hq => hS k (own_base h.methods k hq)), h.mh.keep hk hS⟩
theorem Pr.rd {W : World} {B : Nat} {q : Sp.At} {F : FlP} (h : Pr W B q F) : RdF W q F := by
 have hi := h.ifs
 rw [intC_numk] at hi
 exact ⟨(own_rdL Sp.cnC_len (by decide) h.pool).2, (own_rdN hi).2, ⟨(own_rdL Sp.mbC_len (by decide) h.fields).2, fun m hm => (own_rdL Sp.hnC_len (by decide) (h.fh m hm)).2⟩, ⟨(own_rdL Sp.mbC_len (by decide) h.methods).2, fun m hm => (own_rdL Sp.hnC_len (by decide) (h.mh m hm)).2⟩⟩
set_option maxHeartbeats 8000000 in
set_option maxRecDepth 100000 in
theorem fparse_any (b : ByteArray) (w : World) (hT : Tabs w) (hb : b.size ≤ 1099511627776) :
  Calls Tryz.prog 91 #[.string b] w fun x w' => ∃ q F, F.fl = (Sp.parseS b).1 ∧ x = .returned (.tuple #[.agg (flC q F), .int .i64 (Sp.parseS b).2]) ∧ RdF w' q F ∧ Below w.heap.size w w' := by
 by_cases hlong : 65536 < b.size
 ·have hz : (65536 : Int) < (b.size : Int) := by omega
  rw [Sp.parseS, if_pos hlong]
  have hZ := Lib.hid (blk_new w (.cells #[.slice none 0 0, .int .i64 0, .int .i64 0, .int .i64 0, .slice none 0 0, .slice none 0 0, .slice none 0 0] 26))
  have hB := Lib.hid ((Keeps.refl (fun i => False) w).alloc (.cells #[.slice none 0 0, .int .i64 0, .int .i64 0, .int .i64 0, .slice none 0 0, .slice none 0 0, .slice none 0 0] 26))
  go_enter Tryz.func91, Tryz.ntmps91
  go_upto_region 1 with fail
  have hle : w.heap.size ≤ w.heap.size := Nat.le_refl _
  generalize w.alloc (.cells #[.slice none 0 0, .int .i64 0, .int .i64 0, .int .i64 0, .slice none 0 0, .slice none 0 0, .slice none 0 0] 26) = W1 at *
  generalize hzb : w.heap.size = zb at hZ hle ⊢
  obtain ⟨d0, d1, d2, d3, d4, d5, d6⟩ := cells7m hZ.out
  obtain ⟨f0, f1, f2, f3, f4, f5, f6⟩ := frz7m hZ.out
  have hlz := blk_lt hZ.out
  have hfin := Lib.hid (blk_set (i := 6) (blk_set (i := 5) (blk_set (i := 4) (blk_set (i := 3) (blk_set (i := 2) (blk_set (i := 1) (blk_set (i := 0) hZ.out (.slice none 0 0)) (.int .i64 0)) (.int .i64 0)) (.int .i64 0)) (.slice none 0 0)) (.slice none 0 0)) (.slice none 0 0))
  go_wp2
  (try simp only [Exit.inBlock, Exit.then])
  refine bodyPost_ret (results_ct rfl _ _ _ rfl (fl_load hfin.out)) rfl ?_
  refine ⟨qZ, FZ, rfl, rfl, rdF_zero _, ?_⟩
  have hle2 : w.heap.size ≤ zb := by omega
  have hK := (((((((hB.out.setCell (a := ⟨zb, 0, none⟩) (.inr hle2) (.slice none 0 0)).setCell (a := ⟨zb, 1, none⟩) (.inr hle2) (.int .i64 0)).setCell (a := ⟨zb, 2, none⟩) (.inr hle2) (.int .i64 0)).setCell (a := ⟨zb, 3, none⟩) (.inr hle2) (.int .i64 0)).setCell (a := ⟨zb, 4, none⟩) (.inr hle2) (.slice none 0 0)).setCell (a := ⟨zb, 5, none⟩) (.inr hle2) (.slice none 0 0)).setCell (a := ⟨zb, 6, none⟩) (.inr hle2) (.slice none 0 0))
  exact hK.below (by omega) (fun _ q => q.elim)
 ·have hz : ¬ (65536 : Int) < (b.size : Int) := by omega
  rw [Sp.parseS, if_neg hlong]
  simp only []
  have hZ3 := Lib.hid (blk_old (o := .cells #[.pointer (some ⟨w.heap.size + 1, 0, none⟩)] 240) (blk_old (o := .cells #[.string b, .int .i64 0] 242) (blk_new w (.cells #[.slice none 0 0, .int .i64 0, .int .i64 0, .int .i64 0, .slice none 0 0, .slice none 0 0, .slice none 0 0] 26))))
  have hR3 := Lib.hid (blk_old (o := .cells #[.pointer (some ⟨w.heap.size + 1, 0, none⟩)] 240) (blk_new (w.alloc (.cells #[.slice none 0 0, .int .i64 0, .int .i64 0, .int .i64 0, .slice none 0 0, .slice none 0 0, .slice none 0 0] 26)) (.cells #[.string b, .int .i64 0] 242)))
  have hV3 := Lib.hid (blk_new ((w.alloc (.cells #[.slice none 0 0, .int .i64 0, .int .i64 0, .int .i64 0, .slice none 0 0, .slice none 0 0, .slice none 0 0] 26)).alloc (.cells #[.string b, .int .i64 0] 242)) (.cells #[.pointer (some ⟨w.heap.size + 1, 0, none⟩)] 240))
  have hK3 := Lib.hid ((((Keeps.refl (fun i => False) w).alloc (.cells #[.slice none 0 0, .int .i64 0, .int .i64 0, .int .i64 0, .slice none 0 0, .slice none 0 0, .slice none 0 0] 26)).alloc (.cells #[.string b, .int .i64 0] 242)).alloc (.cells #[.pointer (some ⟨w.heap.size + 1, 0, none⟩)] 240))
  rw [show ((w.alloc (.cells #[.slice none 0 0, .int .i64 0, .int .i64 0, .int .i64 0, .slice none 0 0, .slice none 0 0, .slice none 0 0] 26)).alloc (.cells #[.string b, .int .i64 0] 242)).heap.size = w.heap.size + 1 + 1 by simp] at hV3
  rw [show (w.alloc (.cells #[.slice none 0 0, .int .i64 0, .int .i64 0, .int .i64 0, .slice none 0 0, .slice none 0 0, .slice none 0 0] 26)).heap.size = w.heap.size + 1 by simp] at hR3
  have HE := Lib.hid (show Sp.headR b = _ by rw [Sp.headR])
  generalize Sp.headR b = H at *
  obtain ⟨s1, e1⟩ := H
  simp only [] at HE ⊢
  have hs1 : s1.size ≤ 1099511627776 := by
   have h1 : s1 = (Sp.takeR b 0 4).2.1 := congrArg Prod.fst HE.out
   have h2 := Sp.take_len b 0 4
   rw [h1]
   omega
  generalize hPP : Sp.doneR (Sp.bodyR s1 e1).1 (Sp.endR (Sp.bodyR s1 e1).2.1 (Sp.bodyR s1 e1).2.2) = PP
  have hok := Lib.hid (fun F h => Sp.body_ok s1 e1 F h)
  unfold Sp.bodyR at hPP hok
  simp only [] at hPP hok
  have kp := Lib.hid (fun W h => mconst_any (w.heap.size + 1) s1 e1 W h hs1)
  have z2 := Sp.manyN_len Sp.const_len 2 s1 e1
  generalize Sp.manyN Sp.constR 2 s1 e1 = M at *
  obtain ⟨pool, s2, e2⟩ := M
  simp only [] at hPP hok kp z2
  have kn1 := Lib.hid (fun W h => number_any (w.heap.size + 1) s2 e2 1 W h (by omega) (by decide))
  have z3 := Sp.num_len s2 e2 1
  generalize Sp.numR s2 e2 1 = M at *
  obtain ⟨fl, s3, e3⟩ := M
  simp only [] at hPP hok kn1 z3
  have kl := Lib.hid (fun fb tb C W h hC hT a1 a2 a3 ho => list_any (w.heap.size + 1) fb tb s3 e3 [2, 3] C 26 247 2 2 W h hC hT a1 a2 a3 ho rfl (by decide) (by omega))
  rw [show Sp.listR 2 s3 e3 = ([(Sp.numR s3 e3 2).1, (Sp.numR (Sp.numR s3 e3 2).2.1 (Sp.numR s3 e3 2).2.2 2).1], (Sp.numR (Sp.numR s3 e3 2).2.1 (Sp.numR s3 e3 2).2.2 2).2) from rfl] at kl
  have z4 := Sp.num_len s3 e3 2
  generalize Sp.numR s3 e3 2 = M at *
  obtain ⟨th, s4, e4⟩ := M
  simp only [] at hPP hok kl z4
  have z5 := Sp.num_len s4 e4 2
  generalize Sp.numR s4 e4 2 = M at *
  obtain ⟨su, s5, e5⟩ := M
  simp only [] at hPP hok kl z5
  have ki := Lib.hid (fun W vb T h hv hne => mint_any (w.heap.size + 1) vb s5 e5 T W h hv hne (by omega))
  have z6 := Sp.manyN_len (fun s e => Sp.num_len s e 2) 1 s5 e5
  generalize Sp.manyN (fun s e => Sp.numR s e 2) 1 s5 e5 = M at *
  obtain ⟨ifs, s6, e6⟩ := M
  simp only [] at hPP hok ki z6
  have kf := Lib.hid (fun W h => mfield_any (w.heap.size + 1) s6 e6 W h (by omega))
  have z7 := Sp.manyN_len Sp.field_len 1 s6 e6
  generalize Sp.manyN Sp.fieldR 1 s6 e6 = M at *
  obtain ⟨fds, s7, e7⟩ := M
  simp only [] at hPP hok kf z7
  have km := Lib.hid (fun W h => mmethod_any (w.heap.size + 1) s7 e7 W h (by omega))
  generalize Sp.manyN Sp.methodR 1 s7 e7 = M at *
  obtain ⟨mths, s8, e8⟩ := M
  simp only [] at hPP hok km
  clear z2 z3 z4 z5 z6 z7 hs1
  have HP := Lib.hid hPP
  clear hPP
  have htl := Sp.take_len b 0 4
  have kt := Lib.hid (fun W h => take_any (w.heap.size + 1) b 0 4 W h hb (by decide))
  generalize Sp.takeR b 0 4 = T at *
  obtain ⟨t, s0, e0⟩ := T
  simp only [] at kt HE htl
  go_enter Tryz.func91, Tryz.ntmps91
  go_upto_region 4 with fail
  generalize ((w.alloc (.cells #[.slice none 0 0, .int .i64 0, .int .i64 0, .int .i64 0, .slice none 0 0, .slice none 0 0, .slice none 0 0] 26)).alloc (.cells #[.string b, .int .i64 0] 242)).alloc (.cells #[.pointer (some ⟨w.heap.size + 1, 0, none⟩)] 240) = W3 at *
  have hw0 : w.heap.size ≤ w.heap.size := Nat.le_refl _
  generalize hzb : w.heap.size = zb at hZ3 hR3 hV3 kt hw0 kp kn1 kl ki kf km ⊢
  have hlv3 := blk_lt hV3.out
  obtain ⟨v0, g0⟩ := blk_cell hV3.out 0 _ rfl
  go_wp2_with fail
  refine (kt.out _ hR3.out).mono ?_
  rintro x w4 ⟨rfl, hR4, hK4⟩
  have hR5 := Lib.hid hR4
  have hV5 := Lib.hid (hK4.obj hV3.out (by omega))
  have hZ5 := Lib.hid (hK4.obj hZ3.out (by omega))
  have hK5 := Lib.hid (hK3.out.then hK4 (fun i q => .inr (by omega)))
  clear hR4 hK4 hR3 hV3 hZ3 hK3 kt v0 g0 hlv3
  go_upto_region 5 with fail
  have hlv5 := blk_lt hV5.out
  obtain ⟨v0, g0⟩ := blk_cell hV5.out 0 _ rfl
  obtain ⟨r1, g1⟩ := blk_cell hR5.out 1 _ rfl
  have hlr5 := blk_lt hR5.out
  go_cut [25] (fun x25 wx => x25 = .bool (decide (e0 = 0 ∧ t ≠ ⟨#[67, 82, 85, 88]⟩)) ∧ Hid (Rd wx (zb + 1) s0 e0) ∧ Hid (wx.heap[zb + 1 + 1]? = some (.cells #[.pointer (some ⟨zb + 1, 0, none⟩)] 240 (0, 0))) ∧ Hid (wx.heap[zb]? = some (.cells #[.slice none 0 0, .int .i64 0, .int .i64 0, .int .i64 0, .slice none 0 0, .slice none 0 0, .slice none 0 0] 26 (0, 0))) ∧ Hid (Keeps (fun i => False) w wx))
  case first =>
   by_cases he : e0 = 0
   ·subst he
    by_cases ht : t = ⟨#[67, 82, 85, 88]⟩
    ·subst ht
     go_wp2
     go_meet
     exact ⟨rfl, hR5, hV5, hZ5, hK5⟩
    ·have ht2 : (t.toList == [67, 82, 85, 88]) = false := by rw [show ([67, 82, 85, 88] : List UInt8) = (⟨#[67, 82, 85, 88]⟩ : ByteArray).toList by decide +kernel, bytes_eqb]; exact decide_eq_false ht
     go_wp2
     go_meet
     refine ⟨?_, hR5, hV5, hZ5, hK5⟩
     first
      | rw [ht2, decide_eq_true (show (0 : Int) = 0 ∧ t ≠ ⟨#[67, 82, 85, 88]⟩ from ⟨rfl, ht⟩)]; rfl
      | (rw [ht2]; simp [ht]; done)
      | (simp [ht]; done)
      | exact congrArg Value.bool (decide_eq_true ⟨trivial, ht⟩).symm
   ·have he2 : (e0 == 0) = false := by simp [he]
    go_wp2
    go_meet
    exact ⟨by simp [he], hR5, hV5, hZ5, hK5⟩
  case rest =>
   clear hR5 hV5 hZ5 hK5 v0 g0 r1 g1 hlv5 hlr5
   obtain ⟨rfl, hR5, hV5, hZ5, hK5⟩ := hcut
   go_upto_if 25 with fail
   go_cut [25] (fun x25 wx => Hid (Rd wx (zb + 1) s1 e1) ∧ Hid (wx.heap[zb + 1 + 1]? = some (.cells #[.pointer (some ⟨zb + 1, 0, none⟩)] 240 (0, 0))) ∧ Hid (wx.heap[zb]? = some (.cells #[.slice none 0 0, .int .i64 0, .int .i64 0, .int .i64 0, .slice none 0 0, .slice none 0 0, .slice none 0 0] 26 (0, 0))) ∧ Hid (Keeps (fun i => False) w wx))
   case first =>
    have hE := HE.out
    by_cases hq : e0 = 0 ∧ t ≠ ⟨#[67, 82, 85, 88]⟩
    ·rw [if_pos hq] at hE
     injection hE with hE1 hE2
     have hd : decide (e0 = 0 ∧ t ≠ ⟨#[67, 82, 85, 88]⟩) = true := decide_eq_true hq
     rw [hd]
     subst hE1 hE2
     have hlv5 := blk_lt hV5.out
     obtain ⟨v0, g0⟩ := blk_cell hV5.out 0 _ rfl
     obtain ⟨r1, g1⟩ := blk_cell hR5.out 1 _ rfl
     have hlr5 := blk_lt hR5.out
     have hn1 : zb + 1 + 1 ≠ zb + 1 := by omega
     have hn2 : zb ≠ zb + 1 := by omega
     have hn3 : w.heap.size ≤ zb + 1 := by omega
     go_wp2
     go_meet
     exact ⟨Lib.hid (blk_set (i := 1) hR5.out (.int .i64 4)), Lib.hid (blk_other hV5.out ⟨zb + 1, 1, none⟩ _ hn1), Lib.hid (blk_other hZ5.out ⟨zb + 1, 1, none⟩ _ hn2), Lib.hid (hK5.out.setCell (a := ⟨zb + 1, 1, none⟩) (.inr hn3) _)⟩
    ·rw [if_neg hq] at hE
     injection hE with hE1 hE2
     have hd : decide (e0 = 0 ∧ t ≠ ⟨#[67, 82, 85, 88]⟩) = false := decide_eq_false hq
     rw [hd]
     subst hE1 hE2
     go_wp2
     go_meet
     exact ⟨hR5, hV5, hZ5, hK5⟩
   case rest =>
    clear hR5 hV5 hZ5 hK5 HE htl
    obtain ⟨hR5, hV5, hZ5, hK5⟩ := hcut
    have hlz5 := blk_lt hZ5.out
    have hlv5 := blk_lt hV5.out
    have hR6 := Lib.hid (blk_old (o := .cells #[.slice none 0 0, .int .i64 0, .int .i64 0, .int .i64 0, .slice none 0 0, .slice none 0 0, .slice none 0 0] 26) hR5.out)
    have hV6 := Lib.hid (blk_old (o := .cells #[.slice none 0 0, .int .i64 0, .int .i64 0, .int .i64 0, .slice none 0 0, .slice none 0 0, .slice none 0 0] 26) hV5.out)
    have hZ6 := Lib.hid (blk_old (o := .cells #[.slice none 0 0, .int .i64 0, .int .i64 0, .int .i64 0, .slice none 0 0, .slice none 0 0, .slice none 0 0] 26) hZ5.out)
    have hF6 := Lib.hid (blk_new wc (.cells #[.slice none 0 0, .int .i64 0, .int .i64 0, .int .i64 0, .slice none 0 0, .slice none 0 0, .slice none 0 0] 26))
    have hK6 := Lib.hid (hK5.out.alloc (.cells #[.slice none 0 0, .int .i64 0, .int .i64 0, .int .i64 0, .slice none 0 0, .slice none 0 0, .slice none 0 0] 26))
    have hs6 : (wc.alloc (.cells #[.slice none 0 0, .int .i64 0, .int .i64 0, .int .i64 0, .slice none 0 0, .slice none 0 0, .slice none 0 0] 26)).heap.size = wc.heap.size + 1 := by simp
    clear hR5 hV5 hZ5 hK5
    go_upto_region 8 with fail
    generalize wc.alloc (.cells #[.slice none 0 0, .int .i64 0, .int .i64 0, .int .i64 0, .slice none 0 0, .slice none 0 0, .slice none 0 0] 26) = W6 at *
    generalize hfb : wc.heap.size = fb at *
    have hz6 : fb + 1 ≤ W6.heap.size := by omega
    have hn1 : zb + 1 ≠ fb := by omega
    have hn2 : zb + 1 + 1 ≠ fb := by omega
    have hG6 := Lib.hid (Keeps.refl (fun i => i = zb + 1 ∨ i = fb) W6)
    have hP6 : Hid (Pr W6 (fb + 1) ⟨none, 0, none, 0, none, 0, none, 0⟩ ⟨[], fl, th, su, [], [], []⟩) := Lib.hid (Pr.nil W6 (fb + 1) fl th su)
    obtain ⟨v0, g0⟩ := blk_cell hV6.out 0 _ rfl
    have hlv := blk_lt hV6.out
    go_wp2_with fail
    refine (kp.out _ hR6.out).mono ?_
    rintro x w8 ⟨A1, c1, rfl, hrow, hRc, hKc⟩
    have hVc := Lib.hid (hKc.obj hV6.out (by omega))
    have hGc := Lib.hid (hG6.out.then hKc (fun i q => .inl (.inl q)))
    have hFc := Lib.hid (hKc.obj hF6.out (by omega))
    have hPk := Lib.hid (hP6.out.keep hKc (fun i hi q => by omega))
    have hPc : Hid (Pr w8 (fb + 1) ⟨A1, c1, none, 0, none, 0, none, 0⟩ ⟨pool, fl, th, su, [], [], []⟩) := Lib.hid ⟨own_mono hrow (by omega), hPk.out.ifs, hPk.out.fields, hPk.out.fh, hPk.out.methods, hPk.out.mh⟩
    obtain ⟨d0, f0⟩ := blk_cell hFc.out 0 _ rfl
    have hlf := blk_lt hFc.out
    have hF8 := Lib.hid (show (w8.setCell ⟨fb, 0, none⟩ (.slice A1 pool.length c1)).heap[fb]? = some (.cells #[.slice A1 pool.length c1, .int .i64 0, .int .i64 0, .int .i64 0, .slice none 0 0, .slice none 0 0, .slice none 0 0] 26 (0, 0)) from blk_set (i := 0) hFc.out (.slice A1 pool.length c1))
    have hR8 := Lib.hid (show Rd (w8.setCell ⟨fb, 0, none⟩ (.slice A1 pool.length c1)) (zb + 1) s2 e2 from blk_other hRc ⟨fb, 0, none⟩ (.slice A1 pool.length c1) hn1)
    have hV8 := Lib.hid (blk_other hVc.out ⟨fb, 0, none⟩ (.slice A1 pool.length c1) hn2)
    have hG8 := Lib.hid (hGc.out.setCell (a := ⟨fb, 0, none⟩) (.inl (.inr rfl)) (.slice A1 pool.length c1))
    have hP8 := Lib.hid (hPc.out.keep ((Keeps.refl (fun i => i = fb) w8).setCell (a := ⟨fb, 0, none⟩) (.inl rfl) (.slice A1 pool.length c1)) (fun i hi q => by omega))
    have hz8 : fb + 1 ≤ (w8.setCell ⟨fb, 0, none⟩ (.slice A1 pool.length c1)).heap.size := by rw [← hs6]; exact hG8.out.size
    clear hRc hKc hVc hGc hFc hPk hPc v0 g0 hlv
    clear hR6 hV6 hF6 hG6 hP6 hz6
    go_upto_region 9 with fail
    clear d0 f0 hlf
    generalize w8.setCell ⟨fb, 0, none⟩ (.slice A1 pool.length c1) = W8 at *
    obtain ⟨v0, g0⟩ := blk_cell hV8.out 0 _ rfl
    have hlv := blk_lt hV8.out
    go_wp2_with fail
    refine (kn1.out _ hR8.out).mono ?_
    rintro x w9 ⟨rfl, hRc, hKc⟩
    have hVc := Lib.hid (hKc.obj hV8.out (by omega))
    have hGc := Lib.hid (hG8.out.then hKc (fun i q => .inl (.inl q)))
    have hFc := Lib.hid (hKc.obj hF8.out (by omega))
    have hPk := Lib.hid (hP8.out.keep hKc (fun i hi q => by omega))
    have hPc : Hid (Pr w9 (fb + 1) ⟨A1, c1, none, 0, none, 0, none, 0⟩ ⟨pool, fl, th, su, [], [], []⟩) := Lib.hid hPk.out
    obtain ⟨d0, f0⟩ := blk_cell hFc.out 1 _ rfl
    have hlf := blk_lt hFc.out
    have hF9 := Lib.hid (show (w9.setCell ⟨fb, 1, none⟩ (.int .i64 fl)).heap[fb]? = some (.cells #[.slice A1 pool.length c1, .int .i64 fl, .int .i64 0, .int .i64 0, .slice none 0 0, .slice none 0 0, .slice none 0 0] 26 (0, 0)) from blk_set (i := 1) hFc.out (.int .i64 fl))
    have hR9 := Lib.hid (show Rd (w9.setCell ⟨fb, 1, none⟩ (.int .i64 fl)) (zb + 1) s3 e3 from blk_other hRc ⟨fb, 1, none⟩ (.int .i64 fl) hn1)
    have hV9 := Lib.hid (blk_other hVc.out ⟨fb, 1, none⟩ (.int .i64 fl) hn2)
    have hG9 := Lib.hid (hGc.out.setCell (a := ⟨fb, 1, none⟩) (.inl (.inr rfl)) (.int .i64 fl))
    have hP9 := Lib.hid (hPc.out.keep ((Keeps.refl (fun i => i = fb) w9).setCell (a := ⟨fb, 1, none⟩) (.inl rfl) (.int .i64 fl)) (fun i hi q => by omega))
    have hz9 : fb + 1 ≤ (w9.setCell ⟨fb, 1, none⟩ (.int .i64 fl)).heap.size := by rw [← hs6]; exact hG9.out.size
    clear hRc hKc hVc hGc hFc hPk hPc v0 g0 hlv
    clear hR8 hV8 hF8 hG8 hP8 hz8
    go_upto_region 10 with fail
    clear d0 f0 hlf
    generalize w9.setCell ⟨fb, 1, none⟩ (.int .i64 fl) = W9 at *
    obtain ⟨v0, g0⟩ := blk_cell hV9.out 0 _ rfl
    have hlv := blk_lt hV9.out
    have hlf := blk_lt hF9.out
    have kl2 := Lib.hid (kl.out fb W9.heap.size #[.slice A1 pool.length c1, .int .i64 fl, .int .i64 0, .int .i64 0, .slice none 0 0, .slice none 0 0, .slice none 0 0] (W9.alloc (.cells (ptrC fb [2, 3]) 247)) (blk_old hR9.out) (blk_old hF9.out) (blk_new _ _) (by omega) (by omega) (by omega) (by simp))
    have hV9a := Lib.hid (blk_old (o := .cells (ptrC fb [2, 3]) 247) hV9.out)
    have hG9a := Lib.hid (hG9.out.alloc (.cells (ptrC fb [2, 3]) 247))
    have hP9a := Lib.hid (hP9.out.keep ((Keeps.refl (fun i => i = fb) W9).alloc (.cells (ptrC fb [2, 3]) 247)) (fun i hi q => by omega))
    unfold ptrC at kl2 hV9a hG9a hP9a
    simp only [List.map_cons, List.map_nil] at kl2 hV9a hG9a hP9a
    simp only [Sp.putC] at kl2
    go_wp2_with fail
    refine kl2.out.mono ?_
    rintro x W10 ⟨rfl, hRc, hFc, hKc⟩
    have hV10 := Lib.hid (hKc.obj hV9a.out (by omega))
    have hG10 := Lib.hid (hG9a.out.then hKc (fun i q => .inl q))
    have hP10 := Lib.hid (hP9a.out.keep hKc (fun i hi q => by omega))
    have hR10 := Lib.hid hRc
    have hF10 := Lib.hid (show W10.heap[fb]? = some (.cells #[.slice A1 pool.length c1, .int .i64 fl, .int .i64 th, .int .i64 su, .slice none 0 0, .slice none 0 0, .slice none 0 0] 26 (0, 0)) from hFc)
    have hz10 : fb + 1 ≤ W10.heap.size := by rw [← hs6]; exact hG10.out.size
    clear hRc hFc hKc kl2 hV9a hG9a hP9a hR9 hV9 hF9 hG9 hP9 hz9 v0 g0 hlv hlf
    go_upto_region 11 with fail
    obtain ⟨v0, g0⟩ := blk_cell hV10.out 0 _ rfl
    have hlv := blk_lt hV10.out
    have kc := Lib.hid (ki.out W10 (zb + 1 + 1) _ hR10.out hV10.out (by omega))
    go_wp2_with fail
    refine (kc.out).mono ?_
    rintro x w11 ⟨A2, c2, rfl, hrow, hRc, hKc⟩
    have hVc := Lib.hid (hKc.obj hV10.out (by omega))
    have hGc := Lib.hid (hG10.out.then hKc (fun i q => .inl (.inl q)))
    have hFc := Lib.hid (hKc.obj hF10.out (by omega))
    have hPk := Lib.hid (hP10.out.keep hKc (fun i hi q => by omega))
    have hPc : Hid (Pr w11 (fb + 1) ⟨A1, c1, A2, c2, none, 0, none, 0⟩ ⟨pool, fl, th, su, ifs, [], []⟩) := Lib.hid ⟨hPk.out.pool, own_mono hrow (by omega), hPk.out.fields, hPk.out.fh, hPk.out.methods, hPk.out.mh⟩
    obtain ⟨d0, f0⟩ := blk_cell hFc.out 4 _ rfl
    have hlf := blk_lt hFc.out
    have hF11 := Lib.hid (show (w11.setCell ⟨fb, 4, none⟩ (.slice A2 ifs.length c2)).heap[fb]? = some (.cells #[.slice A1 pool.length c1, .int .i64 fl, .int .i64 th, .int .i64 su, .slice A2 ifs.length c2, .slice none 0 0, .slice none 0 0] 26 (0, 0)) from blk_set (i := 4) hFc.out (.slice A2 ifs.length c2))
    have hR11 := Lib.hid (show Rd (w11.setCell ⟨fb, 4, none⟩ (.slice A2 ifs.length c2)) (zb + 1) s6 e6 from blk_other hRc ⟨fb, 4, none⟩ (.slice A2 ifs.length c2) hn1)
    have hV11 := Lib.hid (blk_other hVc.out ⟨fb, 4, none⟩ (.slice A2 ifs.length c2) hn2)
    have hG11 := Lib.hid (hGc.out.setCell (a := ⟨fb, 4, none⟩) (.inl (.inr rfl)) (.slice A2 ifs.length c2))
    have hP11 := Lib.hid (hPc.out.keep ((Keeps.refl (fun i => i = fb) w11).setCell (a := ⟨fb, 4, none⟩) (.inl rfl) (.slice A2 ifs.length c2)) (fun i hi q => by omega))
    have hz11 : fb + 1 ≤ (w11.setCell ⟨fb, 4, none⟩ (.slice A2 ifs.length c2)).heap.size := by rw [← hs6]; exact hG11.out.size
    clear hRc hKc hVc hGc hFc hPk hPc v0 g0 hlv
    clear hR10 hV10 hF10 hG10 hP10 hz10
    go_upto_region 12 with fail
    clear d0 f0 hlf
    generalize w11.setCell ⟨fb, 4, none⟩ (.slice A2 ifs.length c2) = W11 at *
    obtain ⟨v0, g0⟩ := blk_cell hV11.out 0 _ rfl
    have hlv := blk_lt hV11.out
    go_wp2_with fail
    refine (kf.out _ hR11.out).mono ?_
    rintro x w12 ⟨A3, c3, LX, rfl, rfl, hrow, hown, hRc, hKc⟩
    have hVc := Lib.hid (hKc.obj hV11.out (by omega))
    have hGc := Lib.hid (hG11.out.then hKc (fun i q => .inl (.inl q)))
    have hFc := Lib.hid (hKc.obj hF11.out (by omega))
    have hPk := Lib.hid (hP11.out.keep hKc (fun i hi q => by omega))
    have hPc : Hid (Pr w12 (fb + 1) ⟨A1, c1, A2, c2, A3, c3, none, 0⟩ ⟨pool, fl, th, su, ifs, LX, []⟩) := Lib.hid ⟨hPk.out.pool, hPk.out.ifs, own_mono hrow (by omega), hown.mono (by omega), hPk.out.methods, hPk.out.mh⟩
    obtain ⟨d0, f0⟩ := blk_cell hFc.out 5 _ rfl
    have hlf := blk_lt hFc.out
    have hF12 := Lib.hid (show (w12.setCell ⟨fb, 5, none⟩ (.slice A3 LX.length c3)).heap[fb]? = some (.cells #[.slice A1 pool.length c1, .int .i64 fl, .int .i64 th, .int .i64 su, .slice A2 ifs.length c2, .slice A3 LX.length c3, .slice none 0 0] 26 (0, 0)) from blk_set (i := 5) hFc.out (.slice A3 LX.length c3))
    have hR12 := Lib.hid (show Rd (w12.setCell ⟨fb, 5, none⟩ (.slice A3 LX.length c3)) (zb + 1) s7 e7 from blk_other hRc ⟨fb, 5, none⟩ (.slice A3 LX.length c3) hn1)
    have hV12 := Lib.hid (blk_other hVc.out ⟨fb, 5, none⟩ (.slice A3 LX.length c3) hn2)
    have hG12 := Lib.hid (hGc.out.setCell (a := ⟨fb, 5, none⟩) (.inl (.inr rfl)) (.slice A3 LX.length c3))
    have hP12 := Lib.hid (hPc.out.keep ((Keeps.refl (fun i => i = fb) w12).setCell (a := ⟨fb, 5, none⟩) (.inl rfl) (.slice A3 LX.length c3)) (fun i hi q => by omega))
    have hz12 : fb + 1 ≤ (w12.setCell ⟨fb, 5, none⟩ (.slice A3 LX.length c3)).heap.size := by rw [← hs6]; exact hG12.out.size
    clear hRc hKc hVc hGc hFc hPk hPc v0 g0 hlv
    clear hR11 hV11 hF11 hG11 hP11 hz11
    go_upto_region 13 with fail
    clear d0 f0 hlf
    generalize w12.setCell ⟨fb, 5, none⟩ (.slice A3 LX.length c3) = W12 at *
    obtain ⟨v0, g0⟩ := blk_cell hV12.out 0 _ rfl
    have hlv := blk_lt hV12.out
    go_wp2_with fail
    refine (km.out _ hR12.out).mono ?_
    rintro x w13 ⟨A4, c4, LY, rfl, rfl, hrow, hown, hRc, hKc⟩
    have hVc := Lib.hid (hKc.obj hV12.out (by omega))
    have hGc := Lib.hid (hG12.out.then hKc (fun i q => .inl (.inl q)))
    have hFc := Lib.hid (hKc.obj hF12.out (by omega))
    have hPk := Lib.hid (hP12.out.keep hKc (fun i hi q => by omega))
    have hPc : Hid (Pr w13 (fb + 1) ⟨A1, c1, A2, c2, A3, c3, A4, c4⟩ ⟨pool, fl, th, su, ifs, LX, LY⟩) := Lib.hid ⟨hPk.out.pool, hPk.out.ifs, hPk.out.fields, hPk.out.fh, own_mono hrow (by omega), hown.mono (by omega)⟩
    obtain ⟨d0, f0⟩ := blk_cell hFc.out 6 _ rfl
    have hlf := blk_lt hFc.out
    have hF13 := Lib.hid (show (w13.setCell ⟨fb, 6, none⟩ (.slice A4 LY.length c4)).heap[fb]? = some (.cells #[.slice A1 pool.length c1, .int .i64 fl, .int .i64 th, .int .i64 su, .slice A2 ifs.length c2, .slice A3 LX.length c3, .slice A4 LY.length c4] 26 (0, 0)) from blk_set (i := 6) hFc.out (.slice A4 LY.length c4))
    have hR13 := Lib.hid (show Rd (w13.setCell ⟨fb, 6, none⟩ (.slice A4 LY.length c4)) (zb + 1) s8 e8 from blk_other hRc ⟨fb, 6, none⟩ (.slice A4 LY.length c4) hn1)
    have hV13 := Lib.hid (blk_other hVc.out ⟨fb, 6, none⟩ (.slice A4 LY.length c4) hn2)
    have hG13 := Lib.hid (hGc.out.setCell (a := ⟨fb, 6, none⟩) (.inl (.inr rfl)) (.slice A4 LY.length c4))
    have hP13 := Lib.hid (hPc.out.keep ((Keeps.refl (fun i => i = fb) w13).setCell (a := ⟨fb, 6, none⟩) (.inl rfl) (.slice A4 LY.length c4)) (fun i hi q => by omega))
    have hz13 : fb + 1 ≤ (w13.setCell ⟨fb, 6, none⟩ (.slice A4 LY.length c4)).heap.size := by rw [← hs6]; exact hG13.out.size
    clear hRc hKc hVc hGc hFc hPk hPc v0 g0 hlv
    clear hR12 hV12 hF12 hG12 hP12 hz12
    go_upto_region 14 with fail
    clear d0 f0 hlf
    generalize w13.setCell ⟨fb, 6, none⟩ (.slice A4 LY.length c4) = W13 at *
    have hZ13 := Lib.hid (hG13.out.obj hZ6.out (by omega))
    have hK13 := Lib.hid (hK6.out.then hG13.out (fun i q => .inr (by omega)))
    have hRF := hP13.out.rd
    have hFo := hok.out ⟨pool, fl, th, su, ifs, LX, LY⟩ rfl
    have kpt := Lib.hid (parts_any ⟨A1, c1, A2, c2, A3, c3, A4, c4⟩ ⟨pool, fl, th, su, ifs, LX, LY⟩ W13 hRF hFo (hT.below (hK13.out.below (Nat.le_refl _) (fun _ q => q.elim))))
    rw [show flC ⟨A1, c1, A2, c2, A3, c3, A4, c4⟩ ⟨pool, fl, th, su, ifs, LX, LY⟩ = #[.slice A1 pool.length c1, .int .i64 fl, .int .i64 th, .int .i64 su, .slice A2 ifs.length c2, .slice A3 LX.length c3, .slice A4 LY.length c4] from rfl] at kpt
    have hpf : Sp.partsS (FlP.fl ⟨pool, fl, th, su, ifs, LX, LY⟩) = Sp.partsS ⟨pool, fl, th, su, ifs, LX.map (·.1), LY.map (·.1)⟩ := rfl
    rw [hpf] at kpt
    have hle2 : w.heap.size ≤ zb := by omega
    clear hpf hFo hok hG13 hZ6 hK6 kp kn1 kl ki kf km hRF
    have hD := HP.out
    clear HP
    unfold Sp.doneR Sp.endR at hD
    obtain ⟨v0, g0⟩ := blk_cell hV13.out 0 _ rfl
    obtain ⟨r0, s0⟩ := blk_cell hR13.out 0 _ rfl
    obtain ⟨r1, t1⟩ := blk_cell hR13.out 1 _ rfl
    have hlv := blk_lt hV13.out
    have hlr := blk_lt hR13.out
    by_cases he : e8 = 0
    ·subst he
     by_cases hs8 : s8 = ⟨#[]⟩
     ·subst hs8
      rw [if_neg (show ¬ ((0 : Int) = 0 ∧ (⟨#[]⟩ : ByteArray) ≠ ⟨#[]⟩) from fun q => q.2 rfl), if_pos rfl] at hD
      generalize Sp.partsS ⟨pool, fl, th, su, ifs, LX.map (·.1), LY.map (·.1)⟩ = pt at *
      obtain ⟨k0, k1, k2, k3, k4, k5, k6⟩ := cells7m hF13.out
      have hlf := blk_lt hF13.out
      have hD2 := Lib.hid hD
      clear hD
      go_wp2_with fail
      refine kpt.out.mono ?_
      rintro x w14 ⟨rfl, hb14⟩
      have hD := hD2.out
      have hZ14 := Lib.hid (blk_below hZ13.out hb14)
      have hF14 := Lib.hid (blk_below hF13.out hb14)
      have hK14 := Lib.hid (hK13.out.then (Keeps.of_below (S := fun i => False) hb14) (fun i q => q.elim))
      have hP14 := Lib.hid (hP13.out.keep (Keeps.of_below (S := fun i => False) hb14) (fun i hi q => q))
      clear hZ13 hF13 hK13 hP13 hR13 hV13 k0 k1 k2 k3 k4 k5 k6 v0 g0 r0 s0 r1 t1 hlv hlr hlf kpt hb14 hz13 hD2
      by_cases hp : pt = 0
      ·subst hp
       rw [if_pos rfl] at hD
       have hlf := blk_lt hF14.out
       obtain ⟨k0, k1, k2, k3, k4, k5, k6⟩ := cells7m hF14.out
       have hPf := Lib.hid (hP14.out.keep ((((((((Keeps.refl (fun i => i = zb) w14).setCell (a := ⟨zb, 0, none⟩) (.inl rfl) (.slice A1 pool.length c1)).setCell (a := ⟨zb, 1, none⟩) (.inl rfl) (.int .i64 fl)).setCell (a := ⟨zb, 2, none⟩) (.inl rfl) (.int .i64 th)).setCell (a := ⟨zb, 3, none⟩) (.inl rfl) (.int .i64 su)).setCell (a := ⟨zb, 4, none⟩) (.inl rfl) (.slice A2 ifs.length c2)).setCell (a := ⟨zb, 5, none⟩) (.inl rfl) (.slice A3 LX.length c3)).setCell (a := ⟨zb, 6, none⟩) (.inl rfl) (.slice A4 LY.length c4)) (fun i hi q => by omega))
       obtain ⟨d0, d1, d2, d3, d4, d5, d6⟩ := cells7m hZ14.out
       obtain ⟨f0, f1, f2, f3, f4, f5, f6⟩ := frz7m hZ14.out
       have hlz := blk_lt hZ14.out
       have hfin := Lib.hid (blk_set (i := 6) (blk_set (i := 5) (blk_set (i := 4) (blk_set (i := 3) (blk_set (i := 2) (blk_set (i := 1) (blk_set (i := 0) hZ14.out (.slice A1 pool.length c1)) (.int .i64 fl)) (.int .i64 th)) (.int .i64 su)) (.slice A2 ifs.length c2)) (.slice A3 LX.length c3)) (.slice A4 LY.length c4))
       have hBf := Lib.hid (((((((hK14.out.setCell (a := ⟨zb, 0, none⟩) (.inr hle2) (.slice A1 pool.length c1)).setCell (a := ⟨zb, 1, none⟩) (.inr hle2) (.int .i64 fl)).setCell (a := ⟨zb, 2, none⟩) (.inr hle2) (.int .i64 th)).setCell (a := ⟨zb, 3, none⟩) (.inr hle2) (.int .i64 su)).setCell (a := ⟨zb, 4, none⟩) (.inr hle2) (.slice A2 ifs.length c2)).setCell (a := ⟨zb, 5, none⟩) (.inr hle2) (.slice A3 LX.length c3)).setCell (a := ⟨zb, 6, none⟩) (.inr hle2) (.slice A4 LY.length c4))
       go_wp2
       (try simp only [Exit.inBlock, Exit.then])
       refine bodyPost_ret (results_ct rfl _ _ _ rfl (fl_load hfin.out)) rfl ?_
       have hbel := hBf.out.below (Nat.le_refl _) (fun _ q => q.elim)
       exact ⟨⟨A1, c1, A2, c2, A3, c3, A4, c4⟩, ⟨pool, fl, th, su, ifs, LX, LY⟩, by rw [← hD]; rfl, by rw [← hD]; rfl, hPf.out.rd, hbel⟩
      ·rw [if_neg hp] at hD
       have hb2 : (pt != 0) = true := by simp [hp]
       obtain ⟨d0, d1, d2, d3, d4, d5, d6⟩ := cells7m hZ14.out
       obtain ⟨f0, f1, f2, f3, f4, f5, f6⟩ := frz7m hZ14.out
       have hlz := blk_lt hZ14.out
       have hfin := Lib.hid (blk_set (i := 6) (blk_set (i := 5) (blk_set (i := 4) (blk_set (i := 3) (blk_set (i := 2) (blk_set (i := 1) (blk_set (i := 0) hZ14.out (.slice none 0 0)) (.int .i64 0)) (.int .i64 0)) (.int .i64 0)) (.slice none 0 0)) (.slice none 0 0)) (.slice none 0 0))
       have hBf := Lib.hid (((((((hK14.out.setCell (a := ⟨zb, 0, none⟩) (.inr hle2) (.slice none 0 0)).setCell (a := ⟨zb, 1, none⟩) (.inr hle2) (.int .i64 0)).setCell (a := ⟨zb, 2, none⟩) (.inr hle2) (.int .i64 0)).setCell (a := ⟨zb, 3, none⟩) (.inr hle2) (.int .i64 0)).setCell (a := ⟨zb, 4, none⟩) (.inr hle2) (.slice none 0 0)).setCell (a := ⟨zb, 5, none⟩) (.inr hle2) (.slice none 0 0)).setCell (a := ⟨zb, 6, none⟩) (.inr hle2) (.slice none 0 0))
       go_wp2
       (try simp only [Exit.inBlock, Exit.then])
       refine bodyPost_ret (results_ct rfl _ _ _ rfl (fl_load hfin.out)) rfl ?_
       have hbel := hBf.out.below (Nat.le_refl _) (fun _ q => q.elim)
       exact ⟨qZ, FZ, by rw [← hD]; rfl, by rw [← hD]; rfl, rdF_zero _, hbel⟩
     ·rw [if_pos (show ((0 : Int) = 0 ∧ s8 ≠ ⟨#[]⟩) from ⟨rfl, hs8⟩), if_neg (show ¬ (6 : Int) = 0 by decide)] at hD
      have ht2 : (s8.toList == []) = false := by rw [show ([] : List UInt8) = (⟨#[]⟩ : ByteArray).toList by decide +kernel, bytes_eqb]; exact decide_eq_false hs8
      clear kpt hF13 hP13
      obtain ⟨d0, d1, d2, d3, d4, d5, d6⟩ := cells7m hZ13.out
      obtain ⟨f0, f1, f2, f3, f4, f5, f6⟩ := frz7m hZ13.out
      have hlz := blk_lt hZ13.out
      have hfin := Lib.hid (blk_set (i := 6) (blk_set (i := 5) (blk_set (i := 4) (blk_set (i := 3) (blk_set (i := 2) (blk_set (i := 1) (blk_set (i := 0) hZ13.out (.slice none 0 0)) (.int .i64 0)) (.int .i64 0)) (.int .i64 0)) (.slice none 0 0)) (.slice none 0 0)) (.slice none 0 0))
      have hBf := Lib.hid (((((((hK13.out.setCell (a := ⟨zb, 0, none⟩) (.inr hle2) (.slice none 0 0)).setCell (a := ⟨zb, 1, none⟩) (.inr hle2) (.int .i64 0)).setCell (a := ⟨zb, 2, none⟩) (.inr hle2) (.int .i64 0)).setCell (a := ⟨zb, 3, none⟩) (.inr hle2) (.int .i64 0)).setCell (a := ⟨zb, 4, none⟩) (.inr hle2) (.slice none 0 0)).setCell (a := ⟨zb, 5, none⟩) (.inr hle2) (.slice none 0 0)).setCell (a := ⟨zb, 6, none⟩) (.inr hle2) (.slice none 0 0))
      go_wp2
      (try simp only [Exit.inBlock, Exit.then])
      refine bodyPost_ret (results_ct rfl _ _ _ rfl (fl_load hfin.out)) rfl ?_
      have hbel := hBf.out.below (Nat.le_refl _) (fun _ q => q.elim)
      exact ⟨qZ, FZ, by rw [← hD]; rfl, by rw [← hD]; rfl, rdF_zero _, hbel⟩
    ·rw [if_neg (show ¬ (e8 = 0 ∧ s8 ≠ ⟨#[]⟩) from fun q => he q.1), if_neg he] at hD
     have hb1 : (e8 == 0) = false := by simp [he]
     have hb2 : (e8 != 0) = true := by simp [he]
     clear kpt hF13 hP13
     obtain ⟨d0, d1, d2, d3, d4, d5, d6⟩ := cells7m hZ13.out
     obtain ⟨f0, f1, f2, f3, f4, f5, f6⟩ := frz7m hZ13.out
     have hlz := blk_lt hZ13.out
     have hfin := Lib.hid (blk_set (i := 6) (blk_set (i := 5) (blk_set (i := 4) (blk_set (i := 3) (blk_set (i := 2) (blk_set (i := 1) (blk_set (i := 0) hZ13.out (.slice none 0 0)) (.int .i64 0)) (.int .i64 0)) (.int .i64 0)) (.slice none 0 0)) (.slice none 0 0)) (.slice none 0 0))
     have hBf := Lib.hid (((((((hK13.out.setCell (a := ⟨zb, 0, none⟩) (.inr hle2) (.slice none 0 0)).setCell (a := ⟨zb, 1, none⟩) (.inr hle2) (.int .i64 0)).setCell (a := ⟨zb, 2, none⟩) (.inr hle2) (.int .i64 0)).setCell (a := ⟨zb, 3, none⟩) (.inr hle2) (.int .i64 0)).setCell (a := ⟨zb, 4, none⟩) (.inr hle2) (.slice none 0 0)).setCell (a := ⟨zb, 5, none⟩) (.inr hle2) (.slice none 0 0)).setCell (a := ⟨zb, 6, none⟩) (.inr hle2) (.slice none 0 0))
     go_wp2
     (try simp only [Exit.inBlock, Exit.then])
     refine bodyPost_ret (results_ct rfl _ _ _ rfl (fl_load hfin.out)) rfl ?_
     have hbel := hBf.out.below (Nat.le_refl _) (fun _ q => q.elim)
     exact ⟨qZ, FZ, by rw [← hD]; rfl, by rw [← hD]; rfl, rdF_zero _, hbel⟩
theorem putsL_one (n : Int) (h0 : 0 ≤ n) (h1 : n ≤ 65535) : Sp.putsL [n] = [n / 256, n % 256] := by
 simp only [Sp.putsL, Sp.putL, List.append_nil]
 rw [show n / 2 ^ (8 * 1) % 256 = n / 256 by omega, show n / 2 ^ (8 * 0) % 256 = n % 256 by omega]
theorem putL_one (n : Int) (h0 : 0 ≤ n) (h1 : n ≤ 255) : Sp.putL n 1 = [n] := by
 simp only [Sp.putL]
 rw [show n / 2 ^ (8 * 0) % 256 = n by omega]
set_option maxHeartbeats 4000000 in
set_option maxRecDepth 100000 in
theorem two_any (n : Int) (h0 : 0 ≤ n) (h1 : n ≤ 65535) (w : World) :
  Calls Tryz.prog 178 #[.int .i64 n] w fun e w' => e = .returned (.string (Go.strOfNums (Sp.putsL [n]))) ∧ Below w.heap.size w w' := by
 rw [putsL_one n h0 h1]
 have q0 : 0 ≤ n / 256 := by omega
 have q1 : n / 256 ≤ 255 := by omega
 have r0 : 0 ≤ n % 256 := by omega
 have r1 : n % 256 ≤ 255 := by omega
 have hcv := conv_lit w [n / 256, n % 256] 2 #[.int .u8 (n / 256), .int .u8 (n % 256)] rfl (by simp [numc])
 go_enter Tryz.func178, Tryz.ntmps178
 go_wp2
 go_ret
 exact ⟨rfl, by (repeat (first | with_reducible assumption | with_reducible exact Below.refl _ _ | (with_reducible refine Below.setCell ?_ (by first | exact Nat.le_refl _ | omega | (simp; done) | (simp; omega)) _) | (with_reducible refine Below.alloc ?_ (by first | exact Nat.le_refl _ | omega | (simp; done) | (simp; omega)) _) | (with_reducible refine Below.drew ?_)))⟩
set_option maxHeartbeats 4000000 in
set_option maxRecDepth 100000 in
theorem one_any (n : Int) (h0 : 0 ≤ n) (h1 : n ≤ 255) (w : World) :
  Calls Tryz.prog 180 #[.int .i64 n] w fun e w' => e = .returned (.string (Go.strOfNums (Sp.putL n 1))) ∧ Below w.heap.size w w' := by
 rw [putL_one n h0 h1]
 have hcv := conv_lit w [n] 1 #[.int .u8 n] rfl (by simp [numc])
 go_enter Tryz.func180, Tryz.ntmps180
 go_wp2
 go_ret
 exact ⟨rfl, by (repeat (first | with_reducible assumption | with_reducible exact Below.refl _ _ | (with_reducible refine Below.setCell ?_ (by first | exact Nat.le_refl _ | omega | (simp; done) | (simp; omega)) _) | (with_reducible refine Below.alloc ?_ (by first | exact Nat.le_refl _ | omega | (simp; done) | (simp; omega)) _) | (with_reducible refine Below.drew ?_)))⟩
end Go.Proofs.YtjjlcoimaihdoaaGreatDoor
namespace Go.Proofs.YtjjlcoimaihdoaaGreatDoor.Sp
open Go.Lib
theorem memF_all {chk : Mb → Int} {key : Mb → ByteArray × ByteArray} : ∀ {l : List Mb} {had : List (ByteArray × ByteArray)}, memF chk key had l = 0 → (∀ m ∈ l, chk m = 0) ∧ (∀ m ∈ l, key m ∉ had) ∧ (l.map key).Nodup
 | [], had, _ => ⟨by simp, by simp, by simp⟩
 | m :: l, had, h => by
  rw [memF] at h
  by_cases hc : chk m = 0
  ·rw [if_neg (by simp [hc])] at h
   by_cases hi : inS had (key m) = true
   ·rw [if_pos hi] at h
    cases h
   ·rw [if_neg hi] at h
    obtain ⟨h1, h2, h3⟩ := memF_all h
    have hk : key m ∉ had := fun q => hi ((inS_iff _ _ _).2 q)
    refine ⟨fun x hx => ?_, fun x hx => ?_, ?_⟩
    ·rcases List.mem_cons.1 hx with rfl | hx
     ·exact hc
     ·exact h1 x hx
    ·rcases List.mem_cons.1 hx with rfl | hx
     ·exact hk
     ·exact fun q => h2 x hx (List.mem_cons_of_mem _ q)
    ·rw [List.map_cons, List.nodup_cons]
     refine ⟨fun q => ?_, h3⟩
     obtain ⟨x, hx, he⟩ := List.mem_map.1 q
     exact h2 x hx (by rw [he]; exact List.mem_cons_self ..)
  ·rw [if_pos hc] at h
   exact absurd h hc
theorem method_named {p : List Cn} {ff : Int} {m : Mb} (h : methodM p ff m = 0) : (cnameS p m.name).2 = true ∧ (cnameS p m.desc).2 = true := by
 unfold methodM at h
 split at h
 ·cases h
 ·split at h
  ·rename_i hl
   exact absurd h hl
  ·rename_i hl
   have hl0 : linkS p m.name m.desc true = 0 := by simpa using hl
   unfold linkS at hl0
   split at hl0
   ·cases hl0
   ·rename_i q
    simp only [not_or, Bool.not_eq_false] at q
    exact q
def In16 (i : Int) : Prop := 0 ≤ i ∧ i ≤ 65535
def In8 (i : Int) : Prop := 0 ≤ i ∧ i ≤ 255
theorem tagged_range {p : List Cn} {i t : Int} (h : taggedS p i t = true) : 1 ≤ i ∧ i ≤ (p.length : Int) := by
 obtain ⟨k, hk, h1, _, _⟩ := tag_at p i t h
 omega
theorem link_range {p : List Cn} {a b : Int} {m : Bool} (h : linkS p a b m = 0) : (1 ≤ a ∧ a ≤ (p.length : Int)) ∧ (1 ≤ b ∧ b ≤ (p.length : Int)) := by
 unfold linkS at h
 split at h
 ·cases h
 ·rename_i q
  simp only [not_or, Bool.not_eq_false, cname_tag] at q
  exact ⟨tagged_range q.1, tagged_range q.2⟩
theorem const_range {p : List Cn} {c : Cn} (hp : p.length ≤ 2000) (h : constS p c = 0) : (1 ≤ c.tag ∧ c.tag ≤ 7) ∧ (c.tag ≠ 1 → c.tag ≠ 2 → In16 c.a) ∧ (c.tag = 5 ∨ c.tag = 6 → In16 c.b ∧ In16 c.c) := by
 unfold constS at h
 split at h
 ·cases h
 rename_i hl
 have ht := lean_tag c (by simpa using hl)
 refine ⟨by omega, fun h1 h2 => ?_, fun h5 => ?_⟩
 ·rw [if_neg h1] at h
  by_cases h5 : c.tag = 5 ∨ c.tag = 6
  ·rw [if_pos h5] at h
   unfold linkedS at h
   split at h
   ·cases h
   ·rename_i q
    have := tagged_range (show taggedS p c.a 4 = true by simpa using q)
    unfold In16; omega
  ·rw [if_neg h5, if_pos (by omega)] at h
   unfold namedS at h
   split at h
   ·cases h
   ·rename_i q
    have := tagged_range (show taggedS p c.a 1 = true by rw [← cname_tag]; simpa using q)
    unfold In16; omega
 ·rw [if_neg (by omega), if_pos h5] at h
  unfold linkedS at h
  split at h
  ·cases h
  ·have := link_range h
   unfold In16; omega
theorem pool_range {p : List Cn} : ∀ {l : List Cn}, poolF p l = 0 → ∀ c ∈ l, constS p c = 0
 | [], _, c, hc => by cases hc
 | x :: l, h, c, hc => by
  rw [poolF] at h
  by_cases hx : constS p x = 0
  ·rw [if_neg (by simp [hx])] at h
   rcases List.mem_cons.1 hc with rfl | hc
   ·exact hx
   ·exact pool_range h c hc
  ·rw [if_pos hx] at h; exact absurd h hx
theorem head_range {p : List Cn} {f t s : Int} {ifs : List Int} (hp : p.length ≤ 2000) (h : headS p f t s ifs = 0) : In8 f ∧ In16 t ∧ In16 s ∧ ifs.length ≤ 255 ∧ ∀ i ∈ ifs, In16 i := by
 unfold headS at h
 split at h
 ·cases h
 rename_i h1
 split at h
 ·cases h
 rename_i h2
 split at h
 ·cases h
 rename_i h3
 split at h
 ·rename_i h4
  simp only [not_or, not_and, Bool.not_eq_false] at h2
  refine ⟨by unfold In8; omega, ?_, ?_, by omega, fun i hi => ?_⟩
  ·have := tagged_range h2.1
   unfold In16; omega
  ·by_cases hs : s = 0
   ·unfold In16; omega
   ·have := tagged_range (h2.2 hs)
    unfold In16; omega
  ·have := tagged_range (List.all_eq_true.1 h4 i hi)
   unfold In16; omega
 ·cases h
theorem fieldM_range {p : List Cn} {ff : Int} {m : Mb} (hp : p.length ≤ 2000) (h : fieldM p ff m = 0) : In8 m.flags ∧ In16 m.name ∧ In16 m.desc := by
 unfold fieldM at h
 split at h
 ·cases h
 rename_i h1
 split at h
 ·rename_i h2
  have := link_range h2
  unfold In8 In16; omega
 ·rename_i h2
  exact absurd h h2
theorem hand_range {p : List Cn} {n : Int} (hp : p.length ≤ 2000) (hn : n ≤ 4096) : ∀ {l : List Hn}, handS p n l = 0 → ∀ h ∈ l, In16 h.fr ∧ In16 h.til ∧ In16 h.at_ ∧ In16 h.cls
 | [], _, h, hh => by cases hh
 | x :: l, h, y, hy => by
  rw [handS] at h
  split at h
  ·cases h
  rename_i h1
  split at h
  ·cases h
  rename_i h2
  rcases List.mem_cons.1 hy with rfl | hy
  ·have hc : In16 y.cls := by
    by_cases hz : y.cls = 0
    ·unfold In16; omega
    ·have := tagged_range (show taggedS p y.cls 4 = true by
      cases q : taggedS p y.cls 4 with
      | true => rfl
      | false => exact absurd ⟨hz, q⟩ h2)
     unfold In16; omega
   refine ⟨?_, ?_, ?_, hc⟩ <;> unfold In16 <;> omega
  ·exact hand_range hp hn h y hy
def RngM (m : Mb) : Prop := In8 m.flags ∧ In16 m.name ∧ In16 m.desc ∧ (m.flags ≠ 2 → In8 m.stack ∧ In8 m.locals ∧ m.code.size ≤ 4096 ∧ m.hs.length ≤ 32 ∧ ∀ h ∈ m.hs, In16 h.fr ∧ In16 h.til ∧ In16 h.at_ ∧ In16 h.cls)
theorem methodM_range {p : List Cn} {ff : Int} {m : Mb} (hp : p.length ≤ 2000) (h : methodM p ff m = 0) : RngM m := by
 unfold methodM at h
 split at h
 ·cases h
 rename_i h1
 split at h
 ·rename_i h2
  exact absurd h h2
 rename_i h2
 have hl := link_range (show linkS p m.name m.desc true = 0 by simpa using h2)
 split at h
 ·cases h
 refine ⟨by unfold In8; omega, by unfold In16; omega, by unfold In16; omega, fun h5 => ?_⟩
 rw [if_neg h5] at h
 unfold codedS at h
 split at h
 ·cases h
 rename_i k1
 split at h
 ·cases h
 split at h
 ·cases h
 rename_i k3
 split at h
 ·cases h
 rename_i k4
 exact ⟨by unfold In8; omega, by unfold In8; omega, by omega, by omega, hand_range hp (by omega) h⟩
structure Rng (F : Fl) : Prop where
 npool : F.pool.length ≤ 2000
 pool : ∀ c ∈ F.pool, (1 ≤ c.tag ∧ c.tag ≤ 7) ∧ (c.tag ≠ 1 → c.tag ≠ 2 → In16 c.a) ∧ (c.tag = 5 ∨ c.tag = 6 → In16 c.b ∧ In16 c.c)
 flags : In8 F.flags
 this : In16 F.this
 super : In16 F.super
 nifs : F.ifaces.length ≤ 255
 ifs : ∀ i ∈ F.ifaces, In16 i
 nfields : F.fields.length ≤ 200
 fields : ∀ m ∈ F.fields, In8 m.flags ∧ In16 m.name ∧ In16 m.desc
 nmethods : F.methods.length ≤ 200
 methods : ∀ m ∈ F.methods, RngM m
theorem rng_of {F : Fl} (h : partsS F = 0) : Rng F := by
 unfold partsS at h
 split at h
 ·cases h
 rename_i h1
 split at h
 ·rename_i q; exact absurd h q
 rename_i h2
 split at h
 ·rename_i q; exact absurd h q
 rename_i h3
 split at h
 ·rename_i q; exact absurd h q
 rename_i h4
 have hp : F.pool.length ≤ 2000 := by omega
 have h2' : poolF F.pool F.pool = 0 := by simpa using h2
 have h3' : headS F.pool F.flags F.this F.super F.ifaces = 0 := by simpa using h3
 have h4' : memS (fieldM F.pool F.flags) (keyM F.pool false) F.fields = 0 := by simpa using h4
 unfold memS at h4' h
 split at h4'
 ·cases h4'
 split at h
 ·cases h
 rename_i n1 n2
 obtain ⟨r1, r2, r3, r4, r5⟩ := head_range hp h3'
 exact ⟨hp, fun c hc => const_range hp (pool_range h2' c hc), r1, r2, r3, r4, r5, by omega, fun m hm => fieldM_range hp ((memF_all h4').1 m hm), by omega, fun m hm => methodM_range hp ((memF_all h).1 m hm)⟩
end Go.Proofs.YtjjlcoimaihdoaaGreatDoor.Sp
