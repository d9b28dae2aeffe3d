/-
  Texts of the proof, joined: each says at its head what it proves.
-/
import Derived.Test.YthpfknlgfkecpaaDoorJg13
import Derived.Deep.RegionHeld3
import Derived.Deep.RegionWith
import Derived.Deep.DeepCutAuto
section
/-
  Walk of chapter 3's reader: method.
-/
set_option linter.unusedVariables false
set_option linter.unusedSimpArgs false
namespace Go.Proofs.YthpfknlgfkecpaaDoor
open Go.RowKit Go.Lib

namespace Sp
/-- So many things as a number says. -/
def manyN {α : Type} (read : ByteArray → Int → α × ByteArray × Int) (n : Nat) (s : ByteArray) (e : Int) : List α × ByteArray × Int := manyR read (numR s e n).1.toNat (numR s e n).2.1 (numR s e n).2.2
/-- A method's code, that is read. -/
def codeR (f : Mb) (s : ByteArray) (e : Int) : Mb × ByteArray × Int :=
  let a := numR s e 1
  let b := numR a.2.1 a.2.2 1
  let l := numR b.2.1 b.2.2 2
  let c := takeR l.2.1 l.2.2 l.1.toNat
  let h := manyN handR 1 c.2.1 c.2.2
  (⟨f.flags, f.name, f.desc, a.1, b.1, c.1, h.1⟩, h.2)
/-- A method that is read. -/
def methodR (s : ByteArray) (e : Int) : Mb × ByteArray × Int :=
  if (fieldR s e).1.flags = 2 then fieldR s e else codeR (fieldR s e).1 (fieldR s e).2.1 (fieldR s e).2.2
theorem field_shape (s : ByteArray) (e : Int) : ∃ fl nm ds s1 e1, fieldR s e = (⟨fl, nm, ds, 0, 0, ⟨#[]⟩, []⟩, s1, e1) ∧ s1.size ≤ s.size := by
  refine ⟨_, _, _, _, _, rfl, ?_⟩
  exact Nat.le_trans (num_len _ _ 2) (Nat.le_trans (num_len _ _ 2) (num_len s e 1))
end Sp

theorem own_mono {w : World} {b b' : Nat} {e : TypeId} {size n : Nat} {v : Value} {xs : List Value} (h : w.ownsRow b' e size v n xs) (hb : b ≤ b') : w.ownsRow b e size v n xs :=
  ⟨h.1, h.2.imp id (fun ⟨g, cap, cur, hv, hg, r⟩ => ⟨g, cap, cur, hv, Nat.le_trans hb hg, r⟩)⟩
theorem set_cell {w : World} {v : Value} {a m i : Nat} {x : Value} (h : w.cell? ⟨a, 0, none⟩ = some v) (hne : a ≠ m) : (w.setCell ⟨m, i, none⟩ x).cell? ⟨a, 0, none⟩ = some v :=
  (World.cell?_setCell_other _ _ _ _ (fun q => hne (by injection q with q1 _; exact q1.symm))).trans h

set_option maxHeartbeats 8000000 in
set_option maxRecDepth 100000 in
theorem rmethod_any (rb : Nat) (s : ByteArray) (e : Int) (w : World) (h : Rd w rb s e) (hs : s.size ≤ 1099511627776) :
    Calls Tryd.prog 75 #[.pointer (some ⟨rb, 0, none⟩)] w fun x w' => ∃ A c, x = .returned (Sp.mbV ((Sp.methodR s e).1, A, c)) ∧ w'.ownsRow w.heap.size 97 4 (.slice A (Sp.methodR s e).1.hs.length c) (Sp.methodR s e).1.hs.length ((Sp.methodR s e).1.hs.flatMap Sp.hnC) ∧ Rd w' rb (Sp.methodR s e).2.1 (Sp.methodR s e).2.2 ∧ Keeps (fun i => i = rb) w w' := by
  have hlr := blk_lt h
  have hR2 := Lib.hid (blk_old (o := .cells #[.int .i64 0, .int .i64 0, .int .i64 0, .int .i64 0, .int .i64 0, .string ⟨#[]⟩, .slice none 0 0] 65) (blk_old (o := .cells #[.pointer (some ⟨rb, 0, none⟩)] 100) h))
  have hV2 := Lib.hid (blk_old (o := .cells #[.int .i64 0, .int .i64 0, .int .i64 0, .int .i64 0, .int .i64 0, .string ⟨#[]⟩, .slice none 0 0] 65) (blk_new w (.cells #[.pointer (some ⟨rb, 0, none⟩)] 100)))
  have hZ2 := Lib.hid (blk_new (w.alloc (.cells #[.pointer (some ⟨rb, 0, none⟩)] 100)) (.cells #[.int .i64 0, .int .i64 0, .int .i64 0, .int .i64 0, .int .i64 0, .string ⟨#[]⟩, .slice none 0 0] 65))
  rw [show (w.alloc (.cells #[.pointer (some ⟨rb, 0, none⟩)] 100)).heap.size = w.heap.size + 1 by simp] at hZ2
  have hK2 := Lib.hid (((Keeps.refl (fun i => i = rb) w).alloc (.cells #[.pointer (some ⟨rb, 0, none⟩)] 100)).alloc (.cells #[.int .i64 0, .int .i64 0, .int .i64 0, .int .i64 0, .int .i64 0, .string ⟨#[]⟩, .slice none 0 0] 65))
  have HE := Lib.hid (show Sp.methodR s e = _ by rw [Sp.methodR])
  generalize Sp.methodR s e = R at *
  obtain ⟨fl, nm, ds, s1, e1, hfr, hs1⟩ := Sp.field_shape s e
  have HE1 := HE.out
  have kf := Lib.hid (fun W hr => rfield_any rb s e W hr hs)
  rw [hfr] at HE1 kf
  simp only [] at HE1 kf
  have HE2 := Lib.hid HE1
  clear HE HE1 hfr h
  go_enter Tryd.func75, Tryd.ntmps75
  go_upto_region 1 with fail
  generalize (w.alloc (.cells #[.pointer (some ⟨rb, 0, none⟩)] 100)).alloc (.cells #[.int .i64 0, .int .i64 0, .int .i64 0, .int .i64 0, .int .i64 0, .string ⟨#[]⟩, .slice none 0 0] 65) = W2 at *
  have hlv := blk_lt hV2.out
  have hlz := blk_lt hZ2.out
  have hkz := hK2.out.size
  obtain ⟨v0, g0⟩ := blk_cell hV2.out 0 _ rfl
  go_wp2_with fail
  refine (kf.out _ hR2.out).mono ?_
  unfold Sp.mbV
  simp only []
  rintro x w3 ⟨rfl, hR3, hK3⟩
  have hV3 := Lib.hid (hK3.obj hV2.out (by omega))
  have hZ3 := Lib.hid (hK3.obj hZ2.out (by omega))
  have hKa := Lib.hid (hK2.out.trans hK3)
  have hl3 := hK3.size
  have hR4 := Lib.hid (blk_old (o := .cells #[.int .i64 fl, .int .i64 nm, .int .i64 ds, .int .i64 0, .int .i64 0, .string ⟨#[]⟩, .slice none 0 0] 65) hR3)
  have hV4 := Lib.hid (blk_old (o := .cells #[.int .i64 fl, .int .i64 nm, .int .i64 ds, .int .i64 0, .int .i64 0, .string ⟨#[]⟩, .slice none 0 0] 65) hV3.out)
  have hZ4 := Lib.hid (blk_old (o := .cells #[.int .i64 fl, .int .i64 nm, .int .i64 ds, .int .i64 0, .int .i64 0, .string ⟨#[]⟩, .slice none 0 0] 65) hZ3.out)
  have hM4 := Lib.hid (blk_new w3 (.cells #[.int .i64 fl, .int .i64 nm, .int .i64 ds, .int .i64 0, .int .i64 0, .string ⟨#[]⟩, .slice none 0 0] 65))
  have hK4 := Lib.hid (hKa.out.alloc (.cells #[.int .i64 fl, .int .i64 nm, .int .i64 ds, .int .i64 0, .int .i64 0, .string ⟨#[]⟩, .slice none 0 0] 65))
  clear hR2 hV2 hZ2 hK2 kf hR3 hK3 hV3 hZ3 hKa v0 g0
  go_upto_region 2 with fail
  generalize w3.alloc (.cells #[.int .i64 fl, .int .i64 nm, .int .i64 ds, .int .i64 0, .int .i64 0, .string ⟨#[]⟩, .slice none 0 0] 65) = W4 at *
  have hmb : w.heap.size + 2 ≤ w3.heap.size := by omega
  generalize w3.heap.size = mb at *
  generalize hvb : w.heap.size = vb at *
  have hlz' : w.heap.size ≤ vb + 1 := by omega
  have hne2 : rb ≠ vb + 1 := by omega
  by_cases hf2 : fl = 2
  · subst hf2
    have hR : R = (⟨2, nm, ds, 0, 0, ⟨#[]⟩, []⟩, s1, e1) := by rw [HE2.out, if_pos rfl]
    subst hR
    clear HE2
    obtain ⟨c0, c1, c2, c3, c4, c5, c6⟩ := cells7m hM4.out
    obtain ⟨d0, d1, d2, d3, d4, d5, d6⟩ := cells7m hZ4.out
    obtain ⟨f0, f1, f2, f3, f4, f5, f6⟩ := frz7m hZ4.out
    have hlm4 := blk_lt hM4.out
    have hlz4 := blk_lt hZ4.out
    have hfin := Lib.hid (blk_set (i := 6) (blk_set (i := 5) (blk_set (i := 4) (blk_set (i := 3) (blk_set (i := 2) (blk_set (i := 1) (blk_set (i := 0) hZ4.out (.int .i64 2)) (.int .i64 nm)) (.int .i64 ds)) (.int .i64 0)) (.int .i64 0)) (.string ⟨#[]⟩)) (.slice none 0 0))
    go_wp2
    (try simp only [Exit.inBlock, Exit.then])
    refine bodyPost_ret (results_c rfl _ _ _ rfl (mb_load hfin.out)) rfl ?_
    refine ⟨none, 0, rfl, World.ownsRow_nil _ _ _ _, ?_, ?_⟩
    · exact blk_other (blk_other (blk_other (blk_other (blk_other (blk_other (blk_other hR4.out ⟨vb + 1, 0, none⟩ _ hne2) ⟨vb + 1, 1, none⟩ _ hne2) ⟨vb + 1, 2, none⟩ _ hne2) ⟨vb + 1, 3, none⟩ _ hne2) ⟨vb + 1, 4, none⟩ _ hne2) ⟨vb + 1, 5, none⟩ _ hne2) ⟨vb + 1, 6, none⟩ _ hne2
    · exact ((((((hK4.out.setCell (a := ⟨vb + 1, 0, none⟩) (.inr hlz') _).setCell (a := ⟨vb + 1, 1, none⟩) (.inr hlz') _).setCell (a := ⟨vb + 1, 2, none⟩) (.inr hlz') _).setCell (a := ⟨vb + 1, 3, none⟩) (.inr hlz') _).setCell (a := ⟨vb + 1, 4, none⟩) (.inr hlz') _).setCell (a := ⟨vb + 1, 5, none⟩) (.inr hlz') _).setCell (a := ⟨vb + 1, 6, none⟩) (.inr hlz') _
  · have hf2b : (fl == 2) = false := by simp [hf2]
    rw [if_neg hf2] at HE2
    simp only [Sp.codeR] at HE2
    clear hf2
    have hne3 : rb ≠ vb := by omega
    have hne4 : rb ≠ mb := by omega
    have hne5 : vb ≠ mb := by omega
    have hne6 : vb + 1 ≠ mb := by omega
    have hlem : w.heap.size ≤ mb := by omega
    have hz1 := Sp.num_len s1 e1 1
    have hR4d : Rd W4.drew rb s1 e1 := hR4.out
    have kA := Lib.hid (number_any rb s1 e1 1 W4.drew hR4d (by omega) (by decide))
    clear hR4d
    generalize Sp.numR s1 e1 1 = NA at *
    obtain ⟨va, s2, e2⟩ := NA
    simp only [] at kA hz1 HE2
    have hz2 := Sp.num_len s2 e2 1
    have kB := Lib.hid (fun W hr => number_any rb s2 e2 1 W hr (by omega) (by decide))
    generalize Sp.numR s2 e2 1 = NB at *
    obtain ⟨vc, s3, e3⟩ := NB
    simp only [] at kB hz2 HE2
    have c0 := (blk_cell hM4.out 0 _ rfl).1
    have hlm4 := blk_lt hM4.out
    have hlv4 := blk_lt hV4.out
    go_upto_region 4 with fail
    clear c0
    go_cut [3] (fun x3 wx => x3 = .pointer (some ⟨mb, 0, none⟩) ∧ Hid (Rd wx rb s3 e3) ∧ Hid (wx.heap[mb]? = some (.cells #[.int .i64 fl, .int .i64 nm, .int .i64 ds, .int .i64 va, .int .i64 vc, .string ⟨#[]⟩, .slice none 0 0] 65 (0, 0))) ∧ Hid (wx.heap[vb + 1]? = some (.cells #[.int .i64 0, .int .i64 0, .int .i64 0, .int .i64 0, .int .i64 0, .string ⟨#[]⟩, .slice none 0 0] 65 (0, 0))) ∧ Hid (wx.heap[vb]? = some (.cells #[.pointer (some ⟨rb, 0, none⟩)] 100 (0, 0))) ∧ Hid (Keeps (fun i => i = rb) w wx))
    case first =>
      have hS0 : W4.drew.cell? ⟨vb, 0, none⟩ = some (.pointer (some ⟨rb, 0, none⟩)) := (blk_cell hV4.out 0 _ rfl).1
      go_wp2_with fail
      go_region_held3 (fun w' => w'.cell? ⟨vb, 0, none⟩ = some (.pointer (some ⟨rb, 0, none⟩))) (first | with_reducible assumption) (first | (go_at_call 69; refine kA.out.mono ?_; rintro x w5 ⟨rfl, hR5, hK5⟩; have hS5 : w5.cell? ⟨vb, 0, none⟩ = some (.pointer (some ⟨rb, 0, none⟩)) := hK5.cell hS0 (fun q => hne3 q.symm)) | (go_at_call 69; refine (kB.out w5 hR5).mono ?_; rintro x w6 ⟨rfl, hR6, hK6⟩; have hS6 : w6.cell? ⟨vb, 0, none⟩ = some (.pointer (some ⟨rb, 0, none⟩)) := hK6.cell hS5 (fun q => hne3 q.symm); have hM6 := hK6.obj (hK5.obj hM4.out (fun q => hne4 q.symm)) (fun q => hne4 q.symm); obtain ⟨q3, p3⟩ := blk_cell hM6 3 _ rfl; obtain ⟨q4, p4⟩ := blk_cell hM6 4 _ rfl; have hlm6 := blk_lt hM6; have hT1 : (w6.setCell ⟨mb, 3, none⟩ (.int .i64 va)).cell? ⟨vb, 0, none⟩ = some (.pointer (some ⟨rb, 0, none⟩)) := set_cell hS6 hne5; have hT2 : (w6.setCell ⟨mb, 4, none⟩ (.int .i64 vc)).cell? ⟨vb, 0, none⟩ = some (.pointer (some ⟨rb, 0, none⟩)) := set_cell hS6 hne5; have hT3 : ((w6.setCell ⟨mb, 3, none⟩ (.int .i64 va)).setCell ⟨mb, 4, none⟩ (.int .i64 vc)).cell? ⟨vb, 0, none⟩ = some (.pointer (some ⟨rb, 0, none⟩)) := set_cell hT1 hne5; have hT4 : ((w6.setCell ⟨mb, 4, none⟩ (.int .i64 vc)).setCell ⟨mb, 3, none⟩ (.int .i64 va)).cell? ⟨vb, 0, none⟩ = some (.pointer (some ⟨rb, 0, none⟩)) := set_cell hT2 hne5))
      all_goals
        have hZ6 := hK6.obj (hK5.obj hZ4.out (by omega)) (by omega)
        have hV6 := hK6.obj (hK5.obj hV4.out (by omega)) (by omega)
        have hKw : Keeps (fun i => i = rb) w w6 := (hK4.out.drew.trans hK5).trans hK6
        go_wp2
        go_meet
        refine ⟨rfl, Lib.hid (blk_other (blk_other hR6 ⟨mb, 3, none⟩ _ hne4) ⟨mb, 4, none⟩ _ hne4), Lib.hid (blk_set (i := 4) (blk_set (i := 3) hM6 (.int .i64 va)) (.int .i64 vc)), Lib.hid (blk_other (blk_other hZ6 ⟨mb, 3, none⟩ _ hne6) ⟨mb, 4, none⟩ _ hne6), Lib.hid (blk_other (blk_other hV6 ⟨mb, 3, none⟩ _ hne5) ⟨mb, 4, none⟩ _ hne5), Lib.hid ((hKw.setCell (a := ⟨mb, 3, none⟩) (.inr hlem) _).setCell (a := ⟨mb, 4, none⟩) (.inr hlem) _)⟩
    case rest =>
      clear hR4 hM4 hZ4 hV4 hK4 kA kB
      obtain ⟨rfl, hR5, hM5, hZ5, hV5, hK5⟩ := hcut
      have hz3 := Sp.num_len s3 e3 2
      have hv2 := Sp.num_two s3 e3 2 (by decide)
      have hR5d : Rd wc.drew rb s3 e3 := hR5.out
      have kC := Lib.hid (number_any rb s3 e3 2 wc.drew hR5d (by omega) (by decide))
      clear hR5d
      generalize Sp.numR s3 e3 2 = NC at *
      obtain ⟨lv, s4, e4⟩ := NC
      simp only [] at kC hz3 hv2 HE2
      obtain ⟨k, rfl⟩ := Int.eq_ofNat_of_zero_le hv2.1
      rw [Int.toNat_natCast] at HE2
      have hz4 := Sp.take_len s4 e4 k
      have kD := Lib.hid (fun W hr => take_any rb s4 e4 k W hr (by omega) (by omega))
      generalize Sp.takeR s4 e4 k = TD at *
      obtain ⟨cd, s5, e5⟩ := TD
      simp only [] at kD hz4 HE2
      have hlv5 := blk_lt hV5.out
      go_upto_region 5 with fail
      go_cut [3] (fun x3 wx => x3 = .pointer (some ⟨mb, 0, none⟩) ∧ Hid (Rd wx rb s5 e5) ∧ Hid (wx.heap[mb]? = some (.cells #[.int .i64 fl, .int .i64 nm, .int .i64 ds, .int .i64 va, .int .i64 vc, .string cd, .slice none 0 0] 65 (0, 0))) ∧ Hid (wx.heap[vb + 1]? = some (.cells #[.int .i64 0, .int .i64 0, .int .i64 0, .int .i64 0, .int .i64 0, .string ⟨#[]⟩, .slice none 0 0] 65 (0, 0))) ∧ Hid (wx.heap[vb]? = some (.cells #[.pointer (some ⟨rb, 0, none⟩)] 100 (0, 0))) ∧ Hid (Keeps (fun i => i = rb) w wx))
      case first =>
        have hS0 : wc.drew.cell? ⟨vb, 0, none⟩ = some (.pointer (some ⟨rb, 0, none⟩)) := (blk_cell hV5.out 0 _ rfl).1
        go_wp2_with fail
        go_region_held3 (fun w' => w'.cell? ⟨vb, 0, none⟩ = some (.pointer (some ⟨rb, 0, none⟩))) (first | with_reducible assumption) (first | (go_at_call 69; refine kC.out.mono ?_; rintro x w5 ⟨rfl, hR6, hK6⟩; have hS5 : w5.cell? ⟨vb, 0, none⟩ = some (.pointer (some ⟨rb, 0, none⟩)) := hK6.cell hS0 (fun q => hne3 q.symm)) | (go_at_call 66; refine (kD.out w5 hR6).mono ?_; rintro x w6 ⟨rfl, hR7, hK7⟩; have hS6 : w6.cell? ⟨vb, 0, none⟩ = some (.pointer (some ⟨rb, 0, none⟩)) := hK7.cell hS5 (fun q => hne3 q.symm); have hM6 := hK7.obj (hK6.obj hM5.out (fun q => hne4 q.symm)) (fun q => hne4 q.symm); obtain ⟨q5, p5⟩ := blk_cell hM6 5 _ rfl; have hlm6 := blk_lt hM6; have hT1 : (w6.setCell ⟨mb, 5, none⟩ (.string cd)).cell? ⟨vb, 0, none⟩ = some (.pointer (some ⟨rb, 0, none⟩)) := set_cell hS6 hne5))
        all_goals
          have hZ6 := hK7.obj (hK6.obj hZ5.out (by omega)) (by omega)
          have hV6 := hK7.obj (hK6.obj hV5.out (by omega)) (by omega)
          have hKw : Keeps (fun i => i = rb) w w6 := (hK5.out.drew.trans hK6).trans hK7
          go_wp2
          go_meet
          refine ⟨rfl, Lib.hid (blk_other hR7 ⟨mb, 5, none⟩ _ hne4), Lib.hid (blk_set (i := 5) hM6 (.string cd)), Lib.hid (blk_other hZ6 ⟨mb, 5, none⟩ _ hne6), Lib.hid (blk_other hV6 ⟨mb, 5, none⟩ _ hne5), Lib.hid (hKw.setCell (a := ⟨mb, 5, none⟩) (.inr hlem) _)⟩
      case rest =>
        clear hR5 hM5 hZ5 hV5 hK5 kC kD hlv5
        obtain ⟨rfl, hR6, hM6, hZ6, hV6, hK6⟩ := hcut
        have km := Lib.hid (manyHn_any Sp.handR 104 (.func (.func 104) #[] #[.pointer (some ⟨vb, 0, none⟩)]) rb s5 e5 1 wc hR6.out (by omega) (by decide) (fun s e => Sp.list_len s e 4 s e) #[.pointer (some ⟨vb, 0, none⟩)] rfl (fun W => by kernel_rfl)
          (fun s1 e1 W hKw hRw hsz => rhand_any rb vb s1 e1 _ W hRw (hKw.obj hV6.out (fun q => hne3 q.symm)) hsz))
        simp only [Sp.manyN] at HE2
        generalize Sp.manyR Sp.handR (Sp.numR s5 e5 1).1.toNat (Sp.numR s5 e5 1).2.1 (Sp.numR s5 e5 1).2.2 = HN at *
        obtain ⟨hs', s6, e6⟩ := HN
        simp only [] at km HE2
        have hR := HE2.out
        subst hR
        clear HE2
        obtain ⟨v0, g0⟩ := blk_cell hV6.out 0 _ rfl
        have hlv6 := blk_lt hV6.out
        go_wp2_with fail
        refine km.out.mono ?_
        rintro x w7 ⟨A, c, rfl, hO7, hR7, hK7⟩
        have hlm6 := blk_lt hM6.out
        have hlz6 := blk_lt hZ6.out
        have hM7 := Lib.hid (hK7.obj hM6.out (fun q => hne4 q.symm))
        have hZ7 := Lib.hid (hK7.obj hZ6.out (fun q => hne2 q.symm))
        have hKf := Lib.hid (hK6.out.trans hK7)
        have hbase := own_base hO7
        have hO := Lib.hid hO7
        have hR8 := blk_other hR7 ⟨mb, 6, none⟩ (.slice A hs'.length c) hne4
        have hR9 := Lib.hid hR8
        have hZ8 := Lib.hid (blk_other hZ7.out ⟨mb, 6, none⟩ (.slice A hs'.length c) hne6)
        have hb := Lib.hid hbase
        clear hR7 hK7 hO7 km v0 g0 hlv6 hR6 hM6 hZ6 hV6 hK6 hbase hR8
        obtain ⟨c0, c1, c2, c3, c4, c5, c6⟩ := cells7m hM7.out
        obtain ⟨q0, q1, q2, q3, q4, q5, q6⟩ := frz7m hM7.out
        obtain ⟨d0, d1, d2, d3, d4, d5, d6⟩ := cells7m hZ7.out
        obtain ⟨f0, f1, f2, f3, f4, f5, f6⟩ := frz7m hZ7.out
        have hlm7 := blk_lt hM7.out
        have hlz7 := blk_lt hZ7.out
        have hfin := Lib.hid (blk_set (i := 6) (blk_set (i := 5) (blk_set (i := 4) (blk_set (i := 3) (blk_set (i := 2) (blk_set (i := 1) (blk_set (i := 0) hZ8.out (.int .i64 fl)) (.int .i64 nm)) (.int .i64 ds)) (.int .i64 va)) (.int .i64 vc)) (.string cd)) (.slice A hs'.length c))
        go_wp2
        (try simp only [Exit.inBlock, Exit.then])
        refine bodyPost_ret (results_c rfl _ _ _ rfl (mb_load hfin.out)) rfl ?_
        have hR8 := hR9.out
        refine ⟨A, c, rfl, ?_, ?_, ?_⟩
        · refine own_mono (Keeps.row (S := fun i => i = mb ∨ i = vb + 1) (((((((((Keeps.refl (fun i => i = mb ∨ i = vb + 1) w7).setCell (a := ⟨mb, 6, none⟩) (.inl (.inl rfl)) _).setCell (a := ⟨vb + 1, 0, none⟩) (.inl (.inr rfl)) _).setCell (a := ⟨vb + 1, 1, none⟩) (.inl (.inr rfl)) _).setCell (a := ⟨vb + 1, 2, none⟩) (.inl (.inr rfl)) _).setCell (a := ⟨vb + 1, 3, none⟩) (.inl (.inr rfl)) _).setCell (a := ⟨vb + 1, 4, none⟩) (.inl (.inr rfl)) _).setCell (a := ⟨vb + 1, 5, none⟩) (.inl (.inr rfl)) _).setCell (a := ⟨vb + 1, 6, none⟩) (.inl (.inr rfl)) _) hO.out (fun k hk q => ?_)) (by omega)
          have := hb.out k hk
          rcases q with q | q <;> omega
        · exact (blk_other (blk_other (blk_other (blk_other (blk_other (blk_other (blk_other hR8 ⟨vb + 1, 0, none⟩ _ hne2) ⟨vb + 1, 1, none⟩ _ hne2) ⟨vb + 1, 2, none⟩ _ hne2) ⟨vb + 1, 3, none⟩ _ hne2) ⟨vb + 1, 4, none⟩ _ hne2) ⟨vb + 1, 5, none⟩ _ hne2) ⟨vb + 1, 6, none⟩ _ hne2)
        · exact ((((((((hKf.out.setCell (a := ⟨mb, 6, none⟩) (.inr hlem) _).setCell (a := ⟨vb + 1, 0, none⟩) (.inr hlz') _).setCell (a := ⟨vb + 1, 1, none⟩) (.inr hlz') _).setCell (a := ⟨vb + 1, 2, none⟩) (.inr hlz') _).setCell (a := ⟨vb + 1, 3, none⟩) (.inr hlz') _).setCell (a := ⟨vb + 1, 4, none⟩) (.inr hlz') _).setCell (a := ⟨vb + 1, 5, none⟩) (.inr hlz') _).setCell (a := ⟨vb + 1, 6, none⟩) (.inr hlz') _)
end Go.Proofs.YthpfknlgfkecpaaDoor
end
