/-
  Texts of the proof, joined: each says at its head what it proves.
-/
import Derived.Test.YthpfknlgfkecpaaDoorJg8
import Derived.Test.YthpfknlgfkecpaaDoorJFileNamesx1
section
/-
  Walk of chapter 3's reader: constant. (Printed by gen_rdconst.py.)
-/
set_option linter.unusedVariables false
set_option linter.unusedSimpArgs false
namespace Go.Proofs.YthpfknlgfkecpaaDoor
open Go.RowKit Go.Lib

namespace Sp
/-- What is behind a constant's tag. -/
def constT (t : Int) (s : ByteArray) (e : Int) : Cn × ByteArray × Int :=
  if t = 1 then (⟨1, (decS (takeR (numR s e 2).2.1 (numR s e 2).2.2 (numR s e 2).1.toNat).1).1, 0, 0, 0, 0⟩, (takeR (numR s e 2).2.1 (numR s e 2).2.2 (numR s e 2).1.toNat).2.1,
    if (takeR (numR s e 2).2.1 (numR s e 2).2.2 (numR s e 2).1.toNat).2.2 = 0 then (decS (takeR (numR s e 2).2.1 (numR s e 2).2.2 (numR s e 2).1.toNat).1).2 else (takeR (numR s e 2).2.1 (numR s e 2).2.2 (numR s e 2).1.toNat).2.2)
  else if t = 2 then (⟨2, ⟨#[]⟩, (numR s e 8).1, 0, 0, 0⟩, (numR s e 8).2)
  else if t = 3 ∨ t = 4 ∨ t = 7 then (⟨t, ⟨#[]⟩, 0, (numR s e 2).1, 0, 0⟩, (numR s e 2).2)
  else if t = 5 ∨ t = 6 then (⟨t, ⟨#[]⟩, 0, (numR s e 2).1, (numR (numR s e 2).2.1 (numR s e 2).2.2 2).1, (numR (numR (numR s e 2).2.1 (numR s e 2).2.2 2).2.1 (numR (numR s e 2).2.1 (numR s e 2).2.2 2).2.2 2).1⟩,
    (numR (numR (numR s e 2).2.1 (numR s e 2).2.2 2).2.1 (numR (numR s e 2).2.1 (numR s e 2).2.2 2).2.2 2).2)
  else (⟨t, ⟨#[]⟩, 0, 0, 0, 0⟩, s, if e = 0 then 4 else e)
/-- A constant that is read. -/
def constR (s : ByteArray) (e : Int) : Cn × ByteArray × Int := constT (numR s e 1).1 (numR s e 1).2.1 (numR s e 1).2.2
theorem numV_two (l : List Int) (hl : l.length ≤ 2) (hb : By l) : 0 ≤ numV l ∧ numV l ≤ 65535 := by
  match l, hl with
  | [], _ => simp [numV]
  | [a], _ =>
    obtain ⟨h0, h1⟩ := hb a (by simp)
    simp only [numV, List.foldl_cons, List.foldl_nil, IntKind.wrap_i64]
    omega
  | [a, b], _ =>
    obtain ⟨h0, h1⟩ := hb a (by simp)
    obtain ⟨h2, h3⟩ := hb b (by simp)
    simp only [numV, List.foldl_cons, List.foldl_nil, IntKind.wrap_i64]
    omega
theorem num_two (s : ByteArray) (e : Int) (n : Nat) (hn : n ≤ 2) : 0 ≤ (numR s e n).1 ∧ (numR s e n).1 ≤ 65535 :=
  numV_two _ (by rw [nums_length]; have := take_size s e n; omega) (by_nums _)
end Sp
theorem cn_load {w : World} {b : Nat} {c0 c1 c2 c3 c4 c5 : Value} {T : TypeId} (h : w.heap[b]? = some (.cells #[c0, c1, c2, c3, c4, c5] T (0, 0))) : (loadVar 58 ⟨b, 0, none⟩).run Tryd.prog w = .ok (.agg #[c0, c1, c2, c3, c4, c5]) w :=
  run_loadVar_mid w b 0 58 [c0, c1, c2, c3, c4, c5] _ (fun j v hj => by rw [Nat.zero_add]; exact (blk_cell h j v (by rw [← Array.getElem?_toList]; exact hj)).1) Tryd.underlying58 rfl (by kernel_rfl)
theorem cells6m {W : World} {x : Nat} {c0 c1 c2 c3 c4 c5 : Value} {T : TypeId} (h : W.heap[x]? = some (.cells #[c0, c1, c2, c3, c4, c5] T (0, 0))) : W.cell? ⟨x, 0, none⟩ = some c0 ∧ W.cell? ⟨x, 1, none⟩ = some c1 ∧ W.cell? ⟨x, 2, none⟩ = some c2 ∧ W.cell? ⟨x, 3, none⟩ = some c3 ∧ W.cell? ⟨x, 4, none⟩ = some c4 ∧ W.cell? ⟨x, 5, none⟩ = some c5 :=
  ⟨(blk_cell h 0 _ rfl).1, (blk_cell h 1 _ rfl).1, (blk_cell h 2 _ rfl).1, (blk_cell h 3 _ rfl).1, (blk_cell h 4 _ rfl).1, (blk_cell h 5 _ rfl).1⟩
theorem frz6m {W : World} {x : Nat} {c0 c1 c2 c3 c4 c5 : Value} {T : TypeId} (h : W.heap[x]? = some (.cells #[c0, c1, c2, c3, c4, c5] T (0, 0))) : W.frozen? ⟨x, 0, none⟩ = false ∧ W.frozen? ⟨x, 1, none⟩ = false ∧ W.frozen? ⟨x, 2, none⟩ = false ∧ W.frozen? ⟨x, 3, none⟩ = false ∧ W.frozen? ⟨x, 4, none⟩ = false ∧ W.frozen? ⟨x, 5, none⟩ = false :=
  ⟨(blk_cell h 0 _ rfl).2, (blk_cell h 1 _ rfl).2, (blk_cell h 2 _ rfl).2, (blk_cell h 3 _ rfl).2, (blk_cell h 4 _ rfl).2, (blk_cell h 5 _ rfl).2⟩

set_option maxHeartbeats 8000000 in
set_option maxRecDepth 100000 in
theorem rconst_any (rb : Nat) (s : ByteArray) (e : Int) (w : World) (h : Rd w rb s e) (hs : s.size ≤ 1099511627776) :
    Calls Tryd.prog 68 #[.pointer (some ⟨rb, 0, none⟩)] w fun x w' => x = .returned (Sp.cnV (Sp.constR s e).1) ∧ Rd w' rb (Sp.constR s e).2.1 (Sp.constR s e).2.2 ∧ Keeps (fun i => i = rb) w w' := by
  have hlr := blk_lt h
  have hR0 := Lib.hid (blk_old (o := .cells #[.int .i64 0, .string ⟨#[]⟩, .int .i64 0, .int .i64 0, .int .i64 0, .int .i64 0] 58) h)
  have hZ0 := Lib.hid (blk_new w (.cells #[.int .i64 0, .string ⟨#[]⟩, .int .i64 0, .int .i64 0, .int .i64 0, .int .i64 0] 58))
  have hK0 := Lib.hid ((Keeps.refl (fun i => i = rb) w).alloc (.cells #[.int .i64 0, .string ⟨#[]⟩, .int .i64 0, .int .i64 0, .int .i64 0, .int .i64 0] 58))
  have kn := Lib.hid (number_any rb s e 1 _ hR0.out hs (by decide))
  have hz1 := Sp.num_len s e 1
  have ht := Sp.num_two s e 1 (by decide)
  unfold Sp.constR
  generalize Sp.numR s e 1 = N at *
  obtain ⟨t, s1, e1⟩ := N
  simp only [] at kn hz1 ht ⊢
  have hHF := Lib.hid (show Sp.constT t s1 e1 = _ by rw [Sp.constT])
  generalize Sp.constT t s1 e1 = F at *
  obtain ⟨FC, Fs, Fe⟩ := F
  simp only [] at hHF ⊢
  go_enter Tryd.func68, Tryd.ntmps68
  go_wp2_with fail
  refine kn.out.mono ?_
  rintro x w1 ⟨rfl, hR1, hK1⟩
  have hZ1 := Lib.hid (hK1.obj hZ0.out (by omega))
  have hKK := Lib.hid (hK0.out.trans hK1)
  have hlz := blk_lt hZ1.out
  clear hR0 hZ0 hK0 kn hK1
  have hR2 := Lib.hid (blk_old (o := .cells #[.int .i64 t, .string ⟨#[]⟩, .int .i64 0, .int .i64 0, .int .i64 0, .int .i64 0] 58) hR1)
  have hZ2 := Lib.hid (blk_old (o := .cells #[.int .i64 t, .string ⟨#[]⟩, .int .i64 0, .int .i64 0, .int .i64 0, .int .i64 0] 58) hZ1.out)
  have hC2 := Lib.hid (blk_new w1 (.cells #[.int .i64 t, .string ⟨#[]⟩, .int .i64 0, .int .i64 0, .int .i64 0, .int .i64 0] 58))
  have hK2 := Lib.hid (hKK.out.alloc (.cells #[.int .i64 t, .string ⟨#[]⟩, .int .i64 0, .int .i64 0, .int .i64 0, .int .i64 0] 58))
  have hl1 := blk_lt hR1
  have hwl := hKK.out.size
  clear hR1 hZ1 hKK
  go_upto_region 2 with fail
  generalize w1.alloc (.cells #[.int .i64 t, .string ⟨#[]⟩, .int .i64 0, .int .i64 0, .int .i64 0, .int .i64 0] 58) = W2 at *
  generalize w1.heap.size = cb at *
  have hzb0 : w.heap.size ≤ w.heap.size := Nat.le_refl _
  generalize hzb : w.heap.size = zb at *
  have hlc := blk_lt hC2.out
  have hlz2 := blk_lt hZ2.out
  have hRl := blk_lt hR2.out
  have hs1 : s1.size ≤ 1099511627776 := by omega
  have hne1 : rb ≠ cb := by omega
  have hne2 : rb ≠ zb := by omega
  have hne3 : zb ≠ cb := by omega
  have hle : w.heap.size ≤ zb := by omega
  have hle2 : w.heap.size ≤ cb := by omega
  clear hz1 hs
  by_cases ht1 : t = 1
  · subst ht1
    have hF := hHF.out
    rw [if_pos rfl] at hF
    clear hHF
    have kn := Lib.hid (number_any rb s1 e1 2 W2 hR2.out hs1 (by decide))
    have hv := Sp.num_two s1 e1 2 (by decide)
    have hz2 := Sp.num_len s1 e1 2
    generalize Sp.numR s1 e1 2 = N at *
    obtain ⟨v, s2, e2⟩ := N
    simp only [] at kn hv hz2 hF
    obtain ⟨k, rfl⟩ := Int.eq_ofNat_of_zero_le hv.1
    rw [Int.toNat_natCast] at hF
    have d0 := (blk_cell hC2.out 0 _ rfl).1
    go_wp2_with fail
    refine kn.out.mono ?_
    rintro x w3 ⟨rfl, hR3, hK3⟩
    have hZ3 := Lib.hid (hK3.obj hZ2.out (fun q => hne2 q.symm))
    have hC3 := Lib.hid (hK3.obj hC2.out (fun q => hne1 q.symm))
    have hKb := Lib.hid (hK2.out.trans hK3)
    have kt := Lib.hid (take_any rb s2 e2 k w3 hR3 (by omega) (by omega))
    clear kn hR2 hZ2 hC2 hK2 hR3 hK3 d0
    generalize Sp.takeR s2 e2 k = T at *
    obtain ⟨tx, s3, e3⟩ := T
    simp only [] at kt hF
    go_wp2_with fail
    refine kt.out.mono ?_
    rintro x w4 ⟨rfl, hR4, hK4⟩
    have hZ4 := Lib.hid (hK4.obj hZ3.out (fun q => hne2 q.symm))
    have hC4 := Lib.hid (hK4.obj hC3.out (fun q => hne1 q.symm))
    have hKc := Lib.hid (hKb.out.trans hK4)
    have hR4' := Lib.hid hR4
    have kd := Lib.hid (fun W => decode_any tx W)
    clear kt hZ3 hC3 hKb hR4 hK4
    generalize Sp.decS tx = D at *
    obtain ⟨dt, de⟩ := D
    simp only [] at kd hF
    go_wp2_with fail
    refine (kd.out _).mono ?_
    rintro x w5 ⟨rfl, hb5⟩
    have hK5 := Keeps.of_below (S := fun i => i = rb) hb5
    have hZ5 := Lib.hid (hK5.obj hZ4.out (fun q => hne2 q.symm))
    have hC5 := Lib.hid (hK5.obj hC4.out (fun q => hne1 q.symm))
    have hR5 := Lib.hid (show Rd w5 rb s3 e3 from blk_below hR4'.out hb5)
    have hKd := Lib.hid (hKc.out.trans hK5)
    clear kd hZ4 hC4 hKc hR4' hb5 hK5
    obtain ⟨r1, g1⟩ := blk_cell hR5.out 1 _ rfl
    obtain ⟨q1, p1⟩ := blk_cell hC5.out 1 _ rfl
    have hlr5 := blk_lt hR5.out
    have hlc5 := blk_lt hC5.out
    by_cases he : e3 = 0
    · subst he
      rw [if_pos rfl] at hF
      have hFe : (FC, Fs, Fe) = (⟨1, dt, 0, 0, 0, 0⟩, s3, de) := hF
      injection hFe with h1 h2
      injection h2 with h2 h3
      subst h1 h2 h3
      clear hF
      have hR6 := Lib.hid (show Rd (w5.setCell ⟨rb, 1, none⟩ (.int .i64 Fe)) rb Fs Fe from blk_set (i := 1) hR5.out (.int .i64 Fe))
      have hR7 := Lib.hid (show Rd ((w5.setCell ⟨rb, 1, none⟩ (.int .i64 Fe)).setCell ⟨cb, 1, none⟩ (.string dt)) rb Fs Fe from blk_other hR6.out _ _ hne1)
      have hZ7 := Lib.hid (blk_other (blk_other hZ5.out ⟨rb, 1, none⟩ (.int .i64 Fe) (fun q => hne2 q.symm)) ⟨cb, 1, none⟩ (.string dt) hne3)
      have hC7 := Lib.hid (blk_set (i := 1) (blk_other hC5.out ⟨rb, 1, none⟩ (.int .i64 Fe) (fun q => hne1 q.symm)) (.string dt))
      have hK7 := Lib.hid ((hKd.out.setCell (a := ⟨rb, 1, none⟩) (.inl rfl) (.int .i64 Fe)).setCell (a := ⟨cb, 1, none⟩) (.inr hle2) (.string dt))
      clear hR6 hR5 hKd hC7
      obtain ⟨c0, c1, c2, c3, c4, c5⟩ := cells6m hC5.out
      obtain ⟨d0, d1, d2, d3, d4, d5⟩ := cells6m hZ5.out
      obtain ⟨f0, f1, f2, f3, f4, f5⟩ := frz6m hZ5.out
      have hlcc := blk_lt hC5.out
      have hlzz := blk_lt hZ5.out
      have hfin := Lib.hid (blk_set (i := 5) (blk_set (i := 4) (blk_set (i := 3) (blk_set (i := 2) (blk_set (i := 1) (blk_set (i := 0) hZ7.out (.int .i64 1)) (.string dt)) (.int .i64 0)) (.int .i64 0)) (.int .i64 0)) (.int .i64 0))
      go_wp2
      (try simp only [Exit.inBlock, Exit.then])
      refine bodyPost_ret (results_c rfl _ _ _ rfl (cn_load hfin.out)) rfl ?_
      refine ⟨rfl, ?_, ?_⟩
      · exact blk_other (blk_other (blk_other (blk_other (blk_other (blk_other hR7.out _ _ hne2) _ _ hne2) _ _ hne2) _ _ hne2) _ _ hne2) _ _ hne2
      · exact (((((hK7.out.setCell (a := ⟨zb, 0, none⟩) (.inr hle) _).setCell (a := ⟨zb, 1, none⟩) (.inr hle) _).setCell (a := ⟨zb, 2, none⟩) (.inr hle) _).setCell (a := ⟨zb, 3, none⟩) (.inr hle) _).setCell (a := ⟨zb, 4, none⟩) (.inr hle) _).setCell (a := ⟨zb, 5, none⟩) (.inr hle) _
    · have heb : (e3 == 0) = false := by simp [he]
      rw [if_neg he] at hF
      have hFe : (FC, Fs, Fe) = (⟨1, dt, 0, 0, 0, 0⟩, s3, e3) := hF
      injection hFe with h1 h2
      injection h2 with h2 h3
      subst h1 h2 h3
      clear hF
      have hR7 := Lib.hid (show Rd (w5.setCell ⟨cb, 1, none⟩ (.string dt)) rb Fs Fe from blk_other hR5.out _ _ hne1)
      have hZ7 := Lib.hid (blk_other hZ5.out ⟨cb, 1, none⟩ (.string dt) hne3)
      have hC7 := Lib.hid (blk_set (i := 1) hC5.out (.string dt))
      have hK7 := Lib.hid (hKd.out.setCell (a := ⟨cb, 1, none⟩) (.inr hle2) (.string dt))
      clear hR5 hKd hC7
      obtain ⟨c0, c1, c2, c3, c4, c5⟩ := cells6m hC5.out
      obtain ⟨d0, d1, d2, d3, d4, d5⟩ := cells6m hZ5.out
      obtain ⟨f0, f1, f2, f3, f4, f5⟩ := frz6m hZ5.out
      have hlcc := blk_lt hC5.out
      have hlzz := blk_lt hZ5.out
      have hfin := Lib.hid (blk_set (i := 5) (blk_set (i := 4) (blk_set (i := 3) (blk_set (i := 2) (blk_set (i := 1) (blk_set (i := 0) hZ7.out (.int .i64 1)) (.string dt)) (.int .i64 0)) (.int .i64 0)) (.int .i64 0)) (.int .i64 0))
      go_wp2
      (try simp only [Exit.inBlock, Exit.then])
      refine bodyPost_ret (results_c rfl _ _ _ rfl (cn_load hfin.out)) rfl ?_
      refine ⟨rfl, ?_, ?_⟩
      · exact blk_other (blk_other (blk_other (blk_other (blk_other (blk_other hR7.out _ _ hne2) _ _ hne2) _ _ hne2) _ _ hne2) _ _ hne2) _ _ hne2
      · exact (((((hK7.out.setCell (a := ⟨zb, 0, none⟩) (.inr hle) _).setCell (a := ⟨zb, 1, none⟩) (.inr hle) _).setCell (a := ⟨zb, 2, none⟩) (.inr hle) _).setCell (a := ⟨zb, 3, none⟩) (.inr hle) _).setCell (a := ⟨zb, 4, none⟩) (.inr hle) _).setCell (a := ⟨zb, 5, none⟩) (.inr hle) _
  by_cases ht2 : t = 2
  · subst ht2
    have hF := hHF.out
    rw [if_neg (by decide), if_pos rfl] at hF
    clear hHF
    have kn := Lib.hid (number_any rb s1 e1 8 W2 hR2.out hs1 (by decide))
    generalize Sp.numR s1 e1 8 = N at *
    obtain ⟨v, s2, e2⟩ := N
    simp only [] at kn hF
    injection hF with h1 h2
    injection h2 with h2 h3
    subst h1 h2 h3
    have d0 := (blk_cell hC2.out 0 _ rfl).1
    go_wp2_with fail
    refine kn.out.mono ?_
    rintro x w3 ⟨rfl, hR3, hK3⟩
    have hZ3 := Lib.hid (hK3.obj hZ2.out (fun q => hne2 q.symm))
    have hC3 := Lib.hid (hK3.obj hC2.out (fun q => hne1 q.symm))
    have hKb := Lib.hid (hK2.out.trans hK3)
    clear kn hR2 hZ2 hC2 hK2 hK3 d0
    obtain ⟨q1, p1⟩ := blk_cell hC3.out 2 _ rfl
    have hlc3 := blk_lt hC3.out
    have hR7 := Lib.hid (show Rd (w3.setCell ⟨cb, 2, none⟩ (.int .i64 v)) rb Fs Fe from blk_other hR3 _ _ hne1)
    have hZ7 := Lib.hid (blk_other hZ3.out ⟨cb, 2, none⟩ (.int .i64 v) hne3)
    have hC7 := Lib.hid (blk_set (i := 2) hC3.out (.int .i64 v))
    have hK7 := Lib.hid (hKb.out.setCell (a := ⟨cb, 2, none⟩) (.inr hle2) (.int .i64 v))
    clear hR3 hKb hC7
    obtain ⟨c0, c1, c2, c3, c4, c5⟩ := cells6m hC3.out
    obtain ⟨d0, d1, d2, d3, d4, d5⟩ := cells6m hZ3.out
    obtain ⟨f0, f1, f2, f3, f4, f5⟩ := frz6m hZ3.out
    have hlcc := blk_lt hC3.out
    have hlzz := blk_lt hZ3.out
    have hfin := Lib.hid (blk_set (i := 5) (blk_set (i := 4) (blk_set (i := 3) (blk_set (i := 2) (blk_set (i := 1) (blk_set (i := 0) hZ7.out (.int .i64 2)) (.string ⟨#[]⟩)) (.int .i64 v)) (.int .i64 0)) (.int .i64 0)) (.int .i64 0))
    go_wp2
    (try simp only [Exit.inBlock, Exit.then])
    refine bodyPost_ret (results_c rfl _ _ _ rfl (cn_load hfin.out)) rfl ?_
    refine ⟨rfl, ?_, ?_⟩
    · exact blk_other (blk_other (blk_other (blk_other (blk_other (blk_other hR7.out _ _ hne2) _ _ hne2) _ _ hne2) _ _ hne2) _ _ hne2) _ _ hne2
    · exact (((((hK7.out.setCell (a := ⟨zb, 0, none⟩) (.inr hle) _).setCell (a := ⟨zb, 1, none⟩) (.inr hle) _).setCell (a := ⟨zb, 2, none⟩) (.inr hle) _).setCell (a := ⟨zb, 3, none⟩) (.inr hle) _).setCell (a := ⟨zb, 4, none⟩) (.inr hle) _).setCell (a := ⟨zb, 5, none⟩) (.inr hle) _
  by_cases ht3 : t = 3 ∨ t = 4 ∨ t = 7
  · have hts := ht3
    have hF := hHF.out
    rw [if_neg ht1, if_neg ht2, if_pos ht3] at hF
    clear hHF ht1 ht2 ht3
    have hL := Lib.hid (show Sp.listR 1 s1 e1 = ([(Sp.numR s1 e1 2).1], (Sp.numR s1 e1 2).2) from rfl)
    generalize Sp.numR s1 e1 2 = N at *
    obtain ⟨v, s2, e2⟩ := N
    simp only [] at hL hF
    injection hF with h1 h2
    injection h2 with h2 h3
    subst h1 h2 h3
    have hq0 : True := trivial
    have hLw := blk_lt hC2.out
    have kl := Lib.hid (list_any rb cb W2.heap.size s1 e1 [3] _ 58 108 1 1 (W2.alloc (.cells (ptrC cb [3]) 108)) (blk_old hR2.out) (blk_old hC2.out) (blk_new _ _) hne1 (by omega) (by omega) (by simp) rfl (by decide) hs1)
    have hZa := Lib.hid (blk_old (o := .cells (ptrC cb [3]) 108) hZ2.out)
    have hKa := Lib.hid (hK2.out.alloc (.cells (ptrC cb [3]) 108))
    unfold ptrC at kl hZa hKa
    simp only [List.map_cons, List.map_nil] at kl hZa hKa
    rw [hL.out] at kl
    simp only [Sp.putC] at kl
    clear hL
    rcases hts with rfl | rfl | rfl
    · -- tag 3
      have d0 := (blk_cell hC2.out 0 _ rfl).1
      go_wp2_with fail
      refine kl.out.mono ?_
      rintro x w3 ⟨rfl, hR3, hC3, hK3⟩
      have hZ3 := Lib.hid (hK3.obj hZa.out (by omega))
      have hKb := Lib.hid (hKa.out.then hK3 (fun i q => q.elim .inl (fun r => .inr (by omega))))
      have hR7 := Lib.hid hR3
      have hC8 := Lib.hid (show w3.heap[cb]? = some (.cells #[.int .i64 3, .string ⟨#[]⟩, .int .i64 0, .int .i64 v, .int .i64 0, .int .i64 0] 58 (0, 0)) from hC3)
      clear kl hR2 hZ2 hC2 hK2 hK3 d0 hR3 hC3 hZa hKa
      obtain ⟨c0, c1, c2, c3, c4, c5⟩ := cells6m hC8.out
      obtain ⟨d0, d1, d2, d3, d4, d5⟩ := cells6m hZ3.out
      obtain ⟨f0, f1, f2, f3, f4, f5⟩ := frz6m hZ3.out
      have hlcc := blk_lt hC8.out
      have hlzz := blk_lt hZ3.out
      have hfin := Lib.hid (blk_set (i := 5) (blk_set (i := 4) (blk_set (i := 3) (blk_set (i := 2) (blk_set (i := 1) (blk_set (i := 0) hZ3.out (.int .i64 3)) (.string ⟨#[]⟩)) (.int .i64 0)) (.int .i64 v)) (.int .i64 0)) (.int .i64 0))
      go_wp2
      (try simp only [Exit.inBlock, Exit.then])
      refine bodyPost_ret (results_c rfl _ _ _ rfl (cn_load hfin.out)) rfl ?_
      refine ⟨rfl, ?_, ?_⟩
      · exact blk_other (blk_other (blk_other (blk_other (blk_other (blk_other hR7.out _ _ hne2) _ _ hne2) _ _ hne2) _ _ hne2) _ _ hne2) _ _ hne2
      · exact (((((hKb.out.setCell (a := ⟨zb, 0, none⟩) (.inr hle) _).setCell (a := ⟨zb, 1, none⟩) (.inr hle) _).setCell (a := ⟨zb, 2, none⟩) (.inr hle) _).setCell (a := ⟨zb, 3, none⟩) (.inr hle) _).setCell (a := ⟨zb, 4, none⟩) (.inr hle) _).setCell (a := ⟨zb, 5, none⟩) (.inr hle) _
    · -- tag 4
      have d0 := (blk_cell hC2.out 0 _ rfl).1
      go_wp2_with fail
      refine kl.out.mono ?_
      rintro x w3 ⟨rfl, hR3, hC3, hK3⟩
      have hZ3 := Lib.hid (hK3.obj hZa.out (by omega))
      have hKb := Lib.hid (hKa.out.then hK3 (fun i q => q.elim .inl (fun r => .inr (by omega))))
      have hR7 := Lib.hid hR3
      have hC8 := Lib.hid (show w3.heap[cb]? = some (.cells #[.int .i64 4, .string ⟨#[]⟩, .int .i64 0, .int .i64 v, .int .i64 0, .int .i64 0] 58 (0, 0)) from hC3)
      clear kl hR2 hZ2 hC2 hK2 hK3 d0 hR3 hC3 hZa hKa
      obtain ⟨c0, c1, c2, c3, c4, c5⟩ := cells6m hC8.out
      obtain ⟨d0, d1, d2, d3, d4, d5⟩ := cells6m hZ3.out
      obtain ⟨f0, f1, f2, f3, f4, f5⟩ := frz6m hZ3.out
      have hlcc := blk_lt hC8.out
      have hlzz := blk_lt hZ3.out
      have hfin := Lib.hid (blk_set (i := 5) (blk_set (i := 4) (blk_set (i := 3) (blk_set (i := 2) (blk_set (i := 1) (blk_set (i := 0) hZ3.out (.int .i64 4)) (.string ⟨#[]⟩)) (.int .i64 0)) (.int .i64 v)) (.int .i64 0)) (.int .i64 0))
      go_wp2
      (try simp only [Exit.inBlock, Exit.then])
      refine bodyPost_ret (results_c rfl _ _ _ rfl (cn_load hfin.out)) rfl ?_
      refine ⟨rfl, ?_, ?_⟩
      · exact blk_other (blk_other (blk_other (blk_other (blk_other (blk_other hR7.out _ _ hne2) _ _ hne2) _ _ hne2) _ _ hne2) _ _ hne2) _ _ hne2
      · exact (((((hKb.out.setCell (a := ⟨zb, 0, none⟩) (.inr hle) _).setCell (a := ⟨zb, 1, none⟩) (.inr hle) _).setCell (a := ⟨zb, 2, none⟩) (.inr hle) _).setCell (a := ⟨zb, 3, none⟩) (.inr hle) _).setCell (a := ⟨zb, 4, none⟩) (.inr hle) _).setCell (a := ⟨zb, 5, none⟩) (.inr hle) _
    · -- tag 7
      have d0 := (blk_cell hC2.out 0 _ rfl).1
      go_wp2_with fail
      refine kl.out.mono ?_
      rintro x w3 ⟨rfl, hR3, hC3, hK3⟩
      have hZ3 := Lib.hid (hK3.obj hZa.out (by omega))
      have hKb := Lib.hid (hKa.out.then hK3 (fun i q => q.elim .inl (fun r => .inr (by omega))))
      have hR7 := Lib.hid hR3
      have hC8 := Lib.hid (show w3.heap[cb]? = some (.cells #[.int .i64 7, .string ⟨#[]⟩, .int .i64 0, .int .i64 v, .int .i64 0, .int .i64 0] 58 (0, 0)) from hC3)
      clear kl hR2 hZ2 hC2 hK2 hK3 d0 hR3 hC3 hZa hKa
      obtain ⟨c0, c1, c2, c3, c4, c5⟩ := cells6m hC8.out
      obtain ⟨d0, d1, d2, d3, d4, d5⟩ := cells6m hZ3.out
      obtain ⟨f0, f1, f2, f3, f4, f5⟩ := frz6m hZ3.out
      have hlcc := blk_lt hC8.out
      have hlzz := blk_lt hZ3.out
      have hfin := Lib.hid (blk_set (i := 5) (blk_set (i := 4) (blk_set (i := 3) (blk_set (i := 2) (blk_set (i := 1) (blk_set (i := 0) hZ3.out (.int .i64 7)) (.string ⟨#[]⟩)) (.int .i64 0)) (.int .i64 v)) (.int .i64 0)) (.int .i64 0))
      go_wp2
      (try simp only [Exit.inBlock, Exit.then])
      refine bodyPost_ret (results_c rfl _ _ _ rfl (cn_load hfin.out)) rfl ?_
      refine ⟨rfl, ?_, ?_⟩
      · exact blk_other (blk_other (blk_other (blk_other (blk_other (blk_other hR7.out _ _ hne2) _ _ hne2) _ _ hne2) _ _ hne2) _ _ hne2) _ _ hne2
      · exact (((((hKb.out.setCell (a := ⟨zb, 0, none⟩) (.inr hle) _).setCell (a := ⟨zb, 1, none⟩) (.inr hle) _).setCell (a := ⟨zb, 2, none⟩) (.inr hle) _).setCell (a := ⟨zb, 3, none⟩) (.inr hle) _).setCell (a := ⟨zb, 4, none⟩) (.inr hle) _).setCell (a := ⟨zb, 5, none⟩) (.inr hle) _
  by_cases ht5 : t = 5 ∨ t = 6
  · have hts := ht5
    have hF := hHF.out
    rw [if_neg ht1, if_neg ht2, if_neg ht3, if_pos ht5] at hF
    clear hHF ht1 ht2 ht3 ht5
    have hL := Lib.hid (show Sp.listR 3 s1 e1 = ([(Sp.numR s1 e1 2).1, (Sp.numR (Sp.numR s1 e1 2).2.1 (Sp.numR s1 e1 2).2.2 2).1, (Sp.numR (Sp.numR (Sp.numR s1 e1 2).2.1 (Sp.numR s1 e1 2).2.2 2).2.1 (Sp.numR (Sp.numR s1 e1 2).2.1 (Sp.numR s1 e1 2).2.2 2).2.2 2).1], (Sp.numR (Sp.numR (Sp.numR s1 e1 2).2.1 (Sp.numR s1 e1 2).2.2 2).2.1 (Sp.numR (Sp.numR s1 e1 2).2.1 (Sp.numR s1 e1 2).2.2 2).2.2 2).2) from rfl)
    generalize Sp.numR s1 e1 2 = N at *
    obtain ⟨v, s2, e2⟩ := N
    simp only [] at hL hF
    generalize Sp.numR s2 e2 2 = N at *
    obtain ⟨u, s3, e3⟩ := N
    simp only [] at hL hF
    generalize Sp.numR s3 e3 2 = N at *
    obtain ⟨z, s4, e4⟩ := N
    simp only [] at hL hF
    injection hF with h1 h2
    injection h2 with h2 h3
    subst h1 h2 h3
    have hq0 : True := trivial
    have hLw := blk_lt hC2.out
    have kl := Lib.hid (list_any rb cb W2.heap.size s1 e1 [3, 4, 5] _ 58 108 3 3 (W2.alloc (.cells (ptrC cb [3, 4, 5]) 108)) (blk_old hR2.out) (blk_old hC2.out) (blk_new _ _) hne1 (by omega) (by omega) (by simp) rfl (by decide) hs1)
    have hZa := Lib.hid (blk_old (o := .cells (ptrC cb [3, 4, 5]) 108) hZ2.out)
    have hKa := Lib.hid (hK2.out.alloc (.cells (ptrC cb [3, 4, 5]) 108))
    unfold ptrC at kl hZa hKa
    simp only [List.map_cons, List.map_nil] at kl hZa hKa
    rw [hL.out] at kl
    simp only [Sp.putC] at kl
    clear hL
    rcases hts with rfl | rfl
    · -- tag 5
      have d0 := (blk_cell hC2.out 0 _ rfl).1
      go_wp2_with fail
      refine kl.out.mono ?_
      rintro x w3 ⟨rfl, hR3, hC3, hK3⟩
      have hZ3 := Lib.hid (hK3.obj hZa.out (by omega))
      have hKb := Lib.hid (hKa.out.then hK3 (fun i q => q.elim .inl (fun r => .inr (by omega))))
      have hR7 := Lib.hid hR3
      have hC8 := Lib.hid (show w3.heap[cb]? = some (.cells #[.int .i64 5, .string ⟨#[]⟩, .int .i64 0, .int .i64 v, .int .i64 u, .int .i64 z] 58 (0, 0)) from hC3)
      clear kl hR2 hZ2 hC2 hK2 hK3 d0 hR3 hC3 hZa hKa
      obtain ⟨c0, c1, c2, c3, c4, c5⟩ := cells6m hC8.out
      obtain ⟨d0, d1, d2, d3, d4, d5⟩ := cells6m hZ3.out
      obtain ⟨f0, f1, f2, f3, f4, f5⟩ := frz6m hZ3.out
      have hlcc := blk_lt hC8.out
      have hlzz := blk_lt hZ3.out
      have hfin := Lib.hid (blk_set (i := 5) (blk_set (i := 4) (blk_set (i := 3) (blk_set (i := 2) (blk_set (i := 1) (blk_set (i := 0) hZ3.out (.int .i64 5)) (.string ⟨#[]⟩)) (.int .i64 0)) (.int .i64 v)) (.int .i64 u)) (.int .i64 z))
      go_wp2
      (try simp only [Exit.inBlock, Exit.then])
      refine bodyPost_ret (results_c rfl _ _ _ rfl (cn_load hfin.out)) rfl ?_
      refine ⟨rfl, ?_, ?_⟩
      · exact blk_other (blk_other (blk_other (blk_other (blk_other (blk_other hR7.out _ _ hne2) _ _ hne2) _ _ hne2) _ _ hne2) _ _ hne2) _ _ hne2
      · exact (((((hKb.out.setCell (a := ⟨zb, 0, none⟩) (.inr hle) _).setCell (a := ⟨zb, 1, none⟩) (.inr hle) _).setCell (a := ⟨zb, 2, none⟩) (.inr hle) _).setCell (a := ⟨zb, 3, none⟩) (.inr hle) _).setCell (a := ⟨zb, 4, none⟩) (.inr hle) _).setCell (a := ⟨zb, 5, none⟩) (.inr hle) _
    · -- tag 6
      have d0 := (blk_cell hC2.out 0 _ rfl).1
      go_wp2_with fail
      refine kl.out.mono ?_
      rintro x w3 ⟨rfl, hR3, hC3, hK3⟩
      have hZ3 := Lib.hid (hK3.obj hZa.out (by omega))
      have hKb := Lib.hid (hKa.out.then hK3 (fun i q => q.elim .inl (fun r => .inr (by omega))))
      have hR7 := Lib.hid hR3
      have hC8 := Lib.hid (show w3.heap[cb]? = some (.cells #[.int .i64 6, .string ⟨#[]⟩, .int .i64 0, .int .i64 v, .int .i64 u, .int .i64 z] 58 (0, 0)) from hC3)
      clear kl hR2 hZ2 hC2 hK2 hK3 d0 hR3 hC3 hZa hKa
      obtain ⟨c0, c1, c2, c3, c4, c5⟩ := cells6m hC8.out
      obtain ⟨d0, d1, d2, d3, d4, d5⟩ := cells6m hZ3.out
      obtain ⟨f0, f1, f2, f3, f4, f5⟩ := frz6m hZ3.out
      have hlcc := blk_lt hC8.out
      have hlzz := blk_lt hZ3.out
      have hfin := Lib.hid (blk_set (i := 5) (blk_set (i := 4) (blk_set (i := 3) (blk_set (i := 2) (blk_set (i := 1) (blk_set (i := 0) hZ3.out (.int .i64 6)) (.string ⟨#[]⟩)) (.int .i64 0)) (.int .i64 v)) (.int .i64 u)) (.int .i64 z))
      go_wp2
      (try simp only [Exit.inBlock, Exit.then])
      refine bodyPost_ret (results_c rfl _ _ _ rfl (cn_load hfin.out)) rfl ?_
      refine ⟨rfl, ?_, ?_⟩
      · exact blk_other (blk_other (blk_other (blk_other (blk_other (blk_other hR7.out _ _ hne2) _ _ hne2) _ _ hne2) _ _ hne2) _ _ hne2) _ _ hne2
      · exact (((((hKb.out.setCell (a := ⟨zb, 0, none⟩) (.inr hle) _).setCell (a := ⟨zb, 1, none⟩) (.inr hle) _).setCell (a := ⟨zb, 2, none⟩) (.inr hle) _).setCell (a := ⟨zb, 3, none⟩) (.inr hle) _).setCell (a := ⟨zb, 4, none⟩) (.inr hle) _).setCell (a := ⟨zb, 5, none⟩) (.inr hle) _
  have hF := hHF.out
  rw [if_neg ht1, if_neg ht2, if_neg ht3, if_neg ht5] at hF
  clear hHF
  simp only [not_or] at ht3 ht5
  obtain ⟨h3, h4, h7⟩ := ht3
  obtain ⟨h5, h6⟩ := ht5
  have b1 : (t == 1) = false := by simp [ht1]
  have b2 : (t == 2) = false := by simp [ht2]
  have b3 : (t == 3) = false := by simp [h3]
  have b4 : (t == 4) = false := by simp [h4]
  have b5 : (t == 5) = false := by simp [h5]
  have b6 : (t == 6) = false := by simp [h6]
  have b7 : (t == 7) = false := by simp [h7]
  have d0 := (blk_cell hC2.out 0 _ rfl).1
  obtain ⟨r1, g1⟩ := blk_cell hR2.out 1 _ rfl
  injection hF with h1 h2
  injection h2 with h2 h3'
  subst h1 h2
  clear ht1 ht2 h3 h4 h5 h6 h7
  by_cases he : e1 = 0
  · subst he
    rw [if_pos rfl] at h3'
    subst h3'
    have hR7 := Lib.hid (show Rd (W2.setCell ⟨rb, 1, none⟩ (.int .i64 4)) rb Fs 4 from blk_set (i := 1) hR2.out (.int .i64 4))
    have hZ7 := Lib.hid (blk_other hZ2.out ⟨rb, 1, none⟩ (.int .i64 4) (fun q => hne2 q.symm))
    have hC8 := Lib.hid (blk_other hC2.out ⟨rb, 1, none⟩ (.int .i64 4) (fun q => hne1 q.symm))
    have hK7 := Lib.hid (hK2.out.setCell (a := ⟨rb, 1, none⟩) (.inl rfl) (.int .i64 4))
    clear hR2 hK2 d0 hC8
    obtain ⟨c0, c1, c2, c3, c4, c5⟩ := cells6m hC2.out
    obtain ⟨d0, d1, d2, d3, d4, d5⟩ := cells6m hZ2.out
    obtain ⟨f0, f1, f2, f3, f4, f5⟩ := frz6m hZ2.out
    have hlcc := blk_lt hC2.out
    have hlzz := blk_lt hZ2.out
    have hfin := Lib.hid (blk_set (i := 5) (blk_set (i := 4) (blk_set (i := 3) (blk_set (i := 2) (blk_set (i := 1) (blk_set (i := 0) hZ7.out (.int .i64 t)) (.string ⟨#[]⟩)) (.int .i64 0)) (.int .i64 0)) (.int .i64 0)) (.int .i64 0))
    go_wp2
    (try simp only [Exit.inBlock, Exit.then])
    refine bodyPost_ret (results_c rfl _ _ _ rfl (cn_load hfin.out)) rfl ?_
    refine ⟨rfl, ?_, ?_⟩
    · exact blk_other (blk_other (blk_other (blk_other (blk_other (blk_other hR7.out _ _ hne2) _ _ hne2) _ _ hne2) _ _ hne2) _ _ hne2) _ _ hne2
    · exact (((((hK7.out.setCell (a := ⟨zb, 0, none⟩) (.inr hle) _).setCell (a := ⟨zb, 1, none⟩) (.inr hle) _).setCell (a := ⟨zb, 2, none⟩) (.inr hle) _).setCell (a := ⟨zb, 3, none⟩) (.inr hle) _).setCell (a := ⟨zb, 4, none⟩) (.inr hle) _).setCell (a := ⟨zb, 5, none⟩) (.inr hle) _
  · have heb : (e1 == 0) = false := by simp [he]
    rw [if_neg he] at h3'
    obtain rfl : e1 = Fe := h3'.symm
    have hR7 := hR2
    clear hR2 d0
    obtain ⟨c0, c1, c2, c3, c4, c5⟩ := cells6m hC2.out
    obtain ⟨d0, d1, d2, d3, d4, d5⟩ := cells6m hZ2.out
    obtain ⟨f0, f1, f2, f3, f4, f5⟩ := frz6m hZ2.out
    have hlcc := blk_lt hC2.out
    have hlzz := blk_lt hZ2.out
    have hfin := Lib.hid (blk_set (i := 5) (blk_set (i := 4) (blk_set (i := 3) (blk_set (i := 2) (blk_set (i := 1) (blk_set (i := 0) hZ2.out (.int .i64 t)) (.string ⟨#[]⟩)) (.int .i64 0)) (.int .i64 0)) (.int .i64 0)) (.int .i64 0))
    go_wp2
    (try simp only [Exit.inBlock, Exit.then])
    refine bodyPost_ret (results_c rfl _ _ _ rfl (cn_load hfin.out)) rfl ?_
    refine ⟨rfl, ?_, ?_⟩
    · exact blk_other (blk_other (blk_other (blk_other (blk_other (blk_other hR7.out _ _ hne2) _ _ hne2) _ _ hne2) _ _ hne2) _ _ hne2) _ _ hne2
    · exact (((((hK2.out.setCell (a := ⟨zb, 0, none⟩) (.inr hle) _).setCell (a := ⟨zb, 1, none⟩) (.inr hle) _).setCell (a := ⟨zb, 2, none⟩) (.inr hle) _).setCell (a := ⟨zb, 3, none⟩) (.inr hle) _).setCell (a := ⟨zb, 4, none⟩) (.inr hle) _).setCell (a := ⟨zb, 5, none⟩) (.inr hle) _
end Go.Proofs.YthpfknlgfkecpaaDoor
end
