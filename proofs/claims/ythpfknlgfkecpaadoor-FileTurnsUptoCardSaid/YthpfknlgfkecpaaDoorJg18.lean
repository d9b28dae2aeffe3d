/-
  Texts of the proof, joined: each says at its head what it proves.
-/
import Derived.Test.YthpfknlgfkecpaaDoorJg17
import Derived.Test.YthpfknlgfkecpaaDoorJg11
import Derived.Test.YthpfknlgfkecpaaDoorJFileNamesx2
section
/-
  Walk of chapter 3's Parse.
-/
set_option linter.unusedVariables false
set_option linter.unusedSimpArgs false
namespace Go.Proofs.YthpfknlgfkecpaaDoor
open Go.RowKit Go.Lib

def qZ : Sp.At := ⟨none, 0, none, 0, none, 0, none, 0⟩
def FZ : FlP := ⟨[], 0, 0, 0, [], [], []⟩
theorem rdF_zero (w : World) : RdF w qZ FZ := ⟨rdL_nil _ _ _, ⟨by simp [FZ], fun h => by simp [FZ] at h⟩, ⟨rdL_nil _ _ _, fun m hm => by simp [FZ] at hm⟩, ⟨rdL_nil _ _ _, fun m hm => by simp [FZ] at hm⟩⟩

theorem intC_numk (l : List Int) : l.flatMap intC = numk .i64 l := by
  induction l with
  | nil => rfl
  | cons a l ih => rw [List.flatMap_cons, ih]; rfl
theorem OwnM.mono {w : World} {B B' : Nat} {L : List Sp.Mp} (h : OwnM w B' L) (hb : B ≤ B') : OwnM w B L := fun m hm => own_mono (h m hm) hb
/-- What is parsed so far lies in rows of its own. -/
structure Pr (W : World) (B : Nat) (q : Sp.At) (F : FlP) : Prop where
  pool : W.ownsRow B 58 6 (.slice q.A F.pool.length q.c) F.pool.length (F.pool.flatMap Sp.cnC)
  ifs : W.ownsRow B 3 1 (.slice q.I F.ifaces.length q.d) F.ifaces.length (F.ifaces.flatMap intC)
  fields : W.ownsRow B 65 7 (.slice q.X F.fields.length q.e) F.fields.length (F.fields.flatMap Sp.mbC)
  fh : OwnM W B F.fields
  methods : W.ownsRow B 65 7 (.slice q.Y F.methods.length q.g) F.methods.length (F.methods.flatMap Sp.mbC)
  mh : OwnM W B F.methods
theorem Pr.nil (W : World) (B : Nat) (fl th su : Int) : Pr W B ⟨none, 0, none, 0, none, 0, none, 0⟩ ⟨[], fl, th, su, [], [], []⟩ :=
  ⟨World.ownsRow_nil _ _ _ _, World.ownsRow_nil _ _ _ _, World.ownsRow_nil _ _ _ _, fun m hm => by simp at hm, World.ownsRow_nil _ _ _ _, fun m hm => by simp at hm⟩
theorem Pr.keep {S : Nat → Prop} {W W' : World} {B : Nat} {q : Sp.At} {F : FlP} (h : Pr W B q F) (hk : Keeps S W W') (hS : ∀ i, B ≤ i → ¬ S i) : Pr W' B q F :=
  ⟨hk.row h.pool (fun k hq => hS k (own_base h.pool k hq)), hk.row h.ifs (fun k hq => hS k (own_base h.ifs k hq)), hk.row h.fields (fun k hq => hS k (own_base h.fields k hq)), h.fh.keep hk hS, hk.row h.methods (fun k hq => hS k (own_base h.methods k hq)), h.mh.keep hk hS⟩
theorem Pr.rd {W : World} {B : Nat} {q : Sp.At} {F : FlP} (h : Pr W B q F) : RdF W q F := by
  have hi := h.ifs
  rw [intC_numk] at hi
  exact ⟨(own_rdL Sp.cnC_len (by decide) h.pool).2, (own_rdN hi).2, ⟨(own_rdL Sp.mbC_len (by decide) h.fields).2, fun m hm => (own_rdL Sp.hnC_len (by decide) (h.fh m hm)).2⟩, ⟨(own_rdL Sp.mbC_len (by decide) h.methods).2, fun m hm => (own_rdL Sp.hnC_len (by decide) (h.mh m hm)).2⟩⟩

set_option maxHeartbeats 8000000 in
set_option maxRecDepth 100000 in
theorem fparse_any (b : ByteArray) (w : World) (hT : Tabs w) (hb : b.size ≤ 1099511627776) :
    Calls Tryd.prog 45 #[.string b] w fun x w' => ∃ q F, F.fl = (Sp.parseS b).1 ∧ x = .returned (.tuple #[.agg (flC q F), .int .i64 (Sp.parseS b).2]) ∧ RdF w' q F ∧ Below w.heap.size w w' := by
  by_cases hlong : 65536 < b.size
  · have hz : (65536 : Int) < (b.size : Int) := by omega
    rw [Sp.parseS, if_pos hlong]
    have hZ := Lib.hid (blk_new w (.cells #[.slice none 0 0, .int .i64 0, .int .i64 0, .int .i64 0, .slice none 0 0, .slice none 0 0, .slice none 0 0] 53))
    have hB := Lib.hid ((Keeps.refl (fun i => False) w).alloc (.cells #[.slice none 0 0, .int .i64 0, .int .i64 0, .int .i64 0, .slice none 0 0, .slice none 0 0, .slice none 0 0] 53))
    go_enter Tryd.func45, Tryd.ntmps45
    go_upto_region 1 with fail
    have hle : w.heap.size ≤ w.heap.size := Nat.le_refl _
    generalize w.alloc (.cells #[.slice none 0 0, .int .i64 0, .int .i64 0, .int .i64 0, .slice none 0 0, .slice none 0 0, .slice none 0 0] 53) = W1 at *
    generalize hzb : w.heap.size = zb at hZ hle ⊢
    obtain ⟨d0, d1, d2, d3, d4, d5, d6⟩ := cells7m hZ.out
    obtain ⟨f0, f1, f2, f3, f4, f5, f6⟩ := frz7m hZ.out
    have hlz := blk_lt hZ.out
    have hfin := Lib.hid (blk_set (i := 6) (blk_set (i := 5) (blk_set (i := 4) (blk_set (i := 3) (blk_set (i := 2) (blk_set (i := 1) (blk_set (i := 0) hZ.out (.slice none 0 0)) (.int .i64 0)) (.int .i64 0)) (.int .i64 0)) (.slice none 0 0)) (.slice none 0 0)) (.slice none 0 0))
    go_wp2
    (try simp only [Exit.inBlock, Exit.then])
    refine bodyPost_ret (results_ct rfl _ _ _ rfl (fl_load hfin.out)) rfl ?_
    refine ⟨qZ, FZ, rfl, rfl, rdF_zero _, ?_⟩
    have hle2 : w.heap.size ≤ zb := by omega
    have hK := (((((((hB.out.setCell (a := ⟨zb, 0, none⟩) (.inr hle2) (.slice none 0 0)).setCell (a := ⟨zb, 1, none⟩) (.inr hle2) (.int .i64 0)).setCell (a := ⟨zb, 2, none⟩) (.inr hle2) (.int .i64 0)).setCell (a := ⟨zb, 3, none⟩) (.inr hle2) (.int .i64 0)).setCell (a := ⟨zb, 4, none⟩) (.inr hle2) (.slice none 0 0)).setCell (a := ⟨zb, 5, none⟩) (.inr hle2) (.slice none 0 0)).setCell (a := ⟨zb, 6, none⟩) (.inr hle2) (.slice none 0 0))
    exact hK.below (by omega) (fun _ q => q.elim)
  · have hz : ¬ (65536 : Int) < (b.size : Int) := by omega
    rw [Sp.parseS, if_neg hlong]
    simp only []
    have hZ3 := Lib.hid (blk_old (o := .cells #[.pointer (some ⟨w.heap.size + 1, 0, none⟩)] 100) (blk_old (o := .cells #[.string b, .int .i64 0] 102) (blk_new w (.cells #[.slice none 0 0, .int .i64 0, .int .i64 0, .int .i64 0, .slice none 0 0, .slice none 0 0, .slice none 0 0] 53))))
    have hR3 := Lib.hid (blk_old (o := .cells #[.pointer (some ⟨w.heap.size + 1, 0, none⟩)] 100) (blk_new (w.alloc (.cells #[.slice none 0 0, .int .i64 0, .int .i64 0, .int .i64 0, .slice none 0 0, .slice none 0 0, .slice none 0 0] 53)) (.cells #[.string b, .int .i64 0] 102)))
    have hV3 := Lib.hid (blk_new ((w.alloc (.cells #[.slice none 0 0, .int .i64 0, .int .i64 0, .int .i64 0, .slice none 0 0, .slice none 0 0, .slice none 0 0] 53)).alloc (.cells #[.string b, .int .i64 0] 102)) (.cells #[.pointer (some ⟨w.heap.size + 1, 0, none⟩)] 100))
    have hK3 := Lib.hid ((((Keeps.refl (fun i => False) w).alloc (.cells #[.slice none 0 0, .int .i64 0, .int .i64 0, .int .i64 0, .slice none 0 0, .slice none 0 0, .slice none 0 0] 53)).alloc (.cells #[.string b, .int .i64 0] 102)).alloc (.cells #[.pointer (some ⟨w.heap.size + 1, 0, none⟩)] 100))
    rw [show ((w.alloc (.cells #[.slice none 0 0, .int .i64 0, .int .i64 0, .int .i64 0, .slice none 0 0, .slice none 0 0, .slice none 0 0] 53)).alloc (.cells #[.string b, .int .i64 0] 102)).heap.size = w.heap.size + 1 + 1 by simp] at hV3
    rw [show (w.alloc (.cells #[.slice none 0 0, .int .i64 0, .int .i64 0, .int .i64 0, .slice none 0 0, .slice none 0 0, .slice none 0 0] 53)).heap.size = w.heap.size + 1 by simp] at hR3
    have HE := Lib.hid (show Sp.headR b = _ by rw [Sp.headR])
    generalize Sp.headR b = H at *
    obtain ⟨s1, e1⟩ := H
    simp only [] at HE ⊢
    have hs1 : s1.size ≤ 1099511627776 := by
      have h1 : s1 = (Sp.takeR b 0 4).2.1 := congrArg Prod.fst HE.out
      have h2 := Sp.take_len b 0 4
      rw [h1]
      omega
    generalize hPP : Sp.doneR (Sp.bodyR s1 e1).1 (Sp.endR (Sp.bodyR s1 e1).2.1 (Sp.bodyR s1 e1).2.2) = PP
    have hok := Lib.hid (fun F h => Sp.body_ok s1 e1 F h)
    unfold Sp.bodyR at hPP hok
    simp only [] at hPP hok
    have kp := Lib.hid (fun W h => mconst_any (w.heap.size + 1) s1 e1 W h hs1)
    have z2 := Sp.manyN_len Sp.const_len 2 s1 e1
    generalize Sp.manyN Sp.constR 2 s1 e1 = M at *
    obtain ⟨pool, s2, e2⟩ := M
    simp only [] at hPP hok kp z2
    have kn1 := Lib.hid (fun W h => number_any (w.heap.size + 1) s2 e2 1 W h (by omega) (by decide))
    have z3 := Sp.num_len s2 e2 1
    generalize Sp.numR s2 e2 1 = M at *
    obtain ⟨fl, s3, e3⟩ := M
    simp only [] at hPP hok kn1 z3
    have kl := Lib.hid (fun fb tb C W h hC hT a1 a2 a3 ho => list_any (w.heap.size + 1) fb tb s3 e3 [2, 3] C 53 108 2 2 W h hC hT a1 a2 a3 ho rfl (by decide) (by omega))
    rw [show Sp.listR 2 s3 e3 = ([(Sp.numR s3 e3 2).1, (Sp.numR (Sp.numR s3 e3 2).2.1 (Sp.numR s3 e3 2).2.2 2).1], (Sp.numR (Sp.numR s3 e3 2).2.1 (Sp.numR s3 e3 2).2.2 2).2) from rfl] at kl
    have z4 := Sp.num_len s3 e3 2
    generalize Sp.numR s3 e3 2 = M at *
    obtain ⟨th, s4, e4⟩ := M
    simp only [] at hPP hok kl z4
    have z5 := Sp.num_len s4 e4 2
    generalize Sp.numR s4 e4 2 = M at *
    obtain ⟨su, s5, e5⟩ := M
    simp only [] at hPP hok kl z5
    have ki := Lib.hid (fun W vb T h hv hne => mint_any (w.heap.size + 1) vb s5 e5 T W h hv hne (by omega))
    have z6 := Sp.manyN_len (fun s e => Sp.num_len s e 2) 1 s5 e5
    generalize Sp.manyN (fun s e => Sp.numR s e 2) 1 s5 e5 = M at *
    obtain ⟨ifs, s6, e6⟩ := M
    simp only [] at hPP hok ki z6
    have kf := Lib.hid (fun W h => mfield_any (w.heap.size + 1) s6 e6 W h (by omega))
    have z7 := Sp.manyN_len Sp.field_len 1 s6 e6
    generalize Sp.manyN Sp.fieldR 1 s6 e6 = M at *
    obtain ⟨fds, s7, e7⟩ := M
    simp only [] at hPP hok kf z7
    have km := Lib.hid (fun W h => mmethod_any (w.heap.size + 1) s7 e7 W h (by omega))
    generalize Sp.manyN Sp.methodR 1 s7 e7 = M at *
    obtain ⟨mths, s8, e8⟩ := M
    simp only [] at hPP hok km
    clear z2 z3 z4 z5 z6 z7 hs1
    have HP := Lib.hid hPP
    clear hPP
    have htl := Sp.take_len b 0 4
    have kt := Lib.hid (fun W h => take_any (w.heap.size + 1) b 0 4 W h hb (by decide))
    generalize Sp.takeR b 0 4 = T at *
    obtain ⟨t, s0, e0⟩ := T
    simp only [] at kt HE htl
    go_enter Tryd.func45, Tryd.ntmps45
    go_upto_region 4 with fail
    generalize ((w.alloc (.cells #[.slice none 0 0, .int .i64 0, .int .i64 0, .int .i64 0, .slice none 0 0, .slice none 0 0, .slice none 0 0] 53)).alloc (.cells #[.string b, .int .i64 0] 102)).alloc (.cells #[.pointer (some ⟨w.heap.size + 1, 0, none⟩)] 100) = W3 at *
    have hw0 : w.heap.size ≤ w.heap.size := Nat.le_refl _
    generalize hzb : w.heap.size = zb at hZ3 hR3 hV3 kt hw0 kp kn1 kl ki kf km ⊢
    have hlv3 := blk_lt hV3.out
    obtain ⟨v0, g0⟩ := blk_cell hV3.out 0 _ rfl
    go_wp2_with fail
    refine (kt.out _ hR3.out).mono ?_
    rintro x w4 ⟨rfl, hR4, hK4⟩
    have hR5 := Lib.hid hR4
    have hV5 := Lib.hid (hK4.obj hV3.out (by omega))
    have hZ5 := Lib.hid (hK4.obj hZ3.out (by omega))
    have hK5 := Lib.hid (hK3.out.then hK4 (fun i q => .inr (by omega)))
    clear hR4 hK4 hR3 hV3 hZ3 hK3 kt v0 g0 hlv3
    go_upto_region 5 with fail
    have hlv5 := blk_lt hV5.out
    obtain ⟨v0, g0⟩ := blk_cell hV5.out 0 _ rfl
    obtain ⟨r1, g1⟩ := blk_cell hR5.out 1 _ rfl
    have hlr5 := blk_lt hR5.out
    go_cut [25] (fun x25 wx => x25 = .bool (decide (e0 = 0 ∧ t ≠ ⟨#[67, 82, 85, 88]⟩)) ∧ Hid (Rd wx (zb + 1) s0 e0) ∧ Hid (wx.heap[zb + 1 + 1]? = some (.cells #[.pointer (some ⟨zb + 1, 0, none⟩)] 100 (0, 0))) ∧ Hid (wx.heap[zb]? = some (.cells #[.slice none 0 0, .int .i64 0, .int .i64 0, .int .i64 0, .slice none 0 0, .slice none 0 0, .slice none 0 0] 53 (0, 0))) ∧ Hid (Keeps (fun i => False) w wx))
    case first =>
      by_cases he : e0 = 0
      · subst he
        by_cases ht : t = ⟨#[67, 82, 85, 88]⟩
        · subst ht
          go_wp2
          go_meet
          exact ⟨rfl, hR5, hV5, hZ5, hK5⟩
        · have ht2 : (t.toList == [67, 82, 85, 88]) = false := by rw [show ([67, 82, 85, 88] : List UInt8) = (⟨#[67, 82, 85, 88]⟩ : ByteArray).toList by decide +kernel, bytes_eqb]; exact decide_eq_false ht
          go_wp2
          go_meet
          refine ⟨?_, hR5, hV5, hZ5, hK5⟩
          first
            | rw [ht2, decide_eq_true (show (0 : Int) = 0 ∧ t ≠ ⟨#[67, 82, 85, 88]⟩ from ⟨rfl, ht⟩)]; rfl
            | (rw [ht2]; simp [ht]; done)
            | (simp [ht]; done)
            | exact congrArg Value.bool (decide_eq_true ⟨trivial, ht⟩).symm
      · have he2 : (e0 == 0) = false := by simp [he]
        go_wp2
        go_meet
        exact ⟨by simp [he], hR5, hV5, hZ5, hK5⟩
    case rest =>
      clear hR5 hV5 hZ5 hK5 v0 g0 r1 g1 hlv5 hlr5
      obtain ⟨rfl, hR5, hV5, hZ5, hK5⟩ := hcut
      go_upto_if 25 with fail
      go_cut [25] (fun x25 wx => Hid (Rd wx (zb + 1) s1 e1) ∧ Hid (wx.heap[zb + 1 + 1]? = some (.cells #[.pointer (some ⟨zb + 1, 0, none⟩)] 100 (0, 0))) ∧ Hid (wx.heap[zb]? = some (.cells #[.slice none 0 0, .int .i64 0, .int .i64 0, .int .i64 0, .slice none 0 0, .slice none 0 0, .slice none 0 0] 53 (0, 0))) ∧ Hid (Keeps (fun i => False) w wx))
      case first =>
        have hE := HE.out
        by_cases hq : e0 = 0 ∧ t ≠ ⟨#[67, 82, 85, 88]⟩
        · rw [if_pos hq] at hE
          injection hE with hE1 hE2
          have hd : decide (e0 = 0 ∧ t ≠ ⟨#[67, 82, 85, 88]⟩) = true := decide_eq_true hq
          rw [hd]
          subst hE1 hE2
          have hlv5 := blk_lt hV5.out
          obtain ⟨v0, g0⟩ := blk_cell hV5.out 0 _ rfl
          obtain ⟨r1, g1⟩ := blk_cell hR5.out 1 _ rfl
          have hlr5 := blk_lt hR5.out
          have hn1 : zb + 1 + 1 ≠ zb + 1 := by omega
          have hn2 : zb ≠ zb + 1 := by omega
          have hn3 : w.heap.size ≤ zb + 1 := by omega
          go_wp2
          go_meet
          exact ⟨Lib.hid (blk_set (i := 1) hR5.out (.int .i64 4)), Lib.hid (blk_other hV5.out ⟨zb + 1, 1, none⟩ _ hn1), Lib.hid (blk_other hZ5.out ⟨zb + 1, 1, none⟩ _ hn2), Lib.hid (hK5.out.setCell (a := ⟨zb + 1, 1, none⟩) (.inr hn3) _)⟩
        · rw [if_neg hq] at hE
          injection hE with hE1 hE2
          have hd : decide (e0 = 0 ∧ t ≠ ⟨#[67, 82, 85, 88]⟩) = false := decide_eq_false hq
          rw [hd]
          subst hE1 hE2
          go_wp2
          go_meet
          exact ⟨hR5, hV5, hZ5, hK5⟩
      case rest =>
        clear hR5 hV5 hZ5 hK5 HE htl
        obtain ⟨hR5, hV5, hZ5, hK5⟩ := hcut
        have hlz5 := blk_lt hZ5.out
        have hlv5 := blk_lt hV5.out
        have hR6 := Lib.hid (blk_old (o := .cells #[.slice none 0 0, .int .i64 0, .int .i64 0, .int .i64 0, .slice none 0 0, .slice none 0 0, .slice none 0 0] 53) hR5.out)
        have hV6 := Lib.hid (blk_old (o := .cells #[.slice none 0 0, .int .i64 0, .int .i64 0, .int .i64 0, .slice none 0 0, .slice none 0 0, .slice none 0 0] 53) hV5.out)
        have hZ6 := Lib.hid (blk_old (o := .cells #[.slice none 0 0, .int .i64 0, .int .i64 0, .int .i64 0, .slice none 0 0, .slice none 0 0, .slice none 0 0] 53) hZ5.out)
        have hF6 := Lib.hid (blk_new wc (.cells #[.slice none 0 0, .int .i64 0, .int .i64 0, .int .i64 0, .slice none 0 0, .slice none 0 0, .slice none 0 0] 53))
        have hK6 := Lib.hid (hK5.out.alloc (.cells #[.slice none 0 0, .int .i64 0, .int .i64 0, .int .i64 0, .slice none 0 0, .slice none 0 0, .slice none 0 0] 53))
        have hs6 : (wc.alloc (.cells #[.slice none 0 0, .int .i64 0, .int .i64 0, .int .i64 0, .slice none 0 0, .slice none 0 0, .slice none 0 0] 53)).heap.size = wc.heap.size + 1 := by simp
        clear hR5 hV5 hZ5 hK5
        go_upto_region 8 with fail
        generalize wc.alloc (.cells #[.slice none 0 0, .int .i64 0, .int .i64 0, .int .i64 0, .slice none 0 0, .slice none 0 0, .slice none 0 0] 53) = W6 at *
        generalize hfb : wc.heap.size = fb at *
        have hz6 : fb + 1 ≤ W6.heap.size := by omega
        have hn1 : zb + 1 ≠ fb := by omega
        have hn2 : zb + 1 + 1 ≠ fb := by omega
        have hG6 := Lib.hid (Keeps.refl (fun i => i = zb + 1 ∨ i = fb) W6)
        have hP6 : Hid (Pr W6 (fb + 1) ⟨none, 0, none, 0, none, 0, none, 0⟩ ⟨[], fl, th, su, [], [], []⟩) := Lib.hid (Pr.nil W6 (fb + 1) fl th su)
        obtain ⟨v0, g0⟩ := blk_cell hV6.out 0 _ rfl
        have hlv := blk_lt hV6.out
        go_wp2_with fail
        refine (kp.out _ hR6.out).mono ?_
        rintro x w8 ⟨A1, c1, rfl, hrow, hRc, hKc⟩
        have hVc := Lib.hid (hKc.obj hV6.out (by omega))
        have hGc := Lib.hid (hG6.out.then hKc (fun i q => .inl (.inl q)))
        have hFc := Lib.hid (hKc.obj hF6.out (by omega))
        have hPk := Lib.hid (hP6.out.keep hKc (fun i hi q => by omega))
        have hPc : Hid (Pr w8 (fb + 1) ⟨A1, c1, none, 0, none, 0, none, 0⟩ ⟨pool, fl, th, su, [], [], []⟩) := Lib.hid ⟨own_mono hrow (by omega), hPk.out.ifs, hPk.out.fields, hPk.out.fh, hPk.out.methods, hPk.out.mh⟩
        obtain ⟨d0, f0⟩ := blk_cell hFc.out 0 _ rfl
        have hlf := blk_lt hFc.out
        have hF8 := Lib.hid (show (w8.setCell ⟨fb, 0, none⟩ (.slice A1 pool.length c1)).heap[fb]? = some (.cells #[.slice A1 pool.length c1, .int .i64 0, .int .i64 0, .int .i64 0, .slice none 0 0, .slice none 0 0, .slice none 0 0] 53 (0, 0)) from blk_set (i := 0) hFc.out (.slice A1 pool.length c1))
        have hR8 := Lib.hid (show Rd (w8.setCell ⟨fb, 0, none⟩ (.slice A1 pool.length c1)) (zb + 1) s2 e2 from blk_other hRc ⟨fb, 0, none⟩ (.slice A1 pool.length c1) hn1)
        have hV8 := Lib.hid (blk_other hVc.out ⟨fb, 0, none⟩ (.slice A1 pool.length c1) hn2)
        have hG8 := Lib.hid (hGc.out.setCell (a := ⟨fb, 0, none⟩) (.inl (.inr rfl)) (.slice A1 pool.length c1))
        have hP8 := Lib.hid (hPc.out.keep ((Keeps.refl (fun i => i = fb) w8).setCell (a := ⟨fb, 0, none⟩) (.inl rfl) (.slice A1 pool.length c1)) (fun i hi q => by omega))
        have hz8 : fb + 1 ≤ (w8.setCell ⟨fb, 0, none⟩ (.slice A1 pool.length c1)).heap.size := by rw [← hs6]; exact hG8.out.size
        clear hRc hKc hVc hGc hFc hPk hPc v0 g0 hlv
        clear hR6 hV6 hF6 hG6 hP6 hz6
        go_upto_region 9 with fail
        clear d0 f0 hlf
        generalize w8.setCell ⟨fb, 0, none⟩ (.slice A1 pool.length c1) = W8 at *
        obtain ⟨v0, g0⟩ := blk_cell hV8.out 0 _ rfl
        have hlv := blk_lt hV8.out
        go_wp2_with fail
        refine (kn1.out _ hR8.out).mono ?_
        rintro x w9 ⟨rfl, hRc, hKc⟩
        have hVc := Lib.hid (hKc.obj hV8.out (by omega))
        have hGc := Lib.hid (hG8.out.then hKc (fun i q => .inl (.inl q)))
        have hFc := Lib.hid (hKc.obj hF8.out (by omega))
        have hPk := Lib.hid (hP8.out.keep hKc (fun i hi q => by omega))
        have hPc : Hid (Pr w9 (fb + 1) ⟨A1, c1, none, 0, none, 0, none, 0⟩ ⟨pool, fl, th, su, [], [], []⟩) := Lib.hid hPk.out
        obtain ⟨d0, f0⟩ := blk_cell hFc.out 1 _ rfl
        have hlf := blk_lt hFc.out
        have hF9 := Lib.hid (show (w9.setCell ⟨fb, 1, none⟩ (.int .i64 fl)).heap[fb]? = some (.cells #[.slice A1 pool.length c1, .int .i64 fl, .int .i64 0, .int .i64 0, .slice none 0 0, .slice none 0 0, .slice none 0 0] 53 (0, 0)) from blk_set (i := 1) hFc.out (.int .i64 fl))
        have hR9 := Lib.hid (show Rd (w9.setCell ⟨fb, 1, none⟩ (.int .i64 fl)) (zb + 1) s3 e3 from blk_other hRc ⟨fb, 1, none⟩ (.int .i64 fl) hn1)
        have hV9 := Lib.hid (blk_other hVc.out ⟨fb, 1, none⟩ (.int .i64 fl) hn2)
        have hG9 := Lib.hid (hGc.out.setCell (a := ⟨fb, 1, none⟩) (.inl (.inr rfl)) (.int .i64 fl))
        have hP9 := Lib.hid (hPc.out.keep ((Keeps.refl (fun i => i = fb) w9).setCell (a := ⟨fb, 1, none⟩) (.inl rfl) (.int .i64 fl)) (fun i hi q => by omega))
        have hz9 : fb + 1 ≤ (w9.setCell ⟨fb, 1, none⟩ (.int .i64 fl)).heap.size := by rw [← hs6]; exact hG9.out.size
        clear hRc hKc hVc hGc hFc hPk hPc v0 g0 hlv
        clear hR8 hV8 hF8 hG8 hP8 hz8
        go_upto_region 10 with fail
        clear d0 f0 hlf
        generalize w9.setCell ⟨fb, 1, none⟩ (.int .i64 fl) = W9 at *
        obtain ⟨v0, g0⟩ := blk_cell hV9.out 0 _ rfl
        have hlv := blk_lt hV9.out
        have hlf := blk_lt hF9.out
        have kl2 := Lib.hid (kl.out fb W9.heap.size #[.slice A1 pool.length c1, .int .i64 fl, .int .i64 0, .int .i64 0, .slice none 0 0, .slice none 0 0, .slice none 0 0] (W9.alloc (.cells (ptrC fb [2, 3]) 108)) (blk_old hR9.out) (blk_old hF9.out) (blk_new _ _) (by omega) (by omega) (by omega) (by simp))
        have hV9a := Lib.hid (blk_old (o := .cells (ptrC fb [2, 3]) 108) hV9.out)
        have hG9a := Lib.hid (hG9.out.alloc (.cells (ptrC fb [2, 3]) 108))
        have hP9a := Lib.hid (hP9.out.keep ((Keeps.refl (fun i => i = fb) W9).alloc (.cells (ptrC fb [2, 3]) 108)) (fun i hi q => by omega))
        unfold ptrC at kl2 hV9a hG9a hP9a
        simp only [List.map_cons, List.map_nil] at kl2 hV9a hG9a hP9a
        simp only [Sp.putC] at kl2
        go_wp2_with fail
        refine kl2.out.mono ?_
        rintro x W10 ⟨rfl, hRc, hFc, hKc⟩
        have hV10 := Lib.hid (hKc.obj hV9a.out (by omega))
        have hG10 := Lib.hid (hG9a.out.then hKc (fun i q => .inl q))
        have hP10 := Lib.hid (hP9a.out.keep hKc (fun i hi q => by omega))
        have hR10 := Lib.hid hRc
        have hF10 := Lib.hid (show W10.heap[fb]? = some (.cells #[.slice A1 pool.length c1, .int .i64 fl, .int .i64 th, .int .i64 su, .slice none 0 0, .slice none 0 0, .slice none 0 0] 53 (0, 0)) from hFc)
        have hz10 : fb + 1 ≤ W10.heap.size := by rw [← hs6]; exact hG10.out.size
        clear hRc hFc hKc kl2 hV9a hG9a hP9a hR9 hV9 hF9 hG9 hP9 hz9 v0 g0 hlv hlf
        go_upto_region 11 with fail
        obtain ⟨v0, g0⟩ := blk_cell hV10.out 0 _ rfl
        have hlv := blk_lt hV10.out
        have kc := Lib.hid (ki.out W10 (zb + 1 + 1) _ hR10.out hV10.out (by omega))
        go_wp2_with fail
        refine (kc.out).mono ?_
        rintro x w11 ⟨A2, c2, rfl, hrow, hRc, hKc⟩
        have hVc := Lib.hid (hKc.obj hV10.out (by omega))
        have hGc := Lib.hid (hG10.out.then hKc (fun i q => .inl (.inl q)))
        have hFc := Lib.hid (hKc.obj hF10.out (by omega))
        have hPk := Lib.hid (hP10.out.keep hKc (fun i hi q => by omega))
        have hPc : Hid (Pr w11 (fb + 1) ⟨A1, c1, A2, c2, none, 0, none, 0⟩ ⟨pool, fl, th, su, ifs, [], []⟩) := Lib.hid ⟨hPk.out.pool, own_mono hrow (by omega), hPk.out.fields, hPk.out.fh, hPk.out.methods, hPk.out.mh⟩
        obtain ⟨d0, f0⟩ := blk_cell hFc.out 4 _ rfl
        have hlf := blk_lt hFc.out
        have hF11 := Lib.hid (show (w11.setCell ⟨fb, 4, none⟩ (.slice A2 ifs.length c2)).heap[fb]? = some (.cells #[.slice A1 pool.length c1, .int .i64 fl, .int .i64 th, .int .i64 su, .slice A2 ifs.length c2, .slice none 0 0, .slice none 0 0] 53 (0, 0)) from blk_set (i := 4) hFc.out (.slice A2 ifs.length c2))
        have hR11 := Lib.hid (show Rd (w11.setCell ⟨fb, 4, none⟩ (.slice A2 ifs.length c2)) (zb + 1) s6 e6 from blk_other hRc ⟨fb, 4, none⟩ (.slice A2 ifs.length c2) hn1)
        have hV11 := Lib.hid (blk_other hVc.out ⟨fb, 4, none⟩ (.slice A2 ifs.length c2) hn2)
        have hG11 := Lib.hid (hGc.out.setCell (a := ⟨fb, 4, none⟩) (.inl (.inr rfl)) (.slice A2 ifs.length c2))
        have hP11 := Lib.hid (hPc.out.keep ((Keeps.refl (fun i => i = fb) w11).setCell (a := ⟨fb, 4, none⟩) (.inl rfl) (.slice A2 ifs.length c2)) (fun i hi q => by omega))
        have hz11 : fb + 1 ≤ (w11.setCell ⟨fb, 4, none⟩ (.slice A2 ifs.length c2)).heap.size := by rw [← hs6]; exact hG11.out.size
        clear hRc hKc hVc hGc hFc hPk hPc v0 g0 hlv
        clear hR10 hV10 hF10 hG10 hP10 hz10
        go_upto_region 12 with fail
        clear d0 f0 hlf
        generalize w11.setCell ⟨fb, 4, none⟩ (.slice A2 ifs.length c2) = W11 at *
        obtain ⟨v0, g0⟩ := blk_cell hV11.out 0 _ rfl
        have hlv := blk_lt hV11.out
        go_wp2_with fail
        refine (kf.out _ hR11.out).mono ?_
        rintro x w12 ⟨A3, c3, LX, rfl, rfl, hrow, hown, hRc, hKc⟩
        have hVc := Lib.hid (hKc.obj hV11.out (by omega))
        have hGc := Lib.hid (hG11.out.then hKc (fun i q => .inl (.inl q)))
        have hFc := Lib.hid (hKc.obj hF11.out (by omega))
        have hPk := Lib.hid (hP11.out.keep hKc (fun i hi q => by omega))
        have hPc : Hid (Pr w12 (fb + 1) ⟨A1, c1, A2, c2, A3, c3, none, 0⟩ ⟨pool, fl, th, su, ifs, LX, []⟩) := Lib.hid ⟨hPk.out.pool, hPk.out.ifs, own_mono hrow (by omega), hown.mono (by omega), hPk.out.methods, hPk.out.mh⟩
        obtain ⟨d0, f0⟩ := blk_cell hFc.out 5 _ rfl
        have hlf := blk_lt hFc.out
        have hF12 := Lib.hid (show (w12.setCell ⟨fb, 5, none⟩ (.slice A3 LX.length c3)).heap[fb]? = some (.cells #[.slice A1 pool.length c1, .int .i64 fl, .int .i64 th, .int .i64 su, .slice A2 ifs.length c2, .slice A3 LX.length c3, .slice none 0 0] 53 (0, 0)) from blk_set (i := 5) hFc.out (.slice A3 LX.length c3))
        have hR12 := Lib.hid (show Rd (w12.setCell ⟨fb, 5, none⟩ (.slice A3 LX.length c3)) (zb + 1) s7 e7 from blk_other hRc ⟨fb, 5, none⟩ (.slice A3 LX.length c3) hn1)
        have hV12 := Lib.hid (blk_other hVc.out ⟨fb, 5, none⟩ (.slice A3 LX.length c3) hn2)
        have hG12 := Lib.hid (hGc.out.setCell (a := ⟨fb, 5, none⟩) (.inl (.inr rfl)) (.slice A3 LX.length c3))
        have hP12 := Lib.hid (hPc.out.keep ((Keeps.refl (fun i => i = fb) w12).setCell (a := ⟨fb, 5, none⟩) (.inl rfl) (.slice A3 LX.length c3)) (fun i hi q => by omega))
        have hz12 : fb + 1 ≤ (w12.setCell ⟨fb, 5, none⟩ (.slice A3 LX.length c3)).heap.size := by rw [← hs6]; exact hG12.out.size
        clear hRc hKc hVc hGc hFc hPk hPc v0 g0 hlv
        clear hR11 hV11 hF11 hG11 hP11 hz11
        go_upto_region 13 with fail
        clear d0 f0 hlf
        generalize w12.setCell ⟨fb, 5, none⟩ (.slice A3 LX.length c3) = W12 at *
        obtain ⟨v0, g0⟩ := blk_cell hV12.out 0 _ rfl
        have hlv := blk_lt hV12.out
        go_wp2_with fail
        refine (km.out _ hR12.out).mono ?_
        rintro x w13 ⟨A4, c4, LY, rfl, rfl, hrow, hown, hRc, hKc⟩
        have hVc := Lib.hid (hKc.obj hV12.out (by omega))
        have hGc := Lib.hid (hG12.out.then hKc (fun i q => .inl (.inl q)))
        have hFc := Lib.hid (hKc.obj hF12.out (by omega))
        have hPk := Lib.hid (hP12.out.keep hKc (fun i hi q => by omega))
        have hPc : Hid (Pr w13 (fb + 1) ⟨A1, c1, A2, c2, A3, c3, A4, c4⟩ ⟨pool, fl, th, su, ifs, LX, LY⟩) := Lib.hid ⟨hPk.out.pool, hPk.out.ifs, hPk.out.fields, hPk.out.fh, own_mono hrow (by omega), hown.mono (by omega)⟩
        obtain ⟨d0, f0⟩ := blk_cell hFc.out 6 _ rfl
        have hlf := blk_lt hFc.out
        have hF13 := Lib.hid (show (w13.setCell ⟨fb, 6, none⟩ (.slice A4 LY.length c4)).heap[fb]? = some (.cells #[.slice A1 pool.length c1, .int .i64 fl, .int .i64 th, .int .i64 su, .slice A2 ifs.length c2, .slice A3 LX.length c3, .slice A4 LY.length c4] 53 (0, 0)) from blk_set (i := 6) hFc.out (.slice A4 LY.length c4))
        have hR13 := Lib.hid (show Rd (w13.setCell ⟨fb, 6, none⟩ (.slice A4 LY.length c4)) (zb + 1) s8 e8 from blk_other hRc ⟨fb, 6, none⟩ (.slice A4 LY.length c4) hn1)
        have hV13 := Lib.hid (blk_other hVc.out ⟨fb, 6, none⟩ (.slice A4 LY.length c4) hn2)
        have hG13 := Lib.hid (hGc.out.setCell (a := ⟨fb, 6, none⟩) (.inl (.inr rfl)) (.slice A4 LY.length c4))
        have hP13 := Lib.hid (hPc.out.keep ((Keeps.refl (fun i => i = fb) w13).setCell (a := ⟨fb, 6, none⟩) (.inl rfl) (.slice A4 LY.length c4)) (fun i hi q => by omega))
        have hz13 : fb + 1 ≤ (w13.setCell ⟨fb, 6, none⟩ (.slice A4 LY.length c4)).heap.size := by rw [← hs6]; exact hG13.out.size
        clear hRc hKc hVc hGc hFc hPk hPc v0 g0 hlv
        clear hR12 hV12 hF12 hG12 hP12 hz12
        go_upto_region 14 with fail
        clear d0 f0 hlf
        generalize w13.setCell ⟨fb, 6, none⟩ (.slice A4 LY.length c4) = W13 at *
        have hZ13 := Lib.hid (hG13.out.obj hZ6.out (by omega))
        have hK13 := Lib.hid (hK6.out.then hG13.out (fun i q => .inr (by omega)))
        have hRF := hP13.out.rd
        have hFo := hok.out ⟨pool, fl, th, su, ifs, LX, LY⟩ rfl
        have kpt := Lib.hid (parts_any ⟨A1, c1, A2, c2, A3, c3, A4, c4⟩ ⟨pool, fl, th, su, ifs, LX, LY⟩ W13 hRF hFo (hT.below (hK13.out.below (Nat.le_refl _) (fun _ q => q.elim))))
        rw [show flC ⟨A1, c1, A2, c2, A3, c3, A4, c4⟩ ⟨pool, fl, th, su, ifs, LX, LY⟩ = #[.slice A1 pool.length c1, .int .i64 fl, .int .i64 th, .int .i64 su, .slice A2 ifs.length c2, .slice A3 LX.length c3, .slice A4 LY.length c4] from rfl] at kpt
        have hpf : Sp.partsS (FlP.fl ⟨pool, fl, th, su, ifs, LX, LY⟩) = Sp.partsS ⟨pool, fl, th, su, ifs, LX.map (·.1), LY.map (·.1)⟩ := rfl
        rw [hpf] at kpt
        have hle2 : w.heap.size ≤ zb := by omega
        clear hpf hFo hok hG13 hZ6 hK6 kp kn1 kl ki kf km hRF
        have hD := HP.out
        clear HP
        unfold Sp.doneR Sp.endR at hD
        obtain ⟨v0, g0⟩ := blk_cell hV13.out 0 _ rfl
        obtain ⟨r0, s0⟩ := blk_cell hR13.out 0 _ rfl
        obtain ⟨r1, t1⟩ := blk_cell hR13.out 1 _ rfl
        have hlv := blk_lt hV13.out
        have hlr := blk_lt hR13.out
        by_cases he : e8 = 0
        · subst he
          by_cases hs8 : s8 = ⟨#[]⟩
          · subst hs8
            rw [if_neg (show ¬ ((0 : Int) = 0 ∧ (⟨#[]⟩ : ByteArray) ≠ ⟨#[]⟩) from fun q => q.2 rfl), if_pos rfl] at hD
            generalize Sp.partsS ⟨pool, fl, th, su, ifs, LX.map (·.1), LY.map (·.1)⟩ = pt at *
            obtain ⟨k0, k1, k2, k3, k4, k5, k6⟩ := cells7m hF13.out
            have hlf := blk_lt hF13.out
            have hD2 := Lib.hid hD
            clear hD
            go_wp2_with fail
            refine kpt.out.mono ?_
            rintro x w14 ⟨rfl, hb14⟩
            have hD := hD2.out
            have hZ14 := Lib.hid (blk_below hZ13.out hb14)
            have hF14 := Lib.hid (blk_below hF13.out hb14)
            have hK14 := Lib.hid (hK13.out.then (Keeps.of_below (S := fun i => False) hb14) (fun i q => q.elim))
            have hP14 := Lib.hid (hP13.out.keep (Keeps.of_below (S := fun i => False) hb14) (fun i hi q => q))
            clear hZ13 hF13 hK13 hP13 hR13 hV13 k0 k1 k2 k3 k4 k5 k6 v0 g0 r0 s0 r1 t1 hlv hlr hlf kpt hb14 hz13 hD2
            by_cases hp : pt = 0
            · subst hp
              rw [if_pos rfl] at hD
              have hlf := blk_lt hF14.out
              obtain ⟨k0, k1, k2, k3, k4, k5, k6⟩ := cells7m hF14.out
              have hPf := Lib.hid (hP14.out.keep ((((((((Keeps.refl (fun i => i = zb) w14).setCell (a := ⟨zb, 0, none⟩) (.inl rfl) (.slice A1 pool.length c1)).setCell (a := ⟨zb, 1, none⟩) (.inl rfl) (.int .i64 fl)).setCell (a := ⟨zb, 2, none⟩) (.inl rfl) (.int .i64 th)).setCell (a := ⟨zb, 3, none⟩) (.inl rfl) (.int .i64 su)).setCell (a := ⟨zb, 4, none⟩) (.inl rfl) (.slice A2 ifs.length c2)).setCell (a := ⟨zb, 5, none⟩) (.inl rfl) (.slice A3 LX.length c3)).setCell (a := ⟨zb, 6, none⟩) (.inl rfl) (.slice A4 LY.length c4)) (fun i hi q => by omega))
              obtain ⟨d0, d1, d2, d3, d4, d5, d6⟩ := cells7m hZ14.out
              obtain ⟨f0, f1, f2, f3, f4, f5, f6⟩ := frz7m hZ14.out
              have hlz := blk_lt hZ14.out
              have hfin := Lib.hid (blk_set (i := 6) (blk_set (i := 5) (blk_set (i := 4) (blk_set (i := 3) (blk_set (i := 2) (blk_set (i := 1) (blk_set (i := 0) hZ14.out (.slice A1 pool.length c1)) (.int .i64 fl)) (.int .i64 th)) (.int .i64 su)) (.slice A2 ifs.length c2)) (.slice A3 LX.length c3)) (.slice A4 LY.length c4))
              have hBf := Lib.hid (((((((hK14.out.setCell (a := ⟨zb, 0, none⟩) (.inr hle2) (.slice A1 pool.length c1)).setCell (a := ⟨zb, 1, none⟩) (.inr hle2) (.int .i64 fl)).setCell (a := ⟨zb, 2, none⟩) (.inr hle2) (.int .i64 th)).setCell (a := ⟨zb, 3, none⟩) (.inr hle2) (.int .i64 su)).setCell (a := ⟨zb, 4, none⟩) (.inr hle2) (.slice A2 ifs.length c2)).setCell (a := ⟨zb, 5, none⟩) (.inr hle2) (.slice A3 LX.length c3)).setCell (a := ⟨zb, 6, none⟩) (.inr hle2) (.slice A4 LY.length c4))
              go_wp2
              (try simp only [Exit.inBlock, Exit.then])
              refine bodyPost_ret (results_ct rfl _ _ _ rfl (fl_load hfin.out)) rfl ?_
              have hbel := hBf.out.below (Nat.le_refl _) (fun _ q => q.elim)
              exact ⟨⟨A1, c1, A2, c2, A3, c3, A4, c4⟩, ⟨pool, fl, th, su, ifs, LX, LY⟩, by rw [← hD]; rfl, by rw [← hD]; rfl, hPf.out.rd, hbel⟩
            · rw [if_neg hp] at hD
              have hb2 : (pt != 0) = true := by simp [hp]
              obtain ⟨d0, d1, d2, d3, d4, d5, d6⟩ := cells7m hZ14.out
              obtain ⟨f0, f1, f2, f3, f4, f5, f6⟩ := frz7m hZ14.out
              have hlz := blk_lt hZ14.out
              have hfin := Lib.hid (blk_set (i := 6) (blk_set (i := 5) (blk_set (i := 4) (blk_set (i := 3) (blk_set (i := 2) (blk_set (i := 1) (blk_set (i := 0) hZ14.out (.slice none 0 0)) (.int .i64 0)) (.int .i64 0)) (.int .i64 0)) (.slice none 0 0)) (.slice none 0 0)) (.slice none 0 0))
              have hBf := Lib.hid (((((((hK14.out.setCell (a := ⟨zb, 0, none⟩) (.inr hle2) (.slice none 0 0)).setCell (a := ⟨zb, 1, none⟩) (.inr hle2) (.int .i64 0)).setCell (a := ⟨zb, 2, none⟩) (.inr hle2) (.int .i64 0)).setCell (a := ⟨zb, 3, none⟩) (.inr hle2) (.int .i64 0)).setCell (a := ⟨zb, 4, none⟩) (.inr hle2) (.slice none 0 0)).setCell (a := ⟨zb, 5, none⟩) (.inr hle2) (.slice none 0 0)).setCell (a := ⟨zb, 6, none⟩) (.inr hle2) (.slice none 0 0))
              go_wp2
              (try simp only [Exit.inBlock, Exit.then])
              refine bodyPost_ret (results_ct rfl _ _ _ rfl (fl_load hfin.out)) rfl ?_
              have hbel := hBf.out.below (Nat.le_refl _) (fun _ q => q.elim)
              exact ⟨qZ, FZ, by rw [← hD]; rfl, by rw [← hD]; rfl, rdF_zero _, hbel⟩
          · rw [if_pos (show ((0 : Int) = 0 ∧ s8 ≠ ⟨#[]⟩) from ⟨rfl, hs8⟩), if_neg (show ¬ (6 : Int) = 0 by decide)] at hD
            have ht2 : (s8.toList == []) = false := by rw [show ([] : List UInt8) = (⟨#[]⟩ : ByteArray).toList by decide +kernel, bytes_eqb]; exact decide_eq_false hs8
            clear kpt hF13 hP13
            obtain ⟨d0, d1, d2, d3, d4, d5, d6⟩ := cells7m hZ13.out
            obtain ⟨f0, f1, f2, f3, f4, f5, f6⟩ := frz7m hZ13.out
            have hlz := blk_lt hZ13.out
            have hfin := Lib.hid (blk_set (i := 6) (blk_set (i := 5) (blk_set (i := 4) (blk_set (i := 3) (blk_set (i := 2) (blk_set (i := 1) (blk_set (i := 0) hZ13.out (.slice none 0 0)) (.int .i64 0)) (.int .i64 0)) (.int .i64 0)) (.slice none 0 0)) (.slice none 0 0)) (.slice none 0 0))
            have hBf := Lib.hid (((((((hK13.out.setCell (a := ⟨zb, 0, none⟩) (.inr hle2) (.slice none 0 0)).setCell (a := ⟨zb, 1, none⟩) (.inr hle2) (.int .i64 0)).setCell (a := ⟨zb, 2, none⟩) (.inr hle2) (.int .i64 0)).setCell (a := ⟨zb, 3, none⟩) (.inr hle2) (.int .i64 0)).setCell (a := ⟨zb, 4, none⟩) (.inr hle2) (.slice none 0 0)).setCell (a := ⟨zb, 5, none⟩) (.inr hle2) (.slice none 0 0)).setCell (a := ⟨zb, 6, none⟩) (.inr hle2) (.slice none 0 0))
            go_wp2
            (try simp only [Exit.inBlock, Exit.then])
            refine bodyPost_ret (results_ct rfl _ _ _ rfl (fl_load hfin.out)) rfl ?_
            have hbel := hBf.out.below (Nat.le_refl _) (fun _ q => q.elim)
            exact ⟨qZ, FZ, by rw [← hD]; rfl, by rw [← hD]; rfl, rdF_zero _, hbel⟩
        · rw [if_neg (show ¬ (e8 = 0 ∧ s8 ≠ ⟨#[]⟩) from fun q => he q.1), if_neg he] at hD
          have hb1 : (e8 == 0) = false := by simp [he]
          have hb2 : (e8 != 0) = true := by simp [he]
          clear kpt hF13 hP13
          obtain ⟨d0, d1, d2, d3, d4, d5, d6⟩ := cells7m hZ13.out
          obtain ⟨f0, f1, f2, f3, f4, f5, f6⟩ := frz7m hZ13.out
          have hlz := blk_lt hZ13.out
          have hfin := Lib.hid (blk_set (i := 6) (blk_set (i := 5) (blk_set (i := 4) (blk_set (i := 3) (blk_set (i := 2) (blk_set (i := 1) (blk_set (i := 0) hZ13.out (.slice none 0 0)) (.int .i64 0)) (.int .i64 0)) (.int .i64 0)) (.slice none 0 0)) (.slice none 0 0)) (.slice none 0 0))
          have hBf := Lib.hid (((((((hK13.out.setCell (a := ⟨zb, 0, none⟩) (.inr hle2) (.slice none 0 0)).setCell (a := ⟨zb, 1, none⟩) (.inr hle2) (.int .i64 0)).setCell (a := ⟨zb, 2, none⟩) (.inr hle2) (.int .i64 0)).setCell (a := ⟨zb, 3, none⟩) (.inr hle2) (.int .i64 0)).setCell (a := ⟨zb, 4, none⟩) (.inr hle2) (.slice none 0 0)).setCell (a := ⟨zb, 5, none⟩) (.inr hle2) (.slice none 0 0)).setCell (a := ⟨zb, 6, none⟩) (.inr hle2) (.slice none 0 0))
          go_wp2
          (try simp only [Exit.inBlock, Exit.then])
          refine bodyPost_ret (results_ct rfl _ _ _ rfl (fl_load hfin.out)) rfl ?_
          have hbel := hBf.out.below (Nat.le_refl _) (fun _ q => q.elim)
          exact ⟨qZ, FZ, by rw [← hD]; rfl, by rw [← hD]; rfl, rdF_zero _, hbel⟩
end Go.Proofs.YthpfknlgfkecpaaDoor
end
