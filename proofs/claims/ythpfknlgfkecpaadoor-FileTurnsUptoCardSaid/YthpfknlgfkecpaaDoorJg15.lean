/-
  Texts of the proof, joined: each says at its head what it proves.
-/
import Derived.Test.YthpfknlgfkecpaaDoorJg14
section
/-
  Walks of chapter 3's many: members, each with its handlers.
-/
set_option linter.unusedVariables false
set_option linter.unusedSimpArgs false
namespace Go.Proofs.YthpfknlgfkecpaaDoor
open Go.RowKit Go.Lib

/-- Each member's handlers are a row of their own. -/
def OwnM (w : World) (B : Nat) (L : List Sp.Mp) : Prop := ∀ m ∈ L, w.ownsRow B 97 4 (.slice m.2.1 m.1.hs.length m.2.2) m.1.hs.length (m.1.hs.flatMap Sp.hnC)
theorem OwnM.keep {S : Nat → Prop} {w w' : World} {B : Nat} {L : List Sp.Mp} (h : OwnM w B L) (hk : Keeps S w w') (hS : ∀ i, B ≤ i → ¬ S i) : OwnM w' B L := fun m hm => hk.row (h m hm) (fun k hq => hS k (own_base (h m hm) k hq))
theorem OwnM.alloc {w : World} {B : Nat} {L : List Sp.Mp} (h : OwnM w B L) (o : Obj) : OwnM (w.alloc o) B L := fun m hm => (h m hm).alloc o
theorem OwnM.drew {w : World} {B : Nat} {L : List Sp.Mp} (h : OwnM w B L) : OwnM w.drew B L := h
theorem rows_apart {w : World} {b b' n n' size size' x : Nat} {e e' : TypeId} {v v' : Value} {xs xs' : List Value} (h : w.ownsRow b e size v n xs) (h' : w.ownsRow b' e' size' v' n' xs') (hT : e ≠ e') (hx : v.ownBlock = some x) : v'.ownBlock ≠ some x := fun q => by
  rcases h'.2 with ⟨rfl, _⟩ | ⟨g, cap, cur, rfl, _, hgb, _⟩
  · simp [Value.ownBlock] at q
  · have : g = x := by simpa [Value.ownBlock] using q
    subst this
    exact own_ne_box h hgb (fun q => hT q.symm) hx
theorem OwnM.row {w w' : World} {B b n size : Nat} {L : List Sp.Mp} {e : TypeId} {v : Value} {xs : List Value} (h : OwnM w B L) (hr : w.ownsRow b e size v n xs) (hT : e ≠ 97) (hk : Keeps (fun i => v.ownBlock = some i) w w') : OwnM w' B L := fun m hm => hk.row (h m hm) (fun k hq hv => rows_apart (h m hm) hr (fun q => hT q.symm) hq hv)
theorem OwnM.snoc {w : World} {B : Nat} {L : List Sp.Mp} {m : Sp.Mp} (h : OwnM w B L) (hm : w.ownsRow B 97 4 (.slice m.2.1 m.1.hs.length m.2.2) m.1.hs.length (m.1.hs.flatMap Sp.hnC)) : OwnM w B (L ++ [m]) := fun q hq => by
  rcases List.mem_append.1 hq with h1 | h1
  · exact h q h1
  · rw [List.mem_singleton.1 h1]
    exact hm
theorem infoMb : (Tryd.prog.info? 65).map (fun i => (i.zero, i.size, i.bytes)) = some (some (.agg #[.int .i64 0, .int .i64 0, .int .i64 0, .int .i64 0, .int .i64 0, .string ⟨#[]⟩, .slice none 0 0]), 7, 80) := by kernel_rfl

set_option maxHeartbeats 8000000 in
set_option maxRecDepth 100000 in
theorem manyMb_any (read : ByteArray → Int → Sp.Mb × ByteArray × Int) (f : FuncId) (v : Value) (rb : Nat) (s : ByteArray) (e : Int) (n : Nat) (w : World) (h : Rd w rb s e) (hs : s.size ≤ 1099511627776) (hn : n ≤ 2)
    (hrs : ∀ s e, (read s e).2.1.size ≤ s.size) (bd : Array Value) (hvv : v = .func (.func f) bd #[]) (hent : ∀ W, (callFunc f bd).run Tryd.prog W = .ok (.enter f bd) W)
    (hread : ∀ (s1 : ByteArray) (e1 : Int) (W : World), Keeps (fun i => i = rb) w W → Rd W rb s1 e1 → s1.size ≤ 1099511627776 → Calls Tryd.prog f bd W fun x W' => ∃ A c, x = .returned (Sp.mbV ((read s1 e1).1, A, c)) ∧ W'.ownsRow W.heap.size 97 4 (.slice A (read s1 e1).1.hs.length c) (read s1 e1).1.hs.length ((read s1 e1).1.hs.flatMap Sp.hnC) ∧ Rd W' rb (read s1 e1).2.1 (read s1 e1).2.2 ∧ Keeps (fun i => i = rb) W W') :
    Calls Tryd.prog 73 #[.pointer (some ⟨rb, 0, none⟩), .int .i64 n, v] w fun x w' => ∃ A c L, L.map (·.1) = (Sp.manyN read n s e).1 ∧ x = .returned (.slice A L.length c) ∧
      w'.ownsRow w.heap.size 65 7 (.slice A L.length c) L.length (L.flatMap Sp.mbC) ∧ OwnM w' w.heap.size L ∧
      Rd w' rb (Sp.manyN read n s e).2.1 (Sp.manyN read n s e).2.2 ∧ Keeps (fun i => i = rb) w w' := by
  obtain ⟨i0, hi, hz0, hz1, hz2⟩ := info_parts infoMb
  subst hvv
  unfold Sp.manyN
  have kn := Lib.hid (number_any rb s e n w h hs (by omega))
  have hnv := Sp.num_two s e n hn
  have hz := Sp.num_len s e n
  have hlr := blk_lt h
  have hrd := Lib.hid hread
  have hrz := Lib.hid hrs
  clear hread h hrs
  generalize Sp.numR s e n = N at *
  obtain ⟨v, s0, e0⟩ := N
  simp only [] at kn hnv hz ⊢
  obtain ⟨m, rfl⟩ := Int.eq_ofNat_of_zero_le hnv.1
  rw [Int.toNat_natCast]
  generalize hF : Sp.manyR read m s0 e0 = F
  have HF := Lib.hid (show (([] : List Sp.Mp).map (·.1) ++ (Sp.manyR read m s0 e0).1, (Sp.manyR read m s0 e0).2) = F by rw [hF]; rfl)
  clear hF
  have hs0 : s0.size ≤ 1099511627776 := by omega
  have hm : m ≤ 65535 := by omega
  clear hnv hz hs
  go_enter Tryd.func73, Tryd.ntmps73
  go_wp2_with fail
  refine kn.out.mono ?_
  rintro x w1 ⟨rfl, hR1, hK1⟩
  have HR := Lib.hid hR1
  have HK := Lib.hid hK1
  have HO := Lib.hid (World.ownsRow_nil w1 w.heap.size 65 7)
  have HM := Lib.hid (show OwnM w1 w.heap.size [] from fun m hm => by simp at hm)
  clear kn hR1 hK1
  go_wp2
  go_loopw [7, 8] (fun v7 v8 wr => ∃ (k : Nat) (acc : List Sp.Mp) (s1 : ByteArray) (e1 : Int), v8 = .int .i64 k ∧ acc.length + k ≤ 65535 ∧ s1.size ≤ 1099511627776 ∧ Hid (wr.ownsRow w.heap.size 65 7 v7 acc.length (acc.flatMap Sp.mbC)) ∧ Hid (OwnM wr w.heap.size acc) ∧ Hid (Rd wr rb s1 e1) ∧ Hid (Keeps (fun i => i = rb) w wr) ∧ Hid ((acc.map (·.1) ++ (Sp.manyR read k s1 e1).1, (Sp.manyR read k s1 e1).2) = F)) (fun _ v8 _ => (RowKit.intOf v8).toNat)
  case atStart => exact ⟨m, [], s0, e0, by first | rfl | go_num, by simp; omega, hs0, HO, HM, HR, HK, HF⟩
  case round =>
    clear HR HK HO HF HM
    obtain ⟨k, acc, s1, e1, rfl, hak, hs1, hO, hM, hR, hK, hf⟩ := hrel
    obtain ⟨r1, g1⟩ := blk_cell hR.out 1 _ rfl
    have hlb := blk_lt hR.out
    have hksz := hK.out.size
    have hback : ∀ (hq : (Sp.manyR read k s1 e1) = ([], s1, e1)), F = (acc.map (·.1), s1, e1) := fun hq => by rw [← hf.out, hq]; simp
    have hbk := Lib.hid hback
    clear hback
    by_cases hk0 : k = 0
    · subst hk0
      have hF := hbk.out rfl
      subst hF
      obtain ⟨A, c, rfl⟩ := own_sl hO.out
      have h1 := hO.out
      have h2 := hR.out
      have h3 := hK.out
      have h4 := hM.out
      clear hf hbk
      go_wp2
      go_ret
      exact ⟨A, c, acc, rfl, rfl, h1, h4, h2, h3⟩
    · have hzk : (0 : Int) < (k : Int) := by omega
      by_cases he : e1 = 0
      · subst he
        obtain ⟨k', rfl⟩ : ∃ k', k = k' + 1 := ⟨k - 1, by omega⟩
        have hf2 := hf.out
        rw [Sp.manyR_ok] at hf2
        have kr := Lib.hid (hrd.out s1 0 wr hK.out hR.out hs1)
        have hrz1 := hrz.out s1 0
        clear hf hbk hk0
        generalize read s1 0 = N at *
        obtain ⟨el, s2, e2⟩ := N
        simp only [] at kr hf2 hrz1
        have hent' := hent
        go_wp2_with fail
        refine kr.out.mono ?_
        rintro x w4 ⟨Ah, ch, rfl, hH4, hR4, hK4⟩
        have hf3 := Lib.hid (show (((acc ++ [(el, Ah, ch)]).map (·.1)) ++ (Sp.manyR read k' s2 e2).1, (Sp.manyR read k' s2 e2).2) = F by rw [← hf2, List.map_append, List.append_assoc]; rfl)
        clear hf2
        have hbase := own_base hO.out
        have hO4 := Lib.hid (hK4.row hO.out (fun q hq e => by have := hbase q hq; omega))
        have hM4 := Lib.hid (hM.out.keep hK4 (fun i hi q => by omega))
        have hMs := Lib.hid (OwnM.snoc hM4.out (m := (el, Ah, ch)) (own_mono hH4 (by omega)))
        have hKK := Lib.hid (hK.out.trans hK4)
        have hR4' := Lib.hid hR4
        have hsz4 := hKK.out.size
        have hl4 := blk_lt hR4
        clear hO hR hK hR4 hK4 kr r1 g1 hlb hksz hM hM4 hH4
        obtain ⟨mf, mn, md, ms, ml, mc, mh⟩ := el
        unfold Sp.mbV
        simp only []
        go_wp2_with (at_builtin; refine wpList_append_own _ rfl _ _ 51 rfl w.heap.size 65 i0 (.agg #[.int .i64 0, .int .i64 0, .int .i64 0, .int .i64 0, .int .i64 0, .string ⟨#[]⟩, .slice none 0 0]) 7 80 Tryd.underlying51 hi hz0 hz1 hz2 rfl (by decide) _ acc.length (acc.flatMap Sp.mbC) rfl (hO4.out.alloc _) ⟨w4.heap.size, 0, none⟩ 1 1 ([.int .i64 mf, .int .i64 mn, .int .i64 md, .int .i64 ms, .int .i64 ml, .string mc, .slice Ah mh.length ch]) rfl rfl ?x2 ?x3 ?x4 ?x5 ?x6 ?_)
        try case x2 =>
          intro j u hj
          match j, hj with
          | 0, hj => simp at hj; subst hj; simp [Addr.add]
          | 1, hj => simp at hj; subst hj; simp [Addr.add]
          | 2, hj => simp at hj; subst hj; simp [Addr.add]
          | 3, hj => simp at hj; subst hj; simp [Addr.add]
          | 4, hj => simp at hj; subst hj; simp [Addr.add]
          | 5, hj => simp at hj; subst hj; simp [Addr.add]
          | 6, hj => simp at hj; subst hj; simp [Addr.add]
          | (j + 7), hj => simp at hj
        try case x3 => intro u hu; simp at hu; rcases hu with rfl | rfl | rfl | rfl | rfl | rfl | rfl <;> rfl
        try case x4 => unfold maxLen; omega
        try case x5 => omega
        try case x6 => first | omega | (simp; omega)
        intro v' w5 hown' hg5 _
        have hO5 := Lib.hid (show w5.ownsRow w.heap.size 65 7 v' (acc ++ [((⟨mf, mn, md, ms, ml, mc, mh⟩, Ah, ch) : Sp.Mp)]).length ((acc ++ [((⟨mf, mn, md, ms, ml, mc, mh⟩, Ah, ch) : Sp.Mp)]).flatMap Sp.mbC) by rw [List.flatMap_append, List.length_append]; exact hown')
        have hM5 := Lib.hid ((hMs.out.alloc _).row (hO4.out.alloc _) (by decide) (Keeps.of_grown hg5 (fun q hq => .inl hq)))
        have hR5 := Lib.hid (grown_rd (blk_old hR4'.out) hg5 (fun q => by have := hbase _ q.symm; omega))
        have hK5 := Lib.hid ((hKK.out.alloc _).then (Keeps.of_grown (S := fun i => w.heap.size ≤ i) hg5 (fun q hq => .inl (hbase q hq))) (fun i q => .inr q))
        clear hown' hg5 hO4 hR4' hKK hbase hMs
        go_wp2
        go_roundw
        case rel => exact ⟨k', acc ++ [((⟨mf, mn, md, ms, ml, mc, mh⟩, Ah, ch) : Sp.Mp)], s2, e2, by first | rfl | go_num | (simp; done) | (simp; omega), by simp; omega, by omega, hO5, hM5, hR5, hK5, hf3⟩
        case measure => first | (simp [RowKit.intOf]; done) | (simp [RowKit.intOf]; omega)
      · have heb : (e1 == 0) = false := by simp [he]
        have hF := hbk.out (Sp.manyR_err read k s1 e1 he)
        subst hF
        obtain ⟨A, c, rfl⟩ := own_sl hO.out
        have h1 := hO.out
        have h2 := hR.out
        have h3 := hK.out
        have h4 := hM.out
        clear hf hbk
        go_wp2
        go_ret
        exact ⟨A, c, acc, rfl, rfl, h1, h4, h2, h3⟩
end Go.Proofs.YthpfknlgfkecpaaDoor
end
