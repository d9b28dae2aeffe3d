/-
  The law MutfCuts: its walk.
-/
import Derived.Test.YtkppjehpfjalbaaDoorPl7
import Derived.BigQuiet
set_option linter.unusedVariables false
set_option linter.unusedSimpArgs false
namespace Go.Proofs.YtkppjehpfjalbaaDoor
open Go.RowKit Go.Lib

namespace Sp
theorem take_nums (L : List Int) (k : Nat) : (Go.strOfNums L).extract 0 k = Go.strOfNums (L.take k) := by
  have h : ∀ s : ByteArray, s.extract 0 k = ⟨(s.data.toList.take k).toArray⟩ := fun s => by
    apply ByteArray.ext
    rw [ByteArray.data_extract]
    apply Array.ext'
    simp
  rw [h, Go.strOfNums_data]
  unfold Go.strOfNums
  rw [List.map_take]

theorem cut_law (l : List Int) (hl : ∀ r ∈ l, Scal r) (hs : (encL l).length ≤ 65535) (k : Nat) :
    (decS (Go.strOfNums ((encL l).take k)) = (⟨#[]⟩, 4) ∧ decS (Go.strOfNums ((encL l).drop k)) = (⟨#[]⟩, 4)) ∨
    ∃ l1 l2, decS (Go.strOfNums ((encL l).take k)) = (Go.strOfNums (utfL l1), 0) ∧ decS (Go.strOfNums ((encL l).drop k)) = (Go.strOfNums (utfL l2), 0) ∧ l = l1 ++ l2 := by
  have hP := (by_encL l hl).take k
  have hQ := (by_encL l hl).drop k
  have hPs : ((encL l).take k).length ≤ 65535 := by rw [List.length_take]; omega
  have hQs : ((encL l).drop k).length ≤ 65535 := by rw [List.length_drop]; omega
  have hap := (List.take_append_drop k (encL l)).symm
  generalize (encL l).take k = P at *
  generalize (encL l).drop k = Q at *
  rcases dec_inv (Go.strOfNums P) with ⟨_, h⟩ | h | ⟨l1, h1, h2, h3, h4⟩
  · rw [size_nums] at h; omega
  · rcases dec_inv (Go.strOfNums Q) with ⟨_, q⟩ | q | ⟨m, q1, q2, q3, q4⟩
    · rw [size_nums] at q; omega
    · exact .inl ⟨h, q⟩
    · exfalso
      have hq : Q = encL m := nums_inj hQ (by_encL m q1) q2
      rw [hq] at hap
      obtain ⟨l', j1, j2⟩ := enc_cut l P m hl q1 hap
      have := dec_enc l' j1 (by rw [← j2]; exact hPs)
      rw [← j2, h] at this
      have := congrArg Prod.snd this
      simp at this
  · have hp : P = encL l1 := nums_inj hP (by_encL l1 h1) h2
    rw [hp] at hap
    obtain ⟨l2, j1, j2⟩ := enc_pre l1 l Q hl h1 hQ hap
    have hl2 : ∀ r ∈ l2, Scal r := fun r hr => hl r (by rw [j1]; exact List.mem_append_right _ hr)
    refine .inr ⟨l1, l2, h3, ?_, j1⟩
    rw [j2]
    exact dec_enc l2 hl2 (by rw [← j2]; exact hQs)
end Sp

set_option maxHeartbeats 400000 in
set_option maxRecDepth 100000 in
theorem walkMutfCuts (s : ByteArray) (c : Int) (w : World) (hs : s.size ≤ maxLen) (hc0 : -9223372036854775808 ≤ c) (hc1 : c ≤ 9223372036854775807) (hT : Tabs w) (hbulk : s.data.toList.length ≤ 1048576) :
    Calls Tryd.prog 10 #[.string s, .int .i64 c] w fun e w' => e = .returned (.bool true) ∧ Below w.heap.size w w' := by
  rw [← Lib.size_eq] at hbulk
  clear hs
  have T0 := Lib.hid hT
  have hsh := Lib.hid (shown_any w hT)
  clear hT
  have h1 := Lib.hid (fun W hT => encode_any s W (by omega) hT)
  by_cases hok : (Sp.encS s).2 = 0
  · obtain ⟨l, a1, a2, a3, a4, a5⟩ := Sp.enc_ok s hok
    simp only [a5] at h1
    have hcut := Lib.hid (Sp.cut_law l a1 a4)
    have htk := Lib.hid (Sp.take_nums (Sp.encL l))
    have hdr := Lib.hid (Sp.extract_nums (Sp.encL l))
    have hsl : (Go.strOfNums (Sp.encL l)).size ≤ 65535 := by rw [Sp.size_nums]; omega
    have h2 := Lib.hid (fun b W => decode_any b W)
    generalize hA : Go.strOfNums (Sp.encL l) = A at *
    have hfin : Hid (∀ k : Nat, (Sp.decS (A.extract 0 k) = (⟨#[]⟩, 4) ∧ Sp.decS (A.extract k A.size) = (⟨#[]⟩, 4)) ∨ ∃ p q, Sp.decS (A.extract 0 k) = (p, 0) ∧ Sp.decS (A.extract k A.size) = (q, 0) ∧ p ++ q = s ∧ (p ++ q).size = p.size + q.size ∧ s.size = p.size + q.size) := Lib.hid (by
      intro k
      rw [htk.out, hdr.out]
      rcases hcut.out k with h | ⟨l1, l2, h3, h4, h5⟩
      · exact .inl h
      · have e : Go.strOfNums (Sp.utfL l1) ++ Go.strOfNums (Sp.utfL l2) = s := by rw [a2, strOfNums_append, ← Sp.utfL_app, ← h5]
        refine .inr ⟨_, _, h3, h4, e, ByteArray.size_append, ?_⟩
        rw [← e, ByteArray.size_append])
    clear hcut htk hdr hA a1 a2 a3 a4 a5 hok
    by_cases hz : A.size = 0
    · have hzz : (A.size : Int) = 0 := by omega
      go_enter Tryd.func10, Tryd.ntmps10
      go_wp2_with fail
      refine hsh.out.mono ?_
      rintro e w1 ⟨rfl, B1⟩
      have S1 := B1.size
      have T1 := Lib.hid (T0.out.below B1)
      go_wp2_with fail
      refine (h1.out _ T1.out).mono ?_
      rintro e w2 ⟨rfl, hb2⟩
      go_wp2
      go_ret
      exact ⟨rfl, below_then B1 S1 hb2⟩
    have hzz : ¬ (A.size : Int) = 0 := by omega
    by_cases hbig : 5000 < (A.size : Int)
    · go_enter Tryd.func10, Tryd.ntmps10
      go_wp2_with fail
      refine hsh.out.mono ?_
      rintro e w1 ⟨rfl, B1⟩
      have S1 := B1.size
      have T1 := Lib.hid (T0.out.below B1)
      go_wp2_with fail
      refine (h1.out _ T1.out).mono ?_
      rintro e w2 ⟨rfl, hb2⟩
      go_wp2
      go_ret
      exact ⟨rfl, below_then B1 S1 hb2⟩
    have hn : (0 : Int) < (A.size : Int) := by omega
    have hzb : ((A.size : Int) == 0) = false := by rw [beq_eq_false_iff_ne]; omega
    have g1 := Int.tmod_lt_of_pos c hn
    have g2 : -(A.size : Int) < c.tmod A.size := by
      have := Int.tmod_lt_of_pos (-c) hn
      rw [Int.neg_tmod] at this
      omega
    generalize hm : c.tmod (A.size : Int) = m at g1 g2
    go_enter Tryd.func10, Tryd.ntmps10
    go_wp2_with fail
    refine hsh.out.mono ?_
    rintro e w1 ⟨rfl, B1⟩
    have S1 := B1.size
    have T1 := Lib.hid (T0.out.below B1)
    go_wp2_with fail
    refine (h1.out _ T1.out).mono ?_
    rintro e w2 ⟨rfl, hb2⟩
    have B2 := below_then B1 S1 hb2
    have S2 := B2.size
    clear B1 S1 hb2 T1
    have hkk : ∃ k : Nat, k < A.size ∧ (m = (k : Int) ∧ ¬ m < 0 ∨ m = -(k : Int) ∧ m < 0) := by
      by_cases q : m < 0
      · exact ⟨(-m).toNat, by omega, .inr ⟨by omega, q⟩⟩
      · exact ⟨m.toNat, by omega, .inl ⟨by omega, q⟩⟩
    obtain ⟨k, hk, hkm⟩ := hkk
    rcases hfin.out k with ⟨d1, d2⟩ | ⟨p, q, d1, d2, d3, d4, d5⟩
    · have e1 := Lib.hid (fun W => h2.out (A.extract 0 k) W)
      have e2 := Lib.hid (fun W => h2.out (A.extract k A.size) W)
      rw [d1] at e1
      rw [d2] at e2
      clear d1 d2 h2 hfin
      rcases hkm with ⟨rfl, hm0⟩ | ⟨rfl, hm0⟩
      all_goals
        go_wp2_with fail
        refine (e1.out _).mono ?_
        rintro e w3 ⟨rfl, hb3⟩
        have B3 := below_then B2 S2 hb3
        have S3 := B3.size
        clear hb3
        go_wp2_with fail
        refine (e2.out _).mono ?_
        rintro e w4 ⟨rfl, hb4⟩
        go_wp2
        go_ret
        exact ⟨by simp, below_then B3 S3 hb4⟩
    · have e1 := Lib.hid (fun W => h2.out (A.extract 0 k) W)
      have e2 := Lib.hid (fun W => h2.out (A.extract k A.size) W)
      rw [d1] at e1
      rw [d2] at e2
      have d3' := Lib.hid d3
      clear d1 d2 d3 h2 hfin
      rcases hkm with ⟨rfl, hm0⟩ | ⟨rfl, hm0⟩
      all_goals
        go_wp2_with fail
        refine (e1.out _).mono ?_
        rintro e w3 ⟨rfl, hb3⟩
        have B3 := below_then B2 S2 hb3
        have S3 := B3.size
        clear hb3
        go_wp2_with fail
        refine (e2.out _).mono ?_
        rintro e w4 ⟨rfl, hb4⟩
        go_wp2
        go_ret
        exact ⟨by rw [d3'.out]; simp, below_then B3 S3 hb4⟩
  · generalize Sp.encS s = a at *
    obtain ⟨aa, ae⟩ := a
    simp only [] at hok h1
    go_enter Tryd.func10, Tryd.ntmps10
    go_wp2_with fail
    refine hsh.out.mono ?_
    rintro e w1 ⟨rfl, B1⟩
    have S1 := B1.size
    have T1 := Lib.hid (T0.out.below B1)
    go_wp2_with fail
    refine (h1.out _ T1.out).mono ?_
    rintro e w2 ⟨rfl, hb2⟩
    go_wp2
    go_ret
    exact ⟨rfl, below_then B1 S1 hb2⟩
end Go.Proofs.YtkppjehpfjalbaaDoor
