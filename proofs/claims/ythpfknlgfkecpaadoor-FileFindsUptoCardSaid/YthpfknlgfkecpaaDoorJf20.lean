/-
  Texts of the proof, joined: each says at its head what it proves.
-/
import Derived.Test.YthpfknlgfkecpaaDoorJFileNamesx2
import Derived.Deep.RegionWith
section
/-
  Walks of chapter 3's ClassName and the reference's. (Printed by gen_cls.py.)
-/
set_option linter.unusedVariables false
set_option linter.unusedSimpArgs false
namespace Go.Proofs.YthpfknlgfkecpaaDoor
open Go.RowKit Go.Lib


set_option maxHeartbeats 8000000 in
set_option maxRecDepth 100000 in
theorem className_any (q : Sp.At) (F : FlP) (i : Int) (w : World) (hr : RdF w q F) (hi : -9223372036854775808 ≤ i ∧ i ≤ 9223372036854775807) (ha : ∀ c ∈ F.pool, In64 c.a) :
    Calls Tryd.prog 42 #[.agg (flC q F), .int .i64 i] w fun e w' => e = .returned (.tuple #[.string (Sp.classNameS F.pool i).1, .bool (Sp.classNameS F.pool i).2]) ∧ Below w.heap.size w w' := by
  obtain ⟨pool, fl, th, su, ifs, flds, mths⟩ := F
  obtain ⟨qA, qc, qI, qd, qX, qe, qY, qg⟩ := q
  simp only [] at ha ⊢
  have hl := hr.pool.1
  have HP := Lib.hid hr.pool.2
  simp only [] at hl HP
  have HE := Lib.hid (show Sp.classNameS pool i = _ by rw [Sp.classNameS])
  have HT := Lib.hid (show Sp.taggedS pool i 4 = _ by rw [Sp.taggedS])
  have k1 := Lib.hid (fun W hr => tagged_any ⟨qA, qc, qI, qd, qX, qe, qY, qg⟩ ⟨pool, fl, th, su, ifs, flds, mths⟩ i 4 W hr hi)
  have hr0 := Lib.hid hr
  clear hr
  simp only [] at k1
  generalize Sp.classNameS pool i = R at HE ⊢
  generalize Sp.taggedS pool i 4 = T at HT k1
  have hK := Lib.hid (blk_new w (.cells (flC ⟨qA, qc, qI, qd, qX, qe, qY, qg⟩ ⟨pool, fl, th, su, ifs, flds, mths⟩) 53))
  have hB := (Below.refl w.heap.size w).alloc (Nat.le_refl _) (.cells (flC ⟨qA, qc, qI, qd, qX, qe, qY, qg⟩ ⟨pool, fl, th, su, ifs, flds, mths⟩) 53)
  unfold flC at k1
  have hfl : flC ⟨qA, qc, qI, qd, qX, qe, qY, qg⟩ ⟨pool, fl, th, su, ifs, flds, mths⟩ = #[.slice qA pool.length qc, .int .i64 fl, .int .i64 th, .int .i64 su, .slice qI ifs.length qd, .slice qX flds.length qe, .slice qY mths.length qg] := rfl
  rw [hfl] at hB ⊢
  clear hfl
  simp only [] at k1
  go_enter Tryd.func42, Tryd.ntmps42
  go_wp2_with fail
  refine (k1.out _ (rdF_below hr0.out hB)).mono ?_
  rintro e w1 ⟨rfl, hb1⟩
  have K1 := Lib.hid (blk_below hK.out hb1)
  have B1 := below_then hB (by simp) hb1
  have S1 := B1.size
  clear hK hb1 k1 hB
  have hfail : T = false → R = (⟨#[]⟩, false) := by
    intro hT
    rw [HE.out]
    have := HT.out
    rw [hT] at this
    cases hg : Sp.get pool i with
    | none => rfl
    | some x =>
      rw [hg] at this
      simp only at this ⊢
      rw [if_neg]
      intro q
      rw [decide_eq_true q] at this
      cases this
  cases T with
  | false =>
    have hR := hfail rfl
    subst hR
    clear HE HT hfail
    go_wp2
    go_ret2
    exact ⟨rfl, B1⟩
  | true =>
    clear hfail
    rcases Sp.get_cases pool i with ⟨h1, h2⟩ | ⟨h1, h2, h3⟩ | ⟨k, hk, rfl, h3⟩
    · have := HT.out; rw [h2] at this; cases this
    · have := HT.out; rw [h3] at this; cases this
    · have ht : pool[k].tag = 4 := by have := HT.out; rw [h3] at this; simpa using this.symm
      have hR : R = Sp.cnameS pool pool[k].a := by rw [HE.out, h3]; simp only; rw [if_pos ht]
      obtain ⟨b, o, rfl, hrg⟩ := HP.out (by omega)
      obtain ⟨d0, d1, d2, d3, d4, d5⟩ := cn_cells hrg hk
      have e3 := cell_below B1 d3
      have he := World.block_lt_of_cell? _ _ e3
      have h5 : (k : Int) < (pool.length : Int) := by omega
      have h50 : (0 : Int) ≤ (k : Int) := by omega
      have h6 : (k : Int) + 1 - 1 = (k : Int) := by omega
      have hin := ha _ (List.getElem_mem hk)
      clear HE HT h3 hrg d0 d1 d2 d3 d4 d5 ht ha
      generalize pool[k].a = y at *
      have k2 := Lib.hid (fun W hr => cname_any ⟨some ⟨b, o, none⟩, qc, qI, qd, qX, qe, qY, qg⟩ ⟨pool, fl, th, su, ifs, flds, mths⟩ y W hr hin)
      simp only [] at k2
      generalize Sp.cnameS pool y = N at *
      obtain ⟨n1, n2⟩ := N
      subst hR
      obtain ⟨c0, c1, c2, c3, c4, c5, c6⟩ := flC_box K1.out
      have hlk := blk_lt K1.out
      have r1 := Lib.hid (rdF_below hr0.out B1)
      have r2 := Lib.hid (rdF_below hr0.out B1.drew)
      unfold flC at k2
      simp only [] at k2
      have hw1 : IntKind.i64.wrap ((k : Int) + 1 - 1) = (k : Int) := by rw [h6]; exact IntWalk.i64_in _ (by omega)
      have hw2 : IntKind.i64.wrap (k : Int) = (k : Int) := IntWalk.i64_in _ (by omega)
      have hw3 : ((k : Int)).toNat = k := by omega
      go_wp2_with fail
      go_region_with (go_at_call 39; refine (k2.out _ (by first | exact r1.out | exact r2.out)).mono ?_; rintro e w2 ⟨rfl, hb2⟩)
      all_goals
        go_wp2
        go_ret2
        exact ⟨rfl, by first | exact below_then B1 S1 hb2 | exact below_then B1.drew S1 hb2⟩


set_option maxHeartbeats 8000000 in
set_option maxRecDepth 100000 in
theorem refClassName_any (q : Sp.At) (F : FlP) (i : Int) (w : World) (hr : RdF w q F) (hi : -9223372036854775808 ≤ i ∧ i ≤ 9223372036854775807) (ha : ∀ c ∈ F.pool, In64 c.a) :
    Calls Tryd.prog 43 #[.agg (flC q F), .int .i64 i] w fun e w' => e = .returned (.tuple #[.string (Sp.classNameS F.pool i).1, .bool (Sp.classNameS F.pool i).2]) ∧ Below w.heap.size w w' := by
  obtain ⟨pool, fl, th, su, ifs, flds, mths⟩ := F
  obtain ⟨qA, qc, qI, qd, qX, qe, qY, qg⟩ := q
  simp only [] at ha ⊢
  have hl := hr.pool.1
  have HP := Lib.hid hr.pool.2
  simp only [] at hl HP
  have HE := Lib.hid (show Sp.classNameS pool i = _ by rw [Sp.classNameS])
  have HT := Lib.hid (show Sp.taggedS pool i 4 = _ by rw [Sp.taggedS])
  have k1 := Lib.hid (fun W hr => refTagged_any ⟨qA, qc, qI, qd, qX, qe, qY, qg⟩ ⟨pool, fl, th, su, ifs, flds, mths⟩ i 4 W hr hi)
  have hr0 := Lib.hid hr
  clear hr
  simp only [] at k1
  generalize Sp.classNameS pool i = R at HE ⊢
  generalize Sp.taggedS pool i 4 = T at HT k1
  have hK := Lib.hid (blk_new w (.cells (flC ⟨qA, qc, qI, qd, qX, qe, qY, qg⟩ ⟨pool, fl, th, su, ifs, flds, mths⟩) 53))
  have hB := (Below.refl w.heap.size w).alloc (Nat.le_refl _) (.cells (flC ⟨qA, qc, qI, qd, qX, qe, qY, qg⟩ ⟨pool, fl, th, su, ifs, flds, mths⟩) 53)
  unfold flC at k1
  have hfl : flC ⟨qA, qc, qI, qd, qX, qe, qY, qg⟩ ⟨pool, fl, th, su, ifs, flds, mths⟩ = #[.slice qA pool.length qc, .int .i64 fl, .int .i64 th, .int .i64 su, .slice qI ifs.length qd, .slice qX flds.length qe, .slice qY mths.length qg] := rfl
  rw [hfl] at hB ⊢
  clear hfl
  simp only [] at k1
  go_enter Tryd.func43, Tryd.ntmps43
  go_wp2_with fail
  refine (k1.out _ (rdF_below hr0.out hB)).mono ?_
  rintro e w1 ⟨rfl, hb1⟩
  have K1 := Lib.hid (blk_below hK.out hb1)
  have B1 := below_then hB (by simp) hb1
  have S1 := B1.size
  clear hK hb1 k1 hB
  have hfail : T = false → R = (⟨#[]⟩, false) := by
    intro hT
    rw [HE.out]
    have := HT.out
    rw [hT] at this
    cases hg : Sp.get pool i with
    | none => rfl
    | some x =>
      rw [hg] at this
      simp only at this ⊢
      rw [if_neg]
      intro q
      rw [decide_eq_true q] at this
      cases this
  cases T with
  | false =>
    have hR := hfail rfl
    subst hR
    clear HE HT hfail
    go_wp2
    go_ret2
    exact ⟨rfl, B1⟩
  | true =>
    clear hfail
    rcases Sp.get_cases pool i with ⟨h1, h2⟩ | ⟨h1, h2, h3⟩ | ⟨k, hk, rfl, h3⟩
    · have := HT.out; rw [h2] at this; cases this
    · have := HT.out; rw [h3] at this; cases this
    · have ht : pool[k].tag = 4 := by have := HT.out; rw [h3] at this; simpa using this.symm
      have hR : R = Sp.cnameS pool pool[k].a := by rw [HE.out, h3]; simp only; rw [if_pos ht]
      obtain ⟨b, o, rfl, hrg⟩ := HP.out (by omega)
      obtain ⟨d0, d1, d2, d3, d4, d5⟩ := cn_cells hrg hk
      have e3 := cell_below B1 d3
      have he := World.block_lt_of_cell? _ _ e3
      have h5 : (k : Int) < (pool.length : Int) := by omega
      have h50 : (0 : Int) ≤ (k : Int) := by omega
      have h6 : (k : Int) + 1 - 1 = (k : Int) := by omega
      have hin := ha _ (List.getElem_mem hk)
      clear HE HT h3 hrg d0 d1 d2 d3 d4 d5 ht ha
      generalize pool[k].a = y at *
      have k2 := Lib.hid (fun W hr => refCname_any ⟨some ⟨b, o, none⟩, qc, qI, qd, qX, qe, qY, qg⟩ ⟨pool, fl, th, su, ifs, flds, mths⟩ y W hr hin)
      simp only [] at k2
      generalize Sp.cnameS pool y = N at *
      obtain ⟨n1, n2⟩ := N
      subst hR
      obtain ⟨c0, c1, c2, c3, c4, c5, c6⟩ := flC_box K1.out
      have hlk := blk_lt K1.out
      have r1 := Lib.hid (rdF_below hr0.out B1)
      have r2 := Lib.hid (rdF_below hr0.out B1.drew)
      unfold flC at k2
      simp only [] at k2
      have hw1 : IntKind.i64.wrap ((k : Int) + 1 - 1) = (k : Int) := by rw [h6]; exact IntWalk.i64_in _ (by omega)
      have hw2 : IntKind.i64.wrap (k : Int) = (k : Int) := IntWalk.i64_in _ (by omega)
      have hw3 : ((k : Int)).toNat = k := by omega
      go_wp2_with fail
      go_region_with (go_at_call 41; refine (k2.out _ (by first | exact r1.out | exact r2.out)).mono ?_; rintro e w2 ⟨rfl, hb2⟩)
      all_goals
        go_wp2
        go_ret2
        exact ⟨rfl, by first | exact below_then B1 S1 hb2 | exact below_then B1.drew S1 hb2⟩

end Go.Proofs.YthpfknlgfkecpaaDoor
end
