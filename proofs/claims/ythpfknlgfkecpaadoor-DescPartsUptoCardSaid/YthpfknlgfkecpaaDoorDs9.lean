/-
  Walk of chapter 2's Sign.
-/
import Derived.Test.YthpfknlgfkecpaaDoorDsSpS
set_option linter.unusedVariables false
set_option linter.unusedSimpArgs false
namespace Go.Proofs.YthpfknlgfkecpaaDoor
open Go.RowKit Go.Lib

theorem blk_under {w w' : World} {Bn b : Nat} {p : Obj} (h : Below Bn w w') (hlt : b < Bn) (hp : w.heap[b]? = some p) : w'.heap[b]? = some p := (h.block b hlt).trans hp
theorem rdT_under {w w1 : World} {A : Option Addr} {l : List Sp.Ty} (h : RdT w A l) (hb : Below w.heap.size w w1) : RdT w1 A l := rdT_below h hb

set_option maxHeartbeats 8000000 in
set_option maxRecDepth 100000 in
theorem sign_any (A : Option Addr) (c : Nat) (l : List Sp.Ty) (d : Int) (n : ByteArray) (vd : Bool) (w : World) (hrd : RdT w A l) (hl : l.length ≤ 1099511627776) (hs : Sp.namesZ l + n.size ≤ 1099511627776) (hT : Tabs w) :
    Calls Tryd.prog 29 #[.agg #[.slice A l.length c, .int .i64 d, .string n, .bool vd]] w fun e w' => e = .returned (.tuple #[.string (Sp.signS (l, (d, n), vd)).1, .int .i64 (Sp.signS (l, (d, n), vd)).2]) ∧ Below w.heap.size w w' := by
  have T0 := Lib.hid hT
  clear hT
  have HE := Lib.hid (show Sp.signS (l, (d, n), vd) = _ by rw [Sp.signS])
  generalize Sp.signS (l, (d, n), vd) = R at HE ⊢
  have HC := Lib.hid hrd.2
  have hl63 := hrd.1
  clear hrd
  go_enter Tryd.func29, Tryd.ntmps29
  have hm := Lib.hid (blk_new w (.cells #[.slice A l.length c, .int .i64 d, .string n, .bool vd] 37))
  have hbm := (Below.refl w.heap.size w).alloc (Nat.le_refl _) (.cells #[.slice A l.length c, .int .i64 d, .string n, .bool vd] 37)
  have hfb := Lib.IsBuilderF.of (Lib.fresh_isBuilder 86 5 (w.alloc (.cells #[.slice A l.length c, .int .i64 d, .string n, .bool vd] 37)))
  have hsz : (w.alloc (.cells #[.slice A l.length c, .int .i64 d, .string n, .bool vd] 37)).heap.size = w.heap.size + 1 := by simp
  rw [hsz] at hfb
  go_wp2_with fail
  refine (writeString_k (w.heap.size + 1) (w.heap.size + 1) [] ⟨#[40]⟩ _ hfb (by show 0 + 1 ≤ _; omega) (by simp)).mono ?_
  rintro e w1 ⟨rfl, hB1, hb1, _⟩
  have hM1 := Lib.hid (blk_under hb1 (Nat.lt_succ_self _) (blk_old hm.out))
  have hbw1 : Below w.heap.size w w1 := ((hbm.alloc (by simp) _).trans (hb1.mono (by omega)))
  have hI1 : Lib.IsBuilderF 86 5 (w.heap.size + 1) (w.heap.size + 1) (Lib.byteCells [40]) w1 := .inr hB1
  clear hB1 hb1 hfb hbm hm
  obtain ⟨⟨c0, c1, c2, c3⟩, f0, f1, f2, f3⟩ := blk4 hM1.out
  go_wp2
  clear c0 c1 c2 c3 f0 f1 f2 f3
  go_loopw [15] (fun v15 wr => ∃ (k : Nat) (acc : List UInt8), v15 = .int .i64 k ∧ k ≤ l.length ∧ Lib.IsBuilderF 86 5 (w.heap.size + 1) (w.heap.size + 1) (Lib.byteCells acc) wr ∧ Below w.heap.size w wr ∧ Hid (wr.heap[w.heap.size]? = some (.cells #[.slice A l.length c, .int .i64 d, .string n, .bool vd] 37 (0, 0))) ∧ Hid (acc ++ Sp.argsB (l.drop k) = 40 :: Sp.argsB l) ∧ Hid (Sp.allR (l.drop k) = Sp.allR l) ∧ acc.length + Sp.namesZ (l.drop k) + 6 * (l.drop k).length ≤ Sp.namesZ l + 6 * l.length + 1) (fun v15 _ => l.length - (RowKit.intOf v15).toNat)
  case atStart => exact ⟨0, [40], by go_num, Nat.zero_le _, hI1, hbw1, hM1, Lib.hid rfl, Lib.hid rfl, by simp; omega⟩
  case round =>
    clear hI1 hbw1 hM1
    obtain ⟨k, acc, rfl, hk, hI, hb, hM, hacc, hall, hlen⟩ := hrel
    by_cases hlt : k < l.length
    · obtain ⟨b, o, rfl, hr⟩ := HC.out (by omega)
      obtain ⟨e0, e1⟩ := rdT_get2 hr hlt
      have E0 := cell_below hb e0
      have E1 := cell_below hb e1
      have hnz := Sp.namesZ_get l _ (List.getElem_mem hlt)
      have hd : l.drop k = l[k] :: l.drop (k + 1) := List.drop_eq_getElem_cons hlt
      have hacc2 := hacc.out
      have hall2 := hall.out
      rw [hd] at hacc2 hall2 hlen
      have hzk : (k : Int) < (l.length : Int) := by omega
      have hzl : (l.length : Int) ≤ 9223372036854775807 := by omega
      clear hacc hall hd e0 e1 hr
      generalize l[k] = t at *
      obtain ⟨td, tn⟩ := t
      simp only [] at E0 E1 hnz
      have hacc := Lib.hid hacc2
      have hall := Lib.hid hall2
      clear hacc2 hall2
      have k1 := Lib.hid (fun W hT => write_any td tn W (by omega) hT)
      unfold Sp.tyV at k1
      have hbz := hb.size
      go_wp2_with fail
      refine (k1.out _ (T0.out.below (hb.alloc hbz _))).mono ?_
      rintro e w2 ⟨rfl, hb2⟩
      clear k1
      have hI2 := isBuilderF_below (hI.alloc (.cells #[.int .i64 td, .string tn] 23)) hb2
      have hM2 := Lib.hid (blk_below (blk_old (o := .cells #[.int .i64 td, .string tn] 23) hM.out) hb2)
      have hb' := below_then (hb.alloc hbz (.cells #[.int .i64 td, .string tn] 23)) (by simp; omega) hb2
      have hlt2 := blk_lt hM2.out
      clear hI hM hb hb2 E0 E1
      cases hq : Sp.rightS (td, tn) with
      | false =>
        rw [Sp.writeS_none _ hq]
        have hR : R = (⟨#[]⟩, 9) := by
          rw [HE.out, if_pos]
          rw [← hall.out, Sp.allR, List.all_cons, hq]
          rfl
        subst hR
        clear HE hacc hall hq
        go_wp2
        go_ret2
        exact ⟨rfl, hb'⟩
      | true =>
        rw [Sp.writeS_some _ hq]
        have htl := Sp.typeB_length _ hq
        have hall' := Lib.hid (show Sp.allR (l.drop (k + 1)) = Sp.allR l by rw [← hall.out]; simp [Sp.allR, hq])
        have hacc' := Lib.hid (show (acc ++ Sp.typeB (td, tn)) ++ Sp.argsB (l.drop (k + 1)) = 40 :: Sp.argsB l by rw [← hacc.out, Sp.argsB, List.append_assoc])
        simp only [Sp.namesZ, List.length_cons, List.length_drop] at hlen
        clear hacc hall hq
        generalize Sp.typeB (td, tn) = tb at *
        have htz : (Sp.B tb).size = tb.length := Sp.B_size tb
        have hbz2 : (Lib.byteCells acc).length = acc.length := Lib.byteCells_length acc
        go_wp2_with fail
        refine (writeString_k (w.heap.size + 1) (w.heap.size + 1) (Lib.byteCells acc) (Sp.B tb) w2 hI2 (by omega) (by omega)).mono ?_
        rintro e w3 ⟨rfl, hB3, hb3, _⟩
        have hM3 := Lib.hid (blk_under hb3 (Nat.lt_succ_self _) hM2.out)
        have hI3 : Lib.IsBuilderF 86 5 (w.heap.size + 1) (w.heap.size + 1) (Lib.byteCells (acc ++ tb)) w3 := by rw [Lib.byteCells_append]; exact .inr hB3
        have hb3' := hb'.trans (hb3.mono (by omega))
        clear hB3 hb3 hb' hM2 hI2
        go_wp2
        go_roundw
        case rel => exact ⟨k + 1, acc ++ tb, by go_num, by omega, hI3, hb3', hM3, hacc', hall', by simp only [List.length_append, List.length_drop]; omega⟩
        case measure => simp [RowKit.intOf]; omega
    · obtain rfl : k = l.length := by omega
      have hzk : ¬ (l.length : Int) < (l.length : Int) := by omega
      have hall2 : Sp.allR l = true := by rw [← hall.out]; simp [Sp.allR]
      have hacc2 : acc = 40 :: Sp.argsB l := by rw [← hacc.out]; simp [Sp.argsB]
      subst hacc2
      have HE2 := HE.out
      rw [if_neg (by rw [hall2]; decide)] at HE2
      have hbz := hb.size
      have hlt2 := blk_lt hM.out
      have k2 := Lib.hid (fun W hT => write_any d n W (by omega) hT)
      unfold Sp.tyV at k2
      clear HE hall hacc hall2
      obtain ⟨⟨c0, c1, c2, c3⟩, f0, f1, f2, f3⟩ := blk4 hM.out
      have hla : (Sp.argsB l).length ≤ 8 * 1099511627776 := by simp at hlen; omega
      generalize Sp.argsB l = al at *
      go_wp2_with fail
      refine (k2.out _ (T0.out.below hb)).mono ?_
      rintro e w2 ⟨rfl, hb2⟩
      clear k2
      have hI2 := isBuilderF_below hI hb2
      have hM2 := Lib.hid (blk_below hM.out hb2)
      have hb' := below_then hb hbz hb2
      have hbs := hb2.size
      clear hI hM hb hb2 c0 c1 c2 c3 f0 f1 f2 f3
      obtain ⟨⟨c0, c1, c2, c3⟩, f0, f1, f2, f3⟩ := blk4 hM2.out
      cases hq : Sp.rightS (d, n) with
      | false =>
        rw [Sp.writeS_none _ hq]
        have hR : R = (⟨#[]⟩, 9) := by rw [HE2, if_pos (.inl hq)]
        subst hR
        clear HE2 hq
        go_wp2
        go_ret2
        exact ⟨rfl, hb'⟩
      | true =>
        rw [Sp.writeS_some _ hq]
        have htl := Sp.typeB_length _ hq
        have hdm := Sp.rightS_dims _ hq
        simp only [] at HE2 htl hdm
        rw [hq] at HE2
        clear hq
        generalize htb : Sp.typeB (d, n) = tb at *
        have HE3 := Lib.hid HE2
        clear HE2
        have hh16 : 16 < l.length ∨ ¬ 16 < l.length := by omega
        cases vd with
        | true =>
          by_cases hz : d = 0 ∧ n.size = 0
          · obtain ⟨hz1, hz2⟩ := hz
            obtain rfl := str_empty n hz2
            subst hz1
            have HE4 := Lib.hid (show R = if 16 < l.length then (⟨#[]⟩, 3) else (Sp.B (40 :: al ++ 41 :: [86]), 0) by rw [HE3.out, if_neg (by rintro (h | ⟨_, h⟩); exact absurd h (by decide); exact h rfl)]; rfl)
            clear HE3
            rcases hh16 with h16 | h16
            · have hR : R = (⟨#[]⟩, 3) := by rw [HE4.out, if_pos h16]
              have hz : (16 : Int) < (l.length : Int) := by omega
              subst hR
              clear HE4
              go_wp2
              go_ret2
              exact ⟨rfl, hb'⟩
            · have hR : R = (Sp.B (40 :: al ++ 41 :: [86]), 0) := by rw [HE4.out, if_neg h16]
              have hz : ¬ (16 : Int) < (l.length : Int) := by omega
              subst hR
              clear HE4
              go_wp2_with (go_at_call 55; refine (Tryd.Builder_String_any_k (w.heap.size + 1) (w.heap.size + 1) (40 :: al) _ hI2 (by omega)).mono ?_)
              rintro e w3 ⟨rfl, _, hb3, _⟩
              go_wp2
              go_ret2
              exact ⟨congrArg (fun x => Ending.returned (.tuple #[.string x, .int .i64 0])) (cat_T al _), hb'.trans (hb3.mono (by omega))⟩
          · have hR : R = (⟨#[]⟩, 9) := by
              rw [HE3.out, if_pos]
              refine .inr ⟨rfl, fun h => hz ?_⟩
              injection h with h1 h2
              exact ⟨h1, by rw [h2]; rfl⟩
            subst hR
            clear HE3
            by_cases h0 : d = 0
            · have hn0 : ¬ n.size = 0 := fun h => hz ⟨h0, h⟩
              have hne : (n.toList == []) = false := by
                rw [Bool.eq_false_iff]
                intro q
                have := (bytes_beq_iff n ⟨#[]⟩).1 (by simpa using q)
                rw [this] at hn0
                exact hn0 rfl
              subst h0
              go_wp2
              go_ret2
              exact ⟨rfl, hb'⟩
            · have hnb : (d == 0) = false := by rw [beq_eq_false_iff_ne]; exact h0
              go_wp2
              go_ret2
              exact ⟨rfl, hb'⟩
        | false =>
          have HE4 := Lib.hid (show R = if 16 < l.length then (⟨#[]⟩, 3) else (Sp.B (40 :: al ++ 41 :: tb), 0) by rw [HE3.out, if_neg (by rintro (h | ⟨h, _⟩) <;> exact absurd h (by decide))]; simp [htb])
          clear HE3
          rcases hh16 with h16 | h16
          · have hR : R = (⟨#[]⟩, 3) := by rw [HE4.out, if_pos h16]
            have hz : (16 : Int) < (l.length : Int) := by omega
            subst hR
            clear HE4
            go_wp2
            go_ret2
            exact ⟨rfl, hb'⟩
          · have hR : R = (Sp.B (40 :: al ++ 41 :: tb), 0) := by rw [HE4.out, if_neg h16]
            have hz : ¬ (16 : Int) < (l.length : Int) := by omega
            have htz : (Sp.B tb).size = tb.length := Sp.B_size tb
            subst hR
            clear HE4
            go_wp2_with (go_at_call 55; refine (Tryd.Builder_String_any_k (w.heap.size + 1) (w.heap.size + 1) (40 :: al) _ hI2 (by omega)).mono ?_)
            rintro e w3 ⟨rfl, _, hb3, _⟩
            go_wp2
            go_ret2
            exact ⟨congrArg (fun x => Ending.returned (.tuple #[.string x, .int .i64 0])) (cat_T al _), hb'.trans (hb3.mono (by omega))⟩
end Go.Proofs.YthpfknlgfkecpaaDoor
