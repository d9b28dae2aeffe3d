/-
  Walk of the reference's Sign.
-/
import Derived.Test.YthpfknlgfkecpaaDoorDs9
set_option linter.unusedVariables false
set_option linter.unusedSimpArgs false
namespace Go.Proofs.YthpfknlgfkecpaaDoor
open Go.RowKit Go.Lib

set_option maxHeartbeats 8000000 in
set_option maxRecDepth 100000 in
theorem refSign_any (A : Option Addr) (c : Nat) (l : List Sp.Ty) (d : Int) (n : ByteArray) (vd : Bool) (w : World) (hrd : RdT w A l) (hl : l.length ≤ 1099511627776) (hs : Sp.namesZ l + n.size ≤ 1099511627776) :
    Calls Tryd.prog 30 #[.agg #[.slice A l.length c, .int .i64 d, .string n, .bool vd]] w fun e w' => e = .returned (.tuple #[.string (Sp.signS (l, (d, n), vd)).1, .int .i64 (Sp.signS (l, (d, n), vd)).2]) ∧ Below w.heap.size w w' := by
  have HE := Lib.hid (show Sp.signS (l, (d, n), vd) = _ by rw [Sp.signS])
  generalize Sp.signS (l, (d, n), vd) = R at HE ⊢
  have HC := Lib.hid hrd.2
  have hl63 := hrd.1
  clear hrd
  go_enter Tryd.func30, Tryd.ntmps30
  have hm := Lib.hid (blk_new w (.cells #[.slice A l.length c, .int .i64 d, .string n, .bool vd] 40))
  have hbm := (Below.refl w.heap.size w).alloc (Nat.le_refl _) (.cells #[.slice A l.length c, .int .i64 d, .string n, .bool vd] 40)
  go_wp2
  go_loopw [4, 5] (fun v4 v5 wr => ∃ (k : Nat) (acc : List UInt8), v4 = .string (Sp.B acc) ∧ v5 = .int .i64 k ∧ k ≤ l.length ∧ Below w.heap.size w wr ∧ Hid (wr.heap[w.heap.size]? = some (.cells #[.slice A l.length c, .int .i64 d, .string n, .bool vd] 40 (0, 0))) ∧ Hid (acc ++ Sp.argsB (l.drop k) = 40 :: Sp.argsB l) ∧ Hid (Sp.allR (l.drop k) = Sp.allR l) ∧ acc.length + Sp.namesZ (l.drop k) + 6 * (l.drop k).length ≤ Sp.namesZ l + 6 * l.length + 1) (fun _ v5 _ => l.length - (RowKit.intOf v5).toNat)
  case atStart => exact ⟨0, [40], rfl, by go_num, Nat.zero_le _, hbm, hm, Lib.hid rfl, Lib.hid rfl, by simp; omega⟩
  case round =>
    clear hbm hm
    obtain ⟨k, acc, rfl, rfl, hk, hb, hM, hacc, hall, hlen⟩ := hrel
    obtain ⟨⟨c0, c1, c2, c3⟩, f0, f1, f2, f3⟩ := blk4 hM.out
    by_cases hlt : k < l.length
    · obtain ⟨b, o, rfl, hr⟩ := HC.out (by omega)
      obtain ⟨e0, e1⟩ := rdT_get2 hr hlt
      have E0 := cell_below hb e0
      have E1 := cell_below hb e1
      have hnz := Sp.namesZ_get l _ (List.getElem_mem hlt)
      have hd : l.drop k = l[k] :: l.drop (k + 1) := List.drop_eq_getElem_cons hlt
      have hacc2 := hacc.out
      have hall2 := hall.out
      rw [hd] at hacc2 hall2 hlen
      have hzk : (k : Int) < (l.length : Int) := by omega
      have hzl : (l.length : Int) ≤ 9223372036854775807 := by omega
      clear hacc hall hd e0 e1 hr
      generalize l[k] = t at *
      obtain ⟨td, tn⟩ := t
      simp only [] at E0 E1 hnz
      have hacc := Lib.hid hacc2
      have hall := Lib.hid hall2
      clear hacc2 hall2
      have k1 := Lib.hid (fun W => refWrite_any td tn W (by omega))
      unfold Sp.tyV at k1
      have hbz := hb.size
      go_wp2_with fail
      refine (k1.out _).mono ?_
      rintro e w2 ⟨rfl, hb2⟩
      clear k1
      have hM2 := Lib.hid (blk_below hM.out hb2)
      have hb' := below_then hb hbz hb2
      have hlt2 := blk_lt hM2.out
      clear hM hb hb2 E0 E1 c0 c1 c2 c3 f0 f1 f2 f3
      cases hq : Sp.rightS (td, tn) with
      | false =>
        rw [Sp.writeS_none _ hq]
        have hR : R = (⟨#[]⟩, 9) := by
          rw [HE.out, if_pos]
          rw [← hall.out, Sp.allR, List.all_cons, hq]
          rfl
        subst hR
        clear HE hacc hall hq
        go_wp2
        go_ret2
        exact ⟨rfl, hb'⟩
      | true =>
        rw [Sp.writeS_some _ hq]
        have htl := Sp.typeB_length _ hq
        have hall' := Lib.hid (show Sp.allR (l.drop (k + 1)) = Sp.allR l by rw [← hall.out]; simp [Sp.allR, hq])
        have hacc' := Lib.hid (show (acc ++ Sp.typeB (td, tn)) ++ Sp.argsB (l.drop (k + 1)) = 40 :: Sp.argsB l by rw [← hacc.out, Sp.argsB, List.append_assoc])
        simp only [Sp.namesZ, List.length_cons, List.length_drop] at hlen
        clear hacc hall hq
        generalize Sp.typeB (td, tn) = tb at *
        have htz : (Sp.B tb).size = tb.length := Sp.B_size tb
        have haz : (Sp.B acc).size = acc.length := Sp.B_size acc
        have hcat : Sp.B acc ++ Sp.B tb = Sp.B (acc ++ tb) := Sp.B_append acc tb
        go_wp2
        go_roundw
        case rel => exact ⟨k + 1, acc ++ tb, by first | rfl | rw [hcat], by go_num, by omega, hb', hM2, hacc', hall', by simp only [List.length_append, List.length_drop]; omega⟩
        case measure => simp [RowKit.intOf]; omega
    · obtain rfl : k = l.length := by omega
      have hzk : ¬ (l.length : Int) < (l.length : Int) := by omega
      have hall2 : Sp.allR l = true := by rw [← hall.out]; simp [Sp.allR]
      have hacc2 : acc = 40 :: Sp.argsB l := by rw [← hacc.out]; simp [Sp.argsB]
      subst hacc2
      have HE2 := HE.out
      rw [if_neg (by rw [hall2]; decide)] at HE2
      have hbz := hb.size
      have hlt2 := blk_lt hM.out
      have k2 := Lib.hid (fun W => refWrite_any d n W (by omega))
      unfold Sp.tyV at k2
      clear HE hall hacc hall2
      have hla : (Sp.argsB l).length ≤ 8 * 1099511627776 := by simp at hlen; omega
      generalize Sp.argsB l = al at *
      have haz : (Sp.B (40 :: al)).size = al.length + 1 := by rw [Sp.B_size]; rfl
      go_wp2_with fail
      refine (k2.out _).mono ?_
      rintro e w2 ⟨rfl, hb2⟩
      clear k2
      have hM2 := Lib.hid (blk_below hM.out hb2)
      have hb' := below_then hb hbz hb2
      have hbs := hb2.size
      clear hM hb hb2 c0 c1 c2 c3 f0 f1 f2 f3
      obtain ⟨⟨c0, c1, c2, c3⟩, f0, f1, f2, f3⟩ := blk4 hM2.out
      cases hq : Sp.rightS (d, n) with
      | false =>
        rw [Sp.writeS_none _ hq]
        have hR : R = (⟨#[]⟩, 9) := by rw [HE2, if_pos (.inl hq)]
        subst hR
        clear HE2 hq
        go_wp2
        go_ret2
        exact ⟨rfl, hb'⟩
      | true =>
        rw [Sp.writeS_some _ hq]
        have htl := Sp.typeB_length _ hq
        have hdm := Sp.rightS_dims _ hq
        simp only [] at HE2 htl hdm
        rw [hq] at HE2
        clear hq
        generalize htb : Sp.typeB (d, n) = tb at *
        have HE3 := Lib.hid HE2
        clear HE2
        have hh16 : 16 < l.length ∨ ¬ 16 < l.length := by omega
        cases vd with
        | true =>
          by_cases hz : d = 0 ∧ n.size = 0
          · obtain ⟨hz1, hz2⟩ := hz
            obtain rfl := str_empty n hz2
            subst hz1
            have HE4 := Lib.hid (show R = if 16 < l.length then (⟨#[]⟩, 3) else (Sp.B (40 :: al ++ 41 :: [86]), 0) by rw [HE3.out, if_neg (by rintro (h | ⟨_, h⟩); exact absurd h (by decide); exact h rfl)]; rfl)
            clear HE3
            rcases hh16 with h16 | h16
            · have hR : R = (⟨#[]⟩, 3) := by rw [HE4.out, if_pos h16]
              have hz : (16 : Int) < (l.length : Int) := by omega
              subst hR
              clear HE4
              go_wp2
              go_ret2
              exact ⟨rfl, hb'⟩
            · have hR : R = (Sp.B (40 :: al ++ 41 :: [86]), 0) := by rw [HE4.out, if_neg h16]
              have hz : ¬ (16 : Int) < (l.length : Int) := by omega
              subst hR
              clear HE4
              go_wp2
              go_ret2
              exact ⟨congrArg (fun x => Ending.returned (.tuple #[.string x, .int .i64 0])) (show Sp.B (40 :: al) ++ Sp.B [41, 86] = Sp.B (40 :: al ++ 41 :: [86]) from Sp.B_append _ _), hb'⟩
          · have hR : R = (⟨#[]⟩, 9) := by
              rw [HE3.out, if_pos]
              refine .inr ⟨rfl, fun h => hz ?_⟩
              injection h with h1 h2
              exact ⟨h1, by rw [h2]; rfl⟩
            subst hR
            clear HE3
            by_cases h0 : d = 0
            · have hn0 : ¬ n.size = 0 := fun h => hz ⟨h0, h⟩
              have hne : (n.toList == []) = false := by
                rw [Bool.eq_false_iff]
                intro q
                have := (bytes_beq_iff n ⟨#[]⟩).1 (by simpa using q)
                rw [this] at hn0
                exact hn0 rfl
              subst h0
              go_wp2
              go_ret2
              exact ⟨rfl, hb'⟩
            · have hnb : (d == 0) = false := by rw [beq_eq_false_iff_ne]; exact h0
              go_wp2
              go_ret2
              exact ⟨rfl, hb'⟩
        | false =>
          have HE4 := Lib.hid (show R = if 16 < l.length then (⟨#[]⟩, 3) else (Sp.B (40 :: al ++ 41 :: tb), 0) by rw [HE3.out, if_neg (by rintro (h | ⟨h, _⟩) <;> exact absurd h (by decide))]; simp [htb])
          clear HE3
          rcases hh16 with h16 | h16
          · have hR : R = (⟨#[]⟩, 3) := by rw [HE4.out, if_pos h16]
            have hz : (16 : Int) < (l.length : Int) := by omega
            subst hR
            clear HE4
            go_wp2
            go_ret2
            exact ⟨rfl, hb'⟩
          · have hR : R = (Sp.B (40 :: al ++ 41 :: tb), 0) := by rw [HE4.out, if_neg h16]
            have hz : ¬ (16 : Int) < (l.length : Int) := by omega
            have htz : (Sp.B tb).size = tb.length := Sp.B_size tb
            subst hR
            clear HE4
            go_wp2
            go_ret2
            exact ⟨congrArg (fun x => Ending.returned (.tuple #[.string x, .int .i64 0])) (cat_T al _), hb'⟩
end Go.Proofs.YthpfknlgfkecpaaDoor
