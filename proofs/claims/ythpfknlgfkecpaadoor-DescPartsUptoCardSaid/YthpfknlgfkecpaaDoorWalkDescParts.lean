/-
  The law DescParts: its walk. (Printed by gen_parts.py.)
-/
import Derived.Test.YthpfknlgfkecpaaDoorWalkDescBack
import Derived.Deep.RegionHeld3
import Derived.Deep.RegionWith
import Derived.Deep.DeepCutAuto
set_option linter.unusedVariables false
set_option linter.unusedSimpArgs false
namespace Go.Proofs.YthpfknlgfkecpaaDoor
open Go.RowKit Go.Lib

namespace Sp
theorem namesZ_take (l : List Ty) (k : Nat) : namesZ (l.take k) ≤ namesZ l := by
  have := namesZ_append (l.take k) (l.drop k)
  rw [List.take_append_drop] at this
  omega
theorem allR_snoc (l : List Ty) (t : Ty) : allR (l ++ [t]) = (allR l && rightS t) := by simp [allR]
theorem isRef_right (d : Int) (n : ByteArray) (h : rightS (d, n) = true) : isRefS (d, n) = (decide (0 < d) || decide (n.size ≠ 0)) := by simp [isRefS, h]
theorem allR_get (l : List Ty) (h : allR l = true) (k : Nat) (hk : k < l.length) : rightS l[k] = true := List.all_eq_true.1 h _ (List.getElem_mem hk)
end Sp
theorem arr_get {α : Type} (l : List α) (i : Nat) (x : α) (h : l[i]? = some x) : l.toArray[i]? = some x := by simpa using h
theorem rdT_take {w : World} {A : Option Addr} {l : List Sp.Ty} (h : RdT w A l) (k : Nat) : RdT w A (l.take k) := by
  refine ⟨by have := h.1; rw [List.length_take]; omega, fun h0 => ?_⟩
  rw [List.length_take] at h0
  obtain ⟨b, o, hA, hr⟩ := h.2 (by omega)
  refine ⟨b, o, hA, fun j v hj => hr j v ?_⟩
  have := Sp.tyCells_append (l.take k) (l.drop k)
  rw [List.take_append_drop] at this
  rw [this, List.getElem?_append_left]
  · exact hj
  · exact (List.getElem?_eq_some_iff.1 hj).1

set_option maxHeartbeats 8000000 in
set_option maxRecDepth 100000 in
theorem walkDescParts (A : Option Addr) (c : Nat) (l : List Sp.Ty) (t : Sp.Ty) (v : Bool) (w : World) (hrd : RdT w A l) (_hel : ∀ t ∈ l, (-9223372036854775808 ≤ t.1 ∧ t.1 ≤ 9223372036854775807) ∧ t.2.size ≤ maxLen) (hcap : l.length ≤ c ∧ (A = none → c = 0)) (_hd : -9223372036854775808 ≤ t.1 ∧ t.1 ≤ 9223372036854775807) (hT : Tabs w) (hbulk : Sp.namesZ l + l.length ≤ 1048576) (htb : t.2.size ≤ 1048576) :
    Calls Tryd.prog 8 #[.slice A l.length c, Sp.tyV t, .bool v] w fun e w' => e = .returned (.bool true) ∧ Below w.heap.size w w' := by
  obtain ⟨d, n⟩ := t
  simp only [] at htb
  clear _hel _hd
  have T0 := Lib.hid hT
  clear hT
  unfold Sp.tyV
  simp only []
  have hk := Lib.hid (fun W hT => shown2_any W hT)
  have hrd0 := Lib.hid hrd
  have hc16 := Lib.hid hcap
  clear hcap
  clear hrd
  go_enter Tryd.func8, Tryd.ntmps8
  have hK := Lib.hid (blk_new w (.cells #[.int .i64 d, .string n] 23))
  have hB := (Below.refl w.heap.size w).alloc (Nat.le_refl _) (.cells #[.int .i64 d, .string n] 23)
  have hS : w.heap.size ≤ (w.alloc (.cells #[.int .i64 d, .string n] 23)).heap.size := by simp
  go_wp2_with fail
  generalize w.alloc (.cells #[.int .i64 d, .string n] 23) = W0 at *
  refine (hk.out _ (T0.out.below hB)).mono ?_
  rintro e w1 ⟨rfl, hb1⟩
  clear hk
  have K1 := Lib.hid (blk_below hK.out hb1)
  have B1 := below_then hB hS hb1
  have S1 := B1.size
  clear hK hB hS hb1
  have hl63 : (l.length : Int) ≤ 9223372036854775807 := by omega
  go_upto_if 25 with fail
  go_cut [0] (fun s0 wx => ∃ (l' : List Sp.Ty) (c' : Nat) , s0 = .slice A l'.length c' ∧ Hid (RdT w A l') ∧ l'.length ≤ 16 ∧ Sp.namesZ l' ≤ 1048576 ∧ wx = w1)
  case first =>
    by_cases h16 : 16 < l.length
    · have hz : (16 : Int) < (l.length : Int) := by omega
      obtain ⟨b, off, rfl, hr⟩ := hrd0.out.2 (by omega)
      have hcc : 16 ≤ c := by have := hc16.out.1; omega
      go_wp2_with fail
      go_meet
      have hlt : (l.take 16).length = 16 := by rw [List.length_take]; omega
      exact ⟨l.take 16, c, by rw [hlt], Lib.hid (rdT_take hrd0.out 16), by omega, by have := Sp.namesZ_take l 16; omega, rfl⟩
    · have hz : ¬ (16 : Int) < (l.length : Int) := by omega
      go_wp2_with fail
      go_meet
      exact ⟨l, c, rfl, hrd0, by omega, by omega, rfl⟩
  case rest =>

    obtain ⟨l', c', rfl, hrd', h16, hnz, hw⟩ := hcut
    subst hw
    clear hrd0 hc16 hl63 hbulk
    go_wp2
    go_loopw [8, 9] (fun v8 v9 wr => ∃ (k : Nat) (acc : List UInt8), v8 = .string (Sp.B acc) ∧ v9 = .int .i64 k ∧ k ≤ l'.length ∧ Below w.heap.size w wr ∧ Hid (wr.heap[w.heap.size]? = some (.cells #[.int .i64 d, .string n] 23 (0, 0))) ∧ Hid (acc = 40 :: Sp.argsB (l'.take k)) ∧ Hid (Sp.allR (l'.take k) = true)) (fun _ v9 _ => l'.length - (RowKit.intOf v9).toNat)
    case atStart => exact ⟨0, [40], rfl, by go_num, Nat.zero_le _, B1, K1, Lib.hid rfl, Lib.hid rfl⟩
    case round =>
      obtain ⟨k, acc, rfl, rfl, hk, hb, hK, hacc, hall⟩ := hrel
      have hbz := hb.size
      have hal : acc.length ≤ 1048576 + 6 * 16 + 1 := by
        have h1 := Sp.argsB_max _ hall.out
        have h2 := Sp.namesZ_take l' k
        rw [hacc.out, List.length_cons]
        have h3 : (l'.take k).length ≤ 16 := by rw [List.length_take]; omega
        omega
      have haz : (Sp.B acc).size = acc.length := Sp.B_size acc
      have hzs : (Sp.B acc).size ≤ 1048576 + 6 * 16 + 1 := by omega
      clear haz hal
      by_cases hlt : k < l'.length
      · obtain ⟨b, off, rfl, hr⟩ := hrd'.out.2 (by omega)
        obtain ⟨e0, e1⟩ := rdT_get2 hr hlt
        have E0 := cell_below hb e0
        have E1 := cell_below hb e1
        have hnz' := Sp.namesZ_get l' _ (List.getElem_mem hlt)
        have hd : l'.take (k + 1) = l'.take k ++ [l'[k]] := List.take_succ_eq_append_getElem hlt
        have hzk : (k : Int) < (l'.length : Int) := by omega
        have hacc2 := hacc.out
        have hall2 := hall.out
        clear hacc hall e0 e1 hr
        generalize l'[k] = t at *
        obtain ⟨td, tn⟩ := t
        simp only [] at E0 E1 hnz'
        have hd' := Lib.hid hd
        have hacc := Lib.hid hacc2
        have hall := Lib.hid hall2
        clear hd hacc2 hall2
        have k1 := Lib.hid (fun W hT => write_any td tn W (by omega) hT)
        unfold Sp.tyV at k1
        go_wp2_with fail
        refine (k1.out _ (T0.out.below hb)).mono ?_
        rintro e w2 ⟨rfl, hb2⟩
        clear k1
        have hK2 := Lib.hid (blk_below hK.out hb2)
        have hb' := below_then hb hbz hb2
        clear hK hb hb2 E0 E1
        cases hq : Sp.rightS (td, tn) with
        | false =>
          rw [Sp.writeS_none _ hq]
          go_wp2
          go_ret
          exact ⟨rfl, hb'⟩
        | true =>
          rw [Sp.writeS_some _ hq]
          have htl := Sp.typeB_length _ hq
          simp only [] at htl
          have hacc' := Lib.hid (show acc ++ Sp.typeB (td, tn) = 40 :: Sp.argsB (l'.take (k + 1)) by rw [hd'.out, Sp.argsB_append, hacc.out]; simp [Sp.argsB])
          have hall' := Lib.hid (show Sp.allR (l'.take (k + 1)) = true by rw [hd'.out, Sp.allR_snoc, hall.out, hq]; rfl)
          clear hacc hall hq hd'
          generalize Sp.typeB (td, tn) = tb at *
          have htz : (Sp.B tb).size = tb.length := Sp.B_size tb
          have htzz : (Sp.B tb).size ≤ 1048576 + 6 := by omega
          clear htz htl
          have hcat : Sp.B acc ++ Sp.B tb = Sp.B (acc ++ tb) := Sp.B_append acc tb
          go_wp2
          go_roundw
          case rel => exact ⟨k + 1, acc ++ tb, by first | rfl | rw [hcat], by go_num, by omega, hb', hK2, hacc', hall'⟩
          case measure => simp [RowKit.intOf]; omega
      · obtain rfl : k = l'.length := by omega
        have hzk : ¬ (l'.length : Int) < (l'.length : Int) := by omega
        have hall2 : Sp.allR l' = true := by have := hall.out; rwa [List.take_length] at this
        have hacc2 : acc = 40 :: Sp.argsB l' := by have := hacc.out; rwa [List.take_length] at this
        subst hacc2
        clear hacc hall
        have k2 := Lib.hid (fun W hT => write_any d n W (by omega) hT)
        unfold Sp.tyV at k2
        obtain ⟨⟨c0, c1⟩, f0, f1⟩ := blk2 hK.out
        go_wp2_with fail
        refine (k2.out _ (T0.out.below hb)).mono ?_
        rintro e w2 ⟨rfl, hb2⟩
        have hK2 := blk_below hK.out hb2
        have hb' := below_then hb hbz hb2
        have hbz2 := hb'.size
        have hlt2 := blk_lt hK2
        clear k2 hK hb hb2 hbz c0 c1 f0 f1
        obtain ⟨⟨c0, c1⟩, f0, f1⟩ := blk2 hK2
        clear hK2
        cases hq : Sp.rightS (d, n) with
        | false =>
          rw [Sp.writeS_none _ hq]
          go_wp2
          go_ret
          exact ⟨rfl, hb'⟩
        | true =>
          rw [Sp.writeS_some _ hq]
          have htl := Sp.typeB_length _ hq
          simp only [] at htl
          have hlen16 : ¬ 16 < l'.length := by omega
          cases v with
          | true =>
            have hsg : Sp.signS (l', (0, ⟨#[]⟩), true) = (Sp.B (40 :: Sp.argsB l' ++ 41 :: [86]), 0) := by
              have := Sp.sign_of (l', (0, ⟨#[]⟩), true) hall2 (by exact Sp.right_t0) (by intro _; rfl) hlen16
              simpa using this
            have hmt : Sp.methodS (Sp.B (40 :: Sp.argsB l' ++ 41 :: [86])) = ((l', (0, ⟨#[]⟩), true), 0) := by
              have := Sp.method_text l' (0, ⟨#[]⟩) true hall2 (by exact Sp.right_t0) hlen16 (by intro _; rfl)
              simpa using this
            have hcat := cat_T (Sp.argsB l') ([86])
            have hPz : (⟨(40 :: Sp.argsB l').toArray⟩ : ByteArray).size ≤ 1048576 + 6 * 16 + 1 := hzs
            have hXz : (Sp.B ([86])).size ≤ 1048576 + 6 := by rw [Sp.B_size]; decide
            have hRz : (Sp.B (40 :: Sp.argsB l' ++ 41 :: [86])).size ≤ 4 * 1048576 := by rw [← hcat]; simp only [ByteArray.size_append]; have : (⟨#[41]⟩ : ByteArray).size = 1 := rfl; omega
            have hrefs := Lib.hid (fun k hk => Sp.allR_get l' hall2 k hk)
            have k4 := Lib.hid (fun W hrd hT => sign_any A c' l' 0 ⟨#[]⟩ true W hrd (by omega) (by show Sp.namesZ l' + 0 ≤ _; clear hall2; omega) hT)
            have k6 := Lib.hid (fun W hT => method_any (Sp.B (40 :: Sp.argsB l' ++ 41 :: [86])) W (by omega) hT)
            rw [hsg] at k4
            rw [hmt] at k6
            unfold Sp.sigV at k6
            simp only [] at k4 k6
            clear hsg hmt hq hall2
            change (⟨(40 :: Sp.argsB l').toArray⟩ ++ ⟨#[41]⟩ ++ (⟨#[86]⟩ : ByteArray) : ByteArray) = _ at hcat
            generalize Sp.B (40 :: Sp.argsB l' ++ 41 :: [86]) = R at *
            have hP0 : Sp.B (40 :: Sp.argsB l') = ⟨(40 :: Sp.argsB l').toArray⟩ := rfl
            rw [hP0]
            clear hP0
            generalize (⟨(40 :: Sp.argsB l').toArray⟩ : ByteArray) = P at *
            generalize hQ : P ++ (⟨#[41]⟩ : ByteArray) = Q at *
            have hQz : Q.size ≤ 1048576 + 6 * 16 + 2 := by rw [← hQ]; simp only [ByteArray.size_append]; have : (⟨#[41]⟩ : ByteArray).size = 1 := rfl; omega
            clear hzs
            have hM := Lib.hid (blk_new w2 (.cells #[.slice A l'.length c', .int .i64 0, .string ⟨#[]⟩, .bool true] 37))
            have hBm := hb'.alloc hbz2 (.cells #[.slice A l'.length c', .int .i64 0, .string ⟨#[]⟩, .bool true] 37)
            have hBz := hBm.size
            have TW := Lib.hid (T0.out.below hBm)
            have RW := Lib.hid (rdT_below hrd'.out hBm)
            go_wp2_with fail
            refine (k4.out _ RW.out TW.out).mono ?_
            rintro e w3 ⟨rfl, hb3⟩
            have M3 := Lib.hid (blk_below hM.out hb3)
            have B3 := below_then hBm hBz hb3
            have S3 := B3.size
            clear hM hBm hBz TW RW hb3 k4 hb' c0 c1 f0 f1
            go_wp2_with fail
            refine (k6.out _ (T0.out.below B3)).mono ?_
            rintro e w4 ⟨A4, c4, rfl, hr4, hb4⟩
            have M4 := Lib.hid (blk_below M3.out hb4)
            have B4 := below_then B3 S3 hb4
            have S4 := B4.size
            clear M3 B3 S3 hb4 k6
            obtain ⟨⟨m0, m1, m2, m3⟩, _⟩ := blk4 M4.out
            have hlm := blk_lt M4.out
            have hN := Lib.hid (blk_new w4 (.cells #[.slice A4 l'.length c4, .int .i64 0, .string ⟨#[]⟩, .bool true] 37))
            have R4 := Lib.hid (rdT_below hr4 ((Below.refl _ _).alloc (Nat.le_refl _) (.cells #[.slice A4 l'.length c4, .int .i64 0, .string ⟨#[]⟩, .bool true] 37)))
            have BN := B4.alloc S4 (.cells #[.slice A4 l'.length c4, .int .i64 0, .string ⟨#[]⟩, .bool true] 37)
            clear hr4
            go_wp2
            clear m0 m1 m2 m3 hlm M4
            go_loopw [19] (fun v19 wr => ∃ k : Nat, v19 = .int .i64 k ∧ k ≤ l'.length ∧ Below w.heap.size w wr ∧ Hid (wr.heap[w4.heap.size]? = some (.cells #[.slice A4 l'.length c4, .int .i64 0, .string ⟨#[]⟩, .bool true] 37 (0, 0))) ∧ Hid (RdT wr A4 l')) (fun v19 _ => l'.length - (RowKit.intOf v19).toNat)
            case atStart => exact ⟨0, by go_num, Nat.zero_le _, BN, hN, R4⟩
            case round =>
              clear hN R4 BN B4
              obtain ⟨k, rfl, hk, hb, hN, hR⟩ := hrel
              have hbz := hb.size
              obtain ⟨⟨n0, n1, n2, n3⟩, _⟩ := blk4 hN.out
              by_cases hlt : k < l'.length
              · obtain ⟨b, off, rfl, hr⟩ := hrd'.out.2 (by omega)
                obtain ⟨b4, off4, rfl, hr4⟩ := hR.out.2 (by omega)
                obtain ⟨e0, e1⟩ := rdT_get2 hr hlt
                obtain ⟨E2, E3⟩ := rdT_get2 hr4 hlt
                have E0 := cell_below hb e0
                have E1 := cell_below hb e1
                have hri := hrefs.out k hlt
                have hnz' := Sp.namesZ_get l' _ (List.getElem_mem hlt)
                have hzk : (k : Int) < (l'.length : Int) := by omega
                have hz0 : (0 : Int) ≤ (k : Int) := by omega
                clear e0 e1 hr hr4
                generalize l'[k] = t at *
                obtain ⟨td, tn⟩ := t
                simp only [] at E0 E1 E2 E3 hnz'
                have k9 := Lib.hid (fun W hT => isRef_any td tn W (by omega) hT)
                rw [Sp.isRef_right td tn hri] at k9
                unfold Sp.tyV at k9
                have TW := Lib.hid (T0.out.below hb)
                clear hri
                have hmk := Lib.hid (show ∀ w', Below wr.heap.size wr w' → (w'.cell? ⟨w4.heap.size, 0, none⟩ = some (.slice (some ⟨b4, off4, none⟩) l'.length c4) ∧ w'.cell? ⟨b, off + k * 2, none⟩ = some (.int .i64 td) ∧ w'.cell? ⟨b, off + k * 2 + 1, none⟩ = some (.string tn) ∧ w'.cell? ⟨b4, off4 + k * 2, none⟩ = some (.int .i64 td) ∧ w'.cell? ⟨b4, off4 + k * 2 + 1, none⟩ = some (.string tn) ∧ Hid (Below wr.heap.size wr w')) from fun w' h => ⟨cell_below h n0, cell_below h E0, cell_below h E1, cell_below h E2, cell_below h E3, Lib.hid h⟩)
                have hq3 : (0 < td ∧ decide (0 < td) = true) ∨ (¬ 0 < td ∧ decide (0 < td) = false ∧ tn.size = 0) ∨ (¬ 0 < td ∧ decide (0 < td) = false ∧ tn.size ≠ 0) := by
                  by_cases q : 0 < td
                  · exact .inl ⟨q, by simp [q]⟩
                  · by_cases q2 : tn.size = 0
                    · exact .inr (.inl ⟨q, by simp [q], q2⟩)
                    · exact .inr (.inr ⟨q, by simp [q], q2⟩)
                rcases hq3 with ⟨q1, q2⟩ | ⟨q1, q2, q3⟩ | ⟨q1, q2, q3⟩
                · rw [q2, Bool.true_or] at k9
                  go_wp2_with fail
                  refine wp_region_held_drew (S := fun w' => w'.cell? ⟨w4.heap.size, 0, none⟩ = some (.slice (some ⟨b4, off4, none⟩) l'.length c4) ∧ w'.cell? ⟨b, off + k * 2, none⟩ = some (.int .i64 td) ∧ w'.cell? ⟨b, off + k * 2 + 1, none⟩ = some (.string tn) ∧ w'.cell? ⟨b4, off4 + k * 2, none⟩ = some (.int .i64 td) ∧ w'.cell? ⟨b4, off4 + k * 2 + 1, none⟩ = some (.string tn) ∧ Hid (Below wr.heap.size wr w')) (by kernel_rfl) (hmk.out _ (Below.refl _ _).drew) (fun hHeld => ?_)
                  refine wpAnyH_take (i := 0) (v := ?_) (by exact arr_get _ _ _ rfl) (by kernel_rfl) (by kernel_rfl) (by kernel_rfl) (fun _ _ _ h => by exact h) (Or.inl ⟨by rfl, ?_⟩) (by assumption) ?_
                  rotate_left 1
                  · intro w hSw
                    (try dsimp only at hSw)
                    go_simp
                    all_goals with_reducible rfl
                  (try simp only [Act.put, List.setIfInBounds_toArray, List.set_cons_zero, List.set_cons_succ])
                  refine wpAnyH_take (i := 1) (v := ?_) (by exact arr_get _ _ _ rfl) (by kernel_rfl) (by kernel_rfl) (by kernel_rfl) (fun _ _ _ h => by exact h) (Or.inl ⟨by rfl, ?_⟩) (by assumption) ?_
                  rotate_left 1
                  · intro w hSw
                    (try dsimp only at hSw)
                    go_simp
                    all_goals with_reducible rfl
                  (try simp only [Act.put, List.setIfInBounds_toArray, List.set_cons_zero, List.set_cons_succ])
                  refine wpAnyH_take (i := 2) (v := ?_) (by exact arr_get _ _ _ rfl) (by kernel_rfl) (by kernel_rfl) (by kernel_rfl) (fun _ _ _ h => by exact h) (Or.inl ⟨by rfl, ?_⟩) (by assumption) ?_
                  rotate_left 1
                  · intro w hSw
                    (try dsimp only at hSw)
                    go_simp
                    all_goals with_reducible rfl
                  (try simp only [Act.put, List.setIfInBounds_toArray, List.set_cons_zero, List.set_cons_succ])
                  refine wpAnyH_take (i := 3) (v := ?_) (by exact arr_get _ _ _ rfl) (by kernel_rfl) (by kernel_rfl) (by kernel_rfl) (fun _ _ _ h => by exact h) (Or.inl ⟨by rfl, ?_⟩) (by assumption) ?_
                  rotate_left 1
                  · intro w hSw
                    (try dsimp only at hSw)
                    go_simp
                    all_goals with_reducible rfl
                  (try simp only [Act.put, List.setIfInBounds_toArray, List.set_cons_zero, List.set_cons_succ])
                  refine wpAnyH_take (i := 4) (v := ?_) (by exact arr_get _ _ _ rfl) (by kernel_rfl) (by kernel_rfl) (by kernel_rfl) (fun _ _ _ h => by exact h) (Or.inl ⟨by rfl, ?_⟩) (by assumption) ?_
                  rotate_left 1
                  · intro w hSw
                    (try dsimp only at hSw)
                    go_simp
                    all_goals with_reducible rfl
                  (try simp only [Act.put, List.setIfInBounds_toArray, List.set_cons_zero, List.set_cons_succ])
                  refine wpAnyH_take (i := 5) (v := ?_) (by exact arr_get _ _ _ rfl) (by kernel_rfl) (by kernel_rfl) (by kernel_rfl) (fun _ _ _ h => by exact h) (Or.inl ⟨by rfl, ?_⟩) (by assumption) ?_
                  rotate_left 1
                  · intro w hSw
                    (try dsimp only at hSw)
                    go_simp
                    all_goals with_reducible rfl
                  (try simp only [Act.put, List.setIfInBounds_toArray, List.set_cons_zero, List.set_cons_succ])
                  refine wpAnyH_take (i := 6) (v := ?_) (by exact arr_get _ _ _ rfl) (by kernel_rfl) (by kernel_rfl) (by kernel_rfl) (fun _ _ _ h => by exact h) (Or.inl ⟨by rfl, ?_⟩) (by assumption) ?_
                  rotate_left 1
                  · intro w hSw
                    (try dsimp only at hSw)
                    go_simp
                    all_goals with_reducible rfl
                  (try simp only [Act.put, List.setIfInBounds_toArray, List.set_cons_zero, List.set_cons_succ])
                  refine wpAnyH_take (i := 7) (v := ?_) (by exact arr_get _ _ _ rfl) (by kernel_rfl) (by kernel_rfl) (by kernel_rfl) (fun _ _ _ h => by exact h) (Or.inl ⟨by rfl, ?_⟩) (by assumption) ?_
                  rotate_left 1
                  · intro w hSw
                    (try dsimp only at hSw)
                    go_simp
                    all_goals with_reducible rfl
                  (try simp only [Act.put, List.setIfInBounds_toArray, List.set_cons_zero, List.set_cons_succ])
                  refine wpAnyH_take (i := 8) (v := ?_) (by exact arr_get _ _ _ rfl) (by kernel_rfl) (by kernel_rfl) (by kernel_rfl) (fun _ _ _ h => by exact h) (Or.inl ⟨by rfl, ?_⟩) (by assumption) ?_
                  rotate_left 1
                  · intro w hSw
                    (try dsimp only at hSw)
                    go_simp
                    all_goals with_reducible rfl
                  (try simp only [Act.put, List.setIfInBounds_toArray, List.set_cons_zero, List.set_cons_succ])
                  refine wpAnyH_take (i := 9) (v := ?_) (by exact arr_get _ _ _ rfl) (by kernel_rfl) (by kernel_rfl) (by kernel_rfl) (fun _ _ _ h => by exact h) (Or.inl ⟨by rfl, ?_⟩) (by assumption) ?_
                  rotate_left 1
                  · intro w hSw
                    (try dsimp only at hSw)
                    go_simp
                    all_goals with_reducible rfl
                  (try simp only [Act.put, List.setIfInBounds_toArray, List.set_cons_zero, List.set_cons_succ])
                  refine wpAnyH_take (i := 10) (v := ?_) (by exact arr_get _ _ _ rfl) (by kernel_rfl) (by kernel_rfl) (by kernel_rfl) (fun _ _ _ h => by exact h) (Or.inl ⟨by rfl, ?_⟩) (by assumption) ?_
                  rotate_left 1
                  · intro w hSw
                    (try dsimp only at hSw)
                    go_simp
                    all_goals with_reducible rfl
                  (try simp only [Act.put, List.setIfInBounds_toArray, List.set_cons_zero, List.set_cons_succ])
                  refine wpAnyH_take (i := 11) (v := ?_) (by exact arr_get _ _ _ rfl) (by kernel_rfl) (by kernel_rfl) (by kernel_rfl) (fun _ _ _ h => by exact h) (Or.inl ⟨by rfl, ?_⟩) (by assumption) ?_
                  rotate_left 1
                  · intro w hSw
                    (try dsimp only at hSw)
                    go_simp
                    all_goals with_reducible rfl
                  (try simp only [Act.put, List.setIfInBounds_toArray, List.set_cons_zero, List.set_cons_succ])
                  refine wpAnyH_take (i := 12) (v := ?_) (by exact arr_get _ _ _ rfl) (by kernel_rfl) (by kernel_rfl) (by kernel_rfl) (fun _ _ _ h => by exact h) (Or.inl ⟨by rfl, ?_⟩) (by assumption) ?_
                  rotate_left 1
                  · intro w hSw
                    (try dsimp only at hSw)
                    go_simp
                    all_goals with_reducible rfl
                  (try simp only [Act.put, List.setIfInBounds_toArray, List.set_cons_zero, List.set_cons_succ])
                  refine wpAnyH_take (i := 13) (v := ?_) (by exact arr_get _ _ _ rfl) (by kernel_rfl) (by kernel_rfl) (by kernel_rfl) (fun _ _ _ h => by exact h) (Or.inl ⟨by rfl, ?_⟩) (by assumption) ?_
                  rotate_left 1
                  · intro w hSw
                    (try dsimp only at hSw)
                    go_simp
                    all_goals with_reducible rfl
                  (try simp only [Act.put, List.setIfInBounds_toArray, List.set_cons_zero, List.set_cons_succ])
                  refine wpAnyH_take (i := 14) (v := ?_) (by exact arr_get _ _ _ rfl) (by kernel_rfl) (by kernel_rfl) (by kernel_rfl) (fun _ _ _ h => by exact h) (Or.inl ⟨by rfl, ?_⟩) (by assumption) ?_
                  rotate_left 1
                  · intro w hSw
                    (try dsimp only at hSw)
                    go_simp
                    all_goals with_reducible rfl
                  (try simp only [Act.put, List.setIfInBounds_toArray, List.set_cons_zero, List.set_cons_succ])
                  refine wpAnyH_take (i := 16) (v := ?_) (by exact arr_get _ _ _ rfl) (by kernel_rfl) (by kernel_rfl) (by kernel_rfl) (fun _ _ _ h => by exact h) (Or.inl ⟨by rfl, ?_⟩) (by assumption) ?_
                  rotate_left 1
                  · intro w hSw
                    (try dsimp only at hSw)
                    go_simp
                    all_goals with_reducible rfl
                  (try simp only [Act.put, List.setIfInBounds_toArray, List.set_cons_zero, List.set_cons_succ])
                  refine wpAnyH_take (i := 17) (v := ?_) (by exact arr_get _ _ _ rfl) (by kernel_rfl) (by kernel_rfl) (by kernel_rfl) (fun _ _ _ h => by exact h) (Or.inl ⟨by rfl, ?_⟩) (by assumption) ?_
                  rotate_left 1
                  · intro w hSw
                    (try dsimp only at hSw)
                    go_simp
                    all_goals with_reducible rfl
                  (try simp only [Act.put, List.setIfInBounds_toArray, List.set_cons_zero, List.set_cons_succ])
                  refine wpAnyH_take (i := 18) (v := ?_) (by exact arr_get _ _ _ rfl) (by kernel_rfl) (by kernel_rfl) (by kernel_rfl) (fun _ _ _ h => by exact h) (Or.inl ⟨by rfl, ?_⟩) (by assumption) ?_
                  rotate_left 1
                  · intro w hSw
                    (try dsimp only at hSw)
                    go_simp
                    all_goals with_reducible rfl
                  (try simp only [Act.put, List.setIfInBounds_toArray, List.set_cons_zero, List.set_cons_succ])
                  refine wpAnyH_take (i := 19) (v := ?_) (by exact arr_get _ _ _ rfl) (by kernel_rfl) (by kernel_rfl) (by kernel_rfl) (fun _ _ _ h => by exact h) (Or.inl ⟨by rfl, ?_⟩) (by assumption) ?_
                  rotate_left 1
                  · intro w hSw
                    (try dsimp only at hSw)
                    go_simp
                    all_goals with_reducible rfl
                  (try simp only [Act.put, List.setIfInBounds_toArray, List.set_cons_zero, List.set_cons_succ])
                  refine wpAnyH_take (i := 20) (v := ?_) (by exact arr_get _ _ _ rfl) (by kernel_rfl) (by kernel_rfl) (by kernel_rfl) (fun _ _ _ h => by exact h) (Or.inl ⟨by rfl, ?_⟩) (by assumption) ?_
                  rotate_left 1
                  · intro w hSw
                    (try dsimp only at hSw)
                    go_simp
                    all_goals with_reducible rfl
                  (try simp only [Act.put, List.setIfInBounds_toArray, List.set_cons_zero, List.set_cons_succ])
                  refine wpAnyH_take (i := 21) (v := ?_) (by exact arr_get _ _ _ rfl) (by kernel_rfl) (by kernel_rfl) (by kernel_rfl) (fun _ _ _ h => by exact h) (Or.inl ⟨by rfl, ?_⟩) (by assumption) ?_
                  rotate_left 1
                  · intro w hSw
                    (try dsimp only at hSw)
                    go_simp
                    all_goals with_reducible rfl
                  (try simp only [Act.put, List.setIfInBounds_toArray, List.set_cons_zero, List.set_cons_succ])
                  refine wpAnyH_ready (rs := [15]) (by kernel_rfl) (by simp) ?_
                  refine AllReadyH.cons (o := _) (by exact arr_get _ _ _ rfl) (fun K hK => ?_) AllReadyH.nil
                  go_simp
                  go_split_ands
                  go_at_call 25
                  refine (k9.out _ (TW.out.below (Hid.out (by assumption)))).mono ?_
                  rintro e wP ⟨rfl, hbP⟩
                  have hWP := Lib.hid (below_then (Hid.out (by assumption) : Below wr.heap.size wr _) (Below.size (Hid.out (by assumption) : Below wr.heap.size wr _)) hbP)
                  go_wp2_with fail
                  refine hK.out _ _ (hmk.out _ hWP.out) (fun hHeld2 => ?_)
                  clear hK K
                  (try simp only [Act.put, List.setIfInBounds_toArray, List.set_cons_zero, List.set_cons_succ])
                  refine wpAnyH_take (i := 22) (v := ?_) (by exact arr_get _ _ _ rfl) (by kernel_rfl) (by kernel_rfl) (by kernel_rfl) (fun _ _ _ h => by exact h) (Or.inl ⟨by rfl, ?_⟩) (by assumption) ?_
                  rotate_left 1
                  · intro w hSw
                    (try dsimp only at hSw)
                    go_simp
                    all_goals with_reducible rfl
                  (try simp only [Act.put, List.setIfInBounds_toArray, List.set_cons_zero, List.set_cons_succ])
                  refine wpAnyH_take (i := 23) (v := undef) (by exact arr_get _ _ _ rfl) (by kernel_rfl) (by kernel_rfl) (by kernel_rfl) (fun _ _ _ h => by exact h) (Or.inr ⟨by rfl, rfl⟩) (by assumption) ?_
                  (try simp only [Act.put, List.setIfInBounds_toArray, List.set_cons_zero, List.set_cons_succ])
                  refine wpAnyH_take (i := 24) (v := undef) (by exact arr_get _ _ _ rfl) (by kernel_rfl) (by kernel_rfl) (by kernel_rfl) (fun _ _ _ h => by exact h) (Or.inr ⟨by rfl, rfl⟩) (by assumption) ?_
                  (try simp only [Act.put, List.setIfInBounds_toArray, List.set_cons_zero, List.set_cons_succ])
                  refine wpAnyH_take (i := 25) (v := undef) (by exact arr_get _ _ _ rfl) (by kernel_rfl) (by kernel_rfl) (by kernel_rfl) (fun _ _ _ h => by exact h) (Or.inr ⟨by rfl, rfl⟩) (by assumption) ?_
                  (try simp only [Act.put, List.setIfInBounds_toArray, List.set_cons_zero, List.set_cons_succ])
                  refine wpAnyH_take (i := 26) (v := undef) (by exact arr_get _ _ _ rfl) (by kernel_rfl) (by kernel_rfl) (by kernel_rfl) (fun _ _ _ h => by exact h) (Or.inr ⟨by rfl, rfl⟩) (by assumption) ?_
                  (try simp only [Act.put, List.setIfInBounds_toArray, List.set_cons_zero, List.set_cons_succ])
                  refine wpAnyH_take (i := 27) (v := undef) (by exact arr_get _ _ _ rfl) (by kernel_rfl) (by kernel_rfl) (by kernel_rfl) (fun _ _ _ h => by exact h) (Or.inr ⟨by rfl, rfl⟩) (by assumption) ?_
                  (try simp only [Act.put, List.setIfInBounds_toArray, List.set_cons_zero, List.set_cons_succ])
                  refine wpAnyH_take (i := 28) (v := undef) (by exact arr_get _ _ _ rfl) (by kernel_rfl) (by kernel_rfl) (by kernel_rfl) (fun _ _ _ h => by exact h) (Or.inr ⟨by rfl, rfl⟩) (by assumption) ?_
                  (try simp only [Act.put, List.setIfInBounds_toArray, List.set_cons_zero, List.set_cons_succ])
                  refine wpAnyH_take (i := 29) (v := ?_) (by exact arr_get _ _ _ rfl) (by kernel_rfl) (by kernel_rfl) (by kernel_rfl) (fun _ _ _ h => by exact h) (Or.inl ⟨by rfl, ?_⟩) (by assumption) ?_
                  rotate_left 1
                  · intro w hSw
                    (try dsimp only at hSw)
                    go_simp
                    all_goals with_reducible rfl
                  (try simp only [Act.put, List.setIfInBounds_toArray, List.set_cons_zero, List.set_cons_succ])
                  refine wpAnyH_take (i := 30) (v := ?_) (by exact arr_get _ _ _ rfl) (by kernel_rfl) (by kernel_rfl) (by kernel_rfl) (fun _ _ _ h => by exact h) (Or.inl ⟨by rfl, ?_⟩) (by assumption) ?_
                  rotate_left 1
                  · intro w hSw
                    (try dsimp only at hSw)
                    go_simp
                    all_goals with_reducible rfl
                  (try simp only [Act.put, List.setIfInBounds_toArray, List.set_cons_zero, List.set_cons_succ])
                  refine wpAnyH_take (i := 31) (v := ?_) (by exact arr_get _ _ _ rfl) (by kernel_rfl) (by kernel_rfl) (by kernel_rfl) (fun _ _ _ h => by exact h) (Or.inl ⟨by rfl, ?_⟩) (by assumption) ?_
                  rotate_left 1
                  · intro w hSw
                    (try dsimp only at hSw)
                    go_simp
                    all_goals with_reducible rfl
                  (try simp only [Act.put, List.setIfInBounds_toArray, List.set_cons_zero, List.set_cons_succ])
                  refine wpAnyH_done (by kernel_rfl) ?_ _
                  go_wp2
                  go_roundw
                  case rel => exact ⟨k + 1, by go_num, by omega, below_then hb hbz hWP.out, Lib.hid (blk_below hN.out hWP.out), Lib.hid (rdT_below hR.out hWP.out)⟩
                  case measure => simp [RowKit.intOf]; omega
                · obtain rfl := str_empty tn q3
                  rw [q2, show decide ((⟨#[]⟩ : ByteArray).size ≠ 0) = false from by decide, Bool.or_self] at k9
                  go_wp2_with fail
                  go_region_held3 (fun w' => w'.cell? ⟨w4.heap.size, 0, none⟩ = some (.slice (some ⟨b4, off4, none⟩) l'.length c4) ∧ w'.cell? ⟨b, off + k * 2, none⟩ = some (.int .i64 td) ∧ w'.cell? ⟨b, off + k * 2 + 1, none⟩ = some (.string ⟨#[]⟩) ∧ w'.cell? ⟨b4, off4 + k * 2, none⟩ = some (.int .i64 td) ∧ w'.cell? ⟨b4, off4 + k * 2 + 1, none⟩ = some (.string ⟨#[]⟩) ∧ Hid (Below wr.heap.size wr w')) (first | exact hmk.out _ (Below.refl _ _) | exact hmk.out _ (Below.refl _ _).drew | exact hmk.out _ (Hid.out (by assumption))) (first | (go_split_ands; go_at_call 25; refine (k9.out _ (TW.out.below (Hid.out (by assumption)))).mono ?_; rintro e wP ⟨rfl, hbP⟩; have hWP := Lib.hid (below_then (Hid.out (by assumption) : Below wr.heap.size wr _) (Below.size (Hid.out (by assumption) : Below wr.heap.size wr _)) hbP)))
                  all_goals
                    (try go_split_ands)
                    go_wp2
                    go_roundw
                    case rel => exact ⟨k + 1, by go_num, by omega, below_then hb hbz (Hid.out (by assumption)), Lib.hid (blk_below hN.out (Hid.out (by assumption))), Lib.hid (rdT_below hR.out (Hid.out (by assumption)))⟩
                    case measure => simp [RowKit.intOf]; omega
                · rw [q2, show decide (tn.size ≠ 0) = true from by simp [q3], Bool.or_true] at k9
                  have hne : (tn.toList == []) = false := by
                    rw [Bool.eq_false_iff]
                    intro r
                    have := (bytes_beq_iff tn ⟨#[]⟩).1 (by simpa using r)
                    rw [this] at q3
                    exact q3 rfl
                  go_wp2_with fail
                  go_region_held3 (fun w' => w'.cell? ⟨w4.heap.size, 0, none⟩ = some (.slice (some ⟨b4, off4, none⟩) l'.length c4) ∧ w'.cell? ⟨b, off + k * 2, none⟩ = some (.int .i64 td) ∧ w'.cell? ⟨b, off + k * 2 + 1, none⟩ = some (.string tn) ∧ w'.cell? ⟨b4, off4 + k * 2, none⟩ = some (.int .i64 td) ∧ w'.cell? ⟨b4, off4 + k * 2 + 1, none⟩ = some (.string tn) ∧ Hid (Below wr.heap.size wr w')) (first | exact hmk.out _ (Below.refl _ _) | exact hmk.out _ (Below.refl _ _).drew | exact hmk.out _ (Hid.out (by assumption))) (first | (go_split_ands; go_at_call 25; refine (k9.out _ (TW.out.below (Hid.out (by assumption)))).mono ?_; rintro e wP ⟨rfl, hbP⟩; have hWP := Lib.hid (below_then (Hid.out (by assumption) : Below wr.heap.size wr _) (Below.size (Hid.out (by assumption) : Below wr.heap.size wr _)) hbP)))
                  all_goals
                    (try go_split_ands)
                    go_wp2
                    go_roundw
                    case rel => exact ⟨k + 1, by go_num, by omega, below_then hb hbz (Hid.out (by assumption)), Lib.hid (blk_below hN.out (Hid.out (by assumption))), Lib.hid (rdT_below hR.out (Hid.out (by assumption)))⟩
                    case measure => simp [RowKit.intOf]; omega
              · obtain rfl : k = l'.length := by omega
                have hzk : ¬ (l'.length : Int) < (l'.length : Int) := by omega
                go_wp2
                go_ret
                exact ⟨rfl, hb⟩
          | false =>
            have hsg : Sp.signS (l', (d, n), false) = (Sp.B (40 :: Sp.argsB l' ++ 41 :: Sp.typeB (d, n)), 0) := by
              have := Sp.sign_of (l', (d, n), false) hall2 (by exact hq) (by intro q; cases q) hlen16
              simpa using this
            have hmt : Sp.methodS (Sp.B (40 :: Sp.argsB l' ++ 41 :: Sp.typeB (d, n))) = ((l', (d, n), false), 0) := by
              have := Sp.method_text l' (d, n) false hall2 (by exact hq) hlen16 (by intro q; cases q)
              simpa using this
            have hcat := cat_T (Sp.argsB l') (Sp.typeB (d, n))
            have hPz : (⟨(40 :: Sp.argsB l').toArray⟩ : ByteArray).size ≤ 1048576 + 6 * 16 + 1 := hzs
            have hXz : (Sp.B (Sp.typeB (d, n))).size ≤ 1048576 + 6 := by rw [Sp.B_size]; omega
            have hRz : (Sp.B (40 :: Sp.argsB l' ++ 41 :: Sp.typeB (d, n))).size ≤ 4 * 1048576 := by rw [← hcat]; simp only [ByteArray.size_append]; have : (⟨#[41]⟩ : ByteArray).size = 1 := rfl; omega
            have hrefs := Lib.hid (fun k hk => Sp.allR_get l' hall2 k hk)
            have k4 := Lib.hid (fun W hrd hT => sign_any A c' l' d n false W hrd (by omega) (by clear hall2; omega) hT)
            have k6 := Lib.hid (fun W hT => method_any (Sp.B (40 :: Sp.argsB l' ++ 41 :: Sp.typeB (d, n))) W (by omega) hT)
            rw [hsg] at k4
            rw [hmt] at k6
            unfold Sp.sigV at k6
            simp only [] at k4 k6
            clear hsg hmt hq hall2
            change (⟨(40 :: Sp.argsB l').toArray⟩ ++ ⟨#[41]⟩ ++ Sp.B (Sp.typeB (d, n)) : ByteArray) = _ at hcat
            generalize Sp.B (40 :: Sp.argsB l' ++ 41 :: Sp.typeB (d, n)) = R at *
            generalize Sp.B (Sp.typeB (d, n)) = X at *
            have hP0 : Sp.B (40 :: Sp.argsB l') = ⟨(40 :: Sp.argsB l').toArray⟩ := rfl
            rw [hP0]
            clear hP0
            generalize (⟨(40 :: Sp.argsB l').toArray⟩ : ByteArray) = P at *
            generalize hQ : P ++ (⟨#[41]⟩ : ByteArray) = Q at *
            have hQz : Q.size ≤ 1048576 + 6 * 16 + 2 := by rw [← hQ]; simp only [ByteArray.size_append]; have : (⟨#[41]⟩ : ByteArray).size = 1 := rfl; omega
            clear hzs
            have hM := Lib.hid (blk_new w2 (.cells #[.slice A l'.length c', .int .i64 d, .string n, .bool false] 37))
            have hBm := hb'.alloc hbz2 (.cells #[.slice A l'.length c', .int .i64 d, .string n, .bool false] 37)
            have hBz := hBm.size
            have TW := Lib.hid (T0.out.below hBm)
            have RW := Lib.hid (rdT_below hrd'.out hBm)
            go_wp2_with fail
            refine (k4.out _ RW.out TW.out).mono ?_
            rintro e w3 ⟨rfl, hb3⟩
            have M3 := Lib.hid (blk_below hM.out hb3)
            have B3 := below_then hBm hBz hb3
            have S3 := B3.size
            clear hM hBm hBz TW RW hb3 k4 hb' c0 c1 f0 f1
            go_wp2_with fail
            refine (k6.out _ (T0.out.below B3)).mono ?_
            rintro e w4 ⟨A4, c4, rfl, hr4, hb4⟩
            have M4 := Lib.hid (blk_below M3.out hb4)
            have B4 := below_then B3 S3 hb4
            have S4 := B4.size
            clear M3 B3 S3 hb4 k6
            obtain ⟨⟨m0, m1, m2, m3⟩, _⟩ := blk4 M4.out
            have hlm := blk_lt M4.out
            have hN := Lib.hid (blk_new w4 (.cells #[.slice A4 l'.length c4, .int .i64 d, .string n, .bool false] 37))
            have R4 := Lib.hid (rdT_below hr4 ((Below.refl _ _).alloc (Nat.le_refl _) (.cells #[.slice A4 l'.length c4, .int .i64 d, .string n, .bool false] 37)))
            have BN := B4.alloc S4 (.cells #[.slice A4 l'.length c4, .int .i64 d, .string n, .bool false] 37)
            clear hr4
            go_wp2
            clear m0 m1 m2 m3 hlm M4
            go_loopw [19] (fun v19 wr => ∃ k : Nat, v19 = .int .i64 k ∧ k ≤ l'.length ∧ Below w.heap.size w wr ∧ Hid (wr.heap[w4.heap.size]? = some (.cells #[.slice A4 l'.length c4, .int .i64 d, .string n, .bool false] 37 (0, 0))) ∧ Hid (RdT wr A4 l')) (fun v19 _ => l'.length - (RowKit.intOf v19).toNat)
            case atStart => exact ⟨0, by go_num, Nat.zero_le _, BN, hN, R4⟩
            case round =>
              clear hN R4 BN B4
              obtain ⟨k, rfl, hk, hb, hN, hR⟩ := hrel
              have hbz := hb.size
              obtain ⟨⟨n0, n1, n2, n3⟩, _⟩ := blk4 hN.out
              by_cases hlt : k < l'.length
              · obtain ⟨b, off, rfl, hr⟩ := hrd'.out.2 (by omega)
                obtain ⟨b4, off4, rfl, hr4⟩ := hR.out.2 (by omega)
                obtain ⟨e0, e1⟩ := rdT_get2 hr hlt
                obtain ⟨E2, E3⟩ := rdT_get2 hr4 hlt
                have E0 := cell_below hb e0
                have E1 := cell_below hb e1
                have hri := hrefs.out k hlt
                have hnz' := Sp.namesZ_get l' _ (List.getElem_mem hlt)
                have hzk : (k : Int) < (l'.length : Int) := by omega
                have hz0 : (0 : Int) ≤ (k : Int) := by omega
                clear e0 e1 hr hr4
                generalize l'[k] = t at *
                obtain ⟨td, tn⟩ := t
                simp only [] at E0 E1 E2 E3 hnz'
                have k9 := Lib.hid (fun W hT => isRef_any td tn W (by omega) hT)
                rw [Sp.isRef_right td tn hri] at k9
                unfold Sp.tyV at k9
                have TW := Lib.hid (T0.out.below hb)
                clear hri
                have hmk := Lib.hid (show ∀ w', Below wr.heap.size wr w' → (w'.cell? ⟨w4.heap.size, 0, none⟩ = some (.slice (some ⟨b4, off4, none⟩) l'.length c4) ∧ w'.cell? ⟨b, off + k * 2, none⟩ = some (.int .i64 td) ∧ w'.cell? ⟨b, off + k * 2 + 1, none⟩ = some (.string tn) ∧ w'.cell? ⟨b4, off4 + k * 2, none⟩ = some (.int .i64 td) ∧ w'.cell? ⟨b4, off4 + k * 2 + 1, none⟩ = some (.string tn) ∧ Hid (Below wr.heap.size wr w')) from fun w' h => ⟨cell_below h n0, cell_below h E0, cell_below h E1, cell_below h E2, cell_below h E3, Lib.hid h⟩)
                have hq3 : (0 < td ∧ decide (0 < td) = true) ∨ (¬ 0 < td ∧ decide (0 < td) = false ∧ tn.size = 0) ∨ (¬ 0 < td ∧ decide (0 < td) = false ∧ tn.size ≠ 0) := by
                  by_cases q : 0 < td
                  · exact .inl ⟨q, by simp [q]⟩
                  · by_cases q2 : tn.size = 0
                    · exact .inr (.inl ⟨q, by simp [q], q2⟩)
                    · exact .inr (.inr ⟨q, by simp [q], q2⟩)
                rcases hq3 with ⟨q1, q2⟩ | ⟨q1, q2, q3⟩ | ⟨q1, q2, q3⟩
                · rw [q2, Bool.true_or] at k9
                  go_wp2_with fail
                  refine wp_region_held_drew (S := fun w' => w'.cell? ⟨w4.heap.size, 0, none⟩ = some (.slice (some ⟨b4, off4, none⟩) l'.length c4) ∧ w'.cell? ⟨b, off + k * 2, none⟩ = some (.int .i64 td) ∧ w'.cell? ⟨b, off + k * 2 + 1, none⟩ = some (.string tn) ∧ w'.cell? ⟨b4, off4 + k * 2, none⟩ = some (.int .i64 td) ∧ w'.cell? ⟨b4, off4 + k * 2 + 1, none⟩ = some (.string tn) ∧ Hid (Below wr.heap.size wr w')) (by kernel_rfl) (hmk.out _ (Below.refl _ _).drew) (fun hHeld => ?_)
                  refine wpAnyH_take (i := 0) (v := ?_) (by exact arr_get _ _ _ rfl) (by kernel_rfl) (by kernel_rfl) (by kernel_rfl) (fun _ _ _ h => by exact h) (Or.inl ⟨by rfl, ?_⟩) (by assumption) ?_
                  rotate_left 1
                  · intro w hSw
                    (try dsimp only at hSw)
                    go_simp
                    all_goals with_reducible rfl
                  (try simp only [Act.put, List.setIfInBounds_toArray, List.set_cons_zero, List.set_cons_succ])
                  refine wpAnyH_take (i := 1) (v := ?_) (by exact arr_get _ _ _ rfl) (by kernel_rfl) (by kernel_rfl) (by kernel_rfl) (fun _ _ _ h => by exact h) (Or.inl ⟨by rfl, ?_⟩) (by assumption) ?_
                  rotate_left 1
                  · intro w hSw
                    (try dsimp only at hSw)
                    go_simp
                    all_goals with_reducible rfl
                  (try simp only [Act.put, List.setIfInBounds_toArray, List.set_cons_zero, List.set_cons_succ])
                  refine wpAnyH_take (i := 2) (v := ?_) (by exact arr_get _ _ _ rfl) (by kernel_rfl) (by kernel_rfl) (by kernel_rfl) (fun _ _ _ h => by exact h) (Or.inl ⟨by rfl, ?_⟩) (by assumption) ?_
                  rotate_left 1
                  · intro w hSw
                    (try dsimp only at hSw)
                    go_simp
                    all_goals with_reducible rfl
                  (try simp only [Act.put, List.setIfInBounds_toArray, List.set_cons_zero, List.set_cons_succ])
                  refine wpAnyH_take (i := 3) (v := ?_) (by exact arr_get _ _ _ rfl) (by kernel_rfl) (by kernel_rfl) (by kernel_rfl) (fun _ _ _ h => by exact h) (Or.inl ⟨by rfl, ?_⟩) (by assumption) ?_
                  rotate_left 1
                  · intro w hSw
                    (try dsimp only at hSw)
                    go_simp
                    all_goals with_reducible rfl
                  (try simp only [Act.put, List.setIfInBounds_toArray, List.set_cons_zero, List.set_cons_succ])
                  refine wpAnyH_take (i := 4) (v := ?_) (by exact arr_get _ _ _ rfl) (by kernel_rfl) (by kernel_rfl) (by kernel_rfl) (fun _ _ _ h => by exact h) (Or.inl ⟨by rfl, ?_⟩) (by assumption) ?_
                  rotate_left 1
                  · intro w hSw
                    (try dsimp only at hSw)
                    go_simp
                    all_goals with_reducible rfl
                  (try simp only [Act.put, List.setIfInBounds_toArray, List.set_cons_zero, List.set_cons_succ])
                  refine wpAnyH_take (i := 5) (v := ?_) (by exact arr_get _ _ _ rfl) (by kernel_rfl) (by kernel_rfl) (by kernel_rfl) (fun _ _ _ h => by exact h) (Or.inl ⟨by rfl, ?_⟩) (by assumption) ?_
                  rotate_left 1
                  · intro w hSw
                    (try dsimp only at hSw)
                    go_simp
                    all_goals with_reducible rfl
                  (try simp only [Act.put, List.setIfInBounds_toArray, List.set_cons_zero, List.set_cons_succ])
                  refine wpAnyH_take (i := 6) (v := ?_) (by exact arr_get _ _ _ rfl) (by kernel_rfl) (by kernel_rfl) (by kernel_rfl) (fun _ _ _ h => by exact h) (Or.inl ⟨by rfl, ?_⟩) (by assumption) ?_
                  rotate_left 1
                  · intro w hSw
                    (try dsimp only at hSw)
                    go_simp
                    all_goals with_reducible rfl
                  (try simp only [Act.put, List.setIfInBounds_toArray, List.set_cons_zero, List.set_cons_succ])
                  refine wpAnyH_take (i := 7) (v := ?_) (by exact arr_get _ _ _ rfl) (by kernel_rfl) (by kernel_rfl) (by kernel_rfl) (fun _ _ _ h => by exact h) (Or.inl ⟨by rfl, ?_⟩) (by assumption) ?_
                  rotate_left 1
                  · intro w hSw
                    (try dsimp only at hSw)
                    go_simp
                    all_goals with_reducible rfl
                  (try simp only [Act.put, List.setIfInBounds_toArray, List.set_cons_zero, List.set_cons_succ])
                  refine wpAnyH_take (i := 8) (v := ?_) (by exact arr_get _ _ _ rfl) (by kernel_rfl) (by kernel_rfl) (by kernel_rfl) (fun _ _ _ h => by exact h) (Or.inl ⟨by rfl, ?_⟩) (by assumption) ?_
                  rotate_left 1
                  · intro w hSw
                    (try dsimp only at hSw)
                    go_simp
                    all_goals with_reducible rfl
                  (try simp only [Act.put, List.setIfInBounds_toArray, List.set_cons_zero, List.set_cons_succ])
                  refine wpAnyH_take (i := 9) (v := ?_) (by exact arr_get _ _ _ rfl) (by kernel_rfl) (by kernel_rfl) (by kernel_rfl) (fun _ _ _ h => by exact h) (Or.inl ⟨by rfl, ?_⟩) (by assumption) ?_
                  rotate_left 1
                  · intro w hSw
                    (try dsimp only at hSw)
                    go_simp
                    all_goals with_reducible rfl
                  (try simp only [Act.put, List.setIfInBounds_toArray, List.set_cons_zero, List.set_cons_succ])
                  refine wpAnyH_take (i := 10) (v := ?_) (by exact arr_get _ _ _ rfl) (by kernel_rfl) (by kernel_rfl) (by kernel_rfl) (fun _ _ _ h => by exact h) (Or.inl ⟨by rfl, ?_⟩) (by assumption) ?_
                  rotate_left 1
                  · intro w hSw
                    (try dsimp only at hSw)
                    go_simp
                    all_goals with_reducible rfl
                  (try simp only [Act.put, List.setIfInBounds_toArray, List.set_cons_zero, List.set_cons_succ])
                  refine wpAnyH_take (i := 11) (v := ?_) (by exact arr_get _ _ _ rfl) (by kernel_rfl) (by kernel_rfl) (by kernel_rfl) (fun _ _ _ h => by exact h) (Or.inl ⟨by rfl, ?_⟩) (by assumption) ?_
                  rotate_left 1
                  · intro w hSw
                    (try dsimp only at hSw)
                    go_simp
                    all_goals with_reducible rfl
                  (try simp only [Act.put, List.setIfInBounds_toArray, List.set_cons_zero, List.set_cons_succ])
                  refine wpAnyH_take (i := 12) (v := ?_) (by exact arr_get _ _ _ rfl) (by kernel_rfl) (by kernel_rfl) (by kernel_rfl) (fun _ _ _ h => by exact h) (Or.inl ⟨by rfl, ?_⟩) (by assumption) ?_
                  rotate_left 1
                  · intro w hSw
                    (try dsimp only at hSw)
                    go_simp
                    all_goals with_reducible rfl
                  (try simp only [Act.put, List.setIfInBounds_toArray, List.set_cons_zero, List.set_cons_succ])
                  refine wpAnyH_take (i := 13) (v := ?_) (by exact arr_get _ _ _ rfl) (by kernel_rfl) (by kernel_rfl) (by kernel_rfl) (fun _ _ _ h => by exact h) (Or.inl ⟨by rfl, ?_⟩) (by assumption) ?_
                  rotate_left 1
                  · intro w hSw
                    (try dsimp only at hSw)
                    go_simp
                    all_goals with_reducible rfl
                  (try simp only [Act.put, List.setIfInBounds_toArray, List.set_cons_zero, List.set_cons_succ])
                  refine wpAnyH_take (i := 14) (v := ?_) (by exact arr_get _ _ _ rfl) (by kernel_rfl) (by kernel_rfl) (by kernel_rfl) (fun _ _ _ h => by exact h) (Or.inl ⟨by rfl, ?_⟩) (by assumption) ?_
                  rotate_left 1
                  · intro w hSw
                    (try dsimp only at hSw)
                    go_simp
                    all_goals with_reducible rfl
                  (try simp only [Act.put, List.setIfInBounds_toArray, List.set_cons_zero, List.set_cons_succ])
                  refine wpAnyH_take (i := 16) (v := ?_) (by exact arr_get _ _ _ rfl) (by kernel_rfl) (by kernel_rfl) (by kernel_rfl) (fun _ _ _ h => by exact h) (Or.inl ⟨by rfl, ?_⟩) (by assumption) ?_
                  rotate_left 1
                  · intro w hSw
                    (try dsimp only at hSw)
                    go_simp
                    all_goals with_reducible rfl
                  (try simp only [Act.put, List.setIfInBounds_toArray, List.set_cons_zero, List.set_cons_succ])
                  refine wpAnyH_take (i := 17) (v := ?_) (by exact arr_get _ _ _ rfl) (by kernel_rfl) (by kernel_rfl) (by kernel_rfl) (fun _ _ _ h => by exact h) (Or.inl ⟨by rfl, ?_⟩) (by assumption) ?_
                  rotate_left 1
                  · intro w hSw
                    (try dsimp only at hSw)
                    go_simp
                    all_goals with_reducible rfl
                  (try simp only [Act.put, List.setIfInBounds_toArray, List.set_cons_zero, List.set_cons_succ])
                  refine wpAnyH_take (i := 18) (v := ?_) (by exact arr_get _ _ _ rfl) (by kernel_rfl) (by kernel_rfl) (by kernel_rfl) (fun _ _ _ h => by exact h) (Or.inl ⟨by rfl, ?_⟩) (by assumption) ?_
                  rotate_left 1
                  · intro w hSw
                    (try dsimp only at hSw)
                    go_simp
                    all_goals with_reducible rfl
                  (try simp only [Act.put, List.setIfInBounds_toArray, List.set_cons_zero, List.set_cons_succ])
                  refine wpAnyH_take (i := 19) (v := ?_) (by exact arr_get _ _ _ rfl) (by kernel_rfl) (by kernel_rfl) (by kernel_rfl) (fun _ _ _ h => by exact h) (Or.inl ⟨by rfl, ?_⟩) (by assumption) ?_
                  rotate_left 1
                  · intro w hSw
                    (try dsimp only at hSw)
                    go_simp
                    all_goals with_reducible rfl
                  (try simp only [Act.put, List.setIfInBounds_toArray, List.set_cons_zero, List.set_cons_succ])
                  refine wpAnyH_take (i := 20) (v := ?_) (by exact arr_get _ _ _ rfl) (by kernel_rfl) (by kernel_rfl) (by kernel_rfl) (fun _ _ _ h => by exact h) (Or.inl ⟨by rfl, ?_⟩) (by assumption) ?_
                  rotate_left 1
                  · intro w hSw
                    (try dsimp only at hSw)
                    go_simp
                    all_goals with_reducible rfl
                  (try simp only [Act.put, List.setIfInBounds_toArray, List.set_cons_zero, List.set_cons_succ])
                  refine wpAnyH_take (i := 21) (v := ?_) (by exact arr_get _ _ _ rfl) (by kernel_rfl) (by kernel_rfl) (by kernel_rfl) (fun _ _ _ h => by exact h) (Or.inl ⟨by rfl, ?_⟩) (by assumption) ?_
                  rotate_left 1
                  · intro w hSw
                    (try dsimp only at hSw)
                    go_simp
                    all_goals with_reducible rfl
                  (try simp only [Act.put, List.setIfInBounds_toArray, List.set_cons_zero, List.set_cons_succ])
                  refine wpAnyH_ready (rs := [15]) (by kernel_rfl) (by simp) ?_
                  refine AllReadyH.cons (o := _) (by exact arr_get _ _ _ rfl) (fun K hK => ?_) AllReadyH.nil
                  go_simp
                  go_split_ands
                  go_at_call 25
                  refine (k9.out _ (TW.out.below (Hid.out (by assumption)))).mono ?_
                  rintro e wP ⟨rfl, hbP⟩
                  have hWP := Lib.hid (below_then (Hid.out (by assumption) : Below wr.heap.size wr _) (Below.size (Hid.out (by assumption) : Below wr.heap.size wr _)) hbP)
                  go_wp2_with fail
                  refine hK.out _ _ (hmk.out _ hWP.out) (fun hHeld2 => ?_)
                  clear hK K
                  (try simp only [Act.put, List.setIfInBounds_toArray, List.set_cons_zero, List.set_cons_succ])
                  refine wpAnyH_take (i := 22) (v := ?_) (by exact arr_get _ _ _ rfl) (by kernel_rfl) (by kernel_rfl) (by kernel_rfl) (fun _ _ _ h => by exact h) (Or.inl ⟨by rfl, ?_⟩) (by assumption) ?_
                  rotate_left 1
                  · intro w hSw
                    (try dsimp only at hSw)
                    go_simp
                    all_goals with_reducible rfl
                  (try simp only [Act.put, List.setIfInBounds_toArray, List.set_cons_zero, List.set_cons_succ])
                  refine wpAnyH_take (i := 23) (v := undef) (by exact arr_get _ _ _ rfl) (by kernel_rfl) (by kernel_rfl) (by kernel_rfl) (fun _ _ _ h => by exact h) (Or.inr ⟨by rfl, rfl⟩) (by assumption) ?_
                  (try simp only [Act.put, List.setIfInBounds_toArray, List.set_cons_zero, List.set_cons_succ])
                  refine wpAnyH_take (i := 24) (v := undef) (by exact arr_get _ _ _ rfl) (by kernel_rfl) (by kernel_rfl) (by kernel_rfl) (fun _ _ _ h => by exact h) (Or.inr ⟨by rfl, rfl⟩) (by assumption) ?_
                  (try simp only [Act.put, List.setIfInBounds_toArray, List.set_cons_zero, List.set_cons_succ])
                  refine wpAnyH_take (i := 25) (v := undef) (by exact arr_get _ _ _ rfl) (by kernel_rfl) (by kernel_rfl) (by kernel_rfl) (fun _ _ _ h => by exact h) (Or.inr ⟨by rfl, rfl⟩) (by assumption) ?_
                  (try simp only [Act.put, List.setIfInBounds_toArray, List.set_cons_zero, List.set_cons_succ])
                  refine wpAnyH_take (i := 26) (v := undef) (by exact arr_get _ _ _ rfl) (by kernel_rfl) (by kernel_rfl) (by kernel_rfl) (fun _ _ _ h => by exact h) (Or.inr ⟨by rfl, rfl⟩) (by assumption) ?_
                  (try simp only [Act.put, List.setIfInBounds_toArray, List.set_cons_zero, List.set_cons_succ])
                  refine wpAnyH_take (i := 27) (v := undef) (by exact arr_get _ _ _ rfl) (by kernel_rfl) (by kernel_rfl) (by kernel_rfl) (fun _ _ _ h => by exact h) (Or.inr ⟨by rfl, rfl⟩) (by assumption) ?_
                  (try simp only [Act.put, List.setIfInBounds_toArray, List.set_cons_zero, List.set_cons_succ])
                  refine wpAnyH_take (i := 28) (v := undef) (by exact arr_get _ _ _ rfl) (by kernel_rfl) (by kernel_rfl) (by kernel_rfl) (fun _ _ _ h => by exact h) (Or.inr ⟨by rfl, rfl⟩) (by assumption) ?_
                  (try simp only [Act.put, List.setIfInBounds_toArray, List.set_cons_zero, List.set_cons_succ])
                  refine wpAnyH_take (i := 29) (v := ?_) (by exact arr_get _ _ _ rfl) (by kernel_rfl) (by kernel_rfl) (by kernel_rfl) (fun _ _ _ h => by exact h) (Or.inl ⟨by rfl, ?_⟩) (by assumption) ?_
                  rotate_left 1
                  · intro w hSw
                    (try dsimp only at hSw)
                    go_simp
                    all_goals with_reducible rfl
                  (try simp only [Act.put, List.setIfInBounds_toArray, List.set_cons_zero, List.set_cons_succ])
                  refine wpAnyH_take (i := 30) (v := ?_) (by exact arr_get _ _ _ rfl) (by kernel_rfl) (by kernel_rfl) (by kernel_rfl) (fun _ _ _ h => by exact h) (Or.inl ⟨by rfl, ?_⟩) (by assumption) ?_
                  rotate_left 1
                  · intro w hSw
                    (try dsimp only at hSw)
                    go_simp
                    all_goals with_reducible rfl
                  (try simp only [Act.put, List.setIfInBounds_toArray, List.set_cons_zero, List.set_cons_succ])
                  refine wpAnyH_take (i := 31) (v := ?_) (by exact arr_get _ _ _ rfl) (by kernel_rfl) (by kernel_rfl) (by kernel_rfl) (fun _ _ _ h => by exact h) (Or.inl ⟨by rfl, ?_⟩) (by assumption) ?_
                  rotate_left 1
                  · intro w hSw
                    (try dsimp only at hSw)
                    go_simp
                    all_goals with_reducible rfl
                  (try simp only [Act.put, List.setIfInBounds_toArray, List.set_cons_zero, List.set_cons_succ])
                  refine wpAnyH_done (by kernel_rfl) ?_ _
                  go_wp2
                  go_roundw
                  case rel => exact ⟨k + 1, by go_num, by omega, below_then hb hbz hWP.out, Lib.hid (blk_below hN.out hWP.out), Lib.hid (rdT_below hR.out hWP.out)⟩
                  case measure => simp [RowKit.intOf]; omega
                · obtain rfl := str_empty tn q3
                  rw [q2, show decide ((⟨#[]⟩ : ByteArray).size ≠ 0) = false from by decide, Bool.or_self] at k9
                  go_wp2_with fail
                  go_region_held3 (fun w' => w'.cell? ⟨w4.heap.size, 0, none⟩ = some (.slice (some ⟨b4, off4, none⟩) l'.length c4) ∧ w'.cell? ⟨b, off + k * 2, none⟩ = some (.int .i64 td) ∧ w'.cell? ⟨b, off + k * 2 + 1, none⟩ = some (.string ⟨#[]⟩) ∧ w'.cell? ⟨b4, off4 + k * 2, none⟩ = some (.int .i64 td) ∧ w'.cell? ⟨b4, off4 + k * 2 + 1, none⟩ = some (.string ⟨#[]⟩) ∧ Hid (Below wr.heap.size wr w')) (first | exact hmk.out _ (Below.refl _ _) | exact hmk.out _ (Below.refl _ _).drew | exact hmk.out _ (Hid.out (by assumption))) (first | (go_split_ands; go_at_call 25; refine (k9.out _ (TW.out.below (Hid.out (by assumption)))).mono ?_; rintro e wP ⟨rfl, hbP⟩; have hWP := Lib.hid (below_then (Hid.out (by assumption) : Below wr.heap.size wr _) (Below.size (Hid.out (by assumption) : Below wr.heap.size wr _)) hbP)))
                  all_goals
                    (try go_split_ands)
                    go_wp2
                    go_roundw
                    case rel => exact ⟨k + 1, by go_num, by omega, below_then hb hbz (Hid.out (by assumption)), Lib.hid (blk_below hN.out (Hid.out (by assumption))), Lib.hid (rdT_below hR.out (Hid.out (by assumption)))⟩
                    case measure => simp [RowKit.intOf]; omega
                · rw [q2, show decide (tn.size ≠ 0) = true from by simp [q3], Bool.or_true] at k9
                  have hne : (tn.toList == []) = false := by
                    rw [Bool.eq_false_iff]
                    intro r
                    have := (bytes_beq_iff tn ⟨#[]⟩).1 (by simpa using r)
                    rw [this] at q3
                    exact q3 rfl
                  go_wp2_with fail
                  go_region_held3 (fun w' => w'.cell? ⟨w4.heap.size, 0, none⟩ = some (.slice (some ⟨b4, off4, none⟩) l'.length c4) ∧ w'.cell? ⟨b, off + k * 2, none⟩ = some (.int .i64 td) ∧ w'.cell? ⟨b, off + k * 2 + 1, none⟩ = some (.string tn) ∧ w'.cell? ⟨b4, off4 + k * 2, none⟩ = some (.int .i64 td) ∧ w'.cell? ⟨b4, off4 + k * 2 + 1, none⟩ = some (.string tn) ∧ Hid (Below wr.heap.size wr w')) (first | exact hmk.out _ (Below.refl _ _) | exact hmk.out _ (Below.refl _ _).drew | exact hmk.out _ (Hid.out (by assumption))) (first | (go_split_ands; go_at_call 25; refine (k9.out _ (TW.out.below (Hid.out (by assumption)))).mono ?_; rintro e wP ⟨rfl, hbP⟩; have hWP := Lib.hid (below_then (Hid.out (by assumption) : Below wr.heap.size wr _) (Below.size (Hid.out (by assumption) : Below wr.heap.size wr _)) hbP)))
                  all_goals
                    (try go_split_ands)
                    go_wp2
                    go_roundw
                    case rel => exact ⟨k + 1, by go_num, by omega, below_then hb hbz (Hid.out (by assumption)), Lib.hid (blk_below hN.out (Hid.out (by assumption))), Lib.hid (rdT_below hR.out (Hid.out (by assumption)))⟩
                    case measure => simp [RowKit.intOf]; omega
              · obtain rfl : k = l'.length := by omega
                have hzk : ¬ (l'.length : Int) < (l'.length : Int) := by omega
                go_wp2
                go_ret
                exact ⟨rfl, hb⟩
end Go.Proofs.YthpfknlgfkecpaaDoor
