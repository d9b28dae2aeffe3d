/-
  Texts of the proof, joined: each says at its head what it proves.
-/
import Derived.Test.YtfjplmbknegidaaGreatDoorJk2
import Derived.DataShut
import Derived.OpenShut
import Derived.Test.YtfjplmbknegidaaGreatDoorJk26
import Derived.Deep.RegionHeld3
import Derived.IntWalk
section
/-
  What a walk is told of a slice of integers that came in.
-/
set_option linter.unusedVariables false
set_option linter.unusedSimpArgs false
namespace Go.Proofs.YtfjplmbknegidaaGreatDoor
open Go.RowKit Go.Lib

def IsRow (k : IntKind) (w : World) (a : Option Addr) (len cap : Nat) (zs : List Int) : Prop :=
  (a = none ∧ len = 0 ∧ cap = 0 ∧ zs = []) ∨
  ∃ x, a = some x ∧ len ≤ cap ∧ cap ≤ maxLen ∧ zs.length = cap ∧ (∀ i, i < zs.length → w.cell? (x.add i) = some (.int k (zs.getD i 0))) ∧ ∀ n ∈ zs, (Lit.int k n).wf = true

theorem isRow_rd {k : IntKind} {w : World} {a : Option Addr} {len cap : Nat} {zs : List Int} (h : IsRow k w a len cap zs) :
    ∃ l, len = l.length ∧ RdN k w a l ∧ ∀ n ∈ l, k.min ≤ n ∧ n ≤ k.max := by
  rcases h with ⟨rfl, rfl, rfl, rfl⟩ | ⟨x, rfl, hl, hm, hz, hcell, hwf⟩
  · exact ⟨[], rfl, ⟨by simp, fun h => by simp at h⟩, by simp⟩
  · have hlen : (zs.take len).length = len := by simp; omega
    refine ⟨zs.take len, hlen.symm, ⟨by rw [hlen]; unfold maxLen at hm; omega, fun h0 => ?_⟩, fun n hn => (Lit.wf_int_iff k n).1 (hwf n (List.mem_of_mem_take hn))⟩
    rw [hlen] at h0
    obtain ⟨b, off, hx, hc⟩ := ints_at hcell (by omega)
    subst hx
    refine ⟨b, off, rfl, fun j hj => ?_⟩
    rw [hlen] at hj
    rw [hc j (by omega)]
    congr 2
    simp [List.getD_eq_getElem?_getD, List.getElem?_take, hj]
end Go.Proofs.YtfjplmbknegidaaGreatDoor
end
section
/-
  Walk of chapter 6's laws' types: those of raw numbers.
-/
set_option linter.unusedVariables false
set_option linter.unusedSimpArgs false
namespace Go.Proofs.YtfjplmbknegidaaGreatDoor
open Go.RowKit Go.Lib Go.Maps

set_option maxHeartbeats 8000000 in
set_option maxRecDepth 100000 in
theorem types6_any (A : Option Addr) (c : Nat) (l : List Int) (w : World) (h : RdN .i64 w A l) (hi : ∀ x ∈ l, In64 x) :
    Calls Tryz.prog 13 #[.slice A l.length c] w fun e w' => ∃ A' c', e = .returned (.slice A' (Sp.typesS l).length c') ∧ w'.ownsRow w.heap.size 25 2 (.slice A' (Sp.typesS l).length c') (Sp.typesS l).length ((Sp.typesS l).flatMap Sp.tyL) ∧ Below w.heap.size w w' := by
  obtain ⟨TS, hTS⟩ : ∃ T, Sp.typesS l = T := ⟨_, rfl⟩
  rw [hTS]
  have hTS := Lib.hid hTS
  have H1 := Lib.hid h
  have HI := Lib.hid hi
  have hl := h.1
  clear h hi
  have hO0 : Hid (w.ownsRow w.heap.size 25 2 (.slice none ([] : List Sp.Ty).length 0) ([] : List Sp.Ty).length (([] : List Sp.Ty).flatMap Sp.tyL)) := Lib.hid ⟨rfl, .inl ⟨rfl, rfl⟩⟩
  have hb0 := Lib.hid (Below.refl w.heap.size w)
  go_enter Tryz.func13, Tryz.ntmps13
  go_upto_region 3 with fail
  go_loopw [3, 4, 5] (fun v3 v4 _ wr => ∃ (acc : List Sp.Ty) (A' : Option Addr) (c' : Nat), v4 = .int .i64 acc.length ∧ v3 = .slice A' acc.length c' ∧ acc.length ≤ l.length ∧ acc.length ≤ 12 ∧ Hid (acc = (l.take acc.length).map Sp.typeR) ∧ Hid (wr.ownsRow w.heap.size 25 2 (.slice A' acc.length c') acc.length (acc.flatMap Sp.tyL)) ∧ Hid (Below w.heap.size w wr)) (fun _ v4 _ _ => l.length - (RowKit.intOf v4).toNat)
  case atStart => exact ⟨[], none, 0, by go_num, rfl, Nat.zero_le _, Nat.zero_le _, Lib.hid rfl, hO0, hb0⟩
  case round =>
    clear hO0 hb0
    obtain ⟨acc, A', c', rfl, rfl, hk, hk12, hacc, hO, hb⟩ := hrel
    have hbz := hb.out.size
    by_cases hlt : acc.length < l.length
    · by_cases h12 : acc.length < 12
      · have hzl : (acc.length : Int) < (l.length : Int) := by omega
        have hz12 : (acc.length : Int) < 12 := by omega
        obtain ⟨b, o, rfl, hr⟩ := (rdN_below H1.out hb.out).2 (by omega)
        have E0 := hr acc.length hlt
        rw [List.getD_eq_getElem?_getD, List.getElem?_eq_getElem hlt, Option.getD_some] at E0
        have hin := HI.out _ (List.getElem_mem hlt)
        have hnew := Lib.hid (show acc ++ [Sp.typeR l[acc.length]] = (l.take (acc.length + 1)).map Sp.typeR by
          rw [List.take_succ_eq_append_getElem hlt, List.map_append, ← hacc.out]; rfl)
        generalize l[acc.length] = x at *
        clear hr
        have kp1 := Lib.hid (fun W => pick6_any x 40 W hin (by decide) (by decide))
        have kp2 := Lib.hid (fun W => pick6_any x 7 W hin (by decide) (by decide))
        have kn := Lib.hid (fun W => name6_any x W hin)
        have hp := Sp.pickN_in x 40 (by decide)
        have hq : Hid (Sp.typeR x = (Sp.pickN x 40 / 13, if Sp.pickN x 7 = 3 then Sp.nilB else Sp.nameR x)) := Lib.hid rfl
        generalize Sp.pickN x 40 = p1 at *
        generalize Sp.pickN x 7 = p2 at *
        generalize Sp.nameR x = nm at *
        generalize Sp.typeR x = tx at *
        have hqd : p1.tdiv 13 = p1 / 13 := Int.tdiv_eq_ediv_of_nonneg hp.1
        have hlb := World.block_lt_of_cell? wr _ E0
        have hb2 := hb.out
        go_upto_region 5 with fail
        go_cut [5] (fun v5 wx => ∃ p : Nat, v5 = .pointer (some ⟨p, 0, none⟩) ∧ Hid (wx.heap[p]? = some (.cells #[.int .i64 (p1 / 13), .string nm] 25 (0, 0))) ∧ Hid (Below wr.heap.size wr wx) ∧ wr.heap.size ≤ p)
        case first =>
          have E0d : wr.drew.cell? ⟨b, o + acc.length, none⟩ = some (.int .i64 x) := E0
          have hz1 := blk_old (o := .cells Sp.nmC 9) (blk_new wr.drew (.cells #[.int .i64 0, .string ⟨#[]⟩] 25))
          obtain ⟨y0, g0⟩ := blk_cell hz1 0 (.int .i64 0) rfl
          obtain ⟨y1, g1⟩ := blk_cell hz1 1 (.string ⟨#[]⟩) rfl
          have x1 := IntWalk.i64_in (p1 / 13) (by omega)
          go_region_held3 (fun w' => w'.cell? ⟨b, o + acc.length, none⟩ = some (.int .i64 x)) ((refine cell_below (w := wr) ?_ E0; (repeat (first | with_reducible assumption | with_reducible exact Below.refl _ _ | (with_reducible refine Below.setCell ?_ (by first | exact Nat.le_refl _ | omega | (simp; done) | (simp; omega)) _) | (with_reducible refine Below.alloc ?_ (by first | exact Nat.le_refl _ | omega | (simp; done) | (simp; omega)) _) | (with_reducible refine Below.drew ?_))))) (first | (go_at_call 31; refine (kp1.out _).mono ?_; rintro e w5 ⟨rfl, rfl⟩) | (go_at_call 30; refine (kn.out _).mono ?_; rintro e w5 ⟨rfl, rfl⟩))
          all_goals
            clear x1
            go_wp2
            go_meet
            first
            | exact ⟨wr.heap.size, rfl, Lib.hid (blk_drew (blk_old (blk_new wr _))), Lib.hid (by (repeat (first | with_reducible assumption | with_reducible exact Below.refl _ _ | (with_reducible refine Below.setCell ?_ (by first | exact Nat.le_refl _ | omega | (simp; done) | (simp; omega)) _) | (with_reducible refine Below.alloc ?_ (by first | exact Nat.le_refl _ | omega | (simp; done) | (simp; omega)) _) | (with_reducible refine Below.drew ?_)))), Nat.le_refl _⟩
            | exact ⟨wr.heap.size + 1, rfl, Lib.hid (blk_drew (by have := blk_new (wr.alloc (.cells Sp.nmC 9)) (.cells #[.int .i64 (p1 / 13), .string nm] 25); simpa using this)), Lib.hid (by (repeat (first | with_reducible assumption | with_reducible exact Below.refl _ _ | (with_reducible refine Below.setCell ?_ (by first | exact Nat.le_refl _ | omega | (simp; done) | (simp; omega)) _) | (with_reducible refine Below.alloc ?_ (by first | exact Nat.le_refl _ | omega | (simp; done) | (simp; omega)) _) | (with_reducible refine Below.drew ?_)))), Nat.le_succ _⟩
        case rest =>
          obtain ⟨p, rfl, hC, hbw, hpl⟩ := hcut
          have E1 := cell_below hbw.out E0
          obtain ⟨y0, g0⟩ := blk_cell hC.out 0 (.int .i64 (p1 / 13)) rfl
          obtain ⟨y1, g1⟩ := blk_cell hC.out 1 (.string nm) rfl
          have hlp := blk_lt hC.out
          have hbz2 := hbw.out.size
          clear E0 hqd
          go_upto_if 33 with (first | (go_at_call 31; refine (kp2.out _).mono ?_; rintro e w5 ⟨rfl, rfl⟩))
          go_cut [5] (fun v5 wx => v5 = .pointer (some ⟨p, 0, none⟩) ∧ Hid (wx.heap[p]? = some (.cells #[.int .i64 tx.1, .string tx.2] 25 (0, 0))) ∧ Hid (Below wr.heap.size wr wx))
          case first =>
            by_cases h3 : p2 = 3
            · have ht : tx = (p1 / 13, Sp.nilB) := by rw [hq.out, if_pos h3]
              have h3b : (p2 == 3) = true := by simp [h3]
              subst ht
              clear hq
              go_wp2
              go_meet
              exact ⟨rfl, Lib.hid (blk_set (i := 1) hC.out (.string ⟨#[]⟩)), Lib.hid (Below.setCell (p := ⟨p, 1, none⟩) hbw.out hpl (.string ⟨#[]⟩))⟩
            · have ht : tx = (p1 / 13, nm) := by rw [hq.out, if_neg h3]
              have h3b : (p2 == 3) = false := by simp [h3]
              subst ht
              clear hq
              go_wp2
              go_meet
              exact ⟨rfl, hC, hbw⟩
          case rest =>
            obtain ⟨rfl, hC2, hbw2⟩ := hcut
            clear hC hbw y0 g0 y1 g1 E1 hq hbz2 hlp
            have hbz2 := hbw2.out.size
            have hB2 := Lib.hid (below_then hb.out hbz hbw2.out)
            have hOc := Lib.hid ((Keeps.of_below (S := fun _ => False) hbw2.out).row hO.out (fun k q1 q2 => q2))
            obtain ⟨y0, g0⟩ := blk_cell hC2.out 0 (.int .i64 tx.1) rfl
            obtain ⟨y1, g1⟩ := blk_cell hC2.out 1 (.string tx.2) rfl
            have hlp := blk_lt hC2.out
            obtain ⟨A2, c2, w5, hra, hO5, hk5⟩ := app_ty (ty := 36) wc w.heap.size A' c' acc tx hOc.out (by omega) (by omega)
            have hB5 := Lib.hid (Keeps.own_below hOc.out hk5 hB2.out)
            have hl5 : (acc ++ [tx]).length = acc.length + 1 := by simp
            rw [hl5] at hra
            have hra2 := Lib.hid hra
            have hO5 := Lib.hid hO5
            have hlz : (acc ++ [tx]).length ≤ l.length := by omega
            have hlz2 : (acc ++ [tx]).length ≤ 12 := by omega
            have hmz : l.length - (acc ++ [tx]).length < l.length - acc.length := by omega
            have hl5' := Lib.hid hl5
            clear hra hk5 hOc hB2 hC2 hl5 hb2
            go_wp2_with (at_builtin; refine wpList_app _ rfl _ _ _ _ rfl _ _ rfl rfl (.slice A2 (acc.length + 1) c2) w5 hra2.out ?_)
            intro v2 w2' hqq
            obtain ⟨rfl, rfl⟩ := hqq.out
            clear hqq hra2 y0 g0 y1 g1 hlp
            go_wp2
            go_roundw
            case rel => exact ⟨acc ++ [tx], A2, c2, by rw [hl5'.out]; go_num, by rw [hl5'.out], hlz, hlz2, Lib.hid (by rw [hl5'.out]; exact hnew.out), hO5, hB5⟩
            case measure => simp [RowKit.intOf] at hmz ⊢; omega
      · have hz12 : ¬ (acc.length : Int) < 12 := by omega
        have hzl : (acc.length : Int) < (l.length : Int) := by omega
        have hfin : TS = acc := by
          rw [← hTS.out]
          unfold Sp.typesS
          rw [show (12 : Nat) = acc.length by omega]
          exact hacc.out.symm
        subst hfin
        go_wp2
        go_ret
        exact ⟨A', c', rfl, hO.out, hb.out⟩
    · have hzl : ¬ (acc.length : Int) < (l.length : Int) := by omega
      have hfin : TS = acc := by
        rw [← hTS.out]
        unfold Sp.typesS
        have h1 := hacc.out
        rw [List.take_of_length_le (show l.length ≤ acc.length by omega)] at h1
        rw [List.take_of_length_le (by omega), ← h1]
      subst hfin
      go_wp2
      go_ret
      exact ⟨A', c', rfl, hO.out, hb.out⟩
end Go.Proofs.YtfjplmbknegidaaGreatDoor
end
