/-
  Texts of the proof, joined: each says at its head what it proves.
-/
import Derived.Test.YtfjplmbknegidaaGreatDoorJk2
import Derived.DataShut
import Derived.OpenShut
import Derived.Test.YtfjplmbknegidaaGreatDoorJk26
import Derived.Deep.RegionHeld3
import Derived.IntWalk
import Derived.Test.YtfjplmbknegidaaGreatDoorJk30
section
/-
  What a walk is told of a slice of integers that came in.
-/
set_option linter.unusedVariables false
set_option linter.unusedSimpArgs false
namespace Go.Proofs.YtfjplmbknegidaaGreatDoor
open Go.RowKit Go.Lib

def IsRow (k : IntKind) (w : World) (a : Option Addr) (len cap : Nat) (zs : List Int) : Prop :=
  (a = none ∧ len = 0 ∧ cap = 0 ∧ zs = []) ∨
  ∃ x, a = some x ∧ len ≤ cap ∧ cap ≤ maxLen ∧ zs.length = cap ∧ (∀ i, i < zs.length → w.cell? (x.add i) = some (.int k (zs.getD i 0))) ∧ ∀ n ∈ zs, (Lit.int k n).wf = true

theorem isRow_rd {k : IntKind} {w : World} {a : Option Addr} {len cap : Nat} {zs : List Int} (h : IsRow k w a len cap zs) :
    ∃ l, len = l.length ∧ RdN k w a l ∧ ∀ n ∈ l, k.min ≤ n ∧ n ≤ k.max := by
  rcases h with ⟨rfl, rfl, rfl, rfl⟩ | ⟨x, rfl, hl, hm, hz, hcell, hwf⟩
  · exact ⟨[], rfl, ⟨by simp, fun h => by simp at h⟩, by simp⟩
  · have hlen : (zs.take len).length = len := by simp; omega
    refine ⟨zs.take len, hlen.symm, ⟨by rw [hlen]; unfold maxLen at hm; omega, fun h0 => ?_⟩, fun n hn => (Lit.wf_int_iff k n).1 (hwf n (List.mem_of_mem_take hn))⟩
    rw [hlen] at h0
    obtain ⟨b, off, hx, hc⟩ := ints_at hcell (by omega)
    subst hx
    refine ⟨b, off, rfl, fun j hj => ?_⟩
    rw [hlen] at hj
    rw [hc j (by omega)]
    congr 2
    simp [List.getD_eq_getElem?_getD, List.getElem?_take, hj]
end Go.Proofs.YtfjplmbknegidaaGreatDoor
end
section
/-
  Walk of chapter 6's laws' types: those of raw numbers.
-/
set_option linter.unusedVariables false
set_option linter.unusedSimpArgs false
namespace Go.Proofs.YtfjplmbknegidaaGreatDoor
open Go.RowKit Go.Lib Go.Maps

set_option maxHeartbeats 8000000 in
set_option maxRecDepth 100000 in
theorem types6_any (A : Option Addr) (c : Nat) (l : List Int) (w : World) (h : RdN .i64 w A l) (hi : ∀ x ∈ l, In64 x) :
    Calls Tryz.prog 13 #[.slice A l.length c] w fun e w' => ∃ A' c', e = .returned (.slice A' (Sp.typesS l).length c') ∧ w'.ownsRow w.heap.size 25 2 (.slice A' (Sp.typesS l).length c') (Sp.typesS l).length ((Sp.typesS l).flatMap Sp.tyL) ∧ Below w.heap.size w w' := by
  obtain ⟨TS, hTS⟩ : ∃ T, Sp.typesS l = T := ⟨_, rfl⟩
  rw [hTS]
  have hTS := Lib.hid hTS
  have H1 := Lib.hid h
  have HI := Lib.hid hi
  have hl := h.1
  clear h hi
  have hO0 : Hid (w.ownsRow w.heap.size 25 2 (.slice none ([] : List Sp.Ty).length 0) ([] : List Sp.Ty).length (([] : List Sp.Ty).flatMap Sp.tyL)) := Lib.hid ⟨rfl, .inl ⟨rfl, rfl⟩⟩
  have hb0 := Lib.hid (Below.refl w.heap.size w)
  go_enter Tryz.func13, Tryz.ntmps13
  go_upto_region 3 with fail
  go_loopw [3, 4, 5] (fun v3 v4 _ wr => ∃ (acc : List Sp.Ty) (A' : Option Addr) (c' : Nat), v4 = .int .i64 acc.length ∧ v3 = .slice A' acc.length c' ∧ acc.length ≤ l.length ∧ acc.length ≤ 12 ∧ Hid (acc = (l.take acc.length).map Sp.typeR) ∧ Hid (wr.ownsRow w.heap.size 25 2 (.slice A' acc.length c') acc.length (acc.flatMap Sp.tyL)) ∧ Hid (Below w.heap.size w wr)) (fun _ v4 _ _ => l.length - (RowKit.intOf v4).toNat)
  case atStart => exact ⟨[], none, 0, by go_num, rfl, Nat.zero_le _, Nat.zero_le _, Lib.hid rfl, hO0, hb0⟩
  case round =>
    clear hO0 hb0
    obtain ⟨acc, A', c', rfl, rfl, hk, hk12, hacc, hO, hb⟩ := hrel
    have hbz := hb.out.size
    by_cases hlt : acc.length < l.length
    · by_cases h12 : acc.length < 12
      · have hzl : (acc.length : Int) < (l.length : Int) := by omega
        have hz12 : (acc.length : Int) < 12 := by omega
        obtain ⟨b, o, rfl, hr⟩ := (rdN_below H1.out hb.out).2 (by omega)
        have E0 := hr acc.length hlt
        rw [List.getD_eq_getElem?_getD, List.getElem?_eq_getElem hlt, Option.getD_some] at E0
        have hin := HI.out _ (List.getElem_mem hlt)
        have hnew := Lib.hid (show acc ++ [Sp.typeR l[acc.length]] = (l.take (acc.length + 1)).map Sp.typeR by
          rw [List.take_succ_eq_append_getElem hlt, List.map_append, ← hacc.out]; rfl)
        generalize l[acc.length] = x at *
        clear hr
        have kp1 := Lib.hid (fun W => pick6_any x 40 W hin (by decide) (by decide))
        have kp2 := Lib.hid (fun W => pick6_any x 7 W hin (by decide) (by decide))
        have kn := Lib.hid (fun W => name6_any x W hin)
        have hp := Sp.pickN_in x 40 (by decide)
        have hq : Hid (Sp.typeR x = (Sp.pickN x 40 / 13, if Sp.pickN x 7 = 3 then Sp.nilB else Sp.nameR x)) := Lib.hid rfl
        generalize Sp.pickN x 40 = p1 at *
        generalize Sp.pickN x 7 = p2 at *
        generalize Sp.nameR x = nm at *
        generalize Sp.typeR x = tx at *
        have hqd : p1.tdiv 13 = p1 / 13 := Int.tdiv_eq_ediv_of_nonneg hp.1
        have hlb := World.block_lt_of_cell? wr _ E0
        have hb2 := hb.out
        go_upto_region 5 with fail
        go_cut [5] (fun v5 wx => ∃ p : Nat, v5 = .pointer (some ⟨p, 0, none⟩) ∧ Hid (wx.heap[p]? = some (.cells #[.int .i64 (p1 / 13), .string nm] 25 (0, 0))) ∧ Hid (Below wr.heap.size wr wx) ∧ wr.heap.size ≤ p)
        case first =>
          have E0d : wr.drew.cell? ⟨b, o + acc.length, none⟩ = some (.int .i64 x) := E0
          have hz1 := blk_old (o := .cells Sp.nmC 9) (blk_new wr.drew (.cells #[.int .i64 0, .string ⟨#[]⟩] 25))
          obtain ⟨y0, g0⟩ := blk_cell hz1 0 (.int .i64 0) rfl
          obtain ⟨y1, g1⟩ := blk_cell hz1 1 (.string ⟨#[]⟩) rfl
          have x1 := IntWalk.i64_in (p1 / 13) (by omega)
          go_region_held3 (fun w' => w'.cell? ⟨b, o + acc.length, none⟩ = some (.int .i64 x)) ((refine cell_below (w := wr) ?_ E0; (repeat (first | with_reducible assumption | with_reducible exact Below.refl _ _ | (with_reducible refine Below.setCell ?_ (by first | exact Nat.le_refl _ | omega | (simp; done) | (simp; omega)) _) | (with_reducible refine Below.alloc ?_ (by first | exact Nat.le_refl _ | omega | (simp; done) | (simp; omega)) _) | (with_reducible refine Below.drew ?_))))) (first | (go_at_call 31; refine (kp1.out _).mono ?_; rintro e w5 ⟨rfl, rfl⟩) | (go_at_call 30; refine (kn.out _).mono ?_; rintro e w5 ⟨rfl, rfl⟩))
          all_goals
            clear x1
            go_wp2
            go_meet
            first
            | exact ⟨wr.heap.size, rfl, Lib.hid (blk_drew (blk_old (blk_new wr _))), Lib.hid (by (repeat (first | with_reducible assumption | with_reducible exact Below.refl _ _ | (with_reducible refine Below.setCell ?_ (by first | exact Nat.le_refl _ | omega | (simp; done) | (simp; omega)) _) | (with_reducible refine Below.alloc ?_ (by first | exact Nat.le_refl _ | omega | (simp; done) | (simp; omega)) _) | (with_reducible refine Below.drew ?_)))), Nat.le_refl _⟩
            | exact ⟨wr.heap.size + 1, rfl, Lib.hid (blk_drew (by have := blk_new (wr.alloc (.cells Sp.nmC 9)) (.cells #[.int .i64 (p1 / 13), .string nm] 25); simpa using this)), Lib.hid (by (repeat (first | with_reducible assumption | with_reducible exact Below.refl _ _ | (with_reducible refine Below.setCell ?_ (by first | exact Nat.le_refl _ | omega | (simp; done) | (simp; omega)) _) | (with_reducible refine Below.alloc ?_ (by first | exact Nat.le_refl _ | omega | (simp; done) | (simp; omega)) _) | (with_reducible refine Below.drew ?_)))), Nat.le_succ _⟩
        case rest =>
          obtain ⟨p, rfl, hC, hbw, hpl⟩ := hcut
          have E1 := cell_below hbw.out E0
          obtain ⟨y0, g0⟩ := blk_cell hC.out 0 (.int .i64 (p1 / 13)) rfl
          obtain ⟨y1, g1⟩ := blk_cell hC.out 1 (.string nm) rfl
          have hlp := blk_lt hC.out
          have hbz2 := hbw.out.size
          clear E0 hqd
          go_upto_if 33 with (first | (go_at_call 31; refine (kp2.out _).mono ?_; rintro e w5 ⟨rfl, rfl⟩))
          go_cut [5] (fun v5 wx => v5 = .pointer (some ⟨p, 0, none⟩) ∧ Hid (wx.heap[p]? = some (.cells #[.int .i64 tx.1, .string tx.2] 25 (0, 0))) ∧ Hid (Below wr.heap.size wr wx))
          case first =>
            by_cases h3 : p2 = 3
            · have ht : tx = (p1 / 13, Sp.nilB) := by rw [hq.out, if_pos h3]
              have h3b : (p2 == 3) = true := by simp [h3]
              subst ht
              clear hq
              go_wp2
              go_meet
              exact ⟨rfl, Lib.hid (blk_set (i := 1) hC.out (.string ⟨#[]⟩)), Lib.hid (Below.setCell (p := ⟨p, 1, none⟩) hbw.out hpl (.string ⟨#[]⟩))⟩
            · have ht : tx = (p1 / 13, nm) := by rw [hq.out, if_neg h3]
              have h3b : (p2 == 3) = false := by simp [h3]
              subst ht
              clear hq
              go_wp2
              go_meet
              exact ⟨rfl, hC, hbw⟩
          case rest =>
            obtain ⟨rfl, hC2, hbw2⟩ := hcut
            clear hC hbw y0 g0 y1 g1 E1 hq hbz2 hlp
            have hbz2 := hbw2.out.size
            have hB2 := Lib.hid (below_then hb.out hbz hbw2.out)
            have hOc := Lib.hid ((Keeps.of_below (S := fun _ => False) hbw2.out).row hO.out (fun k q1 q2 => q2))
            obtain ⟨y0, g0⟩ := blk_cell hC2.out 0 (.int .i64 tx.1) rfl
            obtain ⟨y1, g1⟩ := blk_cell hC2.out 1 (.string tx.2) rfl
            have hlp := blk_lt hC2.out
            obtain ⟨A2, c2, w5, hra, hO5, hk5⟩ := app_ty (ty := 36) wc w.heap.size A' c' acc tx hOc.out (by omega) (by omega)
            have hB5 := Lib.hid (Keeps.own_below hOc.out hk5 hB2.out)
            have hl5 : (acc ++ [tx]).length = acc.length + 1 := by simp
            rw [hl5] at hra
            have hra2 := Lib.hid hra
            have hO5 := Lib.hid hO5
            have hlz : (acc ++ [tx]).length ≤ l.length := by omega
            have hlz2 : (acc ++ [tx]).length ≤ 12 := by omega
            have hmz : l.length - (acc ++ [tx]).length < l.length - acc.length := by omega
            have hl5' := Lib.hid hl5
            clear hra hk5 hOc hB2 hC2 hl5 hb2
            go_wp2_with (at_builtin; refine wpList_app _ rfl _ _ _ _ rfl _ _ rfl rfl (.slice A2 (acc.length + 1) c2) w5 hra2.out ?_)
            intro v2 w2' hqq
            obtain ⟨rfl, rfl⟩ := hqq.out
            clear hqq hra2 y0 g0 y1 g1 hlp
            go_wp2
            go_roundw
            case rel => exact ⟨acc ++ [tx], A2, c2, by rw [hl5'.out]; go_num, by rw [hl5'.out], hlz, hlz2, Lib.hid (by rw [hl5'.out]; exact hnew.out), hO5, hB5⟩
            case measure => simp [RowKit.intOf] at hmz ⊢; omega
      · have hz12 : ¬ (acc.length : Int) < 12 := by omega
        have hzl : (acc.length : Int) < (l.length : Int) := by omega
        have hfin : TS = acc := by
          rw [← hTS.out]
          unfold Sp.typesS
          rw [show (12 : Nat) = acc.length by omega]
          exact hacc.out.symm
        subst hfin
        go_wp2
        go_ret
        exact ⟨A', c', rfl, hO.out, hb.out⟩
    · have hzl : ¬ (acc.length : Int) < (l.length : Int) := by omega
      have hfin : TS = acc := by
        rw [← hTS.out]
        unfold Sp.typesS
        have h1 := hacc.out
        rw [List.take_of_length_le (show l.length ≤ acc.length by omega)] at h1
        rw [List.take_of_length_le (by omega), ← h1]
      subst hfin
      go_wp2
      go_ret
      exact ⟨A', c', rfl, hO.out, hb.out⟩
end Go.Proofs.YtfjplmbknegidaaGreatDoor
end
section
/-
  Walk of HierSees. (Printed by gen_sees.py.)
-/
set_option linter.unusedVariables false
set_option linter.unusedSimpArgs false
namespace Go.Proofs.YtfjplmbknegidaaGreatDoor
open Go.RowKit Go.Lib Go.Maps
namespace Sp
/-- What is told of a class that is seen. -/
structure SeenOne (NS : List ByteArray) (M : List Cl) (j : Nat) (s : ByteArray) : Prop where
  find : (findC M s).isSome = true
  own : (getC M s).own = decide (NS.length ≤ j)
  old : j < NS.length → NS[j]? = some s
  new : NS.length ≤ j → (getC M s).at_ = (j : Int) - (NS.length : Int)
theorem seen_one {T L : List Cl} {fs : List FlP} (hT : Tb T) (hN : Nm T) (h : (openS T (rcF fs 0)).1 = some L) {j : Nat} {s : ByteArray} (hs : (L.map (·.name))[j]? = some s) : SeenOne (T.map (·.name)) L j s := by
  obtain ⟨h1, _⟩ := open_some h
  obtain ⟨mT, _, _, _⟩ := made_tb hT hN h
  rw [List.getElem?_map] at hs
  obtain ⟨c, hc, rfl⟩ := Option.map_eq_some_iff.1 hs
  have hf : findC L c.name = some c := findC_of_mem mT.nodup (List.mem_of_getElem? hc)
  have hg := getC_some hf
  by_cases hj : j < T.length
  · rw [h1, List.getElem?_append_left (by rw [List.length_map]; exact hj), List.getElem?_map] at hc
    obtain ⟨d, hd, rfl⟩ := Option.map_eq_some_iff.1 hc
    refine ⟨by rw [hf]; rfl, ?_, fun _ => ?_, fun q => ?_⟩
    · rw [hg, decide_eq_false (by rw [List.length_map]; omega)]; rfl
    · rw [List.getElem?_map, hd]; rfl
    · rw [List.length_map] at q; omega
  · rw [h1, List.getElem?_append_right (by rw [List.length_map]; omega), List.getElem?_map, List.length_map] at hc
    obtain ⟨d, hd, rfl⟩ := Option.map_eq_some_iff.1 hc
    obtain ⟨hl, rfl⟩ := List.getElem?_eq_some_iff.1 hd
    obtain ⟨g1, g2⟩ := rcF_get fs 0 _ hl
    refine ⟨by rw [hf]; rfl, ?_, fun q => ?_, fun q => ?_⟩
    · rw [hg, decide_eq_true (by rw [List.length_map]; omega)]; exact g2
    · rw [List.length_map] at q; omega
    · rw [hg, g1, List.length_map]; omega
end Sp

set_option maxHeartbeats 16000000 in
set_option maxRecDepth 100000 in
theorem hierSees_any (rA : Option Addr) (rc : Nat) (raws : List Sp.RwP) (mA : Option Addr) (mc : Nat) (more : List Sp.RwP) (lA : Option Addr) (lc : Nat) (l : List Int) (w : World) (hr : RdL Sp.rwC w rA raws) (hi : ∀ r ∈ raws, RwIn w r) (hr2 : RdL Sp.rwC w mA more) (hi2 : ∀ r ∈ more, RwIn w r) (hl : RdN .i64 w lA l) (hl2 : ∀ x ∈ l, In64 x) (hT : Tabs w) :
    Calls Tryz.prog 6 #[.slice rA raws.length rc, .slice mA more.length mc, .slice lA l.length lc] w fun e w' => e = .returned (.bool true) ∧ Below w.heap.size w w' := by
  have HT := Lib.hid hT
  have HR := Lib.hid hr
  have HI := Lib.hid hi
  have HR2 := Lib.hid hr2
  have HI2 := Lib.hid hi2
  have HL := Lib.hid hl
  have HL2 := Lib.hid hl2
  have ksh := Lib.hid (shown6_any w hT)
  clear hT hr hi hr2 hi2 hl hl2
  go_enter Tryz.func6, Tryz.ntmps6
  go_wp2_with fail
  refine ksh.out.mono ?_
  rintro e w1 ⟨rfl, b1⟩
  have kfi := Lib.hid (files6_any rA rc raws w1 (rdL_below HR.out b1) (fun r hr => (HI.out r hr).below b1))
  clear ksh
  go_wp2_with fail
  refine kfi.out.mono ?_
  rintro e w2 ⟨fA, fc, fs, rfl, ⟨hf1, hf2, hf3⟩, b2⟩
  have g2 : Grow w w2 := Grow.trans _ _ _ b1 b2
  have knw := Lib.hid (hNewM_any w2 fA fc fs (own_rdL Sp.flE_len (by decide) hf2).2.1 hf3 (HT.out.below g2))
  rw [hf1] at knw
  clear kfi hf1 hf2 hf3 b1 b2 HI HR
  go_wp2_with fail
  refine knw.out.mono ?_
  rintro e w3 ⟨b3, hP⟩
  have g3 : Grow w w3 := Grow.trans _ _ _ g2 b3
  clear knw b3 g2
  rcases hP with ⟨h1, rfl⟩ | ⟨tb, L, h1, rfl, hK⟩
  · have hne := Sp.open_none h1
    clear h1
    generalize (Sp.openS Sp.builtC (Sp.rcF (Sp.filesF (raws.map (·.1))) 0)).2.1 = er at *
    generalize (Sp.openS Sp.builtC (Sp.rcF (Sp.filesF (raws.map (·.1))) 0)).2.2 = ei at *
    have hb : (er != 0) = true := by simp [hne]
    clear hne
    go_wp2
    go_ret
    exact ⟨rfl, g3⟩
  · obtain ⟨hTb, hNm, hln0, h64⟩ := Sp.made_tb Sp.built_tb Sp.built_nm h1
    have hln : L.length ≤ 100 := by rw [hln0]; have : Sp.builtC.length = 14 := rfl; omega
    clear h1 h64 hln0
    have kfi := Lib.hid (files6_any mA mc more w3 (rdL_below HR2.out g3) (fun r hr => (HI2.out r hr).below g3))
    go_wp2_with fail
    refine kfi.out.mono ?_
    rintro e w4 ⟨fA, fc, fs, rfl, ⟨hf1, hf2, hf3⟩, b4⟩
    have g4 : Grow w w4 := Grow.trans _ _ _ g3 b4
    have kop := Lib.hid ((hK.opens w4 fA fc fs b4 (own_rdL Sp.flE_len (by decide) hf2).2.1 hf3).mono (fun e w' (q : Below w4.heap.size w4 w' ∧ _) => show Grow w4 w' ∧ MadeP (Sp.openS L (Sp.rcF (fs.map (·.2)) 0)) e w' from ⟨q.1, made_of hTb hNm (by omega) (HT.out.below (Grow.trans _ _ _ g4 q.1)) q.2⟩))
    rw [hf1] at kop
    clear kfi hf1 hf2 hf3 g3
    go_wp2_with fail
    refine kop.out.mono ?_
    rintro e w5 ⟨b5, hP⟩
    have g5 : Grow w w5 := Grow.trans _ _ _ g4 b5
    have hK5 := Lib.hid (hK.later (Grow.trans _ _ _ b4 b5))
    clear kop g4 b4 b5 hK
    rcases hP with ⟨h1, rfl⟩ | ⟨tu, M, h1, rfl, hU⟩
    · have hne := Sp.open_none h1
      clear h1 hK5
      generalize (Sp.openS L (Sp.rcF (Sp.filesF (more.map (·.1))) 0)).2.1 = er at *
      generalize (Sp.openS L (Sp.rcF (Sp.filesF (more.map (·.1))) 0)).2.2 = ei at *
      have hb : (er != 0) = true := by simp [hne]
      clear hne
      go_wp2
      go_ret
      exact ⟨rfl, g5⟩
    obtain ⟨mTb, mNm, mln, m64⟩ := Sp.made_tb hTb hNm h1
    have hml := Lib.hid (show (M.map (·.name)).length = (L.map (·.name)).length + (Sp.filesF (more.map (·.1))).length ∧ (L.map (·.name)).length ≤ 100 ∧ (Sp.filesF (more.map (·.1))).length ≤ 64 from ⟨by rw [List.length_map, List.length_map]; exact mln, by rw [List.length_map]; exact hln, m64⟩)
    clear mln m64 hln
    have hS1 := Lib.hid (fun (j : Nat) (s : ByteArray) (hs : (M.map (·.name))[j]? = some s) => Sp.seen_one hTb hNm h1 hs)
    have hS2 := Lib.hid (fun (a b : Sp.Ty) (ha : (Sp.findC L a.2).isSome = true) (hb : (Sp.findC L b.2).isSome = true) => Sp.sub_above hTb (fun f hf h0 => Sp.name_ne (Sp.rcF_name f hf h0)) h1 (a := a) (b := b) (Sp.findC_isSome.1 ha) (Sp.findC_isSome.1 hb))
    have hszM := Lib.hid (fun s (hs : s ∈ M.map (·.name)) => (by obtain ⟨c, hc, rfl⟩ := List.mem_map.1 hs; exact (hU.txt c hc).1 : s.size ≤ 1099511627776))
    clear hTb hNm mTb mNm h1
    have kn1 := Lib.hid (hK5.out.names _ (Grow.refl _))
    have HU := Lib.hid hU
    clear hU
    go_wp2_with fail
    refine kn1.out.mono ?_
    rintro e w6 ⟨nA, nc, rfl, hR6, b6⟩
    generalize L.map (·.name) = NS at *
    have g6 : Grow w w6 := Grow.trans _ _ _ g5 b6
    have kn2 := Lib.hid (HU.out.names _ b6)
    have hR6 := Lib.hid hR6
    clear kn1
    go_wp2_with fail
    refine kn2.out.mono ?_
    rintro e w7 ⟨qA, qc, rfl, hR7, b7⟩
    generalize M.map (·.name) = MS at *
    have g7 : Grow w w7 := Grow.trans _ _ _ g6 b7
    have kfi := Lib.hid (files6_any mA mc more w7 (rdL_below HR2.out g7) (fun r hr => (HI2.out r hr).below g7))
    have hR7 := Lib.hid hR7
    clear kn2 HI2 HR2
    go_wp2_with fail
    refine kfi.out.mono ?_
    rintro e w8 ⟨fA8, fc8, fs8, rfl, ⟨hf8, _, _⟩, b8⟩
    have g8 : Grow w w8 := Grow.trans _ _ _ g7 b8
    have hNS := Lib.hid (rdL_below hR6.out (Grow.trans _ _ _ b7 b8))
    have hMS := Lib.hid (rdL_below hR7.out b8)
    have b58 := Grow.trans _ _ _ b6 (Grow.trans _ _ _ b7 b8)
    have HK := Lib.hid (hK5.out.later b58)
    have HQ := Lib.hid (HU.out.later b58)
    have hfl : fs8.length = (Sp.filesF (more.map (·.1))).length := by rw [← hf8, List.length_map]
    obtain ⟨mln2, hNl, hFl⟩ := hml.out
    rw [← hfl] at mln2 hFl
    clear kfi hR6 hR7 hf8 hfl hml g5 b6 g6 b7 g7 b8 b58 hK5 HU
    have hb1 : ((MS.length : Int) != (NS.length : Int) + (fs8.length : Int)) = false := by simp only [bne_eq_false_iff_eq]; omega
    have hb2 := IntWalk.i64_in ((NS.length : Int) + (fs8.length : Int)) (by omega)
    have hMl : MS.length ≤ 264 := by omega
    clear mln2
    go_upto_region 15 with fail
    clear hb1 hb2 hFl
    have ga0 := Lib.hid (Grow.refl w8)
    go_loopw [16, 17, 18] (fun vi _ _ wr => ∃ j : Nat, vi = .int .i64 j ∧ j ≤ MS.length ∧ Hid (Grow w8 wr)) (fun vi _ _ _ => MS.length - (RowKit.intOf vi).toNat)
    case atStart => exact ⟨0, by go_num, Nat.zero_le _, ga0⟩
    case round =>
      clear ga0
      obtain ⟨i, rfl, hi, ga⟩ := hrel
      by_cases hlt : i < MS.length
      · have hzi : (i : Int) < (MS.length : Int) := by omega
        have hz0 : (0 : Int) ≤ (i : Int) := by omega
        obtain ⟨b, o, rfl, hrg⟩ := hMS.out.2 (by omega)
        have e0 : w8.cell? ⟨b, o + i, none⟩ = some (.string MS[i]) := by
          have := rdL_get 1 Sp.strC_len hrg hlt 0 (by decide) (v := .string MS[i]) rfl
          simpa using this
        have hC := Lib.hid (hS1.out _ _ (List.getElem?_eq_getElem hlt))
        have hss := hszM.out _ (List.getElem_mem hlt)
        clear hrg
        generalize MS[i] = s at *
        have e0r := cell_below ga.out e0
        have kfd := Lib.hid (HQ.out.find wr s ga.out hss)
        rw [hC.out.find] at kfd
        have hC2 := hC.out.own
        have hC3 := hC.out.new
        generalize Sp.getC M s = cl at *
        obtain ⟨n1, u1, i1, x1, y1, z1, t1⟩ := cl
        simp only at kfd hC2 hC3
        have hC4 := Lib.hid hC2
        have hC5 := Lib.hid hC3
        clear hC2 hC3
        go_wp2_with fail
        refine kfd.out.mono ?_
        rintro e w9 ⟨A1, c1, rfl, _, b9⟩
        clear kfd
        go_upto_region 18 with fail
        have hCb := blk_new w9 (.cells #[.string n1, .string u1, .slice A1 i1.length c1, .bool x1, .bool y1, .bool z1, .int .i64 t1] 44)
        have z9 : Grow w9 (w9.alloc (.cells #[.string n1, .string u1, .slice A1 i1.length c1, .bool x1, .bool y1, .bool z1, .int .i64 t1] 44)) := (Below.refl _ _).alloc (Nat.le_refl _) _
        have g9 := Lib.hid (Grow.trans _ _ _ ga.out (Grow.trans _ _ _ b9 z9))
        clear z9 b9 e0r ga
        generalize w9.alloc (.cells #[.string n1, .string u1, .slice A1 i1.length c1, .bool x1, .bool y1, .bool z1, .int .i64 t1] 44) = w10 at *
        generalize w9.heap.size = cb at *
        have e0r := Lib.hid (cell_below g9.out e0)
        have gD : Grow w10 w10.drew := (Below.refl _ _).drew
        have gF0 := Lib.hid (Grow.trans _ _ _ g9.out gD)
        by_cases hin : i < NS.length
        · have hx : z1 = false := by rw [hC4.out]; exact decide_eq_false (by omega)
          subst hx
          obtain ⟨b2, o2, rfl, hrg2⟩ := hNS.out.2 (by omega)
          have e2 : w8.cell? ⟨b2, o2 + i, none⟩ = some (.string s) := by
            have h3 := hC.out.old hin
            obtain ⟨_, h4⟩ := List.getElem?_eq_some_iff.1 h3
            have := rdL_get 1 Sp.strC_len hrg2 hin 0 (by decide) (v := .string NS[i]) rfl
            rw [h4] at this
            simpa using this
          have hS := Lib.hid (fun V (hV : Grow w10.drew V) => show V.cell? ⟨cb, 5, none⟩ = some (.bool false) ∧ V.cell? ⟨b, o + i, none⟩ = some (.string s) ∧ V.cell? ⟨b2, o2 + i, none⟩ = some (.string s) from
            ⟨cell_below (w := w10.drew) hV (blk_cell (blk_drew hCb) 5 _ rfl).1, cell_below (w := w10.drew) hV e0r.out, cell_below (w := w10.drew) hV (cell_below gF0.out e2)⟩)
          have hnn : (s.toList == s.toList) = true := by simp
          have d1 : ¬ (NS.length : Int) ≤ (i : Int) := by omega
          have d2 : decide ((NS.length : Int) ≤ (i : Int)) = false := decide_eq_false d1
          have d3 : decide (NS.length ≤ i) = false := decide_eq_false (by omega)
          have d4 : (i : Int) < (NS.length : Int) := by omega
          have d5 : decide ((i : Int) < (NS.length : Int)) = true := decide_eq_true d4
          have d6 : decide (i < NS.length) = true := decide_eq_true hin
          clear hrg2 e2 e0r hCb hC4 hC5 hin
          refine wp_region_calm Grow [0, 1, 2, 3, 4, 5, 6, 7, 8, 9, 10, 11, 12, 13, 14, 15, 16, 17, 18, 19, 20, 21, 22, 23, 24, 25, 26, 27, 28, 29, 30, 31, 32, 33, 34, 35, 36, 37, 38, 39, 40, 41, 42] [] [] [] (by kernel_rfl) (by kernel_rfl) Grow.refl Grow.trans (fun c a d v w h => by cases d <;> exact h) ?_
          change Line _ _ _ w10.drew _ _ _
          ((simp only [pickOps, List.filterMap_cons, List.filterMap_nil, List.getElem?_cons_succ, List.getElem?_cons_zero]); (repeat (first | (refine line_not (by rfl) ?_; (try simp only [Act.put, List.setIfInBounds_toArray, List.set_cons_zero, List.set_cons_succ])) | (refine line_val (v := ?_) Grow.refl (by rfl) (fun v9 h9 => ?_) ?_; rotate_left; (focus (obtain ⟨s1, s2, s3⟩ := hS.out v9 h9; go_simp; (first | done | with_reducible rfl))); (try simp only [Act.put, List.setIfInBounds_toArray, List.set_cons_zero, List.set_cons_succ])))))
          refine line_done (soon_nil (fun z gz => ?_))
          have gF := Lib.hid (Grow.trans _ _ _ gF0.out gz)
          clear hS gz gF0 gD g9
          go_wp2
          go_roundw
          case rel => exact ⟨i + 1, by go_num, by omega, gF⟩
          case measure => simp [RowKit.intOf]; omega
        · have hx : z1 = true := by rw [hC4.out]; exact decide_eq_true (by omega)
          subst hx
          have ht : t1 = (i : Int) - (NS.length : Int) := hC5.out (by omega)
          subst ht
          have hS := Lib.hid (fun V (hV : Grow w10.drew V) => show V.cell? ⟨cb, 5, none⟩ = some (.bool true) ∧ V.cell? ⟨cb, 6, none⟩ = some (.int .i64 ((i : Int) - (NS.length : Int))) from
            ⟨cell_below (w := w10.drew) hV (blk_cell (blk_drew hCb) 5 _ rfl).1, cell_below (w := w10.drew) hV (blk_cell (blk_drew hCb) 6 _ rfl).1⟩)
          have d1 : (NS.length : Int) ≤ (i : Int) := by omega
          have d2 : decide ((NS.length : Int) ≤ (i : Int)) = true := decide_eq_true d1
          have d3 : decide (NS.length ≤ i) = true := decide_eq_true (by omega)
          have d4 : ¬ (i : Int) < (NS.length : Int) := by omega
          have d5 : decide ((i : Int) < (NS.length : Int)) = false := decide_eq_false d4
          have d6 : decide (i < NS.length) = false := decide_eq_false hin
          have d7 := IntWalk.i64_in ((i : Int) - (NS.length : Int)) (by omega)
          clear e0r hCb hC4 hC5 hin
          refine wp_region_calm Grow [0, 1, 2, 3, 4, 5, 6, 7, 8, 9, 10, 11, 12, 13, 14, 15, 16, 17, 18, 19, 20, 21, 22, 23, 24, 25, 26, 27, 28, 29, 30, 31, 32, 33, 34, 35, 36, 37, 38, 39, 40, 41, 42] [] [] [] (by kernel_rfl) (by kernel_rfl) Grow.refl Grow.trans (fun c a d v w h => by cases d <;> exact h) ?_
          change Line _ _ _ w10.drew _ _ _
          ((simp only [pickOps, List.filterMap_cons, List.filterMap_nil, List.getElem?_cons_succ, List.getElem?_cons_zero]); (repeat (first | (refine line_not (by rfl) ?_; (try simp only [Act.put, List.setIfInBounds_toArray, List.set_cons_zero, List.set_cons_succ])) | (refine line_val (v := ?_) Grow.refl (by rfl) (fun v9 h9 => ?_) ?_; rotate_left; (focus (obtain ⟨s1, s2⟩ := hS.out v9 h9; go_simp; (first | done | with_reducible rfl))); (try simp only [Act.put, List.setIfInBounds_toArray, List.set_cons_zero, List.set_cons_succ])))))
          refine line_done (soon_nil (fun z gz => ?_))
          have gF := Lib.hid (Grow.trans _ _ _ gF0.out gz)
          clear hS gz gF0 gD g9
          go_wp2
          go_roundw
          case rel => exact ⟨i + 1, by go_num, by omega, gF⟩
          case measure => simp [RowKit.intOf]; omega
      · have hzi : ¬ (i : Int) < (MS.length : Int) := by omega
        have g9 : Grow w wr := Grow.trans _ _ _ g8 ga.out
        have kty := Lib.hid (types6_any lA lc l wr (rdN_below HL.out g9) HL2.out)
        have HKw := Lib.hid (HK.out.later ga.out)
        have HQw := Lib.hid (HQ.out.later ga.out)
        clear ga g8 hS1 hszM hMS hNS HK HQ HL HL2 hi HT
        go_wp2_with fail
        refine kty.out.mono ?_
        rintro e w4 ⟨tA, tc, rfl, hT4, b4⟩
        have hTR := Lib.hid (own_rdL Sp.tyL_len (by decide) hT4).2.1
        have hTall := Lib.hid (Sp.types_all (l := l))
        have hTl : (Sp.typesS l).length ≤ 12 := by unfold Sp.typesS; rw [List.length_map, List.length_take]; omega
        have HK := Lib.hid (HKw.out.later b4)
        have HQ := Lib.hid (HQw.out.later b4)
        have G4 : Grow w w4 := Grow.trans _ _ _ g9 b4
        clear kty hT4 b4 g9 HKw HQw
        generalize Sp.typesS l = T at *
        go_upto_region 22 with fail
        have ga0 := Lib.hid (Grow.refl w4)
        go_loopw [20, 21, 22, 23, 24, 25] (fun vi _ _ _ _ _ wr => ∃ j : Nat, vi = .int .i64 j ∧ j ≤ T.length ∧ Hid (Grow w4 wr)) (fun vi _ _ _ _ _ _ => T.length - (RowKit.intOf vi).toNat)
        case atStart => exact ⟨0, by go_num, Nat.zero_le _, ga0⟩
        case round =>
          clear ga0
          obtain ⟨a, rfl, ha, ga⟩ := hrel
          by_cases hlta : a < T.length
          · have hza : (a : Int) < (T.length : Int) := by omega
            have hza0 : (0 : Int) ≤ (a : Int) := by omega
            obtain ⟨tbi, toi, rfl, HRG⟩ := hTR.out.2 (by omega)
            have HRG := Lib.hid HRG
            have e0 : w4.cell? ⟨tbi, toi + a * 2, none⟩ = some (.int .i64 T[a].1) := rdL_get 2 Sp.tyL_len HRG.out hlta 0 (by decide) (v := .int .i64 T[a].1) rfl
            have e1 : w4.cell? ⟨tbi, toi + a * 2 + 1, none⟩ = some (.string T[a].2) := rdL_get 2 Sp.tyL_len HRG.out hlta 1 (by decide) (v := .string T[a].2) rfl
            have hSa : T[a].2.size ≤ 1099511627776 := by have := (hTall.out _ (List.getElem_mem hlta)).2.1; omega
            generalize T[a] = ta at *
            obtain ⟨ad, an⟩ := ta
            simp only at e0 e1 hSa
            have e0 := Lib.hid e0
            have e1 := Lib.hid e1
            go_upto_region 25 with fail
            have gb0 := ga
            generalize wr = wr0 at *
            clear ga
            go_loopw [21, 22, 23, 24, 25] (fun vk _ _ _ _ wr => ∃ j : Nat, vk = .int .i64 j ∧ j ≤ T.length ∧ Hid (Grow w4 wr)) (fun vk _ _ _ _ _ => T.length - (RowKit.intOf vk).toNat)
            case atStart => exact ⟨0, by go_num, Nat.zero_le _, gb0⟩
            case round =>
              clear gb0
              obtain ⟨k, rfl, hk, gb⟩ := hrel
              by_cases hltk : k < T.length
              · have hzk : (k : Int) < (T.length : Int) := by omega
                have hzk0 : (0 : Int) ≤ (k : Int) := by omega
                have f0 : w4.cell? ⟨tbi, toi + k * 2, none⟩ = some (.int .i64 T[k].1) := rdL_get 2 Sp.tyL_len HRG.out hltk 0 (by decide) (v := .int .i64 T[k].1) rfl
                have f1 : w4.cell? ⟨tbi, toi + k * 2 + 1, none⟩ = some (.string T[k].2) := rdL_get 2 Sp.tyL_len HRG.out hltk 1 (by decide) (v := .string T[k].2) rfl
                have hSb : T[k].2.size ≤ 1099511627776 := by have := (hTall.out _ (List.getElem_mem hltk)).2.1; omega
                generalize T[k] = tk at *
                obtain ⟨bd, bn⟩ := tk
                simp only at f0 f1 hSb
                have f0 := Lib.hid f0
                have f1 := Lib.hid f1
                have hsub := Lib.hid (hS2.out (ad, an) (bd, bn))
                have kf1 := Lib.hid (HK.out.find wr an gb.out hSa)
                have kf2 := Lib.hid (fun V (hV : Grow w4 V) => HK.out.find V bn hV hSb)
                have ks1 := Lib.hid (fun V (hV : Grow w4 V) => HK.out.sub V (ad, an) (bd, bn) hV hSa hSb)
                have ks2 := Lib.hid (fun V (hV : Grow w4 V) => HQ.out.sub V (ad, an) (bd, bn) hV hSa hSb)
                simp only at hsub
                generalize Sp.getC L an = ca at *
                generalize Sp.getC L bn = cb at *
                generalize (Sp.findC L an).isSome = oa at *
                generalize (Sp.findC L bn).isSome = ob at *
                obtain ⟨n2, u2, i2, x2, y2, z2, t2⟩ := ca
                obtain ⟨n3, u3, i3, x3, y3, z3, t3⟩ := cb
                simp only at kf1 kf2
                have q1 := cell_below gb.out e1.out
                go_wp2_with fail
                refine kf1.out.mono ?_
                rintro e y4 ⟨A2, c2, rfl, _, by1⟩
                clear kf1 q1
                go_upto_region 28 with fail
                have g4 := Lib.hid (Grow.trans _ _ _ gb.out (Grow.trans _ _ _ by1 ((Below.refl y4.heap.size y4).alloc (Nat.le_refl _) (.cells #[.string n2, .string u2, .slice A2 i2.length c2, .bool x2, .bool y2, .bool z2, .int .i64 t2] 44))))
                clear by1 gb
                generalize y4.alloc (.cells #[.string n2, .string u2, .slice A2 i2.length c2, .bool x2, .bool y2, .bool z2, .int .i64 t2] 44) = y5 at *
                generalize y4.heap.size = p2 at *
                have q1 := cell_below g4.out f1.out
                go_wp2_with fail
                refine (kf2.out y5 g4.out).mono ?_
                rintro e y6 ⟨A3, c3, rfl, _, by2⟩
                clear kf2 q1
                go_upto_region 29 with fail
                have g6 := Lib.hid (Grow.trans _ _ _ g4.out (Grow.trans _ _ _ by2 ((Below.refl y6.heap.size y6).alloc (Nat.le_refl _) (.cells #[.string n3, .string u3, .slice A3 i3.length c3, .bool x3, .bool y3, .bool z3, .int .i64 t3] 44))))
                clear by2 g4
                generalize y6.alloc (.cells #[.string n3, .string u3, .slice A3 i3.length c3, .bool x3, .bool y3, .bool z3, .int .i64 t3] 44) = y7 at *
                generalize y6.heap.size = p3 at *
                have gD : Grow y7 y7.drew := (Below.refl _ _).drew
                have g8 := Lib.hid (Grow.trans _ _ _ g6.out gD)
                have hS := Lib.hid (fun V (hV : Grow y7.drew V) => show V.cell? ⟨tbi, toi + a * 2, none⟩ = some (.int .i64 ad) ∧ V.cell? ⟨tbi, toi + a * 2 + 1, none⟩ = some (.string an) ∧ V.cell? ⟨tbi, toi + k * 2, none⟩ = some (.int .i64 bd) ∧ V.cell? ⟨tbi, toi + k * 2 + 1, none⟩ = some (.string bn) from
                  ⟨cell_below (w := y7.drew) hV (cell_below g8.out e0.out), cell_below (w := y7.drew) hV (cell_below g8.out e1.out), cell_below (w := y7.drew) hV (cell_below g8.out f0.out), cell_below (w := y7.drew) hV (cell_below g8.out f1.out)⟩)
                have ks1 := Lib.hid (fun V (hV : Grow y7.drew V) => ks1.out V (Grow.trans _ _ _ g8.out hV))
                have ks2 := Lib.hid (fun V (hV : Grow y7.drew V) => ks2.out V (Grow.trans _ _ _ g8.out hV))
                clear f0 f1 g6
                by_cases hoo : oa = true ∧ ob = true
                · obtain ⟨rfl, rfl⟩ := hoo
                  rw [← hsub.out rfl rfl] at ks2
                  generalize Sp.subS L (ad, an) (bd, bn) = sv at *
                  clear hsub
                  have ks1 : Hid (∀ V, Grow y7.drew V → Calls Tryz.prog 16 #[.pointer (some ⟨tb, 0, none⟩), .agg #[.int .i64 ad, .string an], .agg #[.int .i64 bd, .string bn]] V fun e w3 => e = .returned (.bool sv) ∧ Grow V w3) := ks1
                  have ks2 : Hid (∀ V, Grow y7.drew V → Calls Tryz.prog 16 #[.pointer (some ⟨tu, 0, none⟩), .agg #[.int .i64 ad, .string an], .agg #[.int .i64 bd, .string bn]] V fun e w3 => e = .returned (.bool sv) ∧ Grow V w3) := ks2
                  cases sv
                  all_goals
                    refine wp_region_calm Grow [0, 1, 2, 3, 4, 5, 6, 7, 8, 9, 10, 11, 12, 13, 14, 15, 16, 17, 18, 19, 20, 21, 22, 23, 24, 25, 26] [] [] [] (by kernel_rfl) (by kernel_rfl) Grow.refl Grow.trans (fun c a d v w h => by cases d <;> exact h) ?_
                    change Line _ _ _ y7.drew _ _ _
                    ((simp only [pickOps, List.filterMap_cons, List.filterMap_nil, List.getElem?_cons_succ, List.getElem?_cons_zero]); (repeat (first | (refine line_not (by rfl) ?_; (try simp only [Act.put, List.setIfInBounds_toArray, List.set_cons_zero, List.set_cons_succ])) | (refine line_val (v := ?_) Grow.refl (by rfl) (fun v9 h9 => ?_) ?_; rotate_left; (focus (obtain ⟨s1, s2, s3, s4⟩ := hS.out v9 h9; go_simp; (first | done | with_reducible rfl))); (try simp only [Act.put, List.setIfInBounds_toArray, List.set_cons_zero, List.set_cons_succ])) | (refine line_call (by rfl) (fun v9 h9 => ?_) (fun v9 h9 => ks1.out v9 h9) ?_; (focus (obtain ⟨s1, s2, s3, s4⟩ := hS.out v9 h9; go_simp; done)); (try simp only [Act.put, List.setIfInBounds_toArray, List.set_cons_zero, List.set_cons_succ])) | (refine line_call (by rfl) (fun v9 h9 => ?_) (fun v9 h9 => ks2.out v9 h9) ?_; (focus (obtain ⟨s1, s2, s3, s4⟩ := hS.out v9 h9; go_simp; done)); (try simp only [Act.put, List.setIfInBounds_toArray, List.set_cons_zero, List.set_cons_succ])))))
                    refine line_done (soon_nil (fun z gz => ?_))
                    have gF := Lib.hid (Grow.trans _ _ _ g8.out gz)
                    clear hS ks1 ks2 gz g8
                    go_wp2
                    go_roundw
                    case rel => exact ⟨k + 1, by go_num, by omega, gF⟩
                    case measure => simp [RowKit.intOf]; omega
                · clear hsub ks1 ks2
                  cases oa <;> cases ob
                  case neg.true.true => exact absurd ⟨rfl, rfl⟩ hoo
                  all_goals
                    clear hoo
                    refine wp_region_calm Grow [0, 1, 2, 3, 4, 5, 6, 7, 8, 9, 10, 11, 12, 13, 14, 15, 16, 17, 18, 19, 20, 21, 22, 23, 24, 25, 26] [] [] [] (by kernel_rfl) (by kernel_rfl) Grow.refl Grow.trans (fun c a d v w h => by cases d <;> exact h) ?_
                    change Line _ _ _ y7.drew _ _ _
                    ((simp only [pickOps, List.filterMap_cons, List.filterMap_nil, List.getElem?_cons_succ, List.getElem?_cons_zero]); (repeat (first | (refine line_not (by rfl) ?_; (try simp only [Act.put, List.setIfInBounds_toArray, List.set_cons_zero, List.set_cons_succ])) | (refine line_val (v := ?_) Grow.refl (by rfl) (fun v9 h9 => ?_) ?_; rotate_left; (focus (obtain ⟨s1, s2, s3, s4⟩ := hS.out v9 h9; go_simp; (first | done | with_reducible rfl))); (try simp only [Act.put, List.setIfInBounds_toArray, List.set_cons_zero, List.set_cons_succ])))))
                    refine line_done (soon_nil (fun z gz => ?_))
                    have gF := Lib.hid (Grow.trans _ _ _ g8.out gz)
                    clear hS gz g8
                    go_wp2
                    go_roundw
                    case rel => exact ⟨k + 1, by go_num, by omega, gF⟩
                    case measure => simp [RowKit.intOf]; omega
              · have hzk : ¬ (k : Int) < (T.length : Int) := by omega
                go_wp2
                go_roundw
                case rel => exact ⟨a + 1, by go_num, by omega, gb⟩
                case measure => simp [RowKit.intOf]; omega
          · have hza : ¬ (a : Int) < (T.length : Int) := by omega
            have gF : Below w.heap.size w wr := Grow.trans _ _ _ G4 ga.out
            clear ga
            go_wp2
            go_ret
            exact ⟨rfl, gF⟩
end Go.Proofs.YtfjplmbknegidaaGreatDoor
end
section
/-
  HierSees' walk in the row's words.
-/
set_option linter.unusedVariables false
namespace Go.Proofs.YtfjplmbknegidaaGreatDoor
open Go.RowKit Go.Lib
theorem walkHierSees (rA : Option Addr) (rc : Nat) (raws : List Sp.RwP) (mA : Option Addr) (mc : Nat) (more : List Sp.RwP) (A1 : Option Addr) (l1 c1 : Nat) (z1 : List Int) (w : World) (hr : RdL Sp.rwC w rA raws) (hi : ∀ r ∈ raws, RwIn w r) (hr2 : RdL Sp.rwC w mA more) (hi2 : ∀ r ∈ more, RwIn w r) (r1 : IsRow .i64 w A1 l1 c1 z1) (hT : Tabs w) :
    Calls Tryz.prog 6 #[.slice rA raws.length rc, .slice mA more.length mc, .slice A1 l1 c1] w fun e w' => e = .returned (.bool true) ∧ Below w.heap.size w w' := by
  obtain ⟨l, rfl, ra, ia⟩ := isRow_rd r1
  exact hierSees_any rA rc raws mA mc more A1 c1 l w hr hi hr2 hi2 ra ia hT
end Go.Proofs.YtfjplmbknegidaaGreatDoor
end
