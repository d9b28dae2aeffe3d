/-
  Texts of the proof, joined: each says at its head what it proves.
-/
import Derived.Test.YtfjplmbknegidaaGreatDoorJk17
section
/-
  Walk of chapter 6's built: the document's own classes.
-/
set_option linter.unusedVariables false
set_option linter.unusedSimpArgs false
namespace Go.Proofs.YtfjplmbknegidaaGreatDoor
open Go.RowKit Go.Lib Go.Maps

namespace Sp
def bclass (super n : ByteArray) : ClP := (⟨n, super, [], false, false, false, -1⟩, none, 0)
theorem findP_none_iff {L : List ClP} {s : ByteArray} : findP L s = none ↔ s ∉ L.map (·.1.name) := by
  rw [findP_none, findC_none]
  constructor
  · intro h q
    obtain ⟨m, hm, e⟩ := List.mem_map.1 q
    exact h m.1 (List.mem_map.2 ⟨m, hm, rfl⟩) e
  · intro h c hc e
    obtain ⟨m, hm, rfl⟩ := List.mem_map.1 hc
    exact h (List.mem_map.2 ⟨m, hm, e⟩)
end Sp

set_option maxHeartbeats 8000000 in
set_option maxRecDepth 100000 in
theorem built1_any (w : World) (B tb mb bt : Nat) (A : Option Addr) (c : Nat) (L : List Sp.ClP) (super : ByteArray) (ns : List ByteArray) (nb nc : Nat) (h : HMk w B tb mb A c L) (hB : B ≤ w.heap.size)
    (hbt : w.heap[bt]? = some (.cells #[.pointer (some ⟨tb, 0, none⟩)] 27 (0, 0))) (hbo : OutT A L.length c tb mb bt)
    (hns : w.heap[nb]? = some (.cells (ns.map Value.string).toArray 9 (0, 0))) (hno : OutT A L.length c tb mb nb)
    (hd : (L.map (·.1.name) ++ ns).Nodup) (hl : L.length + ns.length ≤ 1000) (hs : super.size ≤ 1099511627776) (hn : ∀ n ∈ ns, n.size ≤ 1099511627776) :
    Calls Tryz.prog 52 #[.string super, .slice (some ⟨nb, 0, none⟩) ns.length nc, .pointer (some ⟨bt, 0, none⟩)] w fun e w' => ∃ A' c', e = .returned (.tuple #[]) ∧ HMk w' B tb mb A' c' (L ++ ns.map (Sp.bclass super)) ∧ Below B w w' ∧ ∀ k, k < w.heap.size → OutT A L.length c tb mb k → w'.heap[k]? = w.heap[k]? ∧ OutT A' (L ++ ns.map (Sp.bclass super)).length c' tb mb k := by
  have hH := Lib.hid h
  have hNs := Lib.hid hns
  have hBt := Lib.hid hbt
  have hD := Lib.hid hd
  have hS := Lib.hid hn
  have hbl := blk_lt hbt
  have hnl := blk_lt hns
  have hnoO := Lib.hid hno
  have hboO := Lib.hid hbo
  have hb0 := Lib.hid (Below.refl B w)
  have hk0 : Hid (∀ k, k < w.heap.size → OutT A L.length c tb mb k → w.heap[k]? = w.heap[k]? ∧ OutT A (L ++ ([] : List Sp.ClP)).length c tb mb k) := Lib.hid (fun k hk ho => ⟨rfl, by rw [List.append_nil]; exact ho⟩)
  have hH0 : Hid (HMk w B tb mb A c (L ++ ([] : List Sp.ClP))) := Lib.hid (by rw [List.append_nil]; exact h)
  clear h hns hbt hd hn hno hbo hH
  go_enter Tryz.func52, Tryz.ntmps52
  go_wp2
  go_loopw [9] (fun vi wr => ∃ (j : Nat) (A' : Option Addr) (c' : Nat), vi = .int .i64 j ∧ j ≤ ns.length ∧ Hid (HMk wr B tb mb A' c' (L ++ (ns.take j).map (Sp.bclass super))) ∧ Hid (Below B w wr) ∧ Hid (∀ k, k < w.heap.size → OutT A L.length c tb mb k → wr.heap[k]? = w.heap[k]? ∧ OutT A' (L ++ (ns.take j).map (Sp.bclass super)).length c' tb mb k)) (fun vi _ => ns.length - (RowKit.intOf vi).toNat)
  case atStart => exact ⟨0, A, c, by go_num, Nat.zero_le _, hH0, hb0, Lib.hid (fun k hk ho => ⟨rfl, (hk0.out k hk ho).2⟩)⟩
  case round =>
    clear hH0 hb0 hk0
    obtain ⟨j, A', c', rfl, hj, hH, hb, hk⟩ := hrel
    have hbz := hb.out.size
    by_cases hlt : j < ns.length
    · have hzj : (j : Int) < (ns.length : Int) := by omega
      obtain ⟨kn, ko⟩ := hk.out nb hnl hnoO.out
      obtain ⟨kb, kbo⟩ := hk.out bt hbl hboO.out
      have hcn : wr.cell? ⟨nb, j, none⟩ = some (.string ns[j]) := (blk_cell (kn.trans hNs.out) j _ (by simp [hlt])).1
      obtain ⟨t0, f0⟩ := blk_cell (kb.trans hBt.out) 0 (.pointer (some ⟨tb, 0, none⟩)) rfl
      have htk : ns.take (j + 1) = ns.take j ++ [ns[j]] := by rw [List.take_succ_eq_append_getElem hlt]
      have hfn : Sp.findP (L ++ (ns.take j).map (Sp.bclass super)) ns[j] = none := by
        rw [Sp.findP_none_iff]
        intro q
        rw [List.map_append, List.map_map] at q
        have hmm : (ns.take j).map ((fun m : Sp.ClP => m.1.name) ∘ Sp.bclass super) = ns.take j := by
          rw [show ((fun m : Sp.ClP => m.1.name) ∘ Sp.bclass super) = id from rfl, List.map_id]
        rw [hmm] at q
        have h1 := hD.out
        have h2 : ns = ns.take j ++ ns[j] :: ns.drop (j + 1) := by rw [List.getElem_cons_drop, List.take_append_drop]
        rw [h2, ← List.append_assoc, List.nodup_append] at h1
        exact h1.2.2 _ q _ (List.mem_cons_self ..) rfl
      have hsz := hS.out _ (List.getElem_mem hlt)
      have htk := Lib.hid htk
      clear kn ko kb kbo
      generalize ns[j] = nm at *
      have hlen : (L ++ (ns.take j).map (Sp.bclass super)).length ≤ 10000 := by simp; omega
      have kl := Lib.hid (lay_any wr B tb mb A' c' (L ++ (ns.take j).map (Sp.bclass super)) (Sp.bclass super nm) hH.out hfn hlen (Nat.le_trans hB hbz) (rdL_nil _ _ _) ⟨hsz, hs, fun i hi => (by cases hi)⟩ (show In64 (-1) by unfold In64; decide) (Nat.zero_le _) (fun h0 => absurd h0 (Nat.lt_irrefl 0)))
      unfold Sp.clV Sp.bclass at kl
      simp only [List.length_nil] at kl
      clear hfn hlen
      go_wp2_with fail
      refine kl.out.mono ?_
      rintro e w2 ⟨A2, c2, rfl, hH2, hb2, hk2⟩
      have hH3 : Hid (HMk w2 B tb mb A2 c2 (L ++ (ns.take (j + 1)).map (Sp.bclass super))) := Lib.hid (by
        rw [htk.out, List.map_append, ← List.append_assoc]
        exact hH2)
      have hb3 := Lib.hid (hb.out.trans hb2)
      have hk3 : Hid (∀ k, k < w.heap.size → OutT A L.length c tb mb k → w2.heap[k]? = w.heap[k]? ∧ OutT A2 (L ++ (ns.take (j + 1)).map (Sp.bclass super)).length c2 tb mb k) := Lib.hid (fun k hk' ho => by
        obtain ⟨q1, q2⟩ := hk.out k hk' ho
        obtain ⟨q3, q4⟩ := hk2 k (by omega) q2
        refine ⟨q3.trans q1, ?_⟩
        rw [htk.out, List.map_append, ← List.append_assoc]
        exact q4)
      clear kl hH2 hb2 hk2 hH hb hk t0 f0 hcn
      go_wp2
      go_roundw
      case rel => exact ⟨j + 1, A2, c2, by go_num, by omega, hH3, hb3, hk3⟩
      case measure => simp [RowKit.intOf]; omega
    · have hzj : ¬ (j : Int) < (ns.length : Int) := by omega
      have hje : ns.take j = ns := List.take_of_length_le (by omega)
      rw [hje] at hH hk
      clear hje
      go_wp2
      go_end0
      first
        | exact ⟨A', c', rfl, hH.out, hb.out, hk.out⟩
        | exact ⟨rfl, A', c', hH.out, hb.out, fun k h1 h2 => ⟨(hk.out k h1 h2).1, by have := (hk.out k h1 h2).2; rwa [List.length_append, List.length_map] at this⟩⟩

namespace Sp
def S1 (l : List UInt8) : ByteArray := ⟨l.toArray⟩
def under : List ByteArray := [⟨#[83, 116, 114, 105, 110, 103]⟩, ⟨#[87, 101, 97, 107]⟩, ⟨#[76, 111, 97, 100, 101, 114]⟩, ⟨#[84, 104, 114, 111, 119, 97, 98, 108, 101]⟩]
def thrown : List ByteArray := [⟨#[78, 117, 108, 108]⟩, ⟨#[65, 114, 105, 116, 104]⟩, ⟨#[66, 111, 117, 110, 100, 115]⟩, ⟨#[83, 105, 122, 101]⟩, ⟨#[67, 97, 115, 116]⟩, ⟨#[83, 116, 111, 114, 101]⟩, ⟨#[77, 111, 110, 105, 116, 111, 114]⟩, ⟨#[78, 111, 67, 108, 97, 115, 115]⟩, ⟨#[68, 101, 101, 112]⟩]
def thrB : ByteArray := ⟨#[84, 104, 114, 111, 119, 97, 98, 108, 101]⟩
/-- The document's own classes. -/
def builtP : List ClP := ([objB].map (bclass nilB) ++ under.map (bclass objB)) ++ thrown.map (bclass thrB)
end Sp

/-- The same, the names a literal that is laid just ahead. -/
theorem built1_lit (w : World) (B tb mb bt : Nat) (A : Option Addr) (c : Nat) (L : List Sp.ClP) (super : ByteArray) (ns : List ByteArray) (C : Array Value) (n : Nat) (hn' : ns.length = n) (hC : C = (ns.map Value.string).toArray) (h : HMk w B tb mb A c L) (hB : B ≤ w.heap.size)
    (hbt : w.heap[bt]? = some (.cells #[.pointer (some ⟨tb, 0, none⟩)] 27 (0, 0))) (hbo : OutT A L.length c tb mb bt)
    (hd : (L.map (·.1.name) ++ ns).Nodup) (hl : L.length + ns.length ≤ 1000) (hs : super.size ≤ 1099511627776) (hn : ∀ n ∈ ns, n.size ≤ 1099511627776) :
    Calls Tryz.prog 52 #[.string super, .slice (some ⟨w.heap.size, 0, none⟩) n n, .pointer (some ⟨bt, 0, none⟩)] (w.alloc (.cells C 9)) fun e w' => ∃ A' c', e = .returned (.tuple #[]) ∧ HMk w' B tb mb A' c' (L ++ ns.map (Sp.bclass super)) ∧ Below B w w' ∧ w'.heap[bt]? = some (.cells #[.pointer (some ⟨tb, 0, none⟩)] 27 (0, 0)) ∧ OutT A' (L ++ ns.map (Sp.bclass super)).length c' tb mb bt := by
  subst hn'
  subst hC
  have hb0 := (Below.refl w.heap.size w).alloc (Nat.le_refl _) (.cells (ns.map Value.string).toArray 9)
  have hbl := blk_lt hbt
  have hno : OutT A L.length c tb mb w.heap.size := ⟨fun q => by have := blk_lt h.box; omega, fun q => by have := mapV_lt h.mp; omega, fun q => by have := own_lt h.names _ q; omega⟩
  refine (built1_any (w.alloc (.cells (ns.map Value.string).toArray 9)) B tb mb bt A c L super ns w.heap.size ns.length (h.keeps hb0) (by have := hb0.size; omega) (blk_old hbt) hbo (blk_new w _) hno hd hl hs hn).mono ?_
  rintro e w' ⟨A', c', rfl, h1, h2, h3⟩
  obtain ⟨q1, q2⟩ := h3 bt (by have := hb0.size; omega) hbo
  exact ⟨A', c', rfl, h1, ((Below.refl B w).alloc hB _).trans h2, q1.trans (blk_old hbt), q2⟩

set_option maxHeartbeats 8000000 in
set_option maxRecDepth 100000 in
theorem built_any (w : World) :
    Calls Tryz.prog 29 #[] w fun e w' => ∃ tb mb A c, e = .returned (.pointer (some ⟨tb, 0, none⟩)) ∧ HMk w' w.heap.size tb mb A c Sp.builtP ∧ Below w.heap.size w w' := by
  have hmm := @run_makeMap Tryz.prog
  have hM := Lib.hid (mapV_made w Tryz.prog 9)
  have hT := Lib.hid (blk_new (w.alloc (.map #[] 0)) (.cells #[.slice none 0 0, .map (some w.heap.size)] 83))
  rw [show (w.alloc (.map #[] 0)).heap.size = w.heap.size + 1 by simp] at hT
  have hB := Lib.hid (blk_new ((w.alloc (.map #[] 0)).alloc (.cells #[.slice none 0 0, .map (some w.heap.size)] 83)) (.cells #[.pointer (some ⟨w.heap.size + 1, 0, none⟩)] 27))
  rw [show ((w.alloc (.map #[] 0)).alloc (.cells #[.slice none 0 0, .map (some w.heap.size)] 83)).heap.size = w.heap.size + 2 by simp] at hB
  have hT3 := Lib.hid (blk_old (o := .cells #[.pointer (some ⟨w.heap.size + 1, 0, none⟩)] 27) hT.out)
  have hM3 := Lib.hid (mapV_alloc (mapV_alloc hM.out (.cells #[.slice none 0 0, .map (some w.heap.size)] 83)) (.cells #[.pointer (some ⟨w.heap.size + 1, 0, none⟩)] 27))
  have hb3 := Lib.hid ((((Below.refl w.heap.size w).alloc (Nat.le_refl _) (.map #[] 0)).alloc (by simp) (.cells #[.slice none 0 0, .map (some w.heap.size)] 83)).alloc (by simp; omega) (.cells #[.pointer (some ⟨w.heap.size + 1, 0, none⟩)] 27))
  go_enter Tryz.func29, Tryz.ntmps29
  go_upto_region 2 with fail
  have hz3 : w.heap.size + 2 < (((w.alloc (.map #[] 0)).alloc (.cells #[.slice none 0 0, .map (some w.heap.size)] 83)).alloc (.cells #[.pointer (some ⟨w.heap.size + 1, 0, none⟩)] 27)).heap.size := by simp
  generalize ((w.alloc (.map #[] 0)).alloc (.cells #[.slice none 0 0, .map (some w.heap.size)] 83)).alloc (.cells #[.pointer (some ⟨w.heap.size + 1, 0, none⟩)] 27) = W3 at *
  have hH3 : Hid (HMk W3 w.heap.size (w.heap.size + 1) w.heap.size none 0 []) := Lib.hid ⟨hT3.out, ⟨rfl, .inl ⟨rfl, rfl⟩⟩, mapV_congr hM3.out (fun x => Sp.fH_nil x), ⟨fun m hm => (by cases hm), fun m hm => (by cases hm), fun m hm => (by cases hm), fun m hm => (by cases hm)⟩, Nat.le_succ _, Nat.le_refl _, fun m hm => (by cases hm)⟩
  clear hM hT hT3 hM3 hmm
  have hbo : OutT none ([] : List Sp.ClP).length 0 (w.heap.size + 1) w.heap.size (w.heap.size + 2) := ⟨by omega, by omega, by simp [Value.ownBlock]⟩
  have k1 := Lib.hid (built1_lit W3 w.heap.size (w.heap.size + 1) w.heap.size (w.heap.size + 2) none 0 [] Sp.nilB [Sp.objB] #[.string ⟨#[79, 98, 106, 101, 99, 116]⟩] 1 rfl rfl hH3.out hb3.out.size hB.out hbo (by decide +kernel) (by decide) (by decide) (by decide +kernel))
  clear hbo hH3 hB
  go_wp2_with fail
  refine k1.out.mono ?_
  rintro e w4 ⟨A4, c4, rfl, h4, hb4, hB4, ho4⟩
  have h4 := Lib.hid h4
  have hb5 := Lib.hid (hb3.out.trans hb4)
  have hz4 := hb5.out.size
  have k2 := Lib.hid (built1_lit w4 w.heap.size (w.heap.size + 1) w.heap.size (w.heap.size + 2) A4 c4 ([] ++ [Sp.objB].map (Sp.bclass Sp.nilB)) Sp.objB Sp.under #[.string ⟨#[83, 116, 114, 105, 110, 103]⟩, .string ⟨#[87, 101, 97, 107]⟩, .string ⟨#[76, 111, 97, 100, 101, 114]⟩, .string ⟨#[84, 104, 114, 111, 119, 97, 98, 108, 101]⟩] 4 rfl rfl h4.out hz4 hB4 ho4 (by decide +kernel) (by decide) (by decide) (by decide +kernel))
  clear k1 hb3 hb4 hB4 ho4 h4 hz3
  go_wp2_with fail
  refine k2.out.mono ?_
  rintro e w5 ⟨A5, c5, rfl, h5, hb6, hB5, ho5⟩
  have h5 := Lib.hid h5
  have hb7 := Lib.hid (hb5.out.trans hb6)
  have hz5 := hb7.out.size
  have k3 := Lib.hid (built1_lit w5 w.heap.size (w.heap.size + 1) w.heap.size (w.heap.size + 2) A5 c5 (([] ++ [Sp.objB].map (Sp.bclass Sp.nilB)) ++ Sp.under.map (Sp.bclass Sp.objB)) Sp.thrB Sp.thrown #[.string ⟨#[78, 117, 108, 108]⟩, .string ⟨#[65, 114, 105, 116, 104]⟩, .string ⟨#[66, 111, 117, 110, 100, 115]⟩, .string ⟨#[83, 105, 122, 101]⟩, .string ⟨#[67, 97, 115, 116]⟩, .string ⟨#[83, 116, 111, 114, 101]⟩, .string ⟨#[77, 111, 110, 105, 116, 111, 114]⟩, .string ⟨#[78, 111, 67, 108, 97, 115, 115]⟩, .string ⟨#[68, 101, 101, 112]⟩] 9 rfl rfl h5.out hz5 hB5 ho5 (by decide +kernel) (by decide) (by decide) (by decide +kernel))
  clear k2 hb5 hb6 hB5 ho5 h5 hz4
  go_wp2_with fail
  refine k3.out.mono ?_
  rintro e w6 ⟨A6, c6, rfl, h6, hb8, hB6, ho6⟩
  have h6 := Lib.hid h6
  have hb9 := Lib.hid (hb7.out.trans hb8)
  obtain ⟨t0, f0⟩ := blk_cell hB6 0 (.pointer (some ⟨w.heap.size + 1, 0, none⟩)) rfl
  have hlt := blk_lt hB6
  clear k3 hb7 hb8 hB6 ho6 hz5
  go_wp2
  go_ret
  exact ⟨w.heap.size + 1, w.heap.size, A6, c6, rfl, h6.out, hb9.out⟩
end Go.Proofs.YtfjplmbknegidaaGreatDoor
end
