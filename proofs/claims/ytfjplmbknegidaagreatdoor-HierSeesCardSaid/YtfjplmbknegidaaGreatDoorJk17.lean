/-
  Texts of the proof, joined: each says at its head what it proves.
-/
import Derived.Test.YtfjplmbknegidaaGreatDoorJk16
import Derived.Deep.RegionLaw
import Derived.Test.YtfjplmbknegidaaGreatDoorJk9
import Derived.Deep.RegionWith
section
/-
  Walk of chapter 6's Chain.
-/
set_option linter.unusedVariables false
set_option linter.unusedSimpArgs false
namespace Go.Proofs.YtfjplmbknegidaaGreatDoor
open Go.RowKit Go.Lib Go.Maps

/-- How long a slice is. -/
def lenV : Value → Nat
  | .slice _ n _ => n
  | _ => 0
theorem own_lt {w : World} {b : Nat} {e : TypeId} {size n : Nat} {v : Value} {xs : List Value} (h : w.ownsRow b e size v n xs) (k : Nat) (hk : v.ownBlock = some k) : k < w.heap.size := by
  rcases h.2 with ⟨rfl, _⟩ | ⟨g, cap, cur, rfl, hb, hh, _⟩
  · simp [Value.ownBlock] at hk
  · have : g = k := by simpa [Value.ownBlock] using hk
    subst this
    exact blk_lt hh
/-- One string more behind a row of one's own. -/
theorem app_str {ty : TypeId} (W : World) (B : Nat) (A : Option Addr) (c : Nat) (acc : List ByteArray) (s : ByteArray) (h : W.ownsRow B 9 1 (.slice A acc.length c) acc.length (acc.flatMap Sp.strC)) (hl : acc.length ≤ 1000000) (hB : B ≤ W.heap.size) :
    ∃ A' c' w5, (Builtin.append_ #[42, 42] ty #[.slice A acc.length c, .slice (some ⟨W.heap.size, 0, none⟩) 1 1]).run Tryz.prog (W.alloc (.cells #[.string s] 9)) = .ok (.slice A' (acc ++ [s]).length c') w5 ∧ w5.ownsRow B 9 1 (.slice A' (acc ++ [s]).length c') (acc ++ [s]).length ((acc ++ [s]).flatMap Sp.strC) ∧ Keeps (fun i => (Value.slice A acc.length c).ownBlock = some i) W w5 := by
  obtain ⟨i0, hi, hz0, hzi1, hzi2⟩ := info_parts infoStr
  have hO := own_lit (l := [s]) Sp.strC_len (C := #[.string s]) rfl (blk_new W (.cells #[.string s] 9)) (Nat.le_refl _) (by simp)
  obtain ⟨_, hrd, _⟩ := own_rdL Sp.strC_len (by decide) hO
  obtain ⟨A', c', w5, r1, r2, r3⟩ := app_rdL (ty := ty) Tryz.underlying42 hi hz0 hzi1 hzi2 rfl (by decide) Sp.strC_len Sp.strC_one (by decide) (W.alloc (.cells #[.string s] 9)) B A c acc (some ⟨W.heap.size, 0, none⟩) 1 [s] (h.alloc _) hrd (by simp; omega) (by simp; omega)
  exact ⟨A', c', w5, r1, r2, ((Keeps.refl _ W).alloc _).trans r3⟩

set_option maxHeartbeats 8000000 in
set_option maxRecDepth 100000 in
theorem chain_any (w : World) (tb mb : Nat) (A : Option Addr) (c : Nat) (L : List Sp.ClP) (s : ByteArray) (hH : HTab w tb mb A c L) (ha : Sp.Acyc (L.map (·.1))) (hs : s.size ≤ 1099511627776) (hL : (Sp.chainS (L.map (·.1)) s).length ≤ 100000) :
    Calls Tryz.prog 26 #[.pointer (some ⟨tb, 0, none⟩), .string s] w fun e w' => ∃ A' c', e = .returned (.slice A' (Sp.chainS (L.map (·.1)) s).length c') ∧ w'.ownsRow w.heap.size 9 1 (.slice A' (Sp.chainS (L.map (·.1)) s).length c') (Sp.chainS (L.map (·.1)) s).length ((Sp.chainS (L.map (·.1)) s).flatMap Sp.strC) ∧ Below w.heap.size w w' := by
  have H0 := Lib.hid hH
  have HA := Lib.hid ha
  obtain ⟨R, hR⟩ : ∃ R, Sp.chainS (L.map (·.1)) s = R := ⟨_, rfl⟩
  have hd : Hid (([] : List ByteArray) ++ Sp.chainS (L.map (·.1)) s = R) := Lib.hid (by rw [List.nil_append, hR])
  rw [hR] at hL ⊢
  clear hR
  generalize hfs : (Sp.findP L s).isSome = fs at *
  have hfs := Lib.hid hfs
  obtain ⟨m, hm⟩ : ∃ m, (Sp.findP L s).getD Sp.zP = m := ⟨_, rfl⟩
  have hm := Lib.hid hm
  obtain ⟨⟨nm, su, ifs, b1, b2, b3, at_⟩, mA, mc⟩ := m
  have hv := Lib.hid (show Sp.clV ((Sp.findP L s).getD Sp.zP) = .agg #[.string nm, .string su, .slice mA ifs.length mc, .bool b1, .bool b2, .bool b3, .int .i64 at_] by rw [hm.out]; rfl)
  have hsm := Lib.hid (show s.size ≤ maxLen by unfold maxLen; omega)
  obtain ⟨c1, f1⟩ := blk_cell hH.box 1 (.map (some mb)) rfl
  have hb1 := Lib.hid ((Below.refl w.heap.size w).alloc (Nat.le_refl _) (.cells #[.string nm, .string su, .slice mA ifs.length mc, .bool b1, .bool b2, .bool b3, .int .i64 at_] 44))
  have hK1 := Lib.hid (blk_new w (.cells #[.string nm, .string su, .slice mA ifs.length mc, .bool b1, .bool b2, .bool b3, .int .i64 at_] 44))
  have hO1 : Hid ((w.alloc (.cells #[.string nm, .string su, .slice mA ifs.length mc, .bool b1, .bool b2, .bool b3, .int .i64 at_] 44)).ownsRow w.heap.size 9 1 (.slice none 0 0) 0 (([] : List ByteArray).flatMap Sp.strC)) := Lib.hid ⟨rfl, .inl ⟨rfl, rfl⟩⟩
  have hmp := Lib.hid hH.mp
  clear ha hH
  go_enter Tryz.func26, Tryz.ntmps26
  go_wp2_with (at_lookup; refine wpList_lookup_cl_ok _ rfl _ _ rfl mb 100000 L rfl hmp.out s hsm.out rfl _ hv.out fs hfs.out ?_)
  go_loopw [5, 6, 7] (fun v5 v6 v7 wr => ∃ (acc : List ByteArray) (s' : ByteArray) (m : Sp.ClP) (A' : Option Addr) (c' cb : Nat) (fs : Bool), v5 = .slice A' acc.length c' ∧ v6 = .pointer (some ⟨cb, 0, none⟩) ∧ v7 = .bool fs ∧ Hid ((Sp.findP L s').isSome = fs) ∧ Hid ((Sp.findP L s').getD Sp.zP = m) ∧ Hid (wr.heap[cb]? = some (.cells #[.string m.1.name, .string m.1.super, .slice m.2.1 m.1.ifaces.length m.2.2, .bool m.1.iface, .bool m.1.abs, .bool m.1.own, .int .i64 m.1.at_] 44 (0, 0))) ∧ Hid (wr.ownsRow w.heap.size 9 1 (.slice A' acc.length c') acc.length (acc.flatMap Sp.strC)) ∧ Hid (acc ++ Sp.chainS (L.map (·.1)) s' = R) ∧ Hid (Below w.heap.size w wr)) (fun v5 _ _ _ => R.length - lenV v5)
  case atStart => exact ⟨[], s, ⟨⟨nm, su, ifs, b1, b2, b3, at_⟩, mA, mc⟩, none, 0, w.heap.size, fs, rfl, rfl, rfl, hfs, hm, hK1, hO1, hd, hb1⟩
  case round =>
    clear hd hfs hm hK1 hO1 hb1 hsm hv c1 f1 hmp
    obtain ⟨acc, s', m, A', c', cb, fs', rfl, rfl, rfl, hfs, hm, hK, hO, hd, hB⟩ := hrel
    have T1 := (H0.out.below hB.out).told s'
    rw [hm.out] at T1
    have hch := Lib.hid (fun c h => Sp.chain_some HA.out (s := s') (c := c) h)
    have hcn := Lib.hid (fun h => Sp.chain_none (L := L.map (·.1)) (s := s') h)
    obtain ⟨⟨nm', su', ifs', b1', b2', b3', at_'⟩, mA', mc'⟩ := m
    simp only at hK T1
    obtain ⟨t1, t2, t3, t4, t5, t6, t7⟩ := T1
    have T4 := Lib.hid t4
    obtain ⟨e0, e1, e2, e3, e4, e5, e6⟩ := cells7 hK.out
    have hlb := blk_lt hK.out
    have hBz := hB.out.size
    cases fs' with
    | false =>
      have hnone : Sp.findP L s' = none := by have := hfs.out; cases h : Sp.findP L s' with | none => rfl | some x => rw [h] at this; cases this
      have hR : acc = R := by rw [← hd.out, hcn.out (Sp.findP_none.1 hnone), List.append_nil]
      subst hR
      clear hch hcn hfs hm t1 t2 t3 t4 t5 t6 t7 hnone hd e0 e1 e2 e3 e4 e5 e6
      go_wp2
      go_ret
      exact ⟨A', c', rfl, hO.out, hB.out⟩
    | true =>
      have hsome : Sp.findP L s' = some ⟨⟨nm', su', ifs', b1', b2', b3', at_'⟩, mA', mc'⟩ := by
        have h1 := hfs.out
        have h2 := hm.out
        cases h : Sp.findP L s' with
        | none => rw [h] at h1; cases h1
        | some x => rw [h] at h2; exact congrArg some h2
      have hd2 := Lib.hid (show (acc ++ [nm']) ++ Sp.chainS (L.map (·.1)) su' = R by rw [← hd.out, hch.out _ (Sp.findP_some hsome), List.append_assoc]; rfl)
      have hlen : acc.length + 1 ≤ R.length := by rw [← hd2.out]; simp
      clear hch hcn hfs hm t1 t2 t3 t5 t6 t7 hsome hd
      obtain ⟨A2, c2, w2, hra, hO2, hK2⟩ := app_str (ty := 42) wr w.heap.size A' c' acc nm' hO.out (by omega) hBz
      have hO2 := Lib.hid hO2
      have hKk := Lib.hid (hK2.obj hK.out (fun q => by
        obtain ⟨cap, cur, _⟩ : True ∧ True ∧ True := ⟨trivial, trivial, trivial⟩
        rcases hO.out.2 with ⟨h0, _⟩ | ⟨g, cp, cr, hv, hb, hh, _⟩
        · rw [h0] at q; simp [Value.ownBlock] at q
        · rw [hv] at q
          have : g = cb := by simpa [Value.ownBlock] using q
          rw [this, hK.out] at hh
          injection hh with hh
          injection hh with _ ht
          exact absurd ht (by decide)))
      have hb2 := Lib.hid (((Keeps.of_below (S := fun _ => False) hB.out).then hK2 (fun i q => .inr (own_base hO.out i q))).below (Nat.le_refl _) (fun i q => q.elim))
      have hlen2 : (acc ++ [nm']).length = acc.length + 1 := by simp
      have hlenh := Lib.hid hlen2
      rw [hlen2] at hra
      have hra2 := Lib.hid hra
      clear hra hlen2 hK2 hO hB
      go_wp2_with (at_builtin; refine wpList_app _ rfl _ _ _ _ rfl _ _ rfl rfl (.slice A2 (acc.length + 1) c2) w2 hra2.out ?_)
      intro v2 w2' hq
      obtain ⟨rfl, rfl⟩ := hq.out
      clear hq hra2 e0 e1 e2 e3 e4 e5 e6 hlb hK
      obtain ⟨e0, e1, e2, e3, e4, e5, e6⟩ := cells7 hKk.out
      have hlb := blk_lt hKk.out
      have hN := Lib.hid (blk_new w2 (.cells #[.string nm', .string su', .slice mA' ifs'.length mc', .bool b1', .bool b2', .bool b3', .int .i64 at_'] 44))
      have hb3 := Lib.hid (hb2.out.alloc hb2.out.size (.cells #[.string nm', .string su', .slice mA' ifs'.length mc', .bool b1', .bool b2', .bool b3', .int .i64 at_'] 44))
      have hO3 := Lib.hid (hO2.out.alloc (.cells #[.string nm', .string su', .slice mA' ifs'.length mc', .bool b1', .bool b2', .bool b3', .int .i64 at_'] 44))
      have hOn := Lib.hid (fun k hk => own_lt hO2.out k hk)
      have hbz2 := hb2.out.size
      clear hO2 hb2
      go_upto_region 4 with fail
      clear e0 e1 e2 e3 e4 e5 e6 hlb hKk
      generalize w2.alloc (.cells #[.string nm', .string su', .slice mA' ifs'.length mc', .bool b1', .bool b2', .bool b3', .int .i64 at_'] 44) = w3 at *
      obtain ⟨nb, hnb⟩ : ∃ nb, w2.heap.size = nb := ⟨_, rfl⟩
      rw [hnb] at hN hOn hbz2 ⊢
      clear hnb
      obtain ⟨m2, hm2⟩ : ∃ m, (Sp.findP L su').getD Sp.zP = m := ⟨_, rfl⟩
      have hm2 := Lib.hid hm2
      have hv2 := Lib.hid (show Sp.clV ((Sp.findP L su').getD Sp.zP) = .agg #[.string m2.1.name, .string m2.1.super, .slice m2.2.1 m2.1.ifaces.length m2.2.2, .bool m2.1.iface, .bool m2.1.abs, .bool m2.1.own, .int .i64 m2.1.at_] by rw [hm2.out]; rfl)
      obtain ⟨fs2, hfs2⟩ : ∃ b, (Sp.findP L su').isSome = b := ⟨_, rfl⟩
      have hfs2 := Lib.hid hfs2
      have H3 := Lib.hid (H0.out.below hb3.out)
      have hsu := Lib.hid (show su'.size ≤ maxLen by have := T4.out; unfold maxLen; omega)
      obtain ⟨c1, f1⟩ := blk_cell H3.out.box 1 (.map (some mb)) rfl
      have hlt0 := blk_lt H0.out.box
      have hne : tb ≠ nb := by omega
      refine wp_region_noPanic (chain_region _ _ _ tb mb nb L su' m2 fs2 (.string nm') (.slice mA' ifs'.length mc') (.bool b1') (.bool b2') (.bool b3') (.int .i64 at_') (fun _ _ _ _ _ h => h) (by rfl) (by rfl) (Nat.le_of_ble_eq_true (by rfl)) c1 H3.out.mp hN.out hsu.out hm2.out hfs2.out hne ?_)
      intro w4 hfin hKf
      refine NoPanic.normal ?_
      have hO4 := Lib.hid (hKf.row hO3.out (fun k hk q => by have := hOn.out k hk; omega))
      have hB4 := Lib.hid (hb3.out.trans (hKf.below hb3.out.size (fun i q => by omega)))
      have hfin := Lib.hid hfin
      clear hO3 hb3 hKf hN c1 f1 hv2 H3 hsu hne
      (try simp only [Act.put, List.setIfInBounds_toArray, List.set_cons_zero, List.set_cons_succ])
      go_wp2
      go_roundw
      case rel => exact ⟨acc ++ [nm'], su', m2, A2, c2, nb, fs2, by first | rfl | (simp; done), rfl, rfl, hfs2, hm2, hfin, hO4, hd2, hB4⟩
      case measure => simp [lenV]; omega
end Go.Proofs.YtfjplmbknegidaaGreatDoor
end
section
/-
  A table under way; walk of chapter 6's lay.
-/
set_option linter.unusedVariables false
set_option linter.unusedSimpArgs false
namespace Go.Proofs.YtfjplmbknegidaaGreatDoor
open Go.RowKit Go.Lib Go.Maps

/-- Blocks that a table under way does not write. -/
def OutT (A : Option Addr) (n c tb mb k : Nat) : Prop := k ≠ tb ∧ k ≠ mb ∧ (Value.slice A n c).ownBlock ≠ some k
/-- The program's table while it is made: all of it lies in blocks from B on. -/
structure HMk (w : World) (B tb mb : Nat) (A : Option Addr) (c : Nat) (L : List Sp.ClP) : Prop where
  box : w.heap[tb]? = some (.cells #[.slice A L.length c, .map (some mb)] 83 (0, 0))
  names : w.ownsRow B 9 1 (.slice A L.length c) L.length ((L.map (·.1.name)).flatMap Sp.strC)
  mp : MapV Tryz.prog w 9 mb L.length (Sp.fH L)
  cls : ClsOk w L
  tbB : B ≤ tb
  mbB : B ≤ mb
  sep : ∀ m ∈ L, 0 < m.1.ifaces.length → ∀ b o, m.2.1 = some ⟨b, o, none⟩ → OutT A L.length c tb mb b
theorem HMk.tab {w : World} {B tb mb : Nat} {A : Option Addr} {c : Nat} {L : List Sp.ClP} (h : HMk w B tb mb A c L) (hL : L.length ≤ 10000) : HTab w tb mb A c L := by
  have hn := h.names
  obtain ⟨_, h2, _⟩ := own_rdL Sp.strC_len (by decide) (l := L.map (·.1.name)) hn
  exact ⟨h.box, h2, mapV_mono h.mp (by omega), h.cls⟩
/-- Blocks below B are written by nobody; a table under way stays where nothing of its own is written. -/
theorem HMk.keeps {w w' : World} {B tb mb : Nat} {A : Option Addr} {c : Nat} {L : List Sp.ClP} (h : HMk w B tb mb A c L) (hb : Below w.heap.size w w') : HMk w' B tb mb A c L :=
  ⟨blk_below h.box hb, (Keeps.of_below (S := fun _ => False) hb).row h.names (fun k hk q => q), mapV_block h.mp (hb.block _ (mapV_lt h.mp)), h.cls.below hb, h.tbB, h.mbB, h.sep⟩
theorem rdL_keeps0 {α : Type} {enc : α → List Value} {S : Nat → Prop} {w w1 : World} {A : Option Addr} {l : List α} (h : RdL enc w A l) (hk : Keeps S w w1) (hS : 0 < l.length → ∀ b o, A = some ⟨b, o, none⟩ → ¬ S b) : RdL enc w1 A l := by
  refine ⟨h.1, fun h0 => ?_⟩
  obtain ⟨b, o, hA, hr⟩ := h.2 h0
  exact ⟨b, o, hA, fun j v hj => hk.cell (hr j v hj) (hS h0 b o hA)⟩
/-- One string more behind a row of one's own; where the row lies then. -/
theorem app_str' {ty : TypeId} (W : World) (B : Nat) (A : Option Addr) (c : Nat) (acc : List ByteArray) (s : ByteArray) (h : W.ownsRow B 9 1 (.slice A acc.length c) acc.length (acc.flatMap Sp.strC)) (hl : acc.length ≤ 1000000) (hB : B ≤ W.heap.size) :
    ∃ A' c' w5, (Builtin.append_ #[42, 42] ty #[.slice A acc.length c, .slice (some ⟨W.heap.size, 0, none⟩) 1 1]).run Tryz.prog (W.alloc (.cells #[.string s] 9)) = .ok (.slice A' (acc ++ [s]).length c') w5 ∧ w5.ownsRow B 9 1 (.slice A' (acc ++ [s]).length c') (acc ++ [s]).length ((acc ++ [s]).flatMap Sp.strC) ∧ Keeps (fun i => (Value.slice A acc.length c).ownBlock = some i) W w5 ∧ (∀ k, (Value.slice A' (acc ++ [s]).length c').ownBlock = some k → (Value.slice A acc.length c).ownBlock = some k ∨ W.heap.size ≤ k) := by
  obtain ⟨i0, hi, hz0, hzi1, hzi2⟩ := info_parts infoStr
  obtain ⟨v', w5, r1, r2, r3, _, r5⟩ := run_append_own_at (P := Tryz.prog) (W.alloc (.cells #[.string s] 9)) B 42 ty 9 i0 _ 1 16 Tryz.underlying42 hi hz0 hzi1 hzi2 rfl (by decide) _ acc.length (acc.flatMap Sp.strC) (h.alloc _) ⟨W.heap.size, 0, none⟩ 1 1 [.string s] rfl (cell_one_new W (.string s) 9) (by intro u hu; simp at hu; subst hu; rfl) (by unfold maxLen; omega) (by omega) (by simp; omega)
  obtain ⟨A', c', rfl⟩ := own_sl r2
  have hlen : acc.length + 1 = (acc ++ [s]).length := by simp
  have hfl : acc.flatMap Sp.strC ++ [.string s] = (acc ++ [s]).flatMap Sp.strC := by rw [List.flatMap_append, List.flatMap_cons, List.flatMap_nil, List.append_nil]; rfl
  rw [hlen] at r1 r2 r5
  rw [hfl] at r2
  refine ⟨A', c', w5, r1, r2, ((Keeps.refl _ W).alloc _).trans (Keeps.of_grown r3 (fun k hk => .inl hk)), fun k hk => ?_⟩
  rcases r5 with q | q
  · exact .inl (q ▸ hk)
  · rw [q] at hk
    right
    have : (W.alloc (.cells #[.string s] 9)).heap.size = k := Option.some.inj hk
    simp at this
    omega
theorem infoS : (Tryz.prog.info? 9).map (fun i => (i.zero, i.size, i.bytes)) = some (some (.string ⟨#[]⟩), 1, 16) := by kernel_rfl

set_option maxHeartbeats 8000000 in
set_option maxRecDepth 100000 in
theorem lay_any (w : World) (B tb mb : Nat) (A : Option Addr) (c : Nat) (L : List Sp.ClP) (m : Sp.ClP) (h : HMk w B tb mb A c L) (hf : Sp.findP L m.1.name = none) (hL : L.length ≤ 10000) (hB : B ≤ w.heap.size)
    (h1 : RdL Sp.strC w m.2.1 m.1.ifaces) (h2 : m.1.name.size ≤ 1099511627776 ∧ m.1.super.size ≤ 1099511627776 ∧ ∀ i ∈ m.1.ifaces, i.size ≤ 1099511627776) (h3 : In64 m.1.at_) (h4 : m.1.ifaces.length ≤ 16) (h5 : 0 < m.1.ifaces.length → ∀ b o, m.2.1 = some ⟨b, o, none⟩ → OutT A L.length c tb mb b) :
    Calls Tryz.prog 47 #[.pointer (some ⟨tb, 0, none⟩), Sp.clV m] w fun e w' => ∃ A' c', e = .returned (.tuple #[]) ∧ HMk w' B tb mb A' c' (L ++ [m]) ∧ Below B w w' ∧ ∀ k, k < w.heap.size → OutT A L.length c tb mb k → w'.heap[k]? = w.heap[k]? ∧ OutT A' (L ++ [m]).length c' tb mb k := by
  obtain ⟨⟨nm, su, ifs, b1, b2, b3, at_⟩, mA, mc⟩ := m
  simp only at hf h1 h2 h3 h4 h5
  unfold Sp.clV
  simp only
  have hput := Lib.hid (Sp.fH_put L (⟨⟨nm, su, ifs, b1, b2, b3, at_⟩, mA, mc⟩ : Sp.ClP) hf)
  unfold Sp.clV at hput
  simp only at hput
  have hK := Lib.hid (blk_new w (.cells #[.string nm, .string su, .slice mA ifs.length mc, .bool b1, .bool b2, .bool b3, .int .i64 at_] 44))
  have hT := Lib.hid (blk_old (o := .cells #[.string nm, .string su, .slice mA ifs.length mc, .bool b1, .bool b2, .bool b3, .int .i64 at_] 44) h.box)
  have hO := Lib.hid (h.names.alloc (.cells #[.string nm, .string su, .slice mA ifs.length mc, .bool b1, .bool b2, .bool b3, .int .i64 at_] 44))
  have hM := Lib.hid (mapV_alloc h.mp (.cells #[.string nm, .string su, .slice mA ifs.length mc, .bool b1, .bool b2, .bool b3, .int .i64 at_] 44))
  have hb := Lib.hid ((Below.refl w.heap.size w).alloc (Nat.le_refl _) (.cells #[.string nm, .string su, .slice mA ifs.length mc, .bool b1, .bool b2, .bool b3, .int .i64 at_] 44))
  have hz : (w.alloc (.cells #[.string nm, .string su, .slice mA ifs.length mc, .bool b1, .bool b2, .bool b3, .int .i64 at_] 44)).heap.size = w.heap.size + 1 := by simp
  have hlt := blk_lt h.box
  have hc0 := Lib.hid h.cls
  have hsp := Lib.hid h.sep
  have h5 := Lib.hid h5
  have h1 := Lib.hid h1
  have htb := h.tbB
  have hmb := h.mbB
  have hml := mapV_lt h.mp
  have hon := Lib.hid (fun k hk => own_lt h.names k hk)
  have hob := Lib.hid (fun k hk => own_base h.names k hk)
  have hneT := Lib.hid (box_ne_map h.box h.mp)
  have hneR := Lib.hid (row_ne_map h.names h.mp)
  have hneB : Hid (∀ k, (Value.slice A L.length c).ownBlock = some k → k ≠ tb) := Lib.hid (fun k hk q => by
    rcases h.names.2 with ⟨h0, _⟩ | ⟨g, cp, cr, hv, _, hh, _⟩
    · rw [h0] at hk; simp [Value.ownBlock] at hk
    · rw [hv] at hk
      have : g = k := by simpa [Value.ownBlock] using hk
      rw [this, q, h.box] at hh
      injection hh with hh
      injection hh with _ ht
      exact absurd ht (by decide))
  clear h
  go_enter Tryz.func47, Tryz.ntmps47
  go_upto_region 1 with fail
  generalize w.alloc (.cells #[.string nm, .string su, .slice mA ifs.length mc, .bool b1, .bool b2, .bool b3, .int .i64 at_] 44) = W at *
  have hmL : (L.map (·.1.name)).length = L.length := by simp
  obtain ⟨A2, c2, w2, hra, hO2, hK2, hW2⟩ := app_str' (ty := 42) W.drew B A c (L.map (·.1.name)) nm (by rw [hmL]; exact hO.out) (by rw [hmL]; omega) (by show B ≤ W.heap.size; omega)
  have hl2 : (L.map (·.1.name) ++ [nm]).length = L.length + 1 := by simp
  rw [hmL] at hra hK2 hW2
  rw [hl2] at hra hO2 hW2
  have hW2 := Lib.hid hW2
  have hra2 : (Builtin.append_ #[42, 42] 42 #[.slice A L.length c, .slice (some ⟨W.heap.size, 0, none⟩) 1 1]).run Tryz.prog ((W.alloc (.cells #[.string nm] 9)).drew) = .ok (.slice A2 (L.length + 1) c2) w2 := hra
  have hKr := Lib.hid hK2
  have hT2 := Lib.hid (hK2.obj (show W.drew.heap[tb]? = _ from hT.out) (fun q => hneB.out tb q rfl))
  have hC2 := Lib.hid (hK2.obj (show W.drew.heap[w.heap.size]? = _ from hK.out) (fun q => by have := hon.out _ q; omega))
  have hM2 := Lib.hid (hK2.mapV (mapV_drew hM.out) (fun q => hneR.out q))
  have hO2 := Lib.hid hO2
  have hz2 : W.heap.size ≤ w2.heap.size := hK2.size
  have hB2 := Lib.hid (((Keeps.of_below (S := fun i => B ≤ i) hb.out).drew).trans (hK2.mono (fun i q => hob.out i q)))
  have hzl : w.heap.size < W.heap.size := by omega
  have hz' := Lib.hid hz
  clear hra hK2 hO hM hz
  obtain ⟨t0, f0⟩ := blk_cell hT.out 0 (.slice A L.length c) rfl
  obtain ⟨n0, g0⟩ := blk_cell hK.out 0 (.string nm) rfl
  obtain ⟨t2, f2⟩ := blk_cell hT2.out 0 (.slice A L.length c) rfl
  have hlk := blk_lt hK.out
  have hlt2 := blk_lt hT2.out
  have hlt1 := blk_lt hT.out
  go_region_law (refine step_app _ rfl _ _ _ _ rfl (.slice A L.length c) (.slice (some ⟨W.heap.size, 0, none⟩) 1 1) rfl rfl (.slice A2 (L.length + 1) c2) w2 hra2 ?_)
  all_goals
    have hT3 := Lib.hid (show (w2.setCell ⟨tb, 0, none⟩ (.slice A2 (L.length + 1) c2)).heap[tb]? = some (.cells #[.slice A2 (L.length + 1) c2, .map (some mb)] 83 (0, 0)) from blk_set (i := 0) hT2.out (.slice A2 (L.length + 1) c2))
    have hC3 := Lib.hid (blk_other hC2.out ⟨tb, 0, none⟩ (.slice A2 (L.length + 1) c2) (by show w.heap.size ≠ tb; omega))
    have hM3 := Lib.hid (mapV_set (a := ⟨tb, 0, none⟩) hM2.out (fun q => hneT.out q.symm) (.slice A2 (L.length + 1) c2))
    have hK3 := Lib.hid ((Keeps.refl (fun i => i = tb) w2).setCell (a := ⟨tb, 0, none⟩) (.inl rfl) (.slice A2 (L.length + 1) c2))
    clear t0 f0 n0 g0 t2 f2 hlk hlt1 hra2
    go_upto_region 2 with fail
    generalize w2.setCell ⟨tb, 0, none⟩ (.slice A2 (L.length + 1) c2) = w3 at *
    obtain ⟨w4, hmu, hM4, hg4⟩ := mapV_update (t := 81) (mapV_drew hM3.out) lawS Tryz.underlying81 (by unfold maxLen; omega) (keyS nm (by unfold maxLen; omega)) hput.out.1 hput.out.2
    obtain ⟨t1, f1⟩ := blk_cell hT3.out 1 (.map (some mb)) rfl
    obtain ⟨n0, n1, n2, n3, n4, n5, n6⟩ := cells7 hC3.out
    have hlt3 := blk_lt hT3.out
    have hlk3 := blk_lt hC3.out
    have hM4 := Lib.hid hM4
    have hg4 := Lib.hid hg4
    have hT4 := Lib.hid (hg4.out.block tb (show tb < w3.drew.heap.size from blk_lt hT3.out) (fun q => hneT.out (Option.some.inj q)) |>.trans (show w3.drew.heap[tb]? = _ from hT3.out))
    have hK4 := Lib.hid (((Keeps.of_below (S := fun i => i = tb ∨ i = mb ∨ (Value.slice A L.length c).ownBlock = some i) hb.out).drew.trans (hKr.out.mono (fun i q => .inr (.inr q)))).trans ((hK3.out.mono (fun i q => .inl q)).drew.trans (Keeps.of_grown hg4.out (fun i q => .inl (.inr (.inl (Option.some.inj q).symm))))))
    have hO4 := Lib.hid ((Keeps.of_grown hg4.out (S := fun i => i = mb) (fun i q => .inl (Option.some.inj q).symm)).row ((hK3.out.row hO2.out (fun k hk q => by
      rcases hW2.out k hk with r | r
      · exact hneB.out k r q
      · have : tb < W.heap.size := by omega
        have : W.heap.size ≤ k := r
        omega)).drew) (fun k hk q => by
      rcases hW2.out k hk with r | r
      · exact hneR.out (q ▸ r)
      · have h1 : W.heap.size ≤ k := r
        omega))
    have hBf := Lib.hid ((hB2.out.trans ((hK3.out.mono (S' := fun i => B ≤ i) (fun i q => by omega)).drew.trans (Keeps.of_grown hg4.out (S := fun i => B ≤ i) (fun i q => .inl (by have := Option.some.inj q; omega))))).below hB (fun i q => q))
    go_region
    all_goals
      clear t1 f1 n0 n1 n2 n3 n4 n5 n6 hlt3 hlk3
      go_end0
      refine ⟨A2, c2, rfl, ⟨by rw [hT4.out]; simp, ?_, ?_, ?_, htb, hmb, ?_⟩, hBf.out, fun k hk ho => ⟨hK4.out.block k hk (fun r => by
        rcases r with r | r | r
        · exact ho.1 r
        · exact ho.2.1 r
        · exact ho.2.2 r), ho.1, ho.2.1, fun q => by
        rcases hW2.out k (by simpa [Value.ownBlock] using q) with r | r
        · exact ho.2.2 r
        · have h1 : W.heap.size ≤ k := r
          omega⟩⟩
      · have := hO4.out
        rw [List.map_append, List.length_append]
        exact this
      · rw [List.length_append]
        exact hM4.out
      · have hs : ∀ i, (i = tb ∨ i = mb ∨ (Value.slice A L.length c).ownBlock = some i) → True := fun _ _ => trivial
        refine ⟨fun m hm => ?_, fun m hm => ?_, fun m hm => ?_, fun m hm => ?_⟩
        · rcases List.mem_append.1 hm with q | q
          · refine rdL_keeps0 (hc0.out.ifs m q) hK4.out (fun h0 b o hA r => ?_)
            obtain ⟨s1, s2, s3⟩ := hsp.out m q h0 b o hA
            rcases r with r | r | r
            · exact s1 r
            · exact s2 r
            · exact s3 r
          · have hm' := List.mem_singleton.1 q
            subst hm'
            refine rdL_keeps0 h1.out hK4.out (fun h0 b o hA r => ?_)
            obtain ⟨s1, s2, s3⟩ := h5.out h0 b o hA
            rcases r with r | r | r
            · exact s1 r
            · exact s2 r
            · exact s3 r
        · rcases List.mem_append.1 hm with q | q
          · exact hc0.out.size m q
          · have hm' := List.mem_singleton.1 q
            subst hm'
            exact h2
        · rcases List.mem_append.1 hm with q | q
          · exact hc0.out.at_ m q
          · have hm' := List.mem_singleton.1 q
            subst hm'
            exact h3
        · rcases List.mem_append.1 hm with q | q
          · exact hc0.out.few m q
          · have hm' := List.mem_singleton.1 q
            subst hm'
            exact h4
      · intro m hm h0 b o hA
        have key : OutT A L.length c tb mb b ∧ b < w.heap.size := by
          rcases List.mem_append.1 hm with q | q
          · refine ⟨hsp.out m q h0 b o hA, ?_⟩
            obtain ⟨b', o', hA', hr⟩ := (hc0.out.ifs m q).2 h0
            rw [hA] at hA'
            injection hA' with hA'
            injection hA' with hA' _
            subst hA'
            have hne : 0 < (m.1.ifaces.flatMap Sp.strC).length := by rw [flat_length Sp.strC 1 Sp.strC_len]; omega
            exact World.block_lt_of_cell? w _ (hr 0 _ (List.getElem?_eq_getElem hne))
          · have hm' := List.mem_singleton.1 q
            subst hm'
            refine ⟨h5.out h0 b o hA, ?_⟩
            obtain ⟨b', o', hA', hr⟩ := h1.out.2 h0
            simp only at hA
            rw [hA] at hA'
            injection hA' with hA'
            injection hA' with hA' _
            subst hA'
            have hne : 0 < (ifs.flatMap Sp.strC).length := by rw [flat_length Sp.strC 1 Sp.strC_len]; simp only at h0; omega
            exact World.block_lt_of_cell? w _ (hr 0 _ (List.getElem?_eq_getElem hne))
        refine ⟨key.1.1, key.1.2.1, fun q => ?_⟩
        rcases hW2.out b (by simpa [Value.ownBlock] using q) with r | r
        · exact key.1.2.2 r
        · have h1 : W.heap.size ≤ b := r
          have := key.2
          omega
end Go.Proofs.YtfjplmbknegidaaGreatDoor
end
section
/-
  Walks of chapter 3's ClassName and the reference's. (Printed by gen_cls.py.)
-/
set_option linter.unusedVariables false
set_option linter.unusedSimpArgs false
namespace Go.Proofs.YtfjplmbknegidaaGreatDoor
open Go.RowKit Go.Lib


set_option maxHeartbeats 8000000 in
set_option maxRecDepth 100000 in
theorem className_any (q : Sp.At) (F : FlP) (i : Int) (w : World) (hr : RdF w q F) (hi : -9223372036854775808 ≤ i ∧ i ≤ 9223372036854775807) (ha : ∀ c ∈ F.pool, In64 c.a) :
    Calls Tryz.prog 65 #[.agg (flC q F), .int .i64 i] w fun e w' => e = .returned (.tuple #[.string (Sp.classNameS F.pool i).1, .bool (Sp.classNameS F.pool i).2]) ∧ Below w.heap.size w w' := by
  obtain ⟨pool, fl, th, su, ifs, flds, mths⟩ := F
  obtain ⟨qA, qc, qI, qd, qX, qe, qY, qg⟩ := q
  simp only [] at ha ⊢
  have hl := hr.pool.1
  have HP := Lib.hid hr.pool.2
  simp only [] at hl HP
  have HE := Lib.hid (show Sp.classNameS pool i = _ by rw [Sp.classNameS])
  have HT := Lib.hid (show Sp.taggedS pool i 4 = _ by rw [Sp.taggedS])
  have k1 := Lib.hid (fun W hr => tagged_any ⟨qA, qc, qI, qd, qX, qe, qY, qg⟩ ⟨pool, fl, th, su, ifs, flds, mths⟩ i 4 W hr hi)
  have hr0 := Lib.hid hr
  clear hr
  simp only [] at k1
  generalize Sp.classNameS pool i = R at HE ⊢
  generalize Sp.taggedS pool i 4 = T at HT k1
  have hK := Lib.hid (blk_new w (.cells (flC ⟨qA, qc, qI, qd, qX, qe, qY, qg⟩ ⟨pool, fl, th, su, ifs, flds, mths⟩) 63))
  have hB := (Below.refl w.heap.size w).alloc (Nat.le_refl _) (.cells (flC ⟨qA, qc, qI, qd, qX, qe, qY, qg⟩ ⟨pool, fl, th, su, ifs, flds, mths⟩) 63)
  unfold flC at k1
  have hfl : flC ⟨qA, qc, qI, qd, qX, qe, qY, qg⟩ ⟨pool, fl, th, su, ifs, flds, mths⟩ = #[.slice qA pool.length qc, .int .i64 fl, .int .i64 th, .int .i64 su, .slice qI ifs.length qd, .slice qX flds.length qe, .slice qY mths.length qg] := rfl
  rw [hfl] at hB ⊢
  clear hfl
  simp only [] at k1
  go_enter Tryz.func65, Tryz.ntmps65
  go_wp2_with fail
  refine (k1.out _ (rdF_below hr0.out hB)).mono ?_
  rintro e w1 ⟨rfl, hb1⟩
  have K1 := Lib.hid (blk_below hK.out hb1)
  have B1 := below_then hB (by simp) hb1
  have S1 := B1.size
  clear hK hb1 k1 hB
  have hfail : T = false → R = (⟨#[]⟩, false) := by
    intro hT
    rw [HE.out]
    have := HT.out
    rw [hT] at this
    cases hg : Sp.get pool i with
    | none => rfl
    | some x =>
      rw [hg] at this
      simp only at this ⊢
      rw [if_neg]
      intro q
      rw [decide_eq_true q] at this
      cases this
  cases T with
  | false =>
    have hR := hfail rfl
    subst hR
    clear HE HT hfail
    go_wp2
    go_ret2
    exact ⟨rfl, B1⟩
  | true =>
    clear hfail
    rcases Sp.get_cases pool i with ⟨h1, h2⟩ | ⟨h1, h2, h3⟩ | ⟨k, hk, rfl, h3⟩
    · have := HT.out; rw [h2] at this; cases this
    · have := HT.out; rw [h3] at this; cases this
    · have ht : pool[k].tag = 4 := by have := HT.out; rw [h3] at this; simpa using this.symm
      have hR : R = Sp.cnameS pool pool[k].a := by rw [HE.out, h3]; simp only; rw [if_pos ht]
      obtain ⟨b, o, rfl, hrg⟩ := HP.out (by omega)
      obtain ⟨d0, d1, d2, d3, d4, d5⟩ := cn_cells hrg hk
      have e3 := cell_below B1 d3
      have he := World.block_lt_of_cell? _ _ e3
      have h5 : (k : Int) < (pool.length : Int) := by omega
      have h50 : (0 : Int) ≤ (k : Int) := by omega
      have h6 : (k : Int) + 1 - 1 = (k : Int) := by omega
      have hin := ha _ (List.getElem_mem hk)
      clear HE HT h3 hrg d0 d1 d2 d3 d4 d5 ht ha
      generalize pool[k].a = y at *
      have k2 := Lib.hid (fun W hr => cname_any ⟨some ⟨b, o, none⟩, qc, qI, qd, qX, qe, qY, qg⟩ ⟨pool, fl, th, su, ifs, flds, mths⟩ y W hr hin)
      simp only [] at k2
      generalize Sp.cnameS pool y = N at *
      obtain ⟨n1, n2⟩ := N
      subst hR
      obtain ⟨c0, c1, c2, c3, c4, c5, c6⟩ := flC_box K1.out
      have hlk := blk_lt K1.out
      have r1 := Lib.hid (rdF_below hr0.out B1)
      have r2 := Lib.hid (rdF_below hr0.out B1.drew)
      unfold flC at k2
      simp only [] at k2
      have hw1 : IntKind.i64.wrap ((k : Int) + 1 - 1) = (k : Int) := by rw [h6]; exact IntWalk.i64_in _ (by omega)
      have hw2 : IntKind.i64.wrap (k : Int) = (k : Int) := IntWalk.i64_in _ (by omega)
      have hw3 : ((k : Int)).toNat = k := by omega
      go_wp2_with fail
      go_region_with (go_at_call 83; refine (k2.out _ (by first | exact r1.out | exact r2.out)).mono ?_; rintro e w2 ⟨rfl, hb2⟩)
      all_goals
        go_wp2
        go_ret2
        exact ⟨rfl, by first | exact below_then B1 S1 hb2 | exact below_then B1.drew S1 hb2⟩


set_option maxHeartbeats 8000000 in
set_option maxRecDepth 100000 in
theorem refClassName_any (q : Sp.At) (F : FlP) (i : Int) (w : World) (hr : RdF w q F) (hi : -9223372036854775808 ≤ i ∧ i ≤ 9223372036854775807) (ha : ∀ c ∈ F.pool, In64 c.a) :
    Calls Tryz.prog 54 #[.agg (flC q F), .int .i64 i] w fun e w' => e = .returned (.tuple #[.string (Sp.classNameS F.pool i).1, .bool (Sp.classNameS F.pool i).2]) ∧ Below w.heap.size w w' := by
  obtain ⟨pool, fl, th, su, ifs, flds, mths⟩ := F
  obtain ⟨qA, qc, qI, qd, qX, qe, qY, qg⟩ := q
  simp only [] at ha ⊢
  have hl := hr.pool.1
  have HP := Lib.hid hr.pool.2
  simp only [] at hl HP
  have HE := Lib.hid (show Sp.classNameS pool i = _ by rw [Sp.classNameS])
  have HT := Lib.hid (show Sp.taggedS pool i 4 = _ by rw [Sp.taggedS])
  have k1 := Lib.hid (fun W hr => refTagged_any ⟨qA, qc, qI, qd, qX, qe, qY, qg⟩ ⟨pool, fl, th, su, ifs, flds, mths⟩ i 4 W hr hi)
  have hr0 := Lib.hid hr
  clear hr
  simp only [] at k1
  generalize Sp.classNameS pool i = R at HE ⊢
  generalize Sp.taggedS pool i 4 = T at HT k1
  have hK := Lib.hid (blk_new w (.cells (flC ⟨qA, qc, qI, qd, qX, qe, qY, qg⟩ ⟨pool, fl, th, su, ifs, flds, mths⟩) 63))
  have hB := (Below.refl w.heap.size w).alloc (Nat.le_refl _) (.cells (flC ⟨qA, qc, qI, qd, qX, qe, qY, qg⟩ ⟨pool, fl, th, su, ifs, flds, mths⟩) 63)
  unfold flC at k1
  have hfl : flC ⟨qA, qc, qI, qd, qX, qe, qY, qg⟩ ⟨pool, fl, th, su, ifs, flds, mths⟩ = #[.slice qA pool.length qc, .int .i64 fl, .int .i64 th, .int .i64 su, .slice qI ifs.length qd, .slice qX flds.length qe, .slice qY mths.length qg] := rfl
  rw [hfl] at hB ⊢
  clear hfl
  simp only [] at k1
  go_enter Tryz.func54, Tryz.ntmps54
  go_wp2_with fail
  refine (k1.out _ (rdF_below hr0.out hB)).mono ?_
  rintro e w1 ⟨rfl, hb1⟩
  have K1 := Lib.hid (blk_below hK.out hb1)
  have B1 := below_then hB (by simp) hb1
  have S1 := B1.size
  clear hK hb1 k1 hB
  have hfail : T = false → R = (⟨#[]⟩, false) := by
    intro hT
    rw [HE.out]
    have := HT.out
    rw [hT] at this
    cases hg : Sp.get pool i with
    | none => rfl
    | some x =>
      rw [hg] at this
      simp only at this ⊢
      rw [if_neg]
      intro q
      rw [decide_eq_true q] at this
      cases this
  cases T with
  | false =>
    have hR := hfail rfl
    subst hR
    clear HE HT hfail
    go_wp2
    go_ret2
    exact ⟨rfl, B1⟩
  | true =>
    clear hfail
    rcases Sp.get_cases pool i with ⟨h1, h2⟩ | ⟨h1, h2, h3⟩ | ⟨k, hk, rfl, h3⟩
    · have := HT.out; rw [h2] at this; cases this
    · have := HT.out; rw [h3] at this; cases this
    · have ht : pool[k].tag = 4 := by have := HT.out; rw [h3] at this; simpa using this.symm
      have hR : R = Sp.cnameS pool pool[k].a := by rw [HE.out, h3]; simp only; rw [if_pos ht]
      obtain ⟨b, o, rfl, hrg⟩ := HP.out (by omega)
      obtain ⟨d0, d1, d2, d3, d4, d5⟩ := cn_cells hrg hk
      have e3 := cell_below B1 d3
      have he := World.block_lt_of_cell? _ _ e3
      have h5 : (k : Int) < (pool.length : Int) := by omega
      have h50 : (0 : Int) ≤ (k : Int) := by omega
      have h6 : (k : Int) + 1 - 1 = (k : Int) := by omega
      have hin := ha _ (List.getElem_mem hk)
      clear HE HT h3 hrg d0 d1 d2 d3 d4 d5 ht ha
      generalize pool[k].a = y at *
      have k2 := Lib.hid (fun W hr => refCname_any ⟨some ⟨b, o, none⟩, qc, qI, qd, qX, qe, qY, qg⟩ ⟨pool, fl, th, su, ifs, flds, mths⟩ y W hr hin)
      simp only [] at k2
      generalize Sp.cnameS pool y = N at *
      obtain ⟨n1, n2⟩ := N
      subst hR
      obtain ⟨c0, c1, c2, c3, c4, c5, c6⟩ := flC_box K1.out
      have hlk := blk_lt K1.out
      have r1 := Lib.hid (rdF_below hr0.out B1)
      have r2 := Lib.hid (rdF_below hr0.out B1.drew)
      unfold flC at k2
      simp only [] at k2
      have hw1 : IntKind.i64.wrap ((k : Int) + 1 - 1) = (k : Int) := by rw [h6]; exact IntWalk.i64_in _ (by omega)
      have hw2 : IntKind.i64.wrap (k : Int) = (k : Int) := IntWalk.i64_in _ (by omega)
      have hw3 : ((k : Int)).toNat = k := by omega
      go_wp2_with fail
      go_region_with (go_at_call 73; refine (k2.out _ (by first | exact r1.out | exact r2.out)).mono ?_; rintro e w2 ⟨rfl, hb2⟩)
      all_goals
        go_wp2
        go_ret2
        exact ⟨rfl, by first | exact below_then B1 S1 hb2 | exact below_then B1.drew S1 hb2⟩

end Go.Proofs.YtfjplmbknegidaaGreatDoor
end
