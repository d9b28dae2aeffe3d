/-
  Texts of the proof, joined: each says at its head what it proves.
-/
import Derived.Test.YtfjplmbknegidaaGreatDoorJk20
import Derived.Test.YtfjplmbknegidaaGreatDoorJk21
import Derived.Test.YtfjplmbknegidaaGreatDoorJk22
import Derived.Test.YtfjplmbknegidaaGreatDoorJk24
section
/-
  Walk of chapter 6's Open.
-/
set_option linter.unusedVariables false
set_option linter.unusedSimpArgs false
namespace Go.Proofs.YtfjplmbknegidaaGreatDoor
open Go.RowKit Go.Lib Go.Maps

namespace Sp
def unP (m : ClP) : ClP := (unown m.1, m.2)
theorem findP_nodup {L : List ClP} (h : (L.map (·.1.name)).Nodup) {m : ClP} (hm : m ∈ L) : findP L m.1.name = some m := by
  induction L with
  | nil => cases hm
  | cons d L ih =>
    rw [List.map_cons, List.nodup_cons] at h
    unfold findP
    rcases List.mem_cons.1 hm with rfl | q
    · rw [if_pos rfl]
    · rw [if_neg (fun e : d.1.name = m.1.name => h.1 (by rw [e]; exact List.mem_map.2 ⟨m, q, rfl⟩))]
      exact ih h.2 q
theorem unP_names (L : List ClP) : (L.map unP).map (·.1.name) = L.map (·.1.name) := by
  rw [List.map_map]; rfl
def flE (x : At × FlP) : List Value := (flC x.1 x.2).toList
theorem flE_len (x : At × FlP) : (flE x).length = 7 := rfl
/-- Files, each with its error and its class; the first has the place i. -/
def rcS : List (At × FlP) → Nat → List RC
  | [], _ => []
  | x :: l, i => ((encodeF x.2.fl).2, clOf x.2 i) :: rcS l (i + 1)
theorem rcS_len : ∀ (l : List (At × FlP)) (i : Nat), (rcS l i).length = l.length
  | [], _ => rfl
  | _ :: l, i => by simp [rcS, rcS_len l (i + 1)]
theorem rc_names : ∀ {l : List (At × FlP)} {i : Nat}, ∀ f ∈ rcS l i, f.1 = 0 → nameS f.2.name = true
  | [], _, f, hf => by cases hf
  | x :: l, i, f, hf => by
    intro h0
    rw [rcS] at hf
    rcases List.mem_cons.1 hf with rfl | hf
    · exact enc_name h0
    · exact rc_names f hf h0
end Sp
theorem infoCl : (Tryz.prog.info? 44).map (fun i => (i.zero, i.size, i.bytes)) = some (some (Sp.clV Sp.zP), 7, 72) := by kernel_rfl
/-- A file that is handed in. -/
structure FileIn (w : World) (x : Sp.At × FlP) : Prop where
  rd : RdF w x.1 x.2
  ok : FlOk x.2
  len : (Sp.bytesS x.2.fl).length ≤ 900000000
theorem FileIn.below {w w' : World} {x : Sp.At × FlP} (h : FileIn w x) (hb : Below w.heap.size w w') : FileIn w' x := ⟨rdF_below h.rd hb, h.ok, h.len⟩
/-- The block of a row of classes is none of a table's under way. -/
theorem HMk.out {w : World} {B tb mb : Nat} {A : Option Addr} {c : Nat} {L : List Sp.ClP} (h : HMk w B tb mb A c L) {k : Nat} {C : Array Value} {T : TypeId} (hk : w.heap[k]? = some (.cells C T (0, 0))) (h1 : T ≠ 83) (h2 : T ≠ 9) : OutT A L.length c tb mb k := by
  refine ⟨fun q => ?_, fun q => ?_, fun q => ?_⟩
  · rw [q, h.box] at hk
    injection hk with hk
    injection hk with _ ht
    exact h1 ht.symm
  · exact box_ne_map hk h.mp q
  · rcases h.names.2 with ⟨h0, _⟩ | ⟨g, cp, cr, hv, _, hh, _⟩
    · rw [h0] at q; simp [Value.ownBlock] at q
    · rw [hv] at q
      have hg : g = k := by simpa [Value.ownBlock] using q
      rw [hg, hk] at hh
      injection hh with hh
      injection hh with _ ht
      exact h2 ht
theorem rdL_lt {w : World} {A : Option Addr} {l : List ByteArray} (h : RdL Sp.strC w A l) (h0 : 0 < l.length) (b o : Nat) (hA : A = some ⟨b, o, none⟩) : b < w.heap.size := by
  obtain ⟨b', o', hA', hr⟩ := h.2 h0
  rw [hA] at hA'
  injection hA' with hA'
  injection hA' with hA' _
  subst hA'
  have hne : 0 < (l.flatMap Sp.strC).length := by rw [flat_length Sp.strC 1 Sp.strC_len]; omega
  exact World.block_lt_of_cell? w _ (hr 0 _ (List.getElem?_eq_getElem hne))

theorem own_blkC {w : World} {base : Nat} {e : TypeId} {size n : Nat} {v : Value} {xs : List Value} (h : w.ownsRow base e size v n xs) {k : Nat} (hk : v.ownBlock = some k) : ∃ C, w.heap[k]? = some (.cells C e (0, 0)) := by
  rcases h.2 with ⟨h0, _⟩ | ⟨g, cp, cr, hv, _, hh, _⟩
  · rw [h0] at hk; simp [Value.ownBlock] at hk
  · rw [hv] at hk
    have hg : g = k := by simpa [Value.ownBlock] using hk
    exact ⟨cr, hg ▸ hh⟩
/-- A table under way stays where only rows of another type are written. -/
theorem HMk.apart {w w' : World} {B tb mb : Nat} {A : Option Addr} {c : Nat} {L : List Sp.ClP} {S : Nat → Prop} (h : HMk w B tb mb A c L) (hk : Keeps S w w') (hS : ∀ k, S k → OutT A L.length c tb mb k) (hT : ∀ m ∈ L, 0 < m.1.ifaces.length → ∀ b o, m.2.1 = some ⟨b, o, none⟩ → ¬ S b) : HMk w' B tb mb A c L :=
  ⟨hk.obj h.box (fun q => (hS _ q).1 rfl), hk.row h.names (fun k hk' q => (hS _ q).2.2 hk'), hk.mapV h.mp (fun q => (hS _ q).2.1 rfl), ⟨fun m hm => rdL_keeps0 (h.cls.ifs m hm) hk (fun h0 b o hA => hT m hm h0 b o hA), h.cls.size, h.cls.at_, h.cls.few⟩, h.tbB, h.mbB, h.sep⟩
/-- The rows of some classes are rows of texts. -/
def RowsT (w : World) (cls : List Sp.ClP) : Prop := ∀ m ∈ cls, 0 < m.1.ifaces.length → ∀ b o, m.2.1 = some ⟨b, o, none⟩ → ∃ C, w.heap[b]? = some (.cells C 9 (0, 0))
theorem RowsT.below {w w' : World} {cls : List Sp.ClP} (h : RowsT w cls) (hb : Below w.heap.size w w') : RowsT w' cls := fun m hm h0 b o hA => by
  obtain ⟨C, hC⟩ := h m hm h0 b o hA
  exact ⟨C, blk_below hC hb⟩
theorem RowsT.keeps {S : Nat → Prop} {w w' : World} {cls : List Sp.ClP} (h : RowsT w cls) (hk : Keeps S w w') (hS : ∀ m ∈ cls, 0 < m.1.ifaces.length → ∀ b o, m.2.1 = some ⟨b, o, none⟩ → ¬ S b) : RowsT w' cls := fun m hm h0 b o hA => by
  obtain ⟨C, hC⟩ := h m hm h0 b o hA
  exact ⟨C, hk.obj hC (hS m hm h0 b o hA)⟩
/-- A file that is right says flags that are known and few interfaces. -/
theorem Sp.enc_ok {F : Sp.Fl} (h : (Sp.encodeF F).2 = 0) : FlagsOk F.flags ∧ F.ifaces.length ≤ 16 := by
  have hp : Sp.partsS F = 0 := by
    unfold Sp.encodeF at h
    by_cases q : Sp.partsS F = 0
    · exact q
    · rw [if_pos q] at h; exact h
  have hh : Sp.headS F.pool F.flags F.this F.super F.ifaces = 0 := by
    unfold Sp.partsS at hp
    by_cases q : Sp.headS F.pool F.flags F.this F.super F.ifaces = 0
    · exact q
    · by_cases q1 : 2000 < F.pool.length
      · rw [if_pos q1] at hp; cases hp
      · rw [if_neg q1] at hp
        by_cases q2 : Sp.poolF F.pool F.pool ≠ 0
        · rw [if_pos q2] at hp; exact absurd hp q2
        · rw [if_neg q2, if_pos q] at hp; exact hp
  refine ⟨head_flags _ _ _ _ _ hh, ?_⟩
  unfold Sp.headS at hh
  by_cases q : F.ifaces.length ≤ 16
  · exact q
  · exfalso
    have q' : 16 < F.ifaces.length := by omega
    simp only [q', if_true] at hh
    split at hh <;> (try split at hh) <;> (try split at hh) <;> (try split at hh) <;> first | (cases hh; done) | omega
theorem Sp.className_size {p : List Sp.Cn} (hz : ∀ c ∈ p, c.text.size ≤ 1099511627776) (i : Int) : (Sp.classNameS p i).1.size ≤ 1099511627776 := by
  unfold Sp.classNameS
  split
  · split
    · exact Sp.cname_size p hz _
    · exact Nat.zero_le _
  · exact Nat.zero_le _
/-- One class more behind a row of one's own. -/
theorem app_cl {ty : TypeId} (W : World) (B : Nat) (A : Option Addr) (c : Nat) (acc : List Sp.ClP) (m : Sp.ClP) (h : W.ownsRow B 44 7 (.slice A acc.length c) acc.length (acc.flatMap Sp.clC)) (hl : acc.length ≤ 1000000) (hB : B ≤ W.heap.size) :
    ∃ A' c' w5, (Builtin.append_ #[88, 88] ty #[.slice A acc.length c, .slice (some ⟨W.heap.size, 0, none⟩) 1 1]).run Tryz.prog (W.alloc (.cells (Sp.clC m).toArray 44)) = .ok (.slice A' (acc ++ [m]).length c') w5 ∧ w5.ownsRow B 44 7 (.slice A' (acc ++ [m]).length c') (acc ++ [m]).length ((acc ++ [m]).flatMap Sp.clC) ∧ Keeps (fun i => (Value.slice A acc.length c).ownBlock = some i) W w5 := by
  obtain ⟨i0, hi, hz0, hzi1, hzi2⟩ := info_parts infoCl
  have hO := own_lit (l := [m]) Sp.clC_len (C := (Sp.clC m).toArray) (by simp) (blk_new W (.cells (Sp.clC m).toArray 44)) (Nat.le_refl _) (by simp)
  obtain ⟨_, hrd, _⟩ := own_rdL Sp.clC_len (by decide) hO
  obtain ⟨A', c', w5, r1, r2, r3⟩ := app_rdL (ty := ty) Tryz.underlying88 hi hz0 hzi1 hzi2 rfl (by decide) Sp.clC_len Sp.clC_one (by decide) (W.alloc (.cells (Sp.clC m).toArray 44)) B A c acc (some ⟨W.heap.size, 0, none⟩) 1 [m] (h.alloc _) hrd (by simp; omega) (by simp; omega)
  exact ⟨A', c', w5, r1, r2, ((Keeps.refl _ W).alloc _).trans r3⟩
/-- What Open answers. -/
def Sp.OpenP (B : Nat) (R : Option (List Sp.Cl) × Int × Nat) (e : Ending) (w' : World) : Prop :=
  (R.1 = none ∧ e = .returned (.tuple #[.pointer none, .int .i64 R.2.1, .int .i64 R.2.2])) ∨
  ∃ tb mb A c L, R.1 = some (L.map (·.1)) ∧ e = .returned (.tuple #[.pointer (some ⟨tb, 0, none⟩), .int .i64 0, .int .i64 0]) ∧ HMk w' B tb mb A c L

set_option maxHeartbeats 8000000 in
set_option maxRecDepth 100000 in
theorem open_any (w : World) (tb mb : Nat) (A : Option Addr) (c : Nat) (L : List Sp.ClP) (fA : Option Addr) (fc : Nat) (fs : List (Sp.At × FlP)) (hH : HTab w tb mb A c L) (hd : (L.map (·.1.name)).Nodup) (hL : L.length ≤ 1000) (hf : RdL Sp.flE w fA fs) (hF : ∀ x ∈ fs, FileIn w x) (hTb : Tabs w) :
    Calls Tryz.prog 22 #[.pointer (some ⟨tb, 0, none⟩), .slice fA fs.length fc] w fun e w' => Below w.heap.size w w' ∧ Sp.OpenP w.heap.size (Sp.openS (L.map (·.1)) (Sp.rcS fs 0)) e w' := by
  obtain ⟨R, hR⟩ : ∃ R, Sp.openS (L.map (·.1)) (Sp.rcS fs 0) = R := ⟨_, rfl⟩
  rw [hR]
  have hR := Lib.hid (show R = _ by rw [← hR, Sp.openS])
  rw [Sp.rcS_len] at hR
  have hmm := @run_makeMap Tryz.prog
  have hM := Lib.hid (mapV_made w Tryz.prog 9)
  have hT := Lib.hid (blk_new (w.alloc (.map #[] 0)) (.cells #[.slice none 0 0, .map (some w.heap.size)] 83))
  rw [show (w.alloc (.map #[] 0)).heap.size = w.heap.size + 1 by simp] at hT
  have hb2 := Lib.hid (((Below.refl w.heap.size w).alloc (Nat.le_refl _) (.map #[] 0)).alloc (by simp) (.cells #[.slice none 0 0, .map (some w.heap.size)] 83))
  have hM2 := Lib.hid (mapV_alloc hM.out (.cells #[.slice none 0 0, .map (some w.heap.size)] 83))
  have hz2 : w.heap.size + 2 ≤ ((w.alloc (.map #[] 0)).alloc (.cells #[.slice none 0 0, .map (some w.heap.size)] 83)).heap.size := by simp
  by_cases h64 : 64 < fs.length
  · have hz : (64 : Int) < (fs.length : Int) := by omega
    go_enter Tryz.func22, Tryz.ntmps22
    have hR2 : R = (none, 3, 0) := by rw [hR.out, if_pos h64]
    subst hR2
    clear hR
    go_wp2
    first | go_ret3 | go_ret
    exact ⟨Below.refl _ _, .inl ⟨rfl, rfl⟩⟩
  have HR := Lib.hid hR.out
  rw [if_neg h64] at HR
  clear hR
  have hz : ¬ (64 : Int) < (fs.length : Int) := by omega
  have hH2 := hH.below hb2.out
  obtain ⟨p0, q0⟩ := blk_cell hH2.box 0 (.slice A L.length c) rfl
  have l0 := blk_lt hH2.box
  have H0 := Lib.hid hH
  have hD := Lib.hid hd
  have hFs := Lib.hid hf
  have hFi := Lib.hid hF
  have hTt := Lib.hid hTb
  clear hH hd hH2 hf hF hTb
  go_enter Tryz.func22, Tryz.ntmps22
  go_upto_region 5 with fail
  generalize (w.alloc (.map #[] 0)).alloc (.cells #[.slice none 0 0, .map (some w.heap.size)] 83) = W2 at *
  have hK2 : Hid (HMk W2 w.heap.size (w.heap.size + 1) w.heap.size none 0 (([] : List Sp.ClP).map Sp.unP)) := Lib.hid ⟨hT.out, ⟨rfl, .inl ⟨rfl, rfl⟩⟩, mapV_congr hM2.out (fun x => Sp.fH_nil x), ⟨fun m hm => (by cases hm), fun m hm => (by cases hm), fun m hm => (by cases hm), fun m hm => (by cases hm)⟩, Nat.le_succ _, Nat.le_refl _, fun m hm => (by cases hm)⟩
  clear hM hT hM2 hmm p0 q0 l0
  have hK2 : Hid (HMk W2 w.heap.size (w.heap.size + 1) w.heap.size none 0 ((L.take 0).map Sp.unP)) := hK2
  go_loopw [9, 10, 34] (fun _ _ vi wr => ∃ (j : Nat) (A' : Option Addr) (c' : Nat), vi = .int .i64 j ∧ j ≤ L.length ∧ Hid (HMk wr w.heap.size (w.heap.size + 1) w.heap.size A' c' ((L.take j).map Sp.unP)) ∧ Hid (Below w.heap.size w wr)) (fun _ _ vi _ => L.length - (RowKit.intOf vi).toNat)
  case atStart => exact ⟨0, none, 0, by go_num, Nat.zero_le _, hK2, hb2⟩
  case round =>
    clear hK2 hb2 hz2
    obtain ⟨j, A', c', rfl, hj, hK, hb⟩ := hrel
    have hbz := hb.out.size
    by_cases hlt : j < L.length
    · have hzj : (j : Int) < (L.length : Int) := by omega
      have hHr := Lib.hid (H0.out.below hb.out)
      have hNm := hHr.out.names
      obtain ⟨nb, no, rfl, hrg⟩ := hNm.2 (by rw [List.length_map]; omega)
      have ck : wr.cell? ⟨nb, no + j, none⟩ = some (.string L[j].1.name) := by
        have := rdL_get 1 Sp.strC_len hrg (show j < (L.map (·.1.name)).length by rw [List.length_map]; exact hlt) 0 (by decide) (v := .string L[j].1.name) (by simp [Sp.strC])
        simpa using this
      have htk : Hid ((L.take (j + 1)).map Sp.unP = (L.take j).map Sp.unP ++ [Sp.unP L[j]]) := Lib.hid (by rw [List.take_succ_eq_append_getElem hlt, List.map_append]; rfl)
      have hmem := List.getElem_mem hlt
      have hfm := Lib.hid (Sp.findP_nodup hD.out hmem)
      have hfn : Hid (Sp.findP ((L.take j).map Sp.unP) (Sp.unP L[j]).1.name = none) := Lib.hid (by
        rw [Sp.findP_none_iff, Sp.unP_names]
        intro q
        have h1 := hD.out
        have h2 : L = L.take j ++ L[j] :: L.drop (j + 1) := by rw [List.getElem_cons_drop, List.take_append_drop]
        rw [h2, List.map_append, List.map_cons, List.nodup_append] at h1
        exact h1.2.2 _ q _ (List.mem_cons_self ..) rfl)
      have hif := Lib.hid (hHr.out.cls.ifs _ hmem)
      have hsz := Lib.hid (hHr.out.cls.size _ hmem)
      have hat := Lib.hid (hHr.out.cls.at_ _ hmem)
      have hfw := Lib.hid (hHr.out.cls.few _ hmem)
      have hifw := Lib.hid (H0.out.cls.ifs _ hmem)
      clear hNm hrg hmem
      generalize L[j] = m at *
      obtain ⟨⟨nm, su, is, b1, b2, b3, at_⟩, mA, mc⟩ := m
      simp only at ck hfm hif hsz hat hfw hifw
      have hv := Lib.hid (show Sp.clV ((Sp.findP L nm).getD Sp.zP) = .agg #[.string nm, .string su, .slice mA is.length mc, .bool b1, .bool b2, .bool b3, .int .i64 at_] by rw [hfm.out]; rfl)
      have hmp := Lib.hid hHr.out.mp
      have hsm := Lib.hid (show nm.size ≤ maxLen by have := hsz.out.1; unfold maxLen; omega)
      obtain ⟨p1, q1⟩ := blk_cell hHr.out.box 1 (.map (some mb)) rfl
      have l1 := blk_lt hHr.out.box
      clear hfm
      have hC1 := Lib.hid (blk_new wr (.cells #[.string nm, .string su, .slice mA is.length mc, .bool b1, .bool b2, .bool b3, .int .i64 at_] 44))
      obtain ⟨p5, q5⟩ := blk_cell hC1.out 5 (.bool b3) rfl
      have l5 := blk_lt hC1.out
      have hC2 := Lib.hid (blk_new wr (.cells #[.string nm, .string su, .slice mA is.length mc, .bool b1, .bool b2, .bool false, .int .i64 at_] 44))
      have hbr := Lib.hid ((Below.refl wr.heap.size wr).alloc (Nat.le_refl _) (.cells #[.string nm, .string su, .slice mA is.length mc, .bool b1, .bool b2, .bool false, .int .i64 at_] 44))
      go_upto_region 9 with (at_lookup; refine wpList_lookup_cl _ rfl _ _ rfl mb 100000 L rfl hmp.out nm hsm.out rfl _ hv.out ?_)
      clear p1 q1 l1 p5 q5 l5 hC1 hmp hsm hv ck hHr
      have hrdm := Lib.hid (rdL_below hif.out hbr.out)
      have hKm := Lib.hid (hK.out.keeps hbr.out)
      have hbm := Lib.hid (below_then hb.out hbz hbr.out)
      have hbmz := hbm.out.size
      clear hK hb hif hbr
      generalize wr.alloc (.cells #[.string nm, .string su, .slice mA is.length mc, .bool b1, .bool b2, .bool false, .int .i64 at_] 44) = W3 at *
      obtain ⟨y0, y1, y2, y3, y4, y5, y6⟩ := cells7 hC2.out
      have l2 := blk_lt hC2.out
      have hlk : (L.take j).map Sp.unP = (L.take j).map Sp.unP := rfl
      have hlen : ((L.take j).map Sp.unP).length ≤ 10000 := by rw [List.length_map, List.length_take]; omega
      have kl := Lib.hid (lay_any W3 w.heap.size (w.heap.size + 1) w.heap.size A' c' ((L.take j).map Sp.unP) (Sp.unP (⟨nm, su, is, b1, b2, b3, at_⟩, mA, mc)) hKm.out hfn.out hlen hbmz hrdm.out hsz.out hat.out hfw.out (fun h0 b o hA => by
        have hlt' := rdL_lt hifw.out h0 b o hA
        exact ⟨by omega, by omega, fun q => by have := own_base hKm.out.names _ q; omega⟩))
      unfold Sp.clV Sp.unP Sp.unown at kl
      simp only at kl
      clear hlk hlen
      go_wp2_with fail
      refine kl.out.mono ?_
      rintro e w4 ⟨A2, c2, rfl, hK4, hb4, _⟩
      have hK5 := Lib.hid (show HMk w4 w.heap.size (w.heap.size + 1) w.heap.size A2 c2 ((L.take (j + 1)).map Sp.unP) by rw [htk.out]; exact hK4)
      have hb5 := Lib.hid (hbm.out.trans hb4)
      clear kl hK4 hb4 hbm hKm hC2 y0 y1 y2 y3 y4 y5 y6 l2
      go_wp2
      go_roundw
      case rel => exact ⟨j + 1, A2, c2, by go_num, by omega, hK5, hb5⟩
      case measure => simp [RowKit.intOf]; omega
    · have hzj : ¬ (j : Int) < (L.length : Int) := by omega
      have hje : L.take j = L := List.take_of_length_le (by omega)
      rw [hje] at hK
      clear hje
      obtain ⟨i0, hi, hz0, hzi1, hzi2⟩ := info_parts infoCl
      have hfl : fs.length ≤ 64 := by omega
      clear hz h64
      go_upto_region 12 with (at_make; refine wpList_make_own _ rfl _ _ 88 rfl w.heap.size 44 i0 (Sp.clV Sp.zP) 7 Tryz.underlying88 hi hz0 hzi1 .i64 .i64 _ fs.length rfl rfl (by first | rfl | omega) (by rw [hzi2]; omega) (by unfold maxLen; omega) hbz ?_; intro w5 hO5 hg5)
      have hb5 := Lib.hid ((Keeps.of_grown (S := fun i => wr.heap.size ≤ i) hg5 (fun i q => by cases q)).below (Nat.le_refl _) (fun i q => q))
      have hB5 := Lib.hid (below_then hb.out hbz hb5.out)
      have hK5 := Lib.hid (hK.out.keeps hb5.out)
      have hO5 := Lib.hid hO5
      clear hb hK hg5 hb5
      go_upto_region 13 with fail
      have ha0 : Hid (Sp.addS ((L.map (·.1)).map Sp.unown) (Sp.rcS fs 0) 0 = Sp.addS ((L.map Sp.unP ++ ([] : List Sp.ClP)).map (·.1)) (Sp.rcS (fs.drop 0) 0) 0) := Lib.hid (by rw [List.append_nil, List.drop_zero, List.map_map, List.map_map]; rfl)
      have hK5 : Hid (HMk w5 w.heap.size (w.heap.size + 1) w.heap.size A' c' (L.map Sp.unP ++ ([] : List Sp.ClP))) := Lib.hid (by rw [List.append_nil]; exact hK5.out)
      clear hi hz0 hzi1 hzi2
      go_loopw [11, 12, 13, 14, 15, 16, 17, 54] (fun v11 _ _ _ _ _ _ vi wr => ∃ (cls : List Sp.ClP) (A' : Option Addr) (c' : Nat) (oA : Option Addr) (oc : Nat), v11 = .slice oA cls.length oc ∧ vi = .int .i64 cls.length ∧ cls.length ≤ fs.length ∧ Hid (Sp.addS ((L.map (·.1)).map Sp.unown) (Sp.rcS fs 0) 0 = Sp.addS ((L.map Sp.unP ++ cls).map (·.1)) (Sp.rcS (fs.drop cls.length) cls.length) cls.length) ∧ Hid (HMk wr w.heap.size (w.heap.size + 1) w.heap.size A' c' (L.map Sp.unP ++ cls)) ∧ Hid (wr.ownsRow w.heap.size 44 7 (.slice oA cls.length oc) cls.length (cls.flatMap Sp.clC)) ∧ Hid (RowsT wr cls) ∧ Hid (Below w.heap.size w wr)) (fun _ _ _ _ _ _ _ vi _ => fs.length - (RowKit.intOf vi).toNat)
      case atStart => exact ⟨[], A', c', _, _, rfl, by go_num, Nat.zero_le _, ha0, hK5, hO5, Lib.hid (fun m hm => (by cases hm)), hB5⟩
      case round =>
        clear ha0 hK5 hO5 hB5
        obtain ⟨cls, A', c', oA, oc, rfl, rfl, hj, ha, hK, hO, hRt, hb⟩ := hrel
        have hbz := hb.out.size
        by_cases hlt : cls.length < fs.length
        · have hzj : (cls.length : Int) < (fs.length : Int) := by omega
          obtain ⟨fb, fo, rfl, hrg⟩ := hFs.out.2 (by omega)
          have ck : ∀ i v, i < 7 → (Sp.flE fs[cls.length])[i]? = some v → wr.cell? ⟨fb, fo + cls.length * 7 + i, none⟩ = some v := fun i v hi hv => cell_below hb.out (rdL_get 7 Sp.flE_len hrg hlt i hi hv)
          have hmem := hFi.out _ (List.getElem_mem hlt)
          have hdr : fs.drop cls.length = fs[cls.length] :: fs.drop (cls.length + 1) := List.drop_eq_getElem_cons hlt
          have ha2 := ha.out
          rw [hdr, Sp.rcS, Sp.addS] at ha2
          clear hrg ha hdr
          generalize fs[cls.length] = x at *
          have ha2 := Lib.hid ha2
          have hx := Lib.hid (hmem.below hb.out)
          clear hmem
          obtain ⟨⟨qA, qc, qI, qd, qX, qe, qY, qg⟩, ⟨pool, fl, th, su, ifs, flds, mths⟩⟩ := x
          have d0 := ck 0 _ (by decide) rfl
          have d1 := ck 1 _ (by decide) rfl
          have d2 := ck 2 _ (by decide) rfl
          have d3 := ck 3 _ (by decide) rfl
          have d4 := ck 4 _ (by decide) rfl
          have d5 := ck 5 _ (by decide) rfl
          have d6 := ck 6 _ (by decide) rfl
          clear ck
          simp only [Nat.add_zero] at d0 ha2
          have ha2 := Lib.hid ha2
          have hX := Lib.hid (blk_new wr (.cells #[.slice qA pool.length qc, .int .i64 fl, .int .i64 th, .int .i64 su, .slice qI ifs.length qd, .slice qX flds.length qe, .slice qY mths.length qg] 63))
          have hbr := Lib.hid ((Below.refl wr.heap.size wr).alloc (Nat.le_refl _) (.cells #[.slice qA pool.length qc, .int .i64 fl, .int .i64 th, .int .i64 su, .slice qI ifs.length qd, .slice qX flds.length qe, .slice qY mths.length qg] 63))
          have kR := Lib.hid (fun W (hb : Below wr.heap.size wr W) (hT : Tabs W) => fileRight_any ⟨qA, qc, qI, qd, qX, qe, qY, qg⟩ ⟨pool, fl, th, su, ifs, flds, mths⟩ W (rdF_below hx.out.rd hb) hx.out.ok hT hx.out.len)
          have hen := Lib.hid (fun h => Sp.enc_ok (F := (⟨pool, fl, th, su, ifs, flds, mths⟩ : FlP).fl) h)
          generalize (Sp.encodeF (⟨pool, fl, th, su, ifs, flds, mths⟩ : FlP).fl).2 = E at *
          have hflc : flC ⟨qA, qc, qI, qd, qX, qe, qY, qg⟩ ⟨pool, fl, th, su, ifs, flds, mths⟩ = #[.slice qA pool.length qc, .int .i64 fl, .int .i64 th, .int .i64 su, .slice qI ifs.length qd, .slice qX flds.length qe, .slice qY mths.length qg] := rfl
          rw [hflc] at kR
          clear hflc
          go_wp2_with fail
          refine (kR.out _ hbr.out (hTt.out.below (below_then hb.out hbz hbr.out))).mono ?_
          rintro e w6 ⟨rfl, hb6⟩
          have hX6 := Lib.hid (blk_below hX.out hb6)
          have hbr6 := Lib.hid (below_then hbr.out hbr.out.size hb6)
          clear hX hbr hb6 kR d0 d1 d2 d3 d4 d5 d6
          by_cases hE : E = 0
          · subst hE
            have hen := Lib.hid (hen.out rfl)
            have kC := Lib.hid (classOf_any ⟨qA, qc, qI, qd, qX, qe, qY, qg⟩ ⟨pool, fl, th, su, ifs, flds, mths⟩ cls.length w6 (rdF_below hx.out.rd hbr6.out) hen.out.1 hx.out.ok.this hx.out.ok.super hx.out.ok.ifaces (fun c hc => (hx.out.ok.pool c hc).2.2.1) (Nat.le_trans hen.out.2 (by decide)))
            rw [show flC ⟨qA, qc, qI, qd, qX, qe, qY, qg⟩ ⟨pool, fl, th, su, ifs, flds, mths⟩ = #[.slice qA pool.length qc, .int .i64 fl, .int .i64 th, .int .i64 su, .slice qI ifs.length qd, .slice qX flds.length qe, .slice qY mths.length qg] from rfl] at kC
            have hP := Lib.hid (show (Sp.clOf ⟨pool, fl, th, su, ifs, flds, mths⟩ cls.length).name.size ≤ 1099511627776 ∧ (Sp.clOf ⟨pool, fl, th, su, ifs, flds, mths⟩ cls.length).super.size ≤ 1099511627776 ∧ (∀ i ∈ (Sp.clOf ⟨pool, fl, th, su, ifs, flds, mths⟩ cls.length).ifaces, i.size ≤ 1099511627776) ∧ (Sp.clOf ⟨pool, fl, th, su, ifs, flds, mths⟩ cls.length).ifaces.length = ifs.length ∧ (Sp.clOf ⟨pool, fl, th, su, ifs, flds, mths⟩ cls.length).at_ = cls.length from ⟨Sp.className_size hx.out.ok.texts _, Sp.className_size hx.out.ok.texts _, fun i hi => by
              obtain ⟨k, _, rfl⟩ := List.mem_map.1 hi
              exact Sp.className_size hx.out.ok.texts _, by simp [Sp.clOf], rfl⟩)
            generalize Sp.clOf ⟨pool, fl, th, su, ifs, flds, mths⟩ cls.length = P at *
            obtain ⟨pn, ps, pi, p1, p2, p3, p4⟩ := P
            unfold Sp.clV at kC
            simp only at kC hP ha2
            have ha2 := Lib.hid ha2
            have hP := Lib.hid hP
            obtain ⟨y0, y1, y2, y3, y4, y5, y6⟩ := cells7 hX6.out
            have l2 := blk_lt hX6.out
            go_wp2_with fail
            refine kC.out.mono ?_
            rintro e w7 ⟨iA, ic, rfl, hO7, hb7⟩
            have hbr7 := Lib.hid (below_then hbr6.out hbr6.out.size hb7)
            have hO7 := Lib.hid hO7
            have hK7 := Lib.hid (hK.out.keeps hbr7.out)
            have hOo7 := Lib.hid ((Keeps.of_below (S := fun _ => False) hbr7.out).row hO.out (fun k hk q => q))
            have hb7' := Lib.hid (below_then hb.out hbz hbr7.out)
            have hRt7 := Lib.hid (hRt.out.below hbr7.out)
            clear hRt
            have hw67 := hb7.size
            have hcb1 : w.heap.size + 1 < w6.heap.size := by have h1 := blk_lt hK.out.box; have h2 : wr.heap.size ≤ w6.heap.size := hbr6.out.size; omega
            have hcb2 := Lib.hid (fun k hk => show k < w6.heap.size from Nat.lt_of_lt_of_le (own_lt hK.out.names k hk) hbr6.out.size)
            have hw06 : wr.heap.size ≤ w6.heap.size := hbr6.out.size
            clear hK hO hb hbr6 hbr7 hX6 y0 y1 y2 y3 y4 y5 y6 l2 kC hb7
            have hC8 := Lib.hid (blk_new w7 (.cells #[.string pn, .string ps, .slice iA pi.length ic, .bool p1, .bool p2, .bool p3, .int .i64 p4] 44))
            have hb8 := Lib.hid (hb7'.out.alloc hb7'.out.size (.cells #[.string pn, .string ps, .slice iA pi.length ic, .bool p1, .bool p2, .bool p3, .int .i64 p4] 44))
            have hr8 := Lib.hid ((Below.refl w7.heap.size w7).alloc (Nat.le_refl _) (.cells #[.string pn, .string ps, .slice iA pi.length ic, .bool p1, .bool p2, .bool p3, .int .i64 p4] 44))
            have hK8 := Lib.hid (hK7.out.keeps hr8.out)
            have hOo8 := Lib.hid ((Keeps.of_below (S := fun _ => False) hr8.out).row hOo7.out (fun k hk q => q))
            have hO8 := Lib.hid ((Keeps.of_below (S := fun _ => False) hr8.out).row hO7.out (fun k hk q => q))
            have hRt8 := Lib.hid (hRt7.out.below hr8.out)
            clear hK7 hOo7 hO7 hb7' hr8 hRt7
            go_upto_region 19 with fail
            generalize w7.alloc (.cells #[.string pn, .string ps, .slice iA pi.length ic, .bool p1, .bool p2, .bool p3, .int .i64 p4] 44) = W8 at *
            have hai := Lib.hid ha2.out
            rw [if_neg (by simp), ← Sp.findP_isSome] at hai
            clear ha2
            obtain ⟨m8, hm8⟩ : ∃ m, (Sp.findP (L.map Sp.unP ++ cls) pn).getD Sp.zP = m := ⟨_, rfl⟩
            obtain ⟨⟨nm, su8, is, b1, b2, b3, at_⟩, mA, mc⟩ := m8
            have hv8 := Lib.hid (show Sp.clV ((Sp.findP (L.map Sp.unP ++ cls) pn).getD Sp.zP) = .agg #[.string nm, .string su8, .slice mA is.length mc, .bool b1, .bool b2, .bool b3, .int .i64 at_] by rw [hm8]; rfl)
            clear hm8
            have hsm : pn.size ≤ maxLen := by have := hP.out.1; unfold maxLen; omega
            have hq1 := (look_cl (mapV_drew hK8.out.mp) pn hsm).1
            have hq2 := (look_cl (mapV_drew (mapV_alloc hK8.out.mp (.cells #[.string ⟨#[]⟩, .string ⟨#[]⟩, .slice none 0 0, .bool false, .bool false, .bool false, .int .i64 0] 44))) pn hsm).1
            rw [hv8.out] at hq1 hq2
            clear hsm
            obtain ⟨u1, v1⟩ := blk_cell hK8.out.box 1 (.map (some w.heap.size)) rfl
            obtain ⟨u2, v2⟩ := blk_cell hC8.out 0 (.string pn) rfl
            have l1 := blk_lt hK8.out.box
            have l2 := blk_lt hC8.out
            have hfq : Hid ((Sp.findP (L.map Sp.unP ++ cls) pn).isSome = false → Sp.findP (L.map Sp.unP ++ cls) pn = none) := Lib.hid (fun h1 => by
              cases h : Sp.findP (L.map Sp.unP ++ cls) pn with
              | none => rfl
              | some x => rw [h] at h1; cases h1)
            generalize hf8 : (Sp.findP (L.map Sp.unP ++ cls) pn).isSome = f8 at *
            have hf8 := Lib.hid hf8
            have hbw := Lib.hid (hb8.out.alloc hb8.out.size (.cells #[.string nm, .string su8, .slice mA is.length mc, .bool b1, .bool b2, .bool b3, .int .i64 at_] 44)).drew
            go_region
            all_goals
              clear hq1 hq2 u1 v1 u2 v2 l1 l2
              have hr9 := Lib.hid ((Below.refl W8.heap.size W8).alloc (Nat.le_refl _) (.cells #[.string nm, .string su8, .slice mA is.length mc, .bool b1, .bool b2, .bool b3, .int .i64 at_] 44)).drew
              have hK9 := Lib.hid (hK8.out.keeps hr9.out)
              have hOo9 := Lib.hid ((Keeps.of_below (S := fun _ => False) hr9.out).row hOo8.out (fun k hk q => q))
              have hO9 := Lib.hid ((Keeps.of_below (S := fun _ => False) hr9.out).row hO8.out (fun k hk q => q))
              have hC9 := Lib.hid (blk_below hC8.out hr9.out)
              have hRt9 := Lib.hid (hRt8.out.below hr9.out)
              clear hK8 hOo8 hO8 hC8 hr9 hb8 hv8 hRt8
              generalize (W8.alloc (.cells #[.string nm, .string su8, .slice mA is.length mc, .bool b1, .bool b2, .bool b3, .int .i64 at_] 44)).drew = W9 at *
              obtain ⟨zb, hzb⟩ : ∃ z, W8.heap.size = z := ⟨_, rfl⟩
              rw [hzb]
              clear hzb
              have hbz9 := hbw.out.size
              cases f8 with
              | true =>
                have hR2 : R = (none, 15, cls.length) := by
                  rw [HR.out, hai.out]; simp
                subst hR2
                clear HR hai hen hx hK9 hOo9 hO9 hC9 hfq hf8
                go_wp2
                first | go_ret3 | go_ret
                exact ⟨hbw.out, .inl ⟨rfl, rfl⟩⟩
              | false =>
                have hai2 := Lib.hid hai.out
                rw [if_neg (by simp)] at hai2
                clear hai
                obtain ⟨hil, hrd, hba⟩ := own_rdL Sp.strC_len (by decide) hO9.out
                have hil := Lib.hid hil
                have hrd := Lib.hid hrd
                have hba := Lib.hid hba
                have hfn : Hid (Sp.findP (L.map Sp.unP ++ cls) pn = none) := Lib.hid (hfq.out (by first | rfl | trivial | exact hf8.out))
                have kl := Lib.hid (lay_any W9 w.heap.size (w.heap.size + 1) w.heap.size A' c' (L.map Sp.unP ++ cls) (⟨pn, ps, pi, p1, p2, p3, p4⟩, iA, ic) hK9.out hfn.out (by rw [List.length_append, List.length_map]; omega) hbz9 hrd.out ⟨hP.out.1, hP.out.2.1, hP.out.2.2.1⟩ (by
                  have h1 := hP.out.2.2.2.2
                  show In64 p4
                  rw [h1]
                  unfold In64
                  omega) (by
                  have h1 := hP.out.2.2.2.1
                  show pi.length ≤ 16
                  rw [h1]
                  first | exact hen.out.2 | exact (hen.out trivial).2 | exact (hen.out rfl).2) (fun h0 b o hA => by
                  have h1 := hba.out b o hA
                  exact ⟨by omega, by omega, fun q => by have := hcb2.out b q; omega⟩))
                unfold Sp.clV at kl
                simp only at kl
                obtain ⟨y0, y1, y2, y3, y4, y5, y6⟩ := cells7 hC9.out
                have l2 := blk_lt hC9.out
                go_wp2_with fail
                refine kl.out.mono ?_
                rintro e w10 ⟨A2, c2, rfl, hK10, hb10, hfr⟩
                have hkp := Lib.hid (show Keeps (fun k => ¬ OutT A' (L.map Sp.unP ++ cls).length c' (w.heap.size + 1) w.heap.size k) W9 w10 from ⟨hb10.os, hb10.tape, hb10.output, hb10.size, fun k hk hn => (hfr k hk (Classical.not_not.1 hn)).1⟩)
                have hC10 := Lib.hid (hkp.out.obj hC9.out (fun q => q (hK9.out.out hC9.out (by decide) (by decide))))
                have hO10 := Lib.hid (hkp.out.row hOo9.out (fun k hk q => q (by
                  rcases hOo9.out.2 with ⟨h0, _⟩ | ⟨g, cp, cr, hv, _, hh, _⟩
                  · rw [h0] at hk; simp [Value.ownBlock] at hk
                  · rw [hv] at hk
                    have hg : g = k := by simpa [Value.ownBlock] using hk
                    rw [hg] at hh
                    exact hK9.out.out hh (by decide) (by decide))))
                have hRt10 : Hid (RowsT w10 (cls ++ [((⟨pn, ps, pi, p1, p2, p3, p4⟩, iA, ic) : Sp.ClP)])) := Lib.hid (fun m hm h0 b o hA => by
                  have hno : OutT A' (L.map Sp.unP ++ cls).length c' (w.heap.size + 1) w.heap.size b := by
                    rcases List.mem_append.1 hm with q | q
                    · exact hK9.out.sep m (List.mem_append_right _ q) h0 b o hA
                    · obtain rfl := List.mem_singleton.1 q
                      have h1 := hba.out b o hA
                      exact ⟨by omega, by omega, fun q => by have := hcb2.out b q; omega⟩
                  have hC : ∃ C, W9.heap[b]? = some (.cells C 9 (0, 0)) := by
                    rcases List.mem_append.1 hm with q | q
                    · exact hRt9.out m q h0 b o hA
                    · obtain rfl := List.mem_singleton.1 q
                      exact own_blkC hO9.out (by simp only at hA; rw [hA]; rfl)
                  obtain ⟨C, hC⟩ := hC
                  exact ⟨C, hkp.out.obj hC (fun q => q hno)⟩)
                have hB10 := Lib.hid (hbw.out.trans hb10)
                have hbz10 := hB10.out.size
                have hK10 := Lib.hid hK10
                clear kl hkp hfr hb10 hK9 hOo9 hO9 hC9 hbw y0 y1 y2 y3 y4 y5 y6 l2
                obtain ⟨oA2, oc2, w11, hra, hO11, hk11⟩ := app_cl (ty := 88) w10 w.heap.size oA oc cls (⟨pn, ps, pi, p1, p2, p3, p4⟩, iA, ic) hO10.out (by omega) hbz10
                have hl3 : (cls ++ [((⟨pn, ps, pi, p1, p2, p3, p4⟩, iA, ic) : Sp.ClP)]).length = cls.length + 1 := by simp
                rw [hl3] at hra
                unfold Sp.clC at hra
                simp only at hra
                have hra2 := Lib.hid hra
                have hnR : Hid (∀ m ∈ L.map Sp.unP ++ (cls ++ [((⟨pn, ps, pi, p1, p2, p3, p4⟩, iA, ic) : Sp.ClP)]), 0 < m.1.ifaces.length → ∀ b o, m.2.1 = some ⟨b, o, none⟩ → ¬ (Value.slice oA cls.length oc).ownBlock = some b) := Lib.hid (fun m hm h0 b o hA q => by
                  rcases List.mem_append.1 hm with r | r
                  · obtain ⟨m', hm', rfl⟩ := List.mem_map.1 r
                    have h1 := rdL_lt (H0.out.cls.ifs m' hm') h0 b o hA
                    have h2 := own_base hO10.out b q
                    omega
                  · obtain ⟨C, hC⟩ := hRt10.out m r h0 b o hA
                    obtain ⟨C', hC'⟩ := own_blkC hO10.out q
                    rw [hC] at hC'
                    injection hC' with hC'
                    injection hC' with _ ht
                    exact absurd ht (by decide))
                have hK11 := Lib.hid (show HMk w11 w.heap.size (w.heap.size + 1) w.heap.size A2 c2 (L.map Sp.unP ++ (cls ++ [((⟨pn, ps, pi, p1, p2, p3, p4⟩, iA, ic) : Sp.ClP)])) by
                  rw [← List.append_assoc]
                  exact hK10.out.apart hk11 (fun k hk => by
                    obtain ⟨C, hC⟩ := own_blkC hO10.out hk
                    exact hK10.out.out hC (by decide) (by decide)) (fun m hm => hnR.out m (by rw [← List.append_assoc]; exact hm)))
                have hRt11 := Lib.hid (hRt10.out.keeps hk11 (fun m hm => hnR.out m (List.mem_append_right _ hm)))
                have hB11 := Lib.hid ((Keeps.of_below (S := fun _ => False) hB10.out).then hk11 (fun i q => .inr (own_base hO10.out i q)) |>.below (Nat.le_refl _) (fun i q => q.elim))
                have hO11 := Lib.hid hO11
                have hlz : (cls ++ [((⟨pn, ps, pi, p1, p2, p3, p4⟩, iA, ic) : Sp.ClP)]).length ≤ fs.length := by omega
                have hmz : fs.length - (cls ++ [((⟨pn, ps, pi, p1, p2, p3, p4⟩, iA, ic) : Sp.ClP)]).length < fs.length - cls.length := by omega
                obtain ⟨y0, y1, y2, y3, y4, y5, y6⟩ := cells7 hC10.out
                have l2 := blk_lt hC10.out
                clear hra hk11 hnR hRt10 hO10 hK10 hB10
                have hl3' := Lib.hid hl3
                clear hl3
                go_wp2_with (at_builtin; refine wpList_app _ rfl _ _ _ _ rfl _ _ rfl rfl (.slice oA2 (cls.length + 1) oc2) w11 hra2.out ?_)
                intro v2 w2' hq
                obtain ⟨rfl, rfl⟩ := hq.out
                clear hq hra2 y0 y1 y2 y3 y4 y5 y6 l2
                go_wp2
                go_roundw
                case rel => exact ⟨cls ++ [((⟨pn, ps, pi, p1, p2, p3, p4⟩, iA, ic) : Sp.ClP)], A2, c2, oA2, oc2, by rw [hl3'.out], by rw [hl3'.out]; go_num, hlz, Lib.hid (by rw [hl3'.out, ← List.append_assoc, List.map_append]; exact hai2.out), hK11, hO11, hRt11, hB11⟩
                case measure => simp [RowKit.intOf] at hmz ⊢; omega
          · have hEb : (E != 0) = true := by simp [hE]
            have hR2 : R = (none, E, cls.length) := by
              rw [HR.out, ha2, if_pos hE, if_pos hE]
            have hB6 := Lib.hid (below_then hb.out hbz hbr6.out)
            subst hR2
            clear HR ha2 hen hx hK hO
            go_wp2
            first | go_ret3 | go_ret
            exact ⟨hB6.out, .inl ⟨rfl, rfl⟩⟩
        · have hzj : ¬ (cls.length : Int) < (fs.length : Int) := by omega
          have hje : fs.drop cls.length = [] := List.drop_eq_nil_of_le (by omega)
          have haE := ha.out
          rw [hje, Sp.rcS, Sp.addS] at haE
          have hcl : Hid (cls.map (·.1) = (Sp.rcS fs 0).map (·.2)) := Lib.hid (by
            have h1 := (Sp.add_ok (fs := Sp.rcS fs 0) (L := (L.map (·.1)).map Sp.unown) (i := 0) (by rw [haE])).1
            rw [haE] at h1
            have h2 : (L.map Sp.unP ++ cls).map (·.1) = (L.map (·.1)).map Sp.unown ++ (Sp.rcS fs 0).map (·.2) := congrArg Prod.snd h1
            rw [List.map_append, List.map_map, List.map_map] at h2
            exact List.append_cancel_left h2)
          have hnn : Hid (∀ m ∈ cls, m.1.name ≠ Sp.nilB) := Lib.hid (fun m hm => by
            have h1 := (Sp.add_ok (fs := Sp.rcS fs 0) (L := (L.map (·.1)).map Sp.unown) (i := 0) (by rw [haE])).2.1
            have h2 : m.1 ∈ (Sp.rcS fs 0).map (·.2) := by rw [← hcl.out]; exact List.mem_map.2 ⟨m, hm, rfl⟩
            obtain ⟨f, hf, e⟩ := List.mem_map.1 h2
            rw [← e]
            exact Sp.name_ne (Sp.rc_names f hf (h1 f hf)))
          have HR2 := Lib.hid HR.out
          rw [haE, if_neg (by simp), ← hcl.out] at HR2
          have hll : cls.length = fs.length := by omega
          clear ha haE HR hje
          go_upto_region 26 with fail
          have hLL : (L.map (·.1)).map Sp.unown ++ cls.map (·.1) = (L.map Sp.unP ++ cls).map (·.1) := by rw [List.map_append, List.map_map, List.map_map]; rfl
          rw [hLL] at HR2
          clear hLL
          obtain ⟨_, hrd, _⟩ := own_rdL Sp.clC_len (by decide) hO.out
          have hrd := Lib.hid hrd
          have hTl : (L.map Sp.unP ++ cls).length ≤ 10000 := by rw [List.length_append, List.length_map]; omega
          have hTt2 := Lib.hid (hK.out.tab hTl)
          have hk0 : Hid (Sp.kindsS ((L.map Sp.unP ++ cls).map (·.1)) (cls.map (·.1)) 0 = Sp.kindsS ((L.map Sp.unP ++ cls).map (·.1)) ((cls.drop 0).map (·.1)) 0) := Lib.hid rfl
          clear hO
          generalize wr = V at *
          have hb0 := Lib.hid (Below.refl V.heap.size V)
          go_loopw [18, 19, 20, 90] (fun _ _ _ vi w2 => ∃ j : Nat, vi = .int .i64 j ∧ j ≤ cls.length ∧ Hid (Sp.kindsS ((L.map Sp.unP ++ cls).map (·.1)) (cls.map (·.1)) 0 = Sp.kindsS ((L.map Sp.unP ++ cls).map (·.1)) ((cls.drop j).map (·.1)) j) ∧ Hid (Below V.heap.size V w2)) (fun _ _ _ vi _ => cls.length - (RowKit.intOf vi).toNat)
          case atStart => exact ⟨0, by go_num, Nat.zero_le _, hk0, hb0⟩
          case round =>
            clear hk0 hb0
            obtain ⟨j, rfl, hj2, hk, hb2⟩ := hrel
            have hbz2 := hb2.out.size
            by_cases hlt2 : j < cls.length
            · have hzj2 : (j : Int) < (cls.length : Int) := by omega
              obtain ⟨ob, oo, rfl, hrg⟩ := hrd.out.2 (by omega)
              have ck : ∀ i v, i < 7 → (Sp.clC cls[j])[i]? = some v → wr.cell? ⟨ob, oo + j * 7 + i, none⟩ = some v := fun i v hi hv => cell_below hb2.out (rdL_get 7 Sp.clC_len hrg hlt2 i hi hv)
              have hmem : cls[j] ∈ L.map Sp.unP ++ cls := List.mem_append_right _ (List.getElem_mem hlt2)
              have hk2 := hk.out
              rw [List.drop_eq_getElem_cons hlt2, List.map_cons, Sp.kindsS] at hk2
              have h1 := (hTt2.out.cls.ifs _ hmem)
              have h2 := (hTt2.out.cls.size _ hmem)
              have h4 := (hTt2.out.cls.few _ hmem)
              have kF := Lib.hid (fun W (hb : Below V.heap.size V W) => fits_any W (w.heap.size + 1) w.heap.size A' c' (L.map Sp.unP ++ cls) cls[j] (hTt2.out.below hb) (rdL_below h1 hb) h2.2 h4)
              clear hrg hk hmem h1 h2 h4
              generalize cls[j] = m at *
              have hk2 := Lib.hid hk2
              obtain ⟨⟨nm, su, is, b1, b2, b3, at_⟩, mA, mc⟩ := m
              unfold Sp.clV at kF
              simp only at kF hk2
              have hk2 := Lib.hid hk2
              have d0 := ck 0 _ (by decide) rfl
              have d1 := ck 1 _ (by decide) rfl
              have d2 := ck 2 _ (by decide) rfl
              have d3 := ck 3 _ (by decide) rfl
              have d4 := ck 4 _ (by decide) rfl
              have d5 := ck 5 _ (by decide) rfl
              have d6 := ck 6 _ (by decide) rfl
              simp only [Nat.add_zero] at d0
              clear ck
              have hbr := Lib.hid (hb2.out.alloc hbz2 (.cells #[.string nm, .string su, .slice mA is.length mc, .bool b1, .bool b2, .bool b3, .int .i64 at_] 44))
              go_wp2_with fail
              refine (kF.out _ hbr.out).mono ?_
              rintro e w6 ⟨rfl, hb6⟩
              have hb7 := Lib.hid (below_then hbr.out hbr.out.size hb6)
              clear kF hb6 hbr hb2 d0 d1 d2 d3 d4 d5 d6
              generalize Sp.kindS ((L.map Sp.unP ++ cls).map (·.1)) ⟨nm, su, is, b1, b2, b3, at_⟩ = kv at *
              by_cases hkv : kv = 0
              · subst hkv
                have hk3 := Lib.hid hk2
                rw [if_neg (by simp)] at hk3
                clear hk2
                go_wp2
                go_roundw
                case rel => exact ⟨j + 1, by go_num, by omega, hk3, hb7⟩
                case measure => simp [RowKit.intOf]; omega
              · have hkb : (kv != 0) = true := by simp [hkv]
                have hR2 : R = (none, kv, j) := by
                  rw [HR2.out, hk2, if_pos hkv, if_pos hkv]
                have hB7 := Lib.hid (below_then hb.out hb.out.size hb7.out)
                subst hR2
                clear HR2 hk2 hb7
                go_wp2
                first | go_ret3 | go_ret
                exact ⟨hB7.out, .inl ⟨rfl, rfl⟩⟩
            · have hzj2 : ¬ (j : Int) < (cls.length : Int) := by omega
              have hkE := hk.out
              rw [List.drop_eq_nil_of_le (by omega), List.map_nil, Sp.kindsS] at hkE
              have HR3 := Lib.hid HR2.out
              rw [hkE, if_neg (by simp)] at HR3
              clear hkE hk HR2
              go_upto_region 33 with fail
              have hcy0 : Hid (Sp.cycS ((L.map Sp.unP ++ cls).map (·.1)) (cls.map (·.1)) 0 = Sp.cycS ((L.map Sp.unP ++ cls).map (·.1)) ((cls.drop 0).map (·.1)) 0) := Lib.hid rfl
              generalize wr = V2 at *
              go_loopw [21, 22, 105] (fun _ _ vi w2 => ∃ j : Nat, vi = .int .i64 j ∧ j ≤ cls.length ∧ Hid (Sp.cycS ((L.map Sp.unP ++ cls).map (·.1)) (cls.map (·.1)) 0 = Sp.cycS ((L.map Sp.unP ++ cls).map (·.1)) ((cls.drop j).map (·.1)) j) ∧ Hid (Below V.heap.size V w2)) (fun _ _ vi _ => cls.length - (RowKit.intOf vi).toNat)
              case atStart => exact ⟨0, by go_num, Nat.zero_le _, hcy0, hb2⟩
              case round =>
                clear hcy0 hb2 hbz2
                obtain ⟨j3, rfl, hj3, hk, hb3⟩ := hrel
                have hbz3 := hb3.out.size
                by_cases hlt3 : j3 < cls.length
                · have hzj3 : (j3 : Int) < (cls.length : Int) := by omega
                  obtain ⟨ob, oo, rfl, hrg⟩ := hrd.out.2 (by omega)
                  have ck : ∀ i v, i < 7 → (Sp.clC cls[j3])[i]? = some v → wr.cell? ⟨ob, oo + j3 * 7 + i, none⟩ = some v := fun i v hi hv => cell_below hb3.out (rdL_get 7 Sp.clC_len hrg hlt3 i hi hv)
                  have hmem : cls[j3] ∈ L.map Sp.unP ++ cls := List.mem_append_right _ (List.getElem_mem hlt3)
                  have hnn3 := hnn.out _ (List.getElem_mem hlt3)
                  have hk2 := hk.out
                  rw [List.drop_eq_getElem_cons hlt3, List.map_cons, Sp.cycS] at hk2
                  have h2 := (hTt2.out.cls.size _ hmem)
                  have kF := Lib.hid (fun W (hb : Below V.heap.size V W) => above_any W (w.heap.size + 1) w.heap.size A' c' (L.map Sp.unP ++ cls) cls[j3].1.name cls[j3].1.name (hTt2.out.below hb) hnn3 h2.1 hTl)
                  clear hrg hk hmem h2 hnn3
                  generalize cls[j3] = m at *
                  have hk2 := Lib.hid hk2
                  obtain ⟨⟨nm, su, is, b1, b2, b3, at_⟩, mA, mc⟩ := m
                  simp only at kF hk2
                  have hk2 := Lib.hid hk2
                  have d0 := ck 0 _ (by decide) rfl
                  have d1 := ck 1 _ (by decide) rfl
                  have d2 := ck 2 _ (by decide) rfl
                  have d3 := ck 3 _ (by decide) rfl
                  have d4 := ck 4 _ (by decide) rfl
                  have d5 := ck 5 _ (by decide) rfl
                  have d6 := ck 6 _ (by decide) rfl
                  simp only [Nat.add_zero] at d0
                  clear ck
                  have hbr := Lib.hid (hb3.out.alloc hbz3 (.cells #[.string nm, .string su, .slice mA is.length mc, .bool b1, .bool b2, .bool b3, .int .i64 at_] 44))
                  go_wp2_with fail
                  refine (kF.out _ hbr.out).mono ?_
                  rintro e w6 ⟨rfl, hb6⟩
                  have hb7 := Lib.hid (below_then hbr.out hbr.out.size hb6)
                  clear kF hb6 hbr hb3 d0 d1 d2 d3 d4 d5 d6
                  generalize Sp.upB ((L.map Sp.unP ++ cls).map (·.1)) nm nm = kv at *
                  cases kv with
                  | false =>
                    have hk3 := Lib.hid hk2.out
                    simp only [Bool.false_eq_true, if_false] at hk3
                    clear hk2
                    go_wp2
                    go_roundw
                    case rel => exact ⟨j3 + 1, by go_num, by omega, hk3, hb7⟩
                    case measure => simp [RowKit.intOf]; omega
                  | true =>
                    have hR2 : R = (none, 16, j3) := by
                      have hk3 := hk2.out
                      simp only [if_true] at hk3
                      rw [HR3.out, hk3, if_pos (by simp)]
                    have hB7 := Lib.hid (below_then hb.out hb.out.size hb7.out)
                    subst hR2
                    clear HR3 hk2 hb7
                    go_wp2
                    first | go_ret3 | go_ret
                    exact ⟨hB7.out, .inl ⟨rfl, rfl⟩⟩
                · have hzj3 : ¬ (j3 : Int) < (cls.length : Int) := by omega
                  have hkE := hk.out
                  rw [List.drop_eq_nil_of_le (by omega), List.map_nil, Sp.cycS] at hkE
                  have hR2 : R = (some ((L.map Sp.unP ++ cls).map (·.1)), 0, 0) := by
                    rw [HR3.out, hkE, if_neg (by simp)]
                  have hK7 := Lib.hid (hK.out.keeps hb3.out)
                  have hB7 := Lib.hid (below_then hb.out hb.out.size hb3.out)
                  subst hR2
                  clear HR3 hkE hk hK hb3 hTt2 hrd hnn
                  go_wp2
                  first | go_ret3 | go_ret
                  exact ⟨hB7.out, .inr ⟨_, _, _, _, _, by rw [List.map_append, List.map_map], rfl, hK7.out⟩⟩
end Go.Proofs.YtfjplmbknegidaaGreatDoor
end
