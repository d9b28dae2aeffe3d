/-
  Texts of the proof, joined: each says at its head what it proves.
-/
import Derived.Test.YtfjplmbknegidaaGreatDoorJk26
import Derived.Test.YtfjplmbknegidaaGreatDoorJk27
import Derived.Deep.RegionHeld3
import Derived.Test.YtfjplmbknegidaaGreatDoorJk13
section
/-
  Walk of chapter 6's laws' files: those of raw classes.
-/
set_option linter.unusedVariables false
set_option linter.unusedSimpArgs false
namespace Go.Proofs.YtfjplmbknegidaaGreatDoor
open Go.RowKit Go.Lib Go.Maps
/-- A raw class that is handed in. -/
structure RwIn (w : World) (r : Sp.RwP) : Prop where
  rd : RdN .i64 w r.2.1 r.1.ifaces
  fl : In64 r.1.flags
  nm : In64 r.1.name
  su : In64 r.1.super
  ifs : ∀ i ∈ r.1.ifaces, In64 i
theorem RwIn.below {w w' : World} {r : Sp.RwP} (h : RwIn w r) (hb : Below w.heap.size w w') : RwIn w' r := ⟨rdN_below h.rd hb, h.fl, h.nm, h.su, h.ifs⟩
/-- A file whose lists are rows of their own. -/
structure FileOwn (w : World) (x : Sp.At × FlP) : Prop where
  inn : FileIn w x
  pool : w.ownsRow 0 93 6 (.slice x.1.A x.2.pool.length x.1.c) x.2.pool.length (x.2.pool.flatMap Sp.cnC)
  ifs : w.ownsRow 0 3 1 (.slice x.1.I x.2.ifaces.length x.1.d) x.2.ifaces.length (x.2.ifaces.flatMap intC)
  nof : x.2.fields = []
  nom : x.2.methods = []
theorem FileOwn.later {w w' : World} {x : Sp.At × FlP} (h : FileOwn w x) (hb : Below w.heap.size w w') : FileOwn w' x :=
  ⟨h.inn.below hb, (Keeps.of_below (S := fun _ => False) hb).row h.pool (fun k q1 q2 => q2), (Keeps.of_below (S := fun _ => False) hb).row h.ifs (fun k q1 q2 => q2), h.nof, h.nom⟩
theorem FileOwn.app {w w' : World} {x : Sp.At × FlP} {base n : Nat} {v : Value} {xs : List Value} (h : FileOwn w x) (ho : w.ownsRow base 63 7 v n xs) (hk : Keeps (fun i => v.ownBlock = some i) w w') : FileOwn w' x := by
  have h1 := hk.row h.pool (fun k q1 q2 => own_apart ho h.pool (by decide) k q2 q1)
  have h2 := hk.row h.ifs (fun k q1 q2 => own_apart ho h.ifs (by decide) k q2 q1)
  refine ⟨⟨⟨(own_rdL Sp.cnC_len (by decide) h1).2.1, rdN_of (own_rdL (enc := intC) (fun _ => rfl) (by decide) h2).2.1, ?_, ?_⟩, h.inn.ok, h.inn.len⟩, h1, h2, h.nof, h.nom⟩
  · rw [h.nof]; exact ⟨rdL_nil _ _ _, fun m hm => (by cases hm)⟩
  · rw [h.nom]; exact ⟨rdL_nil _ _ _, fun m hm => (by cases hm)⟩
/-- The files that a list of raw classes made. -/
def FilesAt (B : Nat) (w' : World) (rs : List Sp.Rw) (A : Option Addr) (c : Nat) (fs : List (Sp.At × FlP)) : Prop :=
  fs.map (·.2) = Sp.filesF rs ∧ w'.ownsRow B 63 7 (.slice A fs.length c) fs.length (fs.flatMap Sp.flE) ∧ ∀ x ∈ fs, FileIn w' x
theorem flE_one (x : Sp.At × FlP) : ∀ u ∈ Sp.flE x, u.oneCell' = true := by
  intro u hu
  simp [Sp.flE, flC] at hu
  rcases hu with rfl | rfl | rfl | rfl | rfl | rfl | rfl <;> rfl
theorem infoFl : (Tryz.prog.info? 63).map (fun i => (i.zero, i.size, i.bytes)) = some (some (.agg #[.slice none 0 0, .int .i64 0, .int .i64 0, .int .i64 0, .slice none 0 0, .slice none 0 0, .slice none 0 0]), 7, 120) := by kernel_rfl
theorem flag_at {n : Int} {k : Nat} (h : Sp.pickN n 4 = k) (hk : k < 4) : (#[.int .i64 0, .int .i64 0, .int .i64 2, .int .i64 3] : Array Value)[k]? = some (.int .i64 (Sp.flagR n)) := by
  unfold Sp.flagR
  rw [h, Int.toNat_natCast]
  match k, hk with
  | 0, _ => rfl
  | 1, _ => rfl
  | 2, _ => rfl
  | 3, _ => rfl

theorem app_fl {ty : TypeId} (W : World) (B : Nat) (A : Option Addr) (c : Nat) (acc : List (Sp.At × FlP)) (x : Sp.At × FlP) (h : W.ownsRow B 63 7 (.slice A acc.length c) acc.length (acc.flatMap Sp.flE)) (hl : acc.length ≤ 1000000) (hB : B ≤ W.heap.size) :
    ∃ A' c' w5, (Builtin.append_ #[31, 31] ty #[.slice A acc.length c, .slice (some ⟨W.heap.size, 0, none⟩) 1 1]).run Tryz.prog (W.alloc (.cells (flC x.1 x.2) 63)) = .ok (.slice A' (acc ++ [x]).length c') w5 ∧ w5.ownsRow B 63 7 (.slice A' (acc ++ [x]).length c') (acc ++ [x]).length ((acc ++ [x]).flatMap Sp.flE) ∧ Keeps (fun i => (Value.slice A acc.length c).ownBlock = some i) W w5 := by
  obtain ⟨i0, hi, hz0, hzi1, hzi2⟩ := info_parts infoFl
  have := app_1 (ty := ty) (enc := Sp.flE) Tryz.underlying31 hi hz0 hzi1 hzi2 rfl (by decide) Sp.flE_len flE_one (by decide) W B A c acc x h hl hB
  rwa [show (Sp.flE x).toArray = flC x.1 x.2 from rfl] at this
theorem app_fl2 {ty : TypeId} (W : World) (B : Nat) (A : Option Addr) (c : Nat) (acc : List (Sp.At × FlP)) (x : Sp.At × FlP) (A2 : Option Addr) (c2 : Nat) (h : W.ownsRow B 63 7 (.slice A acc.length c) acc.length (acc.flatMap Sp.flE)) (hr : RdL Sp.flE W A2 [x]) (hl : acc.length ≤ 1000000) (hB : B ≤ W.heap.size) :
    ∃ A' c' w5, (Builtin.append_ #[31, 31] ty #[.slice A acc.length c, .slice A2 1 c2]).run Tryz.prog W = .ok (.slice A' (acc ++ [x]).length c') w5 ∧ w5.ownsRow B 63 7 (.slice A' (acc ++ [x]).length c') (acc ++ [x]).length ((acc ++ [x]).flatMap Sp.flE) ∧ Keeps (fun i => (Value.slice A acc.length c).ownBlock = some i) W w5 := by
  obtain ⟨i0, hi, hz0, hzi1, hzi2⟩ := info_parts infoFl
  exact app_rdL (ty := ty) (enc := Sp.flE) Tryz.underlying31 hi hz0 hzi1 hzi2 rfl (by decide) Sp.flE_len flE_one (by decide) W B A c acc A2 c2 [x] h hr (by simp; omega) hB
theorem rdL_one {w : World} {b : Nat} (x : Sp.At × FlP) (h : w.heap[b]? = some (.cells (flC x.1 x.2) 63 (0, 0))) : RdL Sp.flE w (some ⟨b, 0, none⟩) [x] :=
  (own_rdL Sp.flE_len (by decide) (own_lit (l := [x]) Sp.flE_len (C := flC x.1 x.2) (B := 0) (by simp [Sp.flE]) h (Nat.zero_le _) (by simp))).2.1
theorem flC_file (q : Sp.At) (f : Int) (n s : ByteArray) (ifs : List ByteArray) : flC q (Sp.fileF f n s ifs) = #[.slice q.A (4 + 2 * ifs.length) q.c, .int .i64 f, .int .i64 2, .int .i64 4, .slice q.I ifs.length q.d, .slice q.X 0 q.e, .slice q.Y 0 q.g] := by
  unfold flC
  rw [Sp.fileF_len, show (Sp.fileF f n s ifs).ifaces.length = ifs.length by simp [Sp.fileF]]
  rfl
set_option maxHeartbeats 8000000 in
set_option maxRecDepth 100000 in
theorem files6_any (A : Option Addr) (c : Nat) (l : List Sp.RwP) (w : World) (h : RdL Sp.rwC w A l) (hi : ∀ r ∈ l, RwIn w r) :
    Calls Tryz.prog 11 #[.slice A l.length c] w fun e w' => ∃ A' c' fs, e = .returned (.slice A' fs.length c') ∧ FilesAt w.heap.size w' (l.map (·.1)) A' c' fs ∧ Below w.heap.size w w' := by
  have H1 := Lib.hid h
  have HI := Lib.hid hi
  have hl := h.1
  clear h hi
  obtain ⟨RS, hRS⟩ : ∃ T, Sp.filesF (l.map (·.1)) = T := ⟨_, rfl⟩
  unfold FilesAt
  rw [hRS]
  have hRS := Lib.hid hRS
  have hO0 : Hid (w.ownsRow w.heap.size 63 7 (.slice none ([] : List (Sp.At × FlP)).length 0) ([] : List (Sp.At × FlP)).length (([] : List (Sp.At × FlP)).flatMap Sp.flE)) := Lib.hid ⟨rfl, .inl ⟨rfl, rfl⟩⟩
  have hb0 := Lib.hid (Below.refl w.heap.size w)
  go_enter Tryz.func11, Tryz.ntmps11
  go_upto_region 3 with fail
  go_loopw [3, 4, 5, 6] (fun v3 v4 _ _ wr => ∃ (acc : List (Sp.At × FlP)) (A' : Option Addr) (c' : Nat), v4 = .int .i64 acc.length ∧ v3 = .slice A' acc.length c' ∧ acc.length ≤ l.length ∧ acc.length ≤ 70 ∧ Hid (acc.map (·.2) = (l.take acc.length).map (fun r => Sp.fileR r.1)) ∧ Hid (wr.ownsRow w.heap.size 63 7 (.slice A' acc.length c') acc.length (acc.flatMap Sp.flE)) ∧ Hid (∀ x ∈ acc, FileOwn wr x) ∧ Hid (Below w.heap.size w wr)) (fun _ v4 _ _ _ => l.length - (RowKit.intOf v4).toNat)
  case atStart => exact ⟨[], none, 0, by go_num, rfl, Nat.zero_le _, Nat.zero_le _, Lib.hid rfl, hO0, Lib.hid (fun x hx => by cases hx), hb0⟩
  case round =>
    clear hO0 hb0
    obtain ⟨acc, A', c', rfl, rfl, hk, hk70, hacc, hO, hFI, hb⟩ := hrel
    have hbz := hb.out.size
    by_cases hlt : acc.length < l.length
    · by_cases h70 : acc.length < 70
      · have hzl : (acc.length : Int) < (l.length : Int) := by omega
        have hz70 : (acc.length : Int) < 70 := by omega
        have hz0 : (0 : Int) ≤ (acc.length : Int) := by omega
        have hRl := rdL_below H1.out hb.out
        obtain ⟨b, o, rfl, hr⟩ := hRl.2 (by omega)
        have hri := Lib.hid ((HI.out _ (List.getElem_mem hlt)).below hb.out)
        have ck : ∀ i v, i < 4 → (Sp.rwC l[acc.length])[i]? = some v → wr.cell? ⟨b, o + acc.length * 4 + i, none⟩ = some v := fun i v hi hv => rdL_get 4 Sp.rwC_len hr hlt i hi hv
        have hck0 : ∀ i v, i < 4 → (Sp.rwC l[acc.length])[i]? = some v → w.cell? ⟨b, o + acc.length * 4 + i, none⟩ = some v := fun i v hi hv => by
          obtain ⟨b', o', hA', hr'⟩ := H1.out.2 (by omega)
          obtain ⟨rfl, rfl⟩ : b' = b ∧ o' = o := by injection hA' with hA'; injection hA' with h1 h2; exact ⟨h1.symm, h2.symm⟩
          exact rdL_get 4 Sp.rwC_len hr' hlt i hi hv
        have hnew := Lib.hid (show acc.map (·.2) ++ [Sp.fileR l[acc.length].1] = (l.take (acc.length + 1)).map (fun r => Sp.fileR r.1) by
          rw [List.take_succ_eq_append_getElem hlt, List.map_append, ← hacc.out]; rfl)
        generalize l[acc.length] = r at *
        obtain ⟨⟨fl, nm, su, ifs⟩, rA, rc⟩ := r
        have d0 := ck 0 _ (by decide) rfl
        have d1 := ck 1 _ (by decide) rfl
        have d2 := ck 2 _ (by decide) rfl
        have d3 := ck 3 _ (by decide) rfl
        simp only [Nat.add_zero] at d0
        clear ck hr hRl
        have d0w : w.cell? ⟨b, o + acc.length * 4, none⟩ = some (.int .i64 fl) := hck0 0 _ (by decide) rfl
        have d1w : w.cell? ⟨b, o + acc.length * 4 + 1, none⟩ = some (.int .i64 nm) := hck0 1 _ (by decide) rfl
        have d2w : w.cell? ⟨b, o + acc.length * 4 + 2, none⟩ = some (.int .i64 su) := hck0 2 _ (by decide) rfl
        clear hck0
        have hfl := hri.out.fl
        have hnm := hri.out.nm
        have hsu := hri.out.su
        have hrd := Lib.hid hri.out.rd
        have hin := Lib.hid hri.out.ifs
        simp only at hfl hnm hsu
        have hlb := World.block_lt_of_cell? wr _ d0
        -- the interfaces' names
        have hP0 : Hid (wr.ownsRow wr.heap.size 9 1 (.slice none ([] : List ByteArray).length 0) ([] : List ByteArray).length (([] : List ByteArray).flatMap Sp.strC)) := Lib.hid ⟨rfl, .inl ⟨rfl, rfl⟩⟩
        have hc0 := Lib.hid (Below.refl wr.heap.size wr)
        go_upto_region 7 with fail
        generalize hWW : wr = W at *
        clear hWW
        go_loopw [5, 6] (fun v5 v6 w2 => ∃ (ns : List ByteArray) (A2 : Option Addr) (c2 : Nat), v6 = .int .i64 ns.length ∧ v5 = .slice A2 ns.length c2 ∧ ns.length ≤ ifs.length ∧ ns.length ≤ 4 ∧ Hid (ns = (ifs.take ns.length).map Sp.nameR) ∧ Hid (w2.ownsRow W.heap.size 9 1 (.slice A2 ns.length c2) ns.length (ns.flatMap Sp.strC)) ∧ Hid (Below W.heap.size W w2)) (fun _ v6 _ => ifs.length - (RowKit.intOf v6).toNat)
        case atStart => exact ⟨[], none, 0, by go_num, rfl, Nat.zero_le _, Nat.zero_le _, Lib.hid rfl, hP0, hc0⟩
        case round =>
          clear hP0 hc0
          obtain ⟨ns, A2, c2, rfl, rfl, hk2, hk4, hns, hP, hc⟩ := hrel
          have hcz := hc.out.size
          by_cases hlt2 : ns.length < ifs.length
          · by_cases h4 : ns.length < 4
            · have e3 := cell_below hc.out d3
              have hzi : (ns.length : Int) < (ifs.length : Int) := by omega
              have hz4 : (ns.length : Int) < 4 := by omega
              have hzn : (0 : Int) ≤ (ns.length : Int) := by omega
              obtain ⟨b2, o2, rfl, hr2⟩ := (rdN_below hrd.out hc.out).2 (by omega)
              have E0 := hr2 ns.length hlt2
              rw [List.getD_eq_getElem?_getD, List.getElem?_eq_getElem hlt2, Option.getD_some] at E0
              have hx := hin.out _ (List.getElem_mem hlt2)
              have hnn := Lib.hid (show ns ++ [Sp.nameR ifs[ns.length]] = (ifs.take (ns.length + 1)).map Sp.nameR by
                rw [List.take_succ_eq_append_getElem hlt2, List.map_append, ← hns.out]; rfl)
              clear hr2
              generalize ifs[ns.length] = x at *
              have kn := Lib.hid (fun V => name6_any x V hx)
              have hcN := hc.out.alloc hcz (.cells Sp.nmC 9)
              obtain ⟨A3, c3, w5, hra, hO5, hk5⟩ := app_str (ty := 42) (wr.alloc (.cells Sp.nmC 9)) W.heap.size A2 c2 ns (Sp.nameR x) (hP.out.alloc _) (by omega) (by simp; omega)
              have hl5 : (ns ++ [Sp.nameR x]).length = ns.length + 1 := by simp
              rw [hl5] at hra
              have hra2 := Lib.hid hra
              have hP5 := Lib.hid hO5
              have hc5 := Lib.hid (Keeps.own_below (w0 := W) (hP.out.alloc (.cells Sp.nmC 9)) hk5 hcN)
              have hlz : (ns ++ [Sp.nameR x]).length ≤ ifs.length := by omega
              have hlz2 : (ns ++ [Sp.nameR x]).length ≤ 4 := by omega
              have hmz : ifs.length - (ns ++ [Sp.nameR x]).length < ifs.length - ns.length := by omega
              have hl5' := Lib.hid hl5
              clear hra hk5 hO5 hl5 hcN hO
              generalize Sp.nameR x = s at *
              go_wp2_with fail
              refine (kn.out _).mono ?_
              rintro e w6 ⟨rfl, rfl⟩
              generalize wr.alloc (.cells Sp.nmC 9) = V7 at *
              go_wp2_with (at_builtin; refine wpList_app _ rfl _ _ _ _ rfl _ _ rfl rfl (.slice A3 (ns.length + 1) c3) w5 hra2.out ?_)
              intro v2 w2' hq
              obtain ⟨rfl, rfl⟩ := hq.out
              clear hq hra2 E0 e3
              go_wp2
              go_roundw
              case rel => exact ⟨ns ++ [s], A3, c3, by rw [hl5'.out]; go_num, by rw [hl5'.out], hlz, hlz2, Lib.hid (by rw [hl5'.out]; exact hnn.out), hP5, hc5⟩
              case measure => simp [RowKit.intOf] at hmz ⊢; omega
            · have hz4 : ¬ (ns.length : Int) < 4 := by omega
              have hzi : (ns.length : Int) < (ifs.length : Int) := by omega
              have e3 := cell_below hc.out d3
              have hnsF := Lib.hid (show ns = (ifs.take 4).map Sp.nameR by
                rw [show (4 : Nat) = ns.length by omega]
                exact hns.out)
              have hbwr := below_then hb.out hbz hc.out
              go_upto_region 10 with fail
              have e0 := cell_below hbwr d0w
              have e1 := cell_below hbwr d1w
              have e2 := cell_below hbwr d2w
              have hbV : Below w.heap.size w wr := hbwr
              have hRn := (own_rdL Sp.strC_len (by decide) hP.out).2.1
              obtain ⟨k4, hk4e⟩ : ∃ k : Nat, Sp.pickN fl 4 = k := ⟨(Sp.pickN fl 4).toNat, by have := Sp.pickN_in fl 4 (by decide); omega⟩
              have hk4l : k4 < 4 := by have := Sp.pickN_in fl 4 (by decide); omega
              have hk4z : (k4 : Int) < 4 := by omega
              have hk40 : (0 : Int) ≤ (k4 : Int) := by omega
              have kp := Lib.hid (fun V => pick6_any fl 4 V hfl (by decide) (by decide))
              rw [hk4e] at kp
              have k1 := Lib.hid (fun V => name6_any nm V hnm)
              have k2 := Lib.hid (fun V => name6_any su V hsu)
              have hfa := flag_at hk4e hk4l
              have hF64 := Sp.flagR_in fl
              have hFok := Lib.hid (Sp.fileR_ok ⟨fl, nm, su, ifs⟩)
              have hFe := Lib.hid (show Sp.fileR ⟨fl, nm, su, ifs⟩ = Sp.fileF (Sp.flagR fl) (Sp.nameR nm) (Sp.nameR su) ns by unfold Sp.fileR; rw [hnsF.out])
              have kf := Lib.hid (fun V' (hbV' : Below wr.heap.size wr V') => file6_any (Sp.flagR fl) (Sp.nameR nm) (Sp.nameR su) A2 c2 ns V' (rdL_below hRn hbV') (by omega))
              generalize Sp.flagR fl = f at *
              generalize Sp.nameR nm = n1 at *
              generalize Sp.nameR su = n2 at *
              generalize Sp.fileR ⟨fl, nm, su, ifs⟩ = FF at *
              have hOr := Lib.hid ((Keeps.of_below (S := fun _ => False) hc.out).row hO.out (fun k q1 q2 => q2))
              have hFIr := Lib.hid (fun x hx => (hFI.out x hx).later hc.out)
              have kp' : Hid (∀ V, Calls Tryz.prog 31 #[.int .i64 fl, .int .i64 4] V fun e w3 => e = .returned (.int .i64 (k4 : Int)) ∧ Grow V w3) := Lib.hid (fun V => (kp.out V).mono (fun e w3 q => ⟨q.1, by rw [q.2]; exact Grow.refl _⟩))
              have k1' : Hid (∀ V, Calls Tryz.prog 30 #[.int .i64 nm] V fun e w3 => e = .returned (.string n1) ∧ Grow V w3) := Lib.hid (fun V => (k1.out V).mono (fun e w3 q => ⟨q.1, by rw [q.2]; exact (Below.refl _ _).alloc (Nat.le_refl _) _⟩))
              have k2' : Hid (∀ V, Calls Tryz.prog 30 #[.int .i64 su] V fun e w3 => e = .returned (.string n2) ∧ Grow V w3) := Lib.hid (fun V => (k2.out V).mono (fun e w3 q => ⟨q.1, by rw [q.2]; exact (Below.refl _ _).alloc (Nat.le_refl _) _⟩))
              have hS := Lib.hid (fun V (hV : Grow wr.drew V) => show V.cell? ⟨b, o + acc.length * 4, none⟩ = some (.int .i64 fl) ∧ V.cell? ⟨b, o + acc.length * 4 + 1, none⟩ = some (.int .i64 nm) ∧ V.cell? ⟨b, o + acc.length * 4 + 2, none⟩ = some (.int .i64 su) from ⟨cell_below (w := wr.drew) hV e0, cell_below (w := wr.drew) hV e1, cell_below (w := wr.drew) hV e2⟩)
              clear hk4e e3 kp k1 k2
              refine wp_region_calm Grow [0, 2, 3, 4, 5, 6, 7, 10, 11, 12, 13, 14, 15, 16, 17, 18, 19, 20, 21, 22] [1, 8, 9, 23, 24] [25, 26] [[], [4, 5, 6, 7, 15, 23], [4, 5, 6, 7, 15, 23], [5, 6, 7, 15, 23], [6, 7, 15, 23], [7, 15, 23], [15, 23], [12, 13, 14, 15, 23], [12, 13, 14, 15, 23], [13, 14, 15, 23], [14, 15, 23], [15, 23], [23], [18, 19, 20, 21, 23], [18, 19, 20, 21, 23], [19, 20, 21, 23], [20, 21, 23], [21, 23], [23], [23]] (by kernel_rfl) (by kernel_rfl) Grow.refl Grow.trans (fun c a d v w h => by cases d <;> exact h) ?_
              change Line _ _ _ wr.drew _ _ _
              ((simp only [pickOps, List.filterMap_cons, List.filterMap_nil, List.getElem?_cons_succ, List.getElem?_cons_zero]); (repeat (first | (refine line_not (by rfl) ?_; (try simp only [Act.put, List.setIfInBounds_toArray, List.set_cons_zero, List.set_cons_succ])) | (refine line_val (v := ?_) Grow.refl (by rfl) (fun v9 h9 => ?_) ?_; rotate_left; (focus (obtain ⟨s1, s2, s3⟩ := hS.out v9 h9; go_simp; (first | done | with_reducible rfl))); (try simp only [Act.put, List.setIfInBounds_toArray, List.set_cons_zero, List.set_cons_succ])) | (refine line_call (by rfl) (fun v9 h9 => ?_) (fun v9 h9 => kp'.out v9) ?_; (focus (obtain ⟨s1, s2, s3⟩ := hS.out v9 h9; go_simp; done)); (try simp only [Act.put, List.setIfInBounds_toArray, List.set_cons_zero, List.set_cons_succ])) | (refine line_call (by rfl) (fun v9 h9 => ?_) (fun v9 h9 => k1'.out v9) ?_; (focus (obtain ⟨s1, s2, s3⟩ := hS.out v9 h9; go_simp; done)); (try simp only [Act.put, List.setIfInBounds_toArray, List.set_cons_zero, List.set_cons_succ])) | (refine line_call (by rfl) (fun v9 h9 => ?_) (fun v9 h9 => k2'.out v9) ?_; (focus (obtain ⟨s1, s2, s3⟩ := hS.out v9 h9; go_simp; done)); (try simp only [Act.put, List.setIfInBounds_toArray, List.set_cons_zero, List.set_cons_succ])))))
              refine line_done ?_
              have hgV : Grow wr wr.drew := (Below.refl wr.heap.size wr).drew
              change Soon _ _ _ _ _ _ _ wr.drew
              refine soon_step (by rfl) (fun w1 h1 K9 hK9 => ?_)
              have g1 := Grow.trans _ _ _ hgV h1
              go_simp
              refine hK9.out _ _ ((Below.refl _ _).alloc (Nat.le_refl _) _) ?_
              clear hK9 K9
              (try simp only [Act.put, List.setIfInBounds_toArray, List.set_cons_zero, List.set_cons_succ])
              have hl1 := blk_new w1 (.cells #[.int .i64 0, .int .i64 0, .int .i64 2, .int .i64 3] 3)
              have g1a : Grow wr (w1.alloc (.cells #[.int .i64 0, .int .i64 0, .int .i64 2, .int .i64 3] 3)) := Grow.trans _ _ _ g1 ((Below.refl _ _).alloc (Nat.le_refl _) _)
              generalize w1.heap.size = lb at *
              refine soon_step (by rfl) (fun w2 h2 K9 hK9 => ?_)
              go_simp
              refine hK9.out _ _ (Grow.refl _) ?_
              clear hK9 K9
              (try simp only [Act.put, List.setIfInBounds_toArray, List.set_cons_zero, List.set_cons_succ])
              refine soon_step (by rfl) (fun w3 h3 K9 hK9 => ?_)
              have hl3 := blk_below (blk_below hl1 h2) h3
              have hc3 := (blk_cell hl3 k4 _ hfa).1
              have g3 := Grow.trans _ _ _ (Grow.trans _ _ _ g1a h2) h3
              go_simp
              refine hK9.out _ _ (Grow.refl _) ?_
              clear hK9 K9 hc3 hl3 hl1
              (try simp only [Act.put, List.setIfInBounds_toArray, List.set_cons_zero, List.set_cons_succ])
              refine soon_step (by rfl) (fun w4 h4 K9 hK9 => ?_)
              have g4 := Grow.trans _ _ _ g3 h4
              clear g3 g1a g1 h1 h2 h3 h4
              go_simp
              refine (kf.out _ g4).mono ?_
              rintro e w5 ⟨⟨qA, qc, qI, qd, qX, qe, qY, qg⟩, rfl, hrf, hb5, hpo, hio⟩
              rw [flC_file]
              simp only []
              have hX5 := Lib.hid (show FileOwn w5 (⟨qA, qc, qI, qd, qX, qe, qY, qg⟩, Sp.fileF f n1 n2 ns) from ⟨⟨hrf, by rw [← hFe.out]; exact hFok.out.1, by rw [← hFe.out]; exact hFok.out.2⟩, own_lower hpo (Nat.zero_le _), own_lower hio (Nat.zero_le _), rfl, rfl⟩)
              clear hrf hpo hio
              refine hK9.out _ _ hb5 ?_
              clear hK9 K9
              (try simp only [Act.put, List.setIfInBounds_toArray, List.set_cons_zero, List.set_cons_succ])
              have g5 := Grow.trans _ _ _ g4 hb5
              refine soon_step (by rfl) (fun w6 h6 K9 hK9 => ?_)
              have g6 := Grow.trans _ _ _ g5 h6
              go_simp
              refine hK9.out _ _ ((Below.refl _ _).alloc (Nat.le_refl _) _) ?_
              clear hK9 K9
              (try simp only [Act.put, List.setIfInBounds_toArray, List.set_cons_zero, List.set_cons_succ])
              refine soon_nil (fun w7 h7 => ?_)
              have hl7 := blk_below (blk_new w6 (.cells #[.slice qA (4 + 2 * ns.length) qc, .int .i64 f, .int .i64 2, .int .i64 4, .slice qI ns.length qd, .slice qX 0 qe, .slice qY 0 qg] 63)) h7
              have h57 : Grow w5 w7 := Grow.trans _ _ _ h6 (Grow.trans _ _ _ ((Below.refl _ _).alloc (Nat.le_refl _) _) h7)
              have g7 : Grow wr w7 := Grow.trans _ _ _ g5 h57
              have hX7 := hX5.out.later h57
              have hA7 : ∀ x ∈ acc, FileOwn w7 x := fun x hx => (hFIr.out x hx).later g7
              have hOw7 := (Keeps.of_below (S := fun _ => False) g7).row hOr.out (fun k q1 q2 => q2)
              have hb7 : Below w.heap.size w w7 := below_then hbV hbV.size g7
              have hr7 := rdL_one (⟨qA, qc, qI, qd, qX, qe, qY, qg⟩, Sp.fileF f n1 n2 ns) (by rw [flC_file]; exact hl7)
              generalize w6.heap.size = fb at *
              obtain ⟨A3, c3, w8, hra, hO8, hk8⟩ := app_fl2 (ty := 31) w7 w.heap.size A' c' acc (⟨qA, qc, qI, qd, qX, qe, qY, qg⟩, Sp.fileF f n1 n2 ns) (some ⟨fb, 0, none⟩) 1 hOw7 hr7 (by omega) (by have := hb7.size; omega)
              have hX8 := Lib.hid (fun x (hx : x ∈ acc ++ [((⟨qA, qc, qI, qd, qX, qe, qY, qg⟩ : Sp.At), Sp.fileF f n1 n2 ns)]) => show FileOwn w8 x from by
                rcases List.mem_append.1 hx with q | q
                · exact (hA7 x q).app hOw7 hk8
                · obtain rfl := List.mem_singleton.1 q
                  exact hX7.app hOw7 hk8)
              have hB8 := Lib.hid (Keeps.own_below (w0 := w) hOw7 hk8 hb7)
              have hm8 : (acc ++ [((⟨qA, qc, qI, qd, qX, qe, qY, qg⟩ : Sp.At), Sp.fileF f n1 n2 ns)]).map (·.2) = acc.map (·.2) ++ [FF] := by rw [hFe.out]; simp
              have hm8 := Lib.hid hm8
              have hl8 : (acc ++ [((⟨qA, qc, qI, qd, qX, qe, qY, qg⟩ : Sp.At), Sp.fileF f n1 n2 ns)]).length = acc.length + 1 := by simp
              generalize acc ++ [((⟨qA, qc, qI, qd, qX, qe, qY, qg⟩ : Sp.At), Sp.fileF f n1 n2 ns)] = acc2 at *
              rw [hl8] at hra
              have hra2 := Lib.hid hra
              have hO8 := Lib.hid hO8
              have hlz : acc2.length ≤ l.length := by omega
              have hlz2 : acc2.length ≤ 70 := by omega
              have hmz : l.length - acc2.length < l.length - acc.length := by omega
              have hl8' := Lib.hid hl8
              clear hra hk8 hl7 hX7 hA7 hOw7 hr7 hl8 hX5 h57 g7 h7 h6 g6 g5 g4 hb5 hbV e0 e1 e2 hRn hfa
              refine wpList_app _ rfl _ _ _ _ rfl _ _ rfl rfl (.slice A3 (acc.length + 1) c3) w8 hra2.out ?_
              intro v2 w2' hqq
              obtain ⟨rfl, rfl⟩ := hqq.out
              clear hqq hra2
              go_wp2
              go_roundw
              case rel => exact ⟨acc2, A3, c3, by rw [hl8'.out]; go_num, by rw [hl8'.out], hlz, hlz2, Lib.hid (by rw [hl8'.out, hm8.out]; exact hnew.out), hO8, hX8, hB8⟩
              case measure => simp [RowKit.intOf] at hmz ⊢; omega
          · have hzi : ¬ (ns.length : Int) < (ifs.length : Int) := by omega
            have e3 := cell_below hc.out d3
            have hnsF := Lib.hid (show ns = (ifs.take 4).map Sp.nameR by
              have h1 := hns.out
              rw [List.take_of_length_le (show ifs.length ≤ ns.length by omega)] at h1
              rw [List.take_of_length_le (show ifs.length ≤ 4 by omega), ← h1])
            have hbwr := below_then hb.out hbz hc.out
            go_upto_region 10 with fail
            have e0 := cell_below hbwr d0w
            have e1 := cell_below hbwr d1w
            have e2 := cell_below hbwr d2w
            have hbV : Below w.heap.size w wr := hbwr
            have hRn := (own_rdL Sp.strC_len (by decide) hP.out).2.1
            obtain ⟨k4, hk4e⟩ : ∃ k : Nat, Sp.pickN fl 4 = k := ⟨(Sp.pickN fl 4).toNat, by have := Sp.pickN_in fl 4 (by decide); omega⟩
            have hk4l : k4 < 4 := by have := Sp.pickN_in fl 4 (by decide); omega
            have hk4z : (k4 : Int) < 4 := by omega
            have hk40 : (0 : Int) ≤ (k4 : Int) := by omega
            have kp := Lib.hid (fun V => pick6_any fl 4 V hfl (by decide) (by decide))
            rw [hk4e] at kp
            have k1 := Lib.hid (fun V => name6_any nm V hnm)
            have k2 := Lib.hid (fun V => name6_any su V hsu)
            have hfa := flag_at hk4e hk4l
            have hF64 := Sp.flagR_in fl
            have hFok := Lib.hid (Sp.fileR_ok ⟨fl, nm, su, ifs⟩)
            have hFe := Lib.hid (show Sp.fileR ⟨fl, nm, su, ifs⟩ = Sp.fileF (Sp.flagR fl) (Sp.nameR nm) (Sp.nameR su) ns by unfold Sp.fileR; rw [hnsF.out])
            have kf := Lib.hid (fun V' (hbV' : Below wr.heap.size wr V') => file6_any (Sp.flagR fl) (Sp.nameR nm) (Sp.nameR su) A2 c2 ns V' (rdL_below hRn hbV') (by omega))
            generalize Sp.flagR fl = f at *
            generalize Sp.nameR nm = n1 at *
            generalize Sp.nameR su = n2 at *
            generalize Sp.fileR ⟨fl, nm, su, ifs⟩ = FF at *
            have hOr := Lib.hid ((Keeps.of_below (S := fun _ => False) hc.out).row hO.out (fun k q1 q2 => q2))
            have hFIr := Lib.hid (fun x hx => (hFI.out x hx).later hc.out)
            have kp' : Hid (∀ V, Calls Tryz.prog 31 #[.int .i64 fl, .int .i64 4] V fun e w3 => e = .returned (.int .i64 (k4 : Int)) ∧ Grow V w3) := Lib.hid (fun V => (kp.out V).mono (fun e w3 q => ⟨q.1, by rw [q.2]; exact Grow.refl _⟩))
            have k1' : Hid (∀ V, Calls Tryz.prog 30 #[.int .i64 nm] V fun e w3 => e = .returned (.string n1) ∧ Grow V w3) := Lib.hid (fun V => (k1.out V).mono (fun e w3 q => ⟨q.1, by rw [q.2]; exact (Below.refl _ _).alloc (Nat.le_refl _) _⟩))
            have k2' : Hid (∀ V, Calls Tryz.prog 30 #[.int .i64 su] V fun e w3 => e = .returned (.string n2) ∧ Grow V w3) := Lib.hid (fun V => (k2.out V).mono (fun e w3 q => ⟨q.1, by rw [q.2]; exact (Below.refl _ _).alloc (Nat.le_refl _) _⟩))
            have hS := Lib.hid (fun V (hV : Grow wr.drew V) => show V.cell? ⟨b, o + acc.length * 4, none⟩ = some (.int .i64 fl) ∧ V.cell? ⟨b, o + acc.length * 4 + 1, none⟩ = some (.int .i64 nm) ∧ V.cell? ⟨b, o + acc.length * 4 + 2, none⟩ = some (.int .i64 su) from ⟨cell_below (w := wr.drew) hV e0, cell_below (w := wr.drew) hV e1, cell_below (w := wr.drew) hV e2⟩)
            clear hk4e e3 kp k1 k2
            refine wp_region_calm Grow [0, 2, 3, 4, 5, 6, 7, 10, 11, 12, 13, 14, 15, 16, 17, 18, 19, 20, 21, 22] [1, 8, 9, 23, 24] [25, 26] [[], [4, 5, 6, 7, 15, 23], [4, 5, 6, 7, 15, 23], [5, 6, 7, 15, 23], [6, 7, 15, 23], [7, 15, 23], [15, 23], [12, 13, 14, 15, 23], [12, 13, 14, 15, 23], [13, 14, 15, 23], [14, 15, 23], [15, 23], [23], [18, 19, 20, 21, 23], [18, 19, 20, 21, 23], [19, 20, 21, 23], [20, 21, 23], [21, 23], [23], [23]] (by kernel_rfl) (by kernel_rfl) Grow.refl Grow.trans (fun c a d v w h => by cases d <;> exact h) ?_
            change Line _ _ _ wr.drew _ _ _
            ((simp only [pickOps, List.filterMap_cons, List.filterMap_nil, List.getElem?_cons_succ, List.getElem?_cons_zero]); (repeat (first | (refine line_not (by rfl) ?_; (try simp only [Act.put, List.setIfInBounds_toArray, List.set_cons_zero, List.set_cons_succ])) | (refine line_val (v := ?_) Grow.refl (by rfl) (fun v9 h9 => ?_) ?_; rotate_left; (focus (obtain ⟨s1, s2, s3⟩ := hS.out v9 h9; go_simp; (first | done | with_reducible rfl))); (try simp only [Act.put, List.setIfInBounds_toArray, List.set_cons_zero, List.set_cons_succ])) | (refine line_call (by rfl) (fun v9 h9 => ?_) (fun v9 h9 => kp'.out v9) ?_; (focus (obtain ⟨s1, s2, s3⟩ := hS.out v9 h9; go_simp; done)); (try simp only [Act.put, List.setIfInBounds_toArray, List.set_cons_zero, List.set_cons_succ])) | (refine line_call (by rfl) (fun v9 h9 => ?_) (fun v9 h9 => k1'.out v9) ?_; (focus (obtain ⟨s1, s2, s3⟩ := hS.out v9 h9; go_simp; done)); (try simp only [Act.put, List.setIfInBounds_toArray, List.set_cons_zero, List.set_cons_succ])) | (refine line_call (by rfl) (fun v9 h9 => ?_) (fun v9 h9 => k2'.out v9) ?_; (focus (obtain ⟨s1, s2, s3⟩ := hS.out v9 h9; go_simp; done)); (try simp only [Act.put, List.setIfInBounds_toArray, List.set_cons_zero, List.set_cons_succ])))))
            refine line_done ?_
            have hgV : Grow wr wr.drew := (Below.refl wr.heap.size wr).drew
            change Soon _ _ _ _ _ _ _ wr.drew
            refine soon_step (by rfl) (fun w1 h1 K9 hK9 => ?_)
            have g1 := Grow.trans _ _ _ hgV h1
            go_simp
            refine hK9.out _ _ ((Below.refl _ _).alloc (Nat.le_refl _) _) ?_
            clear hK9 K9
            (try simp only [Act.put, List.setIfInBounds_toArray, List.set_cons_zero, List.set_cons_succ])
            have hl1 := blk_new w1 (.cells #[.int .i64 0, .int .i64 0, .int .i64 2, .int .i64 3] 3)
            have g1a : Grow wr (w1.alloc (.cells #[.int .i64 0, .int .i64 0, .int .i64 2, .int .i64 3] 3)) := Grow.trans _ _ _ g1 ((Below.refl _ _).alloc (Nat.le_refl _) _)
            generalize w1.heap.size = lb at *
            refine soon_step (by rfl) (fun w2 h2 K9 hK9 => ?_)
            go_simp
            refine hK9.out _ _ (Grow.refl _) ?_
            clear hK9 K9
            (try simp only [Act.put, List.setIfInBounds_toArray, List.set_cons_zero, List.set_cons_succ])
            refine soon_step (by rfl) (fun w3 h3 K9 hK9 => ?_)
            have hl3 := blk_below (blk_below hl1 h2) h3
            have hc3 := (blk_cell hl3 k4 _ hfa).1
            have g3 := Grow.trans _ _ _ (Grow.trans _ _ _ g1a h2) h3
            go_simp
            refine hK9.out _ _ (Grow.refl _) ?_
            clear hK9 K9 hc3 hl3 hl1
            (try simp only [Act.put, List.setIfInBounds_toArray, List.set_cons_zero, List.set_cons_succ])
            refine soon_step (by rfl) (fun w4 h4 K9 hK9 => ?_)
            have g4 := Grow.trans _ _ _ g3 h4
            clear g3 g1a g1 h1 h2 h3 h4
            go_simp
            refine (kf.out _ g4).mono ?_
            rintro e w5 ⟨⟨qA, qc, qI, qd, qX, qe, qY, qg⟩, rfl, hrf, hb5, hpo, hio⟩
            rw [flC_file]
            simp only []
            have hX5 := Lib.hid (show FileOwn w5 (⟨qA, qc, qI, qd, qX, qe, qY, qg⟩, Sp.fileF f n1 n2 ns) from ⟨⟨hrf, by rw [← hFe.out]; exact hFok.out.1, by rw [← hFe.out]; exact hFok.out.2⟩, own_lower hpo (Nat.zero_le _), own_lower hio (Nat.zero_le _), rfl, rfl⟩)
            clear hrf hpo hio
            refine hK9.out _ _ hb5 ?_
            clear hK9 K9
            (try simp only [Act.put, List.setIfInBounds_toArray, List.set_cons_zero, List.set_cons_succ])
            have g5 := Grow.trans _ _ _ g4 hb5
            refine soon_step (by rfl) (fun w6 h6 K9 hK9 => ?_)
            have g6 := Grow.trans _ _ _ g5 h6
            go_simp
            refine hK9.out _ _ ((Below.refl _ _).alloc (Nat.le_refl _) _) ?_
            clear hK9 K9
            (try simp only [Act.put, List.setIfInBounds_toArray, List.set_cons_zero, List.set_cons_succ])
            refine soon_nil (fun w7 h7 => ?_)
            have hl7 := blk_below (blk_new w6 (.cells #[.slice qA (4 + 2 * ns.length) qc, .int .i64 f, .int .i64 2, .int .i64 4, .slice qI ns.length qd, .slice qX 0 qe, .slice qY 0 qg] 63)) h7
            have h57 : Grow w5 w7 := Grow.trans _ _ _ h6 (Grow.trans _ _ _ ((Below.refl _ _).alloc (Nat.le_refl _) _) h7)
            have g7 : Grow wr w7 := Grow.trans _ _ _ g5 h57
            have hX7 := hX5.out.later h57
            have hA7 : ∀ x ∈ acc, FileOwn w7 x := fun x hx => (hFIr.out x hx).later g7
            have hOw7 := (Keeps.of_below (S := fun _ => False) g7).row hOr.out (fun k q1 q2 => q2)
            have hb7 : Below w.heap.size w w7 := below_then hbV hbV.size g7
            have hr7 := rdL_one (⟨qA, qc, qI, qd, qX, qe, qY, qg⟩, Sp.fileF f n1 n2 ns) (by rw [flC_file]; exact hl7)
            generalize w6.heap.size = fb at *
            obtain ⟨A3, c3, w8, hra, hO8, hk8⟩ := app_fl2 (ty := 31) w7 w.heap.size A' c' acc (⟨qA, qc, qI, qd, qX, qe, qY, qg⟩, Sp.fileF f n1 n2 ns) (some ⟨fb, 0, none⟩) 1 hOw7 hr7 (by omega) (by have := hb7.size; omega)
            have hX8 := Lib.hid (fun x (hx : x ∈ acc ++ [((⟨qA, qc, qI, qd, qX, qe, qY, qg⟩ : Sp.At), Sp.fileF f n1 n2 ns)]) => show FileOwn w8 x from by
              rcases List.mem_append.1 hx with q | q
              · exact (hA7 x q).app hOw7 hk8
              · obtain rfl := List.mem_singleton.1 q
                exact hX7.app hOw7 hk8)
            have hB8 := Lib.hid (Keeps.own_below (w0 := w) hOw7 hk8 hb7)
            have hm8 : (acc ++ [((⟨qA, qc, qI, qd, qX, qe, qY, qg⟩ : Sp.At), Sp.fileF f n1 n2 ns)]).map (·.2) = acc.map (·.2) ++ [FF] := by rw [hFe.out]; simp
            have hm8 := Lib.hid hm8
            have hl8 : (acc ++ [((⟨qA, qc, qI, qd, qX, qe, qY, qg⟩ : Sp.At), Sp.fileF f n1 n2 ns)]).length = acc.length + 1 := by simp
            generalize acc ++ [((⟨qA, qc, qI, qd, qX, qe, qY, qg⟩ : Sp.At), Sp.fileF f n1 n2 ns)] = acc2 at *
            rw [hl8] at hra
            have hra2 := Lib.hid hra
            have hO8 := Lib.hid hO8
            have hlz : acc2.length ≤ l.length := by omega
            have hlz2 : acc2.length ≤ 70 := by omega
            have hmz : l.length - acc2.length < l.length - acc.length := by omega
            have hl8' := Lib.hid hl8
            clear hra hk8 hl7 hX7 hA7 hOw7 hr7 hl8 hX5 h57 g7 h7 h6 g6 g5 g4 hb5 hbV e0 e1 e2 hRn hfa
            refine wpList_app _ rfl _ _ _ _ rfl _ _ rfl rfl (.slice A3 (acc.length + 1) c3) w8 hra2.out ?_
            intro v2 w2' hqq
            obtain ⟨rfl, rfl⟩ := hqq.out
            clear hqq hra2
            go_wp2
            go_roundw
            case rel => exact ⟨acc2, A3, c3, by rw [hl8'.out]; go_num, by rw [hl8'.out], hlz, hlz2, Lib.hid (by rw [hl8'.out, hm8.out]; exact hnew.out), hO8, hX8, hB8⟩
            case measure => simp [RowKit.intOf] at hmz ⊢; omega
      · have hz70 : ¬ (acc.length : Int) < 70 := by omega
        have hzl : (acc.length : Int) < (l.length : Int) := by omega
        have hfin : acc.map (·.2) = RS := by
          rw [← hRS.out]
          unfold Sp.filesF
          rw [← List.map_take, List.map_map, show (70 : Nat) = acc.length by omega]
          exact hacc.out
        have hfin := Lib.hid hfin
        have hO := hO
        clear hacc
        go_wp2
        go_ret
        exact ⟨A', c', acc, rfl, ⟨hfin.out, hO.out, by first | exact fun x hx => (hFI.out x hx).inn | exact fun a b hx => (hFI.out (a, b) hx).inn⟩, hb.out⟩
    · have hzl : ¬ (acc.length : Int) < (l.length : Int) := by omega
      have hfin : acc.map (·.2) = RS := by
        rw [← hRS.out]
        unfold Sp.filesF
        have h1 := hacc.out
        rw [List.take_of_length_le (show l.length ≤ acc.length by omega)] at h1
        rw [List.take_of_length_le (by rw [List.length_map]; omega), List.map_map, h1]
        rfl
      have hfin := Lib.hid hfin
      clear hacc
      go_wp2
      go_ret
      exact ⟨A', c', acc, rfl, ⟨hfin.out, hO.out, by first | exact fun x hx => (hFI.out x hx).inn | exact fun a b hx => (hFI.out (a, b) hx).inn⟩, hb.out⟩
end Go.Proofs.YtfjplmbknegidaaGreatDoor
end
section
/-
  What a walk is told of raw classes that came in.
-/
set_option linter.unusedVariables false
set_option linter.unusedSimpArgs false
set_option maxRecDepth 100000
namespace Go.Proofs.YtfjplmbknegidaaGreatDoor
open Go.ChangeShapes Go.WideShapes Go.RowKit Go.Lib Go.Deep
section
variable {H : Type} {enc : TypeId × Value → H} {W : World} {base : Nat} {sp : Nat → Bool} {held : Bool}
theorem raw_open {fuel : Nat} {cs : List Value} {x : DataW H × List MemPlace} (h : DataW.trod enc Tryz.prog W base sp held fuel 67 cs = some x) :
    ∃ r : Sp.RwP, cs = Sp.rwC r ∧ RwIn W r ∧ 0 ≤ Rows.uptoBulk x.1 := by
  obtain ⟨xs, n, hn, hx, hl, hlen, hf⟩ := DataW.trod_struct Tryz.underlying67 h
  have hC : Tryz.prog.cellsOf 67 = 4 := by kernel_rfl
  have h3 : Tryz.prog.cellsOf 3 = 1 := by kernel_rfl
  have hs : Tryz.prog.cellsOf 23 = 1 := by kernel_rfl
  rw [hC] at hl
  match cs, hl with
  | [c0, c1, c2, c3], _ =>
    match xs, hlen with
    | [x0, x1, x2, x3], _ =>
      have f0 : DataW.trod enc Tryz.prog W base sp held n 3 [c0] = some x0 := by simpa [h3] using hf 0 _ rfl
      have f1 : DataW.trod enc Tryz.prog W base sp held n 3 [c1] = some x1 := by simpa [h3] using hf 1 _ rfl
      have f2 : DataW.trod enc Tryz.prog W base sp held n 3 [c2] = some x2 := by simpa [h3] using hf 2 _ rfl
      have f3 : DataW.trod enc Tryz.prog W base sp held n 23 [c3] = some x3 := by simpa [h3, hs] using hf 3 _ rfl
      clear hf h
      obtain ⟨n0, a1, a2, a3⟩ := DataW.trod_int Tryz.underlying3 f0
      obtain ⟨n1, b1, b2, b3⟩ := DataW.trod_int Tryz.underlying3 f1
      obtain ⟨n2, d1, d2, d3⟩ := DataW.trod_int Tryz.underlying3 f2
      obtain ⟨A, c, l, e1, e2, e3⟩ := ints_cells f3
      refine ⟨(⟨n0, n1, n2, l⟩, A, c), ?_, ⟨e2, (Lit.wf_int_iff _ _).1 a3, (Lit.wf_int_iff _ _).1 b3, (Lit.wf_int_iff _ _).1 d3, e3⟩, Nat.zero_le _⟩
      simp only [List.cons.injEq, and_true] at a1 b1 d1 e1
      rw [a1, b1, d1, e1]
      rfl
theorem raws_cells {fuel : Nat} {cs : List Value} {x : DataW H × List MemPlace} (h : DataW.trod enc Tryz.prog W base sp held fuel 22 cs = some x) :
    ∃ (A : Option Addr) (c : Nat) (l : List Sp.RwP), cs = [.slice A l.length c] ∧ RdL Sp.rwC W A l ∧ (∀ a ∈ l, RwIn W a) ∧ sumL (l.map fun _ => 0) ≤ Rows.uptoBulk x.1 ∧ (l.length ≤ c ∧ (A = none → c = 0)) :=
  sl_cells (E := Sp.rwC) (Q := fun r => RwIn W r) (m := fun _ => 0) (n := 4) Sp.rwC_len (by decide) ((⟨0, 0, 0, []⟩, none, 0) : Sp.RwP) Tryz.underlying22 (by kernel_rfl) (fun hx => raw_open hx) h
end
end Go.Proofs.YtfjplmbknegidaaGreatDoor
end
section
/-
  Walk of chapter 6's New; what a made table is to its users.
-/
set_option linter.unusedVariables false
set_option linter.unusedSimpArgs false
namespace Go.Proofs.YtfjplmbknegidaaGreatDoor
open Go.RowKit Go.Lib Go.Maps

theorem HMk.lower {w : World} {B B' tb mb : Nat} {A : Option Addr} {c : Nat} {L : List Sp.ClP} (h : HMk w B tb mb A c L) (hB : B' ≤ B) : HMk w B' tb mb A c L :=
  ⟨h.box, own_lower h.names hB, h.mp, h.cls, Nat.le_trans hB h.tbB, Nat.le_trans hB h.mbB, h.sep⟩
theorem Sp.OpenP.lower {B B' : Nat} {R : Option (List Sp.Cl) × Int × Nat} {e : Ending} {w' : World} (h : Sp.OpenP B R e w') (hB : B' ≤ B) : Sp.OpenP B' R e w' := by
  rcases h with h | ⟨tb, mb, A, c, L, h1, h2, h3⟩
  · exact .inl h
  · exact .inr ⟨tb, mb, A, c, L, h1, h2, h3.lower hB⟩
theorem Sp.built_names : Sp.builtP.map (·.1.name) = Sp.builtC.map (·.name) := by unfold Sp.builtC; rw [List.map_map]; rfl

set_option maxHeartbeats 4000000 in
set_option maxRecDepth 100000 in
theorem hNew_any (w : World) (fA : Option Addr) (fc : Nat) (fs : List (Sp.At × FlP)) (hf : RdL Sp.flE w fA fs) (hF : ∀ x ∈ fs, FileIn w x) (hTb : Tabs w) :
    Calls Tryz.prog 10 #[.slice fA fs.length fc] w fun e w' => Below w.heap.size w w' ∧ Sp.OpenP w.heap.size (Sp.openS Sp.builtC (Sp.rcF (fs.map (·.2)) 0)) e w' := by
  obtain ⟨R, hRR⟩ : ∃ R, Sp.openS Sp.builtC (Sp.rcF (fs.map (·.2)) 0) = R := ⟨_, rfl⟩
  rw [hRR]
  have hRR := Lib.hid hRR
  have H1 := Lib.hid hf
  have H2 := Lib.hid hF
  have H3 := Lib.hid hTb
  have kb := Lib.hid (built_any w)
  have hR := Lib.hid (Sp.rcF_rc fs 0)
  clear hf hF hTb
  go_enter Tryz.func10, Tryz.ntmps10
  go_wp2_with fail
  refine kb.out.mono ?_
  rintro e w2 ⟨tb, mb, A, c, rfl, hM, hb⟩
  have hz := hb.size
  have ko := Lib.hid (open_any w2 tb mb A c Sp.builtP fA fc fs (hM.tab (by decide)) (by rw [Sp.built_names]; exact Sp.built_tb.nodup) (by decide) (rdL_below H1.out hb) (fun x hx => (H2.out x hx).below hb) (H3.out.below hb))
  rw [hR.out] at ko
  have he : Sp.builtP.map (·.1) = Sp.builtC := rfl
  rw [he, hRR.out] at ko
  clear he hR kb hRR
  have hb := Lib.hid hb
  have hM := Lib.hid hM
  go_wp2_with fail
  refine ko.out.mono ?_
  rintro e w3 ⟨hb3, hP⟩
  have hB := Lib.hid (below_then hb.out hz hb3)
  have hP := hP.lower hz
  rcases hP with ⟨h1, rfl⟩ | ⟨tb2, mb2, A2, c2, L2, h1, rfl, h2⟩
  · have h1 := Lib.hid h1
    go_wp2
    first | go_ret3 | go_ret
    exact ⟨hB.out, .inl ⟨h1.out, rfl⟩⟩
  · have h1 := Lib.hid h1
    have h2 := Lib.hid h2
    go_wp2
    first | go_ret3 | go_ret
    exact ⟨hB.out, .inr ⟨_, _, _, _, _, h1.out, rfl, h2.out⟩⟩
end Go.Proofs.YtfjplmbknegidaaGreatDoor
end
