/-
  Texts of the proof, joined: each says at its head what it proves.
-/
import Derived.Test.YthpfknlgfkecpaaDoorJg18
import Derived.Test.YthpfknlgfkecpaaDoorJg11
import Derived.Test.YthpfknlgfkecpaaDoorJFileNamesx3
import Derived.Test.YthpfknlgfkecpaaDoorJg28
import Derived.Test.YthpfknlgfkecpaaDoorJg26
import Derived.Deep.RegionHeld3
import Derived.Deep.RegionWith
section
/-
  Walk of FileTurns.
-/
set_option linter.unusedVariables false
set_option linter.unusedSimpArgs false
namespace Go.Proofs.YthpfknlgfkecpaaDoor
open Go.RowKit Go.Lib

/-- A block of bytes that a conversion laid: its first cells. -/
def BytesAt (w : World) (b : Nat) (l : List Int) : Prop := ∃ C fr, w.heap[b]? = some (.cells C 5 (fr, fr + 1)) ∧ l.length ≤ fr ∧ ∀ j, j < l.length → C[j]? = some (.int .u8 (l.getD j 0))
theorem bytesAt_new (w : World) (s : ByteArray) : BytesAt (bytesWorld w 5 s) w.heap.size (Sp.nums s) := by
  refine ⟨_, _, bytesWorld_at_new w 5 s, ?_, fun j hj => ?_⟩
  · rw [nums_length]
    simp [bytesCells, Array.size_append]
  · rw [nums_length] at hj
    have h1 := bytesWorld_cell w 5 s j hj
    rw [cell_of_heap (bytesWorld_at_new w 5 s) j] at h1
    rw [h1, Sp.nums_nth s j hj]
theorem BytesAt.cell {w : World} {b : Nat} {l : List Int} (h : BytesAt w b l) (j : Nat) (hj : j < l.length) : w.cell? ⟨b, j, none⟩ = some (.int .u8 (l.getD j 0)) := by
  obtain ⟨C, fr, h1, h2, h3⟩ := h
  exact (cell_of_heap h1 j).trans (h3 j hj)
theorem BytesAt.frozen {w : World} {b : Nat} {l : List Int} (h : BytesAt w b l) (j : Nat) (hj : j < l.length) : w.frozen? ⟨b, j, none⟩ = false := by
  obtain ⟨C, fr, h1, h2, h3⟩ := h
  simp only [World.frozen?, h1]
  simp
  omega
theorem BytesAt.lt {w : World} {b : Nat} {l : List Int} (h : BytesAt w b l) : b < w.heap.size := by
  obtain ⟨C, fr, h1, h2, h3⟩ := h
  exact blk_lt h1
theorem BytesAt.set {w : World} {b : Nat} {l : List Int} (h : BytesAt w b l) (k : Nat) (hk : k < l.length) (v : Int) : BytesAt (w.setCell ⟨b, k, none⟩ (.int .u8 v)) b (l.set k v) := by
  obtain ⟨C, fr, h1, h2, h3⟩ := h
  have hCk := h3 k hk
  have hkC : k < C.size := by
    obtain ⟨q, _⟩ := Array.getElem?_eq_some_iff.1 hCk
    exact q
  refine ⟨_, _, blk_set (i := k) h1 _, by rw [List.length_set]; exact h2, fun j hj => ?_⟩
  rw [List.length_set] at hj
  rw [Array.getElem?_setIfInBounds]
  by_cases hjk : k = j
  · subst hjk
    rw [if_pos rfl, if_pos hkC, List.getD_eq_getElem?_getD, List.getElem?_set_self hk]
    rfl
  · rw [if_neg hjk, h3 j hj, List.getD_eq_getElem?_getD, List.getD_eq_getElem?_getD, List.getElem?_set_ne hjk]
theorem BytesAt.below {w w' : World} {b : Nat} {l : List Int} (h : BytesAt w b l) (hb : Below w.heap.size w w') : BytesAt w' b l := by
  obtain ⟨C, fr, h1, h2, h3⟩ := h
  exact ⟨C, fr, blk_below h1 hb, h2, h3⟩
theorem BytesAt.alloc {w : World} {b : Nat} {l : List Int} (h : BytesAt w b l) (o : Obj) : BytesAt (w.alloc o) b l := by
  obtain ⟨C, fr, h1, h2, h3⟩ := h
  exact ⟨C, fr, blk_old h1, h2, h3⟩
theorem BytesAt.conv {w : World} {b : Nat} {l : List Int} (h : BytesAt w b l) (n cap : Nat) (hn : l.length = n) : (convert 74 9 (.slice (some ⟨b, 0, none⟩) n cap)).run Tryd.prog w = .ok (.string (Go.strOfNums l)) w :=
  run_convert_bytes_arg w 74 5 Tryd.underlying74 Tryd.underlying5 b 0 n cap l hn (fun i hi => by rw [Nat.zero_add]; exact h.cell i (by omega)) 9 Tryd.underlying9

set_option maxHeartbeats 8000000 in
set_option maxRecDepth 100000 in
theorem fileTurns_any (q : Sp.At) (F : FlP) (at_ by_ : Int) (w : World) (hr : RdF w q F) (hF : FlOk F) (hT : Tabs w) (hN : Sp.textN F.pool + Sp.codeN (F.methods.map (·.1)) + Sp.codeN (F.fields.map (·.1)) ≤ 4611686018427387904) (hat : In64 at_) (hy0 : 0 ≤ by_) (hy1 : by_ ≤ 255) :
    Calls Tryd.prog 15 #[.agg (flC q F), .int .i64 at_, .int .u8 by_] w fun e w' => e = .returned (.bool true) ∧ Below w.heap.size w w' := by
  have hK := Lib.hid (blk_new w (.cells (flC q F) 53))
  have hB := (Below.refl w.heap.size w).alloc (Nat.le_refl _) (.cells (flC q F) 53)
  have KS : ∀ X : Array Value, X = flC q F →
      Hid (∀ W, Below w.heap.size w W → Calls Tryd.prog 33 #[.agg X] W fun e w' => e = .returned (.bool (Sp.smallS F.fl)) ∧ Below W.heap.size W w') ∧
      Hid (∀ W, Below w.heap.size w W → Calls Tryd.prog 34 #[.agg X] W fun e w' => e = .returned (.tuple #[.string (Sp.encodeF F.fl).1, .int .i64 (Sp.encodeF F.fl).2]) ∧ Below W.heap.size W w') ∧
      Hid (∀ q' G, ∀ W, Below w.heap.size w W → RdF W q' G → Calls Tryd.prog 46 #[.agg X, .agg (flC q' G)] W fun e w' => e = .returned (.bool (Sp.sameF F.fl G.fl)) ∧ Below W.heap.size W w') := by
    rintro X rfl
    exact ⟨Lib.hid (fun W hb => small_any q F W (rdF_below hr hb) hN), Lib.hid (fun W hb => fileEncA_any q F W (rdF_below hr hb) hF (hT.below hb)), Lib.hid (fun q' G W hb hrG => sameFile_any q q' F G W (rdF_below hr hb) hrG)⟩
  have hsh := Lib.hid (fun W (hb : Below w.heap.size w W) => fileShown_any W (hT.below hb))
  have kpa := Lib.hid (fun (s : ByteArray) (W : World) (hb : Below w.heap.size w W) (hs : s.size ≤ 1099511627776) => fparse_any s W (hT.below hb) hs)
  have keg := Lib.hid (fun q' G W (hb : Below w.heap.size w W) (hrG : RdF W q' G) (hG : FlOk G) => fileEncA_any q' G W hrG hG (hT.below hb))
  clear hr hF hT hN
  have hpos := Lib.hid (fun h => (by
    obtain ⟨_, _, hz⟩ := Sp.encode_ok (F := F.fl) h
    rw [hz, Sp.bytes_body, List.length_append]
    simp
    omega : 0 < (Sp.encodeF F.fl).1.size))
  have hdiff := Lib.hid (fun (G : Sp.Fl) (s : ByteArray) (hG : Sp.encodeF G = (s, 0)) (hs : (Sp.encodeF F.fl).1 ≠ s) => Sp.sameF_false (F := F.fl) (G := G) (fun e => hs (by rw [e, hG])))
  obtain ⟨pool, fl, th, su, ifs, flds, mths⟩ := F
  obtain ⟨qA, qc, qI, qd, qX, qe, qY, qg⟩ := q
  obtain ⟨ks, ke, kq⟩ := KS #[.slice qA pool.length qc, .int .i64 fl, .int .i64 th, .int .i64 su, .slice qI ifs.length qd, .slice qX flds.length qe, .slice qY mths.length qg] rfl
  clear KS
  have hfl : flC ⟨qA, qc, qI, qd, qX, qe, qY, qg⟩ ⟨pool, fl, th, su, ifs, flds, mths⟩ = #[.slice qA pool.length qc, .int .i64 fl, .int .i64 th, .int .i64 su, .slice qI ifs.length qd, .slice qX flds.length qe, .slice qY mths.length qg] := rfl
  rw [hfl] at hK hB ⊢
  clear hfl
  generalize hFl : FlP.fl ⟨pool, fl, th, su, ifs, flds, mths⟩ = FL at *
  clear hFl
  generalize Sp.smallS FL = sm at *
  generalize Sp.encodeF FL = EF at *
  obtain ⟨eb, er⟩ := EF
  simp only [] at ke hpos hdiff
  go_enter Tryd.func15, Tryd.ntmps15
  go_wp2_with fail
  refine (hsh.out _ hB).mono ?_
  rintro e w1 ⟨rfl, hb1⟩
  have B1 := below_then hB hB.size hb1
  have K1 := Lib.hid (blk_below hK.out hb1)
  have z1 := B1.size
  clear hB hK hb1 hsh
  obtain ⟨c0, c1, c2, c3, c4, c5, c6⟩ := cells7m K1.out
  go_wp2_with fail
  refine (ks.out _ B1).mono ?_
  rintro e w2 ⟨rfl, hb2⟩
  have B2 := below_then B1 z1 hb2
  have K2 := Lib.hid (blk_below K1.out hb2)
  have z2 := B2.size
  clear B1 K1 z1 hb2 ks c0 c1 c2 c3 c4 c5 c6
  obtain ⟨c0, c1, c2, c3, c4, c5, c6⟩ := cells7m K2.out
  go_wp2_with fail
  refine (ke.out _ B2).mono ?_
  rintro e w3 ⟨rfl, hb3⟩
  have B3 := below_then B2 z2 hb3
  have K3 := Lib.hid (blk_below K2.out hb3)
  have z3 := B3.size
  clear B2 K2 z2 hb3 ke c0 c1 c2 c3 c4 c5 c6
  cases sm with
  | false =>
    clear kpa keg kq hdiff hpos
    go_wp2
    go_ret
    exact ⟨rfl, B3⟩
  | true =>
    by_cases he : er = 0
    rotate_left
    · have hb0 : (er != 0) = true := by simp [he]
      clear kpa keg kq hdiff hpos
      go_wp2
      go_ret
      exact ⟨rfl, B3⟩
    subst he
    have h0 := hpos.out rfl
    clear hpos
    by_cases hsz : (4000 : Int) < (eb.size : Int)
    · clear kpa keg kq hdiff
      go_wp2
      go_ret
      exact ⟨rfl, B3⟩
    by_cases hby : by_ = 0
    · have hb0 : (by_ == 0) = true := by simp [hby]
      clear kpa keg kq hdiff
      go_wp2
      go_ret
      exact ⟨rfl, B3⟩
    have hb0 : (by_ == 0) = false := by simp [hby]
    have hs1 : eb.size ≤ 4000 := by omega
    have hd0 : (eb.size : Int) ≠ 0 := by omega
    go_upto_region 9 with fail
    have hm1 : at_.tmod (eb.size : Int) < (eb.size : Int) := Int.tmod_lt_of_pos _ (by omega)
    have hm2 : -(at_.tmod (eb.size : Int)) < (eb.size : Int) := by rw [← Int.neg_tmod]; exact Int.tmod_lt_of_pos _ (by omega)
    generalize at_.tmod (eb.size : Int) = m at *
    go_upto_if 49 with fail
    go_cut [11] (fun x11 wx => (∃ k : Nat, x11 = .int .i64 k ∧ k < eb.size) ∧ wx = w3)
    case first =>
      by_cases hneg : m < 0
      · obtain ⟨k, hk⟩ := Int.eq_ofNat_of_zero_le (show 0 ≤ -m by omega)
        go_wp2
        go_meet
        exact ⟨⟨k, by first | rw [hk] | (go_num; done) | simp [hk], by omega⟩, rfl⟩
      · obtain ⟨k, hk⟩ := Int.eq_ofNat_of_zero_le (show 0 ≤ m by omega)
        subst hk
        go_wp2
        go_meet
        exact ⟨⟨k, rfl, by omega⟩, rfl⟩
    case rest =>
      obtain ⟨⟨k, rfl, hk⟩, rfl⟩ := hcut
      have hcv := Lib.run_convert_string_bytes (P := Tryd.prog) wc 9 74 5 eb Tryd.underlying9 Tryd.underlying74 Tryd.underlying5
      have hA4 := Lib.hid (bytesAt_new wc eb)
      have hb4 : Below wc.heap.size wc (bytesWorld wc 5 eb) := below_conv wc _ eb (Nat.le_refl _)
      have B4 := Lib.hid (below_then B3 z3 hb4)
      have K4 := Lib.hid (blk_below K3.out hb4)
      clear hb4
      go_upto_region 12 with fail
      clear hcv
      generalize bytesWorld wc 5 eb = W4 at *
      generalize grownCap wc eb.size 0 5 = cap at *
      have hcw : w.heap.size < wc.heap.size := blk_lt K3.out
      generalize wc.heap.size = cb at *
      have hkl : k < (Sp.nums eb).length := by rw [nums_length]; exact hk
      have hc := hA4.out.cell k hkl
      have hf := hA4.out.frozen k hkl
      have hlb := hA4.out.lt
      have hki : (k : Int) < (eb.size : Int) := by omega
      have hk0 : (0 : Int) ≤ (k : Int) := by omega
      rw [Sp.nums_nth eb k hk] at hc
      have hx0 : 0 ≤ ((eb.data.toList.getD k 0).toNat : Int) := Int.natCast_nonneg _
      have hx1 : ((eb.data.toList.getD k 0).toNat : Int) ≤ 255 := by have := (eb.data.toList.getD k 0).toNat_lt; omega
      have hxx := Lib.hid (fun v h0 h1 hv => Sp.turn_ne eb k v h0 h1 hk hv)
      generalize ((eb.data.toList.getD k 0).toNat : Int) = x at *
      obtain ⟨hv0, hv1, hvx⟩ := Sp.xor_byte x by_ hx0 hx1 hy0 hy1 hby
      have hA5 := Lib.hid (hA4.out.set k hkl (Go.bits .xor .u8 x by_))
      have hne := Lib.hid (hxx.out (Go.bits .xor .u8 x by_) hv0 hv1 hvx)
      go_upto_region 13 with fail
      have hk5 := (Keeps.of_below (S := fun i => False) B4.out).setCell (a := ⟨cb, k, none⟩) (.inr (by omega)) (.int .u8 (Go.bits .xor .u8 x by_))
      have B5 := Lib.hid (hk5.below (Nat.le_refl _) (fun _ q => q.elim))
      have K5 := Lib.hid (blk_other K4.out ⟨cb, k, none⟩ (.int .u8 (Go.bits .xor .u8 x by_)) (by show w.heap.size ≠ cb; omega))
      clear hk5 hc hf hlb hA4 K3 K4 B4 hxx
      generalize Go.bits .xor .u8 x by_ = v at *
      generalize W4.setCell ⟨cb, k, none⟩ (.int .u8 v) = W5 at *
      have hA6 : Hid (BytesAt W5 cb (Sp.turnL eb k v)) := hA5
      clear hA5
      have hll := Sp.turn_len eb k v
      generalize Sp.turnL eb k v = L at *
      have hcvs : Hid (∀ W, BytesAt W cb L → (convert 74 9 (.slice (some ⟨cb, 0, none⟩) eb.size cap)).run Tryd.prog W = .ok (.string (Go.strOfNums L)) W) := Lib.hid (fun W h => h.conv eb.size cap hll)
      have hSz : (Go.strOfNums L).size ≤ 1099511627776 := by rw [Sp.size_nums]; omega
      generalize Go.strOfNums L = S at *
      have kP := Lib.hid (kpa.out S W5 B5.out hSz)
      have hag := Lib.hid (Sp.parse_again S)
      have hno := Lib.hid (Sp.parse_none S)
      have hok := Lib.hid (Sp.parse_ok S)
      generalize Sp.parseS S = PS at *
      obtain ⟨g, er'⟩ := PS
      simp only [] at kP hag hno hok
      have hcv5 := hcvs.out W5 hA6.out
      go_wp2_with fail
      refine kP.out.mono ?_
      rintro x w6 ⟨q', G, hG, rfl, hrG, hb6⟩
      subst hG
      clear hcv5 kP kpa
      have B6 := below_then B5.out B5.out.size hb6
      have K6 := Lib.hid (blk_below K5.out hb6)
      have A6 := Lib.hid (hA6.out.below hb6)
      have hGok := hok.out G rfl
      clear K5 B5 hA6 hb6 hok
      have ks2 := Lib.hid (kq.out q' G)
      have ke2 := Lib.hid (fun W hb hr => keg.out q' G W hb hr hGok)
      clear kq keg hGok
      obtain ⟨pool', fl', th', su', ifs', flds', mths'⟩ := G
      obtain ⟨rA, rc, rI, rd, rX, re, rY, rg⟩ := q'
      have hrG1 := Lib.hid hrG
      clear hrG
      have hfl : flC ⟨rA, rc, rI, rd, rX, re, rY, rg⟩ ⟨pool', fl', th', su', ifs', flds', mths'⟩ = #[.slice rA pool'.length rc, .int .i64 fl', .int .i64 th', .int .i64 su', .slice rI ifs'.length rd, .slice rX flds'.length re, .slice rY mths'.length rg] := rfl
      rw [hfl] at ks2 ke2 ⊢
      clear hfl
      have hG7 := Lib.hid (blk_new w6 (.cells #[.slice rA pool'.length rc, .int .i64 fl', .int .i64 th', .int .i64 su', .slice rI ifs'.length rd, .slice rX flds'.length re, .slice rY mths'.length rg] 53))
      have K7 := Lib.hid (blk_old (o := .cells #[.slice rA pool'.length rc, .int .i64 fl', .int .i64 th', .int .i64 su', .slice rI ifs'.length rd, .slice rX flds'.length re, .slice rY mths'.length rg] 53) K6.out)
      have A7 := Lib.hid (A6.out.alloc (.cells #[.slice rA pool'.length rc, .int .i64 fl', .int .i64 th', .int .i64 su', .slice rI ifs'.length rd, .slice rX flds'.length re, .slice rY mths'.length rg] 53))
      have hb7 := (Below.refl w6.heap.size w6).alloc (Nat.le_refl _) (.cells #[.slice rA pool'.length rc, .int .i64 fl', .int .i64 th', .int .i64 su', .slice rI ifs'.length rd, .slice rX flds'.length re, .slice rY mths'.length rg] 53)
      have B7 := Lib.hid (below_then B6 B6.size hb7)
      have hr7 := Lib.hid (rdF_below hrG1.out hb7)
      clear hb7 hrG1 B6 K6 A6
      go_upto_region 14 with fail
      generalize w6.alloc (.cells #[.slice rA pool'.length rc, .int .i64 fl', .int .i64 th', .int .i64 su', .slice rI ifs'.length rd, .slice rX flds'.length re, .slice rY mths'.length rg] 53) = W7 at *
      obtain ⟨c0, c1, c2, c3, c4, c5, c6⟩ := cells7m K7.out
      obtain ⟨d0, d1, d2, d3, d4, d5, d6⟩ := cells7m hG7.out
      have hlf := blk_lt hG7.out
      have hlk := blk_lt K7.out
      have k7 := Lib.hid (ks2.out W7 B7.out hr7.out)
      clear ks2
      have hdf := Lib.hid (fun h => hdiff.out (FlP.fl ⟨pool', fl', th', su', ifs', flds', mths'⟩) S h hne.out)
      clear hdiff
      generalize Sp.sameF FL (FlP.fl ⟨pool', fl', th', su', ifs', flds', mths'⟩) = R at *
      go_wp2_with fail
      refine k7.out.mono ?_
      rintro e w8 ⟨rfl, hb8⟩
      have B8 := Lib.hid (below_then B7.out B7.out.size hb8)
      have G8 := Lib.hid (blk_below hG7.out hb8)
      have A8 := Lib.hid (A7.out.below hb8)
      have r8 := Lib.hid (rdF_below hr7.out hb8)
      clear c0 c1 c2 c3 c4 c5 c6 d0 d1 d2 d3 d4 d5 d6 hlf hlk K7 hG7 B7 hr7 A7 hb8 k7
      obtain ⟨d0, d1, d2, d3, d4, d5, d6⟩ := cells7m G8.out
      have hlf := blk_lt G8.out
      by_cases he2 : er' = 0
      · subst he2
        have hE := hag.out rfl
        have hR := hdf.out hE
        subst hR
        have k9 := Lib.hid (ke2.out w8 B8.out r8.out)
        rw [hE] at k9
        simp only [] at k9
        clear hE hag hno hdf ke2 r8
        have tt : (S.toList == S.toList) = true := by simp
        go_wp2_with fail
        refine k9.out.mono ?_
        rintro e w9 ⟨rfl, hb9⟩
        have B9 := Lib.hid (below_then B8.out B8.out.size hb9)
        have hcv9 := hcvs.out w9 (A8.out.below hb9)
        clear d0 d1 d2 d3 d4 d5 d6 hlf hb9 k9 G8 A8 B8
        go_wp2
        go_ret
        exact ⟨rfl, B9.out⟩
      · have hz := hno.out he2
        have hp : pool' = [] := congrArg Sp.Fl.pool hz
        have ht : th' = 0 := congrArg Sp.Fl.this hz
        subst hp ht
        have hb2 : (er' != 0) = true := by simp [he2]
        clear hz hag hno hdf ke2 r8 A8 hcvs
        go_wp2
        go_ret
        exact ⟨rfl, B8.out⟩
theorem walkFileTurns (q : Sp.At) (F : FlP) (at_ by_ : Int) (w : World) (h : FlIn w q F) (h1 : -9223372036854775808 ≤ at_) (h2 : at_ ≤ 9223372036854775807) (h3 : 0 ≤ by_) (h4 : by_ ≤ 255) (hT : Tabs w) (hb : F.bulk ≤ 1048576) :
    Calls Tryd.prog 15 #[.agg (flC q F), .int .i64 at_, .int .u8 by_] w fun e w' => e = .returned (.bool true) ∧ Below w.heap.size w w' :=
  fileTurns_any q F at_ by_ w h.rd (h.ok hb) hT (FlP.sizes hb) ⟨h1, h2⟩ h3 h4
end Go.Proofs.YthpfknlgfkecpaaDoor
end
