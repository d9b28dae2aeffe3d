/-
  Walks of the reference's Encode and Make.
-/
import Derived.Test.YthpfknlgfkecpaaDoorMwRbytes
import Derived.Test.YthpfknlgfkecpaaDoorPl1
import Derived.Lib.AppendStr
set_option linter.unusedVariables false
set_option linter.unusedSimpArgs false
namespace Go.Proofs.YthpfknlgfkecpaaDoor
open Go.RowKit Go.Lib

theorem strCells_nums (l : List Int) (h : ∀ x ∈ l, 0 ≤ x ∧ x ≤ 255) : Lib.strCells (Go.strOfNums l) = numc l := by
  unfold Lib.strCells numc Go.strOfNums
  simp only [List.map_map]
  apply List.map_congr_left
  intro x hx
  have := h x hx
  simp only [Function.comp]
  have : x.toNat < 256 := by omega
  have e : (UInt8.ofNat x.toNat).toNat = x.toNat := by simp [UInt8.toNat_ofNat, Nat.mod_eq_of_lt this]
  rw [e]
  congr 1
  omega

theorem encZ_bytes (r : Int) (h0 : 0 ≤ r) (h1 : r ≤ 1114111) : ∀ x ∈ Sp.encZ r, 0 ≤ x ∧ x ≤ 255 := by
  intro x hx
  unfold Sp.encZ Sp.three at hx
  repeat' split at hx
  all_goals simp at hx
  all_goals omega

theorem runes_range (s : ByteArray) : ∀ r ∈ Sp.runes s, 0 ≤ r ∧ r ≤ 1114111 := Sp.rl_max s _ _

theorem infoByte1 : ∃ i0, Tryd.prog.info? 5 = some i0 ∧ i0.zero = some (.int .u8 0) ∧ i0.size = 1 ∧ i0.bytes = 1 := info_parts infoByte

set_option maxHeartbeats 8000000 in
set_option maxRecDepth 100000 in
theorem refEncode_any (s : ByteArray) (w : World) (hs : s.size ≤ 1099511627776) :
    Calls Tryd.prog 96 #[.string s] w fun e w' => e = .returned (.tuple #[.string (Sp.encS s).1, .int .i64 (Sp.encS s).2]) ∧ Below w.heap.size w w' := by
  obtain ⟨i0, hi, hz0, hz1, hz2⟩ := infoByte1
  have hq := Lib.hid (refRunes_any s w hs)
  have hrng := Lib.hid (runes_range s)
  have hlen := runes_le s
  have HE := Lib.hid (show Sp.encS s = _ by rw [Sp.encS])
  generalize Sp.encS s = R at HE ⊢
  rw [Sp.refRunes_eq] at hq
  simp only at hq
  generalize Sp.runes s = l at hq HE hrng hlen
  generalize validD s.data.toList = ok at hq HE
  go_enter Tryd.func96, Tryd.ntmps96
  go_wp2_with fail
  refine hq.out.mono ?_
  rintro e w1 ⟨A, c, rfl, hrd, hb1⟩
  clear hq
  have hml := hrd.1
  have hrd' := Lib.hid hrd
  clear hrd
  have hsz1 := hb1.size
  cases ok with
  | false =>
    have hR : Hid (R = (⟨#[]⟩, 4)) := Lib.hid (by rw [HE.out, if_pos rfl])
    clear HE
    go_wp2
    go_ret2
    exact ⟨by rw [hR.out]; rfl, hb1⟩
  | true =>
    have HR : Hid (R = if 65535 < (Sp.encL l).length then (⟨#[]⟩, 2) else (Go.strOfNums (Sp.encL l), 0)) := Lib.hid (by rw [HE.out, if_neg (by simp)])
    clear HE
    go_wp2
    go_loopw [6, 7] (fun v6 v7 wr => ∃ (k : Nat) (acc : List Int), v7 = .int .i64 k ∧ k ≤ l.length ∧ wr.ownsRow w1.heap.size 5 1 v6 acc.length (numc acc) ∧ Below w1.heap.size w1 wr ∧ Hid (acc ++ Sp.encL (l.drop k) = Sp.encL l) ∧ acc.length ≤ 6 * k) (fun _ v7 _ => l.length - (RowKit.intOf v7).toNat)
    case atStart => exact ⟨0, [], rfl, Nat.zero_le _, ⟨by simp [numc], .inl ⟨rfl, rfl⟩⟩, Below.refl _ _, Lib.hid (by simp), by simp⟩
    case round =>
      obtain ⟨k, acc, rfl, hk, hown, hbw, hacc, hal⟩ := hrel
      have hsz := hbw.size
      by_cases hlt : k < l.length
      · obtain ⟨b, o, rfl, hcell⟩ := (rdN_below hrd'.out hbw).2 (by omega)
        have hck := hcell k hlt
        clear hcell
        have hd : Hid (l.drop k = l.getD k 0 :: l.drop (k + 1)) := Lib.hid (by rw [List.drop_eq_getElem_cons hlt]; simp [List.getD_eq_getElem?_getD, hlt])
        have hy : 0 ≤ l.getD k 0 ∧ l.getD k 0 ≤ 1114111 := hrng.out _ (by simp [List.getD_eq_getElem?_getD, hlt])
        generalize l.getD k 0 = y at hck hd hy
        have hlz := Sp.encZ_length y
        have hcs := Lib.hid (strCells_nums (Sp.encZ y) (encZ_bytes y hy.1 hy.2))
        have hsl : (Go.strOfNums (Sp.encZ y)).size = (Sp.encZ y).length := strOfNums_size _
        have hB := Lib.hid (refBytes_any y wr hy.1 hy.2)
        have hacc2 := Lib.hid (show (acc ++ Sp.encZ y) ++ Sp.encL (l.drop (k + 1)) = Sp.encL l by rw [← hacc.out, hd.out]; simp [Sp.encL])
        clear hacc hd
        have hsb : (Go.strOfNums (Sp.encZ y)).size ≤ 6 := by omega
        have hsl' := Lib.hid hsl
        clear hsl
        generalize hS : Go.strOfNums (Sp.encZ y) = S at *
        clear hS
        go_wp2_with fail
        refine hB.out.mono ?_
        rintro e w2 ⟨rfl, hb2⟩
        clear hB
        have hown2 := hown.kept (w' := w2) (row := none) ⟨hb2.os, hb2.tape, hb2.output, hb2.size, fun i hi _ => hb2.block i hi⟩ (by cases u6.ownBlock <;> simp)
        have hbw2 := below_then hbw hsz hb2
        have hsz2 := hbw2.size
        clear hown hb2
        go_wp2_with (at_builtin; refine wpList_append_own_string _ rfl _ _ 74 9 rfl w1.heap.size 5 i0 Tryd.underlying74 Tryd.underlying9 hi hz0 hz1 hz2 _ _ _ rfl hown2 S rfl ?c1 ?c2 ?c3 ?_)
        case c1 => unfold maxLen; omega
        case c2 => omega
        case c3 => omega
        intro v' w3 hown' hgrow _
        have hb3 := hbw2.grown hgrow hsz2 (fun q hq => own_base hown2 q hq)
        rw [hcs.out, ← numc_append, hsl'.out] at hown'
        go_wp2
        go_roundw
        case rel => exact ⟨k + 1, acc ++ Sp.encZ y, by go_num, by omega, by rw [List.length_append]; exact hown', hb3, hacc2, by simp; omega⟩
        case measure => simp [RowKit.intOf]; omega
      · have hfin : Hid (Sp.encL l = acc) := Lib.hid (by rw [← hacc.out, List.drop_eq_nil_of_le (by omega)]; simp [Sp.encL])
        obtain ⟨A2, c2, rfl⟩ := own_slice hown
        have hbf := below_then hb1 hsz1 hbw
        by_cases hlen : 65535 < acc.length
        · have hR : Hid (R = (⟨#[]⟩, 2)) := Lib.hid (by rw [HR.out, hfin.out, if_pos hlen])
          have hlz : (65535 : Int) < (acc.length : Int) := by omega
          clear HR hfin hacc
          go_wp2
          go_ret2
          exact ⟨by rw [hR.out]; rfl, hbf⟩
        · have hR : Hid (R = (Go.strOfNums acc, 0)) := Lib.hid (by rw [HR.out, hfin.out, if_neg hlen])
          have hlz : ¬ (65535 : Int) < (acc.length : Int) := by omega
          have hconv := own_string (P := Tryd.prog) (src := 74) (dst := 9) Tryd.underlying74 Tryd.underlying5 Tryd.underlying9 hown
          clear HR hfin hacc
          go_wp2
          go_ret2
          exact ⟨by rw [hR.out]; rfl, hbf⟩
end Go.Proofs.YthpfknlgfkecpaaDoor
