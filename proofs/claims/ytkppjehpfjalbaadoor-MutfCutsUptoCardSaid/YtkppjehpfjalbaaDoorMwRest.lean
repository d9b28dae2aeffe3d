/-
  Walks of mutf.Name, Len, Runes and Make.
-/
import Derived.Test.YtkppjehpfjalbaaDoorMwEnc
import Derived.Test.YtkppjehpfjalbaaDoorMwName
set_option linter.unusedVariables false
set_option linter.unusedSimpArgs false
namespace Go.Proofs.YtkppjehpfjalbaaDoor
open Go.RowKit Go.Lib

namespace Sp
/-- May a rune stand in a name? -/
def goodR (r : Int) : Bool := decide (32 < r) && decide (r ≠ 127) && !decide (r ∈ ([59, 91, 40, 41, 46] : List Int))
def nameS (s : ByteArray) : Bool := (runes s).all goodR && decide (0 < (runes s).length) && decide ((runes s).length ≤ 64) && validD s.data.toList
end Sp

theorem cell_below {w w1 : World} (h : Below w.heap.size w w1) {a : Addr} {v : Value} (hc : w.cell? a = some v) : w1.cell? a = some v := (h.cell (World.block_lt_of_cell? w a hc)).trans hc
theorem tabs_below {w w1 : World} {g3 g4 : Nat} (hT : Lib.Utf8Tabs g3 g4 w) (h : Below w.heap.size w w1) : Lib.Utf8Tabs g3 g4 w1 :=
  ⟨fun c hc => cell_below h (hT.1 c hc), fun i hi => ⟨cell_below h (hT.2 i hi).1, cell_below h (hT.2 i hi).2⟩⟩

theorem len_any (s : ByteArray) (w : World) (hs : s.size ≤ 140737488351232) :
    Calls Tryd.prog 37 #[.string s] w fun e w' => e = .returned (.int .i64 ((Sp.runes s).length : Nat)) ∧ Below w.heap.size w w' := by
  have hc := Lib.hid (Tryd.utf8_RuneCountInString s w (by omega))
  rw [Sp.runes_length]
  generalize Lib.runeCount s = n at hc ⊢
  go_enter Tryd.func37, Tryd.ntmps37
  go_wp2_with fail
  refine hc.out.mono ?_
  rintro e w' ⟨rfl, pos, rfl⟩
  go_wp2
  go_ret
  exact ⟨rfl, below_iter _ _ _⟩

set_option maxHeartbeats 8000000 in
set_option maxRecDepth 100000 in
theorem name_any (s : ByteArray) (w : World) (hs : s.size ≤ 140737488351232) (hT : ∀ W, Below w.heap.size w W → Lib.Utf8Tabs (Tryd.lays196_ren.g 3) (Tryd.lays196_ren.g 4) W) :
    Calls Tryd.prog 35 #[.string s] w fun e w' => e = .returned (.bool (Sp.nameS s)) ∧ Below w.heap.size w w' := by
  have HV := Lib.hid (fun W h => Tryd.utf8_ValidString s W (by omega) (hT W h))
  have HE := Lib.hid (show Sp.nameS s = _ by rw [Sp.nameS])
  generalize Sp.nameS s = R at HE ⊢
  generalize validD s.data.toList = V at HV HE
  clear hT
  go_enter Tryd.func35, Tryd.ntmps35
  go_wp2
  go_loopw [3] (fun v3 wr => ∃ (pos f k : Nat), v3 = .int .i64 k ∧ wr.heap[w.heap.size]? = some (.stringIter s pos) ∧ Below w.heap.size w wr ∧ Hid ((Sp.rl s f pos).all Sp.goodR = (Sp.runes s).all Sp.goodR) ∧ Hid ((Sp.runes s).length = k + (Sp.rl s f pos).length) ∧ s.size ≤ pos + f ∧ k ≤ pos) (fun _ wr => s.size - wr.iterPos w.heap.size)
  case atStart => exact ⟨0, s.size, 0, rfl, World.iter_heap w s 0, below_iter _ _ _, Lib.hid rfl, Lib.hid (by simp [Sp.runes]), by omega, by omega⟩
  case round =>
    obtain ⟨pos, f, k, rfl, hit, hbw, hall, hcnt, hfu, hk⟩ := hrel
    have hsz : w.heap.size < wr.heap.size := (Array.getElem?_eq_some_iff.1 hit).1
    by_cases hp : pos < s.size
    · have hnx : ∀ ty, (Instr.next (.pointer (some ⟨w.heap.size, 0, none⟩)) true ty).run Tryd.prog wr = _ := fun ty => Lib.run_next_any_at wr w.heap.size s pos ty hit hp
      have hwd := Lib.decode_width_pos s pos hp
      have hmx : ((Utf8.decode s pos).1 : Int) ≤ 1114111 := by have := Sp.decode_max s pos; omega
      have hmn : (0 : Int) ≤ ((Utf8.decode s pos).1 : Int) := by omega
      obtain ⟨g, rfl, hg, hr⟩ := Sp.rl_step s f pos hp hfu
      have hr' := Lib.hid hr
      clear hr
      have hit2 := Lib.iterAt_heap wr w.heap.size s pos (pos + (Utf8.decode s pos).2) hit
      have hbw2 := Lib.below_iterAt hbw (k := w.heap.size) (by omega) s (pos + (Utf8.decode s pos).2)
      have hsz2 : w.heap.size < (wr.iterAt w.heap.size s (pos + (Utf8.decode s pos).2)).heap.size := by rw [Lib.iterAt_size]; omega
      have hlt2 : pos < pos + (Utf8.decode s pos).2 := by omega
      generalize pos + (Utf8.decode s pos).2 = pos2 at *
      generalize ((Utf8.decode s pos).1 : Int) = r at *
      generalize wr.iterAt w.heap.size s pos2 = w2 at *
      clear hbw hsz
      by_cases c1 : r ≤ 32
      · have hR : Hid (R = false) := Lib.hid (by rw [HE.out, ← hall.out, hr'.out]; simp [Sp.goodR, show ¬ (32 < r) by omega])
        clear HE hall hcnt hr'
        go_wp2
        go_ret
        exact ⟨by rw [hR.out]; rfl, hbw2⟩
      by_cases c2 : r = 127
      · have hR : Hid (R = false) := Lib.hid (by rw [HE.out, ← hall.out, hr'.out]; simp [Sp.goodR, c2])
        have c2b : (r == 127) = true := by simpa using c2
        clear HE hall hcnt hr' c2
        go_wp2
        go_ret
        exact ⟨by rw [hR.out]; rfl, hbw2⟩
      have c2b : (r == 127) = false := by simpa using c2
      have hct := Lib.hid (contains_rune (some ⟨w2.heap.size, 0, none⟩) 5 [59, 91, 40, 41, 46] r (w2.alloc (.cells #[.int .i32 59, .int .i32 91, .int .i32 40, .int .i32 41, .int .i32 46] 21)) ⟨by simp, fun _ => ⟨w2.heap.size, 0, rfl, fun j hj => by
        match j, hj with
        | 0, _ => simp
        | 1, _ => simp
        | 2, _ => simp
        | 3, _ => simp
        | 4, _ => simp
        | j + 5, hj => simp at hj; omega⟩⟩)
      by_cases c3 : r ∈ ([59, 91, 40, 41, 46] : List Int)
      · have hR : Hid (R = false) := Lib.hid (by rw [HE.out, ← hall.out, hr'.out]; simp only [List.all_cons, Sp.goodR, c3]; simp)
        have c3b := Lib.hid (show decide (r ∈ ([59, 91, 40, 41, 46] : List Int)) = true by simpa using c3)
        clear HE hall hcnt hr' c2 c3
        go_wp2_with fail
        refine hct.out.mono ?_
        rintro e w3 ⟨rfl, rfl⟩
        rw [c3b.out]
        go_wp2
        go_ret
        exact ⟨by rw [hR.out]; rfl, hbw2.alloc (by omega) _⟩
      · have hgood : Sp.goodR r = true := by
          simp only [Sp.goodR, c3]
          simp [c2]
          omega
        have c3b := Lib.hid (show decide (r ∈ ([59, 91, 40, 41, 46] : List Int)) = false by simpa using c3)
        have hall2 := Lib.hid (show (Sp.rl s g pos2).all Sp.goodR = (Sp.runes s).all Sp.goodR by rw [← hall.out, hr'.out, List.all_cons, hgood, Bool.true_and])
        have hcnt2 := Lib.hid (show (Sp.runes s).length = (k + 1 : Nat) + (Sp.rl s g pos2).length by rw [hcnt.out, hr'.out, List.length_cons]; omega)
        clear hall hcnt hr' c2 c3 hgood
        go_wp2_with fail
        refine hct.out.mono ?_
        rintro e w3 ⟨rfl, rfl⟩
        rw [c3b.out]
        have hit3 := (Lib.alloc_old w2 (.cells #[.int .i32 59, .int .i32 91, .int .i32 40, .int .i32 41, .int .i32 46] 21) w.heap.size hsz2).trans hit2
        go_wp2
        go_roundw
        case rel => exact ⟨pos2, g, k + 1, by go_num, hit3, hbw2.alloc (by omega) _, hall2, hcnt2, by omega, by omega⟩
        case measure =>
          simp only [World.iterPos, hit3, hit]
          omega
    · have hnx : ∀ ty, (Instr.next (.pointer (some ⟨w.heap.size, 0, none⟩)) true ty).run Tryd.prog wr = _ := fun ty => Lib.run_next_end_at wr w.heap.size s pos ty hit hp
      have hl : Hid ((Sp.runes s).length = k) := Lib.hid (by rw [hcnt.out, Sp.rl_end _ _ _ hp]; simp)
      have ha : Hid ((Sp.runes s).all Sp.goodR = true) := Lib.hid (by rw [← hall.out, Sp.rl_end _ _ _ hp]; rfl)
      have hR0 := Lib.hid (show R = (decide (0 < k) && decide (k ≤ 64) && V) by rw [HE.out, hl.out, ha.out]; simp)
      clear HE hall hcnt
      by_cases c1 : 0 < k ∧ k ≤ 64
      · have hR : Hid (R = V) := Lib.hid (by rw [hR0.out, decide_eq_true c1.1, decide_eq_true c1.2]; rfl)
        obtain ⟨c10, c11⟩ := c1
        clear hR0
        go_wp2_with fail
        refine (HV.out _ hbw).mono ?_
        rintro e w3 ⟨rfl, hb3⟩
        go_wp2
        go_ret
        exact ⟨by rw [hR.out]; rfl, below_then hbw (by omega) hb3⟩
      · have hR : Hid (R = false) := Lib.hid (by
          rw [hR0.out]
          by_cases c : 0 < k
          · rw [decide_eq_false (show ¬ k ≤ 64 by omega)]; simp
          · rw [decide_eq_false c]; simp)
        by_cases c : 0 < k
        · have c' : ¬ k ≤ 64 := by omega
          clear hR0 c1
          go_wp2
          go_ret
          exact ⟨by rw [hR.out]; rfl, hbw⟩
        · clear hR0 c1
          go_wp2
          go_ret
          exact ⟨by rw [hR.out]; rfl, hbw⟩

theorem runesFrom_list (s : ByteArray) : ∀ (f i : Nat) (acc : Array Value), (Conv.runesFrom s f i acc).toList = acc.toList ++ (Sp.rl s f i).map (Value.int .i32)
  | 0, _, acc => by simp [Conv.runesFrom, Sp.rl]
  | f + 1, i, acc => by
    unfold Conv.runesFrom Sp.rl
    split
    · rw [runesFrom_list s f]
      simp
    · simp

theorem runesFrom_all (s : ByteArray) : Conv.runesFrom s s.size 0 #[] = ((Sp.runes s).map (Value.int .i32)).toArray := by
  apply Array.ext'
  rw [runesFrom_list]
  simp [Sp.runes]

theorem runes_le (s : ByteArray) : (Sp.runes s).length ≤ s.size := by rw [Sp.runes_length]; exact Lib.runeCount_le s

set_option maxHeartbeats 4000000 in
theorem runes_any (s : ByteArray) (w : World) (hs : s.size ≤ 35184372088832) :
    Calls Tryd.prog 40 #[.string s] w fun e w' => ∃ A c, e = .returned (.slice A (Sp.runes s).length c) ∧ RdN .i32 w' A (Sp.runes s) ∧ Below w.heap.size w w' := by
  have hl := runes_le s
  have hsz : (Conv.runesFrom s s.size 0 #[]).size = (Sp.runes s).length := by rw [runesFrom_all]; simp
  have hconv := run_runes_of_string (P := Tryd.prog) w 9 61 21 s Tryd.underlying9 Tryd.underlying61 Tryd.underlying21 (by rw [hsz]; omega)
  rw [hsz] at hconv
  generalize hC : Conv.runesFrom s s.size 0 #[] ++ Array.replicate (grownCap w (Sp.runes s).length 0 21 - (Sp.runes s).length) (.int .i32 0) = C at hconv
  have hC' := Lib.hid hC
  clear hC
  generalize grownCap w (Sp.runes s).length 0 21 = c at hconv hC'
  clear hsz
  go_enter Tryd.func40, Tryd.ntmps40
  go_wp2
  go_ret
  refine ⟨_, c, rfl, ⟨by omega, fun _ => ⟨w.heap.size, 0, rfl, fun j hj => ?_⟩⟩, ?_⟩
  · rw [Nat.zero_add]
    have h1 : (w.drew.alloc (.cells C 21)).heap[w.heap.size]? = some (.cells C 21 (0, 0)) := by
      show (w.heap.push _)[w.heap.size]? = _
      simp
    refine (Lib.cell_of_heap h1 j).trans ?_
    rw [← hC'.out, runesFrom_all, Array.getElem?_append_left (by simpa using hj)]
    simp [hj]
  · exact (Below.refl _ _).drew.alloc (Nat.le_refl _) _

theorem rdN_below {k : IntKind} {w w1 : World} {A : Option Addr} {xs : List Int} (h : RdN k w A xs) (hb : Below w.heap.size w w1) : RdN k w1 A xs := by
  refine ⟨h.1, fun h0 => ?_⟩
  obtain ⟨b, o, e, hc⟩ := h.2 h0
  exact ⟨b, o, e, fun j hj => cell_below hb (hc j hj)⟩

namespace Sp
def makeS (l : List Int) : ByteArray × Int := if l.all Lib.validRune then (runesBytes l, 0) else (⟨#[]⟩, 1)
end Sp

set_option maxHeartbeats 4000000 in
theorem make_any (A : Option Addr) (c : Nat) (xs : List Int) (w : World) (h : RdN .i32 w A xs) :
    Calls Tryd.prog 41 #[.slice A xs.length c] w fun e w' => e = .returned (.tuple #[.string (Sp.makeS xs).1, .int .i64 (Sp.makeS xs).2]) ∧ w' = w := by
  obtain ⟨hl, hc⟩ := h
  have HC := Lib.hid hc
  clear hc
  have HE := Lib.hid (show Sp.makeS xs = _ by rw [Sp.makeS])
  generalize Sp.makeS xs = R at HE ⊢
  go_enter Tryd.func41, Tryd.ntmps41
  go_wp2
  go_loop [8] (fun n => ∃ k : Nat, k ≤ xs.length ∧ n = .int .i64 k ∧ Hid ((xs.drop k).all Lib.validRune = xs.all Lib.validRune)) (fun n => xs.length - (RowKit.intOf n).toNat)
  case atStart => exact ⟨0, Nat.zero_le _, rfl, Lib.hid (by simp)⟩
  case round =>
    obtain ⟨k, hk, rfl, hi⟩ := hrel
    by_cases hlt : k < xs.length
    · obtain ⟨b, o, rfl, hcell⟩ := HC.out (by omega)
      have hck := hcell k hlt
      clear hcell
      have hd : Hid (xs.drop k = xs.getD k 0 :: xs.drop (k + 1)) := Lib.hid (by rw [List.drop_eq_getElem_cons hlt]; simp [List.getD_eq_getElem?_getD, hlt])
      generalize xs.getD k 0 = y at hck hd
      have hv := Lib.hid (Tryd.utf8_ValidRune y w)
      have hi2 := Lib.hid (show (Lib.validRune y && (xs.drop (k + 1)).all Lib.validRune) = xs.all Lib.validRune by rw [← hi.out, hd.out, List.all_cons])
      clear hi hd
      generalize Lib.validRune y = V at hv hi2
      go_wp2_with fail
      refine hv.out.mono ?_
      rintro e w' ⟨rfl, rfl⟩
      clear hv
      cases V with
      | true =>
        have hi3 := Lib.hid (show (xs.drop (k + 1)).all Lib.validRune = xs.all Lib.validRune by rw [← hi2.out, Bool.true_and])
        clear hi2
        go_wp2
        go_round
        case rel => exact ⟨k + 1, by omega, by go_num, hi3⟩
        case measure => simp [RowKit.intOf]; omega
      | false =>
        have hR : Hid (R = (⟨#[]⟩, 1)) := Lib.hid (by rw [HE.out, ← hi2.out, Bool.false_and]; rfl)
        clear hi2 HE
        go_wp2
        go_ret2
        exact ⟨by rw [hR.out]; rfl, rfl⟩
    · have hR : Hid (R = (runesBytes xs, 0)) := Lib.hid (by rw [HE.out, ← hi.out, List.drop_eq_nil_of_le (by omega)]; rfl)
      have hconv : (convert 61 9 (.slice A xs.length c)).run Tryd.prog w = .ok (.string (runesBytes xs)) w := by
        by_cases h0 : 0 < xs.length
        · obtain ⟨b, o, rfl, hcell⟩ := HC.out h0
          have := run_convert_runes (P := Tryd.prog) w 61 9 21 ⟨b, o, none⟩ xs.length c xs (Nat.le_refl _) Tryd.underlying61 Tryd.underlying21 Tryd.underlying9 (fun j hj => by
            rw [show (⟨b, o, none⟩ : Addr).add j = ⟨b, o + j, none⟩ by unfold Addr.add; split <;> simp_all]
            exact hcell j hj)
          rwa [List.take_length] at this
        · obtain rfl : xs = [] := List.eq_nil_of_length_eq_zero (by omega)
          cases A with
          | none => exact run_convert_runes_nil w 61 9 21 0 c Tryd.underlying61 Tryd.underlying21 Tryd.underlying9
          | some a =>
            have := run_convert_runes (P := Tryd.prog) w 61 9 21 a 0 c [] (Nat.le_refl _) Tryd.underlying61 Tryd.underlying21 Tryd.underlying9 (fun j hj => by simp at hj)
            exact this
      clear HE hi
      go_wp2
      go_ret2
      exact ⟨by rw [hR.out]; rfl, rfl⟩
end Go.Proofs.YtkppjehpfjalbaaDoor
