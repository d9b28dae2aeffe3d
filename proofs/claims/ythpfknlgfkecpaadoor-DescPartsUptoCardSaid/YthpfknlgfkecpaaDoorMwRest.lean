/-
  Walks of mutf.Name, Len, Runes and Make.
-/
import Derived.Test.YthpfknlgfkecpaaDoorMwEnc
import Derived.Test.YthpfknlgfkecpaaDoorMwName
set_option linter.unusedVariables false
set_option linter.unusedSimpArgs false
namespace Go.Proofs.YthpfknlgfkecpaaDoor
open Go.RowKit Go.Lib

namespace Sp
/-- May a rune stand in a name? -/
def goodR (r : Int) : Bool := decide (32 < r) && decide (r ≠ 127) && !decide (r ∈ ([59, 91, 40, 41, 46] : List Int))
def nameS (s : ByteArray) : Bool := (runes s).all goodR && decide (0 < (runes s).length) && decide ((runes s).length ≤ 64) && validD s.data.toList
end Sp

theorem cell_below {w w1 : World} (h : Below w.heap.size w w1) {a : Addr} {v : Value} (hc : w.cell? a = some v) : w1.cell? a = some v := (h.cell (World.block_lt_of_cell? w a hc)).trans hc
theorem tabs_below {w w1 : World} {g3 g4 : Nat} (hT : Lib.Utf8Tabs g3 g4 w) (h : Below w.heap.size w w1) : Lib.Utf8Tabs g3 g4 w1 :=
  ⟨fun c hc => cell_below h (hT.1 c hc), fun i hi => ⟨cell_below h (hT.2 i hi).1, cell_below h (hT.2 i hi).2⟩⟩

/-- The tables of unicode/utf8, as they are laid. -/
def Tabs (w : World) : Prop := Lib.Utf8Tabs (Tryd.lays196_ren.g 3) (Tryd.lays196_ren.g 4) w
theorem Tabs.below {w w1 : World} (h : Tabs w) (hb : Below w.heap.size w w1) : Tabs w1 := tabs_below h hb

theorem len_any (s : ByteArray) (w : World) (hs : s.size ≤ 140737488351232) :
    Calls Tryd.prog 117 #[.string s] w fun e w' => e = .returned (.int .i64 ((Sp.runes s).length : Nat)) ∧ Below w.heap.size w w' := by
  have hc := Lib.hid (Tryd.utf8_RuneCountInString s w (by omega))
  rw [Sp.runes_length]
  generalize Lib.runeCount s = n at hc ⊢
  go_enter Tryd.func117, Tryd.ntmps117
  go_wp2_with fail
  refine hc.out.mono ?_
  rintro e w' ⟨rfl, pos, rfl⟩
  go_wp2
  go_ret
  exact ⟨rfl, below_iter _ _ _⟩

set_option maxHeartbeats 8000000 in
set_option maxRecDepth 100000 in
theorem name_any (s : ByteArray) (w : World) (hs : s.size ≤ 140737488351232) (hT : ∀ W, Below w.heap.size w W → Lib.Utf8Tabs (Tryd.lays196_ren.g 3) (Tryd.lays196_ren.g 4) W) :
    Calls Tryd.prog 77 #[.string s] w fun e w' => e = .returned (.bool (Sp.nameS s)) ∧ Below w.heap.size w w' := by
  have HV := Lib.hid (fun W h => Tryd.utf8_ValidString s W (by omega) (hT W h))
  have HE := Lib.hid (show Sp.nameS s = _ by rw [Sp.nameS])
  generalize Sp.nameS s = R at HE ⊢
  generalize validD s.data.toList = V at HV HE
  clear hT
  go_enter Tryd.func77, Tryd.ntmps77
  go_wp2
  go_loopw [3] (fun v3 wr => ∃ (pos f k : Nat), v3 = .int .i64 k ∧ wr.heap[w.heap.size]? = some (.stringIter s pos) ∧ Below w.heap.size w wr ∧ Hid ((Sp.rl s f pos).all Sp.goodR = (Sp.runes s).all Sp.goodR) ∧ Hid ((Sp.runes s).length = k + (Sp.rl s f pos).length) ∧ s.size ≤ pos + f ∧ k ≤ pos) (fun _ wr => s.size - wr.iterPos w.heap.size)
  case atStart => exact ⟨0, s.size, 0, rfl, World.iter_heap w s 0, below_iter _ _ _, Lib.hid rfl, Lib.hid (by simp [Sp.runes]), by omega, by omega⟩
  case round =>
    obtain ⟨pos, f, k, rfl, hit, hbw, hall, hcnt, hfu, hk⟩ := hrel
    have hsz : w.heap.size < wr.heap.size := (Array.getElem?_eq_some_iff.1 hit).1
    by_cases hp : pos < s.size
    · have hnx : ∀ ty, (Instr.next (.pointer (some ⟨w.heap.size, 0, none⟩)) true ty).run Tryd.prog wr = _ := fun ty => Lib.run_next_any_at wr w.heap.size s pos ty hit hp
      have hwd := Lib.decode_width_pos s pos hp
      have hmx : ((Utf8.decode s pos).1 : Int) ≤ 1114111 := by have := Sp.decode_max s pos; omega
      have hmn : (0 : Int) ≤ ((Utf8.decode s pos).1 : Int) := by omega
      obtain ⟨g, rfl, hg, hr⟩ := Sp.rl_step s f pos hp hfu
      have hr' := Lib.hid hr
      clear hr
      have hit2 := Lib.iterAt_heap wr w.heap.size s pos (pos + (Utf8.decode s pos).2) hit
      have hbw2 := Lib.below_iterAt hbw (k := w.heap.size) (by omega) s (pos + (Utf8.decode s pos).2)
      have hsz2 : w.heap.size < (wr.iterAt w.heap.size s (pos + (Utf8.decode s pos).2)).heap.size := by rw [Lib.iterAt_size]; omega
      have hlt2 : pos < pos + (Utf8.decode s pos).2 := by omega
      generalize pos + (Utf8.decode s pos).2 = pos2 at *
      generalize ((Utf8.decode s pos).1 : Int) = r at *
      generalize wr.iterAt w.heap.size s pos2 = w2 at *
      clear hbw hsz
      by_cases c1 : r ≤ 32
      · have hR : Hid (R = false) := Lib.hid (by rw [HE.out, ← hall.out, hr'.out]; simp [Sp.goodR, show ¬ (32 < r) by omega])
        clear HE hall hcnt hr'
        go_wp2
        go_ret
        exact ⟨by rw [hR.out]; rfl, hbw2⟩
      by_cases c2 : r = 127
      · have hR : Hid (R = false) := Lib.hid (by rw [HE.out, ← hall.out, hr'.out]; simp [Sp.goodR, c2])
        have c2b : (r == 127) = true := by simpa using c2
        clear HE hall hcnt hr' c2
        go_wp2
        go_ret
        exact ⟨by rw [hR.out]; rfl, hbw2⟩
      have c2b : (r == 127) = false := by simpa using c2
      have hct := Lib.hid (contains_rune (some ⟨w2.heap.size, 0, none⟩) 5 [59, 91, 40, 41, 46] r (w2.alloc (.cells #[.int .i32 59, .int .i32 91, .int .i32 40, .int .i32 41, .int .i32 46] 21)) ⟨by simp, fun _ => ⟨w2.heap.size, 0, rfl, fun j hj => by
        match j, hj with
        | 0, _ => simp
        | 1, _ => simp
        | 2, _ => simp
        | 3, _ => simp
        | 4, _ => simp
        | j + 5, hj => simp at hj; omega⟩⟩)
      by_cases c3 : r ∈ ([59, 91, 40, 41, 46] : List Int)
      · have hR : Hid (R = false) := Lib.hid (by rw [HE.out, ← hall.out, hr'.out]; simp only [List.all_cons, Sp.goodR, c3]; simp)
        have c3b := Lib.hid (show decide (r ∈ ([59, 91, 40, 41, 46] : List Int)) = true by simpa using c3)
        clear HE hall hcnt hr' c2 c3
        go_wp2_with fail
        refine hct.out.mono ?_
        rintro e w3 ⟨rfl, rfl⟩
        rw [c3b.out]
        go_wp2
        go_ret
        exact ⟨by rw [hR.out]; rfl, hbw2.alloc (by omega) _⟩
      · have hgood : Sp.goodR r = true := by
          simp only [Sp.goodR, c3]
          simp [c2]
          omega
        have c3b := Lib.hid (show decide (r ∈ ([59, 91, 40, 41, 46] : List Int)) = false by simpa using c3)
        have hall2 := Lib.hid (show (Sp.rl s g pos2).all Sp.goodR = (Sp.runes s).all Sp.goodR by rw [← hall.out, hr'.out, List.all_cons, hgood, Bool.true_and])
        have hcnt2 := Lib.hid (show (Sp.runes s).length = (k + 1 : Nat) + (Sp.rl s g pos2).length by rw [hcnt.out, hr'.out, List.length_cons]; omega)
        clear hall hcnt hr' c2 c3 hgood
        go_wp2_with fail
        refine hct.out.mono ?_
        rintro e w3 ⟨rfl, rfl⟩
        rw [c3b.out]
        have hit3 := (Lib.alloc_old w2 (.cells #[.int .i32 59, .int .i32 91, .int .i32 40, .int .i32 41, .int .i32 46] 21) w.heap.size hsz2).trans hit2
        go_wp2
        go_roundw
        case rel => exact ⟨pos2, g, k + 1, by go_num, hit3, hbw2.alloc (by omega) _, hall2, hcnt2, by omega, by omega⟩
        case measure =>
          simp only [World.iterPos, hit3, hit]
          omega
    · have hnx : ∀ ty, (Instr.next (.pointer (some ⟨w.heap.size, 0, none⟩)) true ty).run Tryd.prog wr = _ := fun ty => Lib.run_next_end_at wr w.heap.size s pos ty hit hp
      have hl : Hid ((Sp.runes s).length = k) := Lib.hid (by rw [hcnt.out, Sp.rl_end _ _ _ hp]; simp)
      have ha : Hid ((Sp.runes s).all Sp.goodR = true) := Lib.hid (by rw [← hall.out, Sp.rl_end _ _ _ hp]; rfl)
      have hR0 := Lib.hid (show R = (decide (0 < k) && decide (k ≤ 64) && V) by rw [HE.out, hl.out, ha.out]; simp)
      clear HE hall hcnt
      by_cases c1 : 0 < k ∧ k ≤ 64
      · have hR : Hid (R = V) := Lib.hid (by rw [hR0.out, decide_eq_true c1.1, decide_eq_true c1.2]; rfl)
        obtain ⟨c10, c11⟩ := c1
        clear hR0
        go_wp2_with fail
        refine (HV.out _ hbw).mono ?_
        rintro e w3 ⟨rfl, hb3⟩
        go_wp2
        go_ret
        exact ⟨by rw [hR.out]; rfl, below_then hbw (by omega) hb3⟩
      · have hR : Hid (R = false) := Lib.hid (by
          rw [hR0.out]
          by_cases c : 0 < k
          · rw [decide_eq_false (show ¬ k ≤ 64 by omega)]; simp
          · rw [decide_eq_false c]; simp)
        by_cases c : 0 < k
        · have c' : ¬ k ≤ 64 := by omega
          clear hR0 c1
          go_wp2
          go_ret
          exact ⟨by rw [hR.out]; rfl, hbw⟩
        · clear hR0 c1
          go_wp2
          go_ret
          exact ⟨by rw [hR.out]; rfl, hbw⟩

theorem runes_le (s : ByteArray) : (Sp.runes s).length ≤ s.size := by rw [Sp.runes_length]; exact Lib.runeCount_le s

theorem rdN_below {k : IntKind} {w w1 : World} {A : Option Addr} {xs : List Int} (h : RdN k w A xs) (hb : Below w.heap.size w w1) : RdN k w1 A xs := by
  refine ⟨h.1, fun h0 => ?_⟩
  obtain ⟨b, o, e, hc⟩ := h.2 h0
  exact ⟨b, o, e, fun j hj => cell_below hb (hc j hj)⟩

end Go.Proofs.YthpfknlgfkecpaaDoor
