/-
  Texts of the proof, joined: each says at its head what it proves.
-/
import Derived.Test.YtfjplmbknegidaaGreatDoorJk1
import Derived.Lib.Strings
import Derived.Lib.TrimByte
import Derived.Lib.SlicesS
import Derived.Deep.MidRow
section
/-
  Walks of mutf.Name, Len, Runes and Make.
-/
set_option linter.unusedVariables false
set_option linter.unusedSimpArgs false
namespace Go.Proofs.YtfjplmbknegidaaGreatDoor
open Go.RowKit Go.Lib

namespace Sp
/-- May a rune stand in a name? -/
def goodR (r : Int) : Bool := decide (32 < r) && decide (r ≠ 127) && !decide (r ∈ ([59, 91, 40, 41, 46] : List Int))
def nameS (s : ByteArray) : Bool := (runes s).all goodR && decide (0 < (runes s).length) && decide ((runes s).length ≤ 64) && validD s.data.toList
end Sp

theorem cell_below {w w1 : World} (h : Below w.heap.size w w1) {a : Addr} {v : Value} (hc : w.cell? a = some v) : w1.cell? a = some v := (h.cell (World.block_lt_of_cell? w a hc)).trans hc
theorem tabs_below {w w1 : World} {g3 g4 : Nat} (hT : Lib.Utf8Tabs g3 g4 w) (h : Below w.heap.size w w1) : Lib.Utf8Tabs g3 g4 w1 :=
  ⟨fun c hc => cell_below h (hT.1 c hc), fun i hi => ⟨cell_below h (hT.2 i hi).1, cell_below h (hT.2 i hi).2⟩⟩

/-- The tables of unicode/utf8, as they are laid. -/
def Tabs (w : World) : Prop := Lib.Utf8Tabs (Tryz.lays196_ren.g 3) (Tryz.lays196_ren.g 4) w
theorem Tabs.below {w w1 : World} (h : Tabs w) (hb : Below w.heap.size w w1) : Tabs w1 := tabs_below h hb

theorem len_any (s : ByteArray) (w : World) (hs : s.size ≤ 140737488351232) :
    Calls Tryz.prog 124 #[.string s] w fun e w' => e = .returned (.int .i64 ((Sp.runes s).length : Nat)) ∧ Below w.heap.size w w' := by
  have hc := Lib.hid (Tryz.utf8_RuneCountInString s w (by omega))
  rw [Sp.runes_length]
  generalize Lib.runeCount s = n at hc ⊢
  go_enter Tryz.func124, Tryz.ntmps124
  go_wp2_with fail
  refine hc.out.mono ?_
  rintro e w' ⟨rfl, pos, rfl⟩
  go_wp2
  go_ret
  exact ⟨rfl, below_iter _ _ _⟩

set_option maxHeartbeats 8000000 in
set_option maxRecDepth 100000 in
theorem name_any (s : ByteArray) (w : World) (hs : s.size ≤ 140737488351232) (hT : ∀ W, Below w.heap.size w W → Lib.Utf8Tabs (Tryz.lays196_ren.g 3) (Tryz.lays196_ren.g 4) W) :
    Calls Tryz.prog 75 #[.string s] w fun e w' => e = .returned (.bool (Sp.nameS s)) ∧ Below w.heap.size w w' := by
  have HV := Lib.hid (fun W h => Tryz.utf8_ValidString s W (by omega) (hT W h))
  have HE := Lib.hid (show Sp.nameS s = _ by rw [Sp.nameS])
  generalize Sp.nameS s = R at HE ⊢
  generalize validD s.data.toList = V at HV HE
  clear hT
  go_enter Tryz.func75, Tryz.ntmps75
  go_wp2
  go_loopw [3] (fun v3 wr => ∃ (pos f k : Nat), v3 = .int .i64 k ∧ wr.heap[w.heap.size]? = some (.stringIter s pos) ∧ Below w.heap.size w wr ∧ Hid ((Sp.rl s f pos).all Sp.goodR = (Sp.runes s).all Sp.goodR) ∧ Hid ((Sp.runes s).length = k + (Sp.rl s f pos).length) ∧ s.size ≤ pos + f ∧ k ≤ pos) (fun _ wr => s.size - wr.iterPos w.heap.size)
  case atStart => exact ⟨0, s.size, 0, rfl, World.iter_heap w s 0, below_iter _ _ _, Lib.hid rfl, Lib.hid (by simp [Sp.runes]), by omega, by omega⟩
  case round =>
    obtain ⟨pos, f, k, rfl, hit, hbw, hall, hcnt, hfu, hk⟩ := hrel
    have hsz : w.heap.size < wr.heap.size := (Array.getElem?_eq_some_iff.1 hit).1
    by_cases hp : pos < s.size
    · have hnx : ∀ ty, (Instr.next (.pointer (some ⟨w.heap.size, 0, none⟩)) true ty).run Tryz.prog wr = _ := fun ty => Lib.run_next_any_at wr w.heap.size s pos ty hit hp
      have hwd := Lib.decode_width_pos s pos hp
      have hmx : ((Utf8.decode s pos).1 : Int) ≤ 1114111 := by have := Sp.decode_max s pos; omega
      have hmn : (0 : Int) ≤ ((Utf8.decode s pos).1 : Int) := by omega
      obtain ⟨g, rfl, hg, hr⟩ := Sp.rl_step s f pos hp hfu
      have hr' := Lib.hid hr
      clear hr
      have hit2 := Lib.iterAt_heap wr w.heap.size s pos (pos + (Utf8.decode s pos).2) hit
      have hbw2 := Lib.below_iterAt hbw (k := w.heap.size) (by omega) s (pos + (Utf8.decode s pos).2)
      have hsz2 : w.heap.size < (wr.iterAt w.heap.size s (pos + (Utf8.decode s pos).2)).heap.size := by rw [Lib.iterAt_size]; omega
      have hlt2 : pos < pos + (Utf8.decode s pos).2 := by omega
      generalize pos + (Utf8.decode s pos).2 = pos2 at *
      generalize ((Utf8.decode s pos).1 : Int) = r at *
      generalize wr.iterAt w.heap.size s pos2 = w2 at *
      clear hbw hsz
      by_cases c1 : r ≤ 32
      · have hR : Hid (R = false) := Lib.hid (by rw [HE.out, ← hall.out, hr'.out]; simp [Sp.goodR, show ¬ (32 < r) by omega])
        clear HE hall hcnt hr'
        go_wp2
        go_ret
        exact ⟨by rw [hR.out]; rfl, hbw2⟩
      by_cases c2 : r = 127
      · have hR : Hid (R = false) := Lib.hid (by rw [HE.out, ← hall.out, hr'.out]; simp [Sp.goodR, c2])
        have c2b : (r == 127) = true := by simpa using c2
        clear HE hall hcnt hr' c2
        go_wp2
        go_ret
        exact ⟨by rw [hR.out]; rfl, hbw2⟩
      have c2b : (r == 127) = false := by simpa using c2
      have hct := Lib.hid (contains_rune (some ⟨w2.heap.size, 0, none⟩) 5 [59, 91, 40, 41, 46] r (w2.alloc (.cells #[.int .i32 59, .int .i32 91, .int .i32 40, .int .i32 41, .int .i32 46] 21)) ⟨by simp, fun _ => ⟨w2.heap.size, 0, rfl, fun j hj => by
        match j, hj with
        | 0, _ => simp
        | 1, _ => simp
        | 2, _ => simp
        | 3, _ => simp
        | 4, _ => simp
        | j + 5, hj => simp at hj; omega⟩⟩)
      by_cases c3 : r ∈ ([59, 91, 40, 41, 46] : List Int)
      · have hR : Hid (R = false) := Lib.hid (by rw [HE.out, ← hall.out, hr'.out]; simp only [List.all_cons, Sp.goodR, c3]; simp)
        have c3b := Lib.hid (show decide (r ∈ ([59, 91, 40, 41, 46] : List Int)) = true by simpa using c3)
        clear HE hall hcnt hr' c2 c3
        go_wp2_with fail
        refine hct.out.mono ?_
        rintro e w3 ⟨rfl, rfl⟩
        rw [c3b.out]
        go_wp2
        go_ret
        exact ⟨by rw [hR.out]; rfl, hbw2.alloc (by omega) _⟩
      · have hgood : Sp.goodR r = true := by
          simp only [Sp.goodR, c3]
          simp [c2]
          omega
        have c3b := Lib.hid (show decide (r ∈ ([59, 91, 40, 41, 46] : List Int)) = false by simpa using c3)
        have hall2 := Lib.hid (show (Sp.rl s g pos2).all Sp.goodR = (Sp.runes s).all Sp.goodR by rw [← hall.out, hr'.out, List.all_cons, hgood, Bool.true_and])
        have hcnt2 := Lib.hid (show (Sp.runes s).length = (k + 1 : Nat) + (Sp.rl s g pos2).length by rw [hcnt.out, hr'.out, List.length_cons]; omega)
        clear hall hcnt hr' c2 c3 hgood
        go_wp2_with fail
        refine hct.out.mono ?_
        rintro e w3 ⟨rfl, rfl⟩
        rw [c3b.out]
        have hit3 := (Lib.alloc_old w2 (.cells #[.int .i32 59, .int .i32 91, .int .i32 40, .int .i32 41, .int .i32 46] 21) w.heap.size hsz2).trans hit2
        go_wp2
        go_roundw
        case rel => exact ⟨pos2, g, k + 1, by go_num, hit3, hbw2.alloc (by omega) _, hall2, hcnt2, by omega, by omega⟩
        case measure =>
          simp only [World.iterPos, hit3, hit]
          omega
    · have hnx : ∀ ty, (Instr.next (.pointer (some ⟨w.heap.size, 0, none⟩)) true ty).run Tryz.prog wr = _ := fun ty => Lib.run_next_end_at wr w.heap.size s pos ty hit hp
      have hl : Hid ((Sp.runes s).length = k) := Lib.hid (by rw [hcnt.out, Sp.rl_end _ _ _ hp]; simp)
      have ha : Hid ((Sp.runes s).all Sp.goodR = true) := Lib.hid (by rw [← hall.out, Sp.rl_end _ _ _ hp]; rfl)
      have hR0 := Lib.hid (show R = (decide (0 < k) && decide (k ≤ 64) && V) by rw [HE.out, hl.out, ha.out]; simp)
      clear HE hall hcnt
      by_cases c1 : 0 < k ∧ k ≤ 64
      · have hR : Hid (R = V) := Lib.hid (by rw [hR0.out, decide_eq_true c1.1, decide_eq_true c1.2]; rfl)
        obtain ⟨c10, c11⟩ := c1
        clear hR0
        go_wp2_with fail
        refine (HV.out _ hbw).mono ?_
        rintro e w3 ⟨rfl, hb3⟩
        go_wp2
        go_ret
        exact ⟨by rw [hR.out]; rfl, below_then hbw (by omega) hb3⟩
      · have hR : Hid (R = false) := Lib.hid (by
          rw [hR0.out]
          by_cases c : 0 < k
          · rw [decide_eq_false (show ¬ k ≤ 64 by omega)]; simp
          · rw [decide_eq_false c]; simp)
        by_cases c : 0 < k
        · have c' : ¬ k ≤ 64 := by omega
          clear hR0 c1
          go_wp2
          go_ret
          exact ⟨by rw [hR.out]; rfl, hbw⟩
        · clear hR0 c1
          go_wp2
          go_ret
          exact ⟨by rw [hR.out]; rfl, hbw⟩

theorem runes_le (s : ByteArray) : (Sp.runes s).length ≤ s.size := by rw [Sp.runes_length]; exact Lib.runeCount_le s

theorem rdN_below {k : IntKind} {w w1 : World} {A : Option Addr} {xs : List Int} (h : RdN k w A xs) (hb : Below w.heap.size w w1) : RdN k w1 A xs := by
  refine ⟨h.1, fun h0 => ?_⟩
  obtain ⟨b, o, e, hc⟩ := h.2 h0
  exact ⟨b, o, e, fun j hj => cell_below hb (hc j hj)⟩

end Go.Proofs.YtfjplmbknegidaaGreatDoor
end
section
/-
  Walks of the reference's own decoder: crucibleref1.next, Runes and Name.
-/
set_option linter.unusedVariables false
set_option linter.unusedSimpArgs false
namespace Go.Proofs.YtfjplmbknegidaaGreatDoor
open Go.RowKit Go.Lib

namespace Sp
def contG (s : ByteArray) : Nat → Nat → Int → Option Int
  | 0, _, r => some r
  | f + 1, i, r => if 128 ≤ bt s i ∧ bt s i < 192 then contG s f (i + 1) (r * 64 + bt s i - 128) else none
def finN (n r : Int) : Int × Int := if n = 3 ∧ r < 2048 ∨ n = 4 ∧ (r < 65536 ∨ 1114111 < r) ∨ 55296 ≤ r ∧ r < 57344 then (0, 0) else (r, n)
def goN (s : ByteArray) (n : Nat) (r0 : Int) : Int × Int :=
  if s.size < n then (0, 0) else match contG s (n - 1) 1 r0 with | none => (0, 0) | some r => finN n r
/-- What the reference's next tells. -/
def refNext (s : ByteArray) : Int × Int :=
  if bt s 0 < 128 then (bt s 0, 1)
  else if 194 ≤ bt s 0 ∧ bt s 0 < 224 then goN s 2 (bt s 0 - 192)
  else if 224 ≤ bt s 0 ∧ bt s 0 < 240 then goN s 3 (bt s 0 - 224)
  else if 240 ≤ bt s 0 ∧ bt s 0 < 245 then goN s 4 (bt s 0 - 240)
  else (0, 0)
end Sp

theorem idx_str (s : ByteArray) (k : Nat) (hk : k < s.size) : ∀ W : World, (Instr.index 9 (.string s) (.int .i64 (k : Int))).run Tryz.prog W = .ok (.int .u8 (Sp.bt s k)) W := by
  intro W
  rw [run_index_string W 9 s .i64 _ Tryz.underlying9, dif_pos ⟨by omega, by omega⟩]
  simp only [Int.toNat_natCast, Sp.bt_in s k hk]
theorem idx_str0 (s : ByteArray) (hk : 0 < s.size) : ∀ W : World, (Instr.index 9 (.string s) (.int .i64 0)).run Tryz.prog W = .ok (.int .u8 (Sp.bt s 0)) W := idx_str s 0 hk

set_option maxHeartbeats 8000000 in
theorem refNext_any (s : ByteArray) (w : World) (h00 : 0 < s.size) (hs : s.size ≤ 140737488351232) :
    Calls Tryz.prog 122 #[.string s] w fun e w' => e = .returned (.tuple #[.int .i64 (Sp.refNext s).1, .int .i64 (Sp.refNext s).2]) ∧ w' = w := by
  have hb0 := Sp.bt_range s 0
  have hi0 := idx_str0 s h00
  have HE := Lib.hid (show Sp.refNext s = _ by rw [Sp.refNext])
  generalize Sp.refNext s = R at HE ⊢
  generalize hc : Sp.bt s 0 = c at *
  clear hc
  by_cases c1 : c < 128
  · have hR : Hid (R = (c, 1)) := Lib.hid (by rw [HE.out, if_pos c1])
    clear HE
    go_enter Tryz.func122, Tryz.ntmps122
    go_wp2
    go_ret2
    exact ⟨by rw [hR.out]; rfl, rfl⟩
  by_cases c2 : 194 ≤ c ∧ c < 224
  · have hR : Hid (R = Sp.goN s 2 (c - 192)) := Lib.hid (by rw [HE.out, if_neg c1, if_pos c2])
    clear HE
    obtain ⟨ca, cb⟩ := c2
    by_cases hn : s.size < 2
    · have hR2 : Hid (R = (0, 0)) := Lib.hid (by rw [hR.out, Sp.goN, if_pos hn])
      have hnz : (s.size : Int) < 2 := by omega
      clear hR
      go_enter Tryz.func122, Tryz.ntmps122
      go_wp2
      go_ret2
      exact ⟨by rw [hR2.out]; rfl, rfl⟩
    have hnz : ¬ (s.size : Int) < 2 := by omega
    have hR2 : Hid (R = match Sp.contG s 1 1 (c - 192) with | none => (0, 0) | some r => Sp.finN 2 r) := Lib.hid (by rw [hR.out, Sp.goN, if_neg hn]; rfl)
    clear hR
    go_enter Tryz.func122, Tryz.ntmps122
    go_wp2
    go_loop [6, 7] (fun v6 v7 => ∃ (k : Nat) (r : Int), v6 = .int .i64 r ∧ v7 = .int .i64 k ∧ 1 ≤ k ∧ k ≤ 2 ∧ 0 ≤ r ∧ r ≤ 100000000000 ∧ Hid (r < 32 * 64 ^ (k - 1)) ∧ Hid (Sp.contG s 1 1 (c - 192) = Sp.contG s (2 - k) k r)) (fun _ v7 => 2 - (RowKit.intOf v7).toNat)
    case atStart => exact ⟨1, c - 192, rfl, rfl, by omega, by omega, by omega, by omega, Lib.hid (by omega), Lib.hid rfl⟩
    case round =>
      obtain ⟨k, r, rfl, rfl, hk1, hk2, hr0, hr1, hrk, hcg⟩ := hrel
      by_cases hlt : k < 2
      · have hik := idx_str s k (by omega)
        have hbk := Sp.bt_range s k
        have hst := Lib.hid (show Sp.contG s 1 1 (c - 192) = if 128 ≤ Sp.bt s k ∧ Sp.bt s k < 192 then Sp.contG s (2 - (k + 1)) (k + 1) (r * 64 + Sp.bt s k - 128) else none by
          rw [hcg.out]
          obtain ⟨d, hd⟩ : ∃ d, 2 - k = d + 1 := ⟨2 - k - 1, by omega⟩
          rw [hd, show 2 - (k + 1) = d by omega, Sp.contG])
        clear hcg
        generalize hx : Sp.bt s k = x at *
        clear hx
        by_cases cx : 128 ≤ x ∧ x < 192
        · have hst2 := Lib.hid (show Sp.contG s 1 1 (c - 192) = Sp.contG s (2 - (k + 1)) (k + 1) (r * 64 + x - 128) by rw [hst.out, if_pos cx])
          obtain ⟨cxa, cxb⟩ := cx
          have hrk2 : r * 64 + x - 128 ≤ 100000000000 := by
            have := hrk.out
            have : k = 1 ∨ k = 2 ∨ k = 3 := by omega
            rcases this with rfl | rfl | rfl <;> omega
          have hrk3 := Lib.hid (show r * 64 + x - 128 < 32 * 64 ^ (k + 1 - 1) by
            have := hrk.out
            have : k = 1 ∨ k = 2 ∨ k = 3 := by omega
            rcases this with rfl | rfl | rfl <;> omega)
          clear hst
          go_wp2
          go_round
          case rel => exact ⟨k + 1, r * 64 + x - 128, by go_num, by go_num, by omega, by omega, by omega, by omega, hrk3, hst2⟩
          case measure => simp [RowKit.intOf]; omega
        · have hR3 : Hid (R = (0, 0)) := Lib.hid (by rw [hR2.out, hst.out, if_neg cx])
          clear hR2 hst
          by_cases cxa : x < 128
          · clear cx
            go_wp2
            go_ret2
            exact ⟨by rw [hR3.out]; rfl, rfl⟩
          · have cxb : 192 ≤ x := by omega
            clear cx
            go_wp2
            go_ret2
            exact ⟨by rw [hR3.out]; rfl, rfl⟩
      · obtain rfl : k = 2 := by omega
        have hR3 : Hid (R = Sp.finN 2 r) := Lib.hid (by rw [hR2.out, hcg.out]; rfl)
        clear hR2 hcg hlt hk1 hk2
        go_wp2
        all_goals go_ret2
        all_goals
          refine ⟨?_, rfl⟩
          rw [hR3.out]
          unfold Sp.finN
          repeat' split
          all_goals first | rfl | (exfalso; omega) | (exfalso; simp_all; done) | (exfalso; simp_all; omega)
  by_cases c3 : 224 ≤ c ∧ c < 240
  · have hR : Hid (R = Sp.goN s 3 (c - 224)) := Lib.hid (by rw [HE.out, if_neg c1, if_neg c2, if_pos c3])
    clear HE
    obtain ⟨ca, cb⟩ := c3
    by_cases hn : s.size < 3
    · have hR2 : Hid (R = (0, 0)) := Lib.hid (by rw [hR.out, Sp.goN, if_pos hn])
      have hnz : (s.size : Int) < 3 := by omega
      clear hR
      go_enter Tryz.func122, Tryz.ntmps122
      go_wp2
      go_ret2
      exact ⟨by rw [hR2.out]; rfl, rfl⟩
    have hnz : ¬ (s.size : Int) < 3 := by omega
    have hR2 : Hid (R = match Sp.contG s 2 1 (c - 224) with | none => (0, 0) | some r => Sp.finN 3 r) := Lib.hid (by rw [hR.out, Sp.goN, if_neg hn]; rfl)
    clear hR
    go_enter Tryz.func122, Tryz.ntmps122
    go_wp2
    go_loop [6, 7] (fun v6 v7 => ∃ (k : Nat) (r : Int), v6 = .int .i64 r ∧ v7 = .int .i64 k ∧ 1 ≤ k ∧ k ≤ 3 ∧ 0 ≤ r ∧ r ≤ 100000000000 ∧ Hid (r < 32 * 64 ^ (k - 1)) ∧ Hid (Sp.contG s 2 1 (c - 224) = Sp.contG s (3 - k) k r)) (fun _ v7 => 3 - (RowKit.intOf v7).toNat)
    case atStart => exact ⟨1, c - 224, rfl, rfl, by omega, by omega, by omega, by omega, Lib.hid (by omega), Lib.hid rfl⟩
    case round =>
      obtain ⟨k, r, rfl, rfl, hk1, hk2, hr0, hr1, hrk, hcg⟩ := hrel
      by_cases hlt : k < 3
      · have hik := idx_str s k (by omega)
        have hbk := Sp.bt_range s k
        have hst := Lib.hid (show Sp.contG s 2 1 (c - 224) = if 128 ≤ Sp.bt s k ∧ Sp.bt s k < 192 then Sp.contG s (3 - (k + 1)) (k + 1) (r * 64 + Sp.bt s k - 128) else none by
          rw [hcg.out]
          obtain ⟨d, hd⟩ : ∃ d, 3 - k = d + 1 := ⟨3 - k - 1, by omega⟩
          rw [hd, show 3 - (k + 1) = d by omega, Sp.contG])
        clear hcg
        generalize hx : Sp.bt s k = x at *
        clear hx
        by_cases cx : 128 ≤ x ∧ x < 192
        · have hst2 := Lib.hid (show Sp.contG s 2 1 (c - 224) = Sp.contG s (3 - (k + 1)) (k + 1) (r * 64 + x - 128) by rw [hst.out, if_pos cx])
          obtain ⟨cxa, cxb⟩ := cx
          have hrk2 : r * 64 + x - 128 ≤ 100000000000 := by
            have := hrk.out
            have : k = 1 ∨ k = 2 ∨ k = 3 := by omega
            rcases this with rfl | rfl | rfl <;> omega
          have hrk3 := Lib.hid (show r * 64 + x - 128 < 32 * 64 ^ (k + 1 - 1) by
            have := hrk.out
            have : k = 1 ∨ k = 2 ∨ k = 3 := by omega
            rcases this with rfl | rfl | rfl <;> omega)
          clear hst
          go_wp2
          go_round
          case rel => exact ⟨k + 1, r * 64 + x - 128, by go_num, by go_num, by omega, by omega, by omega, by omega, hrk3, hst2⟩
          case measure => simp [RowKit.intOf]; omega
        · have hR3 : Hid (R = (0, 0)) := Lib.hid (by rw [hR2.out, hst.out, if_neg cx])
          clear hR2 hst
          by_cases cxa : x < 128
          · clear cx
            go_wp2
            go_ret2
            exact ⟨by rw [hR3.out]; rfl, rfl⟩
          · have cxb : 192 ≤ x := by omega
            clear cx
            go_wp2
            go_ret2
            exact ⟨by rw [hR3.out]; rfl, rfl⟩
      · obtain rfl : k = 3 := by omega
        have hR3 : Hid (R = Sp.finN 3 r) := Lib.hid (by rw [hR2.out, hcg.out]; rfl)
        clear hR2 hcg hlt hk1 hk2
        go_wp2
        all_goals go_ret2
        all_goals
          refine ⟨?_, rfl⟩
          rw [hR3.out]
          unfold Sp.finN
          repeat' split
          all_goals first | rfl | (exfalso; omega) | (exfalso; simp_all; done) | (exfalso; simp_all; omega)
  by_cases c4 : 240 ≤ c ∧ c < 245
  · have hR : Hid (R = Sp.goN s 4 (c - 240)) := Lib.hid (by rw [HE.out, if_neg c1, if_neg c2, if_neg c3, if_pos c4])
    clear HE
    obtain ⟨ca, cb⟩ := c4
    by_cases hn : s.size < 4
    · have hR2 : Hid (R = (0, 0)) := Lib.hid (by rw [hR.out, Sp.goN, if_pos hn])
      have hnz : (s.size : Int) < 4 := by omega
      clear hR
      go_enter Tryz.func122, Tryz.ntmps122
      go_wp2
      go_ret2
      exact ⟨by rw [hR2.out]; rfl, rfl⟩
    have hnz : ¬ (s.size : Int) < 4 := by omega
    have hR2 : Hid (R = match Sp.contG s 3 1 (c - 240) with | none => (0, 0) | some r => Sp.finN 4 r) := Lib.hid (by rw [hR.out, Sp.goN, if_neg hn]; rfl)
    clear hR
    go_enter Tryz.func122, Tryz.ntmps122
    go_wp2
    go_loop [6, 7] (fun v6 v7 => ∃ (k : Nat) (r : Int), v6 = .int .i64 r ∧ v7 = .int .i64 k ∧ 1 ≤ k ∧ k ≤ 4 ∧ 0 ≤ r ∧ r ≤ 100000000000 ∧ Hid (r < 32 * 64 ^ (k - 1)) ∧ Hid (Sp.contG s 3 1 (c - 240) = Sp.contG s (4 - k) k r)) (fun _ v7 => 4 - (RowKit.intOf v7).toNat)
    case atStart => exact ⟨1, c - 240, rfl, rfl, by omega, by omega, by omega, by omega, Lib.hid (by omega), Lib.hid rfl⟩
    case round =>
      obtain ⟨k, r, rfl, rfl, hk1, hk2, hr0, hr1, hrk, hcg⟩ := hrel
      by_cases hlt : k < 4
      · have hik := idx_str s k (by omega)
        have hbk := Sp.bt_range s k
        have hst := Lib.hid (show Sp.contG s 3 1 (c - 240) = if 128 ≤ Sp.bt s k ∧ Sp.bt s k < 192 then Sp.contG s (4 - (k + 1)) (k + 1) (r * 64 + Sp.bt s k - 128) else none by
          rw [hcg.out]
          obtain ⟨d, hd⟩ : ∃ d, 4 - k = d + 1 := ⟨4 - k - 1, by omega⟩
          rw [hd, show 4 - (k + 1) = d by omega, Sp.contG])
        clear hcg
        generalize hx : Sp.bt s k = x at *
        clear hx
        by_cases cx : 128 ≤ x ∧ x < 192
        · have hst2 := Lib.hid (show Sp.contG s 3 1 (c - 240) = Sp.contG s (4 - (k + 1)) (k + 1) (r * 64 + x - 128) by rw [hst.out, if_pos cx])
          obtain ⟨cxa, cxb⟩ := cx
          have hrk2 : r * 64 + x - 128 ≤ 100000000000 := by
            have := hrk.out
            have : k = 1 ∨ k = 2 ∨ k = 3 := by omega
            rcases this with rfl | rfl | rfl <;> omega
          have hrk3 := Lib.hid (show r * 64 + x - 128 < 32 * 64 ^ (k + 1 - 1) by
            have := hrk.out
            have : k = 1 ∨ k = 2 ∨ k = 3 := by omega
            rcases this with rfl | rfl | rfl <;> omega)
          clear hst
          go_wp2
          go_round
          case rel => exact ⟨k + 1, r * 64 + x - 128, by go_num, by go_num, by omega, by omega, by omega, by omega, hrk3, hst2⟩
          case measure => simp [RowKit.intOf]; omega
        · have hR3 : Hid (R = (0, 0)) := Lib.hid (by rw [hR2.out, hst.out, if_neg cx])
          clear hR2 hst
          by_cases cxa : x < 128
          · clear cx
            go_wp2
            go_ret2
            exact ⟨by rw [hR3.out]; rfl, rfl⟩
          · have cxb : 192 ≤ x := by omega
            clear cx
            go_wp2
            go_ret2
            exact ⟨by rw [hR3.out]; rfl, rfl⟩
      · obtain rfl : k = 4 := by omega
        have hR3 : Hid (R = Sp.finN 4 r) := Lib.hid (by rw [hR2.out, hcg.out]; rfl)
        clear hR2 hcg hlt hk1 hk2
        go_wp2
        all_goals go_ret2
        all_goals
          refine ⟨?_, rfl⟩
          rw [hR3.out]
          unfold Sp.finN
          repeat' split
          all_goals first | rfl | (exfalso; omega) | (exfalso; simp_all; done) | (exfalso; simp_all; omega)
  have hR : Hid (R = (0, 0)) := Lib.hid (by rw [HE.out, if_neg c1, if_neg c2, if_neg c3, if_neg c4])
  have d1 : ¬ c < 128 := c1
  by_cases e : c < 194
  · clear HE c1 c2 c3 c4
    go_enter Tryz.func122, Tryz.ntmps122
    go_wp2
    go_ret2
    exact ⟨by rw [hR.out]; rfl, rfl⟩
  · have e2 : 245 ≤ c := by omega
    clear HE c1 c2 c3 c4
    go_enter Tryz.func122, Tryz.ntmps122
    go_wp2
    go_ret2
    exact ⟨by rw [hR.out]; rfl, rfl⟩
end Go.Proofs.YtfjplmbknegidaaGreatDoor
end
section
/-
  Walks of the reference's Runes and Name.
-/
set_option linter.unusedVariables false
set_option linter.unusedSimpArgs false
namespace Go.Proofs.YtfjplmbknegidaaGreatDoor
open Go.RowKit Go.Lib

/-- Numbers as the cells of a row. -/
def numk (k : IntKind) (xs : List Int) : List Value := xs.map (Value.int k)
theorem numk_append (k : IntKind) (xs ys : List Int) : numk k (xs ++ ys) = numk k xs ++ numk k ys := by simp [numk]
theorem numk_length (k : IntKind) (xs : List Int) : (numk k xs).length = xs.length := by simp [numk]

theorem own_slice {w : World} {base n : Nat} {e : TypeId} {size : Nat} {v : Value} {xs : List Value} (h : w.ownsRow base e size v n xs) : ∃ A c, v = .slice A n c := by
  rcases h.2 with ⟨hv, h0⟩ | ⟨g, cap, cur, hv, _⟩
  · exact ⟨none, 0, by rw [hv, h0]⟩
  · exact ⟨_, _, hv⟩
theorem own_max {w : World} {base n : Nat} {e : TypeId} {v : Value} {xs : List Value} (h : w.ownsRow base e 1 v n xs) : n ≤ 9223372036854775807 := by
  rcases h.2 with ⟨hv, h0⟩ | ⟨g, cap, cur, hv, h1, h2, h3, h4, h5⟩
  · omega
  · have := h4; unfold maxLen at this; omega
/-- What is owned is read. -/
theorem own_rdN {k : IntKind} {w : World} {base : Nat} {e : TypeId} {A : Option Addr} {n c : Nat} {xs : List Int} (h : w.ownsRow base e 1 (.slice A n c) n (numk k xs)) : n = xs.length ∧ RdN k w A xs := by
  have hl : xs.length = n := by have := h.1; simp [numk] at this; exact this
  have hm := own_max h
  refine ⟨hl.symm, by omega, fun h0 => ?_⟩
  obtain ⟨g, hA⟩ : ∃ g, A = some ⟨g, 0, none⟩ := by
    rcases h.2 with ⟨_, h1⟩ | ⟨g, cap, cur, hv, _⟩
    · omega
    · exact ⟨g, by injection hv⟩
  subst hA
  refine ⟨g, 0, rfl, fun j hj => ?_⟩
  have hc := h.cells (g := g) rfl j (.int k (xs.getD j 0)) (by simp [numk, List.getElem?_eq_getElem hj, List.getD_eq_getElem?_getD])
  rw [show (⟨g, 0, none⟩ : Addr).add j = ⟨g, 0 + j, none⟩ by unfold Addr.add; split <;> simp_all] at hc
  exact hc

namespace Sp
/-- What the reference's Runes tells. -/
def rB : Nat → ByteArray → List Int × Bool
  | 0, _ => ([], true)
  | f + 1, t =>
    if t.size = 0 then ([], true)
    else if (refNext t).2 = 0 then (65533 :: (rB f (t.extract 1 t.size)).1, false)
    else ((refNext t).1 :: (rB f (t.extract (refNext t).2.toNat t.size)).1, (rB f (t.extract (refNext t).2.toNat t.size)).2)
def refRunes (s : ByteArray) : List Int × Bool := rB s.size s
theorem finN_range (n r : Int) (hn : 0 ≤ n) : 0 ≤ (finN n r).2 ∧ (finN n r).2 ≤ n := by unfold finN; split <;> simp <;> omega
theorem goN_range (s : ByteArray) (n : Nat) (r0 : Int) : 0 ≤ (goN s n r0).2 ∧ (goN s n r0).2 ≤ n ∧ (goN s n r0).2 ≤ s.size := by
  unfold goN
  split
  · simp
  · split
    · simp
    · rename_i r _
      have := finN_range n r (by omega)
      omega
theorem refNext_range (s : ByteArray) (h : 0 < s.size) : 0 ≤ (refNext s).2 ∧ (refNext s).2 ≤ s.size := by
  unfold refNext
  repeat' split
  · simp; omega
  · have := goN_range s 2 (bt s 0 - 192); omega
  · have := goN_range s 3 (bt s 0 - 224); omega
  · have := goN_range s 4 (bt s 0 - 240); omega
  · simp
end Sp

theorem infoInt : (Tryz.prog.info? 3).map (fun i => (i.zero, i.size, i.bytes)) = some (some (.int .i64 0), 1, 8) := by kernel_rfl

set_option maxHeartbeats 8000000 in
set_option maxRecDepth 100000 in
theorem refRunes_own (s : ByteArray) (w : World) (hs : s.size ≤ 1099511627776) :
    Calls Tryz.prog 101 #[.string s] w fun e w' => ∃ v, e = .returned (.tuple #[v, .bool (Sp.refRunes s).2]) ∧ w'.ownsRow w.heap.size 3 1 v (Sp.refRunes s).1.length (numk .i64 (Sp.refRunes s).1) ∧ Below w.heap.size w w' := by
  obtain ⟨i0, hi, hz0, hz1, hz2⟩ := info_parts infoInt
  generalize hR : Sp.refRunes s = R
  have HR := Lib.hid (show Sp.rB s.size s = R from hR)
  clear hR
  go_enter Tryz.func101, Tryz.ntmps101
  go_wp2
  go_loopw [0, 4, 5] (fun v0 v4 v5 wr => ∃ (t : ByteArray) (f : Nat) (acc : List Int) (ok : Bool), v0 = .string t ∧ v5 = .bool ok ∧ wr.ownsRow w.heap.size 3 1 v4 acc.length (numk .i64 acc) ∧ Below w.heap.size w wr ∧ Hid (acc ++ (Sp.rB f t).1 = R.1) ∧ Hid ((ok && (Sp.rB f t).2) = R.2) ∧ t.size ≤ f ∧ acc.length + t.size ≤ s.size) (fun v0 _ _ _ => (strOf v0).size)
  case atStart => exact ⟨s, s.size, [], true, rfl, rfl, ⟨by simp [numk], .inl ⟨rfl, rfl⟩⟩, Below.refl _ _, Lib.hid (by rw [HR.out]; rfl), Lib.hid (by rw [HR.out]; rfl), by omega, by simp⟩
  case round =>
    obtain ⟨t, f, acc, ok, rfl, rfl, hown, hbw, hl, hk, hf, hal⟩ := hrel
    have hsz := hbw.size
    by_cases h0 : t.size = 0
    · have hz : ¬ (0 < (t.size : Int)) := by omega
      have hr1 := Lib.hid (show R.1 = acc by rw [← hl.out]; cases f <;> simp [Sp.rB, h0])
      have hr2 := Lib.hid (show R.2 = ok by rw [← hk.out]; cases f <;> simp [Sp.rB, h0])
      clear hl hk HR h0
      go_wp2
      go_ret2
      exact ⟨_, by rw [hr2.out]; rfl, by rw [hr1.out]; exact hown, hbw⟩
    obtain ⟨g, rfl⟩ : ∃ g, f = g + 1 := ⟨f - 1, by omega⟩
    have hpos : 0 < t.size := by omega
    have hz : (0 < (t.size : Int)) := by omega
    have hn := Lib.hid (refNext_any t wr hpos (by omega))
    have hrr := Sp.refNext_range t hpos
    have hl2 := Lib.hid (show acc ++ (if (Sp.refNext t).2 = 0 then (65533 :: (Sp.rB g (t.extract 1 t.size)).1, false) else ((Sp.refNext t).1 :: (Sp.rB g (t.extract (Sp.refNext t).2.toNat t.size)).1, (Sp.rB g (t.extract (Sp.refNext t).2.toNat t.size)).2)).1 = R.1 by rw [← hl.out, Sp.rB, if_neg h0])
    have hk2 := Lib.hid (show (ok && (if (Sp.refNext t).2 = 0 then (65533 :: (Sp.rB g (t.extract 1 t.size)).1, false) else ((Sp.refNext t).1 :: (Sp.rB g (t.extract (Sp.refNext t).2.toNat t.size)).1, (Sp.rB g (t.extract (Sp.refNext t).2.toNat t.size)).2)).2) = R.2 by rw [← hk.out, Sp.rB, if_neg h0])
    clear hl hk h0
    generalize Sp.refNext t = q at hn hrr hl2 hk2
    obtain ⟨r, n⟩ := q
    simp only at hn hrr hl2 hk2
    by_cases hn0 : n = 0
    · have hl3 := Lib.hid (show (acc ++ [65533]) ++ (Sp.rB g (t.extract 1 t.size)).1 = R.1 by rw [← hl2.out, if_pos hn0]; simp)
      have hk3 := Lib.hid (show (false && (Sp.rB g (t.extract 1 t.size)).2) = R.2 by rw [← hk2.out, if_pos hn0]; simp)
      have hnb : (n == 0) = true := by simpa using hn0
      clear hl2 hk2 hn0
      go_wp2_with fail
      refine hn.out.mono ?_
      rintro e w1 ⟨rfl, rfl⟩
      clear hn
      go_wp2_with (at_builtin; refine wpList_append_own _ rfl _ _ 23 rfl w.heap.size 3 i0 (.int .i64 0) 1 8 Tryz.underlying23 hi hz0 hz1 hz2 rfl (by decide) _ _ _ rfl (hown.alloc _) ⟨w1.heap.size, 0, none⟩ 1 1 (numk .i64 [65533]) rfl rfl ?c1 ?c2 ?c3 ?c4 ?c5 ?_)
      case c1 =>
        intro j u hj
        match j, hj with
        | 0, hj => simp [numk] at hj; subst hj; simp [Addr.add]
        | (j + 1), hj => simp [numk] at hj
      case c2 => intro u hu; simp [numk] at hu; subst hu; rfl
      case c3 => unfold maxLen; omega
      case c4 => omega
      case c5 => first | omega | (simp; omega)
      intro v' w3 hown' hgrow _
      have hb3 := (hbw.alloc (by omega) _).grown hgrow (by simp; omega) (fun q hq => own_base hown q hq)
      go_wp2
      go_roundw
      case rel =>
        have hx : (t.extract 1 t.size).size = t.size - 1 := by simp
        exact ⟨t.extract 1 t.size, g, acc ++ [65533], false, rfl, rfl, by rw [List.length_append, numk_append]; exact hown', hb3, hl3, hk3, by omega, by simp; omega⟩
      case measure => simp only [strOf]; simp; omega
    · have hl3 := Lib.hid (show (acc ++ [r]) ++ (Sp.rB g (t.extract n.toNat t.size)).1 = R.1 by rw [← hl2.out, if_neg hn0]; simp)
      have hk3 := Lib.hid (show (ok && (Sp.rB g (t.extract n.toNat t.size)).2) = R.2 by rw [← hk2.out, if_neg hn0])
      have hnb : (n == 0) = false := by simpa using hn0
      clear hl2 hk2
      obtain ⟨m, rfl⟩ : ∃ m : Nat, n = m := ⟨n.toNat, by omega⟩
      simp only [Int.toNat_natCast] at hl3 hk3
      have hm1 : 1 ≤ m := by omega
      have hms : m ≤ t.size := by omega
      clear hn0
      go_wp2_with fail
      refine hn.out.mono ?_
      rintro e w1 ⟨rfl, rfl⟩
      clear hn
      go_wp2_with (at_builtin; refine wpList_append_own _ rfl _ _ 23 rfl w.heap.size 3 i0 (.int .i64 0) 1 8 Tryz.underlying23 hi hz0 hz1 hz2 rfl (by decide) _ _ _ rfl (hown.alloc _) ⟨w1.heap.size, 0, none⟩ 1 1 (numk .i64 [r]) rfl rfl ?c1 ?c2 ?c3 ?c4 ?c5 ?_)
      case c1 =>
        intro j u hj
        match j, hj with
        | 0, hj => simp [numk] at hj; subst hj; simp [Addr.add]
        | (j + 1), hj => simp [numk] at hj
      case c2 => intro u hu; simp [numk] at hu; subst hu; rfl
      case c3 => unfold maxLen; omega
      case c4 => omega
      case c5 => first | omega | (simp; omega)
      intro v' w3 hown' hgrow _
      have hb3 := (hbw.alloc (by omega) _).grown hgrow (by simp; omega) (fun q hq => own_base hown q hq)
      go_wp2
      go_roundw
      case rel =>
        have hx : (t.extract m t.size).size = t.size - m := by simp
        exact ⟨t.extract m t.size, g, acc ++ [r], ok, rfl, rfl, by rw [List.length_append, numk_append]; exact hown', hb3, hl3, hk3, by omega, by simp; omega⟩
      case measure =>
        have hx : (t.extract m t.size).size = t.size - m := by simp
        simp only [strOf]; omega

theorem refRunes_any (s : ByteArray) (w : World) (hs : s.size ≤ 1099511627776) :
    Calls Tryz.prog 101 #[.string s] w fun e w' => ∃ A c, e = .returned (.tuple #[.slice A (Sp.refRunes s).1.length c, .bool (Sp.refRunes s).2]) ∧ RdN .i64 w' A (Sp.refRunes s).1 ∧ Below w.heap.size w w' := by
  refine (refRunes_own s w hs).mono fun e w' ⟨v, he, ho, hb⟩ => ?_
  obtain ⟨A, c, rfl⟩ := own_slice ho
  exact ⟨A, c, he, (own_rdN ho).2, hb⟩
end Go.Proofs.YtfjplmbknegidaaGreatDoor
end
section
/-
  Walk of the reference's Name.
-/
set_option linter.unusedVariables false
set_option linter.unusedSimpArgs false
namespace Go.Proofs.YtfjplmbknegidaaGreatDoor
open Go.RowKit Go.Lib

namespace Sp
def refNameS (s : ByteArray) : Bool := (refRunes s).2 && decide (1 ≤ (refRunes s).1.length) && decide ((refRunes s).1.length ≤ 64) && (refRunes s).1.all goodR
end Sp

set_option maxHeartbeats 8000000 in
set_option maxRecDepth 100000 in
theorem refName_any (s : ByteArray) (w : World) (hs : s.size ≤ 1099511627776) :
    Calls Tryz.prog 77 #[.string s] w fun e w' => e = .returned (.bool (Sp.refNameS s)) ∧ Below w.heap.size w w' := by
  have hq := Lib.hid (refRunes_any s w hs)
  have HE := Lib.hid (show Sp.refNameS s = _ by rw [Sp.refNameS])
  generalize Sp.refNameS s = R at HE ⊢
  generalize Sp.refRunes s = q at hq HE
  obtain ⟨l, ok⟩ := q
  simp only at hq HE
  go_enter Tryz.func77, Tryz.ntmps77
  go_wp2_with fail
  refine hq.out.mono ?_
  rintro e w1 ⟨A, c, rfl, ⟨hml, hrd⟩, hb1⟩
  clear hq
  have HC := Lib.hid hrd
  clear hrd
  cases ok with
  | false =>
    have hR : Hid (R = false) := Lib.hid (by rw [HE.out]; simp)
    clear HE
    go_wp2
    go_ret
    exact ⟨by rw [hR.out]; rfl, hb1⟩
  | true =>
    by_cases h1 : (l.length : Int) < 1
    · have hR : Hid (R = false) := Lib.hid (by rw [HE.out]; simp [show ¬ 1 ≤ l.length by omega])
      clear HE
      go_wp2
      go_ret
      exact ⟨by rw [hR.out]; rfl, hb1⟩
    by_cases h2 : 64 < (l.length : Int)
    · have hR : Hid (R = false) := Lib.hid (by rw [HE.out]; simp [show ¬ l.length ≤ 64 by omega])
      clear HE
      go_wp2
      go_ret
      exact ⟨by rw [hR.out]; rfl, hb1⟩
    have hR : Hid (R = l.all Sp.goodR) := Lib.hid (by rw [HE.out]; simp [show 1 ≤ l.length by omega, show l.length ≤ 64 by omega])
    have hll : (l.length : Int) ≤ 64 := by omega
    clear HE
    go_wp2
    go_loop [5] (fun n => ∃ k : Nat, k ≤ l.length ∧ n = .int .i64 k ∧ Hid ((l.drop k).all Sp.goodR = l.all Sp.goodR)) (fun n => l.length - (RowKit.intOf n).toNat)
    case atStart => exact ⟨0, Nat.zero_le _, rfl, Lib.hid (by simp)⟩
    case round =>
      obtain ⟨k, hk, rfl, hi⟩ := hrel
      by_cases hlt : k < l.length
      · obtain ⟨b, o, rfl, hcell⟩ := HC.out (by omega)
        have hck := hcell k hlt
        clear hcell
        have hd : Hid (l.drop k = l.getD k 0 :: l.drop (k + 1)) := Lib.hid (by rw [List.drop_eq_getElem_cons hlt]; simp [List.getD_eq_getElem?_getD, hlt])
        generalize l.getD k 0 = y at hck hd
        have hi2 := Lib.hid (show (Sp.goodR y && (l.drop (k + 1)).all Sp.goodR) = l.all Sp.goodR by rw [← hi.out, hd.out, List.all_cons])
        clear hi hd
        by_cases hg : Sp.goodR y = true
        · have hi3 := Lib.hid (show (l.drop (k + 1)).all Sp.goodR = l.all Sp.goodR by rw [← hi2.out, hg, Bool.true_and])
          simp only [Sp.goodR, Bool.and_eq_true, decide_eq_true_eq, Bool.not_eq_true', decide_eq_false_iff_not, List.mem_cons, List.not_mem_nil, or_false, not_or] at hg
          obtain ⟨⟨ha, hb⟩, hc1, hc2, hc3, hc4, hc5⟩ := hg
          have e1 : (y == 127) = false := by simpa using hb
          have e2 : (y == 59) = false := by simpa using hc1
          have e3 : (y == 91) = false := by simpa using hc2
          have e4 : (y == 40) = false := by simpa using hc3
          have e5 : (y == 41) = false := by simpa using hc4
          have e6 : (y == 46) = false := by simpa using hc5
          clear hi2 hb hc1 hc2 hc3 hc4 hc5
          go_wp2
          go_round
          case rel => exact ⟨k + 1, by omega, by go_num, hi3⟩
          case measure => simp [RowKit.intOf]; omega
        · have hR2 : Hid (R = false) := Lib.hid (by rw [hR.out, ← hi2.out]; simp [hg])
          have hbad : y ≤ 32 ∨ y = 127 ∨ y = 59 ∨ y = 91 ∨ y = 40 ∨ y = 41 ∨ y = 46 := by
            simp [Sp.goodR] at hg
            by_cases h32 : 32 < y
            · by_cases h127 : y = 127
              · exact .inr (.inl h127)
              · exact .inr (.inr (by have := hg h32 h127; omega))
            · exact .inl (by omega)
          clear hi2 hR hg
          rcases hbad with hy | rfl | rfl | rfl | rfl | rfl | rfl
          all_goals
            go_wp2
            go_ret
            exact ⟨by rw [hR2.out]; rfl, hb1⟩
      · have hR2 : Hid (R = true) := Lib.hid (by rw [hR.out, ← hi.out, List.drop_eq_nil_of_le (by omega)]; rfl)
        clear hi hR
        go_wp2
        go_ret
        exact ⟨by rw [hR2.out]; rfl, hb1⟩
end Go.Proofs.YtfjplmbknegidaaGreatDoor
end
section
/-
  Plain words for chapter 2's code: types and their texts, by lists of bytes.
-/
set_option linter.unusedVariables false
set_option linter.unusedSimpArgs false
namespace Go.Proofs.YtfjplmbknegidaaGreatDoor
open Go.RowKit Go.Lib
namespace Sp
/-- A string of bytes. -/
def B (l : List UInt8) : ByteArray := ⟨l.toArray⟩
theorem B_list (s : ByteArray) : B s.data.toList = s := rfl
theorem B_size (l : List UInt8) : (B l).size = l.length := by simp [B, ByteArray.size]
theorem B_data (l : List UInt8) : (B l).data.toList = l := by simp [B]
theorem B_append (a b : List UInt8) : B a ++ B b = B (a ++ b) := by
  apply ByteArray.ext
  rw [ByteArray.data_append]
  simp [B]
/-- A type: how many dimensions, its name. -/
abbrev Ty := Int × ByteArray
def tyV (t : Ty) : Value := .agg #[.int .i64 t.1, .string t.2]
def t0 : Ty := (0, ⟨#[]⟩)
def rightS (t : Ty) : Bool := decide (0 ≤ t.1) && decide (t.1 ≤ 4) && (decide (t.2.size = 0) || nameS t.2)
def elemS (t : Ty) : Ty × Bool := if rightS t = true ∧ t.1 ≠ 0 then ((t.1 - 1, t.2), true) else (t0, false)
def arrS (t : Ty) : Ty × Bool := if rightS t = true ∧ t.1 ≠ 4 then ((t.1 + 1, t.2), true) else (t0, false)
def isRefS (t : Ty) : Bool := rightS t && (decide (0 < t.1) || decide (t.2.size ≠ 0))
def nameB (n : ByteArray) : List UInt8 := if n.size = 0 then [73] else 76 :: n.data.toList ++ [59]
def writeS (t : Ty) : ByteArray × Int := if rightS t = true then (B (List.replicate t.1.toNat 91 ++ nameB t.2), 0) else (⟨#[]⟩, 9)
end Sp
end Go.Proofs.YtfjplmbknegidaaGreatDoor
end
section
/-
  Results that lie in a cell, cells of a world that grew.
-/
set_option linter.unusedVariables false
set_option linter.unusedSimpArgs false
namespace Go.Proofs.YtfjplmbknegidaaGreatDoor
open Go.RowKit Go.Lib

theorem str_empty (s : ByteArray) (h : s.size = 0) : s = ⟨#[]⟩ := by
  obtain ⟨⟨l⟩⟩ := s
  have : l = [] := List.eq_nil_of_length_eq_zero h
  rw [this]

theorem results_ct {fn : Func} {t u : Tmp} {ty : TypeId} (h : fn.results = #[.cell t ty, .tmp u]) (tmps : Array Value) (P : Program) (w : World) {p : Addr} (hp : tmps.getD t undef = .pointer (some p)) {v : Value} (hl : (loadVar ty p).run P w = .ok v w) :
    (results fn tmps).run P w = .ok (.tuple #[v, tmps.getD u undef]) w := by
  have hp' : tmps[t]?.getD undef = .pointer (some p) := by simpa using hp
  simp [results, h, Sem.run_bind, hp', asAddr, hl]

theorem results_c {fn : Func} {t : Tmp} {ty : TypeId} (h : fn.results = #[.cell t ty]) (tmps : Array Value) (P : Program) (w : World) {p : Addr} (hp : tmps.getD t undef = .pointer (some p)) {v : Value} (hl : (loadVar ty p).run P w = .ok v w) :
    (results fn tmps).run P w = .ok v w := by
  have hp' : tmps[t]?.getD undef = .pointer (some p) := by simpa using hp
  simp [results, h, Sem.run_bind, hp', asAddr, hl]

theorem results_ctt {fn : Func} {t u x : Tmp} {ty : TypeId} (h : fn.results = #[.cell t ty, .tmp u, .tmp x]) (tmps : Array Value) (P : Program) (w : World) {p : Addr} (hp : tmps.getD t undef = .pointer (some p)) {v : Value} (hl : (loadVar ty p).run P w = .ok v w) :
    (results fn tmps).run P w = .ok (.tuple #[v, tmps.getD u undef, tmps.getD x undef]) w := by
  have hp' : tmps[t]?.getD undef = .pointer (some p) := by simpa using hp
  simp [results, h, Sem.run_bind, hp', asAddr, hl]

theorem frozen_below {w w1 : World} (h : Below w.heap.size w w1) {a : Addr} {v : Value} (hc : w.cell? a = some v) {x : Bool} (hf : w.frozen? a = x) : w1.frozen? a = x := (h.frozen (World.block_lt_of_cell? w a hc)).trans hf

/-- Behind what only grew, the cells of the blocks that were made before stand. -/
theorem kept_cell {w0 w1 : World} (h : Below w0.heap.size w0 w1) (a : Addr) (v : Value) (hc : w0.cell? a = some v ∧ w0.frozen? a = false) : w1.cell? a = some v ∧ w1.frozen? a = false :=
  ⟨cell_below h hc.1, frozen_below h hc.1 hc.2⟩

theorem range2 {w : World} {b o : Nat} {x y : Value} (h0 : w.cell? ⟨b, o, none⟩ = some x) (h1 : w.cell? ⟨b, o + 1, none⟩ = some y) : w.rangeAt b o [x, y] := by
  intro j v hj
  match j, hj with
  | 0, hj => simp at hj; subst hj; exact h0
  | 1, hj => simp at hj; subst hj; exact h1
  | j + 2, hj => simp at hj

/-- A type, read out of its two cells. -/
theorem ty_load (w : World) (b o : Nat) {x y : Value} (h0 : w.cell? ⟨b, o, none⟩ = some x) (h1 : w.cell? ⟨b, o + 1, none⟩ = some y) : (loadVar 25 ⟨b, o, none⟩).run Tryz.prog w = .ok (.agg #[x, y]) w :=
  run_loadVar_mid w b o 25 [x, y] _ (range2 h0 h1) Tryz.underlying25 rfl (by kernel_rfl)
end Go.Proofs.YtfjplmbknegidaaGreatDoor
end
