/-
  Walks of the reference's three, Bytes and utf.
-/
import Derived.Test.YthpfknlgfkecpaaDoorMwRname
set_option linter.unusedVariables false
set_option linter.unusedSimpArgs false
namespace Go.Proofs.YthpfknlgfkecpaaDoor
open Go.RowKit Go.Lib

theorem conv_lit (w : World) (l : List Int) (n : Nat) (C : Array Value) (hn : l.length = n) (hC : C = (numc l).toArray) :
    (convert 74 9 (.slice (some ⟨w.heap.size, 0, none⟩) n n)).run Tryd.prog (w.alloc (.cells C 5)) = .ok (.string (Go.strOfNums l)) (w.alloc (.cells C 5)) := by
  subst hC
  refine run_convert_bytes_arg _ 74 5 Tryd.underlying74 Tryd.underlying5 w.heap.size 0 n n l hn (fun i hi => ?_) 9 Tryd.underlying9
  have h1 : (w.alloc (.cells (numc l).toArray 5)).heap[w.heap.size]? = some (.cells (numc l).toArray 5 (0, 0)) := by
    show (w.heap.push _)[w.heap.size]? = _
    simp
  rw [Nat.zero_add]
  refine (Lib.cell_of_heap h1 i).trans ?_
  simp [numc, hn ▸ hi, List.getD_eq_getElem?_getD]

set_option maxHeartbeats 4000000 in
theorem refThree_any (r : Int) (w : World) (h0 : 0 ≤ r) (h1 : r < 65536) :
    Calls Tryd.prog 138 #[.int .i64 r] w fun e w' => e = .returned (.string (Go.strOfNums (Sp.three r))) ∧ Below w.heap.size w w' := by
  have hcv := conv_lit w (Sp.three r) 3 #[.int .u8 (224 + r / 4096), .int .u8 (128 + r / 64 % 64), .int .u8 (128 + r % 64)] rfl (by simp [numc, Sp.three])
  generalize Go.strOfNums (Sp.three r) = R at hcv ⊢
  go_enter Tryd.func138, Tryd.ntmps138
  go_wp2
  go_ret
  exact ⟨rfl, (Below.refl _ _).alloc (Nat.le_refl _) _⟩

theorem strOfNums_append (a b : List Int) : Go.strOfNums a ++ Go.strOfNums b = Go.strOfNums (a ++ b) := by
  apply ByteArray.ext
  apply Array.ext'
  simp [Go.strOfNums]

set_option maxHeartbeats 4000000 in
theorem refBytes_any (r : Int) (w : World) (h0 : 0 ≤ r) (h1 : r ≤ 1114111) :
    Calls Tryd.prog 123 #[.int .i64 r] w fun e w' => e = .returned (.string (Go.strOfNums (Sp.encZ r))) ∧ Below w.heap.size w w' := by
  by_cases c1 : 0 < r ∧ r < 128
  · have hcv := conv_lit w [r] 1 #[.int .u8 r] rfl (by simp [numc])
    have he : Sp.encZ r = [r] := by rw [Sp.encZ, if_pos c1]
    rw [he]
    clear he
    generalize Go.strOfNums [r] = R at hcv ⊢
    obtain ⟨ca, cb⟩ := c1
    have ca' : 1 ≤ r := by omega
    go_enter Tryd.func123, Tryd.ntmps123
    go_wp2
    go_ret
    exact ⟨rfl, (Below.refl _ _).alloc (Nat.le_refl _) _⟩
  by_cases c2 : r < 2048
  · have hcv := conv_lit w [192 + r / 64, 128 + r % 64] 2 #[.int .u8 (192 + r / 64), .int .u8 (128 + r % 64)] rfl (by simp [numc])
    have he : Sp.encZ r = [192 + r / 64, 128 + r % 64] := by rw [Sp.encZ, if_neg c1, if_pos c2]
    rw [he]
    clear he
    generalize Go.strOfNums [192 + r / 64, 128 + r % 64] = R at hcv ⊢
    by_cases c0 : 1 ≤ r
    · have c0b : ¬ r < 128 := by omega
      clear c1
      go_enter Tryd.func123, Tryd.ntmps123
      go_wp2
      go_ret
      exact ⟨rfl, (Below.refl _ _).alloc (Nat.le_refl _) _⟩
    · clear c1
      go_enter Tryd.func123, Tryd.ntmps123
      go_wp2
      go_ret
      exact ⟨rfl, (Below.refl _ _).alloc (Nat.le_refl _) _⟩
  have d1 : 1 ≤ r := by omega
  have d2 : ¬ r < 128 := by omega
  by_cases c3 : r < 65536
  · have he : Sp.encZ r = Sp.three r := by rw [Sp.encZ, if_neg c1, if_neg c2, if_pos c3]
    rw [he]
    clear he c1
    have h3 := Lib.hid (refThree_any r w h0 c3)
    generalize Go.strOfNums (Sp.three r) = R at h3 ⊢
    go_enter Tryd.func123, Tryd.ntmps123
    go_wp2_with fail
    refine h3.out.mono ?_
    rintro e w1 ⟨rfl, hb⟩
    go_wp2
    go_ret
    exact ⟨rfl, hb⟩
  · have he : Sp.encZ r = Sp.three (55296 + (r - 65536) / 1024) ++ Sp.three (56320 + (r - 65536) % 1024) := by rw [Sp.encZ, if_neg c1, if_neg c2, if_neg c3]
    rw [he, ← strOfNums_append]
    clear he c1
    have h3 := Lib.hid (refThree_any (55296 + (r - 65536) / 1024) w (by omega) (by omega))
    have h4 := Lib.hid (fun W => refThree_any (56320 + (r - 65536) % 1024) W (by omega) (by omega))
    have z1 : (Go.strOfNums (Sp.three (55296 + (r - 65536) / 1024))).size = 3 := by rw [strOfNums_size]; rfl
    have z2 : (Go.strOfNums (Sp.three (56320 + (r - 65536) % 1024))).size = 3 := by rw [strOfNums_size]; rfl
    generalize Go.strOfNums (Sp.three (55296 + (r - 65536) / 1024)) = R1 at h3 z1 ⊢
    generalize Go.strOfNums (Sp.three (56320 + (r - 65536) % 1024)) = R2 at h4 z2 ⊢
    have z3 : R1.size ≤ 3 := by omega
    have z4 : R2.size ≤ 3 := by omega
    have z5 : R1.size + R2.size ≤ 9223372036854775807 := by omega
    clear z1 z2
    go_enter Tryd.func123, Tryd.ntmps123
    go_wp2_with fail
    refine h3.out.mono ?_
    rintro e w1 ⟨rfl, hb⟩
    go_wp2_with fail
    refine (h4.out w1).mono ?_
    rintro e w2 ⟨rfl, hb2⟩
    go_wp2
    go_ret
    exact ⟨rfl, below_then hb hb.size hb2⟩
end Go.Proofs.YthpfknlgfkecpaaDoor
