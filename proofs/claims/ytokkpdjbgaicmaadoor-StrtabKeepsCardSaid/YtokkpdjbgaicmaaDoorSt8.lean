/-
  Walks of the statements' own small functions of chapter 16: pick, five, of, what of makes.
-/
import Derived.Test.YtokkpdjbgaicmaaDoorSt7
set_option linter.unusedVariables false
set_option linter.unusedSimpArgs false
namespace Go.Proofs.YtokkpdjbgaicmaaDoor
open Go.RowKit Go.Lib Go.Maps

namespace Sp
def pickS (c : Int) : Int := (if c < 0 then -(c + 1) else c) % 4
end Sp
set_option maxHeartbeats 4000000 in
theorem pick4_any (c : Int) (w : World) (h : -9223372036854775808 ≤ c ∧ c ≤ 9223372036854775807) :
    Calls Tryd.prog 7 #[.int .i64 c, .int .i64 4] w fun e w' => e = .returned (.int .i64 (Sp.pickS c)) ∧ w' = w := by
  obtain ⟨h0, h1⟩ := h
  by_cases hc : c < 0
  · have e1 : Sp.pickS c = (-(c + 1)).tmod 4 := by unfold Sp.pickS; rw [if_pos hc, Int.tmod_eq_emod_of_nonneg (by omega)]
    have hm : -(c + 1).tmod 4 = Sp.pickS c := by rw [e1, Int.neg_tmod]
    have hm2 := Lib.hid hm
    have hlo : -9223372036854775807 ≤ c + 1 := by omega
    clear e1 hm
    generalize Sp.pickS c = R at *
    go_enter Tryd.func7, Tryd.ntmps7
    go_wp2
    go_ret
    exact ⟨by rw [← hm2.out]; rfl, rfl⟩
  · have e1 : c % 4 = Sp.pickS c := by unfold Sp.pickS; rw [if_neg hc]
    have hm2 := Lib.hid e1
    have hlo : 0 ≤ c := by omega
    clear e1
    generalize Sp.pickS c = R at *
    go_enter Tryd.func7, Tryd.ntmps7
    go_wp2
    go_ret
    exact ⟨by rw [← hm2.out]; rfl, rfl⟩

def fiveG (a : Int) : Bool := decide (a = 5)
theorem five_any (a : Int) (w : World) :
    Calls Tryd.prog 20 #[.int .i64 a] w fun e w' => e = .returned (.bool (fiveG a)) ∧ w' = w := by
  have hb : (a == 5) = fiveG a := by unfold fiveG; rw [Bool.eq_iff_iff]; simp
  have hb2 := Lib.hid hb
  clear hb
  generalize fiveG a = R at *
  go_enter Tryd.func20, Tryd.ntmps20
  go_wp2
  go_ret
  exact ⟨by rw [← hb2.out]; rfl, rfl⟩
theorem five_gone (U : Nat → Prop) : Gone 20 #[] fiveG (fun _ _ => True) noS U :=
  ⟨fun k W a _ _ _ => (five_any a W).mono fun e W' ⟨h1, h2⟩ => ⟨h1, trivial, by subst h2; exact Keeps.refl _ _⟩, fun _ _ _ _ _ => trivial, fun args W => by kernel_rfl⟩

theorem of_any (A : Option Addr) (n c : Nat) (w : World) :
    Calls Tryd.prog 11 #[.slice A n c] w fun e w' => e = .returned (.func (.func 23) #[] #[.pointer (some ⟨w.heap.size, 0, none⟩)]) ∧ w' = w.alloc (.cells #[.slice A n c] 30) := by
  go_enter Tryd.func11, Tryd.ntmps11
  go_wp2
  go_ret
  exact ⟨rfl, rfl⟩

set_option maxHeartbeats 4000000 in
theorem of1_any (A : Option Addr) (c : Nat) (l : List Int) (a : Int) (b : Nat) (w : World) (hb : w.cell? ⟨b, 0, none⟩ = some (.slice A l.length c)) (hr : RdN .i64 w A l) :
    Calls Tryd.prog 23 #[.int .i64 a, .pointer (some ⟨b, 0, none⟩)] w fun e w' => e = .returned (.bool (Sp.isIn l a)) ∧ w' = w := by
  have hr1 := Lib.hid hr
  have hl := hr.1
  clear hr
  have HE := Lib.hid (show Sp.isIn l a = Sp.isIn (l.drop 0) a by simp)
  generalize Sp.isIn l a = R at HE ⊢
  go_enter Tryd.func23, Tryd.ntmps23
  go_wp2
  go_loop [4] (fun v4 => ∃ k : Nat, v4 = .int .i64 k ∧ k ≤ l.length ∧ Hid (R = Sp.isIn (l.drop k) a)) (fun v4 => l.length - (RowKit.intOf v4).toNat)
  case atStart => exact ⟨0, by go_num, Nat.zero_le _, HE⟩
  case round =>
    obtain ⟨k, rfl, hk, hX⟩ := hrel
    clear HE
    by_cases hlt : k < l.length
    · obtain ⟨g, o, rfl, hcell⟩ := hr1.out.2 (by omega)
      have d0 := hcell k hlt
      have hx := Lib.hid (show R = (decide (l.getD k 0 = a) || Sp.isIn (l.drop (k + 1)) a) by
        rw [hX.out, List.drop_eq_getElem_cons hlt, List.getD_eq_getElem?_getD, List.getElem?_eq_getElem hlt]; rfl)
      have hzk : (k : Int) < (l.length : Int) := by omega
      clear hcell hX
      generalize l.getD k 0 = x at *
      by_cases he : x = a
      · subst he
        have hR : R = true := by rw [hx.out]; simp
        subst hR
        clear hx
        go_wp2
        go_ret
        exact ⟨rfl, rfl⟩
      · have hb2 : (x == a) = false := by rw [beq_eq_false_iff_ne]; exact he
        have hX3 := Lib.hid (show R = Sp.isIn (l.drop (k + 1)) a by rw [hx.out, decide_eq_false he]; rfl)
        clear hx he
        go_wp2
        go_round
        case rel => exact ⟨k + 1, by go_num, by omega, hX3⟩
        case measure => simp [RowKit.intOf]; omega
    · obtain rfl : k = l.length := by omega
      have hzk : ¬ (l.length : Int) < (l.length : Int) := by omega
      have hR : R = false := by rw [hX.out, List.drop_length]; rfl
      subst hR
      clear hX
      go_wp2
      go_ret
      exact ⟨rfl, rfl⟩
/-- The numbers and the block that holds them. -/
def OfI (b : Nat) (A : Option Addr) (c : Nat) (l : List Int) (W : World) : Prop := W.cell? ⟨b, 0, none⟩ = some (.slice A l.length c) ∧ RdN .i64 W A l
theorem rdN_keeps {k : IntKind} {S : Nat → Prop} {w w1 : World} {A : Option Addr} {xs : List Int} (h : RdN k w A xs) (hk : Keeps S w w1) (hn : ∀ b o, A = some ⟨b, o, none⟩ → 0 < xs.length → ¬ S b) : RdN k w1 A xs := by
  refine ⟨h.1, fun h0 => ?_⟩
  obtain ⟨b, o, e, hc⟩ := h.2 h0
  exact ⟨b, o, e, fun j hj => hk.cell (hc j hj) (hn b o e h0)⟩
theorem of_gone (b : Nat) (A : Option Addr) (c : Nat) (l : List Int) (U : Nat → Prop) (hb : ¬ U b) (hA : ∀ g o, A = some ⟨g, o, none⟩ → 0 < l.length → ¬ U g) : Gone 23 #[.pointer (some ⟨b, 0, none⟩)] (Sp.isIn l) (fun _ W => OfI b A c l W) noS U :=
  ⟨fun k W a _ hI ha => (of1_any A c l a b W hI.1 hI.2).mono fun e W' ⟨h1, h2⟩ => ⟨h1, by subst h2; exact hI, by subst h2; exact Keeps.refl _ _⟩, fun k W W' hI hk => ⟨hk.cell hI.1 hb, rdN_keeps hI.2 hk hA⟩, fun args W => by kernel_rfl⟩
end Go.Proofs.YtokkpdjbgaicmaaDoor
