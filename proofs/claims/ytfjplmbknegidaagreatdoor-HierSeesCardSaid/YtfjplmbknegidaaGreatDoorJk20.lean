/-
  Texts of the proof, joined: each says at its head what it proves.
-/
import Derived.Test.YtfjplmbknegidaaGreatDoorJk19
import Derived.Test.YtfjplmbknegidaaGreatDoorJk10
import Derived.Test.YtfjplmbknegidaaGreatDoorJk7
import Derived.Maps.AppendAt
import Derived.Test.YtfjplmbknegidaaGreatDoorJk2
import Derived.Test.YtfjplmbknegidaaGreatDoorJk3
import Derived.Lib.AppendStr
section
/-
  Walk of chapter 6's fits.
-/
set_option linter.unusedVariables false
set_option linter.unusedSimpArgs false
namespace Go.Proofs.YtfjplmbknegidaaGreatDoor
open Go.RowKit Go.Lib Go.Maps

theorem Sp.getP (L : List Sp.ClP) (s : ByteArray) : ((Sp.findP L s).getD Sp.zP).1 = Sp.getC (L.map (·.1)) s := by
  cases hf : Sp.findP L s with
  | none => rw [Sp.getC_none (Sp.findP_none.1 hf)]; rfl
  | some m => rw [Sp.getC_some (Sp.findP_some hf)]; rfl
/-- What a class is not fit for, the tests one by one. -/
theorem Sp.kind_bool (L : List Sp.ClP) (c : Sp.Cl) : Sp.kindS (L.map (·.1)) c =
    if (Sp.findP L c.super).isSome = false then 14 else if c.ifaces.any (fun x => !(Sp.findP L x).isSome) = true then 14
    else if (((Sp.findP L c.super).getD Sp.zP).1.iface || (((Sp.findP L c.super).getD Sp.zP).1.name.toList == [83, 116, 114, 105, 110, 103]) || (((Sp.findP L c.super).getD Sp.zP).1.name.toList == [87, 101, 97, 107]) || (((Sp.findP L c.super).getD Sp.zP).1.name.toList == [76, 111, 97, 100, 101, 114]) || (c.iface && !(((Sp.findP L c.super).getD Sp.zP).1.name.toList == [79, 98, 106, 101, 99, 116]))) = true then 17
    else if c.ifaces.any (fun x => !((Sp.findP L x).getD Sp.zP).1.iface) = true then 17 else 0 := by
  unfold Sp.kindS
  cases hf : Sp.findP L c.super with
  | none => rw [Sp.findP_none.1 hf]; rfl
  | some m =>
    rw [Sp.findP_some hf]
    simp only [Option.isSome_some, Option.getD_some, Bool.true_eq_false, if_false]
    have h1 : (fun i => (Sp.findC (L.map (·.1)) i).isNone) = fun x => !(Sp.findP L x).isSome := funext fun i => by
      rw [Sp.findP_isSome]; cases Sp.findC (L.map (·.1)) i <;> rfl
    have h2 : (fun i => !(Sp.getC (L.map (·.1)) i).iface) = fun x => !((Sp.findP L x).getD Sp.zP).1.iface := funext fun i => by rw [Sp.getP]
    rw [h1, h2]
    have t1 : (m.1.name.toList == [83, 116, 114, 105, 110, 103]) = decide (m.1.name = ⟨#[83, 116, 114, 105, 110, 103]⟩) := by have := bytes_eqb m.1.name ⟨#[83, 116, 114, 105, 110, 103]⟩; rw [show (⟨#[83, 116, 114, 105, 110, 103]⟩ : ByteArray).toList = [83, 116, 114, 105, 110, 103] by decide +kernel] at this; exact this
    have t2 : (m.1.name.toList == [87, 101, 97, 107]) = decide (m.1.name = ⟨#[87, 101, 97, 107]⟩) := by have := bytes_eqb m.1.name ⟨#[87, 101, 97, 107]⟩; rw [show (⟨#[87, 101, 97, 107]⟩ : ByteArray).toList = [87, 101, 97, 107] by decide +kernel] at this; exact this
    have t3 : (m.1.name.toList == [76, 111, 97, 100, 101, 114]) = decide (m.1.name = ⟨#[76, 111, 97, 100, 101, 114]⟩) := by have := bytes_eqb m.1.name ⟨#[76, 111, 97, 100, 101, 114]⟩; rw [show (⟨#[76, 111, 97, 100, 101, 114]⟩ : ByteArray).toList = [76, 111, 97, 100, 101, 114] by decide +kernel] at this; exact this
    have t4 : (m.1.name.toList == [79, 98, 106, 101, 99, 116]) = decide (m.1.name = ⟨#[79, 98, 106, 101, 99, 116]⟩) := by have := bytes_eqb m.1.name ⟨#[79, 98, 106, 101, 99, 116]⟩; rw [show (⟨#[79, 98, 106, 101, 99, 116]⟩ : ByteArray).toList = [79, 98, 106, 101, 99, 116] by decide +kernel] at this; exact this
    simp only [t1, t2, t3, t4]
    have h3 : (m.1.iface = true ∨ m.1.name = ⟨#[83, 116, 114, 105, 110, 103]⟩ ∨ m.1.name = ⟨#[87, 101, 97, 107]⟩ ∨ m.1.name = ⟨#[76, 111, 97, 100, 101, 114]⟩ ∨ (c.iface = true ∧ m.1.name ≠ ⟨#[79, 98, 106, 101, 99, 116]⟩)) ↔ (m.1.iface || decide (m.1.name = ⟨#[83, 116, 114, 105, 110, 103]⟩) || decide (m.1.name = ⟨#[87, 101, 97, 107]⟩) || decide (m.1.name = ⟨#[76, 111, 97, 100, 101, 114]⟩) || (c.iface && !decide (m.1.name = ⟨#[79, 98, 106, 101, 99, 116]⟩))) = true := by
      simp [or_assoc]
    simp only [h3]

set_option maxHeartbeats 8000000 in
set_option maxRecDepth 100000 in
theorem fits_any (w : World) (tb mb : Nat) (A : Option Addr) (c : Nat) (L : List Sp.ClP) (m : Sp.ClP) (hH : HTab w tb mb A c L) (h1 : RdL Sp.strC w m.2.1 m.1.ifaces) (h2 : m.1.super.size ≤ 1099511627776 ∧ ∀ i ∈ m.1.ifaces, i.size ≤ 1099511627776) (h4 : m.1.ifaces.length ≤ 16) :
    Calls Tryz.prog 50 #[.pointer (some ⟨tb, 0, none⟩), Sp.clV m] w fun e w' => e = .returned (.int .i64 (Sp.kindS (L.map (·.1)) m.1)) ∧ Below w.heap.size w w' := by
  have HE := Lib.hid (Sp.kind_bool L m.1)
  generalize Sp.kindS (L.map (·.1)) m.1 = R at *
  obtain ⟨⟨cn, cs, ifs, ci, c2, c3, c4⟩, cA, cc⟩ := m
  unfold Sp.clV
  simp only at HE h1 h2 h4 ⊢
  obtain ⟨s2, s3⟩ := h2
  have c7 : Hid (∀ (W : World) (T : World), Below w.heap.size w W → True) := Lib.hid (fun _ _ _ => trivial)
  clear c7
  have kn : Hid (∀ (bt : Nat) (W : World), Below w.heap.size w W → W.heap[bt]? = some (.cells #[.pointer (some ⟨tb, 0, none⟩)] 27 (0, 0)) → Calls Tryz.prog 66 #[.slice cA ifs.length cc, .func (.func 67) #[] #[.pointer (some ⟨bt, 0, none⟩)]] W fun e w' => e = .returned (.bool (ifs.any (fun x => !(Sp.findP L x).isSome))) ∧ Below W.heap.size W w') := Lib.hid (fun bt W hb hbt =>
    containsFunc_any _ _ _ cA cc ifs W (rdL_below h1 hb) (by omega) (fun _ _ => by kernel_rfl) (fun x hx W2 hb2 => fits1_any W2 tb mb bt A c L x ((hH.below hb).below hb2) (blk_below hbt hb2) (s3 x hx)))
  have kf : Hid (∀ (bt : Nat) (W : World), Below w.heap.size w W → W.heap[bt]? = some (.cells #[.pointer (some ⟨tb, 0, none⟩)] 27 (0, 0)) → Calls Tryz.prog 66 #[.slice cA ifs.length cc, .func (.func 68) #[] #[.pointer (some ⟨bt, 0, none⟩)]] W fun e w' => e = .returned (.bool (ifs.any (fun x => !((Sp.findP L x).getD Sp.zP).1.iface))) ∧ Below W.heap.size W w') := Lib.hid (fun bt W hb hbt =>
    containsFunc_any _ _ _ cA cc ifs W (rdL_below h1 hb) (by omega) (fun _ _ => by kernel_rfl) (fun x hx W2 hb2 => fits2_any W2 tb mb bt A c L x ((hH.below hb).below hb2) (blk_below hbt hb2) (s3 x hx)))
  generalize ifs.any (fun x => !(Sp.findP L x).isSome) = N1 at *
  generalize ifs.any (fun x => !((Sp.findP L x).getD Sp.zP).1.iface) = N2 at *
  obtain ⟨m, hm⟩ : ∃ m, (Sp.findP L cs).getD Sp.zP = m := ⟨_, rfl⟩
  obtain ⟨⟨nm, su, is, b1, b2, b3, at_⟩, mA, mc⟩ := m
  have hv := Lib.hid (show Sp.clV ((Sp.findP L cs).getD Sp.zP) = .agg #[.string nm, .string su, .slice mA is.length mc, .bool b1, .bool b2, .bool b3, .int .i64 at_] by rw [hm]; rfl)
  rw [hm] at HE
  simp only at HE
  clear hm
  have hX1 := Lib.hid (blk_old (o := .cells #[.string cn, .string cs, .slice cA ifs.length cc, .bool ci, .bool c2, .bool c3, .int .i64 c4] 44) (blk_new w (.cells #[.pointer (some ⟨tb, 0, none⟩)] 27)))
  have hX2 := Lib.hid (blk_new (w.alloc (.cells #[.pointer (some ⟨tb, 0, none⟩)] 27)) (.cells #[.string cn, .string cs, .slice cA ifs.length cc, .bool ci, .bool c2, .bool c3, .int .i64 c4] 44))
  rw [show (w.alloc (.cells #[.pointer (some ⟨tb, 0, none⟩)] 27)).heap.size = w.heap.size + 1 by simp] at hX2
  have hb1 := Lib.hid (((Below.refl w.heap.size w).alloc (Nat.le_refl _) (.cells #[.pointer (some ⟨tb, 0, none⟩)] 27)).alloc (by simp) (.cells #[.string cn, .string cs, .slice cA ifs.length cc, .bool ci, .bool c2, .bool c3, .int .i64 c4] 44))
  have hz1 : ((w.alloc (.cells #[.pointer (some ⟨tb, 0, none⟩)] 27)).alloc (.cells #[.string cn, .string cs, .slice cA ifs.length cc, .bool ci, .bool c2, .bool c3, .int .i64 c4] 44)).heap.size = w.heap.size + 2 := by simp
  have hH1 := Lib.hid (hH.below hb1.out)
  have hH := Lib.hid hH
  go_enter Tryz.func50, Tryz.ntmps50
  go_upto_region 1 with fail
  generalize (w.alloc (.cells #[.pointer (some ⟨tb, 0, none⟩)] 27)).alloc (.cells #[.string cn, .string cs, .slice cA ifs.length cc, .bool ci, .bool c2, .bool c3, .int .i64 c4] 44) = W at *
  have hsm : cs.size ≤ maxLen := by unfold maxLen; omega
  have ha1 := (look_cl (mapV_drew hH1.out.mp) cs hsm).1
  have ha2 := (look_cl (mapV_drew (mapV_alloc hH1.out.mp (.cells #[.string ⟨#[]⟩, .string ⟨#[]⟩, .slice none 0 0, .bool false, .bool false, .bool false, .int .i64 0] 44))) cs hsm).1
  rw [hv.out] at ha1 ha2
  obtain ⟨p1, q1⟩ := blk_cell hH1.out.box 1 (.map (some mb)) rfl
  obtain ⟨p2, q2⟩ := blk_cell hX1.out 0 (.pointer (some ⟨tb, 0, none⟩)) rfl
  obtain ⟨p3, q3⟩ := blk_cell hX2.out 1 (.string cs) rfl
  have l1 := blk_lt hH1.out.box
  have l2 := blk_lt hX1.out
  have l3 := blk_lt hX2.out
  generalize (Sp.findP L cs).isSome = fs at *
  have hbw := Lib.hid (hb1.out.alloc hb1.out.size (.cells #[.string nm, .string su, .slice mA is.length mc, .bool b1, .bool b2, .bool b3, .int .i64 at_] 44)).drew
  have hX3 := Lib.hid (show ((W.alloc (.cells #[.string nm, .string su, .slice mA is.length mc, .bool b1, .bool b2, .bool b3, .int .i64 at_] 44)).drew).heap[w.heap.size]? = some (.cells #[.pointer (some ⟨tb, 0, none⟩)] 27 (0, 0)) from blk_old hX1.out)
  have hY3 := Lib.hid (show ((W.alloc (.cells #[.string nm, .string su, .slice mA is.length mc, .bool b1, .bool b2, .bool b3, .int .i64 at_] 44)).drew).heap[w.heap.size + 1]? = some (.cells #[.string cn, .string cs, .slice cA ifs.length cc, .bool ci, .bool c2, .bool c3, .int .i64 c4] 44 (0, 0)) from blk_old hX2.out)
  have hZ3 := Lib.hid (show ((W.alloc (.cells #[.string nm, .string su, .slice mA is.length mc, .bool b1, .bool b2, .bool b3, .int .i64 at_] 44)).drew).heap[W.heap.size]? = some (.cells #[.string nm, .string su, .slice mA is.length mc, .bool b1, .bool b2, .bool b3, .int .i64 at_] 44 (0, 0)) from blk_new W _)
  have hz1' := Lib.hid hz1
  clear hz1
  go_region
  all_goals
    clear ha1 ha2 p1 q1 p2 q2 p3 q3 l1 l2 l3
    clear hX1 hX2 hb1 hH1 hv
    generalize (W.alloc (.cells #[.string nm, .string su, .slice mA is.length mc, .bool b1, .bool b2, .bool b3, .int .i64 at_] 44)).drew = W3 at *
    obtain ⟨zb, hzb⟩ : ∃ z, W.heap.size = z := ⟨_, rfl⟩
    rw [hzb] at hZ3 ⊢
    clear hzb hz1'
    obtain ⟨u1, v1⟩ := blk_cell hY3.out 2 (.slice cA ifs.length cc) rfl
    have l2 := blk_lt hY3.out
    have l4 := blk_lt hX3.out
    cases fs with
    | false =>
      have hR : R = 14 := by rw [HE.out, if_pos rfl]
      subst hR
      clear HE kn kf
      go_wp2
      go_ret
      exact ⟨rfl, hbw.out⟩
    | true =>
      have HE2 := Lib.hid HE.out
      simp only [Bool.true_eq_false, if_false] at HE2
      clear HE
      go_wp2_with fail
      refine (kn.out _ _ hbw.out hX3.out).mono ?_
      rintro e w4 ⟨rfl, hb4⟩
      have hX4 := Lib.hid (blk_below hX3.out hb4)
      have hY4 := Lib.hid (blk_below hY3.out hb4)
      have hZ4 := Lib.hid (blk_below hZ3.out hb4)
      have hB4 := Lib.hid (below_then hbw.out hbw.out.size hb4)
      clear hX3 hY3 hZ3 hbw hb4 u1 v1 l2 l4 kn
      cases N1 with
      | true =>
        have hR : R = 14 := by rw [HE2.out, if_pos rfl]
        subst hR
        clear HE2 kf
        go_wp2
        go_ret
        exact ⟨rfl, hB4.out⟩
      | false =>
        have HE3 := Lib.hid HE2.out
        simp only [Bool.false_eq_true, if_false] at HE3
        clear HE2
        obtain ⟨y0, y1, y2, y3, y4, y5, y6⟩ := cells7 hY4.out
        obtain ⟨z0, z1, z2, z3, z4, z5, z6⟩ := cells7 hZ4.out
        have l2 := blk_lt hY4.out
        have l3 := blk_lt hZ4.out
        have l4 := blk_lt hX4.out
        have kf2 := Lib.hid (kf.out _ _ hB4.out hX4.out)
        clear kf hX4 hY4 hZ4
        have fin : ∀ {X : Prop}, X → X := fun h => h
        cases b1 with
        | true =>
          have hR : R = 17 := by rw [HE3.out, if_pos (by simp)]
          subst hR
          clear HE3 kf2 fin
          go_wp2
          go_ret
          exact ⟨rfl, hB4.out⟩
        | false =>
          cases e1 : (nm.toList == [83, 116, 114, 105, 110, 103]) with
          | true =>
            have hR : R = 17 := by rw [HE3.out, if_pos (by rw [e1]; simp)]
            subst hR
            clear HE3 kf2 fin
            go_wp2
            go_ret
            exact ⟨rfl, hB4.out⟩
          | false =>
            cases e2 : (nm.toList == [87, 101, 97, 107]) with
            | true =>
              have hR : R = 17 := by rw [HE3.out, if_pos (by rw [e2]; simp)]
              subst hR
              clear HE3 kf2 fin
              go_wp2
              go_ret
              exact ⟨rfl, hB4.out⟩
            | false =>
              cases e3 : (nm.toList == [76, 111, 97, 100, 101, 114]) with
              | true =>
                have hR : R = 17 := by rw [HE3.out, if_pos (by rw [e3]; simp)]
                subst hR
                clear HE3 kf2 fin
                go_wp2
                go_ret
                exact ⟨rfl, hB4.out⟩
              | false =>
                cases ci with
                | false =>
                  have HE4 := Lib.hid HE3.out
                  rw [e1, e2, e3, if_neg (by simp)] at HE4
                  clear HE3 fin
                  go_wp2_with fail
                  refine kf2.out.mono ?_
                  rintro e w5 ⟨rfl, hb5⟩
                  have hB5 := Lib.hid (below_then hB4.out hB4.out.size hb5)
                  clear hb5 kf2 y0 y1 y2 y3 y4 y5 y6 z0 z1 z2 z3 z4 z5 z6 l2 l3 l4
                  cases N2 with
                  | true =>
                    have hR : R = 17 := by rw [HE4.out, if_pos rfl]
                    subst hR
                    clear HE4
                    go_wp2
                    go_ret
                    exact ⟨rfl, hB5.out⟩
                  | false =>
                    have hR : R = 0 := by rw [HE4.out, if_neg (by simp)]
                    subst hR
                    clear HE4
                    go_wp2
                    go_ret
                    exact ⟨rfl, hB5.out⟩
                | true =>
                  cases e4 : (nm.toList == [79, 98, 106, 101, 99, 116]) with
                  | false =>
                    have hR : R = 17 := by rw [HE3.out, if_pos (by rw [e4]; simp)]
                    subst hR
                    clear HE3 kf2 fin
                    go_wp2
                    go_ret
                    exact ⟨rfl, hB4.out⟩
                  | true =>
                    have HE4 := Lib.hid HE3.out
                    rw [e1, e2, e3, e4, if_neg (by simp)] at HE4
                    clear HE3 fin
                    go_wp2_with fail
                    refine kf2.out.mono ?_
                    rintro e w5 ⟨rfl, hb5⟩
                    have hB5 := Lib.hid (below_then hB4.out hB4.out.size hb5)
                    clear hb5 kf2 y0 y1 y2 y3 y4 y5 y6 z0 z1 z2 z3 z4 z5 z6 l2 l3 l4
                    cases N2 with
                    | true =>
                      have hR : R = 17 := by rw [HE4.out, if_pos rfl]
                      subst hR
                      clear HE4
                      go_wp2
                      go_ret
                      exact ⟨rfl, hB5.out⟩
                    | false =>
                      have hR : R = 0 := by rw [HE4.out, if_neg (by simp)]
                      subst hR
                      clear HE4
                      go_wp2
                      go_ret
                      exact ⟨rfl, hB5.out⟩
end Go.Proofs.YtfjplmbknegidaaGreatDoor
end
section
/-
  Walks of chapter 3's put and puts.
-/
set_option linter.unusedVariables false
set_option linter.unusedSimpArgs false
namespace Go.Proofs.YtfjplmbknegidaaGreatDoor
open Go.RowKit Go.Lib

namespace Sp
/-- A number's last bytes, the greatest first. -/
def putL (n : Int) : Nat → List Int
  | 0 => []
  | m + 1 => n / 2 ^ (8 * m) % 256 :: putL n m
theorem putL_length (n : Int) (m : Nat) : (putL n m).length = m := by induction m with | zero => rfl | succ m ih => simp [putL, ih]
def putsL : List Int → List Int
  | [] => []
  | n :: l => putL n 2 ++ putsL l
end Sp
/-- Behind an append: which blocks a value may lie in. -/
structure Onto (v v' : Value) (w w' : World) : Prop where
  keeps : Keeps (fun i => v.ownBlock = some i) w w'
  at_ : ∀ k, v'.ownBlock = some k → v.ownBlock = some k ∨ w.heap.size ≤ k
theorem Onto.refl (v : Value) (w : World) : Onto v v w w := ⟨Keeps.refl _ _, fun _ h => .inl h⟩
theorem Onto.trans {a b c : Value} {w0 w1 w2 : World} (h : Onto a b w0 w1) (k : Onto b c w1 w2) : Onto a c w0 w2 :=
  ⟨h.keeps.then k.keeps (fun i q => h.at_ i q), fun i q => (k.at_ i q).elim (fun r => h.at_ i r) (fun r => .inr (Nat.le_trans h.keeps.size r))⟩
theorem Onto.below {v v' : Value} {w w' : World} {B : Nat} (h : Onto v v' w w') (hB : B ≤ w.heap.size) (hv : ∀ k, v.ownBlock = some k → B ≤ k) : Below B w w' := h.keeps.below hB hv

/-- A row that is owned; or one that is full (a literal's: it may bear a mark). -/
def RowG (w : World) (B : Nat) (v : Value) (n : Nat) (xs : List Value) : Prop :=
  w.ownsRow B 5 1 v n xs ∨ (xs.length = n ∧ ∃ g cur fz, v = .slice (some ⟨g, 0, none⟩) n n ∧ B ≤ g ∧ w.heap[g]? = some (.cells cur 5 fz) ∧ cur.toList = xs)
theorem RowG.base {w : World} {B : Nat} {v : Value} {n : Nat} {xs : List Value} (h : RowG w B v n xs) (k : Nat) (hk : v.ownBlock = some k) : B ≤ k := by
  rcases h with h | ⟨_, g, cur, fz, rfl, hb, _⟩
  · exact own_base h k hk
  · have : g = k := by simpa [Value.ownBlock] using hk
    omega
theorem RowG.alloc {w : World} {B : Nat} {v : Value} {n : Nat} {xs : List Value} (h : RowG w B v n xs) (o : Obj) : RowG (w.alloc o) B v n xs := by
  rcases h with h | ⟨hl, g, cur, fz, rfl, hb, hg, hx⟩
  · exact .inl (h.alloc _)
  · exact .inr ⟨hl, g, cur, fz, rfl, hb, blk_old hg, hx⟩

section
variable {P : Program} (w : World)
theorem run_append_rowG (base : Nat) (t ty : TypeId) (i : TypeInfo) (ht : P.underlying t = some (.slice 5)) (hi : P.info? 5 = some i) (hz : i.zero = some (.int .u8 0))
    (hsize : i.size = 1) (hby : i.bytes = 1) (v : Value) (n : Nat) (xs : List Value) (hown : RowG w base v n xs)
    (a : Addr) (m c : Nat) (news : List Value) (hl : news.length = m * 1) (hm : 0 < m) (hnews : ∀ j u, news[j]? = some u → w.cell? (a.add j) = some u) (h1 : ∀ u ∈ news, u.oneCell' = true)
    (h63 : n + m ≤ maxLen) (hbytes : (n + m) * 1 ≤ 140737488355328) (hbase : base ≤ w.heap.size) :
    ∃ v' w', (Builtin.append_ #[t, t] ty #[v, .slice (some a) m c]).run P w = .ok v' w' ∧ w'.ownsRow base 5 1 v' (n + m) (xs ++ news) ∧ w.grownBy w' v.ownBlock ∧
      (v'.ownBlock = v.ownBlock ∨ v'.ownBlock = some w.heap.size) := by
  rcases hown with hown | ⟨hxl, g, cur, fz, rfl, hbg, hg, hcx⟩
  · obtain ⟨v', w', r1, r2, r3, _, r5⟩ := run_append_own_at (P := P) w base t ty 5 i (.int .u8 0) 1 1 ht hi hz hsize hby rfl (by decide) v n xs hown a m c news hl hnews h1 h63 hbytes hbase
    exact ⟨v', w', r1, r2, r3, r5⟩
  · have holds : ∀ j u, xs[j]? = some u → w.cell? ((⟨g, 0, none⟩ : Addr).add j) = some u := by
      intro j u hj
      have e : (⟨g, 0, none⟩ : Addr).add j = ⟨g, j, none⟩ := by rw [Addr.add_mid, Nat.zero_add]
      rw [e, Lib.cell_of_heap hg j, ← hj, ← hcx, Array.getElem?_toList]
    have hlen : (xs ++ news).length = (n + m) * 1 := by rw [List.length_append, hxl, hl]; omega
    have hge := grownCap_ge w (n + m) n 5
    have hcm : grownCap w (n + m) n 5 ≤ maxLen := grownCap_le_maxLen w (n + m) n 5 h63
    have hr := run_append_grow (P := P) w t ty 5 i (.int .u8 0) ht hi hz ⟨g, 0, none⟩ n n xs (by rw [hsize, Nat.mul_one]; exact hxl) holds a m c news (by rw [hsize]; exact hl) hnews (by omega) (by simp only [maxLen] at h63; omega) (by rw [hby]; exact growslice_fits (by omega) hbytes)
    refine ⟨_, _, hr, ⟨hlen, .inr ⟨w.heap.size, _, _, rfl, hbase, heap_alloc_new w.drew _, hge, hcm, ?_, ?_⟩⟩, ⟨rfl, rfl, rfl, by simp, fun k hk _ => Below.heap_alloc w.drew _ k hk⟩, Or.inr rfl⟩
    · have hz1 : (Value.int IntKind.u8 0).cells.size = 1 := rfl
      simp only [Array.size_append, List.size_toArray, size_zeroCells, hz1, hxl, hl]
      omega
    · simp only [Array.toList_append, List.append_assoc]
      rw [← List.append_assoc, ← hlen]
      exact List.take_left
theorem wpList_append_rowG {ops : Array Oper} {rest : List Oper} {o : Oper} {a : Act} {Q : Exit → Act → World → Prop} (hgd : o.guard = none) (s x : Operand) (t : TypeId)
    (ho : o.op = .call { callee := .builtin .append, args := #[s, x], argTypes := #[t, t] })
    (base : Nat) (i : TypeInfo) (ht : P.underlying t = some (.slice 5)) (hi : P.info? 5 = some i) (hz : i.zero = some (.int .u8 0)) (hsize : i.size = 1) (hby : i.bytes = 1)
    (v : Value) (n : Nat) (xs : List Value) (hs : a.eval s = v) (hown : RowG w base v n xs)
    (ad : Addr) (m c : Nat) (news : List Value) (hx : a.eval x = .slice (some ad) m c) (hl : news.length = m * 1) (hm : 0 < m) (hnews : ∀ j u, news[j]? = some u → w.cell? (ad.add j) = some u) (h1 : ∀ u ∈ news, u.oneCell' = true)
    (h63 : n + m ≤ maxLen) (hbytes : (n + m) * 1 ≤ 140737488355328) (hbase : base ≤ w.heap.size)
    (h : ∀ v' w', w'.ownsRow base 5 1 v' (n + m) (xs ++ news) → w.grownBy w' v.ownBlock → (v'.ownBlock = v.ownBlock ∨ v'.ownBlock = some w.heap.size) → wpList P ops Q rest (a.put o.dst v') w') :
    wpList P ops Q (o :: rest) a w := by
  refine wpList_plain hgd fun K hK => ?_
  obtain ⟨v', w', hr, h2, h3, h5⟩ := run_append_rowG (P := P) w base t o.type i ht hi hz hsize hby v n xs hown ad m c news hl hm hnews h1 h63 hbytes hbase
  unfold Oper.wp execOp
  simp only [ho, resolve, invoke, builtin, Sem.run_bind, Sem.run_pure, Result.andThen_ok, List.map_toArray, List.map_cons, List.map_nil, hs, hx, hr]
  exact hK _ _ (h v' w' h2 h3 h5)
end

set_option maxHeartbeats 8000000 in
set_option maxRecDepth 100000 in
theorem put_any (B : Nat) (v : Value) (xs : List Int) (n : Int) (m : Nat) (w : World) (hown : RowG w B v xs.length (numc xs)) (hm : m ≤ 8) (hlen : xs.length ≤ 1000000000) (hB : B ≤ w.heap.size) :
    Calls Tryz.prog 80 #[v, .int .i64 n, .int .i64 m] w fun e w' => ∃ v', e = .returned v' ∧ (0 < m → w'.ownsRow B 5 1 v' (xs ++ Sp.putL n m).length (numc (xs ++ Sp.putL n m))) ∧ Onto v v' w w' := by
  obtain ⟨i0, hi, hz0, hz1, hz2⟩ := info_parts infoByte
  have hmz : (m : Int) ≤ 8 := by omega
  have ho := Lib.hid hown
  clear hown
  go_enter Tryz.func80, Tryz.ntmps80
  go_wp2
  go_loopw [0, 2] (fun v0 v2 wr => ∃ (j : Nat) (acc : List Int), v2 = .int .i64 ((j : Int) - 1) ∧ j ≤ m ∧ Hid (acc ++ Sp.putL n j = xs ++ Sp.putL n m) ∧ acc.length + j = xs.length + m ∧ RowG wr B v0 acc.length (numc acc) ∧ Hid (j < m → wr.ownsRow B 5 1 v0 acc.length (numc acc)) ∧ Hid (Onto v v0 w wr)) (fun _ v2 _ => (RowKit.intOf v2 + 1).toNat)
  case atStart => exact ⟨m, xs, rfl, Nat.le_refl _, Lib.hid rfl, rfl, ho.out, Lib.hid (fun q => absurd q (Nat.lt_irrefl _)), Lib.hid (Onto.refl _ _)⟩
  case round =>
    obtain ⟨j, acc, rfl, hj, hacc, hal, hown, hst, hon⟩ := hrel
    cases j with
    | zero =>
      have hf : acc = xs ++ Sp.putL n m := by have := hacc.out; simpa [Sp.putL] using this
      subst hf
      clear hacc ho hal
      go_wp2
      go_ret
      exact ⟨u0, rfl, hst.out, hon.out⟩
    | succ j =>
      have hjz : (0 : Int) ≤ (j : Int) := by omega
      have e1 : (((j + 1 : Nat) : Int) - 1) = (j : Int) := by omega
      rw [e1]
      clear e1
      have hj8 : (j : Int) ≤ 7 := by omega
      go_wp2_with (at_builtin; refine wpList_append_rowG _ rfl _ _ 114 rfl B i0 Tryz.underlying114 hi hz0 hz1 hz2 _ acc.length (numc acc) rfl (hown.alloc _) ⟨wr.heap.size, 0, none⟩ 1 1 (numc [n / 2 ^ (8 * j) % 256]) rfl rfl (by decide) ?x2 ?x3 ?x4 ?x5 ?x6 ?_)
      try case x2 =>
        intro q u hj
        match q, hj with
        | 0, hj => simp [numc] at hj; subst hj; simp [Addr.add]
        | (q + 1), hj => simp [numc] at hj
      try case x3 => first | (intro u hu; simp [numc] at hu; subst hu; rfl) | rfl
      try case x4 => unfold maxLen; omega
      try case x5 => omega
      try case x6 => have := hon.out.keeps.size; first | omega | (simp; omega)
      intro v' w3 hown' hg3 hat3
      have hon3 : Hid (Onto v v' w w3) := Lib.hid (hon.out.trans ⟨((Keeps.refl _ wr).alloc (.cells #[.int .u8 (n / 2 ^ (8 * j) % 256)] 5)).trans (Keeps.of_grown (S := fun i => u0.ownBlock = some i) hg3 (fun k hk => .inl hk)), fun k hk => hat3.elim (fun q => .inl (q ▸ hk)) (fun q => .inr (by rw [hk] at q; injection q with q; (try simp at q); omega))⟩)
      have hacc2 : Hid ((acc ++ [n / 2 ^ (8 * j) % 256]) ++ Sp.putL n j = xs ++ Sp.putL n m) := Lib.hid (by rw [← hacc.out, Sp.putL]; simp)
      rw [← numc_append] at hown'
      have hown2 : Hid (w3.ownsRow B 5 1 v' (acc ++ [n / 2 ^ (8 * j) % 256]).length (numc (acc ++ [n / 2 ^ (8 * j) % 256]))) := Lib.hid (by simpa using hown')
      clear hg3 hat3 hown hacc hown' hst
      go_wp2
      go_roundw
      case rel => exact ⟨j, acc ++ [n / 2 ^ (8 * j) % 256], by first | rfl | go_num, by omega, hacc2, by simp; omega, .inl hown2.out, Lib.hid (fun _ => hown2.out), hon3⟩
      case measure => first | (simp [RowKit.intOf]; done) | (simp [RowKit.intOf]; omega)
theorem own_max1 {w : World} {base : Nat} {e : TypeId} {n : Nat} {v : Value} {xs : List Value} (h : w.ownsRow base e 1 v n xs) : n ≤ 9223372036854775807 := own_max h

set_option maxHeartbeats 8000000 in
set_option maxRecDepth 100000 in
theorem puts_any (B : Nat) (v : Value) (xs : List Int) (A : Option Addr) (c : Nat) (l : List Int) (w : World) (hown : RowG w B v xs.length (numc xs)) (hr : RdN .i64 w A l) (hA : ∀ b o, A = some ⟨b, o, none⟩ → 0 < l.length → v.ownBlock ≠ some b) (hlen : xs.length + 2 * l.length ≤ 1000000000) (hB : B ≤ w.heap.size) :
    Calls Tryz.prog 79 #[v, .slice A l.length c] w fun e w' => ∃ v', e = .returned v' ∧ (w.ownsRow B 5 1 v xs.length (numc xs) ∨ 0 < l.length → w'.ownsRow B 5 1 v' (xs ++ Sp.putsL l).length (numc (xs ++ Sp.putsL l))) ∧ Onto v v' w w' := by
  have ho := Lib.hid hown
  have hr1 := Lib.hid hr
  have hl := hr.1
  have hA1 := Lib.hid hA
  clear hown hr hA
  go_enter Tryz.func79, Tryz.ntmps79
  go_wp2
  go_loopw [0, 9] (fun v0 v9 wr => ∃ (j : Nat) (acc : List Int), v9 = .int .i64 j ∧ j ≤ l.length ∧ Hid (acc ++ Sp.putsL (l.drop j) = xs ++ Sp.putsL l) ∧ acc.length = xs.length + 2 * j ∧ RowG wr B v0 acc.length (numc acc) ∧ Hid (w.ownsRow B 5 1 v xs.length (numc xs) ∨ 0 < j → wr.ownsRow B 5 1 v0 acc.length (numc acc)) ∧ Hid (Onto v v0 w wr)) (fun _ v9 _ => l.length - (RowKit.intOf v9).toNat)
  case atStart => exact ⟨0, xs, by go_num, Nat.zero_le _, Lib.hid (by simp), by simp, ho.out, Lib.hid (fun q => q.elim id (fun r => absurd r (Nat.lt_irrefl _))), Lib.hid (Onto.refl _ _)⟩
  case round =>
    obtain ⟨j, acc, rfl, hj, hacc, hal, hown, hst, hon⟩ := hrel
    have hsz := hon.out.keeps.size
    by_cases hlt : j < l.length
    · obtain ⟨b, o, rfl, hcell⟩ := hr1.out.2 (by omega)
      have d0 := hon.out.keeps.cell (hcell j hlt) (hA1.out b o rfl (by omega))
      have hd : Hid (Sp.putsL (l.drop j) = Sp.putL (l.getD j 0) 2 ++ Sp.putsL (l.drop (j + 1))) := Lib.hid (by rw [List.drop_eq_getElem_cons hlt, Sp.putsL]; simp [List.getD_eq_getElem?_getD, hlt])
      have hzj : (j : Int) < (l.length : Int) := by omega
      clear hcell
      generalize l.getD j 0 = x at *
      have kp := Lib.hid (put_any B u0 acc x 2 wr hown (by decide) (by omega) (by omega))
      go_wp2_with fail
      refine kp.out.mono ?_
      rintro e w3 ⟨v', rfl, hown0, hon'⟩
      have hown' := Lib.hid (hown0 (by decide))
      have hacc2 : Hid ((acc ++ Sp.putL x 2) ++ Sp.putsL (l.drop (j + 1)) = xs ++ Sp.putsL l) := Lib.hid (by rw [← hacc.out, hd.out]; simp)
      have hon3 := Lib.hid (hon.out.trans hon')
      have hl2 : (acc ++ Sp.putL x 2).length = xs.length + 2 * (j + 1) := by rw [List.length_append, Sp.putL_length]; omega
      clear hown hown0 hst hon hon' hacc hd d0 kp
      go_wp2
      go_roundw
      case rel => exact ⟨j + 1, acc ++ Sp.putL x 2, by go_num, by omega, hacc2, hl2, .inl hown'.out, Lib.hid (fun _ => hown'.out), hon3⟩
      case measure => simp [RowKit.intOf]; omega
    · obtain rfl : j = l.length := by omega
      have hzj : ¬ (l.length : Int) < (l.length : Int) := by omega
      have hf : acc = xs ++ Sp.putsL l := by have := hacc.out; rw [List.drop_length] at this; simpa [Sp.putsL] using this
      subst hf
      clear hacc ho hal
      go_wp2
      go_ret
      exact ⟨u0, rfl, by first | exact hst.out | exact (fun q => by have := hst.out q; rw [List.length_append] at this; exact this), hon.out⟩
end Go.Proofs.YtfjplmbknegidaaGreatDoor
end
section
/-
  Walks of the reference's three, Bytes and utf.
-/
set_option linter.unusedVariables false
set_option linter.unusedSimpArgs false
namespace Go.Proofs.YtfjplmbknegidaaGreatDoor
open Go.RowKit Go.Lib

theorem conv_lit (w : World) (l : List Int) (n : Nat) (C : Array Value) (hn : l.length = n) (hC : C = (numc l).toArray) :
    (convert 114 9 (.slice (some ⟨w.heap.size, 0, none⟩) n n)).run Tryz.prog (w.alloc (.cells C 5)) = .ok (.string (Go.strOfNums l)) (w.alloc (.cells C 5)) := by
  subst hC
  refine run_convert_bytes_arg _ 114 5 Tryz.underlying114 Tryz.underlying5 w.heap.size 0 n n l hn (fun i hi => ?_) 9 Tryz.underlying9
  have h1 : (w.alloc (.cells (numc l).toArray 5)).heap[w.heap.size]? = some (.cells (numc l).toArray 5 (0, 0)) := by
    show (w.heap.push _)[w.heap.size]? = _
    simp
  rw [Nat.zero_add]
  refine (Lib.cell_of_heap h1 i).trans ?_
  simp [numc, hn ▸ hi, List.getD_eq_getElem?_getD]

set_option maxHeartbeats 4000000 in
theorem refThree_any (r : Int) (w : World) (h0 : 0 ≤ r) (h1 : r < 65536) :
    Calls Tryz.prog 131 #[.int .i64 r] w fun e w' => e = .returned (.string (Go.strOfNums (Sp.three r))) ∧ Below w.heap.size w w' := by
  have hcv := conv_lit w (Sp.three r) 3 #[.int .u8 (224 + r / 4096), .int .u8 (128 + r / 64 % 64), .int .u8 (128 + r % 64)] rfl (by simp [numc, Sp.three])
  generalize Go.strOfNums (Sp.three r) = R at hcv ⊢
  go_enter Tryz.func131, Tryz.ntmps131
  go_wp2
  go_ret
  exact ⟨rfl, (Below.refl _ _).alloc (Nat.le_refl _) _⟩

theorem strOfNums_append (a b : List Int) : Go.strOfNums a ++ Go.strOfNums b = Go.strOfNums (a ++ b) := by
  apply ByteArray.ext
  apply Array.ext'
  simp [Go.strOfNums]

set_option maxHeartbeats 4000000 in
theorem refBytes_any (r : Int) (w : World) (h0 : 0 ≤ r) (h1 : r ≤ 1114111) :
    Calls Tryz.prog 114 #[.int .i64 r] w fun e w' => e = .returned (.string (Go.strOfNums (Sp.encZ r))) ∧ Below w.heap.size w w' := by
  by_cases c1 : 0 < r ∧ r < 128
  · have hcv := conv_lit w [r] 1 #[.int .u8 r] rfl (by simp [numc])
    have he : Sp.encZ r = [r] := by rw [Sp.encZ, if_pos c1]
    rw [he]
    clear he
    generalize Go.strOfNums [r] = R at hcv ⊢
    obtain ⟨ca, cb⟩ := c1
    have ca' : 1 ≤ r := by omega
    go_enter Tryz.func114, Tryz.ntmps114
    go_wp2
    go_ret
    exact ⟨rfl, (Below.refl _ _).alloc (Nat.le_refl _) _⟩
  by_cases c2 : r < 2048
  · have hcv := conv_lit w [192 + r / 64, 128 + r % 64] 2 #[.int .u8 (192 + r / 64), .int .u8 (128 + r % 64)] rfl (by simp [numc])
    have he : Sp.encZ r = [192 + r / 64, 128 + r % 64] := by rw [Sp.encZ, if_neg c1, if_pos c2]
    rw [he]
    clear he
    generalize Go.strOfNums [192 + r / 64, 128 + r % 64] = R at hcv ⊢
    by_cases c0 : 1 ≤ r
    · have c0b : ¬ r < 128 := by omega
      clear c1
      go_enter Tryz.func114, Tryz.ntmps114
      go_wp2
      go_ret
      exact ⟨rfl, (Below.refl _ _).alloc (Nat.le_refl _) _⟩
    · clear c1
      go_enter Tryz.func114, Tryz.ntmps114
      go_wp2
      go_ret
      exact ⟨rfl, (Below.refl _ _).alloc (Nat.le_refl _) _⟩
  have d1 : 1 ≤ r := by omega
  have d2 : ¬ r < 128 := by omega
  by_cases c3 : r < 65536
  · have he : Sp.encZ r = Sp.three r := by rw [Sp.encZ, if_neg c1, if_neg c2, if_pos c3]
    rw [he]
    clear he c1
    have h3 := Lib.hid (refThree_any r w h0 c3)
    generalize Go.strOfNums (Sp.three r) = R at h3 ⊢
    go_enter Tryz.func114, Tryz.ntmps114
    go_wp2_with fail
    refine h3.out.mono ?_
    rintro e w1 ⟨rfl, hb⟩
    go_wp2
    go_ret
    exact ⟨rfl, hb⟩
  · have he : Sp.encZ r = Sp.three (55296 + (r - 65536) / 1024) ++ Sp.three (56320 + (r - 65536) % 1024) := by rw [Sp.encZ, if_neg c1, if_neg c2, if_neg c3]
    rw [he, ← strOfNums_append]
    clear he c1
    have h3 := Lib.hid (refThree_any (55296 + (r - 65536) / 1024) w (by omega) (by omega))
    have h4 := Lib.hid (fun W => refThree_any (56320 + (r - 65536) % 1024) W (by omega) (by omega))
    have z1 : (Go.strOfNums (Sp.three (55296 + (r - 65536) / 1024))).size = 3 := by rw [strOfNums_size]; rfl
    have z2 : (Go.strOfNums (Sp.three (56320 + (r - 65536) % 1024))).size = 3 := by rw [strOfNums_size]; rfl
    generalize Go.strOfNums (Sp.three (55296 + (r - 65536) / 1024)) = R1 at h3 z1 ⊢
    generalize Go.strOfNums (Sp.three (56320 + (r - 65536) % 1024)) = R2 at h4 z2 ⊢
    have z3 : R1.size ≤ 3 := by omega
    have z4 : R2.size ≤ 3 := by omega
    have z5 : R1.size + R2.size ≤ 9223372036854775807 := by omega
    clear z1 z2
    go_enter Tryz.func114, Tryz.ntmps114
    go_wp2_with fail
    refine h3.out.mono ?_
    rintro e w1 ⟨rfl, hb⟩
    go_wp2_with fail
    refine (h4.out w1).mono ?_
    rintro e w2 ⟨rfl, hb2⟩
    go_wp2
    go_ret
    exact ⟨rfl, below_then hb hb.size hb2⟩
end Go.Proofs.YtfjplmbknegidaaGreatDoor
end
section
/-
  Walks of the reference's Encode and Make.
-/
set_option linter.unusedVariables false
set_option linter.unusedSimpArgs false
namespace Go.Proofs.YtfjplmbknegidaaGreatDoor
open Go.RowKit Go.Lib

theorem strCells_nums (l : List Int) (h : ∀ x ∈ l, 0 ≤ x ∧ x ≤ 255) : Lib.strCells (Go.strOfNums l) = numc l := by
  unfold Lib.strCells numc Go.strOfNums
  simp only [List.map_map]
  apply List.map_congr_left
  intro x hx
  have := h x hx
  simp only [Function.comp]
  have : x.toNat < 256 := by omega
  have e : (UInt8.ofNat x.toNat).toNat = x.toNat := by simp [UInt8.toNat_ofNat, Nat.mod_eq_of_lt this]
  rw [e]
  congr 1
  omega

theorem encZ_bytes (r : Int) (h0 : 0 ≤ r) (h1 : r ≤ 1114111) : ∀ x ∈ Sp.encZ r, 0 ≤ x ∧ x ≤ 255 := by
  intro x hx
  unfold Sp.encZ Sp.three at hx
  repeat' split at hx
  all_goals simp at hx
  all_goals omega

theorem runes_range (s : ByteArray) : ∀ r ∈ Sp.runes s, 0 ≤ r ∧ r ≤ 1114111 := Sp.rl_max s _ _

theorem infoByte1 : ∃ i0, Tryz.prog.info? 5 = some i0 ∧ i0.zero = some (.int .u8 0) ∧ i0.size = 1 ∧ i0.bytes = 1 := info_parts infoByte

set_option maxHeartbeats 8000000 in
set_option maxRecDepth 100000 in
theorem refEncode_any (s : ByteArray) (w : World) (hs : s.size ≤ 1099511627776) :
    Calls Tryz.prog 90 #[.string s] w fun e w' => e = .returned (.tuple #[.string (Sp.encS s).1, .int .i64 (Sp.encS s).2]) ∧ Below w.heap.size w w' := by
  obtain ⟨i0, hi, hz0, hz1, hz2⟩ := infoByte1
  have hq := Lib.hid (refRunes_any s w hs)
  have hrng := Lib.hid (runes_range s)
  have hlen := runes_le s
  have HE := Lib.hid (show Sp.encS s = _ by rw [Sp.encS])
  generalize Sp.encS s = R at HE ⊢
  rw [Sp.refRunes_eq] at hq
  simp only at hq
  generalize Sp.runes s = l at hq HE hrng hlen
  generalize validD s.data.toList = ok at hq HE
  go_enter Tryz.func90, Tryz.ntmps90
  go_wp2_with fail
  refine hq.out.mono ?_
  rintro e w1 ⟨A, c, rfl, hrd, hb1⟩
  clear hq
  have hml := hrd.1
  have hrd' := Lib.hid hrd
  clear hrd
  have hsz1 := hb1.size
  cases ok with
  | false =>
    have hR : Hid (R = (⟨#[]⟩, 4)) := Lib.hid (by rw [HE.out, if_pos rfl])
    clear HE
    go_wp2
    go_ret2
    exact ⟨by rw [hR.out]; rfl, hb1⟩
  | true =>
    have HR : Hid (R = if 65535 < (Sp.encL l).length then (⟨#[]⟩, 2) else (Go.strOfNums (Sp.encL l), 0)) := Lib.hid (by rw [HE.out, if_neg (by simp)])
    clear HE
    go_wp2
    go_loopw [6, 7] (fun v6 v7 wr => ∃ (k : Nat) (acc : List Int), v7 = .int .i64 k ∧ k ≤ l.length ∧ wr.ownsRow w1.heap.size 5 1 v6 acc.length (numc acc) ∧ Below w1.heap.size w1 wr ∧ Hid (acc ++ Sp.encL (l.drop k) = Sp.encL l) ∧ acc.length ≤ 6 * k) (fun _ v7 _ => l.length - (RowKit.intOf v7).toNat)
    case atStart => exact ⟨0, [], rfl, Nat.zero_le _, ⟨by simp [numc], .inl ⟨rfl, rfl⟩⟩, Below.refl _ _, Lib.hid (by simp), by simp⟩
    case round =>
      obtain ⟨k, acc, rfl, hk, hown, hbw, hacc, hal⟩ := hrel
      have hsz := hbw.size
      by_cases hlt : k < l.length
      · obtain ⟨b, o, rfl, hcell⟩ := (rdN_below hrd'.out hbw).2 (by omega)
        have hck := hcell k hlt
        clear hcell
        have hd : Hid (l.drop k = l.getD k 0 :: l.drop (k + 1)) := Lib.hid (by rw [List.drop_eq_getElem_cons hlt]; simp [List.getD_eq_getElem?_getD, hlt])
        have hy : 0 ≤ l.getD k 0 ∧ l.getD k 0 ≤ 1114111 := hrng.out _ (by simp [List.getD_eq_getElem?_getD, hlt])
        generalize l.getD k 0 = y at hck hd hy
        have hlz := Sp.encZ_length y
        have hcs := Lib.hid (strCells_nums (Sp.encZ y) (encZ_bytes y hy.1 hy.2))
        have hsl : (Go.strOfNums (Sp.encZ y)).size = (Sp.encZ y).length := strOfNums_size _
        have hB := Lib.hid (refBytes_any y wr hy.1 hy.2)
        have hacc2 := Lib.hid (show (acc ++ Sp.encZ y) ++ Sp.encL (l.drop (k + 1)) = Sp.encL l by rw [← hacc.out, hd.out]; simp [Sp.encL])
        clear hacc hd
        have hsb : (Go.strOfNums (Sp.encZ y)).size ≤ 6 := by omega
        have hsl' := Lib.hid hsl
        clear hsl
        generalize hS : Go.strOfNums (Sp.encZ y) = S at *
        clear hS
        go_wp2_with fail
        refine hB.out.mono ?_
        rintro e w2 ⟨rfl, hb2⟩
        clear hB
        have hown2 := hown.kept (w' := w2) (row := none) ⟨hb2.os, hb2.tape, hb2.output, hb2.size, fun i hi _ => hb2.block i hi⟩ (by cases u6.ownBlock <;> simp)
        have hbw2 := below_then hbw hsz hb2
        have hsz2 := hbw2.size
        clear hown hb2
        go_wp2_with (at_builtin; refine wpList_append_own_string _ rfl _ _ 114 9 rfl w1.heap.size 5 i0 Tryz.underlying114 Tryz.underlying9 hi hz0 hz1 hz2 _ _ _ rfl hown2 S rfl ?c1 ?c2 ?c3 ?_)
        case c1 => unfold maxLen; omega
        case c2 => omega
        case c3 => omega
        intro v' w3 hown' hgrow _
        have hb3 := hbw2.grown hgrow hsz2 (fun q hq => own_base hown2 q hq)
        rw [hcs.out, ← numc_append, hsl'.out] at hown'
        go_wp2
        go_roundw
        case rel => exact ⟨k + 1, acc ++ Sp.encZ y, by go_num, by omega, by rw [List.length_append]; exact hown', hb3, hacc2, by simp; omega⟩
        case measure => simp [RowKit.intOf]; omega
      · have hfin : Hid (Sp.encL l = acc) := Lib.hid (by rw [← hacc.out, List.drop_eq_nil_of_le (by omega)]; simp [Sp.encL])
        obtain ⟨A2, c2, rfl⟩ := own_slice hown
        have hbf := below_then hb1 hsz1 hbw
        by_cases hlen : 65535 < acc.length
        · have hR : Hid (R = (⟨#[]⟩, 2)) := Lib.hid (by rw [HR.out, hfin.out, if_pos hlen])
          have hlz : (65535 : Int) < (acc.length : Int) := by omega
          clear HR hfin hacc
          go_wp2
          go_ret2
          exact ⟨by rw [hR.out]; rfl, hbf⟩
        · have hR : Hid (R = (Go.strOfNums acc, 0)) := Lib.hid (by rw [HR.out, hfin.out, if_neg hlen])
          have hlz : ¬ (65535 : Int) < (acc.length : Int) := by omega
          have hconv := own_string (P := Tryz.prog) (src := 114) (dst := 9) Tryz.underlying114 Tryz.underlying5 Tryz.underlying9 hown
          clear HR hfin hacc
          go_wp2
          go_ret2
          exact ⟨by rw [hR.out]; rfl, hbf⟩
end Go.Proofs.YtfjplmbknegidaaGreatDoor
end
section
/-
  Plain words for the reference's Make and Decode, with no program in sight.
-/
set_option linter.unusedVariables false
set_option linter.unusedSimpArgs false
namespace Go.Proofs.YtfjplmbknegidaaGreatDoor
open Go.RowKit Go.Lib

/-- A scalar value. -/
def Scal (r : Int) : Prop := (0 ≤ r ∧ r < 55296) ∨ (57344 ≤ r ∧ r ≤ 1114111)


namespace Sp
instance (r : Int) : Decidable (Scal r) := inferInstanceAs (Decidable (_ ∨ _))
/-- What the reference's Make tells. -/
def utfL (l : List Int) : List Int := l.flatMap Lib.encodeRuneZ
def refMakeS (l : List Int) : ByteArray × Bool := if l.all (fun r => decide (Scal r)) then (Go.strOfNums (utfL l), true) else (⟨#[]⟩, false)
end Sp

namespace Sp
def refUnit (s : ByteArray) : Int :=
  if s.size < 3 ∨ ¬ (224 ≤ bt s 0 ∧ bt s 0 < 240) ∨ ¬ (128 ≤ bt s 1 ∧ bt s 1 < 192) ∨ ¬ (128 ≤ bt s 2 ∧ bt s 2 < 192) then -1
  else if (bt s 0 - 224) * 4096 + (bt s 1 - 128) * 64 + bt s 2 - 128 < 2048 then -1
  else (bt s 0 - 224) * 4096 + (bt s 1 - 128) * 64 + bt s 2 - 128
theorem refUnit_range (s : ByteArray) : -1 ≤ refUnit s ∧ refUnit s ≤ 65535 ∧ (0 ≤ refUnit s → 3 ≤ s.size ∧ 224 ≤ bt s 0) := by
  have := bt_range s 0; have := bt_range s 1; have := bt_range s 2
  unfold refUnit
  repeat' split
  all_goals omega
def refStep (b : ByteArray) : Int × Nat :=
  if 1 ≤ bt b 0 ∧ bt b 0 < 128 then (bt b 0, 1)
  else if 192 ≤ bt b 0 ∧ bt b 0 < 224 then
    if 1 < b.size ∧ 128 ≤ bt b 1 ∧ bt b 1 < 192 then
      if 1 ≤ (bt b 0 - 192) * 64 + bt b 1 - 128 ∧ (bt b 0 - 192) * 64 + bt b 1 - 128 < 128 then (-1, 2) else ((bt b 0 - 192) * 64 + bt b 1 - 128, 2)
    else (-1, 1)
  else if 55296 ≤ refUnit b ∧ refUnit b < 56320 then
    if 56320 ≤ refUnit (b.extract 3 b.size) ∧ refUnit (b.extract 3 b.size) < 57344 then (65536 + (refUnit b - 55296) * 1024 + refUnit (b.extract 3 b.size) - 56320, 6) else (-1, 1)
  else if 0 ≤ refUnit b ∧ (refUnit b < 56320 ∨ 57344 ≤ refUnit b) then (refUnit b, 3)
  else (-1, 1)
def refDecG : Nat → ByteArray → List Int → Option (List Int)
  | 0, _, _ => none
  | f + 1, b, acc =>
    if b.size = 0 then some acc
    else if (refStep b).1 < 0 then none
    else refDecG f (b.extract (refStep b).2 b.size) (acc ++ [(refStep b).1])
def refDecS (b : ByteArray) : ByteArray × Int :=
  if 65535 < b.size then (⟨#[]⟩, 2)
  else match refDecG (b.size + 1) b [] with
    | none => (⟨#[]⟩, 4)
    | some l => ((refMakeS l).1, 0)
end Sp

theorem refStep_range (b : ByteArray) (h : 0 < b.size) : (0 ≤ (Sp.refStep b).1 → (Sp.refStep b).2 ≤ b.size) ∧ 1 ≤ (Sp.refStep b).2 ∧ (Sp.refStep b).1 ≤ 2000000 ∧ -1 ≤ (Sp.refStep b).1 := by
  have := Sp.bt_range b 0; have := Sp.bt_range b 1
  have hu := Sp.refUnit_range b
  have hv := Sp.refUnit_range (b.extract 3 b.size)
  have hx : (b.extract 3 b.size).size = b.size - 3 := by simp
  unfold Sp.refStep
  repeat' split
  all_goals simp only []
  all_goals omega

end Go.Proofs.YtfjplmbknegidaaGreatDoor
end
