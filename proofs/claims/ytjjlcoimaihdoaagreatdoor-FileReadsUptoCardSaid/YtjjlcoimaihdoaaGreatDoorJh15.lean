/-
  Texts of the proof, joined.
-/
import Derived.Test.YtjjlcoimaihdoaaGreatDoorJh11
import Derived.Test.YtjjlcoimaihdoaaGreatDoorJh14
import Derived.Test.YtjjlcoimaihdoaaGreatDoorJh10
import Derived.Test.YtjjlcoimaihdoaaGreatDoorJh2
import Derived.Test.YtjjlcoimaihdoaaGreatDoorJh1
import Derived.Test.YtjjlcoimaihdoaaGreatDoorJh4
import Derived.Deep.RegionHeld3
import Derived.Deep.RegionWith
import Derived.Deep.DeepCutAuto
import Derived.Deep.RegionLaw
import Derived.StillTailTactics
import Derived.Deep.AppendLies
import Derived.Test.YtjjlcoimaihdoaaGreatDoorJh7
import Derived.Test.YtjjlcoimaihdoaaGreatDoorJh5
set_option linter.unusedVariables false
set_option linter.unusedSimpArgs false
namespace Go.Proofs.YtjjlcoimaihdoaaGreatDoor
open Go.RowKit Go.Lib
namespace Sp
theorem encode_parts {F : Fl} (h : (encodeF F).2 = 0) : partsS F = 0 ∧ (encodeF F).1 = Go.strOfNums (bytesS F) := by
 unfold encodeF at h ⊢
 by_cases hp : partsS F = 0
 ·rw [if_neg (by simp [hp])] at h ⊢
  by_cases hb : 65536 < (bytesS F).length
  ·rw [if_pos hb] at h; cases h
  ·rw [if_neg hb]; exact ⟨hp, rfl⟩
 ·rw [if_pos hp] at h; exact absurd h hp
theorem encode_none {F : Fl} (h : ¬ (encodeF F).2 = 0) : (encodeF F).1 = ⟨#[]⟩ := by
 unfold encodeF at h ⊢
 by_cases hp : partsS F = 0
 ·rw [if_neg (by simp [hp])] at h ⊢
  by_cases hb : 65536 < (bytesS F).length
  ·rw [if_pos hb]
  ·rw [if_neg hb] at h; exact absurd rfl h
 ·rw [if_pos hp]
end Sp
set_option maxHeartbeats 4000000 in
set_option maxRecDepth 100000 in
theorem refFright_any (q : Sp.At) (F : FlP) (w : World) (hr : RdF w q F) (hF : FlOk F) (hlen : (Sp.bytesS F.fl).length ≤ 900000000) :
  Calls Tryz.prog 94 #[.agg (flC q F)] w fun e w' => e = .returned (.int .i64 (Sp.encodeF F.fl).2) ∧ Below w.heap.size w w' := by
 have hK := Lib.hid (blk_new w (.cells (flC q F) 26))
 have hB := (Below.refl w.heap.size w).alloc (Nat.le_refl _) (.cells (flC q F) 26)
 have KE : ∀ X : Array Value, X = flC q F → Hid (∀ W, Below w.heap.size w W → Calls Tryz.prog 177 #[.agg X] W fun e w' => e = .returned (.int .i64 (Sp.partsS F.fl)) ∧ Below W.heap.size W w') ∧ Hid (Sp.partsS F.fl = 0 → ∀ W, Below w.heap.size w W → Calls Tryz.prog 95 #[.agg X] W fun e w' => e = .returned (.string (Go.strOfNums (Sp.bytesS F.fl))) ∧ Below W.heap.size W w') := by
  rintro X rfl
  exact ⟨Lib.hid (fun W hb => refParts_any q F W (rdF_below hr hb) hF), Lib.hid (fun hp W hb => refFbytes_any q F W (rdF_below hr hb) hF hp hlen)⟩
 have HE := Lib.hid (show (Sp.encodeF F.fl).2 = _ by rw [Sp.encodeF])
 have HZ := Lib.hid (show (Go.strOfNums (Sp.bytesS F.fl)).size = (Sp.bytesS F.fl).length from Go.strOfNums_size _)
 generalize (Sp.encodeF F.fl).2 = R at HE ⊢
 generalize Sp.partsS F.fl = P at *
 generalize Go.strOfNums (Sp.bytesS F.fl) = BS at *
 generalize (Sp.bytesS F.fl).length = LL at *
 clear hr hF
 obtain ⟨pool, fl, th, su, ifs, flds, mths⟩ := F
 obtain ⟨qA, qc, qI, qd, qX, qe, qY, qg⟩ := q
 obtain ⟨kp, kb⟩ := KE #[.slice qA pool.length qc, .int .i64 fl, .int .i64 th, .int .i64 su, .slice qI ifs.length qd, .slice qX flds.length qe, .slice qY mths.length qg] rfl
 clear KE
 have hfl : flC ⟨qA, qc, qI, qd, qX, qe, qY, qg⟩ ⟨pool, fl, th, su, ifs, flds, mths⟩ = #[.slice qA pool.length qc, .int .i64 fl, .int .i64 th, .int .i64 su, .slice qI ifs.length qd, .slice qX flds.length qe, .slice qY mths.length qg] := rfl
 rw [hfl] at hK hB ⊢
 clear hfl
 (try simp only [] at kp kb)
 obtain ⟨c0, c1, c2, c3, c4, c5, c6⟩ := flC_box (q := ⟨qA, qc, qI, qd, qX, qe, qY, qg⟩) (F := ⟨pool, fl, th, su, ifs, flds, mths⟩) hK.out
 simp only [] at c0 c1 c2 c3 c4 c5 c6
 go_enter Tryz.func94, Tryz.ntmps94
 go_wp2_with fail
 refine (kp.out _ hB).mono ?_
 rintro e w1 ⟨rfl, hb1⟩
 have B1 := below_then hB hB.size hb1
 have K1 := Lib.hid (blk_below hK.out hb1)
 have z1 := B1.size
 clear hB hK hb1 kp c0 c1 c2 c3 c4 c5 c6
 by_cases hp : P = 0
 rotate_left
 ·have hpb : (P != 0) = true := by simp [hp]
  have hR : R = P := by rw [HE.out, if_pos hp]
  subst hR
  clear HE
  go_wp2
  go_ret
  exact ⟨rfl, B1⟩
 subst hp
 obtain ⟨c0, c1, c2, c3, c4, c5, c6⟩ := flC_box (q := ⟨qA, qc, qI, qd, qX, qe, qY, qg⟩) (F := ⟨pool, fl, th, su, ifs, flds, mths⟩) K1.out
 simp only [] at c0 c1 c2 c3 c4 c5 c6
 go_wp2_with fail
 refine (kb.out (by simp) _ B1).mono ?_
 rintro e w2 ⟨rfl, hb2⟩
 have B2 := below_then B1 z1 hb2
 have hz := HZ.out
 clear B1 K1 z1 hb2 kb HZ c0 c1 c2 c3 c4 c5 c6
 by_cases hq : 65536 < LL
 ·have hR : R = 2 := by rw [HE.out, if_neg (by simp), if_pos hq]
  have hzb : decide ((65536 : Int) < (BS.size : Int)) = true := decide_eq_true (by omega)
  subst hR
  clear HE
  go_wp2
  go_ret
  exact ⟨rfl, B2⟩
 ·have hR : R = 0 := by rw [HE.out, if_neg (by simp), if_neg hq]
  have hzb : decide ((65536 : Int) < (BS.size : Int)) = false := decide_eq_false (by omega)
  subst hR
  clear HE
  go_wp2
  go_ret
  exact ⟨rfl, B2⟩
set_option maxHeartbeats 4000000 in
set_option maxRecDepth 100000 in
theorem refFenc_any (q : Sp.At) (F : FlP) (w : World) (hr : RdF w q F) (hF : FlOk F) (hlen : (Sp.bytesS F.fl).length ≤ 900000000) :
  Calls Tryz.prog 23 #[.agg (flC q F)] w fun e w' => e = .returned (.tuple #[.string (Sp.encodeF F.fl).1, .int .i64 (Sp.encodeF F.fl).2]) ∧ Below w.heap.size w w' := by
 have hK := Lib.hid (blk_new w (.cells (flC q F) 26))
 have hB := (Below.refl w.heap.size w).alloc (Nat.le_refl _) (.cells (flC q F) 26)
 have KE : ∀ X : Array Value, X = flC q F → Hid (∀ W, Below w.heap.size w W → Calls Tryz.prog 94 #[.agg X] W fun e w' => e = .returned (.int .i64 (Sp.encodeF F.fl).2) ∧ Below W.heap.size W w') ∧ Hid (Sp.partsS F.fl = 0 → ∀ W, Below w.heap.size w W → Calls Tryz.prog 95 #[.agg X] W fun e w' => e = .returned (.string (Go.strOfNums (Sp.bytesS F.fl))) ∧ Below W.heap.size W w') := by
  rintro X rfl
  exact ⟨Lib.hid (fun W hb => refFright_any q F W (rdF_below hr hb) hF hlen), Lib.hid (fun hp W hb => refFbytes_any q F W (rdF_below hr hb) hF hp hlen)⟩
 have HE := Lib.hid (fun h => Sp.encode_parts (F := F.fl) h)
 have HN := Lib.hid (fun h => Sp.encode_none (F := F.fl) h)
 generalize Sp.encodeF F.fl = R at *
 generalize Sp.partsS F.fl = P at *
 generalize Go.strOfNums (Sp.bytesS F.fl) = BS at *
 obtain ⟨rb, re⟩ := R
 clear hr hF hlen
 obtain ⟨pool, fl, th, su, ifs, flds, mths⟩ := F
 obtain ⟨qA, qc, qI, qd, qX, qe, qY, qg⟩ := q
 obtain ⟨kp, kb⟩ := KE #[.slice qA pool.length qc, .int .i64 fl, .int .i64 th, .int .i64 su, .slice qI ifs.length qd, .slice qX flds.length qe, .slice qY mths.length qg] rfl
 clear KE
 have hfl : flC ⟨qA, qc, qI, qd, qX, qe, qY, qg⟩ ⟨pool, fl, th, su, ifs, flds, mths⟩ = #[.slice qA pool.length qc, .int .i64 fl, .int .i64 th, .int .i64 su, .slice qI ifs.length qd, .slice qX flds.length qe, .slice qY mths.length qg] := rfl
 rw [hfl] at hK hB ⊢
 clear hfl
 (try simp only [] at kp kb)
 obtain ⟨c0, c1, c2, c3, c4, c5, c6⟩ := flC_box (q := ⟨qA, qc, qI, qd, qX, qe, qY, qg⟩) (F := ⟨pool, fl, th, su, ifs, flds, mths⟩) hK.out
 simp only [] at c0 c1 c2 c3 c4 c5 c6
 go_enter Tryz.func23, Tryz.ntmps23
 go_wp2_with fail
 refine (kp.out _ hB).mono ?_
 rintro e w1 ⟨rfl, hb1⟩
 have B1 := below_then hB hB.size hb1
 have K1 := Lib.hid (blk_below hK.out hb1)
 have z1 := B1.size
 clear hB hK hb1 kp c0 c1 c2 c3 c4 c5 c6
 by_cases hp : re = 0
 rotate_left
 ·have hpb : (re != 0) = true := by simp [hp]
  have hR : rb = ⟨#[]⟩ := HN.out hp
  subst hR
  clear HE HN
  go_wp2
  (first | go_ret2 | go_ret)
  exact ⟨rfl, B1⟩
 subst hp
 obtain ⟨h0, h1⟩ := HE.out rfl
 have hR : rb = BS := h1
 subst hR
 obtain ⟨c0, c1, c2, c3, c4, c5, c6⟩ := flC_box (q := ⟨qA, qc, qI, qd, qX, qe, qY, qg⟩) (F := ⟨pool, fl, th, su, ifs, flds, mths⟩) K1.out
 simp only [] at c0 c1 c2 c3 c4 c5 c6
 clear HE HN
 go_wp2_with fail
 refine (kb.out h0 _ B1).mono ?_
 rintro e w2 ⟨rfl, hb2⟩
 have B2 := below_then B1 z1 hb2
 clear B1 K1 z1 hb2 kb c0 c1 c2 c3 c4 c5 c6
 go_wp2
 (first | go_ret2 | go_ret)
 exact ⟨rfl, B2⟩
theorem app_one {α : Type} {enc : α → List Value} {size bytes : Nat} {t e ty : TypeId} {i : TypeInfo} {z : Value} (ht : Tryz.prog.underlying t = some (.slice e)) (hi : Tryz.prog.info? e = some i) (hz : i.zero = some z) (hsz : i.size = size) (hby : i.bytes = bytes) (hzs : z.cells.size = size) (h0 : 0 < size)
  (henc : ∀ x, (enc x).length = size) (h1 : ∀ x, ∀ u ∈ enc x, u.oneCell' = true) (hb : bytes ≤ 1000) (W : World) (B : Nat) (A : Option Addr) (c : Nat) (acc : List α) (el : α) (C : Array Value) (hC : C.toList = enc el)
  (h : W.ownsRow B e size (.slice A acc.length c) acc.length (acc.flatMap enc)) (hl : acc.length ≤ 65535) (hB : B ≤ W.heap.size) :
  ∃ A' c' w5, (Builtin.append_ #[t, t] ty #[.slice A acc.length c, .slice (some ⟨W.heap.size, 0, none⟩) 1 1]).run Tryz.prog (W.alloc (.cells C e)) = .ok (.slice A' (acc ++ [el]).length c') w5 ∧ w5.ownsRow B e size (.slice A' (acc ++ [el]).length c') (acc ++ [el]).length ((acc ++ [el]).flatMap enc) ∧ Keeps (fun i => (Value.slice A acc.length c).ownBlock = some i) W w5 := by
 have hbb : (acc.length + 1) * bytes ≤ 140737488355328 := Nat.le_trans (Nat.mul_le_mul (show acc.length + 1 ≤ 65536 by omega) hb) (by decide)
 obtain ⟨v', w5, r1, r2, r3, _, _⟩ := run_append_own_at (P := Tryz.prog) (W.alloc (.cells C e)) B t ty e i z size bytes ht hi hz hsz hby hzs h0 _ acc.length (acc.flatMap enc) (h.alloc _) ⟨W.heap.size, 0, none⟩ 1 1 (enc el) (by rw [henc, Nat.one_mul]) (fun j u hj => by
  rw [Addr.add_mid, Nat.zero_add, Lib.cell_of_heap (blk_new W (.cells C e)) j, ← hj, ← hC, Array.getElem?_toList]) (h1 el) (by unfold maxLen; omega) hbb (by simp; omega)
 obtain ⟨A', c', rfl⟩ := own_sl r2
 have hlen : acc.length + 1 = (acc ++ [el]).length := by simp
 have hfl : acc.flatMap enc ++ enc el = (acc ++ [el]).flatMap enc := by rw [List.flatMap_append, List.flatMap_cons, List.flatMap_nil, List.append_nil]
 rw [hlen] at r1 r2
 rw [hfl] at r2
 exact ⟨A', c', w5, r1, r2, ((Keeps.refl _ W).alloc _).trans (Keeps.of_grown r3 (fun k hk => .inl hk))⟩
theorem cnC_one (x : Sp.Cn) : ∀ u ∈ Sp.cnC x, u.oneCell' = true := by
 intro u hu
 simp [Sp.cnC] at hu
 rcases hu with rfl | rfl | rfl | rfl | rfl | rfl <;> rfl
theorem intC_one (x : Int) : ∀ u ∈ intC x, u.oneCell' = true := by
 intro u hu
 simp [intC] at hu
 rcases hu with rfl
 rfl
theorem mbC_one (x : Sp.Mp) : ∀ u ∈ Sp.mbC x, u.oneCell' = true := by
 intro u hu
 simp [Sp.mbC] at hu
 rcases hu with rfl | rfl | rfl | rfl | rfl | rfl | rfl <;> rfl
theorem app_cn {ty : TypeId} (W : World) (B : Nat) (A : Option Addr) (c : Nat) (acc : List Sp.Cn) (el : Sp.Cn) (h : W.ownsRow B 145 6 (.slice A acc.length c) acc.length (acc.flatMap Sp.cnC)) (hl : acc.length ≤ 65535) (hB : B ≤ W.heap.size) :
  ∃ A' c' w5, (Builtin.append_ #[22, 22] ty #[.slice A acc.length c, .slice (some ⟨W.heap.size, 0, none⟩) 1 1]).run Tryz.prog (W.alloc (.cells #[.int .i64 el.tag, .string el.text, .int .i64 el.n, .int .i64 el.a, .int .i64 el.b, .int .i64 el.c] 145)) = .ok (.slice A' (acc ++ [el]).length c') w5 ∧ w5.ownsRow B 145 6 (.slice A' (acc ++ [el]).length c') (acc ++ [el]).length ((acc ++ [el]).flatMap Sp.cnC) ∧ Keeps (fun i => (Value.slice A acc.length c).ownBlock = some i) W w5 := by
 obtain ⟨i0, hi, hz0, hz1, hz2⟩ := info_parts infoCn
 exact app_one Tryz.underlying22 hi hz0 hz1 hz2 rfl (by decide) Sp.cnC_len cnC_one (by decide) W B A c acc el _ rfl h hl hB
theorem app_i {ty : TypeId} (W : World) (B : Nat) (A : Option Addr) (c : Nat) (acc : List Int) (el : Int) (h : W.ownsRow B 3 1 (.slice A acc.length c) acc.length (acc.flatMap intC)) (hl : acc.length ≤ 65535) (hB : B ≤ W.heap.size) :
  ∃ A' c' w5, (Builtin.append_ #[23, 23] ty #[.slice A acc.length c, .slice (some ⟨W.heap.size, 0, none⟩) 1 1]).run Tryz.prog (W.alloc (.cells #[.int .i64 el] 3)) = .ok (.slice A' (acc ++ [el]).length c') w5 ∧ w5.ownsRow B 3 1 (.slice A' (acc ++ [el]).length c') (acc ++ [el]).length ((acc ++ [el]).flatMap intC) ∧ Keeps (fun i => (Value.slice A acc.length c).ownBlock = some i) W w5 := by
 obtain ⟨i0, hi, hz0, hz1, hz2⟩ := info_parts infoI
 exact app_one Tryz.underlying23 hi hz0 hz1 hz2 rfl (by decide) (fun _ => rfl) intC_one (by decide) W B A c acc el _ rfl h hl hB
theorem app_mb {ty : TypeId} (W : World) (B : Nat) (A : Option Addr) (c : Nat) (acc : List Sp.Mp) (el : Sp.Mp) (h : W.ownsRow B 131 7 (.slice A acc.length c) acc.length (acc.flatMap Sp.mbC)) (hl : acc.length ≤ 65535) (hB : B ≤ W.heap.size) :
  ∃ A' c' w5, (Builtin.append_ #[24, 24] ty #[.slice A acc.length c, .slice (some ⟨W.heap.size, 0, none⟩) 1 1]).run Tryz.prog (W.alloc (.cells #[.int .i64 el.1.flags, .int .i64 el.1.name, .int .i64 el.1.desc, .int .i64 el.1.stack, .int .i64 el.1.locals, .string el.1.code, .slice el.2.1 el.1.hs.length el.2.2] 131)) = .ok (.slice A' (acc ++ [el]).length c') w5 ∧ w5.ownsRow B 131 7 (.slice A' (acc ++ [el]).length c') (acc ++ [el]).length ((acc ++ [el]).flatMap Sp.mbC) ∧ Keeps (fun i => (Value.slice A acc.length c).ownBlock = some i) W w5 := by
 obtain ⟨i0, hi, hz0, hz1, hz2⟩ := info_parts infoMb
 exact app_one Tryz.underlying24 hi hz0 hz1 hz2 rfl (by decide) Sp.mbC_len mbC_one (by decide) W B A c acc el _ rfl h hl hB
namespace Sp
theorem read_right (b : ByteArray) (hl : ¬ 65536 < b.size) (h : (bodyR (headR b).1 (headR b).2).2 = (⟨#[]⟩, 0)) : (encodeF (bodyR (headR b).1 (headR b).2).1).2 = partsS (bodyR (headR b).1 (headR b).2).1 ∧ (bytesS (bodyR (headR b).1 (headR b).2).1).length ≤ 65536 := by
 obtain ⟨a, c⟩ := body_inv _ _ (congrArg Prod.snd h)
 rw [nums_nil (congrArg Prod.fst h), List.append_nil] at c
 have hh := head_inv b a
 rw [← c] at hh
 have hz : (bytesS (bodyR (headR b).1 (headR b).2).1).length ≤ 65536 := by
  rw [← hh, nums_length]
  omega
 refine ⟨?_, hz⟩
 unfold encodeF
 by_cases hp : partsS (bodyR (headR b).1 (headR b).2).1 = 0
 ·rw [if_neg (by simp [hp]), if_neg (by omega), hp]
 ·rw [if_pos hp]
end Sp
theorem eval_same (a : Act) (i : Nat) (v : Value) (h : i < a.tmps.size) : (a.put (some i) v).eval (.tmp i) = v := by
 simp [Act.eval, Act.put, h]
theorem eval_other (a : Act) (i j : Nat) (v : Value) (h : i ≠ j) : (a.put (some i) v).eval (.tmp j) = a.eval (.tmp j) := by
 simp [Act.eval, Act.put, Array.getElem?_setIfInBounds, h]
theorem put_size (a : Act) (i : Nat) (v : Value) : (a.put (some i) v).tmps.size = a.tmps.size := by
 simp [Act.put]
def zeO0 : Oper := { dst := some 133, op := Go.Op.build 26 #[], type := 26, pos := "ref.go:420", after := #[], guard := none }
def zeO1 : Oper := { dst := some 134, op := Go.Op.move (Go.Operand.tmp 4), type := 252, pos := "ref.go:420", after := #[{ on := 5, ground := Go.Ground.gcOnly Go.Departure.lateStores }], guard := none }
def zeO2 : Oper := { dst := some 135, op := Go.Op.nilCheck (Go.Operand.tmp 134), type := 0, pos := "ref.go:420", after := #[{ on := 1, ground := Go.Ground.data }, { on := 5, ground := Go.Ground.gcOnly Go.Departure.lateStores }], guard := none }
def zeO3 : Oper := { dst := some 136, op := Go.Op.fieldAddr 254 (Go.Operand.tmp 135) 1, type := 0, pos := "ref.go:420", after := #[{ on := 2, ground := Go.Ground.data }, { on := 5, ground := Go.Ground.gcOnly Go.Departure.lateStores }], guard := none }
def zeO4 : Oper := { dst := some 137, op := Go.Op.load 30 (Go.Operand.tmp 136), type := 30, pos := "ref.go:420", after := #[{ on := 3, ground := Go.Ground.data }, { on := 5, ground := Go.Ground.gcOnly Go.Departure.lateStores }], guard := none }
def zeO5 : Oper := { dst := none, op := Go.Op.store 26 (Go.Operand.tmp 2) (Go.Operand.tmp 133), type := 0, pos := "ref.go:420", after := #[{ on := 0, ground := Go.Ground.data }, { on := 0, ground := Go.Ground.phase }, { on := 1, ground := Go.Ground.textOnly Go.Departure.lateStores }, { on := 2, ground := Go.Ground.textOnly Go.Departure.lateStores }, { on := 3, ground := Go.Ground.textOnly Go.Departure.lateStores }, { on := 4, ground := Go.Ground.textOnly Go.Departure.lateStores }], guard := none }
def zeO6 : Oper := { dst := some 3, op := Go.Op.assign (Go.Operand.tmp 137), type := 30, pos := "ref.go:420", after := #[{ on := 4, ground := Go.Ground.data }, { on := 5, ground := Go.Ground.chain }, { on := 0, ground := Go.Ground.phase }, { on := 1, ground := Go.Ground.phase }, { on := 2, ground := Go.Ground.phase }, { on := 3, ground := Go.Ground.phase }, { on := 4, ground := Go.Ground.phase }, { on := 5, ground := Go.Ground.phase }], guard := none }
def zeOps : Array Oper := #[zeO0, zeO1, zeO2, zeO3, zeO4, zeO5, zeO6]
set_option maxHeartbeats 4000000 in
set_option maxRecDepth 100000 in
theorem zero_err (a : Act) (w : World) (Q : Exit → Act → World → Prop) (zb rb : Nat) (s : ByteArray) (e : Int)
  (hQ : ∀ c (a : Act) d v w, Q (.panic c) (Act.put a d v) w → Q (.panic c) a w)
  (h2 : a.eval (.tmp 2) = .pointer (some ⟨zb, 0, none⟩)) (h4 : a.eval (.tmp 4) = .pointer (some ⟨rb, 0, none⟩)) (hsz : 140 < a.tmps.size)
  (hZ : w.heap[zb]? = some (.cells #[.slice none 0 0, .int .i64 0, .int .i64 0, .int .i64 0, .slice none 0 0, .slice none 0 0, .slice none 0 0] 26 (0, 0)))
  (hR : w.heap[rb]? = some (.cells #[.string s, .int .i64 e] 254 (0, 0))) (hne : rb ≠ zb)
  (h : ∀ w', w'.heap[zb]? = some (.cells #[.slice none 0 0, .int .i64 0, .int .i64 0, .int .i64 0, .slice none 0 0, .slice none 0 0, .slice none 0 0] 26 (0, 0)) → Keeps (fun k => k = zb) w w' →
   Q .normal (((((((a.put (some 134) (.pointer (some ⟨rb, 0, none⟩))).put (some 135) (.pointer (some ⟨rb, 0, none⟩))).put (some 136) (.pointer (some ⟨rb, 1, none⟩))).put (some 137) (.int .i64 e)).put (some 133) (.agg #[.slice none 0 0, .int .i64 0, .int .i64 0, .int .i64 0, .slice none 0 0, .slice none 0 0, .slice none 0 0])).put none undef).put (some 3) (.int .i64 e)) w') :
  (Code.region 32 zeOps true).wp Tryz.prog Q a w := by
 have r1 : w.drew.cell? ⟨rb, 1, none⟩ = some (.int .i64 e) := (blk_cell hR 1 _ rfl).1
 have hlr : rb < w.heap.size := blk_lt hR
 refine wp_region_held_drew (S := fun w' => w'.cell? ⟨rb, 1, none⟩ = some (.int .i64 e)) (by kernel_rfl) r1 (fun hS => ?_)
 refine wpAnyH_take (i := 1) (oi := zeO1) (v := .pointer (some ⟨rb, 0, none⟩)) rfl (by kernel_rfl) (by kernel_rfl) (by kernel_rfl) (fun _ _ _ h => hQ _ _ _ _ _ h) (Or.inl ⟨rfl, fun w' hw => ?_⟩) hS ?_
 ·simp only [execOp, zeO1, h4]
  rfl
 refine wpAnyH_take (i := 2) (oi := zeO2) (v := .pointer (some ⟨rb, 0, none⟩)) rfl (by kernel_rfl) (by kernel_rfl) (by kernel_rfl) (fun _ _ _ h => hQ _ _ _ _ _ h) (Or.inl ⟨rfl, fun w' hw => ?_⟩) hS ?_
 ·have : (a.put zeO1.dst (.pointer (some ⟨rb, 0, none⟩))).eval (.tmp 134) = .pointer (some ⟨rb, 0, none⟩) := eval_same a 134 _ (by omega)
  simp only [execOp, zeO2, this]
  rfl
 refine wpAnyH_take (i := 3) (oi := zeO3) (v := .pointer (some ⟨rb, 1, none⟩)) rfl (by kernel_rfl) (by kernel_rfl) (by kernel_rfl) (fun _ _ _ h => hQ _ _ _ _ _ h) (Or.inl ⟨rfl, fun w' hw => ?_⟩) hS ?_
 ·have : ((a.put zeO1.dst (.pointer (some ⟨rb, 0, none⟩))).put zeO2.dst (.pointer (some ⟨rb, 0, none⟩))).eval (.tmp 135) = .pointer (some ⟨rb, 0, none⟩) := eval_same _ 135 _ (by rw [show zeO1.dst = some 134 from rfl, put_size]; omega)
  simp only [execOp, zeO3, this]
  go_simp
 refine wpAnyH_take (i := 4) (oi := zeO4) (v := .int .i64 e) rfl (by kernel_rfl) (by kernel_rfl) (by kernel_rfl) (fun _ _ _ h => hQ _ _ _ _ _ h) (Or.inl ⟨rfl, fun w' hw => ?_⟩) hS ?_
 ·have : (((a.put zeO1.dst (.pointer (some ⟨rb, 0, none⟩))).put zeO2.dst (.pointer (some ⟨rb, 0, none⟩))).put zeO3.dst (.pointer (some ⟨rb, 1, none⟩))).eval (.tmp 136) = .pointer (some ⟨rb, 1, none⟩) := eval_same _ 136 _ (by rw [show zeO1.dst = some 134 from rfl, show zeO2.dst = some 135 from rfl, put_size, put_size]; omega)
  simp only [execOp, zeO4, this]
  go_simp
 have hmm : ∀ w' : World, (Instr.build 26 #[]).run Tryz.prog w' = .ok (.agg #[.slice none 0 0, .int .i64 0, .int .i64 0, .int .i64 0, .slice none 0 0, .slice none 0 0, .slice none 0 0]) w' := fun w' => by kernel_rfl
 refine wpAnyH_take (i := 0) (oi := zeO0) (v := .agg #[.slice none 0 0, .int .i64 0, .int .i64 0, .int .i64 0, .slice none 0 0, .slice none 0 0, .slice none 0 0]) rfl (by kernel_rfl) (by kernel_rfl) (by kernel_rfl) (fun _ _ _ h => hQ _ _ _ _ _ h) (Or.inl ⟨rfl, fun w' hw => ?_⟩) hS ?_
 ·simp only [execOp, zeO0]
  simp only [Array.map_empty, List.map_toArray, List.map_nil, Sem.run_bind, hmm, Result.andThen_ok, Sem.run_pure]
 rw [show zeO1.dst = some 134 from rfl, show zeO2.dst = some 135 from rfl, show zeO3.dst = some 136 from rfl, show zeO4.dst = some 137 from rfl, show zeO0.dst = some 133 from rfl]
 generalize ha : ((((a.put (some 134) (.pointer (some ⟨rb, 0, none⟩))).put (some 135) (.pointer (some ⟨rb, 0, none⟩))).put (some 136) (.pointer (some ⟨rb, 1, none⟩))).put (some 137) (.int .i64 e)).put (some 133) (.agg #[.slice none 0 0, .int .i64 0, .int .i64 0, .int .i64 0, .slice none 0 0, .slice none 0 0, .slice none 0 0]) = a1 at h ⊢
 have e2 : a1.eval (.tmp 2) = .pointer (some ⟨zb, 0, none⟩) := by
  rw [← ha, eval_other _ _ _ _ (by decide), eval_other _ _ _ _ (by decide), eval_other _ _ _ _ (by decide), eval_other _ _ _ _ (by decide), eval_other _ _ _ _ (by decide), h2]
 have e133 : a1.eval (.tmp 133) = .agg #[.slice none 0 0, .int .i64 0, .int .i64 0, .int .i64 0, .slice none 0 0, .slice none 0 0, .slice none 0 0] := by rw [← ha, eval_same _ _ _ (by simp only [put_size]; omega)]
 have e137 : a1.eval (.tmp 137) = .int .i64 e := by rw [← ha, eval_other _ _ _ _ (by decide), eval_same _ _ _ (by simp only [put_size]; omega)]
 refine wpAnyH_ready (rs := [5]) (by kernel_rfl) (by simp) ?_
 refine AllReadyH.cons (o := zeO5) rfl (fun K hK => ?_) AllReadyH.nil
 rw [if_pos (show Region.wanted zeO5 (yielded zeOps a1.tmps) = true from rfl)]
 have hZd : w.drew.heap[zb]? = some (.cells #[.slice none 0 0, .int .i64 0, .int .i64 0, .int .i64 0, .slice none 0 0, .slice none 0 0, .slice none 0 0] 26 (0, 0)) := hZ
 have hRd : w.drew.heap[rb]? = some (.cells #[.string s, .int .i64 e] 254 (0, 0)) := hR
 have hth : w.drew.there zb 0 7 := fun j hj => by
  rw [Nat.zero_add]
  have hj2 : j < (#[.slice none 0 0, .int .i64 0, .int .i64 0, .int .i64 0, .slice none 0 0, .slice none 0 0, .slice none 0 0] : Array Value).size := hj
  obtain ⟨q1, q2⟩ := blk_cell hZd j _ (Array.getElem?_eq_getElem hj2)
  exact ⟨by rw [q1]; rfl, q2⟩
 refine wp_store_mid (op := zeO5) 26 (.tmp 2) (.tmp 133) rfl zb 0 #[.slice none 0 0, .int .i64 0, .int .i64 0, .int .i64 0, .slice none 0 0, .slice none 0 0, .slice none 0 0] e2 e133 hth (by kernel_rfl) (by kernel_rfl) ?_
 have hW : w.drew.setCells zb 0 (#[.slice none 0 0, .int .i64 0, .int .i64 0, .int .i64 0, .slice none 0 0, .slice none 0 0, .slice none 0 0] : Array Value).toList = (((((((w.drew.setCell ⟨zb, 0, none⟩ (.slice none 0 0)).setCell ⟨zb, 1, none⟩ (.int .i64 0)).setCell ⟨zb, 2, none⟩ (.int .i64 0)).setCell ⟨zb, 3, none⟩ (.int .i64 0)).setCell ⟨zb, 4, none⟩ (.slice none 0 0)).setCell ⟨zb, 5, none⟩ (.slice none 0 0)).setCell ⟨zb, 6, none⟩ (.slice none 0 0)) := by simp only [World.setCells, Nat.zero_add, Nat.reduceAdd]
 rw [hW]
 have hZ2 := (blk_set (i := 6) (blk_set (i := 5) (blk_set (i := 4) (blk_set (i := 3) (blk_set (i := 2) (blk_set (i := 1) (blk_set (i := 0) hZd (.slice none 0 0)) (.int .i64 0)) (.int .i64 0)) (.int .i64 0)) (.slice none 0 0)) (.slice none 0 0)) (.slice none 0 0))
 have hR2 := (blk_other (blk_other (blk_other (blk_other (blk_other (blk_other (blk_other hRd ⟨zb, 0, none⟩ (.slice none 0 0) hne) ⟨zb, 1, none⟩ (.int .i64 0) hne) ⟨zb, 2, none⟩ (.int .i64 0) hne) ⟨zb, 3, none⟩ (.int .i64 0) hne) ⟨zb, 4, none⟩ (.slice none 0 0) hne) ⟨zb, 5, none⟩ (.slice none 0 0) hne) ⟨zb, 6, none⟩ (.slice none 0 0) hne)
 have hK2 := ((((((((Keeps.refl (fun k => k = zb) w).drew.setCell (a := ⟨zb, 0, none⟩) (.inl rfl) (.slice none 0 0)).setCell (a := ⟨zb, 1, none⟩) (.inl rfl) (.int .i64 0)).setCell (a := ⟨zb, 2, none⟩) (.inl rfl) (.int .i64 0)).setCell (a := ⟨zb, 3, none⟩) (.inl rfl) (.int .i64 0)).setCell (a := ⟨zb, 4, none⟩) (.inl rfl) (.slice none 0 0)).setCell (a := ⟨zb, 5, none⟩) (.inl rfl) (.slice none 0 0)).setCell (a := ⟨zb, 6, none⟩) (.inl rfl) (.slice none 0 0))
 clear hW
 generalize (((((((w.drew.setCell ⟨zb, 0, none⟩ (.slice none 0 0)).setCell ⟨zb, 1, none⟩ (.int .i64 0)).setCell ⟨zb, 2, none⟩ (.int .i64 0)).setCell ⟨zb, 3, none⟩ (.int .i64 0)).setCell ⟨zb, 4, none⟩ (.slice none 0 0)).setCell ⟨zb, 5, none⟩ (.slice none 0 0)).setCell ⟨zb, 6, none⟩ (.slice none 0 0)) = w2 at *
 have hS2 : w2.cell? ⟨rb, 1, none⟩ = some (.int .i64 e) := (blk_cell hR2 1 _ rfl).1
 refine hK.out _ _ hS2 (fun _ => ?_)
 refine wpAnyH_take (i := 6) (oi := zeO6) (v := .int .i64 e) rfl (by kernel_rfl) (by kernel_rfl) (by kernel_rfl) (fun _ _ _ h => hQ _ _ _ _ _ h) (Or.inl ⟨rfl, fun w' hw => ?_⟩) hS2 ?_
 ·have : (a1.put none undef).eval (.tmp 137) = .int .i64 e := e137
  simp only [execOp, zeO6, show zeO5.dst = none from rfl, this]
  rfl
 refine wpAnyH_done (by kernel_rfl) ?_ _
 exact h w2 hZ2 hK2
set_option maxHeartbeats 16000000 in
set_option maxRecDepth 100000 in
theorem qparse_any (b : ByteArray) (w : World) (hb : b.size ≤ 1099511627776) :
  Calls Tryz.prog 92 #[.string b] w fun x w' => ∃ q F, F.fl = (Sp.parseS b).1 ∧ x = .returned (.tuple #[.agg (flC q F), .int .i64 (Sp.parseS b).2]) ∧ RdF w' q F ∧ Below w.heap.size w w' := by
 by_cases hlong : 65536 < b.size
 ·have hz : (65536 : Int) < (b.size : Int) := by omega
  rw [Sp.parseS, if_pos hlong]
  have hZ := Lib.hid (blk_new w (.cells #[.slice none 0 0, .int .i64 0, .int .i64 0, .int .i64 0, .slice none 0 0, .slice none 0 0, .slice none 0 0] 26))
  have hB := Lib.hid ((Keeps.refl (fun i => False) w).alloc (.cells #[.slice none 0 0, .int .i64 0, .int .i64 0, .int .i64 0, .slice none 0 0, .slice none 0 0, .slice none 0 0] 26))
  go_enter Tryz.func92, Tryz.ntmps92
  go_upto_region 1 with fail
  have hle : w.heap.size ≤ w.heap.size := Nat.le_refl _
  generalize w.alloc (.cells #[.slice none 0 0, .int .i64 0, .int .i64 0, .int .i64 0, .slice none 0 0, .slice none 0 0, .slice none 0 0] 26) = W1 at *
  generalize hzb : w.heap.size = zb at hZ hle ⊢
  have hle2 : w.heap.size ≤ zb := by omega
  obtain ⟨d0, d1, d2, d3, d4, d5, d6⟩ := cells7m hZ.out
  obtain ⟨f0, f1, f2, f3, f4, f5, f6⟩ := frz7m hZ.out
  have hlz := blk_lt hZ.out
  have hfin := Lib.hid (blk_set (i := 6) (blk_set (i := 5) (blk_set (i := 4) (blk_set (i := 3) (blk_set (i := 2) (blk_set (i := 1) (blk_set (i := 0) hZ.out (.slice none 0 0)) (.int .i64 0)) (.int .i64 0)) (.int .i64 0)) (.slice none 0 0)) (.slice none 0 0)) (.slice none 0 0))
  have hBf := Lib.hid (((((((hB.out.setCell (a := ⟨zb, 0, none⟩) (.inr hle2) (.slice none 0 0)).setCell (a := ⟨zb, 1, none⟩) (.inr hle2) (.int .i64 0)).setCell (a := ⟨zb, 2, none⟩) (.inr hle2) (.int .i64 0)).setCell (a := ⟨zb, 3, none⟩) (.inr hle2) (.int .i64 0)).setCell (a := ⟨zb, 4, none⟩) (.inr hle2) (.slice none 0 0)).setCell (a := ⟨zb, 5, none⟩) (.inr hle2) (.slice none 0 0)).setCell (a := ⟨zb, 6, none⟩) (.inr hle2) (.slice none 0 0))
  go_wp2
  (try simp only [Exit.inBlock, Exit.then])
  refine bodyPost_ret (results_ct rfl _ _ _ rfl (fl_load hfin.out)) rfl ?_
  have hbel := hBf.out.below (Nat.le_refl _) (fun _ q => q.elim)
  exact ⟨qZ, FZ, rfl, rfl, rdF_zero _, hBf.out.below (by omega) (fun _ q => q.elim)⟩
 ·have hz : ¬ (65536 : Int) < (b.size : Int) := by omega
  have hrr := Sp.read_right b hlong
  rw [Sp.parse_eq b hlong]
  have hZ3 := Lib.hid (blk_old (o := .cells #[.string b, .int .i64 0] 254) (blk_new w (.cells #[.slice none 0 0, .int .i64 0, .int .i64 0, .int .i64 0, .slice none 0 0, .slice none 0 0, .slice none 0 0] 26)))
  have hR3 := Lib.hid (blk_new (w.alloc (.cells #[.slice none 0 0, .int .i64 0, .int .i64 0, .int .i64 0, .slice none 0 0, .slice none 0 0, .slice none 0 0] 26)) (.cells #[.string b, .int .i64 0] 254))
  have hK3 := Lib.hid (((Keeps.refl (fun i => False) w).alloc (.cells #[.slice none 0 0, .int .i64 0, .int .i64 0, .int .i64 0, .slice none 0 0, .slice none 0 0, .slice none 0 0] 26)).alloc (.cells #[.string b, .int .i64 0] 254))
  rw [show (w.alloc (.cells #[.slice none 0 0, .int .i64 0, .int .i64 0, .int .i64 0, .slice none 0 0, .slice none 0 0, .slice none 0 0] 26)).heap.size = w.heap.size + 1 by simp] at hR3
  have HE := Lib.hid (show Sp.headR b = _ by rw [Sp.headR])
  generalize Sp.headR b = H at *
  obtain ⟨s1, e1⟩ := H
  simp only [] at HE hrr ⊢
  have hs1 : s1.size ≤ 1099511627776 := by
   have h1 : s1 = (Sp.takeR b 0 4).2.1 := congrArg Prod.fst HE.out
   have h2 := Sp.take_len b 0 4
   rw [h1]
   omega
  generalize hPP : Sp.doneR (Sp.bodyR s1 e1).1 (Sp.endR (Sp.bodyR s1 e1).2.1 (Sp.bodyR s1 e1).2.2) = PP
  have hok := fun F h => Sp.body_ok s1 e1 F h
  obtain ⟨X, hB⟩ : ∃ X, Sp.bodyR s1 e1 = X := ⟨_, rfl⟩
  rw [hB] at hPP hok hrr
  have HX := Lib.hid (And.intro hPP (And.intro hok hrr))
  clear hPP hok hrr
  unfold Sp.bodyR at hB
  simp only [] at hB
  unfold Sp.manyN at hB
  have kc_c1 := Lib.hid (fun W h => qnumber_any (w.heap.size + 1) s1 e1 2 W h (by omega) (by decide))
  have hv := Sp.num_two s1 e1 2 (by decide)
  have hz1 := Sp.num_len s1 e1 2
  generalize Sp.numR s1 e1 2 = M at *
  obtain ⟨c1, p1, g1⟩ := M
  simp only [] at hB kc_c1 hv hz1
  obtain ⟨nc1, rfl⟩ := Int.eq_ofNat_of_zero_le hv.1
  rw [Int.toNat_natCast] at hB
  have hbc1 : nc1 ≤ 65535 := by omega
  clear hv
  have hsc1 : p1.size ≤ 1099511627776 := by omega
  have hz2 := Sp.many_len Sp.const_len nc1 p1 g1
  generalize hMc1 : Sp.manyR Sp.constR nc1 p1 g1 = M at *
  obtain ⟨pool, s2, e2⟩ := M
  simp only [] at hB hz2
  have HMc1 := Lib.hid hMc1
  clear hMc1
  have kn_fl := Lib.hid (fun W h => qnumber_any (w.heap.size + 1) s2 e2 1 W h (by omega) (by decide))
  have hz3 := Sp.num_len s2 e2 1
  generalize Sp.numR s2 e2 1 = M at *
  obtain ⟨fl, s3, e3⟩ := M
  simp only [] at hB kn_fl hz3
  have kn_th := Lib.hid (fun W h => qnumber_any (w.heap.size + 1) s3 e3 2 W h (by omega) (by decide))
  have hz3 := Sp.num_len s3 e3 2
  generalize Sp.numR s3 e3 2 = M at *
  obtain ⟨th, s4, e4⟩ := M
  simp only [] at hB kn_th hz3
  have kn_su := Lib.hid (fun W h => qnumber_any (w.heap.size + 1) s4 e4 2 W h (by omega) (by decide))
  have hz3 := Sp.num_len s4 e4 2
  generalize Sp.numR s4 e4 2 = M at *
  obtain ⟨su, s5, e5⟩ := M
  simp only [] at hB kn_su hz3
  have kc_c2 := Lib.hid (fun W h => qnumber_any (w.heap.size + 1) s5 e5 1 W h (by omega) (by decide))
  have hv := Sp.num_two s5 e5 1 (by decide)
  have hz1 := Sp.num_len s5 e5 1
  generalize Sp.numR s5 e5 1 = M at *
  obtain ⟨c2, p2, g2⟩ := M
  simp only [] at hB kc_c2 hv hz1
  obtain ⟨nc2, rfl⟩ := Int.eq_ofNat_of_zero_le hv.1
  rw [Int.toNat_natCast] at hB
  have hbc2 : nc2 ≤ 65535 := by omega
  clear hv
  have hsc2 : p2.size ≤ 1099511627776 := by omega
  have hz2 := Sp.many_len (fun s e => Sp.num_len s e 2) nc2 p2 g2
  generalize hMc2 : Sp.manyR (fun s e => Sp.numR s e 2) nc2 p2 g2 = M at *
  obtain ⟨ifs, s6, e6⟩ := M
  simp only [] at hB hz2
  have HMc2 := Lib.hid hMc2
  clear hMc2
  have kc_c3 := Lib.hid (fun W h => qnumber_any (w.heap.size + 1) s6 e6 1 W h (by omega) (by decide))
  have hv := Sp.num_two s6 e6 1 (by decide)
  have hz1 := Sp.num_len s6 e6 1
  generalize Sp.numR s6 e6 1 = M at *
  obtain ⟨c3, p3, g3⟩ := M
  simp only [] at hB kc_c3 hv hz1
  obtain ⟨nc3, rfl⟩ := Int.eq_ofNat_of_zero_le hv.1
  rw [Int.toNat_natCast] at hB
  have hbc3 : nc3 ≤ 65535 := by omega
  clear hv
  have hsc3 : p3.size ≤ 1099511627776 := by omega
  have hz2 := Sp.many_len Sp.field_len nc3 p3 g3
  generalize hMc3 : Sp.manyR Sp.fieldR nc3 p3 g3 = M at *
  obtain ⟨fds, s7, e7⟩ := M
  simp only [] at hB hz2
  have HMc3 := Lib.hid hMc3
  clear hMc3
  have kc_c4 := Lib.hid (fun W h => qnumber_any (w.heap.size + 1) s7 e7 1 W h (by omega) (by decide))
  have hv := Sp.num_two s7 e7 1 (by decide)
  have hz1 := Sp.num_len s7 e7 1
  generalize Sp.numR s7 e7 1 = M at *
  obtain ⟨c4, p4, g4⟩ := M
  simp only [] at hB kc_c4 hv hz1
  obtain ⟨nc4, rfl⟩ := Int.eq_ofNat_of_zero_le hv.1
  rw [Int.toNat_natCast] at hB
  have hbc4 : nc4 ≤ 65535 := by omega
  clear hv
  have hsc4 : p4.size ≤ 1099511627776 := by omega
  have hz2 := Sp.many_len Sp.method_len nc4 p4 g4
  generalize hMc4 : Sp.manyR Sp.methodR nc4 p4 g4 = M at *
  obtain ⟨mths, s8, e8⟩ := M
  simp only [] at hB hz2
  have HMc4 := Lib.hid hMc4
  clear hMc4
  have hq3 : s5.size ≤ 1099511627776 := by omega
  subst hB
  obtain ⟨hPP, hok', hrr⟩ := HX.out
  clear HX
  have hok := Lib.hid hok'
  clear hok'
  have HP := Lib.hid hPP
  have HRR := Lib.hid hrr
  clear hPP hrr
  have htl := Sp.take_len b 0 4
  have kt := Lib.hid (fun W h => qtake_any (w.heap.size + 1) b 0 4 W h hb (by decide))
  generalize Sp.takeR b 0 4 = Tk at *
  obtain ⟨t, s0, e0⟩ := Tk
  simp only [] at kt HE htl
  go_enter Tryz.func92, Tryz.ntmps92
  go_upto_region 4 with fail
  generalize (w.alloc (.cells #[.slice none 0 0, .int .i64 0, .int .i64 0, .int .i64 0, .slice none 0 0, .slice none 0 0, .slice none 0 0] 26)).alloc (.cells #[.string b, .int .i64 0] 254) = W3 at *
  have hw0 : w.heap.size ≤ w.heap.size := Nat.le_refl _
  generalize hzb : w.heap.size = zb at hZ3 hR3 kt hw0 kc_c1 kn_fl kn_th kn_su kc_c2 kc_c3 kc_c4 ⊢
  go_wp2_with fail
  refine (kt.out _ hR3.out).mono ?_
  rintro x w4 ⟨rfl, hR4, hK4⟩
  have hR5 := Lib.hid hR4
  have hZ5 := Lib.hid (hK4.obj hZ3.out (by omega))
  have hK5 := Lib.hid (hK3.out.then hK4 (fun i q => .inr (by omega)))
  clear hR4 hK4 hR3 hZ3 hK3 kt
  go_upto_region 5 with fail
  obtain ⟨r1, g1'⟩ := blk_cell hR5.out 1 _ rfl
  have hlr5 := blk_lt hR5.out
  go_cut [30] (fun x30 wx => x30 = .bool (decide (e0 = 0 ∧ t ≠ ⟨#[67, 82, 85, 88]⟩)) ∧ wx = w4)
  case first =>
   by_cases he : e0 = 0
   ·subst he
    by_cases ht : t = ⟨#[67, 82, 85, 88]⟩
    ·subst ht
     go_wp2
     go_meet
     exact ⟨rfl, rfl⟩
    ·have ht2 : (t.toList == [67, 82, 85, 88]) = false := by rw [show ([67, 82, 85, 88] : List UInt8) = (⟨#[67, 82, 85, 88]⟩ : ByteArray).toList by decide +kernel, bytes_eqb]; exact decide_eq_false ht
     go_wp2
     go_meet
     refine ⟨?_, rfl⟩
     first
      | (simp [ht]; done)
      | exact congrArg Value.bool (decide_eq_true ⟨trivial, ht⟩).symm
   ·have he2 : (e0 == 0) = false := by simp [he]
    go_wp2
    go_meet
    exact ⟨by simp [he], rfl⟩
  case rest =>
   clear r1 g1' hlr5
   obtain ⟨rfl, rfl⟩ := hcut
   go_upto_if 30 with fail
   go_cut [30] (fun x30 wx => Hid (Rq wx (zb + 1) s1 e1) ∧ Hid (wx.heap[zb]? = some (.cells #[.slice none 0 0, .int .i64 0, .int .i64 0, .int .i64 0, .slice none 0 0, .slice none 0 0, .slice none 0 0] 26 (0, 0))) ∧ Hid (Keeps (fun i => False) w wx))
   case first =>
    have hE := HE.out
    by_cases hq : e0 = 0 ∧ t ≠ ⟨#[67, 82, 85, 88]⟩
    ·rw [if_pos hq] at hE
     injection hE with hE1 hE2
     have hd : decide (e0 = 0 ∧ t ≠ ⟨#[67, 82, 85, 88]⟩) = true := decide_eq_true hq
     rw [hd]
     subst hE1 hE2
     obtain ⟨r1, g1'⟩ := blk_cell hR5.out 1 _ rfl
     have hlr5 := blk_lt hR5.out
     have hn2 : zb ≠ zb + 1 := by omega
     have hn3 : w.heap.size ≤ zb + 1 := by omega
     go_wp2
     go_meet
     exact ⟨Lib.hid (blk_set (i := 1) hR5.out (.int .i64 4)), Lib.hid (blk_other hZ5.out ⟨zb + 1, 1, none⟩ _ hn2), Lib.hid (hK5.out.setCell (a := ⟨zb + 1, 1, none⟩) (.inr hn3) _)⟩
    ·rw [if_neg hq] at hE
     injection hE with hE1 hE2
     have hd : decide (e0 = 0 ∧ t ≠ ⟨#[67, 82, 85, 88]⟩) = false := decide_eq_false hq
     rw [hd]
     subst hE1 hE2
     go_wp2
     go_meet
     exact ⟨hR5, hZ5, hK5⟩
   case rest =>
    clear hR5 hZ5 hK5 HE htl
    obtain ⟨hR5, hZ5, hK5⟩ := hcut
    have hlz5 := blk_lt hZ5.out
    have hlr5 := blk_lt hR5.out
    have hR := Lib.hid (blk_old (o := .cells #[.slice none 0 0, .int .i64 0, .int .i64 0, .int .i64 0, .slice none 0 0, .slice none 0 0, .slice none 0 0] 26) hR5.out)
    have hZ6 := Lib.hid (blk_old (o := .cells #[.slice none 0 0, .int .i64 0, .int .i64 0, .int .i64 0, .slice none 0 0, .slice none 0 0, .slice none 0 0] 26) hZ5.out)
    have hF := Lib.hid (blk_new wc (.cells #[.slice none 0 0, .int .i64 0, .int .i64 0, .int .i64 0, .slice none 0 0, .slice none 0 0, .slice none 0 0] 26))
    have hK6 := Lib.hid (hK5.out.alloc (.cells #[.slice none 0 0, .int .i64 0, .int .i64 0, .int .i64 0, .slice none 0 0, .slice none 0 0, .slice none 0 0] 26))
    have hs6 : (wc.alloc (.cells #[.slice none 0 0, .int .i64 0, .int .i64 0, .int .i64 0, .slice none 0 0, .slice none 0 0, .slice none 0 0] 26)).heap.size = wc.heap.size + 1 := by simp
    clear hR5 hZ5 hK5
    go_upto_region 8 with fail
    generalize wc.alloc (.cells #[.slice none 0 0, .int .i64 0, .int .i64 0, .int .i64 0, .slice none 0 0, .slice none 0 0, .slice none 0 0] 26) = W6 at *
    generalize hfb : wc.heap.size = fb at *
    have hz6 : fb + 1 ≤ W6.heap.size := by omega
    have hn1 : zb + 1 ≠ fb := by omega
    have hn0 : zb + 1 < fb := by omega
    have hG := Lib.hid (Keeps.refl (fun i => i = zb + 1 ∨ i = fb) W6)
    have hP : Hid (Pr W6 (fb + 1) ⟨none, 0, none, 0, none, 0, none, 0⟩ ⟨[], fl, th, su, [], [], []⟩) := Lib.hid (Pr.nil W6 (fb + 1) fl th su)
    clear hlz5 hlr5
    have kq := Lib.hid (kc_c1.out W6 hR.out)
    go_wp2_with fail
    refine kq.out.mono ?_
    rintro x W8 ⟨rfl, hRa, hKa⟩
    have hF' := Lib.hid (hKa.obj hF.out (fun q => hn1 q.symm))
    have hP' := Lib.hid (hP.out.keep hKa (fun i hi q => by omega))
    have hG' := Lib.hid (hG.out.then hKa (fun i q => .inl (.inl q)))
    have hR' := Lib.hid hRa
    clear hRa hKa kq hR hF hP hG
    have hR := hR'
    have hF := hF'
    have hP := hP'
    have hG := hG'
    clear hR' hF' hP' hG'
    have hzW : fb + 1 ≤ W8.heap.size := by rw [← hs6]; exact hG.out.size
    have hO0 := Lib.hid (World.ownsRow_nil W8 W8.heap.size 145 6)
    have hK0 := Lib.hid (Keeps.refl (fun i => i = zb + 1 ∨ i = fb) W8)
    have hf0 : Hid (((([] : List Sp.Cn)) ++ (Sp.manyR Sp.constR (nc1 - ([] : List Sp.Cn).length) p1 g1).1, (Sp.manyR Sp.constR (nc1 - ([] : List Sp.Cn).length) p1 g1).2) = (pool, s2, e2)) := Lib.hid (by rw [← HMc1.out]; rfl)
    go_wp2
    go_loopw [8] (fun vi wr => ∃ (acc : List Sp.Cn) (t1 : ByteArray) (x1 : Int) (A : Option Addr) (c : Nat), vi = .int .i64 acc.length ∧ acc.length ≤ nc1 ∧ t1.size ≤ 1099511627776 ∧ Hid (Rq wr (zb + 1) t1 x1) ∧ Hid (wr.heap[fb]? = some (.cells #[.slice A acc.length c, .int .i64 0, .int .i64 0, .int .i64 0, .slice none 0 0, .slice none 0 0, .slice none 0 0] 26 (0, 0))) ∧ Hid (wr.ownsRow W8.heap.size 145 6 (.slice A acc.length c) acc.length (acc.flatMap Sp.cnC)) ∧ Hid (Keeps (fun i => i = zb + 1 ∨ i = fb) W8 wr) ∧ Hid ((acc ++ (Sp.manyR Sp.constR (nc1 - acc.length) t1 x1).1, (Sp.manyR Sp.constR (nc1 - acc.length) t1 x1).2) = (pool, s2, e2))) (fun vi _ => nc1 - (RowKit.intOf vi).toNat)
    case atStart => exact ⟨[], p1, g1, none, 0, by go_num, Nat.zero_le _, hsc1, hR, hF, hO0, hK0, hf0⟩
    case round =>
     clear hR hF hO0 hK0 hf0
     obtain ⟨acc, t1, x1, A, c, rfl, hak, hst, hR, hF, hO, hK, hf⟩ := hrel
     obtain ⟨r1, g1'⟩ := blk_cell hR.out 1 _ rfl
     have hlb := blk_lt hR.out
     have hlf := blk_lt hF.out
     have hKz := hK.out.size
     go_upto_region 10 with fail
     go_cut [46] (fun xt wx => xt = .bool (decide (acc.length < nc1 ∧ x1 = 0)) ∧ wx = wr)
     case first =>
      by_cases hlt : acc.length < nc1
      ·have hzk : (acc.length : Int) < (nc1 : Int) := by omega
       by_cases hx : x1 = 0
       ·subst hx
        go_wp2
        go_meet
        exact ⟨by simp [hlt], rfl⟩
       ·have hxb : (x1 == 0) = false := by simp [hx]
        go_wp2
        go_meet
        exact ⟨by simp [hx], rfl⟩
      ·have hzk : ¬ (acc.length : Int) < (nc1 : Int) := by omega
       go_wp2
       go_meet
       exact ⟨by simp [hlt], rfl⟩
     case rest =>
      obtain ⟨rfl, rfl⟩ := hcut
      by_cases hlt : acc.length < nc1 ∧ x1 = 0
      ·rw [decide_eq_true hlt]
       obtain ⟨hlt, hx⟩ := hlt
       subst hx
       have hf2 := hf.out
       rw [show nc1 - acc.length = (nc1 - (acc.length + 1)) + 1 by omega, Sp.manyR_ok] at hf2
       have hrz := Sp.const_len t1 0
       have kc := Lib.hid (qconst_any (zb + 1) t1 0 wc.drew (show Rq _ _ _ _ from hR.out) hst)
       clear hf
       simp only [] at hf2 hrz
       generalize Sp.constR t1 0 = N at *
       obtain ⟨⟨ct, cs, cn, ca, cb, cc⟩, u2, y2⟩ := N
       unfold Sp.cnV at kc
       simp only [] at kc hf2 hrz
       have hu2 : u2.size ≤ 1099511627776 := by omega
       have hFd : Hid (wc.drew.heap[fb]? = some (.cells #[.slice A acc.length c, .int .i64 0, .int .i64 0, .int .i64 0, .slice none 0 0, .slice none 0 0, .slice none 0 0] 26 (0, 0))) := Lib.hid hF.out
       have hcl : Hid (∀ W : World, W.heap[fb]? = some (.cells #[.slice A acc.length c, .int .i64 0, .int .i64 0, .int .i64 0, .slice none 0 0, .slice none 0 0, .slice none 0 0] 26 (0, 0)) → (W.cell? ⟨fb, 0, none⟩ = some (.slice A acc.length c) ∧ W.frozen? ⟨fb, 0, none⟩ = false)) := Lib.hid (fun W h => blk_cell h 0 _ rfl)
       have hGs := hG.out.size
       have hBr : W8.heap.size ≤ wc.heap.size := hKz
       have hbo := own_base hO.out
       have hnx := Lib.hid (fun (w4 : World) (hR4 : Rq w4 (zb + 1) u2 y2) (hK4 : Keeps (fun i => i = zb + 1) wc.drew w4) => (by
        have hF4 := hK4.obj hFd.out (fun q => hn1 q.symm)
        have hO4 := hK4.row (show wc.drew.ownsRow _ _ _ _ _ _ from hO.out) (fun k hk q => by have := hbo k hk; omega)
        obtain ⟨A', c', w5, r1, r2, r3⟩ := app_cn w4 W8.heap.size A c acc ⟨ct, cs, cn, ca, cb, cc⟩ hO4 (by omega) (by have := hK4.size; exact Nat.le_trans hBr this)
        have hK5 : Keeps (fun i => W8.heap.size ≤ i) w4 w5 := r3.mono (own_base hO4)
        exact ⟨hF4, A', c', w5, r1, r2, hK5.obj hR4 (by omega), hK5.obj hF4 (by omega), (hK.out.drew.then hK4 (fun i q => .inl (.inl q))).then hK5 (fun i q => .inr q)⟩ :
        w4.heap[fb]? = some (.cells #[.slice A acc.length c, .int .i64 0, .int .i64 0, .int .i64 0, .slice none 0 0, .slice none 0 0, .slice none 0 0] 26 (0, 0)) ∧ ∃ A' c' w5, (Builtin.append_ #[22, 22] 22 #[.slice A acc.length c, .slice (some ⟨w4.heap.size, 0, none⟩) 1 1]).run Tryz.prog (w4.alloc (.cells #[.int .i64 ct, .string cs, .int .i64 cn, .int .i64 ca, .int .i64 cb, .int .i64 cc] 145)) = .ok (.slice A' (acc ++ [(⟨ct, cs, cn, ca, cb, cc⟩ : Sp.Cn)]).length c') w5 ∧ w5.ownsRow W8.heap.size 145 6 (.slice A' (acc ++ [(⟨ct, cs, cn, ca, cb, cc⟩ : Sp.Cn)]).length c') (acc ++ [(⟨ct, cs, cn, ca, cb, cc⟩ : Sp.Cn)]).length ((acc ++ [(⟨ct, cs, cn, ca, cb, cc⟩ : Sp.Cn)]).flatMap Sp.cnC) ∧ Rq w5 (zb + 1) u2 y2 ∧ w5.heap[fb]? = some (.cells #[.slice A acc.length c, .int .i64 0, .int .i64 0, .int .i64 0, .slice none 0 0, .slice none 0 0, .slice none 0 0] 26 (0, 0)) ∧ Keeps (fun i => i = zb + 1 ∨ i = fb) W8 w5))
       have hf3 : Hid (((acc ++ [(⟨ct, cs, cn, ca, cb, cc⟩ : Sp.Cn)]) ++ (Sp.manyR Sp.constR (nc1 - (acc ++ [(⟨ct, cs, cn, ca, cb, cc⟩ : Sp.Cn)]).length) u2 y2).1, (Sp.manyR Sp.constR (nc1 - (acc ++ [(⟨ct, cs, cn, ca, cb, cc⟩ : Sp.Cn)]).length) u2 y2).2) = (pool, s2, e2)) := Lib.hid (by rw [List.length_append, List.length_singleton, ← hf2]; simp only [List.append_assoc]; rfl)
       clear hf2 hrz r1 g1' hbo
       have dc := hcl.out wc.drew hFd.out
       go_upto_region 12 with fail
       have dc1 := dc.1
       go_region_law (first | (refine step_append_run _ rfl _ _ _ _ rfl (.slice A acc.length c) (.slice (some ⟨w4.heap.size, 0, none⟩) 1 1) rfl rfl (.slice A' (acc ++ [(⟨ct, cs, cn, ca, cb, cc⟩ : Sp.Cn)]).length c') w5 hra ?_) | (go_simp; go_at_call 174; (first | with_reducible refine kc.out.mono ?_ | refine kc.out.mono ?_); rintro x w4 ⟨rfl, hR4, hK4⟩; obtain ⟨hF4, A', c', w5, hra, hN5⟩ := hnx.out w4 hR4 hK4; have m4 := (hcl.out w4 hF4).1; have m4a := cell_alloc w4 (.cells #[.int .i64 ct, .string cs, .int .i64 cn, .int .i64 ca, .int .i64 cb, .int .i64 cc] 145) m4; have m5 := (hcl.out w5 hN5.2.2.1).1; have fz5 := (hcl.out w5 hN5.2.2.1).2; have hl5 := blk_lt hN5.2.2.1))
       all_goals
        obtain ⟨hO5, hR5, hF5, hK5⟩ := hN5
        have hlen : acc.length + 1 = (acc ++ [(⟨ct, cs, cn, ca, cb, cc⟩ : Sp.Cn)]).length := by simp
        have hR6 := Lib.hid (show Rq (w5.setCell ⟨fb, 0, none⟩ (.slice A' (acc.length + 1) c')) (zb + 1) u2 y2 from blk_other hR5 ⟨fb, 0, none⟩ (.slice A' (acc.length + 1) c') hn1)
        have hF6 := Lib.hid (show (w5.setCell ⟨fb, 0, none⟩ (.slice A' (acc.length + 1) c')).heap[fb]? = some (.cells #[.slice A' (acc ++ [(⟨ct, cs, cn, ca, cb, cc⟩ : Sp.Cn)]).length c', .int .i64 0, .int .i64 0, .int .i64 0, .slice none 0 0, .slice none 0 0, .slice none 0 0] 26 (0, 0)) by rw [← hlen]; exact blk_set (i := 0) hF5 (.slice A' (acc.length + 1) c'))
        have hO6 := Lib.hid (own_set hO5 (b := fb) (o := 0) (fun q hq => by have := own_base hO5 q hq; omega) (.slice A' (acc.length + 1) c'))
        have hK6 := Lib.hid (hK5.setCell (a := ⟨fb, 0, none⟩) (.inl (.inr rfl)) (.slice A' (acc.length + 1) c'))
        have hf4 := Lib.hid (hf3.out)
        have hal : (acc ++ [(⟨ct, cs, cn, ca, cb, cc⟩ : Sp.Cn)]).length ≤ nc1 := by rw [← hlen]; omega
        clear hlen hO5 hR5 hF5 hK5 hf3 hnx hcl hFd hra m4 m4a hF4 hR4 hK4 kc dc dc1 hF hR hO hK
        go_wp2
        go_roundw
        case rel => exact ⟨(acc ++ [(⟨ct, cs, cn, ca, cb, cc⟩ : Sp.Cn)]), u2, y2, A', c', by first | rfl | go_num | (simp; done) | (simp; omega), hal, hu2, hR6, hF6, hO6, hK6, hf4⟩
        case measure => first | (simp [RowKit.intOf]; done) | (simp [RowKit.intOf]; omega)
      ·rw [decide_eq_false hlt]
       have hFF : (pool, s2, e2) = (acc, t1, x1) := by
        rw [← hf.out]
        by_cases hx : x1 = 0
        ·have hz : nc1 - acc.length = 0 := by omega
         rw [hz]
         simp [Sp.manyR]
        ·rw [Sp.manyR_err _ _ _ _ hx]
         simp
       injection hFF with h1 h2
       injection h2 with h2 h3
       subst h2 h3
       subst h1
       obtain ⟨A1, rfl⟩ : ∃ l, l = A := ⟨_, rfl⟩
       obtain ⟨k1, rfl⟩ : ∃ l, l = c := ⟨_, rfl⟩
       clear hf hlt r1 g1' hlb hlf
       have hPk := hP.out.keep hK.out (fun i hi q => by omega)
       have hP' : Hid (Pr wc (fb + 1) ⟨A1, k1, none, 0, none, 0, none, 0⟩ ⟨pool, fl, th, su, [], [], []⟩) := Lib.hid ⟨own_mono hO.out hzW, hPk.ifs, hPk.fields, hPk.fh, hPk.methods, hPk.mh⟩
       have hG' := Lib.hid (hG.out.then hK.out (fun i q => .inl q))
       clear hPk hP hG hK hO hKz hzW
       have hP := hP'
       have hG := hG'
       clear hP' hG'
       go_upto_region 13 with fail
       have kq := Lib.hid (kn_fl.out _ hR.out)
       go_wp2_with fail
       refine kq.out.mono ?_
       rintro x w13 ⟨rfl, hRa, hKa⟩
       have hFa := hKa.obj hF.out (fun q => hn1 q.symm)
       have hPa := hP.out.keep hKa (fun i hi q => by omega)
       have hGa := hG.out.then hKa (fun i q => .inl (.inl q))
       obtain ⟨dd, ff⟩ := blk_cell hFa 1 _ rfl
       have hlc := blk_lt hFa
       have hR' := Lib.hid (show Rq (w13.setCell ⟨fb, 1, none⟩ (.int .i64 fl)) (zb + 1) s3 e3 from blk_other hRa ⟨fb, 1, none⟩ (.int .i64 fl) hn1)
       have hF' := Lib.hid (show (w13.setCell ⟨fb, 1, none⟩ (.int .i64 fl)).heap[fb]? = some (.cells #[.slice A1 pool.length k1, .int .i64 fl, .int .i64 0, .int .i64 0, .slice none 0 0, .slice none 0 0, .slice none 0 0] 26 (0, 0)) from blk_set (i := 1) hFa (.int .i64 fl))
       have hP' := Lib.hid (hPa.keep ((Keeps.refl (fun i => i = fb) w13).setCell (a := ⟨fb, 1, none⟩) (.inl rfl) (.int .i64 fl)) (fun i hi q => by omega))
       have hG' := Lib.hid (hGa.setCell (a := ⟨fb, 1, none⟩) (.inl (.inr rfl)) (.int .i64 fl))
       clear hRa hKa hFa hPa hGa kq hR hF hP hG
       go_upto_region 14 with fail
       clear dd ff hlc
       generalize w13.setCell ⟨fb, 1, none⟩ (.int .i64 fl) = W13 at *
       have hR := hR'
       have hF := hF'
       have hP := hP'
       have hG := hG'
       clear hR' hF' hP' hG'
       have kq := Lib.hid (kn_th.out _ hR.out)
       go_wp2_with fail
       refine kq.out.mono ?_
       rintro x w14 ⟨rfl, hRa, hKa⟩
       have hFa := hKa.obj hF.out (fun q => hn1 q.symm)
       have hPa := hP.out.keep hKa (fun i hi q => by omega)
       have hGa := hG.out.then hKa (fun i q => .inl (.inl q))
       obtain ⟨dd, ff⟩ := blk_cell hFa 2 _ rfl
       have hlc := blk_lt hFa
       have hR' := Lib.hid (show Rq (w14.setCell ⟨fb, 2, none⟩ (.int .i64 th)) (zb + 1) s4 e4 from blk_other hRa ⟨fb, 2, none⟩ (.int .i64 th) hn1)
       have hF' := Lib.hid (show (w14.setCell ⟨fb, 2, none⟩ (.int .i64 th)).heap[fb]? = some (.cells #[.slice A1 pool.length k1, .int .i64 fl, .int .i64 th, .int .i64 0, .slice none 0 0, .slice none 0 0, .slice none 0 0] 26 (0, 0)) from blk_set (i := 2) hFa (.int .i64 th))
       have hP' := Lib.hid (hPa.keep ((Keeps.refl (fun i => i = fb) w14).setCell (a := ⟨fb, 2, none⟩) (.inl rfl) (.int .i64 th)) (fun i hi q => by omega))
       have hG' := Lib.hid (hGa.setCell (a := ⟨fb, 2, none⟩) (.inl (.inr rfl)) (.int .i64 th))
       clear hRa hKa hFa hPa hGa kq hR hF hP hG
       go_upto_region 15 with fail
       clear dd ff hlc
       generalize w14.setCell ⟨fb, 2, none⟩ (.int .i64 th) = W14 at *
       have hR := hR'
       have hF := hF'
       have hP := hP'
       have hG := hG'
       clear hR' hF' hP' hG'
       have kq := Lib.hid (kn_su.out _ hR.out)
       go_wp2_with fail
       refine kq.out.mono ?_
       rintro x w15 ⟨rfl, hRa, hKa⟩
       have hFa := hKa.obj hF.out (fun q => hn1 q.symm)
       have hPa := hP.out.keep hKa (fun i hi q => by omega)
       have hGa := hG.out.then hKa (fun i q => .inl (.inl q))
       obtain ⟨dd, ff⟩ := blk_cell hFa 3 _ rfl
       have hlc := blk_lt hFa
       have hR' := Lib.hid (show Rq (w15.setCell ⟨fb, 3, none⟩ (.int .i64 su)) (zb + 1) s5 e5 from blk_other hRa ⟨fb, 3, none⟩ (.int .i64 su) hn1)
       have hF' := Lib.hid (show (w15.setCell ⟨fb, 3, none⟩ (.int .i64 su)).heap[fb]? = some (.cells #[.slice A1 pool.length k1, .int .i64 fl, .int .i64 th, .int .i64 su, .slice none 0 0, .slice none 0 0, .slice none 0 0] 26 (0, 0)) from blk_set (i := 3) hFa (.int .i64 su))
       have hP' := Lib.hid (hPa.keep ((Keeps.refl (fun i => i = fb) w15).setCell (a := ⟨fb, 3, none⟩) (.inl rfl) (.int .i64 su)) (fun i hi q => by omega))
       have hG' := Lib.hid (hGa.setCell (a := ⟨fb, 3, none⟩) (.inl (.inr rfl)) (.int .i64 su))
       clear hRa hKa hFa hPa hGa kq hR hF hP hG
       go_upto_region 16 with fail
       clear dd ff hlc
       generalize w15.setCell ⟨fb, 3, none⟩ (.int .i64 su) = W15 at *
       have hR := hR'
       have hF := hF'
       have hP := hP'
       have hG := hG'
       clear hR' hF' hP' hG'
       have kq := Lib.hid (kc_c2.out W15 hR.out)
       go_wp2_with fail
       refine kq.out.mono ?_
       rintro x W16 ⟨rfl, hRa, hKa⟩
       have hF' := Lib.hid (hKa.obj hF.out (fun q => hn1 q.symm))
       have hP' := Lib.hid (hP.out.keep hKa (fun i hi q => by omega))
       have hG' := Lib.hid (hG.out.then hKa (fun i q => .inl (.inl q)))
       have hR' := Lib.hid hRa
       clear hRa hKa kq hR hF hP hG
       have hR := hR'
       have hF := hF'
       have hP := hP'
       have hG := hG'
       clear hR' hF' hP' hG'
       have hzW : fb + 1 ≤ W16.heap.size := by rw [← hs6]; exact hG.out.size
       have hO0 := Lib.hid (World.ownsRow_nil W16 W16.heap.size 3 1)
       have hK0 := Lib.hid (Keeps.refl (fun i => i = zb + 1 ∨ i = fb) W16)
       have hf0 : Hid (((([] : List Int)) ++ (Sp.manyR (fun s e => Sp.numR s e 2) (nc2 - ([] : List Int).length) p2 g2).1, (Sp.manyR (fun s e => Sp.numR s e 2) (nc2 - ([] : List Int).length) p2 g2).2) = (ifs, s6, e6)) := Lib.hid (by rw [← HMc2.out]; rfl)
       go_wp2
       go_loopw [9] (fun vi wr => ∃ (acc : List Int) (t1 : ByteArray) (x1 : Int) (A : Option Addr) (c : Nat), vi = .int .i64 acc.length ∧ acc.length ≤ nc2 ∧ t1.size ≤ 1099511627776 ∧ Hid (Rq wr (zb + 1) t1 x1) ∧ Hid (wr.heap[fb]? = some (.cells #[.slice A1 pool.length k1, .int .i64 fl, .int .i64 th, .int .i64 su, .slice A acc.length c, .slice none 0 0, .slice none 0 0] 26 (0, 0))) ∧ Hid (wr.ownsRow W16.heap.size 3 1 (.slice A acc.length c) acc.length (acc.flatMap intC)) ∧ Hid (Keeps (fun i => i = zb + 1 ∨ i = fb) W16 wr) ∧ Hid ((acc ++ (Sp.manyR (fun s e => Sp.numR s e 2) (nc2 - acc.length) t1 x1).1, (Sp.manyR (fun s e => Sp.numR s e 2) (nc2 - acc.length) t1 x1).2) = (ifs, s6, e6))) (fun vi _ => nc2 - (RowKit.intOf vi).toNat)
       case atStart => exact ⟨[], p2, g2, none, 0, by go_num, Nat.zero_le _, hsc2, hR, hF, hO0, hK0, hf0⟩
       case round =>
        clear hR hF hO0 hK0 hf0
        obtain ⟨acc, t1, x1, A, c, rfl, hak, hst, hR, hF, hO, hK, hf⟩ := hrel
        obtain ⟨r1, g1'⟩ := blk_cell hR.out 1 _ rfl
        have hlb := blk_lt hR.out
        have hlf := blk_lt hF.out
        have hKz := hK.out.size
        go_upto_region 18 with fail
        go_cut [76] (fun xt wx => xt = .bool (decide (acc.length < nc2 ∧ x1 = 0)) ∧ wx = wr)
        case first =>
         by_cases hlt : acc.length < nc2
         ·have hzk : (acc.length : Int) < (nc2 : Int) := by omega
          by_cases hx : x1 = 0
          ·subst hx
           go_wp2
           go_meet
           exact ⟨by simp [hlt], rfl⟩
          ·have hxb : (x1 == 0) = false := by simp [hx]
           go_wp2
           go_meet
           exact ⟨by simp [hx], rfl⟩
         ·have hzk : ¬ (acc.length : Int) < (nc2 : Int) := by omega
          go_wp2
          go_meet
          exact ⟨by simp [hlt], rfl⟩
        case rest =>
         obtain ⟨rfl, rfl⟩ := hcut
         by_cases hlt : acc.length < nc2 ∧ x1 = 0
         ·rw [decide_eq_true hlt]
          obtain ⟨hlt, hx⟩ := hlt
          subst hx
          have hf2 := hf.out
          rw [show nc2 - acc.length = (nc2 - (acc.length + 1)) + 1 by omega, Sp.manyR_ok] at hf2
          have hrz := Sp.num_len t1 0 2
          have kc := Lib.hid (qnumber_any (zb + 1) t1 0 2 wc.drew (show Rq _ _ _ _ from hR.out) hst (by decide))
          clear hf
          simp only [] at hf2 hrz
          generalize Sp.numR t1 0 2 = N at *
          obtain ⟨el, u2, y2⟩ := N
          simp only [] at kc hf2 hrz
          have hu2 : u2.size ≤ 1099511627776 := by omega
          have hFd : Hid (wc.drew.heap[fb]? = some (.cells #[.slice A1 pool.length k1, .int .i64 fl, .int .i64 th, .int .i64 su, .slice A acc.length c, .slice none 0 0, .slice none 0 0] 26 (0, 0))) := Lib.hid hF.out
          have hcl : Hid (∀ W : World, W.heap[fb]? = some (.cells #[.slice A1 pool.length k1, .int .i64 fl, .int .i64 th, .int .i64 su, .slice A acc.length c, .slice none 0 0, .slice none 0 0] 26 (0, 0)) → (W.cell? ⟨fb, 4, none⟩ = some (.slice A acc.length c) ∧ W.frozen? ⟨fb, 4, none⟩ = false)) := Lib.hid (fun W h => blk_cell h 4 _ rfl)
          have hGs := hG.out.size
          have hBr : W16.heap.size ≤ wc.heap.size := hKz
          have hbo := own_base hO.out
          have hnx := Lib.hid (fun (w4 : World) (hR4 : Rq w4 (zb + 1) u2 y2) (hK4 : Keeps (fun i => i = zb + 1) wc.drew w4) => (by
           have hF4 := hK4.obj hFd.out (fun q => hn1 q.symm)
           have hO4 := hK4.row (show wc.drew.ownsRow _ _ _ _ _ _ from hO.out) (fun k hk q => by have := hbo k hk; omega)
           obtain ⟨A', c', w5, r1, r2, r3⟩ := app_i w4 W16.heap.size A c acc el hO4 (by omega) (by have := hK4.size; exact Nat.le_trans hBr this)
           have hK5 : Keeps (fun i => W16.heap.size ≤ i) w4 w5 := r3.mono (own_base hO4)
           exact ⟨hF4, A', c', w5, r1, r2, hK5.obj hR4 (by omega), hK5.obj hF4 (by omega), (hK.out.drew.then hK4 (fun i q => .inl (.inl q))).then hK5 (fun i q => .inr q)⟩ :
           w4.heap[fb]? = some (.cells #[.slice A1 pool.length k1, .int .i64 fl, .int .i64 th, .int .i64 su, .slice A acc.length c, .slice none 0 0, .slice none 0 0] 26 (0, 0)) ∧ ∃ A' c' w5, (Builtin.append_ #[23, 23] 23 #[.slice A acc.length c, .slice (some ⟨w4.heap.size, 0, none⟩) 1 1]).run Tryz.prog (w4.alloc (.cells #[.int .i64 el] 3)) = .ok (.slice A' (acc ++ [(el : Int)]).length c') w5 ∧ w5.ownsRow W16.heap.size 3 1 (.slice A' (acc ++ [(el : Int)]).length c') (acc ++ [(el : Int)]).length ((acc ++ [(el : Int)]).flatMap intC) ∧ Rq w5 (zb + 1) u2 y2 ∧ w5.heap[fb]? = some (.cells #[.slice A1 pool.length k1, .int .i64 fl, .int .i64 th, .int .i64 su, .slice A acc.length c, .slice none 0 0, .slice none 0 0] 26 (0, 0)) ∧ Keeps (fun i => i = zb + 1 ∨ i = fb) W16 w5))
          have hf3 : Hid (((acc ++ [(el : Int)]) ++ (Sp.manyR (fun s e => Sp.numR s e 2) (nc2 - (acc ++ [(el : Int)]).length) u2 y2).1, (Sp.manyR (fun s e => Sp.numR s e 2) (nc2 - (acc ++ [(el : Int)]).length) u2 y2).2) = (ifs, s6, e6)) := Lib.hid (by rw [List.length_append, List.length_singleton, ← hf2]; simp only [List.append_assoc]; rfl)
          clear hf2 hrz r1 g1' hbo
          have dc := hcl.out wc.drew hFd.out
          go_upto_region 20 with fail
          have dc1 := dc.1
          go_region_law (first | (refine step_append_run _ rfl _ _ _ _ rfl (.slice A acc.length c) (.slice (some ⟨w4.heap.size, 0, none⟩) 1 1) rfl rfl (.slice A' (acc ++ [(el : Int)]).length c') w5 hra ?_) | (go_simp; go_at_call 173; (first | with_reducible refine kc.out.mono ?_ | refine kc.out.mono ?_); rintro x w4 ⟨rfl, hR4, hK4⟩; obtain ⟨hF4, A', c', w5, hra, hN5⟩ := hnx.out w4 hR4 hK4; have m4 := (hcl.out w4 hF4).1; have m4a := cell_alloc w4 (.cells #[.int .i64 el] 3) m4; have m5 := (hcl.out w5 hN5.2.2.1).1; have fz5 := (hcl.out w5 hN5.2.2.1).2; have hl5 := blk_lt hN5.2.2.1))
          all_goals
           obtain ⟨hO5, hR5, hF5, hK5⟩ := hN5
           have hlen : acc.length + 1 = (acc ++ [(el : Int)]).length := by simp
           have hR6 := Lib.hid (show Rq (w5.setCell ⟨fb, 4, none⟩ (.slice A' (acc.length + 1) c')) (zb + 1) u2 y2 from blk_other hR5 ⟨fb, 4, none⟩ (.slice A' (acc.length + 1) c') hn1)
           have hF6 := Lib.hid (show (w5.setCell ⟨fb, 4, none⟩ (.slice A' (acc.length + 1) c')).heap[fb]? = some (.cells #[.slice A1 pool.length k1, .int .i64 fl, .int .i64 th, .int .i64 su, .slice A' (acc ++ [(el : Int)]).length c', .slice none 0 0, .slice none 0 0] 26 (0, 0)) by rw [← hlen]; exact blk_set (i := 4) hF5 (.slice A' (acc.length + 1) c'))
           have hO6 := Lib.hid (own_set hO5 (b := fb) (o := 4) (fun q hq => by have := own_base hO5 q hq; omega) (.slice A' (acc.length + 1) c'))
           have hK6 := Lib.hid (hK5.setCell (a := ⟨fb, 4, none⟩) (.inl (.inr rfl)) (.slice A' (acc.length + 1) c'))
           have hf4 := Lib.hid (hf3.out)
           have hal : (acc ++ [(el : Int)]).length ≤ nc2 := by rw [← hlen]; omega
           clear hlen hO5 hR5 hF5 hK5 hf3 hnx hcl hFd hra m4 m4a hF4 hR4 hK4 kc dc dc1 hF hR hO hK
           go_wp2
           go_roundw
           case rel => exact ⟨(acc ++ [(el : Int)]), u2, y2, A', c', by first | rfl | go_num | (simp; done) | (simp; omega), hal, hu2, hR6, hF6, hO6, hK6, hf4⟩
           case measure => first | (simp [RowKit.intOf]; done) | (simp [RowKit.intOf]; omega)
         ·rw [decide_eq_false hlt]
          have hFF : (ifs, s6, e6) = (acc, t1, x1) := by
           rw [← hf.out]
           by_cases hx : x1 = 0
           ·have hz : nc2 - acc.length = 0 := by omega
            rw [hz]
            simp [Sp.manyR]
           ·rw [Sp.manyR_err _ _ _ _ hx]
            simp
          injection hFF with h1 h2
          injection h2 with h2 h3
          subst h2 h3
          subst h1
          obtain ⟨A2, rfl⟩ : ∃ l, l = A := ⟨_, rfl⟩
          obtain ⟨k2, rfl⟩ : ∃ l, l = c := ⟨_, rfl⟩
          clear hf hlt r1 g1' hlb hlf
          have hPk := hP.out.keep hK.out (fun i hi q => by omega)
          have hP' : Hid (Pr wc (fb + 1) ⟨A1, k1, A2, k2, none, 0, none, 0⟩ ⟨pool, fl, th, su, ifs, [], []⟩) := Lib.hid ⟨hPk.pool, own_mono hO.out hzW, hPk.fields, hPk.fh, hPk.methods, hPk.mh⟩
          have hG' := Lib.hid (hG.out.then hK.out (fun i q => .inl q))
          clear hPk hP hG hK hO hKz hzW
          have hP := hP'
          have hG := hG'
          clear hP' hG'
          go_upto_region 21 with fail
          have kq := Lib.hid (kc_c3.out wc hR.out)
          go_wp2_with fail
          refine kq.out.mono ?_
          rintro x W21 ⟨rfl, hRa, hKa⟩
          have hF' := Lib.hid (hKa.obj hF.out (fun q => hn1 q.symm))
          have hP' := Lib.hid (hP.out.keep hKa (fun i hi q => by omega))
          have hG' := Lib.hid (hG.out.then hKa (fun i q => .inl (.inl q)))
          have hR' := Lib.hid hRa
          clear hRa hKa kq hR hF hP hG
          have hR := hR'
          have hF := hF'
          have hP := hP'
          have hG := hG'
          clear hR' hF' hP' hG'
          have hzW : fb + 1 ≤ W21.heap.size := by rw [← hs6]; exact hG.out.size
          have hO0 := Lib.hid (World.ownsRow_nil W21 W21.heap.size 131 7)
          have hK0 := Lib.hid (Keeps.refl (fun i => i = zb + 1 ∨ i = fb) W21)
          have hf0 : Hid (((([] : List Sp.Mp).map (·.1)) ++ (Sp.manyR Sp.fieldR (nc3 - ([] : List Sp.Mp).length) p3 g3).1, (Sp.manyR Sp.fieldR (nc3 - ([] : List Sp.Mp).length) p3 g3).2) = (fds, s7, e7)) := Lib.hid (by rw [← HMc3.out]; rfl)
          have hM0 : Hid (OwnM W21 W21.heap.size []) := Lib.hid (fun m hm => by cases hm)
          go_wp2
          go_loopw [10] (fun vi wr => ∃ (acc : List Sp.Mp) (t1 : ByteArray) (x1 : Int) (A : Option Addr) (c : Nat), vi = .int .i64 acc.length ∧ acc.length ≤ nc3 ∧ t1.size ≤ 1099511627776 ∧ Hid (Rq wr (zb + 1) t1 x1) ∧ Hid (wr.heap[fb]? = some (.cells #[.slice A1 pool.length k1, .int .i64 fl, .int .i64 th, .int .i64 su, .slice A2 ifs.length k2, .slice A acc.length c, .slice none 0 0] 26 (0, 0))) ∧ Hid (wr.ownsRow W21.heap.size 131 7 (.slice A acc.length c) acc.length (acc.flatMap Sp.mbC)) ∧ Hid (OwnM wr W21.heap.size acc) ∧ Hid (Keeps (fun i => i = zb + 1 ∨ i = fb) W21 wr) ∧ Hid ((acc.map (·.1) ++ (Sp.manyR Sp.fieldR (nc3 - acc.length) t1 x1).1, (Sp.manyR Sp.fieldR (nc3 - acc.length) t1 x1).2) = (fds, s7, e7))) (fun vi _ => nc3 - (RowKit.intOf vi).toNat)
          case atStart => exact ⟨[], p3, g3, none, 0, by go_num, Nat.zero_le _, hsc3, hR, hF, hO0, hM0, hK0, hf0⟩
          case round =>
           clear hR hF hO0 hK0 hf0 hM0
           obtain ⟨acc, t1, x1, A, c, rfl, hak, hst, hR, hF, hO, hM, hK, hf⟩ := hrel
           obtain ⟨r1, g1'⟩ := blk_cell hR.out 1 _ rfl
           have hlb := blk_lt hR.out
           have hlf := blk_lt hF.out
           have hKz := hK.out.size
           go_upto_region 23 with fail
           go_cut [97] (fun xt wx => xt = .bool (decide (acc.length < nc3 ∧ x1 = 0)) ∧ wx = wr)
           case first =>
            by_cases hlt : acc.length < nc3
            ·have hzk : (acc.length : Int) < (nc3 : Int) := by omega
             by_cases hx : x1 = 0
             ·subst hx
              go_wp2
              go_meet
              exact ⟨by simp [hlt], rfl⟩
             ·have hxb : (x1 == 0) = false := by simp [hx]
              go_wp2
              go_meet
              exact ⟨by simp [hx], rfl⟩
            ·have hzk : ¬ (acc.length : Int) < (nc3 : Int) := by omega
             go_wp2
             go_meet
             exact ⟨by simp [hlt], rfl⟩
           case rest =>
            obtain ⟨rfl, rfl⟩ := hcut
            by_cases hlt : acc.length < nc3 ∧ x1 = 0
            ·rw [decide_eq_true hlt]
             obtain ⟨hlt, hx⟩ := hlt
             subst hx
             have hf2 := hf.out
             rw [show nc3 - acc.length = (nc3 - (acc.length + 1)) + 1 by omega, Sp.manyR_ok] at hf2
             have hrz := Sp.field_len t1 0
             have kc := Lib.hid (qfield_any (zb + 1) t1 0 wc.drew (show Rq _ _ _ _ from hR.out) hst)
             clear hf
             simp only [] at hf2 hrz
             generalize Sp.fieldR t1 0 = N at *
             obtain ⟨⟨mf, mn, md, ms, ml, mc, mh⟩, u2, y2⟩ := N
             unfold Sp.mbV at kc
             simp only [] at kc hf2 hrz
             have hu2 : u2.size ≤ 1099511627776 := by omega
             have hFd : Hid (wc.drew.heap[fb]? = some (.cells #[.slice A1 pool.length k1, .int .i64 fl, .int .i64 th, .int .i64 su, .slice A2 ifs.length k2, .slice A acc.length c, .slice none 0 0] 26 (0, 0))) := Lib.hid hF.out
             have hcl : Hid (∀ W : World, W.heap[fb]? = some (.cells #[.slice A1 pool.length k1, .int .i64 fl, .int .i64 th, .int .i64 su, .slice A2 ifs.length k2, .slice A acc.length c, .slice none 0 0] 26 (0, 0)) → (W.cell? ⟨fb, 5, none⟩ = some (.slice A acc.length c) ∧ W.frozen? ⟨fb, 5, none⟩ = false)) := Lib.hid (fun W h => blk_cell h 5 _ rfl)
             have hGs := hG.out.size
             have hBr : W21.heap.size ≤ wc.heap.size := hKz
             have hbo := own_base hO.out
             have hnx := Lib.hid (fun (w4 : World) (hR4 : Rq w4 (zb + 1) u2 y2) (hK4 : Keeps (fun i => i = zb + 1) wc.drew w4) (hA : Option Addr) (hc : Nat) (hh : w4.ownsRow wc.drew.heap.size 239 4 (.slice hA mh.length hc) mh.length (mh.flatMap Sp.hnC)) => (by
              have hF4 := hK4.obj hFd.out (fun q => hn1 q.symm)
              have hO4 := hK4.row (show wc.drew.ownsRow _ _ _ _ _ _ from hO.out) (fun k hk q => by have := hbo k hk; omega)
              have hM4 := OwnM.snoc (m := ((⟨mf, mn, md, ms, ml, mc, mh⟩ : Sp.Mb), hA, hc)) (hM.out.drew.keep hK4 (fun i hi q => by omega)) (own_mono hh hBr)
              obtain ⟨A', c', w5, r1, r2, r3⟩ := app_mb w4 W21.heap.size A c acc ((⟨mf, mn, md, ms, ml, mc, mh⟩ : Sp.Mb), hA, hc) hO4 (by omega) (by have := hK4.size; exact Nat.le_trans hBr this)
              have hK5 : Keeps (fun i => W21.heap.size ≤ i) w4 w5 := r3.mono (own_base hO4)
              exact ⟨hF4, A', c', w5, r1, r2, OwnM.row hM4 hO4 (by decide) r3, hK5.obj hR4 (by omega), hK5.obj hF4 (by omega), (hK.out.drew.then hK4 (fun i q => .inl (.inl q))).then hK5 (fun i q => .inr q)⟩ :
              w4.heap[fb]? = some (.cells #[.slice A1 pool.length k1, .int .i64 fl, .int .i64 th, .int .i64 su, .slice A2 ifs.length k2, .slice A acc.length c, .slice none 0 0] 26 (0, 0)) ∧ ∃ A' c' w5, (Builtin.append_ #[24, 24] 24 #[.slice A acc.length c, .slice (some ⟨w4.heap.size, 0, none⟩) 1 1]).run Tryz.prog (w4.alloc (.cells #[.int .i64 mf, .int .i64 mn, .int .i64 md, .int .i64 ms, .int .i64 ml, .string mc, .slice hA mh.length hc] 131)) = .ok (.slice A' (acc ++ [(((⟨mf, mn, md, ms, ml, mc, mh⟩ : Sp.Mb), hA, hc) : Sp.Mp)]).length c') w5 ∧ w5.ownsRow W21.heap.size 131 7 (.slice A' (acc ++ [(((⟨mf, mn, md, ms, ml, mc, mh⟩ : Sp.Mb), hA, hc) : Sp.Mp)]).length c') (acc ++ [(((⟨mf, mn, md, ms, ml, mc, mh⟩ : Sp.Mb), hA, hc) : Sp.Mp)]).length ((acc ++ [(((⟨mf, mn, md, ms, ml, mc, mh⟩ : Sp.Mb), hA, hc) : Sp.Mp)]).flatMap Sp.mbC) ∧ OwnM w5 W21.heap.size (acc ++ [(((⟨mf, mn, md, ms, ml, mc, mh⟩ : Sp.Mb), hA, hc) : Sp.Mp)]) ∧ Rq w5 (zb + 1) u2 y2 ∧ w5.heap[fb]? = some (.cells #[.slice A1 pool.length k1, .int .i64 fl, .int .i64 th, .int .i64 su, .slice A2 ifs.length k2, .slice A acc.length c, .slice none 0 0] 26 (0, 0)) ∧ Keeps (fun i => i = zb + 1 ∨ i = fb) W21 w5))
             have hf3 : Hid (∀ (hA : Option Addr) (hc : Nat), ((acc ++ [(((⟨mf, mn, md, ms, ml, mc, mh⟩ : Sp.Mb), hA, hc) : Sp.Mp)]).map (·.1) ++ (Sp.manyR Sp.fieldR (nc3 - (acc ++ [(((⟨mf, mn, md, ms, ml, mc, mh⟩ : Sp.Mb), hA, hc) : Sp.Mp)]).length) u2 y2).1, (Sp.manyR Sp.fieldR (nc3 - (acc ++ [(((⟨mf, mn, md, ms, ml, mc, mh⟩ : Sp.Mb), hA, hc) : Sp.Mp)]).length) u2 y2).2) = (fds, s7, e7)) := Lib.hid (by intro hA hc; rw [List.length_append, List.length_singleton, ← hf2]; simp only [List.map_append, List.map_cons, List.map_nil]; simp only [List.append_assoc]; rfl)
             clear hf2 hrz r1 g1' hbo
             have dc := hcl.out wc.drew hFd.out
             go_upto_region 25 with fail
             have dc1 := dc.1
             go_region_law (first | (refine step_append_run _ rfl _ _ _ _ rfl (.slice A acc.length c) (.slice (some ⟨w4.heap.size, 0, none⟩) 1 1) rfl rfl (.slice A' (acc ++ [(((⟨mf, mn, md, ms, ml, mc, mh⟩ : Sp.Mb), hA, hc) : Sp.Mp)]).length c') w5 hra ?_) | (go_simp; go_at_call 175; (first | with_reducible refine kc.out.mono ?_ | refine kc.out.mono ?_); rintro x w4 ⟨hA, hc, rfl, hh, hR4, hK4⟩; obtain ⟨hF4, A', c', w5, hra, hN5⟩ := hnx.out w4 hR4 hK4 hA hc hh; have m4 := (hcl.out w4 hF4).1; have m4a := cell_alloc w4 (.cells #[.int .i64 mf, .int .i64 mn, .int .i64 md, .int .i64 ms, .int .i64 ml, .string mc, .slice hA mh.length hc] 131) m4; have m5 := (hcl.out w5 hN5.2.2.2.1).1; have fz5 := (hcl.out w5 hN5.2.2.2.1).2; have hl5 := blk_lt hN5.2.2.2.1))
             all_goals
              obtain ⟨hO5, hM5, hR5, hF5, hK5⟩ := hN5
              have hlen : acc.length + 1 = (acc ++ [(((⟨mf, mn, md, ms, ml, mc, mh⟩ : Sp.Mb), hA, hc) : Sp.Mp)]).length := by simp
              have hR6 := Lib.hid (show Rq (w5.setCell ⟨fb, 5, none⟩ (.slice A' (acc.length + 1) c')) (zb + 1) u2 y2 from blk_other hR5 ⟨fb, 5, none⟩ (.slice A' (acc.length + 1) c') hn1)
              have hF6 := Lib.hid (show (w5.setCell ⟨fb, 5, none⟩ (.slice A' (acc.length + 1) c')).heap[fb]? = some (.cells #[.slice A1 pool.length k1, .int .i64 fl, .int .i64 th, .int .i64 su, .slice A2 ifs.length k2, .slice A' (acc ++ [(((⟨mf, mn, md, ms, ml, mc, mh⟩ : Sp.Mb), hA, hc) : Sp.Mp)]).length c', .slice none 0 0] 26 (0, 0)) by rw [← hlen]; exact blk_set (i := 5) hF5 (.slice A' (acc.length + 1) c'))
              have hO6 := Lib.hid (own_set hO5 (b := fb) (o := 5) (fun q hq => by have := own_base hO5 q hq; omega) (.slice A' (acc.length + 1) c'))
              have hK6 := Lib.hid (hK5.setCell (a := ⟨fb, 5, none⟩) (.inl (.inr rfl)) (.slice A' (acc.length + 1) c'))
              have hM6 := Lib.hid (hM5.keep ((Keeps.refl (fun i => i = fb) w5).setCell (a := ⟨fb, 5, none⟩) (.inl rfl) (.slice A' (acc.length + 1) c')) (fun i hi q => by omega))
              have hf4 := Lib.hid (hf3.out hA hc)
              have hal : (acc ++ [(((⟨mf, mn, md, ms, ml, mc, mh⟩ : Sp.Mb), hA, hc) : Sp.Mp)]).length ≤ nc3 := by rw [← hlen]; omega
              clear hlen hO5 hM5 hR5 hF5 hK5 hf3 hnx hcl hFd hra m4 m4a hF4 hR4 hK4 kc dc dc1 hF hR hO hK hM hh
              go_wp2
              go_roundw
              case rel => exact ⟨(acc ++ [(((⟨mf, mn, md, ms, ml, mc, mh⟩ : Sp.Mb), hA, hc) : Sp.Mp)]), u2, y2, A', c', by first | rfl | go_num | (simp; done) | (simp; omega), hal, hu2, hR6, hF6, hO6, hM6, hK6, hf4⟩
              case measure => first | (simp [RowKit.intOf]; done) | (simp [RowKit.intOf]; omega)
            ·rw [decide_eq_false hlt]
             have hFF : (fds, s7, e7) = (acc.map (·.1), t1, x1) := by
              rw [← hf.out]
              by_cases hx : x1 = 0
              ·have hz : nc3 - acc.length = 0 := by omega
               rw [hz]
               simp [Sp.manyR]
              ·rw [Sp.manyR_err _ _ _ _ hx]
               simp
             injection hFF with h1 h2
             injection h2 with h2 h3
             subst h2 h3
             obtain ⟨LX, rfl⟩ : ∃ l, l = acc := ⟨_, rfl⟩
             subst h1
             obtain ⟨A3, rfl⟩ : ∃ l, l = A := ⟨_, rfl⟩
             obtain ⟨k3, rfl⟩ : ∃ l, l = c := ⟨_, rfl⟩
             clear hf hlt r1 g1' hlb hlf
             have hPk := hP.out.keep hK.out (fun i hi q => by omega)
             have hP' : Hid (Pr wc (fb + 1) ⟨A1, k1, A2, k2, A3, k3, none, 0⟩ ⟨pool, fl, th, su, ifs, LX, []⟩) := Lib.hid ⟨hPk.pool, hPk.ifs, own_mono hO.out hzW, hM.out.mono hzW, hPk.methods, hPk.mh⟩
             have hG' := Lib.hid (hG.out.then hK.out (fun i q => .inl q))
             clear hPk hP hG hK hO hM hKz hzW
             have hP := hP'
             have hG := hG'
             clear hP' hG'
             go_upto_region 26 with fail
             have kq := Lib.hid (kc_c4.out wc hR.out)
             go_wp2_with fail
             refine kq.out.mono ?_
             rintro x W26 ⟨rfl, hRa, hKa⟩
             have hF' := Lib.hid (hKa.obj hF.out (fun q => hn1 q.symm))
             have hP' := Lib.hid (hP.out.keep hKa (fun i hi q => by omega))
             have hG' := Lib.hid (hG.out.then hKa (fun i q => .inl (.inl q)))
             have hR' := Lib.hid hRa
             clear hRa hKa kq hR hF hP hG
             have hR := hR'
             have hF := hF'
             have hP := hP'
             have hG := hG'
             clear hR' hF' hP' hG'
             have hzW : fb + 1 ≤ W26.heap.size := by rw [← hs6]; exact hG.out.size
             have hO0 := Lib.hid (World.ownsRow_nil W26 W26.heap.size 131 7)
             have hK0 := Lib.hid (Keeps.refl (fun i => i = zb + 1 ∨ i = fb) W26)
             have hf0 : Hid (((([] : List Sp.Mp).map (·.1)) ++ (Sp.manyR Sp.methodR (nc4 - ([] : List Sp.Mp).length) p4 g4).1, (Sp.manyR Sp.methodR (nc4 - ([] : List Sp.Mp).length) p4 g4).2) = (mths, s8, e8)) := Lib.hid (by rw [← HMc4.out]; rfl)
             have hM0 : Hid (OwnM W26 W26.heap.size []) := Lib.hid (fun m hm => by cases hm)
             go_wp2
             go_loopw [11] (fun vi wr => ∃ (acc : List Sp.Mp) (t1 : ByteArray) (x1 : Int) (A : Option Addr) (c : Nat), vi = .int .i64 acc.length ∧ acc.length ≤ nc4 ∧ t1.size ≤ 1099511627776 ∧ Hid (Rq wr (zb + 1) t1 x1) ∧ Hid (wr.heap[fb]? = some (.cells #[.slice A1 pool.length k1, .int .i64 fl, .int .i64 th, .int .i64 su, .slice A2 ifs.length k2, .slice A3 LX.length k3, .slice A acc.length c] 26 (0, 0))) ∧ Hid (wr.ownsRow W26.heap.size 131 7 (.slice A acc.length c) acc.length (acc.flatMap Sp.mbC)) ∧ Hid (OwnM wr W26.heap.size acc) ∧ Hid (Keeps (fun i => i = zb + 1 ∨ i = fb) W26 wr) ∧ Hid ((acc.map (·.1) ++ (Sp.manyR Sp.methodR (nc4 - acc.length) t1 x1).1, (Sp.manyR Sp.methodR (nc4 - acc.length) t1 x1).2) = (mths, s8, e8))) (fun vi _ => nc4 - (RowKit.intOf vi).toNat)
             case atStart => exact ⟨[], p4, g4, none, 0, by go_num, Nat.zero_le _, hsc4, hR, hF, hO0, hM0, hK0, hf0⟩
             case round =>
              clear hR hF hO0 hK0 hf0 hM0
              obtain ⟨acc, t1, x1, A, c, rfl, hak, hst, hR, hF, hO, hM, hK, hf⟩ := hrel
              obtain ⟨r1, g1'⟩ := blk_cell hR.out 1 _ rfl
              have hlb := blk_lt hR.out
              have hlf := blk_lt hF.out
              have hKz := hK.out.size
              go_upto_region 28 with fail
              go_cut [118] (fun xt wx => xt = .bool (decide (acc.length < nc4 ∧ x1 = 0)) ∧ wx = wr)
              case first =>
               by_cases hlt : acc.length < nc4
               ·have hzk : (acc.length : Int) < (nc4 : Int) := by omega
                by_cases hx : x1 = 0
                ·subst hx
                 go_wp2
                 go_meet
                 exact ⟨by simp [hlt], rfl⟩
                ·have hxb : (x1 == 0) = false := by simp [hx]
                 go_wp2
                 go_meet
                 exact ⟨by simp [hx], rfl⟩
               ·have hzk : ¬ (acc.length : Int) < (nc4 : Int) := by omega
                go_wp2
                go_meet
                exact ⟨by simp [hlt], rfl⟩
              case rest =>
               obtain ⟨rfl, rfl⟩ := hcut
               by_cases hlt : acc.length < nc4 ∧ x1 = 0
               ·rw [decide_eq_true hlt]
                obtain ⟨hlt, hx⟩ := hlt
                subst hx
                have hf2 := hf.out
                rw [show nc4 - acc.length = (nc4 - (acc.length + 1)) + 1 by omega, Sp.manyR_ok] at hf2
                have hrz := Sp.method_len t1 0
                have kc := Lib.hid (qmethod_any (zb + 1) t1 0 wc.drew (show Rq _ _ _ _ from hR.out) hst)
                clear hf
                simp only [] at hf2 hrz
                generalize Sp.methodR t1 0 = N at *
                obtain ⟨⟨mf, mn, md, ms, ml, mc, mh⟩, u2, y2⟩ := N
                unfold Sp.mbV at kc
                simp only [] at kc hf2 hrz
                have hu2 : u2.size ≤ 1099511627776 := by omega
                have hFd : Hid (wc.drew.heap[fb]? = some (.cells #[.slice A1 pool.length k1, .int .i64 fl, .int .i64 th, .int .i64 su, .slice A2 ifs.length k2, .slice A3 LX.length k3, .slice A acc.length c] 26 (0, 0))) := Lib.hid hF.out
                have hcl : Hid (∀ W : World, W.heap[fb]? = some (.cells #[.slice A1 pool.length k1, .int .i64 fl, .int .i64 th, .int .i64 su, .slice A2 ifs.length k2, .slice A3 LX.length k3, .slice A acc.length c] 26 (0, 0)) → (W.cell? ⟨fb, 6, none⟩ = some (.slice A acc.length c) ∧ W.frozen? ⟨fb, 6, none⟩ = false)) := Lib.hid (fun W h => blk_cell h 6 _ rfl)
                have hGs := hG.out.size
                have hBr : W26.heap.size ≤ wc.heap.size := hKz
                have hbo := own_base hO.out
                have hnx := Lib.hid (fun (w4 : World) (hR4 : Rq w4 (zb + 1) u2 y2) (hK4 : Keeps (fun i => i = zb + 1) wc.drew w4) (hA : Option Addr) (hc : Nat) (hh : w4.ownsRow wc.drew.heap.size 239 4 (.slice hA mh.length hc) mh.length (mh.flatMap Sp.hnC)) => (by
                 have hF4 := hK4.obj hFd.out (fun q => hn1 q.symm)
                 have hO4 := hK4.row (show wc.drew.ownsRow _ _ _ _ _ _ from hO.out) (fun k hk q => by have := hbo k hk; omega)
                 have hM4 := OwnM.snoc (m := ((⟨mf, mn, md, ms, ml, mc, mh⟩ : Sp.Mb), hA, hc)) (hM.out.drew.keep hK4 (fun i hi q => by omega)) (own_mono hh hBr)
                 obtain ⟨A', c', w5, r1, r2, r3⟩ := app_mb w4 W26.heap.size A c acc ((⟨mf, mn, md, ms, ml, mc, mh⟩ : Sp.Mb), hA, hc) hO4 (by omega) (by have := hK4.size; exact Nat.le_trans hBr this)
                 have hK5 : Keeps (fun i => W26.heap.size ≤ i) w4 w5 := r3.mono (own_base hO4)
                 exact ⟨hF4, A', c', w5, r1, r2, OwnM.row hM4 hO4 (by decide) r3, hK5.obj hR4 (by omega), hK5.obj hF4 (by omega), (hK.out.drew.then hK4 (fun i q => .inl (.inl q))).then hK5 (fun i q => .inr q)⟩ :
                 w4.heap[fb]? = some (.cells #[.slice A1 pool.length k1, .int .i64 fl, .int .i64 th, .int .i64 su, .slice A2 ifs.length k2, .slice A3 LX.length k3, .slice A acc.length c] 26 (0, 0)) ∧ ∃ A' c' w5, (Builtin.append_ #[24, 24] 24 #[.slice A acc.length c, .slice (some ⟨w4.heap.size, 0, none⟩) 1 1]).run Tryz.prog (w4.alloc (.cells #[.int .i64 mf, .int .i64 mn, .int .i64 md, .int .i64 ms, .int .i64 ml, .string mc, .slice hA mh.length hc] 131)) = .ok (.slice A' (acc ++ [(((⟨mf, mn, md, ms, ml, mc, mh⟩ : Sp.Mb), hA, hc) : Sp.Mp)]).length c') w5 ∧ w5.ownsRow W26.heap.size 131 7 (.slice A' (acc ++ [(((⟨mf, mn, md, ms, ml, mc, mh⟩ : Sp.Mb), hA, hc) : Sp.Mp)]).length c') (acc ++ [(((⟨mf, mn, md, ms, ml, mc, mh⟩ : Sp.Mb), hA, hc) : Sp.Mp)]).length ((acc ++ [(((⟨mf, mn, md, ms, ml, mc, mh⟩ : Sp.Mb), hA, hc) : Sp.Mp)]).flatMap Sp.mbC) ∧ OwnM w5 W26.heap.size (acc ++ [(((⟨mf, mn, md, ms, ml, mc, mh⟩ : Sp.Mb), hA, hc) : Sp.Mp)]) ∧ Rq w5 (zb + 1) u2 y2 ∧ w5.heap[fb]? = some (.cells #[.slice A1 pool.length k1, .int .i64 fl, .int .i64 th, .int .i64 su, .slice A2 ifs.length k2, .slice A3 LX.length k3, .slice A acc.length c] 26 (0, 0)) ∧ Keeps (fun i => i = zb + 1 ∨ i = fb) W26 w5))
                have hf3 : Hid (∀ (hA : Option Addr) (hc : Nat), ((acc ++ [(((⟨mf, mn, md, ms, ml, mc, mh⟩ : Sp.Mb), hA, hc) : Sp.Mp)]).map (·.1) ++ (Sp.manyR Sp.methodR (nc4 - (acc ++ [(((⟨mf, mn, md, ms, ml, mc, mh⟩ : Sp.Mb), hA, hc) : Sp.Mp)]).length) u2 y2).1, (Sp.manyR Sp.methodR (nc4 - (acc ++ [(((⟨mf, mn, md, ms, ml, mc, mh⟩ : Sp.Mb), hA, hc) : Sp.Mp)]).length) u2 y2).2) = (mths, s8, e8)) := Lib.hid (by intro hA hc; rw [List.length_append, List.length_singleton, ← hf2]; simp only [List.map_append, List.map_cons, List.map_nil]; simp only [List.append_assoc]; rfl)
                clear hf2 hrz r1 g1' hbo
                have dc := hcl.out wc.drew hFd.out
                go_upto_region 30 with fail
                have dc1 := dc.1
                go_region_law (first | (refine step_append_run _ rfl _ _ _ _ rfl (.slice A acc.length c) (.slice (some ⟨w4.heap.size, 0, none⟩) 1 1) rfl rfl (.slice A' (acc ++ [(((⟨mf, mn, md, ms, ml, mc, mh⟩ : Sp.Mb), hA, hc) : Sp.Mp)]).length c') w5 hra ?_) | (go_simp; go_at_call 175; (first | with_reducible refine kc.out.mono ?_ | refine kc.out.mono ?_); rintro x w4 ⟨hA, hc, rfl, hh, hR4, hK4⟩; obtain ⟨hF4, A', c', w5, hra, hN5⟩ := hnx.out w4 hR4 hK4 hA hc hh; have m4 := (hcl.out w4 hF4).1; have m4a := cell_alloc w4 (.cells #[.int .i64 mf, .int .i64 mn, .int .i64 md, .int .i64 ms, .int .i64 ml, .string mc, .slice hA mh.length hc] 131) m4; have m5 := (hcl.out w5 hN5.2.2.2.1).1; have fz5 := (hcl.out w5 hN5.2.2.2.1).2; have hl5 := blk_lt hN5.2.2.2.1))
                all_goals
                 obtain ⟨hO5, hM5, hR5, hF5, hK5⟩ := hN5
                 have hlen : acc.length + 1 = (acc ++ [(((⟨mf, mn, md, ms, ml, mc, mh⟩ : Sp.Mb), hA, hc) : Sp.Mp)]).length := by simp
                 have hR6 := Lib.hid (show Rq (w5.setCell ⟨fb, 6, none⟩ (.slice A' (acc.length + 1) c')) (zb + 1) u2 y2 from blk_other hR5 ⟨fb, 6, none⟩ (.slice A' (acc.length + 1) c') hn1)
                 have hF6 := Lib.hid (show (w5.setCell ⟨fb, 6, none⟩ (.slice A' (acc.length + 1) c')).heap[fb]? = some (.cells #[.slice A1 pool.length k1, .int .i64 fl, .int .i64 th, .int .i64 su, .slice A2 ifs.length k2, .slice A3 LX.length k3, .slice A' (acc ++ [(((⟨mf, mn, md, ms, ml, mc, mh⟩ : Sp.Mb), hA, hc) : Sp.Mp)]).length c'] 26 (0, 0)) by rw [← hlen]; exact blk_set (i := 6) hF5 (.slice A' (acc.length + 1) c'))
                 have hO6 := Lib.hid (own_set hO5 (b := fb) (o := 6) (fun q hq => by have := own_base hO5 q hq; omega) (.slice A' (acc.length + 1) c'))
                 have hK6 := Lib.hid (hK5.setCell (a := ⟨fb, 6, none⟩) (.inl (.inr rfl)) (.slice A' (acc.length + 1) c'))
                 have hM6 := Lib.hid (hM5.keep ((Keeps.refl (fun i => i = fb) w5).setCell (a := ⟨fb, 6, none⟩) (.inl rfl) (.slice A' (acc.length + 1) c')) (fun i hi q => by omega))
                 have hf4 := Lib.hid (hf3.out hA hc)
                 have hal : (acc ++ [(((⟨mf, mn, md, ms, ml, mc, mh⟩ : Sp.Mb), hA, hc) : Sp.Mp)]).length ≤ nc4 := by rw [← hlen]; omega
                 clear hlen hO5 hM5 hR5 hF5 hK5 hf3 hnx hcl hFd hra m4 m4a hF4 hR4 hK4 kc dc dc1 hF hR hO hK hM hh
                 go_wp2
                 go_roundw
                 case rel => exact ⟨(acc ++ [(((⟨mf, mn, md, ms, ml, mc, mh⟩ : Sp.Mb), hA, hc) : Sp.Mp)]), u2, y2, A', c', by first | rfl | go_num | (simp; done) | (simp; omega), hal, hu2, hR6, hF6, hO6, hM6, hK6, hf4⟩
                 case measure => first | (simp [RowKit.intOf]; done) | (simp [RowKit.intOf]; omega)
               ·rw [decide_eq_false hlt]
                have hFF : (mths, s8, e8) = (acc.map (·.1), t1, x1) := by
                 rw [← hf.out]
                 by_cases hx : x1 = 0
                 ·have hz : nc4 - acc.length = 0 := by omega
                  rw [hz]
                  simp [Sp.manyR]
                 ·rw [Sp.manyR_err _ _ _ _ hx]
                  simp
                injection hFF with h1 h2
                injection h2 with h2 h3
                subst h2 h3
                obtain ⟨LY, rfl⟩ : ∃ l, l = acc := ⟨_, rfl⟩
                subst h1
                obtain ⟨A4, rfl⟩ : ∃ l, l = A := ⟨_, rfl⟩
                obtain ⟨k4, rfl⟩ : ∃ l, l = c := ⟨_, rfl⟩
                clear hf hlt r1 g1' hlb hlf
                have hPk := hP.out.keep hK.out (fun i hi q => by omega)
                have hP' : Hid (Pr wc (fb + 1) ⟨A1, k1, A2, k2, A3, k3, A4, k4⟩ ⟨pool, fl, th, su, ifs, LX, LY⟩) := Lib.hid ⟨hPk.pool, hPk.ifs, hPk.fields, hPk.fh, own_mono hO.out hzW, hM.out.mono hzW⟩
                have hG' := Lib.hid (hG.out.then hK.out (fun i q => .inl q))
                clear hPk hP hG hK hO hM hKz hzW
                have hP := hP'
                have hG := hG'
                clear hP' hG'
                go_upto_region 31 with fail
                have hZ := Lib.hid (hG.out.obj hZ6.out (by omega))
                have hK := Lib.hid (hK6.out.then hG.out (fun i q => .inr (by omega)))
                have hRF := hP.out.rd
                have hFo := hok.out ⟨pool, fl, th, su, ifs, LX, LY⟩ rfl
                have hle2 : w.heap.size ≤ zb := by omega
                have hD := HP.out
                have hrr := HRR.out
                simp only [] at hD hrr
                have hfl : FlP.fl ⟨pool, fl, th, su, ifs, LX, LY⟩ = ⟨pool, fl, th, su, ifs, LX.map (·.1), LY.map (·.1)⟩ := rfl
                unfold Sp.doneR Sp.endR at hD
                clear HP HRR hok hG hZ6 hK6
                obtain ⟨r0, t0⟩ := blk_cell hR.out 0 _ rfl
                obtain ⟨r1, t1'⟩ := blk_cell hR.out 1 _ rfl
                have hlr := blk_lt hR.out
                by_cases he : e8 = 0
                ·subst he
                 by_cases hs8 : s8 = ⟨#[]⟩
                 ·subst hs8
                  obtain ⟨h1, h2⟩ := hrr rfl
                  have kpt := Lib.hid (refFright_any ⟨A1, k1, A2, k2, A3, k3, A4, k4⟩ ⟨pool, fl, th, su, ifs, LX, LY⟩ wc hRF hFo (by rw [hfl]; omega))
                  rw [hfl, h1] at kpt
                  rw [show flC ⟨A1, k1, A2, k2, A3, k3, A4, k4⟩ ⟨pool, fl, th, su, ifs, LX, LY⟩ = #[.slice A1 pool.length k1, .int .i64 fl, .int .i64 th, .int .i64 su, .slice A2 ifs.length k2, .slice A3 LX.length k3, .slice A4 LY.length k4] from rfl] at kpt
                  rw [if_neg (show ¬ ((0 : Int) = 0 ∧ (⟨#[]⟩ : ByteArray) ≠ ⟨#[]⟩) from fun q => q.2 rfl), if_pos rfl] at hD
                  clear h1 h2 hrr hfl hFo hRF
                  generalize Sp.partsS ⟨pool, fl, th, su, ifs, LX.map (·.1), LY.map (·.1)⟩ = pt at *
                  obtain ⟨y0, y1, y2, y3, y4, y5, y6⟩ := cells7m hF.out
                  have hlf := blk_lt hF.out
                  have hD2 := Lib.hid hD
                  clear hD
                  go_wp2_with fail
                  refine kpt.out.mono ?_
                  rintro x w14 ⟨rfl, hb14⟩
                  have hD := hD2.out
                  have hZ14 := Lib.hid (blk_below hZ.out hb14)
                  have hF14 := Lib.hid (blk_below hF.out hb14)
                  have hK14 := Lib.hid (hK.out.then (Keeps.of_below (S := fun i => False) hb14) (fun i q => q.elim))
                  have hP14 := Lib.hid (hP.out.keep (Keeps.of_below (S := fun i => False) hb14) (fun i hi q => q))
                  clear hZ hF hK hP hR y0 y1 y2 y3 y4 y5 y6 r0 t0 r1 t1' hlr hlf kpt hb14 hD2
                  by_cases hp : pt = 0
                  ·subst hp
                   rw [if_pos rfl] at hD
                   have hlf := blk_lt hF14.out
                   obtain ⟨y0, y1, y2, y3, y4, y5, y6⟩ := cells7m hF14.out
                   have hPf := Lib.hid (hP14.out.keep ((((((((Keeps.refl (fun i => i = zb) w14).setCell (a := ⟨zb, 0, none⟩) (.inl rfl) (.slice A1 pool.length k1)).setCell (a := ⟨zb, 1, none⟩) (.inl rfl) (.int .i64 fl)).setCell (a := ⟨zb, 2, none⟩) (.inl rfl) (.int .i64 th)).setCell (a := ⟨zb, 3, none⟩) (.inl rfl) (.int .i64 su)).setCell (a := ⟨zb, 4, none⟩) (.inl rfl) (.slice A2 ifs.length k2)).setCell (a := ⟨zb, 5, none⟩) (.inl rfl) (.slice A3 LX.length k3)).setCell (a := ⟨zb, 6, none⟩) (.inl rfl) (.slice A4 LY.length k4)) (fun i hi q => by omega))
                   obtain ⟨d0, d1, d2, d3, d4, d5, d6⟩ := cells7m hZ14.out
                   obtain ⟨f0, f1, f2, f3, f4, f5, f6⟩ := frz7m hZ14.out
                   have hlz := blk_lt hZ14.out
                   have hfin := Lib.hid (blk_set (i := 6) (blk_set (i := 5) (blk_set (i := 4) (blk_set (i := 3) (blk_set (i := 2) (blk_set (i := 1) (blk_set (i := 0) hZ14.out (.slice A1 pool.length k1)) (.int .i64 fl)) (.int .i64 th)) (.int .i64 su)) (.slice A2 ifs.length k2)) (.slice A3 LX.length k3)) (.slice A4 LY.length k4))
                   have hBf := Lib.hid (((((((hK14.out.setCell (a := ⟨zb, 0, none⟩) (.inr hle2) (.slice A1 pool.length k1)).setCell (a := ⟨zb, 1, none⟩) (.inr hle2) (.int .i64 fl)).setCell (a := ⟨zb, 2, none⟩) (.inr hle2) (.int .i64 th)).setCell (a := ⟨zb, 3, none⟩) (.inr hle2) (.int .i64 su)).setCell (a := ⟨zb, 4, none⟩) (.inr hle2) (.slice A2 ifs.length k2)).setCell (a := ⟨zb, 5, none⟩) (.inr hle2) (.slice A3 LX.length k3)).setCell (a := ⟨zb, 6, none⟩) (.inr hle2) (.slice A4 LY.length k4))
                   go_wp2
                   (try simp only [Exit.inBlock, Exit.then])
                   refine bodyPost_ret (results_ct rfl _ _ _ rfl (fl_load hfin.out)) rfl ?_
                   have hbel := hBf.out.below (Nat.le_refl _) (fun _ q => q.elim)
                   exact ⟨⟨A1, k1, A2, k2, A3, k3, A4, k4⟩, ⟨pool, fl, th, su, ifs, LX, LY⟩, by rw [← hD]; rfl, by rw [← hD]; rfl, hPf.out.rd, hbel⟩
                  ·rw [if_neg hp] at hD
                   have hb2 : (pt != 0) = true := by simp [hp]
                   clear hF14 hP14
                   obtain ⟨d0, d1, d2, d3, d4, d5, d6⟩ := cells7m hZ14.out
                   obtain ⟨f0, f1, f2, f3, f4, f5, f6⟩ := frz7m hZ14.out
                   have hlz := blk_lt hZ14.out
                   have hfin := Lib.hid (blk_set (i := 6) (blk_set (i := 5) (blk_set (i := 4) (blk_set (i := 3) (blk_set (i := 2) (blk_set (i := 1) (blk_set (i := 0) hZ14.out (.slice none 0 0)) (.int .i64 0)) (.int .i64 0)) (.int .i64 0)) (.slice none 0 0)) (.slice none 0 0)) (.slice none 0 0))
                   have hBf := Lib.hid (((((((hK14.out.setCell (a := ⟨zb, 0, none⟩) (.inr hle2) (.slice none 0 0)).setCell (a := ⟨zb, 1, none⟩) (.inr hle2) (.int .i64 0)).setCell (a := ⟨zb, 2, none⟩) (.inr hle2) (.int .i64 0)).setCell (a := ⟨zb, 3, none⟩) (.inr hle2) (.int .i64 0)).setCell (a := ⟨zb, 4, none⟩) (.inr hle2) (.slice none 0 0)).setCell (a := ⟨zb, 5, none⟩) (.inr hle2) (.slice none 0 0)).setCell (a := ⟨zb, 6, none⟩) (.inr hle2) (.slice none 0 0))
                   go_wp2
                   (try simp only [Exit.inBlock, Exit.then])
                   refine bodyPost_ret (results_ct rfl _ _ _ rfl (fl_load hfin.out)) rfl ?_
                   have hbel := hBf.out.below (Nat.le_refl _) (fun _ q => q.elim)
                   exact ⟨qZ, FZ, by rw [← hD]; rfl, by rw [← hD]; rfl, rdF_zero _, hbel⟩
                 ·rw [if_pos (show ((0 : Int) = 0 ∧ s8 ≠ ⟨#[]⟩) from ⟨rfl, hs8⟩), if_neg (show ¬ (6 : Int) = 0 by decide)] at hD
                  have ht2 : (s8.toList == []) = false := by rw [show ([] : List UInt8) = (⟨#[]⟩ : ByteArray).toList by decide +kernel, bytes_eqb]; exact decide_eq_false hs8
                  clear hF hP hrr hfl hFo hRF
                  obtain ⟨d0, d1, d2, d3, d4, d5, d6⟩ := cells7m hZ.out
                  obtain ⟨f0, f1, f2, f3, f4, f5, f6⟩ := frz7m hZ.out
                  have hlz := blk_lt hZ.out
                  have hfin := Lib.hid (blk_set (i := 6) (blk_set (i := 5) (blk_set (i := 4) (blk_set (i := 3) (blk_set (i := 2) (blk_set (i := 1) (blk_set (i := 0) hZ.out (.slice none 0 0)) (.int .i64 0)) (.int .i64 0)) (.int .i64 0)) (.slice none 0 0)) (.slice none 0 0)) (.slice none 0 0))
                  have hBf := Lib.hid (((((((hK.out.setCell (a := ⟨zb, 0, none⟩) (.inr hle2) (.slice none 0 0)).setCell (a := ⟨zb, 1, none⟩) (.inr hle2) (.int .i64 0)).setCell (a := ⟨zb, 2, none⟩) (.inr hle2) (.int .i64 0)).setCell (a := ⟨zb, 3, none⟩) (.inr hle2) (.int .i64 0)).setCell (a := ⟨zb, 4, none⟩) (.inr hle2) (.slice none 0 0)).setCell (a := ⟨zb, 5, none⟩) (.inr hle2) (.slice none 0 0)).setCell (a := ⟨zb, 6, none⟩) (.inr hle2) (.slice none 0 0))
                  go_wp2
                  (try simp only [Exit.inBlock, Exit.then])
                  refine bodyPost_ret (results_ct rfl _ _ _ rfl (fl_load hfin.out)) rfl ?_
                  have hbel := hBf.out.below (Nat.le_refl _) (fun _ q => q.elim)
                  exact ⟨qZ, FZ, by rw [← hD]; rfl, by rw [← hD]; rfl, rdF_zero _, hbel⟩
                ·rw [if_neg (show ¬ (e8 = 0 ∧ s8 ≠ ⟨#[]⟩) from fun q => he q.1), if_neg he] at hD
                 have hb2 : (e8 != 0) = true := by simp [he]
                 clear hF hP hrr hfl hFo hRF
                 have hZd := Lib.hid (show wc.drew.heap[zb]? = some (.cells #[.slice none 0 0, .int .i64 0, .int .i64 0, .int .i64 0, .slice none 0 0, .slice none 0 0, .slice none 0 0] 26 (0, 0)) from hZ.out)
                 have hKd := Lib.hid hK.out.drew
                 have hRd := Lib.hid (show Rq wc.drew (zb + 1) s8 e8 from hR.out)
                 obtain ⟨r0', t0''⟩ := blk_cell hRd.out 0 _ rfl
                 obtain ⟨r1', t1''⟩ := blk_cell hRd.out 1 _ rfl
                 obtain ⟨j0, j1, j2, j3, j4, j5, j6⟩ := cells7m hZ.out
                 obtain ⟨l0, l1, l2, l3, l4, l5, l6⟩ := frz7m hZ.out
                 go_upto_region 32 with fail
                 clear j0 j1 j2 j3 j4 j5 j6 l0 l1 l2 l3 l4 l5 l6 r0 t0 r1 t1' r0' t0'' r1' t1''
                 have hnz : zb + 1 ≠ zb := by omega
                 clear kc_c1 kn_fl kn_th kn_su kc_c2 kc_c3 kc_c4 HMc1 HMc2 HMc3 HMc4 hlr hs6 hn1 hn0 hz6 hZd hKd hRd
                 refine wp_region_noPanic (zero_err _ _ _ zb (zb + 1) s8 e8 (fun _ _ _ _ _ h => h) (by rfl) (by rfl) (Nat.le_of_ble_eq_true (by rfl)) hZ.out hR.out hnz ?_)
                 intro w5 hZ5 hK5
                 refine NoPanic.normal ?_
                 have hfin := Lib.hid hZ5
                 have hBf := Lib.hid (hK.out.then hK5 (fun i q => .inr (by omega)))
                 clear hZ5 hK5 hZ hK hR
                 (try simp only [Act.put, List.setIfInBounds_toArray, List.set_cons_zero, List.set_cons_succ])
                 go_wp2
                 (try simp only [Exit.inBlock, Exit.then])
                 refine bodyPost_ret (results_ct rfl _ _ _ rfl (fl_load hfin.out)) rfl ?_
                 have hbel := hBf.out.below (Nat.le_refl _) (fun _ q => q.elim)
                 exact ⟨qZ, FZ, by rw [← hD]; rfl, by rw [← hD]; rfl, rdF_zero _, hbel⟩
end Go.Proofs.YtjjlcoimaihdoaaGreatDoor
namespace Go.Proofs.YtjjlcoimaihdoaaGreatDoor.Sp
open Go.Lib
theorem constB_len (c : Cn) : (constB c).length ≤ 65538 := by
 unfold constB
 have h := encS_size c.text
 rw [List.length_append, putL_length]
 split
 ·rw [List.length_append, putsL_length, nums_length]; simp only [List.length_cons, List.length_nil]; omega
 ·split
  ·rw [putL_length]; omega
  ·split
   ·rw [putsL_length]; simp only [List.length_cons, List.length_nil]; omega
   ·rw [putsL_length]; simp only [List.length_cons, List.length_nil]; omega
theorem constB_all : ∀ l : List Cn, (l.flatMap constB).length ≤ l.length * 65538
 | [] => by simp
 | c :: l => by
  have h1 := constB_len c
  have h2 := constB_all l
  rw [List.flatMap_cons, List.length_append, List.length_cons]
  omega
theorem handB_all (l : List Hn) : (l.flatMap handB).length = 8 * l.length := by
 induction l with
 | nil => rfl
 | cons h l ih =>
  rw [List.flatMap_cons, List.length_append, ih, handB, putsL_length]
  simp only [List.length_cons, List.length_nil]
  omega
theorem fieldB_all (l : List Mb) : (l.flatMap fieldB).length = 5 * l.length := by
 induction l with
 | nil => rfl
 | cons h l ih =>
  rw [List.flatMap_cons, List.length_append, ih, fieldB, List.length_append, putL_length, putsL_length]
  simp only [List.length_cons, List.length_nil]
  omega
theorem methodB_all (l : List Mb) : (l.flatMap methodB).length ≤ 10 * l.length + codeN l := by
 induction l with
 | nil => simp
 | cons m l ih =>
  rw [List.flatMap_cons, List.length_append, codeN, List.length_cons]
  have : (methodB m).length ≤ 10 + (m.code.size + 8 * m.hs.length) := by
   unfold methodB
   rw [List.length_append, List.length_append, putL_length, putsL_length]
   simp only [List.length_cons, List.length_nil]
   split
   ·simp only [List.length_nil]; omega
   ·unfold codeB
    simp only [List.length_append, putL_length, putsL_length, List.length_cons, List.length_nil, nums_length, handB_all]
    omega
  omega
theorem small_bytes {F : Fl} (h : smallS F = true) : (bytesS F).length ≤ 900000000 := by
 unfold smallS at h
 obtain ⟨h1, h2, h3, h4, h5⟩ := of_decide_eq_true h
 have a1 := constB_all F.pool
 have a2 := fieldB_all F.fields
 have a3 := methodB_all F.methods
 unfold bytesS
 simp only [List.length_append, putL_length, putsL_length, List.length_cons, List.length_nil]
 omega
end Go.Proofs.YtjjlcoimaihdoaaGreatDoor.Sp
