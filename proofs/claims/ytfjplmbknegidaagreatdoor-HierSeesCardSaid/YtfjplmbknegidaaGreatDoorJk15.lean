/-
  Texts of the proof, joined: each says at its head what it proves.
-/
import Derived.Test.YtfjplmbknegidaaGreatDoorJk14
import Derived.Test.YtfjplmbknegidaaGreatDoorJk9
import Derived.Test.YtfjplmbknegidaaGreatDoorJk10
import Derived.StringKeys
import Derived.Maps.AppendAt
import Derived.Deep.AppendLies
import Derived.OwnWalk
import Derived.Deep.RegionLaw
import Derived.Laws.EntriesVeiled
section
/-
  Words for chapter 6's code: a table's classes in memory; the program's table and the reference's.
-/
set_option linter.unusedVariables false
set_option linter.unusedSimpArgs false
namespace Go.Proofs.YtfjplmbknegidaaGreatDoor
open Go.RowKit Go.Lib Go.Maps

namespace Sp
/-- A class, and where its interfaces' names lie. -/
abbrev ClP := Cl × Option Addr × Nat
def clC (m : ClP) : List Value := [.string m.1.name, .string m.1.super, .slice m.2.1 m.1.ifaces.length m.2.2, .bool m.1.iface, .bool m.1.abs, .bool m.1.own, .int .i64 m.1.at_]
def clV (m : ClP) : Value := .agg #[.string m.1.name, .string m.1.super, .slice m.2.1 m.1.ifaces.length m.2.2, .bool m.1.iface, .bool m.1.abs, .bool m.1.own, .int .i64 m.1.at_]
theorem clC_len (m : ClP) : (clC m).length = 7 := rfl
theorem clC_one (x : ClP) : ∀ u ∈ clC x, u.oneCell' = true := by
  intro u hu
  simp [clC] at hu
  rcases hu with rfl | rfl | rfl | rfl | rfl | rfl | rfl <;> rfl
def strC (s : ByteArray) : List Value := [.string s]
theorem strC_len (s : ByteArray) : (strC s).length = 1 := rfl
theorem strC_one (x : ByteArray) : ∀ u ∈ strC x, u.oneCell' = true := by
  intro u hu
  simp [strC] at hu
  subst hu
  rfl
theorem strC_flat (l : List ByteArray) : l.flatMap strC = l.map Value.string := by induction l with | nil => rfl | cons a l ih => simp [strC, ih]
def findP : List ClP → ByteArray → Option ClP
  | [], _ => none
  | c :: L, s => if c.1.name = s then some c else findP L s
theorem findP_cl (L : List ClP) (s : ByteArray) : (findP L s).map (·.1) = findC (L.map (·.1)) s := by
  induction L with
  | nil => rfl
  | cons c L ih =>
    rw [List.map_cons, findC, findP]
    split
    · rfl
    · exact ih
theorem findP_mem {L : List ClP} {s : ByteArray} {c : ClP} (h : findP L s = some c) : c ∈ L ∧ c.1.name = s := by
  induction L with
  | nil => cases h
  | cons d L ih =>
    unfold findP at h
    split at h
    · rename_i e; cases h; exact ⟨List.mem_cons_self .., e⟩
    · exact ⟨List.mem_cons_of_mem _ (ih h).1, (ih h).2⟩
theorem findP_none {L : List ClP} {s : ByteArray} : findP L s = none ↔ findC (L.map (·.1)) s = none := by
  rw [← findP_cl]; cases findP L s <;> simp
theorem findP_some {L : List ClP} {s : ByteArray} {c : ClP} (h : findP L s = some c) : findC (L.map (·.1)) s = some c.1 := by
  rw [← findP_cl, h]; rfl
theorem findP_isSome (L : List ClP) (s : ByteArray) : (findP L s).isSome = (findC (L.map (·.1)) s).isSome := by
  rw [← findP_cl]; cases findP L s <;> rfl
theorem findP_append (L M : List ClP) (s : ByteArray) : findP (L ++ M) s = (findP L s).or (findP M s) := by
  induction L with
  | nil => simp [findP]
  | cons d L ih =>
    rw [List.cons_append, findP, findP]
    split
    · rfl
    · exact ih
/-- The map of a table, as a function. -/
def fH (L : List ClP) : Value → Option Value
  | .string s => (findP L s).map clV
  | _ => none
theorem fH_at (L : List ClP) (s : ByteArray) : fH L (.string s) = (findP L s).map clV := rfl
theorem fH_nil (x : Value) : fH [] x = none := by cases x <;> rfl
theorem fH_put (L : List ClP) (c : ClP) (h : findP L c.1.name = none) : fH (L ++ [c]) (.string c.1.name) = some (clV c) ∧ ∀ x, x ≠ .string c.1.name → fH (L ++ [c]) x = fH L x := by
  refine ⟨by rw [fH_at, findP_append, h, findP, if_pos rfl]; rfl, fun x hx => ?_⟩
  cases x with
  | string s =>
    have hne : ¬ c.1.name = s := fun q => hx (by rw [q])
    rw [fH_at, fH_at, findP_append, findP, if_neg hne, findP, Option.or_none]
  | _ => rfl
/-- What the zero of a class is. -/
def zP : ClP := (zC, none, 0)
end Sp

theorem infoStr : (Tryz.prog.info? 9).map (fun i => (i.zero, i.size, i.bytes)) = some (some (.string ⟨#[]⟩), 1, 16) := by kernel_rfl
theorem lawS : Maps.Keyed Tryz.prog 9 := string_keyed Tryz.underlying9
theorem keyS (s : ByteArray) (h : s.size ≤ maxLen) : keyOf Tryz.prog 9 (.string s) = some (.string s.data.toList) := Go.WideMaps.keyOf_string_mk Tryz.underlying9 h
theorem zeroCl (w : World) : (zeroValue 44).run Tryz.prog w = .ok (Sp.clV Sp.zP) w := by kernel_rfl

/-- An append whose run is laid ahead. -/
theorem wpList_app {P : Program} (w : World) {ops : Array Oper} {rest : List Oper} {o : Oper} {a : Act} {Q : Exit → Act → World → Prop} (hgd : o.guard = none) (s x : Operand) (t u : TypeId)
    (ho : o.op = .call { callee := .builtin .append, args := #[s, x], argTypes := #[t, u] }) (v y : Value) (hs : a.eval s = v) (hx : a.eval x = y) (v' : Value) (w' : World)
    (hr : (Builtin.append_ #[t, u] o.type #[v, y]).run P w = .ok v' w') (h : ∀ v2 w2, Hid (v' = v2 ∧ w' = w2) → wpList P ops Q rest (a.put o.dst v2) w2) : wpList P ops Q (o :: rest) a w := by
  refine wpList_plain hgd fun K hK => ?_
  unfold Oper.wp execOp
  simp only [ho, resolve, invoke, builtin, Sem.run_bind, Sem.run_pure, Result.andThen_ok, List.map_toArray, List.map_cons, List.map_nil, hs, hx, hr]
  exact hK _ _ (h v' w' (Lib.hid ⟨rfl, rfl⟩))
theorem step_app {P : Program} (w : World) {ops : Array Oper} {o : Oper} {a : Act} {K : Act → World → Prop} {Q : Exit → Act → World → Prop} {E : Prop} (hgd : o.guard = none) (s x : Operand) (t u : TypeId)
    (ho : o.op = .call { callee := .builtin .append, args := #[s, x], argTypes := #[t, u] }) (v y : Value) (hs : a.eval s = v) (hx : a.eval x = y) (v' : Value) (w' : World)
    (hr : (Builtin.append_ #[t, u] o.type #[v, y]).run P w = .ok v' w') (h : K (a.put o.dst v') w') : if Region.wanted o (yielded ops a.tmps) = true then Oper.wp P o a w K Q else E := by
  have hw : Region.wanted o (yielded ops a.tmps) = true := by simp [Region.wanted, hgd]
  rw [if_pos hw]
  unfold Oper.wp execOp
  simp only [ho, resolve, invoke, builtin, Sem.run_bind, Sem.run_pure, Result.andThen_ok, List.map_toArray, List.map_cons, List.map_nil, hs, hx, hr]
  exact h
/-- 'append' of nothing. -/
theorem run_append_nil0 {P : Program} (w : World) (base : Nat) (t ty e : TypeId) (i : TypeInfo) (size : Nat) (ht : P.underlying t = some (.slice e)) (hi : P.info? e = some i)
    (v : Value) (n : Nat) (xs : List Value) (hown : w.ownsRow base e size v n xs) (c : Nat) : (Builtin.append_ #[t, t] ty #[v, .slice none 0 c]).run P w = .ok v w := by
  rcases hown.2 with ⟨rfl, rfl⟩ | ⟨g, cap, cur, rfl, _, _, hnc, _⟩
  · simp [Builtin.append_, run_underlying ht, sizeOf, typeInfo, hi, Builtin.lenOf, Builtin.firstCells]
  · simp [Builtin.append_, run_underlying ht, sizeOf, typeInfo, hi, Builtin.lenOf, Builtin.firstCells, hnc, storeCells]
/-- A list that is read, behind a row of one's own. -/
theorem app_rdL {α : Type} {enc : α → List Value} {size bytes : Nat} {t e ty : TypeId} {i : TypeInfo} {z : Value} (ht : Tryz.prog.underlying t = some (.slice e)) (hi : Tryz.prog.info? e = some i) (hz : i.zero = some z) (hsz : i.size = size) (hby : i.bytes = bytes) (hzs : z.cells.size = size) (h0 : 0 < size)
    (henc : ∀ x, (enc x).length = size) (h1 : ∀ x, ∀ u ∈ enc x, u.oneCell' = true) (hb : bytes ≤ 1000) (W : World) (B : Nat) (A : Option Addr) (c : Nat) (acc : List α) (A2 : Option Addr) (c2 : Nat) (l : List α)
    (h : W.ownsRow B e size (.slice A acc.length c) acc.length (acc.flatMap enc)) (hr : RdL enc W A2 l) (hl : acc.length + l.length ≤ 100000000) (hB : B ≤ W.heap.size) :
    ∃ A' c' w5, (Builtin.append_ #[t, t] ty #[.slice A acc.length c, .slice A2 l.length c2]).run Tryz.prog W = .ok (.slice A' (acc ++ l).length c') w5 ∧ w5.ownsRow B e size (.slice A' (acc ++ l).length c') (acc ++ l).length ((acc ++ l).flatMap enc) ∧ Keeps (fun i => (Value.slice A acc.length c).ownBlock = some i) W w5 := by
  have hlen : acc.length + l.length = (acc ++ l).length := by simp
  have hfl : acc.flatMap enc ++ l.flatMap enc = (acc ++ l).flatMap enc := by rw [List.flatMap_append]
  have hbb : (acc.length + l.length) * bytes ≤ 140737488355328 := Nat.le_trans (Nat.mul_le_mul hl hb) (by decide)
  have some_case : ∀ a : Addr, (∀ j u, (l.flatMap enc)[j]? = some u → W.cell? (a.add j) = some u) → ∃ A' c' w5, (Builtin.append_ #[t, t] ty #[.slice A acc.length c, .slice (some a) l.length c2]).run Tryz.prog W = .ok (.slice A' (acc ++ l).length c') w5 ∧ w5.ownsRow B e size (.slice A' (acc ++ l).length c') (acc ++ l).length ((acc ++ l).flatMap enc) ∧ Keeps (fun i => (Value.slice A acc.length c).ownBlock = some i) W w5 := by
    intro a ha
    obtain ⟨v', w5, r1, r2, r3, _, _⟩ := run_append_own_at (P := Tryz.prog) W B t ty e i z size bytes ht hi hz hsz hby hzs h0 _ acc.length (acc.flatMap enc) h a l.length c2 (l.flatMap enc) (flat_length enc size henc l) ha (fun u hu => by obtain ⟨x, _, hx⟩ := List.mem_flatMap.1 hu; exact h1 x u hx) (by unfold maxLen; omega) hbb hB
    obtain ⟨A', c', rfl⟩ := own_sl r2
    rw [hlen] at r1 r2
    rw [hfl] at r2
    exact ⟨A', c', w5, r1, r2, Keeps.of_grown r3 (fun k hk => .inl hk)⟩
  cases A2 with
  | some a =>
    refine some_case a (fun j u hj => ?_)
    have hpos : 0 < l.length := by
      cases l with
      | nil => simp at hj
      | cons x l => simp
    obtain ⟨b, o, ha, hrg⟩ := hr.2 hpos
    obtain rfl : a = ⟨b, o, none⟩ := Option.some.inj ha
    rw [Addr.add_mid]
    exact hrg j u hj
  | none =>
    have hl0 : l = [] := by
      cases l with
      | nil => rfl
      | cons x l => obtain ⟨b, o, ha, _⟩ := hr.2 (by simp); cases ha
    subst hl0
    refine ⟨A, c, W, ?_, ?_, Keeps.refl _ _⟩
    · have := run_append_nil0 (P := Tryz.prog) W B t ty e i size ht hi _ _ _ h c2
      simpa using this
    · simpa using h
/-- A literal's row is one's own. -/
theorem own_lit {α : Type} {enc : α → List Value} {size : Nat} (henc : ∀ x, (enc x).length = size) {w : World} {b B : Nat} {e : TypeId} {C : Array Value} {l : List α} (hC : C.toList = l.flatMap enc) (h : w.heap[b]? = some (.cells C e (0, 0))) (hB : B ≤ b) (hl : l.length ≤ 100000) :
    w.ownsRow B e size (.slice (some ⟨b, 0, none⟩) l.length l.length) l.length (l.flatMap enc) := by
  have hlen := flat_length enc size henc l
  refine ⟨hlen, .inr ⟨b, l.length, C, rfl, hB, h, Nat.le_refl _, by unfold maxLen; omega, ?_⟩⟩
  constructor
  · rw [← Array.length_toList, hC, hlen]
  · rw [hC, ← hlen, List.take_length]
theorem rdL_keeps {α : Type} {enc : α → List Value} {S : Nat → Prop} {w w1 : World} {A : Option Addr} {l : List α} (h : RdL enc w A l) (hk : Keeps S w w1) (hS : ∀ b o, A = some ⟨b, o, none⟩ → ¬ S b) : RdL enc w1 A l := by
  refine ⟨h.1, fun h0 => ?_⟩
  obtain ⟨b, o, hA, hr⟩ := h.2 h0
  exact ⟨b, o, hA, fun j v hj => hk.cell (hr j v hj) (hS b o hA)⟩
/-- What is owned is read. -/
theorem own_rdL {α : Type} {enc : α → List Value} {n : Nat} (hn : ∀ x, (enc x).length = n) (h0 : 0 < n) {w : World} {base m c : Nat} {e : TypeId} {A : Option Addr} {l : List α} (h : w.ownsRow base e n (.slice A m c) m (l.flatMap enc)) : m = l.length ∧ RdL enc w A l ∧ ∀ b o, A = some ⟨b, o, none⟩ → base ≤ b := by
  have hl : (l.flatMap enc).length = m * n := h.1
  rw [flat_length enc n hn] at hl
  have hm : m = l.length := (Nat.eq_of_mul_eq_mul_right h0 hl).symm
  have hx : m ≤ 9223372036854775807 := by
    rcases h.2 with ⟨_, h0⟩ | ⟨g, cap, cur, hv, h1, h2, h3, h4, h5⟩
    · omega
    · have := h4; unfold maxLen at this; omega
  refine ⟨hm, ⟨by omega, fun h0 => ?_⟩, fun b o hA => ?_⟩
  · obtain ⟨g, hA⟩ : ∃ g, A = some ⟨g, 0, none⟩ := by
      rcases h.2 with ⟨_, h1⟩ | ⟨g, cap, cur, hv, _⟩
      · omega
      · exact ⟨g, by injection hv⟩
    subst hA
    refine ⟨g, 0, rfl, fun j v hj => ?_⟩
    have hc := h.cells (g := g) rfl j v hj
    rw [show (⟨g, 0, none⟩ : Addr).add j = ⟨g, 0 + j, none⟩ by unfold Addr.add; split <;> simp_all] at hc
    exact hc
  · subst hA
    exact own_base h b rfl

/-- The lists of a table's classes are read, their texts are not great. -/
structure ClsOk (w : World) (L : List Sp.ClP) : Prop where
  ifs : ∀ m ∈ L, RdL Sp.strC w m.2.1 m.1.ifaces
  size : ∀ m ∈ L, m.1.name.size ≤ 1099511627776 ∧ m.1.super.size ≤ 1099511627776 ∧ ∀ i ∈ m.1.ifaces, i.size ≤ 1099511627776
  at_ : ∀ m ∈ L, In64 m.1.at_
  few : ∀ m ∈ L, m.1.ifaces.length ≤ 16
theorem ClsOk.below {w w' : World} {L : List Sp.ClP} (h : ClsOk w L) (hb : Below w.heap.size w w') : ClsOk w' L := ⟨fun m hm => rdL_below (h.ifs m hm) hb, h.size, h.at_, h.few⟩
/-- The program's table. -/
structure HTab (w : World) (tb mb : Nat) (A : Option Addr) (c : Nat) (L : List Sp.ClP) : Prop where
  box : w.heap[tb]? = some (.cells #[.slice A L.length c, .map (some mb)] 83 (0, 0))
  names : RdL Sp.strC w A (L.map (·.1.name))
  mp : MapV Tryz.prog w 9 mb 100000 (Sp.fH L)
  cls : ClsOk w L
theorem HTab.below {w w' : World} {tb mb : Nat} {A : Option Addr} {c : Nat} {L : List Sp.ClP} (h : HTab w tb mb A c L) (hb : Below w.heap.size w w') : HTab w' tb mb A c L :=
  ⟨blk_below h.box hb, rdL_below h.names hb, mapV_block h.mp (hb.block _ (mapV_lt h.mp)), h.cls.below hb⟩
/-- A look into the program's table. -/
theorem look_cl {w : World} {mb n : Nat} {L : List Sp.ClP} (h : MapV Tryz.prog w 9 mb n (Sp.fH L)) (s : ByteArray) (hs : s.size ≤ maxLen) :
    (Instr.lookup 81 (.map (some mb)) (.string s) true).run Tryz.prog w = .ok (.tuple #[Sp.clV ((Sp.findP L s).getD Sp.zP), .bool (Sp.findP L s).isSome]) w ∧ (Instr.lookup 81 (.map (some mb)) (.string s) false).run Tryz.prog w = .ok (Sp.clV ((Sp.findP L s).getD Sp.zP)) w := by
  have := mapV_look (t := 81) h lawS Tryz.underlying81 (zeroCl w) (keyS s hs)
  rw [Sp.fH_at] at this
  cases hf : Sp.findP L s with
  | none => rw [hf] at this; exact this
  | some m => rw [hf] at this; exact this
/-- 'm[k]' in a table. -/
theorem wpList_lookup_cl (w : World) {ops : Array Oper} {rest : List Oper} {o : Oper} {a : Act} {Q : Exit → Act → World → Prop}
    (hg : o.guard = none) (m x : Operand) (hop : o.op = Op.lookup 81 m x false) (mb n : Nat) (L : List Sp.ClP)
    (hm : a.eval m = .map (some mb)) (hown : MapV Tryz.prog w 9 mb n (Sp.fH L)) (s : ByteArray) (hs : s.size ≤ maxLen) (hx : a.eval x = .string s) (v : Value) (hv : Sp.clV ((Sp.findP L s).getD Sp.zP) = v)
    (hK : wpList Tryz.prog ops Q rest (a.put o.dst v) w) :
    wpList Tryz.prog ops Q (o :: rest) a w := by
  subst hv
  refine wpList_plain hg fun K' hK' => ?_
  have hrun := (look_cl hown s hs).2
  unfold Oper.wp
  simp [execOp, hop, hm, hx, hrun, Result.andThen]
  exact hK' _ _ hK
/-- 'v, ok := m[k]' in a table. -/
theorem wpList_lookup_cl_ok (w : World) {ops : Array Oper} {rest : List Oper} {o : Oper} {a : Act} {Q : Exit → Act → World → Prop}
    (hg : o.guard = none) (m x : Operand) (hop : o.op = Op.lookup 81 m x true) (mb n : Nat) (L : List Sp.ClP)
    (hm : a.eval m = .map (some mb)) (hown : MapV Tryz.prog w 9 mb n (Sp.fH L)) (s : ByteArray) (hs : s.size ≤ maxLen) (hx : a.eval x = .string s) (v : Value) (hv : Sp.clV ((Sp.findP L s).getD Sp.zP) = v) (r : Bool) (hr : (Sp.findP L s).isSome = r)
    (hK : wpList Tryz.prog ops Q rest (a.put o.dst (.tuple #[v, .bool r])) w) :
    wpList Tryz.prog ops Q (o :: rest) a w := by
  subst hv
  subst hr
  refine wpList_plain hg fun K' hK' => ?_
  have hrun := (look_cl hown s hs).1
  unfold Oper.wp
  simp [execOp, hop, hm, hx, hrun, Result.andThen]
  exact hK' _ _ hK
/-- The class that is told of a name, its lists and texts. -/
theorem HTab.told {w : World} {tb mb : Nat} {A : Option Addr} {c : Nat} {L : List Sp.ClP} (h : HTab w tb mb A c L) (s : ByteArray) :
    ((Sp.findP L s).getD Sp.zP).1 = Sp.getC (L.map (·.1)) s ∧ RdL Sp.strC w ((Sp.findP L s).getD Sp.zP).2.1 ((Sp.findP L s).getD Sp.zP).1.ifaces ∧
    ((Sp.findP L s).getD Sp.zP).1.name.size ≤ 1099511627776 ∧ ((Sp.findP L s).getD Sp.zP).1.super.size ≤ 1099511627776 ∧ (∀ i ∈ ((Sp.findP L s).getD Sp.zP).1.ifaces, i.size ≤ 1099511627776) ∧ In64 ((Sp.findP L s).getD Sp.zP).1.at_ ∧ ((Sp.findP L s).getD Sp.zP).1.ifaces.length ≤ 16 := by
  cases hf : Sp.findP L s with
  | none =>
    refine ⟨by rw [Sp.getC_none (Sp.findP_none.1 hf)]; rfl, rdL_nil _ _ _, Nat.zero_le _, Nat.zero_le _, fun i hi => (by cases hi), by unfold In64; decide, Nat.zero_le _⟩
  | some m =>
    have hm := (Sp.findP_mem hf).1
    exact ⟨by rw [Sp.getC_some (Sp.findP_some hf)]; rfl, h.cls.ifs m hm, (h.cls.size m hm).1, (h.cls.size m hm).2.1, (h.cls.size m hm).2.2, h.cls.at_ m hm, h.cls.few m hm⟩
/-- The reference's. -/
structure RTab (w : World) (tb : Nat) (A : Option Addr) (c : Nat) (L : List Sp.ClP) : Prop where
  box : w.heap[tb]? = some (.cells #[.slice A L.length c] 73 (0, 0))
  list : RdL Sp.clC w A L
  cls : ClsOk w L
theorem RTab.below {w w' : World} {tb : Nat} {A : Option Addr} {c : Nat} {L : List Sp.ClP} (h : RTab w tb A c L) (hb : Below w.heap.size w w') : RTab w' tb A c L :=
  ⟨blk_below h.box hb, rdL_below h.list hb, h.cls.below hb⟩
end Go.Proofs.YtfjplmbknegidaaGreatDoor
end
section
/-
  Walk of chapter 6's above: a walk in depth over a table.
-/
set_option linter.unusedVariables false
set_option linter.unusedSimpArgs false
namespace Go.Proofs.YtfjplmbknegidaaGreatDoor
open Go.RowKit Go.Lib Go.Maps

namespace Sp
/-- A set of names, as a map's function. -/
def fV (V : ByteArray → Bool) : Value → Option Value
  | .string s => if V s = true then some (.int .i64 1) else none
  | _ => none
theorem fV_at (V : ByteArray → Bool) (s : ByteArray) : fV V (.string s) = if V s = true then some (.int .i64 1) else none := rfl
def putV (V : ByteArray → Bool) (s : ByteArray) : ByteArray → Bool := fun x => V x || decide (x = s)
theorem putV_iff (V : ByteArray → Bool) (s x : ByteArray) : putV V s x = true ↔ (V x = true ∨ x = s) := by simp [putV]
theorem fV_put (V : ByteArray → Bool) (s : ByteArray) : fV (putV V s) (.string s) = some (.int .i64 1) ∧ ∀ x, x ≠ .string s → fV (putV V s) x = fV V x := by
  refine ⟨by rw [fV_at, if_pos ((putV_iff V s s).2 (.inr rfl))], fun x hx => ?_⟩
  cases x with
  | string u =>
    have hne : ¬ u = s := fun q => hx (by rw [q])
    rw [fV_at, fV_at, show putV V s u = V u by simp [putV, hne]]
  | _ => rfl
end Sp
theorem lawI : Maps.Keyed Tryz.prog 3 := int_keyed Tryz.underlying3
theorem zeroI (w : World) : (zeroValue 3).run Tryz.prog w = .ok (.int .i64 0) w := by kernel_rfl

/-- What the closure of above holds: the table, the name that is looked for, the set, itself. -/
structure AbC (W : World) (B tb : Nat) (up : ByteArray) : Prop where
  t : W.heap[B]? = some (.cells #[.pointer (some ⟨tb, 0, none⟩)] 27 (0, 0))
  u : W.heap[B + 1]? = some (.cells #[.string up] 9 (0, 0))
  s : W.heap[B + 3]? = some (.cells #[.map (some (B + 2))] 109 (0, 0))
  w : W.heap[B + 4]? = some (.cells #[.func (.func 69) #[] #[.pointer (some ⟨B, 0, none⟩), .pointer (some ⟨B + 1, 0, none⟩), .pointer (some ⟨B + 3, 0, none⟩), .pointer (some ⟨B + 4, 0, none⟩)]] 97 (0, 0))
theorem AbC.keeps {W W' : World} {B tb : Nat} {up : ByteArray} (h : AbC W B tb up) {S : Nat → Prop} (hk : Keeps S W W') (hS : ∀ i, S i → i = B + 2 ∨ B + 4 < i) : AbC W' B tb up :=
  ⟨hk.obj h.t (fun q => by have := hS _ q; omega), hk.obj h.u (fun q => by have := hS _ q; omega), hk.obj h.s (fun q => by have := hS _ q; omega), hk.obj h.w (fun q => by have := hS _ q; omega)⟩
/-- What a call of it leaves. -/
def AbPost (L : List Sp.Cl) (up : ByteArray) (B : Nat) (V : ByteArray → Bool) (x : ByteArray) (k : Nat) (W : World) (e : Ending) (w' : World) : Prop :=
  ∃ (r : Bool) (V' : ByteArray → Bool) (k' : Nat), e = .returned (.bool r) ∧ Sp.Dfs (Sp.EdgeC L) up V V' x ((Sp.getC L x).super :: (Sp.getC L x).ifaces) r ∧ MapV Tryz.prog w' 9 (B + 2) k' (Sp.fV V') ∧ k' + Sp.left V' (Sp.targets L) ≤ k + Sp.left V (Sp.targets L) ∧ Keeps (fun i => i = B + 2) W w'
def AbArgs (B : Nat) (x : ByteArray) : Array Value := #[.string x, .pointer (some ⟨B, 0, none⟩), .pointer (some ⟨B + 1, 0, none⟩), .pointer (some ⟨B + 3, 0, none⟩), .pointer (some ⟨B + 4, 0, none⟩)]

set_option maxHeartbeats 8000000 in
set_option maxRecDepth 100000 in
theorem above1_step (w0 : World) (tb mb : Nat) (A : Option Addr) (c : Nat) (L : List Sp.ClP) (up : ByteArray) (hH : HTab w0 tb mb A c L) (hup : up ≠ Sp.nilB) (n : Nat)
    (IH : ∀ (V : ByteArray → Bool) (x : ByteArray) (W : World) (k : Nat), Sp.left V (Sp.targets (L.map (·.1))) < n → x.size ≤ 1099511627776 → k + Sp.left V (Sp.targets (L.map (·.1))) ≤ 100000000 → Below w0.heap.size w0 W → AbC W w0.heap.size tb up → MapV Tryz.prog W 9 (w0.heap.size + 2) k (Sp.fV V) →
      Calls Tryz.prog 69 (AbArgs w0.heap.size x) W (AbPost (L.map (·.1)) up w0.heap.size V x k W))
    (V : ByteArray → Bool) (x : ByteArray) (W : World) (k : Nat) (hn : Sp.left V (Sp.targets (L.map (·.1))) ≤ n) (hx : x.size ≤ 1099511627776) (hk : k + Sp.left V (Sp.targets (L.map (·.1))) ≤ 100000000) (hb : Below w0.heap.size w0 W) (hC : AbC W w0.heap.size tb up) (hM : MapV Tryz.prog W 9 (w0.heap.size + 2) k (Sp.fV V)) :
      Calls Tryz.prog 69 (AbArgs w0.heap.size x) W (AbPost (L.map (·.1)) up w0.heap.size V x k W) := by
  have hH1 := Lib.hid (hH.below hb)
  have IH1 := Lib.hid IH
  have T1 := hH.told x
  have H0 := Lib.hid hH
  have hE : ∀ y, Sp.EdgeC (L.map (·.1)) x y ↔ y ∈ (Sp.getC (L.map (·.1)) x).super :: (Sp.getC (L.map (·.1)) x).ifaces := fun y => Iff.rfl
  unfold AbArgs
  have hE2 := fun y => Sp.edge_target (L := L.map (·.1)) (x := x) (y := y)
  obtain ⟨m, hm⟩ : ∃ m, (Sp.findP L x).getD Sp.zP = m := ⟨_, rfl⟩
  rw [hm] at T1
  obtain ⟨⟨nm, su, ifs, b1, b2, b3, at_⟩, mA, mc⟩ := m
  have hv := Lib.hid (show Sp.clV ((Sp.findP L x).getD Sp.zP) = .agg #[.string nm, .string su, .slice mA ifs.length mc, .bool b1, .bool b2, .bool b3, .int .i64 at_] by rw [hm]; rfl)
  clear hm
  obtain ⟨t1, t2, t3, t4, t5, t6, t7⟩ := T1
  simp only at t1 t2 t3 t4 t5 t6 t7
  have HG := Lib.hid t1
  rw [← t1] at hE
  simp only at hE
  have HE := Lib.hid hE
  have HE2 := Lib.hid hE2
  clear hE2
  have HT5 := Lib.hid t5
  clear hE t1 IH hH
  have hun : (up.toList == []) = false := by rw [show ([] : List UInt8) = (⟨#[]⟩ : ByteArray).toList by decide +kernel, bytes_eqb]; exact decide_eq_false hup
  have huu : (up.toList == up.toList) = true := by simp
  have hB0 : w0.heap.size ≤ W.heap.size := hb.size
  have hlw := blk_lt hC.w
  generalize hBB : w0.heap.size = B at *
  obtain ⟨ct1, ft1⟩ := blk_cell hC.t 0 (.pointer (some ⟨tb, 0, none⟩)) rfl
  obtain ⟨cs1, fs1⟩ := blk_cell hC.s 0 (.map (some (B + 2))) rfl
  obtain ⟨cm1, fm1⟩ := blk_cell hH1.out.box 1 (.map (some mb)) rfl
  have hmp := Lib.hid hH1.out.mp
  have kx := Lib.hid (show x.size ≤ maxLen by unfold maxLen; omega)
  have hW1 := Lib.hid (blk_new W (.cells #[.string nm, .string su, .slice mA ifs.length mc, .bool b1, .bool b2, .bool b3, .int .i64 at_] 44))
  go_enter Tryz.func69, Tryz.ntmps69
  go_upto_region 2 with (at_lookup; refine wpList_lookup_cl _ rfl _ _ rfl mb 100000 L rfl hmp.out x kx.out rfl _ hv.out ?_)
  have k1 := Lib.hid ((Keeps.refl (fun i => False) W).alloc (.cells #[.string nm, .string su, .slice mA ifs.length mc, .bool b1, .bool b2, .bool b3, .int .i64 at_] 44))
  have hb1 := hb.alloc hB0 (.cells #[.string nm, .string su, .slice mA ifs.length mc, .bool b1, .bool b2, .bool b3, .int .i64 at_] 44)
  have hz1 : (W.alloc (.cells #[.string nm, .string su, .slice mA ifs.length mc, .bool b1, .bool b2, .bool b3, .int .i64 at_] 44)).heap.size = W.heap.size + 1 := by simp
  generalize (W.alloc (.cells #[.string nm, .string su, .slice mA ifs.length mc, .bool b1, .bool b2, .bool b3, .int .i64 at_] 44)) = W1 at *
  obtain ⟨e1, g1⟩ := blk_cell hW1.out 1 (.string su) rfl
  obtain ⟨e2, g2⟩ := blk_cell hW1.out 2 (.slice mA ifs.length mc) rfl
  obtain ⟨i0, hi, hz0, hzi1, hzi2⟩ := info_parts infoStr
  have hO := own_lit (l := [su]) Sp.strC_len (C := #[.string su]) rfl (blk_new W1 (.cells #[.string su] 9)) (show W.heap.size ≤ W1.heap.size by omega) (by simp)
  have hb2 := hb1.alloc (by omega) (.cells #[.string su] 9)
  have hRd : RdL Sp.strC (W1.alloc (.cells #[.string su] 9)) mA ifs := rdL_below t2 (by rw [hBB]; exact hb2)
  obtain ⟨A', c', w2, hra, hO2, hK2⟩ := app_rdL (ty := 53) Tryz.underlying42 hi hz0 hzi1 hzi2 rfl (by decide) Sp.strC_len Sp.strC_one (by decide) (W1.alloc (.cells #[.string su] 9)) W.heap.size (some ⟨W1.heap.size, 0, none⟩) 1 [su] mA mc ifs hO hRd (by simp; omega) (by simp; omega)
  obtain ⟨hlen, hrd2, hAb⟩ := own_rdL Sp.strC_len (by decide) hO2
  have hKK := Lib.hid (k1.out.then (((Keeps.refl (fun i => i = W1.heap.size) W1).alloc (.cells #[.string su] 9)).trans (hK2.mono (fun i q => by simpa [Value.ownBlock] using q.symm))) (fun i q => .inr (by omega)))
  have hra' : (Builtin.append_ #[42, 42] 42 #[.slice (some ⟨W1.heap.size, 0, none⟩) 1 1, .slice mA ifs.length mc]).run Tryz.prog (W1.alloc (.cells #[.string su] 9)) = .ok (.slice A' (su :: ifs).length c') w2 := hra
  have hrd3 := Lib.hid (show RdL Sp.strC w2 A' (su :: ifs) from hrd2)
  have hAb3 := Lib.hid hAb
  have hlw1 : B + 4 < W1.heap.size := by omega
  have ht2 := Lib.hid t2
  have hb2' := Lib.hid (hb.trans (hKK.out.below hB0 (fun i q => q.elim)))
  have hw2 : B + 4 < w2.heap.size := by have := hKK.out.size; omega
  clear hra hO hO2 hK2 hlen hAb hrd2 hRd t2 t5 hb1 hb2 k1
  have hlt1 : W.heap.size < W1.heap.size := by omega
  have hz1' := Lib.hid hz1
  have hra2 := Lib.hid hra'
  clear hra'
  clear hz1 hi hz0 hzi1 hzi2
  go_wp2_with (at_builtin; refine wpList_app _ rfl _ _ _ _ rfl _ _ rfl rfl (.slice A' (su :: ifs).length c') w2 hra2.out ?_)
  intro v2 w2' hq
  obtain ⟨rfl, rfl⟩ := hq.out
  clear hq hra2
  go_upto_region 3 with fail
  have hC2 := Lib.hid (hC.keeps hKK.out (fun i q => q.elim))
  have hM2 := Lib.hid (hKK.out.mapV hM (fun q => q))
  have hD2 := Lib.hid (Sp.Dfs.nil (Sp.EdgeC (L.map (·.1))) up V x)
  have hK2 := Lib.hid (Keeps.refl (fun i => i = B + 2) w2)
  have hK0 := Lib.hid (hKK.out)
  clear hKK hM hC ct1 ft1 cs1 fs1 cm1 fm1 e1 e2 g1 g2 hW1 hmp hv kx
  have hn := Lib.hid hn
  go_loopw [23] (fun vi wr => ∃ (j : Nat) (V1 : ByteArray → Bool) (k1 : Nat), vi = .int .i64 j ∧ j ≤ (su :: ifs).length ∧ Hid (Sp.Dfs (Sp.EdgeC (L.map (·.1))) up V V1 x ((su :: ifs).take j) false) ∧ Hid (MapV Tryz.prog wr 9 (B + 2) k1 (Sp.fV V1)) ∧ Hid (k1 + Sp.left V1 (Sp.targets (L.map (·.1))) ≤ k + Sp.left V (Sp.targets (L.map (·.1)))) ∧ Hid (Keeps (fun i => i = B + 2) w2 wr)) (fun vi _ => (su :: ifs).length - (RowKit.intOf vi).toNat)
  case atStart => exact ⟨0, V, k, by go_num, Nat.zero_le _, hD2, hM2, Lib.hid (Nat.le_refl _), hK2⟩
  case round =>
    clear hD2 hM2 hK2
    obtain ⟨j, V1, k1, rfl, hj, hD, hM, hc, hK⟩ := hrel
    have hC := Lib.hid (hC2.out.keeps hK.out (fun i q => .inl q))
    have hlv := Sp.left_mono hD.out.more (Sp.targets (L.map (·.1)))
    have hKz := hK.out.size
    have hlw := blk_lt hC.out.w
    obtain ⟨cu1, fu1⟩ := blk_cell hC.out.u 0 (.string up) rfl
    obtain ⟨cs1, fs1⟩ := blk_cell hC.out.s 0 (.map (some (B + 2))) rfl
    by_cases hlt : j < (su :: ifs).length
    · have hzj : (j : Int) < (ifs.length : Int) + 1 := by rw [List.length_cons] at hlt; omega
      have hrd := rdL_keeps hrd3.out hK.out (fun b o hA q => by have := hAb3.out b o hA; omega)
      obtain ⟨b, o, rfl, hrg⟩ := hrd.2 (by simp)
      have hcy : wr.cell? ⟨b, o + j, none⟩ = some (.string (su :: ifs)[j]) := by
        have := rdL_get 1 Sp.strC_len hrg hlt 0 (by decide) (v := .string (su :: ifs)[j]) rfl
        simpa using this
      have hmem : (su :: ifs)[j] ∈ su :: ifs := List.getElem_mem hlt
      have htk : (su :: ifs).take (j + 1) = (su :: ifs).take j ++ [(su :: ifs)[j]] := by rw [List.take_succ_eq_append_getElem hlt]
      have htk := Lib.hid htk
      clear hrg hrd
      generalize (su :: ifs)[j] = y at *
      have hys : y.size ≤ 1099511627776 := by
        rcases List.mem_cons.1 hmem with rfl | q
        · exact t4
        · exact HT5.out y q
      have hed := Lib.hid ((HE.out y).2 hmem)
      have hyt := Lib.hid (HE2.out y hed.out)
      have ky := Lib.hid (keyS y (by unfold maxLen; omega))
      have hjj : j ≤ 17 := by rw [List.length_cons] at hlt; omega
      clear hmem
      by_cases hyu : y = up
      · subst hyu
        clear ky IH1
        go_wp2
        go_ret
        unfold AbPost
        exact ⟨true, V1, k1, rfl, hD.out.found hed.out _, hM.out, hc.out, (hK0.out.mono (fun i q => q.elim)).trans hK.out⟩
      · have hne : (y.toList == up.toList) = false := by rw [bytes_eqb]; exact decide_eq_false hyu
        have hyu := Lib.hid hyu
        by_cases hvy : V1 y = true
        · have hrv := Lib.hid (show Sp.fV V1 (.string y) = some (.int .i64 1) by rw [Sp.fV_at, if_pos hvy])
          go_wp2_with (at_lookup; refine wpList_lookup_mapV _ rfl _ _ 109 rfl 9 3 lawS Tryz.underlying109 (zeroI _) (B + 2) k1 (Sp.fV V1) rfl hM.out _ _ rfl ky.out (some (.int .i64 1)) hrv.out ?_)
          go_roundw
          case rel => exact ⟨j + 1, V1, k1, by go_num, hlt, Lib.hid (by rw [htk.out]; exact hD.out.old hvy hyu.out), hM, hc, hK⟩
          case measure => simp [RowKit.intOf]; omega
        · have hvf : V1 y = false := by simpa using hvy
          have hrv := Lib.hid (show Sp.fV V1 (.string y) = none by rw [Sp.fV_at, if_neg hvy])
          have hvf := Lib.hid hvf
          clear hvy
          go_upto_region 8 with (at_lookup; refine wpList_lookup_mapV _ rfl _ _ 109 rfl 9 3 lawS Tryz.underlying109 (zeroI _) (B + 2) k1 (Sp.fV V1) rfl hM.out _ _ rfl ky.out none hrv.out ?_)
          have hpv := Lib.hid (Sp.fV_put V1 y)
          have hk1 : k1 < maxLen := by have := hc.out; unfold maxLen; omega
          go_wp2_with (at_mapUpdate; refine wpList_mapUpdate_mapV _ rfl _ _ _ 109 rfl 9 3 lawS Tryz.underlying109 (B + 2) k1 (Sp.fV V1) (Sp.fV (Sp.putV V1 y)) rfl hM.out hk1 _ _ _ rfl rfl ky.out hpv.out.1 hpv.out.2 ?_)
          intro w3 hM3 hg3
          have hK3 := Lib.hid (hK.out.trans (Keeps.of_grown hg3 (fun i q => .inl (by simpa using q.symm))))
          have hC3 := Lib.hid (hC2.out.keeps hK3.out (fun i q => .inl q))
          have hM3 := Lib.hid hM3
          have hl1 := Sp.left_put (V := V1) (V' := Sp.putV V1 y) (fun z q => (Sp.putV_iff V1 y z).2 (.inl q)) hvf.out ((Sp.putV_iff V1 y y).2 (.inr rfl)) (Sp.targets (L.map (·.1))) hyt.out
          have hn' := hn.out
          have hc' := hc.out
          have hb3 := Lib.hid (hb2'.out.trans (hK3.out.below (by omega) (fun i q => by omega)))
          have k9 := Lib.hid (IH1.out (Sp.putV V1 y) y w3 (k1 + 1) (by omega) hys (by omega) hb3.out hC3.out hM3.out)
          have hfin := Lib.hid (show k1 + 1 + Sp.left (Sp.putV V1 y) (Sp.targets (L.map (·.1))) ≤ k + Sp.left V (Sp.targets (L.map (·.1))) by omega)
          obtain ⟨cw3, fw3⟩ := blk_cell hC3.out.w 0 (.func (.func 69) #[] #[.pointer (some ⟨B, 0, none⟩), .pointer (some ⟨B + 1, 0, none⟩), .pointer (some ⟨B + 3, 0, none⟩), .pointer (some ⟨B + 4, 0, none⟩)]) rfl
          have hlw3 := blk_lt hC3.out.w
          unfold AbArgs at k9
          clear IH1 hn' hc' hl1 hlv hc hM hrv hpv cu1 fu1 cs1 fs1 hlw hKz hcy
          go_wp2_with fail
          refine k9.out.mono ?_
          rintro e w4 ⟨r, V2, k2, rfl, hD4, hM4, hc4, hK4⟩
          have hD4 := Lib.hid hD4
          have hM4 := Lib.hid hM4
          have hK4 := Lib.hid (hK3.out.trans hK4)
          have hc4 := Lib.hid (Nat.le_trans hc4 hfin.out)
          clear k9 hfin cw3 fw3
          cases r with
          | true =>
            go_wp2
            go_ret
            unfold AbPost
            exact ⟨true, V2, k2, rfl, hD.out.deep (fun z => Sp.putV_iff V1 y z) hD4.out hed.out _, hM4.out, hc4.out, (hK0.out.mono (fun i q => q.elim)).trans hK4.out⟩
          | false =>
            go_wp2
            go_roundw
            case rel => exact ⟨j + 1, V2, k2, by go_num, hlt, Lib.hid (by rw [htk.out]; exact hD.out.new hyu.out (fun z => Sp.putV_iff V1 y z) hD4.out (fun z hz => hz)), hM4, hc4, hK4⟩
            case measure => simp [RowKit.intOf]; omega
    · have hzj : ¬ (j : Int) < (ifs.length : Int) + 1 := by rw [List.length_cons] at hlt; omega
      have hje : j = (su :: ifs).length := by omega
      have hD5 := Lib.hid (show Sp.Dfs (Sp.EdgeC (L.map (·.1))) up V V1 x (su :: ifs) false by have := hD.out; rwa [hje, List.take_length] at this)
      clear hje hD
      go_wp2
      go_ret
      unfold AbPost
      exact ⟨false, V1, k1, rfl, by rw [← HG.out]; exact hD5.out, hM.out, hc.out, (hK0.out.mono (fun i q => q.elim)).trans hK.out⟩
theorem above1_any (w0 : World) (tb mb : Nat) (A : Option Addr) (c : Nat) (L : List Sp.ClP) (up : ByteArray) (hH : HTab w0 tb mb A c L) (hup : up ≠ Sp.nilB) : ∀ (n : Nat) (V : ByteArray → Bool) (x : ByteArray) (W : World) (k : Nat), Sp.left V (Sp.targets (L.map (·.1))) ≤ n → x.size ≤ 1099511627776 → k + Sp.left V (Sp.targets (L.map (·.1))) ≤ 100000000 → Below w0.heap.size w0 W → AbC W w0.heap.size tb up → MapV Tryz.prog W 9 (w0.heap.size + 2) k (Sp.fV V) →
      Calls Tryz.prog 69 (AbArgs w0.heap.size x) W (AbPost (L.map (·.1)) up w0.heap.size V x k W)
  | 0, V, x, W, k, hn, hx, hk, hb, hC, hM => above1_step w0 tb mb A c L up hH hup 0 (fun _ _ _ _ h => absurd h (Nat.not_lt_zero _)) V x W k hn hx hk hb hC hM
  | n + 1, V, x, W, k, hn, hx, hk, hb, hC, hM => above1_step w0 tb mb A c L up hH hup (n + 1) (fun V x W k h => above1_any w0 tb mb A c L up hH hup n V x W k (Nat.lt_succ_iff.1 h)) V x W k hn hx hk hb hC hM
theorem Sp.targets_len (L : List Sp.Cl) (h : ∀ c ∈ L, c.ifaces.length ≤ 16) : (Sp.targets L).length ≤ 1 + 17 * L.length := by
  unfold Sp.targets
  rw [List.length_cons]
  have : (L.flatMap (fun c => c.super :: c.ifaces)).length ≤ 17 * L.length := by
    induction L with
    | nil => simp
    | cons c L ih =>
      have h1 := h c (List.mem_cons_self ..)
      have h2 := ih (fun d hd => h d (List.mem_cons_of_mem _ hd))
      rw [List.flatMap_cons, List.length_append, List.length_cons, List.length_cons]
      omega
  omega

set_option maxHeartbeats 4000000 in
set_option maxRecDepth 100000 in
theorem above_any (w : World) (tb mb : Nat) (A : Option Addr) (c : Nat) (L : List Sp.ClP) (x up : ByteArray) (hH : HTab w tb mb A c L) (hup : up ≠ Sp.nilB) (hx : x.size ≤ 1099511627776) (hL : L.length ≤ 10000) :
    Calls Tryz.prog 51 #[.pointer (some ⟨tb, 0, none⟩), .string x, .string up] w fun e w' => e = .returned (.bool (Sp.upB (L.map (·.1)) x up)) ∧ Below w.heap.size w w' := by
  have hmm := @run_makeMap Tryz.prog
  have htl := Sp.targets_len (L.map (·.1)) (fun c hc => by obtain ⟨m, hm, rfl⟩ := List.mem_map.1 hc; exact hH.cls.few m hm)
  rw [List.length_map] at htl
  have hb5 := Lib.hid (((((((Below.refl w.heap.size w).alloc (Nat.le_refl _) (.cells #[.pointer (some ⟨tb, 0, none⟩)] 27)).alloc (by simp) (.cells #[.string up] 9)).alloc (by simp; omega) (.map #[] 0)).alloc (by simp; omega) (.cells #[.map (some (w.heap.size + 2))] 109)).alloc (by simp; omega) (.cells #[.func (.func 69) #[] #[.pointer (some ⟨w.heap.size, 0, none⟩), .pointer (some ⟨w.heap.size + 1, 0, none⟩), .pointer (some ⟨w.heap.size + 3, 0, none⟩), .pointer (some ⟨w.heap.size + 4, 0, none⟩)]] 97)))
  have hC5 : Hid (AbC (((((w.alloc (.cells #[.pointer (some ⟨tb, 0, none⟩)] 27)).alloc (.cells #[.string up] 9)).alloc (.map #[] 0)).alloc (.cells #[.map (some (w.heap.size + 2))] 109)).alloc (.cells #[.func (.func 69) #[] #[.pointer (some ⟨w.heap.size, 0, none⟩), .pointer (some ⟨w.heap.size + 1, 0, none⟩), .pointer (some ⟨w.heap.size + 3, 0, none⟩), .pointer (some ⟨w.heap.size + 4, 0, none⟩)]] 97)) w.heap.size tb up) := Lib.hid (by
    refine ⟨blk_old (blk_old (blk_old (blk_old (blk_new _ _)))), ?_, ?_, ?_⟩
    · have := blk_new (w.alloc (.cells #[.pointer (some ⟨tb, 0, none⟩)] 27)) (.cells #[.string up] 9)
      rw [show (w.alloc (.cells #[.pointer (some ⟨tb, 0, none⟩)] 27)).heap.size = w.heap.size + 1 by simp] at this
      exact blk_old (blk_old (blk_old this))
    · have := blk_new (((w.alloc (.cells #[.pointer (some ⟨tb, 0, none⟩)] 27)).alloc (.cells #[.string up] 9)).alloc (.map #[] 0)) (.cells #[.map (some (w.heap.size + 2))] 109)
      rw [show (((w.alloc (.cells #[.pointer (some ⟨tb, 0, none⟩)] 27)).alloc (.cells #[.string up] 9)).alloc (.map #[] 0)).heap.size = w.heap.size + 3 by simp] at this
      exact blk_old this
    · have := blk_new ((((w.alloc (.cells #[.pointer (some ⟨tb, 0, none⟩)] 27)).alloc (.cells #[.string up] 9)).alloc (.map #[] 0)).alloc (.cells #[.map (some (w.heap.size + 2))] 109)) (.cells #[.func (.func 69) #[] #[.pointer (some ⟨w.heap.size, 0, none⟩), .pointer (some ⟨w.heap.size + 1, 0, none⟩), .pointer (some ⟨w.heap.size + 3, 0, none⟩), .pointer (some ⟨w.heap.size + 4, 0, none⟩)]] 97)
      rwa [show ((((w.alloc (.cells #[.pointer (some ⟨tb, 0, none⟩)] 27)).alloc (.cells #[.string up] 9)).alloc (.map #[] 0)).alloc (.cells #[.map (some (w.heap.size + 2))] 109)).heap.size = w.heap.size + 4 by simp] at this)
  have hM5 : Hid (MapV Tryz.prog (((((w.alloc (.cells #[.pointer (some ⟨tb, 0, none⟩)] 27)).alloc (.cells #[.string up] 9)).alloc (.map #[] 0)).alloc (.cells #[.map (some (w.heap.size + 2))] 109)).alloc (.cells #[.func (.func 69) #[] #[.pointer (some ⟨w.heap.size, 0, none⟩), .pointer (some ⟨w.heap.size + 1, 0, none⟩), .pointer (some ⟨w.heap.size + 3, 0, none⟩), .pointer (some ⟨w.heap.size + 4, 0, none⟩)]] 97)) 9 (w.heap.size + 2) 0 (Sp.fV (fun _ => false))) := Lib.hid (by
    have := mapV_made ((w.alloc (.cells #[.pointer (some ⟨tb, 0, none⟩)] 27)).alloc (.cells #[.string up] 9)) Tryz.prog 9
    rw [show ((w.alloc (.cells #[.pointer (some ⟨tb, 0, none⟩)] 27)).alloc (.cells #[.string up] 9)).heap.size = w.heap.size + 2 by simp] at this
    exact mapV_alloc (mapV_alloc (mapV_congr this (fun x => by cases x <;> rfl)) _) _)
  have kf := Lib.hid (fun W hb hC hM => above1_any w tb mb A c L up hH hup (Sp.left (fun _ => false) (Sp.targets (L.map (·.1)))) (fun _ => false) x W 0 (Nat.le_refl _) hx (by rw [Sp.left_none]; omega) hb hC hM)
  unfold AbArgs at kf
  go_enter Tryz.func51, Tryz.ntmps51
  go_upto_region 4 with fail
  have k1 := Lib.hid (kf.out _ hb5.out hC5.out hM5.out)
  have hlw := blk_lt hC5.out.w
  obtain ⟨cw, fw⟩ := blk_cell hC5.out.w 0 (.func (.func 69) #[] #[.pointer (some ⟨w.heap.size, 0, none⟩), .pointer (some ⟨w.heap.size + 1, 0, none⟩), .pointer (some ⟨w.heap.size + 3, 0, none⟩), .pointer (some ⟨w.heap.size + 4, 0, none⟩)]) rfl
  generalize (((((w.alloc (.cells #[.pointer (some ⟨tb, 0, none⟩)] 27)).alloc (.cells #[.string up] 9)).alloc (.map #[] 0)).alloc (.cells #[.map (some (w.heap.size + 2))] 109)).alloc (.cells #[.func (.func 69) #[] #[.pointer (some ⟨w.heap.size, 0, none⟩), .pointer (some ⟨w.heap.size + 1, 0, none⟩), .pointer (some ⟨w.heap.size + 3, 0, none⟩), .pointer (some ⟨w.heap.size + 4, 0, none⟩)]] 97)) = W5 at *
  clear kf hmm
  go_wp2_with fail
  refine k1.out.mono ?_
  rintro e w6 ⟨r, V2, k2, rfl, hD, hM6, hc6, hK6⟩
  have hr : r = Sp.upB (L.map (·.1)) x up := by
    rw [Bool.eq_iff_iff, Sp.upB_iff]
    exact hD.done (fun z hz => hz)
  have hB6 := Lib.hid (hb5.out.trans (hK6.below hb5.out.size (fun i q => by omega)))
  subst hr
  clear hD hM6 hc6 hK6 k1 cw fw hlw
  go_wp2
  go_ret
  exact ⟨rfl, hB6.out⟩
end Go.Proofs.YtfjplmbknegidaaGreatDoor
end
