/-
  Texts of the proof, joined: each says at its head what it proves.
-/
import Derived.Test.YthpfknlgfkecpaaDoorJFileNamesx3
import Derived.Lib.ConvBytes
section
/-
  A row of bytes that a conversion of a string laid (it bears a mark behind its last cell), and what an append makes of it; the frame of the reference's writer.
-/
set_option linter.unusedVariables false
set_option linter.unusedSimpArgs false
namespace Go.Proofs.YthpfknlgfkecpaaDoor
open Go.RowKit Go.Lib

theorem run_storeCells_atT (P : Program) (g o : Nat) (t : TypeId) (fz : Nat × Nat) : ∀ (vs : List Value) (i : Nat) (cur : Array Value) (w : World), w.heap[g]? = some (.cells cur t fz) → (cur.size ≤ fz.1 ∨ fz.2 = 0) → o + i + vs.length ≤ cur.size → (∀ v ∈ vs, v.oneCell' = true) →
    (storeCells ⟨g, o, none⟩ vs i).run P w = .ok () (w.setRow g (cur.toList.take (o + i) ++ vs ++ cur.toList.drop (o + i + vs.length)).toArray)
  | [], i, cur, w, hg, _, _, _ => by
    simp only [storeCells, List.append_nil, List.length_nil, Nat.add_zero, List.take_append_drop, Array.toArray_toList]
    rw [setRow_self w g cur t fz hg]
    rfl
  | v :: rest, i, cur, w, hg, hfz, hl, h1 => by
    have hi : o + i < cur.size := by simp at hl; omega
    have hadd : (⟨g, o, none⟩ : Addr).add i = ⟨g, o + i, none⟩ := by unfold Addr.add; split <;> simp_all
    have hcell : w.cell? ⟨g, o + i, none⟩ = some cur[o + i] := by simp [World.cell?, hg, hi]
    have hfro : w.frozen? ⟨g, o + i, none⟩ = false := by
      obtain ⟨lo, hi'⟩ := fz
      simp only [World.frozen?, hg, Bool.and_eq_false_iff, decide_eq_false_iff_not]
      simp only at hfz
      rcases hfz with h | h
      · left; omega
      · right; omega
    have hst : (store ((⟨g, o, none⟩ : Addr).add i) v).run P w = .ok () (w.setRow g (cur.setIfInBounds (o + i) v)) := by
      rw [hadd, run_store P w _ v _ (h1 v (by simp)), hcell]
      simp [hfro, setCell_eq_setRow w g (o + i) cur t fz v hg]
    have ih := run_storeCells_atT P g o t fz rest (i + 1) (cur.setIfInBounds (o + i) v) (w.setRow g (cur.setIfInBounds (o + i) v)) (setRow_heap w g cur _ t _ hg) (by simpa using hfz) (by simp at hl ⊢; omega) (fun x hx => h1 x (by simp [hx]))
    simp only [storeCells, Sem.run_bind, hst, Result.andThen_ok, ih, setRow_setRow]
    congr 3
    have e := list_seg_step cur.toList (o + i) v rest (by simp at hl ⊢; omega)
    simpa [Array.toList_setIfInBounds, Nat.add_assoc] using e

/-- A row of bytes whose mark, if it has one, stands behind its last cell. -/
def RowT (w : World) (B : Nat) (v : Value) (n : Nat) (xs : List Value) : Prop :=
  xs.length = n ∧ ∃ g cap cur fz, v = .slice (some ⟨g, 0, none⟩) n cap ∧ B ≤ g ∧ w.heap[g]? = some (.cells cur 5 fz) ∧ (cur.size ≤ fz.1 ∨ fz.2 = 0) ∧ n ≤ cap ∧ cap ≤ maxLen ∧ cur.size = cap ∧ cur.toList.take n = xs
theorem RowT.lt {w : World} {B : Nat} {v : Value} {n : Nat} {xs : List Value} (h : RowT w B v n xs) : ∀ k, v.ownBlock = some k → B ≤ k ∧ k < w.heap.size := by
  obtain ⟨_, g, cap, cur, fz, rfl, hb, hg, _⟩ := h
  intro k hk
  have : g = k := by simpa [Value.ownBlock] using hk
  subst this
  exact ⟨hb, blk_lt hg⟩
theorem RowT.keep {w w' : World} {B : Nat} {v : Value} {n : Nat} {xs : List Value} (h : RowT w B v n xs) (hk : ∀ k, v.ownBlock = some k → w'.heap[k]? = w.heap[k]?) : RowT w' B v n xs := by
  obtain ⟨hl, g, cap, cur, fz, rfl, hb, hg, r⟩ := h
  exact ⟨hl, g, cap, cur, fz, rfl, hb, (hk g rfl).trans hg, r⟩
theorem RowT.below {w w' : World} {B : Nat} {v : Value} {n : Nat} {xs : List Value} (h : RowT w B v n xs) (hb : Below w.heap.size w w') : RowT w' B v n xs := h.keep fun k hk => hb.block k (h.lt k hk).2
theorem RowT.alloc {w : World} {B : Nat} {v : Value} {n : Nat} {xs : List Value} (h : RowT w B v n xs) (o : Obj) : RowT (w.alloc o) B v n xs := h.keep fun k hk => Below.heap_alloc w o k (h.lt k hk).2
theorem RowT.cells {w : World} {B : Nat} {v : Value} {n : Nat} {xs : List Value} (h : RowT w B v n xs) {g : Nat} (hg : v.ownBlock = some g) : ∀ j u, xs[j]? = some u → w.cell? ((⟨g, 0, none⟩ : Addr).add j) = some u := by
  obtain ⟨hl, g', cap, cur, fz, rfl, hb, hgg, _, _, _, _, ht⟩ := h
  have : g' = g := by simpa [Value.ownBlock] using hg
  subst this
  intro j u hu
  have e : (⟨g', 0, none⟩ : Addr).add j = ⟨g', j, none⟩ := by rw [Addr.add_mid, Nat.zero_add]
  rw [e, Lib.cell_of_heap hgg j]
  rw [← ht, List.getElem?_take] at hu
  split at hu
  · simpa using hu
  · cases hu
theorem RowT.max {w : World} {B : Nat} {v : Value} {n : Nat} {xs : List Value} (h : RowT w B v n xs) : n ≤ 9223372036854775807 := by
  obtain ⟨_, g, cap, cur, fz, _, _, _, _, h1, h2, _⟩ := h
  unfold maxLen at h2
  omega

section
variable {P : Program} (w : World)
theorem rowT_string (base : Nat) (t u ty : TypeId) (i : TypeInfo) (ht : P.underlying t = some (.slice 5)) (hu : P.underlying u = some .string) (hi : P.info? 5 = some i) (hz : i.zero = some (.int .u8 0))
    (hsize : i.size = 1) (hby : i.bytes = 1) (v : Value) (n : Nat) (xs : List Value) (hown : RowT w base v n xs) (s : ByteArray)
    (h63 : n + s.size ≤ maxLen) (hbytes : n + s.size ≤ 140737488355328) (hbase : base ≤ w.heap.size) :
    ∃ v' w', (Builtin.append_ #[t, u] ty #[v, .string s]).run P w = .ok v' w' ∧ RowT w' base v' (n + s.size) (xs ++ strCells s) ∧ w.grownBy w' v.ownBlock ∧
      (v'.ownBlock = v.ownBlock ∨ v'.ownBlock = some w.heap.size) := by
  have hsmall : n + s.size ≤ 9223372036854775807 := by simp only [maxLen] at h63; omega
  have holdx := hown
  obtain ⟨hxl, g, cap, cur, fz, rfl, hbg, hg, hfz, hnc, hcm, hcs, htake⟩ := hown
  have hlen : (xs ++ strCells s).length = n + s.size := by rw [List.length_append, hxl, strCells_length]
  by_cases hroom : n + s.size ≤ cap
  · have hf := run_firstCells_string (P := P) w 1 s
    have hst := run_storeCells_atT P g n 5 fz (strCells s) 0 cur w hg hfz (by rw [strCells_length]; omega) (strCells_oneCell s)
    simp only [Nat.add_zero, strCells_length] at hst
    have hr : (Builtin.append_ #[t, u] ty #[.slice (some ⟨g, 0, none⟩) n cap, .string s]).run P w =
        .ok (.slice (some ⟨g, 0, none⟩) (n + s.size) cap) (w.setRow g (cur.toList.take n ++ strCells s ++ cur.toList.drop (n + s.size)).toArray) := by
      simp [Builtin.append_, run_underlying ht, run_underlying hu, sizeOf, typeInfo, hi, hsize, Builtin.lenOf, hroom, hf, Addr.add_lit, hst]
    have hsz : (cur.toList.take n ++ strCells s ++ cur.toList.drop (n + s.size)).toArray.size = cap := by
      simp only [List.size_toArray, List.length_append, List.length_take, List.length_drop, Array.length_toList, strCells_length]
      omega
    refine ⟨_, _, hr, ⟨hlen, g, cap, _, fz, rfl, hbg, setRow_heap w g cur _ 5 _ hg, ?_, hroom, hcm, hsz, ?_⟩, ⟨rfl, rfl, rfl, by simp, fun k _ hk => setRow_other w g k _ (fun e => hk (by simp [Value.ownBlock, e]))⟩, Or.inl rfl⟩
    · rw [hsz, ← hcs]; exact hfz
    · show (cur.toList.take n ++ strCells s ++ cur.toList.drop (n + s.size)).take (n + s.size) = _
      rw [htake, ← hlen]
      exact List.take_left
  · have hr := run_append_grow_string (P := P) w t u ty 5 i (.int .u8 0) ht hu hi hz ⟨g, 0, none⟩ n cap xs (by rw [hsize, Nat.mul_one]; exact hxl) (holdx.cells rfl) s (by omega) (by omega) (by rw [hby]; exact growslice_fits (by omega) (by omega))
    have hge := grownCap_ge w (n + s.size) cap 5
    have hcm2 : grownCap w (n + s.size) cap 5 ≤ maxLen := grownCap_le_maxLen w (n + s.size) cap 5 h63
    refine ⟨_, _, hr, ⟨hlen, w.heap.size, _, _, (0, 0), rfl, hbase, heap_alloc_new w.drew _, .inr rfl, hge, hcm2, ?_, ?_⟩, ⟨rfl, rfl, rfl, by simp, fun k hk _ => Below.heap_alloc w.drew _ k hk⟩, Or.inr rfl⟩
    · have hz1 : (Value.int IntKind.u8 0).cells.size = 1 := rfl
      simp only [Array.size_append, List.size_toArray, size_zeroCells, hz1, hxl, strCells_length]
      omega
    · simp only [Array.toList_append, List.append_assoc]
      rw [← List.append_assoc, ← hlen]
      exact List.take_left
theorem rowT_append (base : Nat) (t ty : TypeId) (i : TypeInfo) (ht : P.underlying t = some (.slice 5)) (hi : P.info? 5 = some i) (hz : i.zero = some (.int .u8 0))
    (hsize : i.size = 1) (hby : i.bytes = 1) (v : Value) (n : Nat) (xs : List Value) (hown : RowT w base v n xs)
    (a : Addr) (m c : Nat) (news : List Value) (hl : news.length = m * 1) (hnews : ∀ j u, news[j]? = some u → w.cell? (a.add j) = some u) (h1 : ∀ u ∈ news, u.oneCell' = true)
    (h63 : n + m ≤ maxLen) (hbytes : n + m ≤ 140737488355328) (hbase : base ≤ w.heap.size) :
    ∃ v' w', (Builtin.append_ #[t, t] ty #[v, .slice (some a) m c]).run P w = .ok v' w' ∧ RowT w' base v' (n + m) (xs ++ news) ∧ w.grownBy w' v.ownBlock ∧
      (v'.ownBlock = v.ownBlock ∨ v'.ownBlock = some w.heap.size) := by
  have hsmall : n + m ≤ 9223372036854775807 := by simp only [maxLen] at h63; omega
  have holdx := hown
  obtain ⟨hxl, g, cap, cur, fz, rfl, hbg, hg, hfz, hnc, hcm, hcs, htake⟩ := hown
  have hlen : (xs ++ news).length = n + m := by rw [List.length_append, hxl, hl]; omega
  by_cases hroom : n + m ≤ cap
  · have hf := run_firstCells_some (P := P) w 1 m a m c news hl hnews
    have hst := run_storeCells_atT P g n 5 fz news 0 cur w hg hfz (by omega) h1
    simp only [Nat.add_zero] at hst
    have hr : (Builtin.append_ #[t, t] ty #[.slice (some ⟨g, 0, none⟩) n cap, .slice (some a) m c]).run P w =
        .ok (.slice (some ⟨g, 0, none⟩) (n + m) cap) (w.setRow g (cur.toList.take n ++ news ++ cur.toList.drop (n + news.length)).toArray) := by
      simp [Builtin.append_, run_underlying ht, sizeOf, typeInfo, hi, hsize, Builtin.lenOf, hroom, hf, Addr.add_lit, hst]
    have hsz : (cur.toList.take n ++ news ++ cur.toList.drop (n + news.length)).toArray.size = cap := by
      simp only [List.size_toArray, List.length_append, List.length_take, List.length_drop, Array.length_toList]
      omega
    refine ⟨_, _, hr, ⟨hlen, g, cap, _, fz, rfl, hbg, setRow_heap w g cur _ 5 _ hg, ?_, hroom, hcm, hsz, ?_⟩, ⟨rfl, rfl, rfl, by simp, fun k _ hk => setRow_other w g k _ (fun e => hk (by simp [Value.ownBlock, e]))⟩, Or.inl rfl⟩
    · rw [hsz, ← hcs]; exact hfz
    · show (cur.toList.take n ++ news ++ cur.toList.drop (n + news.length)).take (n + m) = _
      rw [htake, ← hlen]
      exact List.take_left
  · have hr := run_append_grow (P := P) w t ty 5 i (.int .u8 0) ht hi hz ⟨g, 0, none⟩ n cap xs (by rw [hsize, Nat.mul_one]; exact hxl) (holdx.cells rfl) a m c news (by rw [hsize]; exact hl) hnews (by omega) (by omega) (by rw [hby]; exact growslice_fits (by omega) (by omega))
    have hge := grownCap_ge w (n + m) cap 5
    have hcm2 : grownCap w (n + m) cap 5 ≤ maxLen := grownCap_le_maxLen w (n + m) cap 5 h63
    refine ⟨_, _, hr, ⟨hlen, w.heap.size, _, _, (0, 0), rfl, hbase, heap_alloc_new w.drew _, .inr rfl, hge, hcm2, ?_, ?_⟩, ⟨rfl, rfl, rfl, by simp, fun k hk _ => Below.heap_alloc w.drew _ k hk⟩, Or.inr rfl⟩
    · have hz1 : (Value.int IntKind.u8 0).cells.size = 1 := rfl
      simp only [Array.size_append, List.size_toArray, size_zeroCells, hz1, hxl, hl]
      omega
    · simp only [Array.toList_append, List.append_assoc]
      rw [← List.append_assoc, ← hlen]
      exact List.take_left
/-- The row that a conversion lays. -/
theorem rowT_conv (s : ByteArray) (h : s.size ≤ 1000000000) (B : Nat) (hB : B ≤ w.heap.size) : RowT (bytesWorld w 5 s) B (.slice (some ⟨w.heap.size, 0, none⟩) s.size (grownCap w s.size 0 5)) s.size (strCells s) := by
  have hge := grownCap_ge w s.size 0 5
  have hcm : grownCap w s.size 0 5 ≤ maxLen := grownCap_le_maxLen w s.size 0 5 (by unfold maxLen; omega)
  have hsz : (bytesCells w 5 s).size = grownCap w s.size 0 5 := by
    unfold bytesCells
    simp only [Array.size_append, Array.size_map, Array.size_replicate]
    have : s.data.size = s.size := rfl
    omega
  refine ⟨strCells_length s, w.heap.size, _, _, _, rfl, hB, bytesWorld_at_new w 5 s, .inl (Nat.le_refl _), hge, hcm, hsz, ?_⟩
  unfold bytesCells
  rw [Array.toList_append, List.take_append_of_le_length (by simp)]
  have : (Array.map (fun b : UInt8 => Value.int IntKind.u8 (b.toNat : Int)) s.data).toList = strCells s := by simp [strCells]
  rw [this, ← strCells_length s]
  exact List.take_length
theorem below_conv (B : Nat) (s : ByteArray) (hB : B ≤ w.heap.size) : Below B w (bytesWorld w 5 s) :=
  ⟨rfl, rfl, rfl, by rw [bytesWorld_size]; omega, fun k hk => bytesWorld_at_old w 5 s k (by omega)⟩
end

/-- The frame of the reference's writer: the class's box, the row of bytes. -/
structure Eb (w : World) (X : Array Value) (W : World) (v : Value) (xs : List Int) : Prop where
  own : RowT W (w.heap.size + 1) v xs.length (numc xs)
  bel : Below w.heap.size w W
  box : W.heap[w.heap.size]? = some (.cells X 53 (0, 0))
section
variable {w W W' : World} {X : Array Value} {v v' : Value} {xs : List Int}
theorem Eb.lt (h : Eb w X W v xs) : w.heap.size < W.heap.size := blk_lt h.box
theorem Eb.alloc (h : Eb w X W v xs) (o : Obj) : Eb w X (W.alloc o) v xs := ⟨h.own.alloc _, h.bel.alloc (by have := h.lt; omega) o, blk_old h.box⟩
theorem Eb.drew (h : Eb w X W v xs) : Eb w X W.drew v xs := ⟨h.own, h.bel.drew, h.box⟩
theorem Eb.below (h : Eb w X W v xs) (hb : Below W.heap.size W W') : Eb w X W' v xs := ⟨h.own.below hb, below_then h.bel (by have := h.lt; omega) hb, blk_below h.box hb⟩
theorem Eb.grown (h : Eb w X W v xs) {ys : List Int} (ho : RowT W' (w.heap.size + 1) v' ys.length (numc ys)) (hg : W.grownBy W' v.ownBlock) : Eb w X W' v' ys :=
  ⟨ho, h.bel.grown hg (by have := h.lt; omega) (fun q hq => by have := (h.own.lt q hq).1; omega), blk_grown h.box hg (fun q => by have := (h.own.lt _ q.symm).1; omega)⟩
/-- A block beside the row. -/
theorem Eb.beside (h : Eb w X W v xs) {tb : Nat} {C : Array Value} {T : TypeId} (hb : W.heap[tb]? = some (.cells C T (0, 0))) (hT : T ≠ 5) (hg : W.grownBy W' v.ownBlock) : W'.heap[tb]? = some (.cells C T (0, 0)) := by
  refine blk_grown hb hg (fun q => ?_)
  obtain ⟨_, g, cap, cur, fz, rfl, _, hgb, _⟩ := h.own
  have : tb = g := by simpa [Value.ownBlock] using q
  subst this
  rw [hb] at hgb
  injection hgb with hgb
  injection hgb with _ e _
  exact hT e
/-- An append of a string. -/
theorem Eb.str (h : Eb w X W v xs) (s : ByteArray) (l : List Int) (hs : Sp.nums s = l) (hlen : xs.length + l.length ≤ 1000000000) {ty : TypeId} :
    ∃ v' W', (Builtin.append_ #[74, 9] ty #[v, .string s]).run Tryd.prog W = .ok v' W' ∧ Eb w X W' v' (xs ++ l) ∧ (∀ {tb : Nat} {C : Array Value} {T : TypeId}, T ≠ 5 → W.heap[tb]? = some (.cells C T (0, 0)) → W'.heap[tb]? = some (.cells C T (0, 0))) := by
  obtain ⟨i0, hi, hz0, hz1, hz2⟩ := info_parts infoByte
  have hz : s.size = l.length := by rw [← hs, nums_length]
  obtain ⟨v', W', hr, ho, hg, _⟩ := rowT_string (P := Tryd.prog) W (w.heap.size + 1) 74 9 ty i0 Tryd.underlying74 Tryd.underlying9 hi hz0 hz1 hz2 v xs.length (numc xs) h.own s (by unfold maxLen; omega) (by omega) (by have := h.lt; omega)
  refine ⟨v', W', hr, h.grown ?_ hg, fun hT hb => h.beside hb hT hg⟩
  rw [List.length_append, ← hz, numc_append, ← hs, ← strCells_numc]
  exact ho
/-- An append of a byte. -/
theorem Eb.byte (h : Eb w X W v xs) (x : Int) (hlen : xs.length + 1 ≤ 1000000000) {ty : TypeId} :
    ∃ v' W', (Builtin.append_ #[74, 74] ty #[v, .slice (some ⟨W.heap.size, 0, none⟩) 1 1]).run Tryd.prog (W.alloc (.cells #[.int .u8 x] 5)) = .ok v' W' ∧ Eb w X W' v' (xs ++ [x]) ∧ (∀ {tb : Nat} {C : Array Value} {T : TypeId}, T ≠ 5 → W.heap[tb]? = some (.cells C T (0, 0)) → W'.heap[tb]? = some (.cells C T (0, 0))) := by
  obtain ⟨i0, hi, hz0, hz1, hz2⟩ := info_parts infoByte
  have ha := h.alloc (.cells #[.int .u8 x] 5)
  obtain ⟨v', W', hr, ho, hg, _⟩ := rowT_append (P := Tryd.prog) (W.alloc (.cells #[.int .u8 x] 5)) (w.heap.size + 1) 74 ty i0 Tryd.underlying74 hi hz0 hz1 hz2 v xs.length (numc xs) ha.own ⟨W.heap.size, 0, none⟩ 1 1 [.int .u8 x] rfl
    (fun j u hj => by
      match j, hj with
      | 0, hj => simp at hj; subst hj; simp [Addr.add]
      | (j + 1), hj => simp at hj) (by simp; rfl) (by unfold maxLen; omega) (by omega) (by have := ha.lt; omega)
  refine ⟨v', W', hr, ha.grown ?_ hg, fun hT hb => ha.beside (blk_old hb) hT hg⟩
  rw [List.length_append, numc_append]
  exact ho
end
end Go.Proofs.YthpfknlgfkecpaaDoor
end
