/-
  The walk of mutf.Encode.
-/
import Derived.Test.YthpfknlgfkecpaaDoorMwDec
import Derived.Laws.AppendOwn
import Derived.Laws.BytesArg
import Derived.OwnWalk
import Derived.WalkSmall
set_option linter.unusedVariables false
set_option linter.unusedSimpArgs false
namespace Go.Proofs.YthpfknlgfkecpaaDoor
open Go.RowKit Go.Lib

/-- Numbers as the cells of a row of bytes. -/
def numc (xs : List Int) : List Value := xs.map (Value.int .u8)
theorem numc_append (xs ys : List Int) : numc (xs ++ ys) = numc xs ++ numc ys := by simp [numc]
theorem numc_length (xs : List Int) : (numc xs).length = xs.length := by simp [numc]

set_option maxHeartbeats 4000000 in
set_option maxRecDepth 100000 in
theorem three_own (B : Nat) (v : Value) (xs : List Int) r (h0 : 0 ≤ r) (h1 : r < 65536) (w : World) (hown : w.ownsRow B 5 1 v xs.length (numc xs)) (hlen : xs.length + 3 ≤ 140737488355328) (hBw : B ≤ w.heap.size) :
    Calls Tryd.prog 94 #[v, .int .i32 r] w fun e w' => ∃ v', e = .returned v' ∧ w'.ownsRow B 5 1 v' (xs.length + 3) (numc (xs ++ Sp.three r)) ∧ ∃ o, (w.alloc o).grownBy w' v.ownBlock := by
  obtain ⟨i0, hi, hz0, hz1, hz2⟩ := info_parts infoByte
  go_enter Tryd.func94, Tryd.ntmps94
  go_wp2_with (at_builtin; refine wpList_append_own _ rfl _ _ 74 rfl B 5 i0 (.int .u8 0) 1 1 Tryd.underlying74 hi hz0 hz1 hz2 rfl (by decide) _ _ _ rfl (hown.alloc _) ⟨w.heap.size, 0, none⟩ 3 3 (numc (Sp.three r)) rfl rfl ?c1 ?c2 ?c3 ?c4 ?c5 ?_)
  case c1 =>
    have e1 : bits BinOp.or IntKind.u8 128 (bits BinOp.and IntKind.i32 (r / 64) 63 % 256) = 128 + r / 64 % 64 := by
      rw [Sp.i32_and63 _ (by omega) (by omega), Sp.or128 _ (by omega) (by omega)]; omega
    have e2 : bits BinOp.or IntKind.u8 128 (bits BinOp.and IntKind.i32 r 63 % 256) = 128 + r % 64 := by
      rw [Sp.i32_and63 _ (by omega) (by omega), Sp.or128 _ (by omega) (by omega)]; omega
    intro j u hj
    match j, hj with
    | 0, hj => simp [numc, Sp.three] at hj; subst hj; simp [Addr.add]
    | 1, hj => simp [numc, Sp.three] at hj; subst hj; simp [Addr.add, e1]
    | 2, hj => simp [numc, Sp.three] at hj; subst hj; simp [Addr.add, e2]
    | (j + 3), hj => simp [numc, Sp.three] at hj
  case c2 => intro u hu; simp [numc, Sp.three] at hu; rcases hu with rfl | rfl | rfl <;> rfl
  case c3 => unfold maxLen; omega
  case c4 => omega
  case c5 => simp; omega
  intro v' w2 hown' hgrow _
  go_wp2
  go_ret
  exact ⟨_, rfl, by rw [numc_append]; exact hown', _, hgrow⟩

theorem iter_grown {w w' : World} {v : Value} {B n : Nat} {xs : List Value} {k : Nat} {s : ByteArray} {pos : Nat} (hown : w.ownsRow B 5 1 v n xs) (hg : w.grownBy w' v.ownBlock) (hk : w.heap[k]? = some (.stringIter s pos)) : w'.heap[k]? = some (.stringIter s pos) :=
  (OthersKept.grown (OthersKept.refl 5 none w) hg (Lib.ownsRowF_kind (World.ownsRowF_of hown))) k _ hk (by simp) (fun _ _ e1 => by cases e1)
theorem own_base {w : World} {base : Nat} {e : TypeId} {size n : Nat} {v : Value} {xs : List Value} (h : w.ownsRow base e size v n xs) (k : Nat) (hk : v.ownBlock = some k) : base ≤ k := by
  rcases h.2 with ⟨rfl, _⟩ | ⟨g, cap, cur, rfl, hb, _⟩
  · simp [Value.ownBlock] at hk
  · have : g = k := by simpa [Value.ownBlock] using hk
    omega

theorem app_step {w0 w2 w3 : World} {o : Obj} {v4 v' : Value} {acc news : List Int} {m k B0 : Nat} {s : ByteArray} {pos : Nat} (hown : w2.ownsRow (k + 1) 5 1 v4 acc.length (numc acc)) (hl : news.length = m)
    (hown' : w3.ownsRow (k + 1) 5 1 v' (acc.length + m) (numc (acc ++ news))) (hg : (w2.alloc o).grownBy w3 v4.ownBlock) (hit : w2.heap[k]? = some (.stringIter s pos)) (hb : Below B0 w0 w2) (hB0 : B0 ≤ k) :
    w3.ownsRow (k + 1) 5 1 v' (acc ++ news).length (numc (acc ++ news)) ∧ w3.heap[k]? = some (.stringIter s pos) ∧ Below B0 w0 w3 := by
  have hlt : k < w2.heap.size := (Array.getElem?_eq_some_iff.1 hit).1
  refine ⟨by rw [List.length_append, hl]; exact hown', iter_grown (hown.alloc _) hg ((Lib.alloc_old w2 _ k hlt).trans hit), ?_⟩
  exact (hb.alloc (by omega) _).grown hg (by simp; omega) (fun q hq => by have := own_base hown q hq; omega)

theorem own_string {P : Program} {w : World} {base n : Nat} {e' src dst e : TypeId} {v : Value} {xs : List Int} (hs : P.underlying src = some (.slice e)) (he : P.underlying e = some (.int .u8)) (hd : P.underlying dst = some .string)
    (h : w.ownsRow base e' 1 v n (numc xs)) : (convert src dst v).run P w = .ok (.string (Go.strOfNums xs)) w := by
  have hl : xs.length = n := by have := h.1; simp [numc] at this; exact this
  rcases h.2 with ⟨rfl, rfl⟩ | ⟨g, cap, cur, rfl, _⟩
  · obtain rfl : xs = [] := List.eq_nil_of_length_eq_zero hl
    exact run_convert_bytes_nil w src e hs he 0 0 dst hd
  · refine run_convert_bytes_arg w src e hs he g 0 n cap xs hl (fun i hi => ?_) dst hd
    have hc := h.cells (g := g) rfl i (.int .u8 (xs.getD i 0)) (by simp [numc, List.getElem?_eq_getElem (show i < xs.length by omega), List.getD_eq_getElem?_getD])
    have ha : (⟨g, 0, none⟩ : Addr).add i = ⟨g, 0 + i, none⟩ := by unfold Addr.add; split <;> simp_all
    rwa [ha] at hc

namespace Sp
/-- What Encode writes. -/
def encL (l : List Int) : List Int := l.flatMap encZ
def encS (s : ByteArray) : ByteArray × Int :=
  if validD s.data.toList = false then (⟨#[]⟩, 4)
  else if 65535 < (encL (runes s)).length then (⟨#[]⟩, 2)
  else (Go.strOfNums (encL (runes s)), 0)
end Sp

set_option maxHeartbeats 8000000 in
set_option maxRecDepth 100000 in
theorem encode_any (s : ByteArray) (w : World) (hs : s.size ≤ 1099511627776) (hT : Lib.Utf8Tabs (Tryd.lays196_ren.g 3) (Tryd.lays196_ren.g 4) w) :
    Calls Tryd.prog 60 #[.string s] w fun e w' => e = .returned (.tuple #[.string (Sp.encS s).1, .int .i64 (Sp.encS s).2]) ∧ Below w.heap.size w w' := by
  obtain ⟨i0, hi, hz0, hz1, hz2⟩ := info_parts infoByte
  have hV := Tryd.utf8_ValidString s w (by omega) hT
  have HE := Lib.hid (show Sp.encS s = _ by rw [Sp.encS])
  generalize Sp.encS s = R at HE ⊢
  generalize validD s.data.toList = V at hV HE
  have HV := Lib.hid hV
  clear hV
  go_enter Tryd.func60, Tryd.ntmps60
  go_wp2_with fail
  refine HV.out.mono ?_
  rintro e W1 ⟨rfl, hb1⟩
  clear HV
  cases V with
  | false =>
    have hR : Hid (R = (⟨#[]⟩, 4)) := Lib.hid (by rw [HE.out, if_pos rfl])
    clear HE
    go_wp2
    go_ret2
    exact ⟨by rw [hR.out]; rfl, hb1⟩
  | true =>
    have HR : Hid (R = if 65535 < (Sp.encL (Sp.runes s)).length then (⟨#[]⟩, 2) else (Go.strOfNums (Sp.encL (Sp.runes s)), 0)) := Lib.hid (by rw [HE.out, if_neg (by simp)])
    clear HE
    have hsz1 := hb1.size
    go_wp2
    go_loopw [4] (fun v4 wr => ∃ (pos f : Nat) (acc : List Int), wr.ownsRow (W1.heap.size + 1) 5 1 v4 acc.length (numc acc) ∧ wr.heap[W1.heap.size]? = some (.stringIter s pos) ∧ Below w.heap.size w wr ∧ Hid (acc ++ Sp.encL (Sp.rl s f pos) = Sp.encL (Sp.runes s)) ∧ s.size ≤ pos + f ∧ acc.length ≤ 6 * pos) (fun _ wr => s.size - wr.iterPos W1.heap.size)
    case atStart =>
      refine ⟨0, s.size, [], ⟨by simp [numc], .inl ⟨rfl, rfl⟩⟩, ?_, below_then hb1 hsz1 (below_iter _ _ _), Lib.hid rfl, by omega, by simp⟩
      exact World.iter_heap W1 s 0
    case round =>
      obtain ⟨pos, f, acc, hown, hit, hbw, hacc, hfu, hal⟩ := hrel
      have hsz : W1.heap.size < wr.heap.size := (Array.getElem?_eq_some_iff.1 hit).1
      by_cases hp : pos < s.size
      · have hnx : ∀ ty, (Instr.next (.pointer (some ⟨W1.heap.size, 0, none⟩)) true ty).run Tryd.prog wr = _ := fun ty => Lib.run_next_any_at wr W1.heap.size s pos ty hit hp
        have hwd := Lib.decode_width_pos s pos hp
        have hmx : ((Utf8.decode s pos).1 : Int) ≤ 1114111 := by have := Sp.decode_max s pos; omega
        have hmn : (0 : Int) ≤ ((Utf8.decode s pos).1 : Int) := by omega
        obtain ⟨g, rfl, hg, hr⟩ := Sp.rl_step s f pos hp hfu
        have hr' := Lib.hid hr
        clear hr
        have hit2 := Lib.iterAt_heap wr W1.heap.size s pos (pos + (Utf8.decode s pos).2) hit
        have hbw2 := Lib.below_iterAt hbw (k := W1.heap.size) (by omega) s (pos + (Utf8.decode s pos).2)
        have hown2 := ownsRow_iterAt hown (k := W1.heap.size) (by omega) s (pos + (Utf8.decode s pos).2)
        have hsz2 : W1.heap.size < (wr.iterAt W1.heap.size s (pos + (Utf8.decode s pos).2)).heap.size := by rw [Lib.iterAt_size]; omega
        have hlt2 : pos < pos + (Utf8.decode s pos).2 := by omega
        generalize pos + (Utf8.decode s pos).2 = pos2 at *
        generalize ((Utf8.decode s pos).1 : Int) = r at *
        generalize wr.iterAt W1.heap.size s pos2 = w2 at *
        clear hown hbw hsz
        by_cases c1 : 0 < r ∧ r < 128
        · have he : Sp.encZ r = [r] := by rw [Sp.encZ, if_pos (by omega)]
          have HE := Lib.hid he
          clear he
          obtain ⟨c10, c11⟩ := c1
          go_wp2_with (at_builtin; refine wpList_append_own _ rfl _ _ 74 rfl (W1.heap.size + 1) 5 i0 (.int .u8 0) 1 1 Tryd.underlying74 hi hz0 hz1 hz2 rfl (by decide) _ _ _ rfl (hown2.alloc _) ⟨w2.heap.size, 0, none⟩ 1 1 (numc [r]) rfl rfl ?c1 ?c2 ?c3 ?c4 ?c5 ?_)
          case c1 =>
            intro j u hj
            match j, hj with
            | 0, hj => simp [numc] at hj; subst hj; simp [Addr.add]
            | (j + 1), hj => simp [numc] at hj
          case c2 => intro u hu; simp [numc] at hu; subst hu; rfl
          case c3 => unfold maxLen; omega
          case c4 => omega
          case c5 => first | omega | (simp; omega)
          intro v' w3 hown' hgrow _
          obtain ⟨ho3, hi3, hb3⟩ := app_step (o := _) (news := [r]) hown2 rfl (by rw [numc_append]; exact hown') hgrow hit2 hbw2 (by omega)
          go_wp2
          go_roundw
          case rel =>
            refine ⟨pos2, g, acc ++ [r], ho3, hi3, hb3, Lib.hid ?_, by omega, by simp; omega⟩
            rw [← hacc.out, hr'.out, Sp.encL, Sp.encL, List.flatMap_cons, HE.out, List.append_assoc]
          case measure =>
            simp only [World.iterPos, hi3, hit]
            omega
        have c1b : ¬ (0 < r) ∨ ¬ (r < 128) := by omega
        by_cases c2 : r < 2048
        · have he : Sp.encZ r = [192 + r / 64, 128 + r % 64] := by rw [Sp.encZ, if_neg (by omega), if_pos (by omega)]
          have HE := Lib.hid he
          clear he
          by_cases c0 : 0 < r
          · have c0b : 128 ≤ r := by omega
            clear c1 c1b
            go_wp2_with (at_builtin; refine wpList_append_own _ rfl _ _ 74 rfl (W1.heap.size + 1) 5 i0 (.int .u8 0) 1 1 Tryd.underlying74 hi hz0 hz1 hz2 rfl (by decide) _ _ _ rfl (hown2.alloc _) ⟨w2.heap.size, 0, none⟩ 2 2 (numc [192 + r / 64, 128 + r % 64]) rfl rfl ?c1 ?c2 ?c3 ?c4 ?c5 ?_)
            case c1 =>
              have e2 : bits BinOp.or IntKind.u8 128 (bits BinOp.and IntKind.i32 r 63 % 256) = 128 + r % 64 := by
                rw [Sp.i32_and63 _ (by omega) (by omega), Sp.or128 _ (by omega) (by omega)]; omega
              intro j u hj
              match j, hj with
              | 0, hj => simp [numc] at hj; subst hj; simp [Addr.add]
              | 1, hj => simp [numc] at hj; subst hj; simp [Addr.add, e2]
              | (j + 2), hj => simp [numc] at hj
            case c2 => intro u hu; simp [numc] at hu; rcases hu with rfl | rfl <;> rfl
            case c3 => unfold maxLen; omega
            case c4 => omega
            case c5 => first | omega | (simp; omega)
            intro v' w3 hown' hgrow _
            obtain ⟨ho3, hi3, hb3⟩ := app_step (o := _) (news := [192 + r / 64, 128 + r % 64]) hown2 rfl (by rw [numc_append]; exact hown') hgrow hit2 hbw2 (by omega)
            go_wp2
            go_roundw
            case rel =>
              refine ⟨pos2, g, acc ++ [192 + r / 64, 128 + r % 64], ho3, hi3, hb3, Lib.hid ?_, by omega, by simp; omega⟩
              rw [← hacc.out, hr'.out, Sp.encL, Sp.encL, List.flatMap_cons, HE.out, List.append_assoc]
            case measure =>
              simp only [World.iterPos, hi3, hit]
              omega
          · have c0b : r ≤ 0 := by omega
            clear c1 c1b
            go_wp2_with (at_builtin; refine wpList_append_own _ rfl _ _ 74 rfl (W1.heap.size + 1) 5 i0 (.int .u8 0) 1 1 Tryd.underlying74 hi hz0 hz1 hz2 rfl (by decide) _ _ _ rfl (hown2.alloc _) ⟨w2.heap.size, 0, none⟩ 2 2 (numc [192 + r / 64, 128 + r % 64]) rfl rfl ?c1 ?c2 ?c3 ?c4 ?c5 ?_)
            case c1 =>
              have e2 : bits BinOp.or IntKind.u8 128 (bits BinOp.and IntKind.i32 r 63 % 256) = 128 + r % 64 := by
                rw [Sp.i32_and63 _ (by omega) (by omega), Sp.or128 _ (by omega) (by omega)]; omega
              intro j u hj
              match j, hj with
              | 0, hj => simp [numc] at hj; subst hj; simp [Addr.add]
              | 1, hj => simp [numc] at hj; subst hj; simp [Addr.add, e2]
              | (j + 2), hj => simp [numc] at hj
            case c2 => intro u hu; simp [numc] at hu; rcases hu with rfl | rfl <;> rfl
            case c3 => unfold maxLen; omega
            case c4 => omega
            case c5 => first | omega | (simp; omega)
            intro v' w3 hown' hgrow _
            obtain ⟨ho3, hi3, hb3⟩ := app_step (o := _) (news := [192 + r / 64, 128 + r % 64]) hown2 rfl (by rw [numc_append]; exact hown') hgrow hit2 hbw2 (by omega)
            go_wp2
            go_roundw
            case rel =>
              refine ⟨pos2, g, acc ++ [192 + r / 64, 128 + r % 64], ho3, hi3, hb3, Lib.hid ?_, by omega, by simp; omega⟩
              rw [← hacc.out, hr'.out, Sp.encL, Sp.encL, List.flatMap_cons, HE.out, List.append_assoc]
            case measure =>
              simp only [World.iterPos, hi3, hit]
              omega
        have c2b : ¬ (r < 2048) := by omega
        have c0b : (128 : Int) ≤ r := by omega
        by_cases c3 : r < 65536
        · have he : Sp.encZ r = Sp.three r := by rw [Sp.encZ, if_neg (by omega), if_neg c2b, if_pos (by omega)]
          have HE := Lib.hid he
          clear he c1b
          have h3 := Lib.hid (three_own (W1.heap.size + 1) u4 acc r (by omega) (by omega) w2 hown2 (by omega) (by omega))
          clear c2 c1
          go_wp2_with fail
          refine h3.out.mono ?_
          rintro e w3 ⟨v', rfl, hown', o, hgrow⟩
          clear h3
          obtain ⟨ho3, hi3, hb3⟩ := app_step (o := _) (news := Sp.three r) hown2 rfl hown' hgrow hit2 hbw2 (by omega)
          go_wp2
          go_roundw
          case rel =>
            refine ⟨pos2, g, acc ++ Sp.three r, ho3, hi3, hb3, Lib.hid ?_, by omega, by simp [Sp.three]; omega⟩
            rw [← hacc.out, hr'.out, Sp.encL, Sp.encL, List.flatMap_cons, HE.out, List.append_assoc]
          case measure =>
            simp only [World.iterPos, hi3, hit]
            omega
        have c3b : ¬ (r < 65536) := by omega
        have he : Sp.encZ r = Sp.three (55296 + (r - 65536) / 1024) ++ Sp.three (56320 + (r - 65536) % 1024) := by rw [Sp.encZ, if_neg (by omega), if_neg c2b, if_neg c3b]
        have HE := Lib.hid he
        clear he c1b
        have h3 := Lib.hid (three_own (W1.heap.size + 1) u4 acc (55296 + (r - 65536) / 1024) (by omega) (by omega) w2 hown2 (by omega) (by omega))
        clear c2 c3 c1
        go_wp2_with fail
        refine h3.out.mono ?_
        rintro e w3 ⟨v', rfl, hown', o, hgrow⟩
        clear h3
        obtain ⟨ho3, hi3, hb3⟩ := app_step (o := _) (news := Sp.three (55296 + (r - 65536) / 1024)) hown2 rfl hown' hgrow hit2 hbw2 (by omega)
        have hsz3 : W1.heap.size < w3.heap.size := (Array.getElem?_eq_some_iff.1 hi3).1
        have h4 := Lib.hid (three_own (W1.heap.size + 1) v' (acc ++ Sp.three (55296 + (r - 65536) / 1024)) (56320 + (r - 65536) % 1024) (by omega) (by omega) w3 ho3 (by simp [Sp.three]; omega) (by omega))
        have e1023 : bits BinOp.and IntKind.i32 (r - 65536) 1023 = (r - 65536) % 1024 := Sp.i32_and1023 _ (by omega) (by omega)
        clear hown' hgrow hown2 hit2 hbw2
        go_wp2_with fail
        refine h4.out.mono ?_
        rintro e w4 ⟨v'', rfl, hown4, o4, hgrow4⟩
        clear h4
        obtain ⟨ho4, hi4, hb4⟩ := app_step (o := _) (news := Sp.three (56320 + (r - 65536) % 1024)) ho3 rfl hown4 hgrow4 hi3 hb3 (by omega)
        go_wp2
        go_roundw
        case rel =>
          refine ⟨pos2, g, _, ho4, hi4, hb4, Lib.hid ?_, by omega, by simp [Sp.three]; omega⟩
          rw [← hacc.out, hr'.out, Sp.encL, Sp.encL, List.flatMap_cons, HE.out]
          simp only [List.append_assoc]
        case measure =>
          simp only [World.iterPos, hi4, hit]
          omega
      · have hnx : ∀ ty, (Instr.next (.pointer (some ⟨W1.heap.size, 0, none⟩)) true ty).run Tryd.prog wr = _ := fun ty => Lib.run_next_end_at wr W1.heap.size s pos ty hit hp
        have hfin : Hid (Sp.encL (Sp.runes s) = acc) := Lib.hid (by rw [← hacc.out, Sp.rl_end _ _ _ hp]; simp [Sp.encL])
        obtain ⟨A, c, rfl⟩ : ∃ A c, u4 = .slice A acc.length c := by
          rcases hown.2 with ⟨hv, h0⟩ | ⟨g, cap, cur, hv, _⟩
          · exact ⟨none, 0, by rw [hv, h0]⟩
          · exact ⟨_, _, hv⟩
        by_cases hlen : 65535 < acc.length
        · have hR : Hid (R = (⟨#[]⟩, 2)) := Lib.hid (by rw [HR.out, hfin.out, if_pos hlen])
          have hlz : (65535 : Int) < (acc.length : Int) := by omega
          clear HR hfin hacc
          go_wp2
          go_ret2
          exact ⟨by rw [hR.out]; rfl, hbw⟩
        · have hR : Hid (R = (Go.strOfNums acc, 0)) := Lib.hid (by rw [HR.out, hfin.out, if_neg hlen])
          have hlz : ¬ (65535 : Int) < (acc.length : Int) := by omega
          have hconv := own_string (P := Tryd.prog) (src := 74) (dst := 9) Tryd.underlying74 Tryd.underlying5 Tryd.underlying9 hown
          clear HR hfin hacc
          go_wp2
          go_ret2
          exact ⟨by rw [hR.out]; rfl, hbw⟩
end Go.Proofs.YthpfknlgfkecpaaDoor
