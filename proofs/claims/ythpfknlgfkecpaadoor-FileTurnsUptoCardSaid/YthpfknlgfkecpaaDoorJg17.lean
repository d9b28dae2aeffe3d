/-
  Texts of the proof, joined: each says at its head what it proves.
-/
import Derived.Test.YthpfknlgfkecpaaDoorJg16
section
/-
  Walks of chapter 3's many, each with what it reads.
-/
set_option linter.unusedVariables false
set_option linter.unusedSimpArgs false
namespace Go.Proofs.YthpfknlgfkecpaaDoor
open Go.RowKit Go.Lib

theorem mconst_any (rb : Nat) (s : ByteArray) (e : Int) (w : World) (h : Rd w rb s e) (hs : s.size ≤ 1099511627776) :
    Calls Tryd.prog 67 #[.pointer (some ⟨rb, 0, none⟩), .int .i64 2, .func (.func 68) #[.pointer (some ⟨rb, 0, none⟩)] #[]] w fun x w' => ∃ A c, x = .returned (.slice A (Sp.manyN Sp.constR 2 s e).1.length c) ∧
      w'.ownsRow w.heap.size 58 6 (.slice A (Sp.manyN Sp.constR 2 s e).1.length c) (Sp.manyN Sp.constR 2 s e).1.length ((Sp.manyN Sp.constR 2 s e).1.flatMap Sp.cnC) ∧ Rd w' rb (Sp.manyN Sp.constR 2 s e).2.1 (Sp.manyN Sp.constR 2 s e).2.2 ∧ Keeps (fun i => i = rb) w w' :=
  manyCn_any Sp.constR 68 _ rb s e 2 w h hs (by decide) Sp.const_len #[.pointer (some ⟨rb, 0, none⟩)] rfl (fun W => by kernel_rfl) (fun s1 e1 W hk hR hz => rconst_any rb s1 e1 W hR hz)
theorem mint_any (rb vb : Nat) (s : ByteArray) (e : Int) (T : TypeId) (w : World) (h : Rd w rb s e) (hv : w.heap[vb]? = some (.cells #[.pointer (some ⟨rb, 0, none⟩)] T (0, 0))) (hne : vb ≠ rb) (hs : s.size ≤ 1099511627776) :
    Calls Tryd.prog 71 #[.pointer (some ⟨rb, 0, none⟩), .int .i64 1, .func (.func 72) #[] #[.pointer (some ⟨vb, 0, none⟩)]] w fun x w' => ∃ A c, x = .returned (.slice A (Sp.manyN (fun s e => Sp.numR s e 2) 1 s e).1.length c) ∧
      w'.ownsRow w.heap.size 3 1 (.slice A (Sp.manyN (fun s e => Sp.numR s e 2) 1 s e).1.length c) (Sp.manyN (fun s e => Sp.numR s e 2) 1 s e).1.length ((Sp.manyN (fun s e => Sp.numR s e 2) 1 s e).1.flatMap intC) ∧ Rd w' rb (Sp.manyN (fun s e => Sp.numR s e 2) 1 s e).2.1 (Sp.manyN (fun s e => Sp.numR s e 2) 1 s e).2.2 ∧ Keeps (fun i => i = rb) w w' :=
  manyI_any (fun s e => Sp.numR s e 2) 72 _ rb s e 1 w h hs (by decide) (fun s e => Sp.num_len s e 2) #[.pointer (some ⟨vb, 0, none⟩)] rfl (fun W => by kernel_rfl) (fun s1 e1 W hk hR hz => rint_any rb vb s1 e1 T W hR (hk.obj hv hne) hz)
theorem mfield_any (rb : Nat) (s : ByteArray) (e : Int) (w : World) (h : Rd w rb s e) (hs : s.size ≤ 1099511627776) :
    Calls Tryd.prog 73 #[.pointer (some ⟨rb, 0, none⟩), .int .i64 1, .func (.func 74) #[.pointer (some ⟨rb, 0, none⟩)] #[]] w fun x w' => ∃ A c L, L.map (·.1) = (Sp.manyN Sp.fieldR 1 s e).1 ∧ x = .returned (.slice A L.length c) ∧
      w'.ownsRow w.heap.size 65 7 (.slice A L.length c) L.length (L.flatMap Sp.mbC) ∧ OwnM w' w.heap.size L ∧ Rd w' rb (Sp.manyN Sp.fieldR 1 s e).2.1 (Sp.manyN Sp.fieldR 1 s e).2.2 ∧ Keeps (fun i => i = rb) w w' :=
  manyMb_any Sp.fieldR 74 _ rb s e 1 w h hs (by decide) Sp.field_len #[.pointer (some ⟨rb, 0, none⟩)] rfl (fun W => by kernel_rfl) (fun s1 e1 W hk hR hz => (rfield_any rb s1 e1 W hR hz).mono fun x W' q => ⟨none, 0, q.1, World.ownsRow_nil _ _ _ _, q.2⟩)
theorem mmethod_any (rb : Nat) (s : ByteArray) (e : Int) (w : World) (h : Rd w rb s e) (hs : s.size ≤ 1099511627776) :
    Calls Tryd.prog 73 #[.pointer (some ⟨rb, 0, none⟩), .int .i64 1, .func (.func 75) #[.pointer (some ⟨rb, 0, none⟩)] #[]] w fun x w' => ∃ A c L, L.map (·.1) = (Sp.manyN Sp.methodR 1 s e).1 ∧ x = .returned (.slice A L.length c) ∧
      w'.ownsRow w.heap.size 65 7 (.slice A L.length c) L.length (L.flatMap Sp.mbC) ∧ OwnM w' w.heap.size L ∧ Rd w' rb (Sp.manyN Sp.methodR 1 s e).2.1 (Sp.manyN Sp.methodR 1 s e).2.2 ∧ Keeps (fun i => i = rb) w w' :=
  manyMb_any Sp.methodR 75 _ rb s e 1 w h hs (by decide) Sp.method_len #[.pointer (some ⟨rb, 0, none⟩)] rfl (fun W => by kernel_rfl) (fun s1 e1 W hk hR hz => rmethod_any rb s1 e1 W hR hz)
end Go.Proofs.YthpfknlgfkecpaaDoor
end
