/-
  'FileReads' holds for every input that its row lets in (the second form: a bound on the input's bulk): the law's walk, put into the given row and its tied card.
-/
import Derived.Test.YtjjlcoimaihdoaaGreatDoorJh16
import Derived.Test.YtjjlcoimaihdoaaGreatDoorFcFileReads
import Derived.Test.YtjjlcoimaihdoaaGreatDoorJh1
import Derived.Test.YtjjlcoimaihdoaaGreatDoorJh5
import Derived.Test.YtjjlcoimaihdoaaGreatDoorCards
import Derived.Test.YtjjlcoimaihdoaaGreatDoorTie
import Derived.Lib.LaidIn
import Derived.Lib.LaidU8T
import Derived.PinnedBridge
import Derived.Deep.DeepHandedRow
import Derived.Deep.DeepWitnessRowRef
import Derived.ProofKit
import Derived.OpenShut
import Derived.ShutString
import Derived.ChangeOld
import Derived.DataShut
set_option linter.unusedVariables false
set_option linter.unusedSimpArgs false
namespace Go.Proofs.YtjjlcoimaihdoaaGreatDoor.fileReadsU
open Go.ChangeShapes Go.WideShapes Go.ChangeAt Go.RowKit Go.Shelf Go.Lib
open Go.ChangeMaps (open_string shut_string)
set_option maxRecDepth 100000

theorem said : Rows.FileReadsUptoSaid :=
  OpenClaim.holds_of_cond 3 Tryz.f3 rfl rfl rfl rfl rfl rfl rfl ⟨rfl, rfl, rfl, rfl, rfl⟩ rfl rfl rfl rfl rfl (by as_aux_lemma => kernel_rfl) Tryz.func3 Go.Proofs.YtjjlcoimaihdoaaGreatDoor.fileReadsF.closed
    (of_decide_eq_true (by as_aux_lemma => kernel_rfl)) (by unfold Func.isWrapper; first | (rw [if_pos (by decide +kernel)]; kernel_rfl) | (rw [if_neg (by decide +kernel)]; exact ⟨rfl, rfl⟩))
    (fun os started H enc _ F => by rw [OpenClaim.pre_eq_preRow]; exact lifted os started H enc F)

theorem plain (f : FuncId) (fn : Func) (hf : Tryz.pinned.checked.prog.funcNamed "crucible/cruciblelaw3.FileReads" = some f) (hfn : Tryz.pinned.checked.prog.funcs[f]? = some fn) :
    false = Tryz.pinned.checked.prog.looks [] ∧ ∀ (j : Nat) t, fn.params[j]? = some t → Tryz.pinned.checked.prog.wantsStandIn t = false := by
  obtain rfl : f = 3 := Option.some.inj ((show Tryz.prog.funcNamed "crucible/cruciblelaw3.FileReads" = some 3 by as_aux_lemma => kernel_rfl).symm.trans hf) |>.symm
  obtain rfl : fn = Tryz.f3 := (Option.some.inj (Tryz.func3.symm.trans hfn)).symm
  refine ⟨by as_aux_lemma => kernel_rfl, fun j t ht => ?_⟩
  rw [Tryz.params3] at ht
  have ht' := Array.mem_of_getElem? ht
  simp at ht'
  rcases ht' with rfl | rfl | rfl | rfl | rfl
  all_goals first | exact (show Tryz.prog.wantsStandIn 9 = false by kernel_rfl) | exact (show Tryz.prog.wantsStandIn 26 = false by kernel_rfl) | exact (show Tryz.prog.wantsStandIn 23 = false by kernel_rfl) | exact (show Tryz.prog.wantsStandIn 3 = false by kernel_rfl)

theorem card : Rows.FileReadsUptoCardSaid :=
  Claim7.holds_tied_plain_at .later [] _ _ _ _ said (fun _ h => by cases h) (by as_aux_lemma => kernel_rfl) (fun _ h => by cases h) fileReadsUpto_row_tie rfl ⟨rfl, rfl⟩ (by as_aux_lemma => kernel_rfl) rfl plain (by as_aux_lemma => kernel_rfl)
end Go.Proofs.YtjjlcoimaihdoaaGreatDoor.fileReadsU

namespace Go.Proofs.YtjjlcoimaihdoaaGreatDoor
/-- The card of the law. -/
theorem fileReads_card : Rows.FileReadsUptoCardSaid := fileReadsU.card
#print axioms fileReads_card
end Go.Proofs.YtjjlcoimaihdoaaGreatDoor
