/- Proved: flagstonelaw12.SegmentUnfolds returns true for every input and leaves its arguments as they were (the tied card of the first form); no condition beyond the row's own cells. -/
import Derived.Test.YtbdnigendhhndaaGreatDoorUd
set_option linter.unusedVariables false
set_option linter.unusedSimpArgs false
section
/- SegmentUnfolds: the card. -/
namespace Go.Proofs.YtbdnigendhhndaaGreatDoor
open Go Go.Ev Go.ChangeShapes Go.WideShapes Go.ChangeAt Go.RowKit
set_option maxRecDepth 100000

theorem unf_plain (f : FuncId) (fn : Func) (hf : Tryz.pinned.checked.prog.funcNamed "flagstone/flagstonelaw12.SegmentUnfolds" = some f) (hfn : Tryz.pinned.checked.prog.funcs[f]? = some fn) :
    true = Tryz.pinned.checked.prog.looks [] ∧ ∀ (j : Nat) t, fn.params[j]? = some t → Tryz.pinned.checked.prog.wantsStandIn t = false := by
  obtain rfl : f = 7 := Option.some.inj ((show Tryz.prog.funcNamed "flagstone/flagstonelaw12.SegmentUnfolds" = some 7 by kernel_rfl).symm.trans hf) |>.symm
  obtain rfl : fn = Tryz.f7 := (Option.some.inj (Tryz.func7.symm.trans hfn)).symm
  refine ⟨by kernel_rfl, fun j t ht => ?_⟩
  rw [Tryz.params7] at ht
  obtain rfl : t = 22 := by simpa using Array.mem_of_getElem? ht
  exact (show Tryz.prog.wantsStandIn 22 = false by kernel_rfl)
/-- SegmentUnfolds, the tied card. -/
theorem segmentUnfolds_holds : Rows.SegmentUnfoldsCardSaid :=
  Claim7.holds_tied_plain_at .later [] _ _ _ _ unf_said (fun _ h => by cases h) (by kernel_rfl) (fun _ h => by cases h) segmentUnfolds_row_tie rfl ⟨rfl, rfl⟩ (by kernel_rfl) rfl unf_plain (by kernel_rfl)
#print axioms segmentUnfolds_holds
end Go.Proofs.YtbdnigendhhndaaGreatDoor
end
