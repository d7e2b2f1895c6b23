/- Proved: flagstonelaw12.SegmentLists returns true for every input and leaves its arguments as they were (the tied card of the first form); no condition beyond the row's own cells. -/
import Derived.Test.YtbdnigendhhndaaGreatDoorLe
set_option linter.unusedVariables false
set_option linter.unusedSimpArgs false
section
/- SegmentLists: the card. -/
namespace Go.Proofs.YtbdnigendhhndaaGreatDoor
open Go Go.Ev Go.ChangeShapes Go.WideShapes Go.ChangeAt Go.RowKit
set_option maxRecDepth 100000

theorem lists_plain (f : FuncId) (fn : Func) (hf : Tryz.pinned.checked.prog.funcNamed "flagstone/flagstonelaw12.SegmentLists" = some f) (hfn : Tryz.pinned.checked.prog.funcs[f]? = some fn) :
    true = Tryz.pinned.checked.prog.looks [] ∧ ∀ (j : Nat) t, fn.params[j]? = some t → Tryz.pinned.checked.prog.wantsStandIn t = false := by
  obtain rfl : f = 5 := Option.some.inj ((show Tryz.prog.funcNamed "flagstone/flagstonelaw12.SegmentLists" = some 5 by kernel_rfl).symm.trans hf) |>.symm
  obtain rfl : fn = Tryz.f5 := (Option.some.inj (Tryz.func5.symm.trans hfn)).symm
  refine ⟨by kernel_rfl, fun j t ht => ?_⟩
  rw [Tryz.params5] at ht
  have ht := Array.mem_of_getElem? ht
  simp only [List.mem_toArray, List.mem_cons, List.not_mem_nil, or_false] at ht
  rcases ht with rfl | rfl | rfl | rfl <;> (show _ = _; kernel_rfl)
/-- SegmentLists, the tied card. -/
theorem segmentLists_holds : Rows.SegmentListsCardSaid :=
  Claim7.holds_tied_plain_at .later [] _ _ _ _ lists_said (fun _ h => by cases h) (by kernel_rfl) (fun _ h => by cases h) segmentLists_row_tie rfl ⟨rfl, rfl⟩ (by kernel_rfl) rfl lists_plain (by kernel_rfl)
#print axioms segmentLists_holds
end Go.Proofs.YtbdnigendhhndaaGreatDoor
end
