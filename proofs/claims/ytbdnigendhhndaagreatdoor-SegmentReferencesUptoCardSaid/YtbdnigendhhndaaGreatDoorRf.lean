/- The law on the references of segments (flagstonelaw12.SegmentReferences) answers true for all codes and every condition, and leaves the input as it was; condition: what it reads is of bulk at most 1048576. -/
import Derived.Test.YtbdnigendhhndaaGreatDoorRe
set_option linter.unusedVariables false
set_option linter.unusedSimpArgs false
section
/- SegmentReferences: the card. -/
namespace Go.Proofs.YtbdnigendhhndaaGreatDoor
open Go Go.Ev Go.ChangeShapes Go.WideShapes Go.ChangeAt Go.RowKit
set_option maxRecDepth 100000

theorem refs_plain (f : FuncId) (fn : Func) (hf : Tryz.pinned.checked.prog.funcNamed "flagstone/flagstonelaw12.SegmentReferences" = some f) (hfn : Tryz.pinned.checked.prog.funcs[f]? = some fn) :
    true = Tryz.pinned.checked.prog.looks [] ∧ ∀ (j : Nat) t, fn.params[j]? = some t → Tryz.pinned.checked.prog.wantsStandIn t = false := by
  obtain rfl : f = 3 := Option.some.inj ((show Tryz.prog.funcNamed "flagstone/flagstonelaw12.SegmentReferences" = some 3 by kernel_rfl).symm.trans hf) |>.symm
  obtain rfl : fn = Tryz.f3 := (Option.some.inj (Tryz.func3.symm.trans hfn)).symm
  refine ⟨by kernel_rfl, fun j t ht => ?_⟩
  rw [Tryz.params3] at ht
  have ht := Array.mem_of_getElem? ht
  simp only [List.mem_toArray, List.mem_cons, List.not_mem_nil, or_false] at ht
  rcases ht with rfl | rfl <;> (show _ = _; kernel_rfl)
/-- SegmentReferences, the tied card. -/
theorem segmentReferences_holds : Rows.SegmentReferencesUptoCardSaid :=
  Claim7.holds_tied_plain_at .later [] _ _ _ _ refs_said (fun _ h => by cases h) (by kernel_rfl) (fun _ h => by cases h) segmentReferencesUpto_row_tie rfl ⟨rfl, rfl⟩ (by kernel_rfl) rfl refs_plain (by kernel_rfl)
#print axioms segmentReferences_holds
end Go.Proofs.YtbdnigendhhndaaGreatDoor
end
