/- A part of the proofs of this seat's laws (abstract interpretation of the translated program, and contracts of its functions); no statement of its own. -/
import Derived.Test.YtbdnigendhhndaaGreatDoorRows
import Derived.JoinedCond
set_option linter.unusedVariables false
set_option linter.unusedSimpArgs false
section
/- The closed facts of the row of SegmentLists. -/
namespace Go.Proofs.YtbdnigendhhndaaGreatDoor
open Go
set_option maxRecDepth 100000

theorem lists_facts : joinedFacts Tryz.pinned.checked.prog 5 Tryz.f5 (OpenSpec.ofChange Rows.segmentListsSpec).bare Rows.segmentListsRow = true := by kernel_rfl
end Go.Proofs.YtbdnigendhhndaaGreatDoor
end
