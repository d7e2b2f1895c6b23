/- A part of the proofs of this seat's laws (abstract interpretation of the translated program, and contracts of its functions); no statement of its own. -/
import Derived.Test.YtbdnigendhhndaaGreatDoorRows
import Derived.JoinedCond
set_option linter.unusedVariables false
set_option linter.unusedSimpArgs false
section
/- The closed facts of the row of SegmentReferences. -/
namespace Go.Proofs.YtbdnigendhhndaaGreatDoor
open Go
set_option maxRecDepth 100000

theorem refs_facts : joinedFacts Tryz.pinned.checked.prog 3 Tryz.f3 (Rows.OpenSpec.upto Rows.segmentReferencesSpec).bare Rows.segmentReferencesUptoRow = true := by kernel_rfl
end Go.Proofs.YtbdnigendhhndaaGreatDoor
end
