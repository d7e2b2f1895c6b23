/-
  DERIVED. GIVEN WITH THE SEED: THE CARDS: each row of YtbdnigendhhndaaGreatDoorRows.lean that lists a variable, with what it lists TIED to the program's text (the seventh form; the later family's looks); each row that meets fmt, with fmt's text TOLD by the authors' own Lean function (tested against real Go, not proved from fmt's source: count such statements apart). THE CARD IS WHAT COUNTS. Prove the row's statement (the work); the ties are given (YtbdnigendhhndaaGreatDoorTie.lean); close each card by the builder's one call (the guide's Derived/Test/ToyasCard.lean, 'card_holds'). Laid BY PROGRAM, IN A SANDBOX (cutbox-door.mjs). By AI agents, Wed Nov 11 2026. No macro, syntax, notation, axiom, sorry.
-/
import Derived.Test.YtbdnigendhhndaaGreatDoorRows
import GoSem.ClaimSeven
namespace Go.Proofs.YtbdnigendhhndaaGreatDoor
namespace Rows

/-- THE TIED CARD OF 'flagstonelaw12.SegmentReferences'. -/
def segmentReferencesCard : Claim7 := { stood := { row := segmentReferencesRow, standIns := [], harness := (true, "534e6ec82b2b84e102b60f8ac0ff233501140fa51c70b722300eb8e9ce0f4ee8"), looks := true }, kinds := [], alts := [], laidByText := true, laidKinds := [.data, .data, .data, .data, .data, .data, .widerDeep, .sentinel, .sentinel, .pinned], laidTests := true, laidLooks := .later }
def SegmentReferencesCardSaid : Prop := Claim7.holds Tryz.pinned (.plain (OpenSpec.ofChange segmentReferencesSpec)) segmentReferencesCard

/-- THE TIED CARD OF 'flagstonelaw12.SegmentMembers'. -/
def segmentMembersCard : Claim7 := { stood := { row := segmentMembersRow, standIns := [], harness := (true, "534e6ec82b2b84e102b60f8ac0ff233501140fa51c70b722300eb8e9ce0f4ee8"), looks := true }, kinds := [], alts := [], laidByText := true, laidKinds := [.data, .data, .data, .data, .data, .data, .widerDeep, .sentinel, .sentinel, .pinned], laidTests := true, laidLooks := .later }
def SegmentMembersCardSaid : Prop := Claim7.holds Tryz.pinned (.plain (OpenSpec.ofChange segmentMembersSpec)) segmentMembersCard

/-- THE TIED CARD OF 'flagstonelaw12.SegmentLists'. -/
def segmentListsCard : Claim7 := { stood := { row := segmentListsRow, standIns := [], harness := (true, "534e6ec82b2b84e102b60f8ac0ff233501140fa51c70b722300eb8e9ce0f4ee8"), looks := true }, kinds := [], alts := [], laidByText := true, laidKinds := [.data, .data, .data, .data, .data, .data, .widerDeep, .sentinel, .sentinel, .pinned], laidTests := true, laidLooks := .later }
def SegmentListsCardSaid : Prop := Claim7.holds Tryz.pinned (.plain (OpenSpec.ofChange segmentListsSpec)) segmentListsCard

/-- THE TIED CARD OF 'flagstonelaw12.SegmentOrders'. -/
def segmentOrdersCard : Claim7 := { stood := { row := segmentOrdersRow, standIns := [], harness := (true, "534e6ec82b2b84e102b60f8ac0ff233501140fa51c70b722300eb8e9ce0f4ee8"), looks := true }, kinds := [], alts := [], laidByText := true, laidKinds := [.data, .data, .data, .data, .data, .data, .widerDeep, .sentinel, .sentinel, .pinned], laidTests := true, laidLooks := .later }
def SegmentOrdersCardSaid : Prop := Claim7.holds Tryz.pinned (.plain (OpenSpec.ofChange segmentOrdersSpec)) segmentOrdersCard

/-- THE TIED CARD OF 'flagstonelaw12.SegmentUnfolds'. -/
def segmentUnfoldsCard : Claim7 := { stood := { row := segmentUnfoldsRow, standIns := [], harness := (true, "534e6ec82b2b84e102b60f8ac0ff233501140fa51c70b722300eb8e9ce0f4ee8"), looks := true }, kinds := [], alts := [], laidByText := true, laidKinds := [.data, .data, .data, .data, .data, .data, .widerDeep, .sentinel, .sentinel, .pinned], laidTests := true, laidLooks := .later }
def SegmentUnfoldsCardSaid : Prop := Claim7.holds Tryz.pinned (.plain (OpenSpec.ofChange segmentUnfoldsSpec)) segmentUnfoldsCard

/-- THE SECOND FORM's CARD OF 'flagstonelaw12.SegmentReferences'. -/
def segmentReferencesUptoCard : Claim7 := { stood := { row := segmentReferencesUptoRow, standIns := [], harness := (true, "534e6ec82b2b84e102b60f8ac0ff233501140fa51c70b722300eb8e9ce0f4ee8"), looks := true }, kinds := [], alts := [], laidByText := true, laidKinds := [.data, .data, .data, .data, .data, .data, .widerDeep, .sentinel, .sentinel, .pinned], laidTests := true, laidLooks := .later }
def SegmentReferencesUptoCardSaid : Prop := Claim7.holds Tryz.pinned (.plain (OpenSpec.upto segmentReferencesSpec)) segmentReferencesUptoCard

/-- THE SECOND FORM's CARD OF 'flagstonelaw12.SegmentMembers'. -/
def segmentMembersUptoCard : Claim7 := { stood := { row := segmentMembersUptoRow, standIns := [], harness := (true, "534e6ec82b2b84e102b60f8ac0ff233501140fa51c70b722300eb8e9ce0f4ee8"), looks := true }, kinds := [], alts := [], laidByText := true, laidKinds := [.data, .data, .data, .data, .data, .data, .widerDeep, .sentinel, .sentinel, .pinned], laidTests := true, laidLooks := .later }
def SegmentMembersUptoCardSaid : Prop := Claim7.holds Tryz.pinned (.plain (OpenSpec.upto segmentMembersSpec)) segmentMembersUptoCard

/-- THE SECOND FORM's CARD OF 'flagstonelaw12.SegmentLists'. -/
def segmentListsUptoCard : Claim7 := { stood := { row := segmentListsUptoRow, standIns := [], harness := (true, "534e6ec82b2b84e102b60f8ac0ff233501140fa51c70b722300eb8e9ce0f4ee8"), looks := true }, kinds := [], alts := [], laidByText := true, laidKinds := [.data, .data, .data, .data, .data, .data, .widerDeep, .sentinel, .sentinel, .pinned], laidTests := true, laidLooks := .later }
def SegmentListsUptoCardSaid : Prop := Claim7.holds Tryz.pinned (.plain (OpenSpec.upto segmentListsSpec)) segmentListsUptoCard

/-- THE SECOND FORM's CARD OF 'flagstonelaw12.SegmentOrders'. -/
def segmentOrdersUptoCard : Claim7 := { stood := { row := segmentOrdersUptoRow, standIns := [], harness := (true, "534e6ec82b2b84e102b60f8ac0ff233501140fa51c70b722300eb8e9ce0f4ee8"), looks := true }, kinds := [], alts := [], laidByText := true, laidKinds := [.data, .data, .data, .data, .data, .data, .widerDeep, .sentinel, .sentinel, .pinned], laidTests := true, laidLooks := .later }
def SegmentOrdersUptoCardSaid : Prop := Claim7.holds Tryz.pinned (.plain (OpenSpec.upto segmentOrdersSpec)) segmentOrdersUptoCard

/-- THE SECOND FORM's CARD OF 'flagstonelaw12.SegmentUnfolds'. -/
def segmentUnfoldsUptoCard : Claim7 := { stood := { row := segmentUnfoldsUptoRow, standIns := [], harness := (true, "534e6ec82b2b84e102b60f8ac0ff233501140fa51c70b722300eb8e9ce0f4ee8"), looks := true }, kinds := [], alts := [], laidByText := true, laidKinds := [.data, .data, .data, .data, .data, .data, .widerDeep, .sentinel, .sentinel, .pinned], laidTests := true, laidLooks := .later }
def SegmentUnfoldsUptoCardSaid : Prop := Claim7.holds Tryz.pinned (.plain (OpenSpec.upto segmentUnfoldsSpec)) segmentUnfoldsUptoCard
end Rows
end Go.Proofs.YtbdnigendhhndaaGreatDoor
