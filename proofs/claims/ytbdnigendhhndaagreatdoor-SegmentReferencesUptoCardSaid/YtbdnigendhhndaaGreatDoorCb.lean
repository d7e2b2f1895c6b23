/- A part of the proofs of this seat's laws (abstract interpretation of the translated program, and contracts of its functions); no statement of its own. -/
import Derived.Test.YtbdnigendhhndaaGreatDoorCa
set_option linter.unusedVariables false
set_option linter.unusedSimpArgs false
section
/- A world that holds the listed variables. -/
namespace Go.Proofs.YtbdnigendhhndaaGreatDoor
open Go Go.Ev Go.ChangeShapes Go.WideShapes Go.ChangeAt Go.RowKit
set_option maxRecDepth 100000

noncomputable def laidWorld (os : Os) : World :=
  let N := (World.settled Tryz.prog os).heap.size
  let w0 := World.holding Tryz.prog os ⟨#[.cells #[.string ⟨#[112, 114, 111]⟩] 9, .cells #[.string ⟨#[100, 101]⟩, .string ⟨#[115, 101]⟩] 9, .cells #[.string ⟨#[]⟩, .string ⟨#[102, 114, 101, 101]⟩, .string ⟨#[117, 115]⟩] 9, .cells #[.string ⟨#[120, 32, 121]⟩] 9,
    .cells #[.string ⟨#[118, 97, 108, 117, 101, 32, 111, 117, 116, 32, 111, 102, 32, 114, 97, 110, 103, 101]⟩] 315, .cells #[.string ⟨#[105, 110, 118, 97, 108, 105, 100, 32, 115, 121, 110, 116, 97, 120]⟩] 315], #[], []⟩
  let put (h : Array Obj) (g : Nat) (cs : List Value) : Array Obj := h.modify g fun
    | .cells _ t frozen => .cells cs.toArray t frozen
    | o => o
  let lits (d : DataW Unit) : List Value := (datRow d).map fun
    | .s x => x
    | _ => undef
  let h := put w0.heap 0 (lits Rows.laid_flagstone_flagstonedraw_texts)
  let h := put h 1 (lits Rows.laid_flagstone_flagstonedraw_versions)
  let h := put h 2 [.slice (some ⟨N, 0, none⟩) 0 0, .slice (some ⟨N, 0, none⟩) 1 1, .slice (some ⟨N + 1, 0, none⟩) 2 2, .slice (some ⟨N + 2, 0, none⟩) 3 3, .slice (some ⟨N + 3, 0, none⟩) 1 1]
  let h := put h 3 (lits Rows.laid_unicode_utf8_first)
  let h := put h 4 (lits Rows.laid_unicode_utf8_acceptRanges)
  let h := put h 6 [.iface 313 (.pointer (some ⟨N + 5, 0, none⟩))]
  let h := put h 7 [.iface 313 (.pointer (some ⟨N + 4, 0, none⟩))]
  let h := put h 8 (lits Rows.laid_internal_strconv_uint64pow10)
  let h := put h 9 (lits Rows.laid_math_bits_deBruijn32tab)
  let h := put h 10 (lits Rows.laid_math_bits_deBruijn64tab)
  { w0 with heap := h }
theorem laid_met (os : Os) (args : Array Value) : laidMet Tryz.prog laidL ((laidWorld os).forCall (fun _ _ => 0) ⟨#[], args, []⟩).memory :=
  laidMet_of_run3 10 (by kernel_rfl) (by kernel_rfl) (by kernel_rfl)
end Go.Proofs.YtbdnigendhhndaaGreatDoor
end
