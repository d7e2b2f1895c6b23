/- A part of the proofs of this seat's laws (abstract interpretation of the translated program, and contracts of its functions); no statement of its own. -/
import Derived.Test.YtbdnigendhhndaaGreatDoorCards
import Derived.Test.YtbdnigendhhndaaGreatDoorTie
import Derived.Deep.DeepHandedRow
import Derived.Deep.DeepWitnessRowRef
import Derived.Deep.DeepLaidRun
import Derived.Shelf.Vars
import Derived.SevenTiedAt
import Derived.Test.YtbdnigendhhndaaGreatDoorPa
import Derived.Test.YtbdnigendhhndaaGreatDoorBa
import Derived.Test.YtbdnigendhhndaaGreatDoorFc
set_option linter.unusedVariables false
set_option linter.unusedSimpArgs false
section
/- What the row gives of the variables and of an argument. -/
namespace Go.Proofs.YtbdnigendhhndaaGreatDoor
open Go Go.Ev Go.ChangeShapes Go.WideShapes Go.ChangeAt Go.RowKit
set_option maxRecDepth 100000

theorem own_knob : ownKnob Tryz.prog.godebug = none := by kernel_rfl
theorem laid_out : laidOutB Tryz.prog = true := by kernel_rfl
def laidL : List (String × DataW Unit) := [("math/bits.deBruijn32tab", Rows.laid_math_bits_deBruijn32tab), ("math/bits.deBruijn64tab", Rows.laid_math_bits_deBruijn64tab), ("internal/strconv.uint64pow10", Rows.laid_internal_strconv_uint64pow10), ("unicode/utf8.acceptRanges", Rows.laid_unicode_utf8_acceptRanges), ("flagstone/flagstonedraw.texts", Rows.laid_flagstone_flagstonedraw_texts), ("flagstone/flagstonedraw.versions", Rows.laid_flagstone_flagstonedraw_versions), ("flagstone/flagstonedraw.lists", Rows.laid_flagstone_flagstonedraw_lists), ("strconv.ErrRange", Rows.laid_strconv_ErrRange), ("strconv.ErrSyntax", Rows.laid_strconv_ErrSyntax), ("unicode/utf8.first", Rows.laid_unicode_utf8_first)]
def plainTypes : List TypeId := [22, 5, 133, 9, 168, 169, 30, 279, 282, 281]
theorem plain_ok : plainB Tryz.prog plainTypes = true := by kernel_rfl
theorem globs_of {W : World} (h : laidMet Tryz.prog laidL W) : ∀ g cs, cx.glob g = some cs → GlobIs W g cs := by
  intro g cs hg
  change globs g = some cs at hg
  unfold globs at hg
  cases h0 : Nat.beq g 0 with
  | true =>
    rw [h0] at hg
    cases hg
    rw [Nat.eq_of_beq_eq_true h0]
    exact glob_of plain_ok h (.tail _ (.tail _ (.tail _ (.tail _ (.head _))))) (by kernel_rfl) (t := 133) (by kernel_rfl) (by decide)
  | false =>
    rw [h0] at hg
    simp only [cond_false] at hg
    cases h1 : Nat.beq g 1 with
    | true =>
      rw [h1] at hg
      cases hg
      rw [Nat.eq_of_beq_eq_true h1]
      exact glob_of plain_ok h (.tail _ (.tail _ (.tail _ (.tail _ (.tail _ (.head _)))))) (by kernel_rfl) (t := 168) (by kernel_rfl) (by decide)
    | false =>
      rw [h1] at hg
      simp only [cond_false] at hg
      cases h2 : Nat.beq g 2 with
      | true =>
        rw [h2] at hg
        cases hg
        rw [Nat.eq_of_beq_eq_true h2]
        exact glob_of plain_ok h (.tail _ (.tail _ (.tail _ (.tail _ (.tail _ (.tail _ (.head _))))))) (by kernel_rfl) (t := 169) (by kernel_rfl) (by decide)
      | false =>
        rw [h2] at hg
        simp only [cond_false] at hg
        cases h3 : Nat.beq g 3 with
        | true =>
          rw [h3] at hg
          cases hg
          rw [Nat.eq_of_beq_eq_true h3]
          exact glob_of plain_ok h (.tail _ (.tail _ (.tail _ (.tail _ (.tail _ (.tail _ (.tail _ (.tail _ (.tail _ (.head _)))))))))) (by kernel_rfl) (t := 279) (by kernel_rfl) (by decide)
        | false =>
          rw [h3] at hg
          simp only [cond_false] at hg
          cases h4 : Nat.beq g 4 with
          | true =>
            rw [h4] at hg
            cases hg
            rw [Nat.eq_of_beq_eq_true h4]
            exact glob_of plain_ok h (.tail _ (.tail _ (.tail _ (.head _)))) (by kernel_rfl) (t := 282) (by kernel_rfl) (by decide)
          | false =>
            rw [h4] at hg
            cases hg
theorem gi_of {W : World} (h : W.ShapedOpen Tryz.prog) : GI cx (I0 W) W := by
  intro g hg
  have : g = 5 := by simpa [cx] using hg
  subst this
  obtain ⟨m, hm⟩ := Go.Proofs.cell_of_shapedOpen_int (P := Tryz.prog) (g := 5) (t := 3) (zero := #[.int .i64 0]) (k := .i64) h (of_decide_eq_true (by kernel_rfl)) (by kernel_rfl) rfl (by kernel_rfl) (by kernel_rfl) Tryz.underlying3
  exact ⟨(Go.Ev.cell?_spot hm).2, m, hm⟩

/-- A []uint8 that came in. -/
theorem wf_u8s {d : List PV} (h : Wf Tryz.prog 22 d) : ∃ l : List Int, d = [.sl (u8s l)] ∧ ∀ b ∈ l, 0 ≤ b ∧ b ≤ 255 := by
  have key : ∀ es : List (List PV), (∀ r ∈ es, Wf Tryz.prog 5 r) → ∃ l : List Int, es = u8s l ∧ ∀ b ∈ l, 0 ≤ b ∧ b ≤ 255 := by
    intro es
    induction es with
    | nil => exact fun _ => ⟨[], rfl, by simp⟩
    | cons r t ih =>
      intro hr
      obtain ⟨l, hl, hb⟩ := ih fun x hx => hr x (by simp [hx])
      have h5 := hr r (by simp)
      cases h5 with
      | int hu n hw =>
        rw [Tryz.underlying5] at hu
        cases hu
        refine ⟨n :: l, by simp [u8s, hl], ?_⟩
        intro b hb'
        rcases List.mem_cons.1 hb' with rfl | hb'
        · simp only [Lit.wf, decide_eq_true_eq, IntKind.min, IntKind.max, IntKind.signed, IntKind.bits] at hw
          simp at hw
          omega
        · exact hb b hb'
      | bool hu b => rw [Tryz.underlying5] at hu; cases hu
      | str hu s hs => rw [Tryz.underlying5] at hu; cases hu
      | slice hu es hl hz hr => rw [Tryz.underlying5] at hu; cases hu
      | arr hu ps hl hz hr => rw [Tryz.underlying5] at hu; cases hu
      | struct hu ps hl hz hr => rw [Tryz.underlying5] at hu; cases hu
  cases h with
  | slice hu es hl hz hr =>
    rw [Tryz.underlying22] at hu
    cases hu
    obtain ⟨l, rfl, hb⟩ := key es hr
    exact ⟨l, rfl, hb⟩
  | bool hu b => rw [Tryz.underlying22] at hu; cases hu
  | int hu n hw => rw [Tryz.underlying22] at hu; cases hu
  | str hu s hs => rw [Tryz.underlying22] at hu; cases hu
  | arr hu ps hl hz hr => rw [Tryz.underlying22] at hu; cases hu
  | struct hu ps hl hz hr => rw [Tryz.underlying22] at hu; cases hu
/-- A []string that came in. -/
theorem wf_strs {d : List PV} (h : Wf Tryz.prog 30 d) : ∃ l : List ByteArray, d = [.sl (strs l)] := by
  have key : ∀ es : List (List PV), (∀ r ∈ es, Wf Tryz.prog 9 r) → ∃ l : List ByteArray, es = strs l := by
    intro es
    induction es with
    | nil => exact fun _ => ⟨[], rfl⟩
    | cons r t ih =>
      intro hr
      obtain ⟨l, hl⟩ := ih fun x hx => hr x (by simp [hx])
      have h5 := hr r (by simp)
      cases h5 with
      | str hu s hs => exact ⟨s :: l, by simp [strs, hl]⟩
      | int hu n hw => rw [Tryz.underlying9] at hu; cases hu
      | bool hu b => rw [Tryz.underlying9] at hu; cases hu
      | slice hu es hl hz hr => rw [Tryz.underlying9] at hu; cases hu
      | arr hu ps hl hz hr => rw [Tryz.underlying9] at hu; cases hu
      | struct hu ps hl hz hr => rw [Tryz.underlying9] at hu; cases hu
  cases h with
  | slice hu es hl hz hr =>
    rw [Tryz.underlying30] at hu
    cases hu
    obtain ⟨l, rfl⟩ := key es hr
    exact ⟨l, rfl⟩
  | bool hu b => rw [Tryz.underlying30] at hu; cases hu
  | int hu n hw => rw [Tryz.underlying30] at hu; cases hu
  | str hu s hs => rw [Tryz.underlying30] at hu; cases hu
  | arr hu ps hl hz hr => rw [Tryz.underlying30] at hu; cases hu
  | struct hu ps hl hz hr => rw [Tryz.underlying30] at hu; cases hu
theorem agg30 : aggOf Tryz.prog 30 = false := by unfold aggOf; rw [Tryz.underlying30]
theorem agg22 : aggOf Tryz.prog 22 = false := by unfold aggOf; rw [Tryz.underlying22]

end Go.Proofs.YtbdnigendhhndaaGreatDoor
end
