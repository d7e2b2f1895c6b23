/- A part of the proofs of this seat's laws (abstract interpretation of the translated program, and contracts of its functions); no statement of its own. -/
import Derived.Test.YtbdnigendhhndaaGreatDoorCb
import Derived.Test.YtbdnigendhhndaaGreatDoorUa
set_option linter.unusedVariables false
set_option linter.unusedSimpArgs false
section
/- The witness of SegmentUnfolds. -/
namespace Go.Proofs.YtbdnigendhhndaaGreatDoor
open Go Go.Ev Go.ChangeShapes Go.WideShapes Go.ChangeAt Go.RowKit
set_option maxRecDepth 100000

abbrev nil2 : Array Value := #[.slice none 0 0, .slice none 0 0]
theorem unf_reads (os : Os) {H : Type} (enc : TypeId × Value → H) : ∃ places, DataW.whole enc Tryz.prog ((laidWorld os).forCall (fun _ _ => 0) ⟨#[], nil2, []⟩).memory Tryz.f7.params.toList Rows.segmentUnfoldsSpec.vars false nil2.toList 8 = some ([.nil, .nil], [], places) :=
  ⟨[], by kernel_rfl⟩
theorem unf_vars (os : Os) : ((laidWorld os).forCall (fun _ _ => 0) ⟨#[], nil2, []⟩).variablesRefB Tryz.checked.prog = true := by kernel_rfl
theorem unf_okw (os : Os) : Input.okWideB Tryz.checked.prog ((laidWorld os).forCall (fun _ _ => 0) ⟨#[], nil2, []⟩) 7 ⟨#[], nil2, []⟩ = true := by kernel_rfl
end Go.Proofs.YtbdnigendhhndaaGreatDoor
end
section
/- SegmentUnfolds: the row and the card. -/
namespace Go.Proofs.YtbdnigendhhndaaGreatDoor
open Go Go.Ev Go.ChangeShapes Go.WideShapes Go.ChangeAt Go.RowKit
set_option maxRecDepth 100000

theorem unf_contract (H : Type) (enc : TypeId × Value → H) (W : World) (base : Nat) (args : Array Value) (ds gs : List (DataW H)) (before : List MemPlace)
    (hval : ∀ (j : Nat) t v, Tryz.f7.params[j]? = some t → args[j]? = some v → Value.okWide Tryz.prog W .any base t v)
    (hW : DataW.Whole enc Tryz.prog Tryz.f7.params.toList Rows.segmentUnfoldsSpec.vars false W args.toList ds gs before) (hL : laidMetH Tryz.prog Rows.segmentUnfoldsRow.laid W) (hsh : W.ShapedOpen Tryz.prog) :
    Calls Tryz.prog 7 args W fun e W' => ∃ v, e = .returned v ∧ Rows.segmentUnfoldsSpec.post enc Tryz.prog Tryz.f7 false true false false W args v W' := by
  have hL' : laidMet Tryz.prog laidL W := hL
  have hW' := hW
  obtain ⟨p, q, hA, hV, rfl, hz, hn⟩ := hW'
  obtain ⟨rfl, rfl⟩ := trodVars_none hV
  have hps : Tryz.f7.params.toList = [22, 22] := by rw [Tryz.params7]
  have hA2 := hA
  rw [hps] at hA2
  have hds : ∃ d1 d2, ds = [d1, d2] := by
    obtain ⟨v1, vs1, d1, ds1, a, b, _, rfl, _, _, h2⟩ := trodAll_cons hA2
    obtain ⟨v2, vs2, d2, ds2, a2, b2, _, rfl, _, _, h3⟩ := trodAll_cons h2
    obtain ⟨_, rfl, _⟩ := trodAll_nil h3
    exact ⟨d1, d2, rfl⟩
  refine (law_calls (cx := cx) cx_ok cx_prim (by kernel_rfl) plain_ok dBulk_ok (ts := [22, 22]) (by decide) (base := base) (fun j t v h1 h2 => hval j t v (by rw [Tryz.params7]; simpa using h1) h2) hA2 (globs_of hL') (gi_of hsh) ?_).mono fun e W' he => ?_
  · intro hwf _
    obtain ⟨d1, d2, rfl⟩ := hds
    simp only [List.map_cons, List.map_nil] at hwf ⊢
    cases hwf with
    | cons h1 h2 => cases h2 with
      | cons h2 h3 =>
        obtain ⟨l1, e1, b1⟩ := wf_u8s h1
        obtain ⟨l2, e2, b2⟩ := wf_u8s h2
        rw [e1, e2]
        have : argAVs cx.P [22, 22] [[.sl (u8s l1)], [.sl (u8s l2)]] = [sl (u8s l1), sl (u8s l2)] := by
          simp only [argAVs, List.zipWith_cons_cons, List.zipWith_nil_right]
          rw [show aggOf cx.P 22 = false from agg22]
          rfl
        rw [this]
        exact law7 l1 l2 b1 b2
  · obtain ⟨he, hb⟩ := he
    subst he
    refine ⟨_, rfl, law_post (tb := 4) hW hb laid_out ?_ (by kernel_rfl) Tryz.underlying4 rfl ?_⟩
    · rw [hps]
      intro t ht
      have : t = 22 := by simpa using ht
      subst this
      exact ⟨by kernel_rfl, of_decide_eq_true (by kernel_rfl)⟩
    · obtain ⟨d1, d2, rfl⟩ := hds
      rfl

theorem unf_lifted (os : Os) (started : os.Started) (H : Type) (enc : TypeId × Value → H) (F : Stop.Interp) :
    ReturnsInHanded {} Tryz.checked os 7 .any ((OpenSpec.ofChange Rows.segmentUnfoldsSpec).preRow enc Tryz.prog Tryz.f7 Rows.segmentUnfoldsRow.domain false Rows.segmentUnfoldsRow.laid) (((OpenSpec.ofChange Rows.segmentUnfoldsSpec).at F).post enc Tryz.prog Tryz.f7 false true false false) := by
  obtain ⟨places, hx⟩ := unf_reads os enc
  refine returnsInHanded_of_row (C := Tryz.checked) (s := OpenSpec.ofChange Rows.segmentUnfoldsSpec) own_knob started (by kernel_rfl) Tryz.func7
    (witness_row_atRef (enc := enc) (C := Tryz.checked) false (laidWorld os) nil2 rfl (unf_vars os) (by kernel_rfl) (unf_okw os)
      (OpenSpec.preRow_of_cond 8 hx (by kernel_rfl) (fun k hk => by cases hk) (by kernel_rfl) (laid_met os _))) ?_
  intro W base args ds gs before hval hW _ _ _ hL hsh _
  exact unf_contract H enc W base args ds gs before hval hW hL hsh
end Go.Proofs.YtbdnigendhhndaaGreatDoor
end
