/- A part of the proofs of this seat's laws (abstract interpretation of the translated program, and contracts of its functions); no statement of its own. -/
import Derived.Test.YtbdnigendhhndaaGreatDoorCb
import Derived.Test.YtbdnigendhhndaaGreatDoorLb
set_option linter.unusedVariables false
set_option linter.unusedSimpArgs false
section
/- The witness of SegmentLists. -/
namespace Go.Proofs.YtbdnigendhhndaaGreatDoor
open Go Go.Ev Go.ChangeShapes Go.WideShapes Go.ChangeAt Go.RowKit
set_option maxRecDepth 100000

abbrev lists_args : Array Value := #[.slice none 0 0, .slice none 0 0, .slice none 0 0, .slice none 0 0]
theorem lists_reads (os : Os) {H : Type} (enc : TypeId × Value → H) : ∃ places, DataW.whole enc Tryz.prog ((laidWorld os).forCall (fun _ _ => 0) ⟨#[], lists_args, []⟩).memory Tryz.f5.params.toList Rows.segmentListsSpec.vars false lists_args.toList 8 = some ([.nil, .nil, .nil, .nil], [], places) :=
  ⟨[], by kernel_rfl⟩
theorem lists_vars (os : Os) : ((laidWorld os).forCall (fun _ _ => 0) ⟨#[], lists_args, []⟩).variablesRefB Tryz.checked.prog = true := by kernel_rfl
theorem lists_okw (os : Os) : Input.okWideB Tryz.checked.prog ((laidWorld os).forCall (fun _ _ => 0) ⟨#[], lists_args, []⟩) 5 ⟨#[], lists_args, []⟩ = true := by kernel_rfl
end Go.Proofs.YtbdnigendhhndaaGreatDoor
end
section
/- SegmentLists: the contract, lifted. -/
namespace Go.Proofs.YtbdnigendhhndaaGreatDoor
open Go Go.Ev Go.ChangeShapes Go.WideShapes Go.ChangeAt Go.RowKit
set_option maxRecDepth 100000

theorem lists_contract (H : Type) (enc : TypeId × Value → H) (W : World) (base : Nat) (args : Array Value) (ds gs : List (DataW H)) (before : List MemPlace)
    (hval : ∀ (j : Nat) t v, Tryz.f5.params[j]? = some t → args[j]? = some v → Value.okWide Tryz.prog W .any base t v)
    (hW : DataW.Whole enc Tryz.prog Tryz.f5.params.toList Rows.segmentListsSpec.vars false W args.toList ds gs before) (hL : laidMetH Tryz.prog Rows.segmentListsRow.laid W) (hsh : W.ShapedOpen Tryz.prog) :
    Calls Tryz.prog 5 args W fun e W' => ∃ v, e = .returned v ∧ Rows.segmentListsSpec.post enc Tryz.prog Tryz.f5 false true false false W args v W' := by
  have hL' : laidMet Tryz.prog laidL W := hL
  have hW' := hW
  obtain ⟨p, q, hA, hV, rfl, hz, hn⟩ := hW'
  obtain ⟨rfl, rfl⟩ := trodVars_none hV
  have hps : Tryz.f5.params.toList = [22, 22, 30, 30] := by rw [Tryz.params5]
  have hA2 := hA
  rw [hps] at hA2
  have hds : ∃ d1 d2 d3 d4, ds = [d1, d2, d3, d4] := by
    obtain ⟨v1, vs1, d1, ds1, a1, e1, _, rfl, _, _, h1⟩ := trodAll_cons hA2
    obtain ⟨v2, vs2, d2, ds2, a2, e2, _, rfl, _, _, h2⟩ := trodAll_cons h1
    obtain ⟨v3, vs3, d3, ds3, a3, e3, _, rfl, _, _, h3⟩ := trodAll_cons h2
    obtain ⟨v4, vs4, d4, ds4, a4, e4, _, rfl, _, _, h4⟩ := trodAll_cons h3
    obtain ⟨_, rfl, _⟩ := trodAll_nil h4
    exact ⟨d1, d2, d3, d4, rfl⟩
  refine (law_calls (cx := cx) cx_ok cx_prim (by kernel_rfl) plain_ok dBulk_ok (ts := [22, 22, 30, 30]) (by decide) (base := base) (fun j t v h1 h2 => hval j t v (by rw [Tryz.params5]; simpa using h1) h2) hA2 (globs_of hL') (gi_of hsh) ?_).mono fun e W' he => ?_
  · intro hwf _
    obtain ⟨d1, d2, d3, d4, rfl⟩ := hds
    simp only [List.map_cons, List.map_nil] at hwf ⊢
    cases hwf with
    | cons g1 k1 =>
      cases k1 with
      | cons g2 k2 =>
        cases k2 with
        | cons g3 k3 =>
          cases k3 with
          | cons g4 k4 =>
            obtain ⟨l1, e1, b1⟩ := wf_u8s g1
            obtain ⟨l2, e2, b2⟩ := wf_u8s g2
            obtain ⟨l3, e3⟩ := wf_strs g3
            obtain ⟨l4, e4⟩ := wf_strs g4
            rw [e1, e2, e3, e4]
            have : argAVs cx.P [22, 22, 30, 30] [[.sl (u8s l1)], [.sl (u8s l2)], [.sl (strs l3)], [.sl (strs l4)]] = [sl (u8s l1), sl (u8s l2), sl (strs l3), sl (strs l4)] := by
              simp only [argAVs, List.zipWith_cons_cons, List.zipWith_nil_right]
              rw [show aggOf cx.P 22 = false from agg22, show aggOf cx.P 30 = false from agg30]
              rfl
            rw [this]
            exact law5 l1 l2 b1 b2 l3 l4
  · obtain ⟨he, hb⟩ := he
    subst he
    refine ⟨_, rfl, law_post (tb := 4) hW hb laid_out ?_ (by kernel_rfl) Tryz.underlying4 rfl ?_⟩
    · rw [hps]
      intro t ht
      simp only [List.mem_cons, List.not_mem_nil, or_false] at ht
      rcases ht with rfl | rfl | rfl | rfl <;> exact ⟨by kernel_rfl, of_decide_eq_true (by kernel_rfl)⟩
    · obtain ⟨d1, d2, d3, d4, rfl⟩ := hds
      rfl
theorem lists_lifted (os : Os) (started : os.Started) (H : Type) (enc : TypeId × Value → H) (F : Stop.Interp) :
    ReturnsInHanded {} Tryz.checked os 5 .any ((OpenSpec.ofChange Rows.segmentListsSpec).preRow enc Tryz.prog Tryz.f5 Rows.segmentListsRow.domain false Rows.segmentListsRow.laid) (((OpenSpec.ofChange Rows.segmentListsSpec).at F).post enc Tryz.prog Tryz.f5 false true false false) := by
  obtain ⟨places, hx⟩ := lists_reads os enc
  refine returnsInHanded_of_row (C := Tryz.checked) (s := OpenSpec.ofChange Rows.segmentListsSpec) own_knob started (by kernel_rfl) Tryz.func5
    (witness_row_atRef (enc := enc) (C := Tryz.checked) false (laidWorld os) lists_args rfl (lists_vars os) (by kernel_rfl) (lists_okw os)
      (OpenSpec.preRow_of_cond 8 hx (by kernel_rfl) (fun k hk => by cases hk) (by kernel_rfl) (laid_met os _))) ?_
  intro W base args ds gs before hval hW _ _ _ hL hsh _
  exact lists_contract H enc W base args ds gs before hval hW hL hsh
end Go.Proofs.YtbdnigendhhndaaGreatDoor
end
