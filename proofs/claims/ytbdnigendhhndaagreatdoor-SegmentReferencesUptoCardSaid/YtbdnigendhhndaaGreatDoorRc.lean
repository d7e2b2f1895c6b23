/- A part of the proofs of this seat's laws (abstract interpretation of the translated program, and contracts of its functions); no statement of its own. -/
import Derived.Test.YtbdnigendhhndaaGreatDoorCa
import Derived.Test.YtbdnigendhhndaaGreatDoorFc
import Derived.Test.YtbdnigendhhndaaGreatDoorCb
import Derived.Test.YtbdnigendhhndaaGreatDoorRb
set_option linter.unusedVariables false
set_option linter.unusedSimpArgs false
section
/- A condition that came in. -/
namespace Go.Proofs.YtbdnigendhhndaaGreatDoor
open Go Go.Ev
set_option maxRecDepth 100000

theorem wf_int3 {d : List PV} (h : Wf Tryz.prog 3 d) : ∃ n : Int, d = [pI n] := by
  cases h with
  | int hu n hw => rw [Tryz.underlying3] at hu; cases hu; exact ⟨n, rfl⟩
  | bool hu b => rw [Tryz.underlying3] at hu; cases hu
  | str hu s hs => rw [Tryz.underlying3] at hu; cases hu
  | slice hu es hl hz hr => rw [Tryz.underlying3] at hu; cases hu
  | arr hu ps hl hz hr => rw [Tryz.underlying3] at hu; cases hu
  | struct hu ps hl hz hr => rw [Tryz.underlying3] at hu; cases hu
theorem wf_str9 {d : List PV} (h : Wf Tryz.prog 9 d) : ∃ s : ByteArray, d = [pS s] := by
  cases h with
  | str hu s hs => exact ⟨s, rfl⟩
  | int hu n hw => rw [Tryz.underlying9] at hu; cases hu
  | bool hu b => rw [Tryz.underlying9] at hu; cases hu
  | slice hu es hl hz hr => rw [Tryz.underlying9] at hu; cases hu
  | arr hu ps hl hz hr => rw [Tryz.underlying9] at hu; cases hu
  | struct hu ps hl hz hr => rw [Tryz.underlying9] at hu; cases hu
theorem four {α : Type} {l : List α} (h : l.length = 4) : ∃ a b c d, l = [a, b, c, d] := by
  match l, h with
  | [a, b, c, d], _ => exact ⟨a, b, c, d, rfl⟩
theorem five {α : Type} {l : List α} (h : l.length = 5) : ∃ a b c d e, l = [a, b, c, d, e] := by
  match l, h with
  | [a, b, c, d, e], _ => exact ⟨a, b, c, d, e, rfl⟩
theorem wf_val {d : List PV} (h : Wf Tryz.prog 112 d) : ∃ v : Val, d = v.row := by
  cases h with
  | struct hu ps hl hz hr =>
    rw [Tryz.underlying112] at hu
    cases hu
    obtain ⟨a, b, c, d, rfl⟩ := four hl
    obtain ⟨n, rfl⟩ := wf_int3 (hr 0 _ _ rfl rfl)
    obtain ⟨m, rfl⟩ := wf_int3 (hr 1 _ _ rfl rfl)
    obtain ⟨s, rfl⟩ := wf_str9 (hr 2 _ _ rfl rfl)
    obtain ⟨l, rfl⟩ := wf_strs (hr 3 _ _ rfl rfl)
    exact ⟨⟨n, m, s, l⟩, rfl⟩
  | str hu s hs => rw [Tryz.underlying112] at hu; cases hu
  | int hu n hw => rw [Tryz.underlying112] at hu; cases hu
  | bool hu b => rw [Tryz.underlying112] at hu; cases hu
  | slice hu es hl hz hr => rw [Tryz.underlying112] at hu; cases hu
  | arr hu ps hl hz hr => rw [Tryz.underlying112] at hu; cases hu
theorem all_rows {α : Type} {f : α → List PV} {Q : List PV → Prop} (hq : ∀ r, Q r → ∃ x, r = f x) : ∀ es : List (List PV), (∀ r ∈ es, Q r) → ∃ l : List α, es = l.map f
  | [], _ => ⟨[], rfl⟩
  | r :: t, h => by
    obtain ⟨x, rfl⟩ := hq r (h r (by simp))
    obtain ⟨l, rfl⟩ := all_rows hq t fun x hx => h x (by simp [hx])
    exact ⟨x :: l, rfl⟩
theorem wf_vals {d : List PV} (h : Wf Tryz.prog 23 d) : ∃ l : List Val, d = [.sl (l.map Val.row)] := by
  cases h with
  | slice hu es hl hz hr =>
    rw [Tryz.underlying23] at hu
    cases hu
    obtain ⟨l, rfl⟩ := all_rows (f := Val.row) (fun r h => wf_val h) es hr
    exact ⟨l, rfl⟩
  | str hu s hs => rw [Tryz.underlying23] at hu; cases hu
  | int hu n hw => rw [Tryz.underlying23] at hu; cases hu
  | bool hu b => rw [Tryz.underlying23] at hu; cases hu
  | arr hu ps hl hz hr => rw [Tryz.underlying23] at hu; cases hu
  | struct hu ps hl hz hr => rw [Tryz.underlying23] at hu; cases hu
theorem wf_kids {d : List PV} (h : Wf Tryz.prog 24 d) : ∃ es, d = [.sl es] ∧ ∀ r ∈ es, Wf Tryz.prog 26 r := by
  cases h with
  | slice hu es hl hz hr =>
    rw [Tryz.underlying24] at hu
    cases hu
    exact ⟨es, rfl, hr⟩
  | str hu s hs => rw [Tryz.underlying24] at hu; cases hu
  | int hu n hw => rw [Tryz.underlying24] at hu; cases hu
  | bool hu b => rw [Tryz.underlying24] at hu; cases hu
  | arr hu ps hl hz hr => rw [Tryz.underlying24] at hu; cases hu
  | struct hu ps hl hz hr => rw [Tryz.underlying24] at hu; cases hu
theorem bulk_mem {r : List PV} : ∀ {es : List (List PV)}, r ∈ es → rowBulk r ≤ rowsBulk es
  | x :: t, h => by
    simp only [rowsBulk]
    rcases List.mem_cons.1 h with e | e
    · subst e; omega
    · have := bulk_mem e; omega
theorem len_bulk {α : Type} {f : α → List PV} (hf : ∀ x, 1 ≤ rowBulk (f x)) : ∀ l : List α, l.length ≤ rowsBulk (l.map f)
  | [] => by simp
  | x :: r => by
    have := len_bulk hf r
    have := hf x
    simp only [List.map_cons, rowsBulk, List.length_cons]
    omega
theorem exp_bulk (e : Exp) : rowBulk e.row = 1 + (e.kind.size + 1 + (e.name.size + 1 + (rowsBulk (e.values.map Val.row) + 1 + (rowsBulk (rowsE e.kids) + 1)))) := by
  simp [Exp.row, rowBulk, PV.bulk]
theorem val_bulk (v : Val) : rowBulk v.row = 1 + (1 + (v.text.size + 1 + (rowsBulk (strs v.list) + 1))) := by
  simp [Val.row, rowBulk, PV.bulk]
mutual
theorem nodes_bulk : ∀ e : Exp, e.nodes ≤ rowBulk e.row
  | .mk o k n vs ks => by
    have := nodesL_bulk ks
    rw [exp_bulk]
    simp only [Exp.nodes, Exp.kids]
    omega
theorem nodesL_bulk : ∀ ks : List Exp, nodesL ks ≤ rowsBulk (rowsE ks)
  | [] => by simp [nodesL]
  | k :: r => by
    have h1 := nodes_bulk k
    have h2 := nodesL_bulk r
    have : rowsE (k :: r) = k.row :: rowsE r := by rw [rowsE_map, rowsE_map]; rfl
    rw [this]
    simp only [nodesL, rowsBulk]
    omega
end
theorem wf_exp : ∀ (N : Nat) (d : List PV), rowBulk d ≤ N → N ≤ 2 ^ 30 → Wf Tryz.prog 26 d → ∃ e : Exp, d = e.row ∧ e.Ok
  | 0, d, hN, _, h => by
    cases h with
    | struct hu ps hl hz hr =>
      rw [Tryz.underlying26] at hu
      cases hu
      obtain ⟨a, b, c, v, k, rfl⟩ := five hl
      obtain ⟨n, rfl⟩ := wf_int3 (hr 0 _ _ rfl rfl)
      simp [rowBulk, PV.bulk] at hN
    | str hu s hs => rw [Tryz.underlying26] at hu; cases hu
    | int hu n hw => rw [Tryz.underlying26] at hu; cases hu
    | bool hu b => rw [Tryz.underlying26] at hu; cases hu
    | slice hu es hl hz hr => rw [Tryz.underlying26] at hu; cases hu
    | arr hu ps hl hz hr => rw [Tryz.underlying26] at hu; cases hu
  | N + 1, d, hN, h30, h => by
    cases h with
    | struct hu ps hl hz hr =>
      rw [Tryz.underlying26] at hu
      cases hu
      obtain ⟨a, b, c, v, k, rfl⟩ := five hl
      obtain ⟨o, rfl⟩ := wf_int3 (hr 0 _ _ rfl rfl)
      obtain ⟨kd, rfl⟩ := wf_str9 (hr 1 _ _ rfl rfl)
      obtain ⟨nm, rfl⟩ := wf_str9 (hr 2 _ _ rfl rfl)
      obtain ⟨vs, rfl⟩ := wf_vals (hr 3 _ _ rfl rfl)
      obtain ⟨es, rfl, hes⟩ := wf_kids (hr 4 _ _ rfl rfl)
      have hb : rowsBulk es + 1 ≤ N + 1 ∧ rowsBulk (vs.map Val.row) ≤ N := by
        simp [rowBulk, PV.bulk] at hN
        omega
      have hk : ∃ ks : List Exp, es = ks.map Exp.row ∧ ∀ k ∈ ks, k.Ok := by
        have key : ∀ es : List (List PV), rowsBulk es ≤ N → (∀ r ∈ es, Wf Tryz.prog 26 r) → ∃ ks : List Exp, es = ks.map Exp.row ∧ ∀ k ∈ ks, k.Ok := by
          intro es
          induction es with
          | nil => exact fun _ _ => ⟨[], rfl, by simp⟩
          | cons r t ih =>
            intro hb hr
            simp only [rowsBulk] at hb
            obtain ⟨e, rfl, he⟩ := wf_exp N r (by omega) (by omega) (hr r (by simp))
            obtain ⟨ks, rfl, hks⟩ := ih (by omega) fun x hx => hr x (by simp [hx])
            refine ⟨e :: ks, rfl, fun k hk => ?_⟩
            rcases List.mem_cons.1 hk with e1 | e1
            · subst e1; exact he
            · exact hks k e1
        exact key es (by omega) hes
      obtain ⟨ks, rfl, hks⟩ := hk
      refine ⟨.mk o kd nm vs ks, by simp [Exp.row, Exp.op, Exp.kind, Exp.name, Exp.values, Exp.kids, rowsE_map], .mk ?_ (fun v hv => ?_) ?_ hks⟩
      · have := len_bulk (f := Val.row) (fun x => by rw [val_bulk]; omega) vs
        simp only [Exp.values]
        omega
      · have h1 := bulk_mem (List.mem_map_of_mem (f := Val.row) hv)
        have h2 := len_bulk (f := fun s => [pS s]) (fun x => by simp [rowBulk, PV.bulk]) v.list
        rw [val_bulk] at h1
        have h3 : rowsBulk (strs v.list) = rowsBulk (v.list.map fun s => [pS s]) := rfl
        simp only [Exp.values] at h1
        omega
      · have := len_bulk (f := Exp.row) (fun x => by rw [exp_bulk]; omega) ks
        simp only [Exp.kids]
        omega
    | str hu s hs => rw [Tryz.underlying26] at hu; cases hu
    | int hu n hw => rw [Tryz.underlying26] at hu; cases hu
    | bool hu b => rw [Tryz.underlying26] at hu; cases hu
    | slice hu es hl hz hr => rw [Tryz.underlying26] at hu; cases hu
    | arr hu ps hl hz hr => rw [Tryz.underlying26] at hu; cases hu
theorem agg26 : aggOf Tryz.prog 26 = true := by unfold aggOf; rw [Tryz.underlying26]
end Go.Proofs.YtbdnigendhhndaaGreatDoor
end
section
/- The witness of SegmentReferences. -/
namespace Go.Proofs.YtbdnigendhhndaaGreatDoor
open Go Go.Ev Go.ChangeShapes Go.WideShapes Go.ChangeAt Go.RowKit
set_option maxRecDepth 100000

abbrev refs_args : Array Value := #[.slice none 0 0, .agg #[.int .i64 0, .string ⟨#[]⟩, .string ⟨#[]⟩, .slice none 0 0, .slice none 0 0]]
theorem refs_reads (os : Os) {H : Type} (enc : TypeId × Value → H) : ∃ places, DataW.whole enc Tryz.prog ((laidWorld os).forCall (fun _ _ => 0) ⟨#[], refs_args, []⟩).memory Tryz.f3.params.toList Rows.segmentReferencesSpec.vars false refs_args.toList 8 = some ([.nil, .agg [.lit (.int .i64 0), .lit (.string []), .lit (.string []), .nil, .nil]], [], places) :=
  ⟨[], by kernel_rfl⟩
theorem refs_vars (os : Os) : ((laidWorld os).forCall (fun _ _ => 0) ⟨#[], refs_args, []⟩).variablesRefB Tryz.checked.prog = true := by kernel_rfl
theorem refs_okw (os : Os) : Input.okWideB Tryz.checked.prog ((laidWorld os).forCall (fun _ _ => 0) ⟨#[], refs_args, []⟩) 3 ⟨#[], refs_args, []⟩ = true := by kernel_rfl
end Go.Proofs.YtbdnigendhhndaaGreatDoor
end
section
/- SegmentReferences: the contract, lifted. -/
namespace Go.Proofs.YtbdnigendhhndaaGreatDoor
open Go Go.Ev Go.ChangeShapes Go.WideShapes Go.ChangeAt Go.RowKit
set_option maxRecDepth 100000

theorem uptoBulk_ok {H : Type} : Bulk (H := H) Rows.uptoBulk Rows.uptoBulkAll where
  str bs := by simp [Rows.uptoBulk]
  lit l := by cases l <;> simp [Rows.uptoBulk]
  nil := by simp [Rows.uptoBulk]
  slice es sp := by simp [Rows.uptoBulk]
  agg ds := by simp [Rows.uptoBulk]
  cons d r := by simp [Rows.uptoBulkAll]
def plainT3 : List TypeId := [22, 5, 26, 24, 23, 112, 3, 9, 30]
theorem plain_ok3 : plainB Tryz.prog plainT3 = true := by kernel_rfl
theorem refs_contract (H : Type) (enc : TypeId × Value → H) (W : World) (base : Nat) (args : Array Value) (ds gs : List (DataW H)) (before : List MemPlace)
    (hval : ∀ (j : Nat) t v, Tryz.f3.params[j]? = some t → args[j]? = some v → Value.okWide Tryz.prog W .any base t v)
    (hW : DataW.Whole enc Tryz.prog Tryz.f3.params.toList Rows.segmentReferencesSpec.vars false W args.toList ds gs before) (hL : laidMetH Tryz.prog Rows.segmentReferencesUptoRow.laid W) (hsm : Rows.uptoBulkAll (ds ++ gs) ≤ 1048576) (hsh : W.ShapedOpen Tryz.prog) :
    Calls Tryz.prog 3 args W fun e W' => ∃ v, e = .returned v ∧ Rows.segmentReferencesSpec.post enc Tryz.prog Tryz.f3 false true false false W args v W' := by
  have hL' : laidMet Tryz.prog laidL W := hL
  have hW' := hW
  obtain ⟨p, q, hA, hV, rfl, hz, hn⟩ := hW'
  obtain ⟨rfl, rfl⟩ := trodVars_none hV
  rw [List.append_nil] at hsm
  have hps : Tryz.f3.params.toList = [22, 26] := by rw [Tryz.params3]
  have hA2 := hA
  rw [hps] at hA2
  have hds : ∃ d1 d2, ds = [d1, d2] := by
    obtain ⟨v1, vs1, d1, ds1, a1, e1, _, rfl, _, _, h1⟩ := trodAll_cons hA2
    obtain ⟨v2, vs2, d2, ds2, a2, e2, _, rfl, _, _, h2⟩ := trodAll_cons h1
    obtain ⟨_, rfl, _⟩ := trodAll_nil h2
    exact ⟨d1, d2, rfl⟩
  refine (law_calls (cx := cx) cx_ok cx_prim (by kernel_rfl) plain_ok3 uptoBulk_ok (ts := [22, 26]) (by decide) (base := base) (fun j t v h1 h2 => hval j t v (by rw [Tryz.params3]; simpa using h1) h2) hA2 (globs_of hL') (gi_of hsh) ?_).mono fun e W' he => ?_
  · intro hwf hbk
    have hbk := Nat.le_trans hbk hsm
    obtain ⟨d1, d2, rfl⟩ := hds
    simp only [List.map_cons, List.map_nil] at hwf hbk ⊢
    cases hwf with
    | cons g1 k1 =>
      cases k1 with
      | cons g2 k2 =>
        obtain ⟨l1, e1, b1⟩ := wf_u8s g1
        simp only [rowsBulk] at hbk
        obtain ⟨e2, x2, ok2⟩ := wf_exp 1048576 _ (by omega) (by omega) g2
        have hnb := nodes_bulk e2
        rw [x2] at hbk
        rw [e1, x2]
        have : argAVs cx.P [22, 26] [[.sl (u8s l1)], e2.row] = [sl (u8s l1), ag e2.row] := by
          simp only [argAVs, List.zipWith_cons_cons, List.zipWith_nil_right]
          rw [show aggOf cx.P 22 = false from agg22, show aggOf cx.P 26 = true from agg26]
          rfl
        rw [this]
        exact law3 l1 b1 e2 ok2 (by omega)
  · obtain ⟨he, hb⟩ := he
    subst he
    refine ⟨_, rfl, law_post (tb := 4) hW hb laid_out ?_ (by kernel_rfl) Tryz.underlying4 rfl ?_⟩
    · rw [hps]
      intro t ht
      simp only [List.mem_cons, List.not_mem_nil, or_false] at ht
      rcases ht with rfl | rfl <;> exact ⟨by kernel_rfl, of_decide_eq_true (by kernel_rfl)⟩
    · obtain ⟨d1, d2, rfl⟩ := hds
      rfl
theorem refs_lifted (os : Os) (started : os.Started) (H : Type) (enc : TypeId × Value → H) (F : Stop.Interp) :
    ReturnsInHanded {} Tryz.checked os 3 .any ((Rows.OpenSpec.upto Rows.segmentReferencesSpec).preRow enc Tryz.prog Tryz.f3 Rows.segmentReferencesUptoRow.domain false Rows.segmentReferencesUptoRow.laid) (((Rows.OpenSpec.upto Rows.segmentReferencesSpec).at F).post enc Tryz.prog Tryz.f3 false true false false) := by
  obtain ⟨places, hx⟩ := refs_reads os enc
  refine returnsInHanded_of_row (C := Tryz.checked) (s := Rows.OpenSpec.upto Rows.segmentReferencesSpec) own_knob started (by kernel_rfl) Tryz.func3
    (witness_row_atRef (enc := enc) (C := Tryz.checked) false (laidWorld os) refs_args rfl (refs_vars os) (by kernel_rfl) (refs_okw os)
      (OpenSpec.preRow_of_cond 8 hx (by kernel_rfl) (fun k hk => by cases hk; kernel_rfl) (by kernel_rfl) (laid_met os _))) ?_
  intro W base args ds gs before hval hW _ hcond _ hL hsh _
  exact refs_contract H enc W base args ds gs before hval hW hL (of_decide_eq_true (hcond _ rfl)) hsh
end Go.Proofs.YtbdnigendhhndaaGreatDoor
end
