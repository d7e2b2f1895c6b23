/- A part of the proofs of this seat's laws (abstract interpretation of the translated program, and contracts of its functions); no statement of its own. -/
import Derived.Test.YtbdnigendhhndaaGreatDoorBh
import Derived.Test.YtbdnigendhhndaaGreatDoorBi
set_option linter.unusedVariables false
set_option linter.unusedSimpArgs false
section
/- The reference: Compare. -/
namespace Go.Proofs.YtbdnigendhhndaaGreatDoor
open Go Go.Ev
set_option maxRecDepth 100000

def out3 (o : Option Int) : AE × St := match o with
  | none => (.exit 1, ⟨[], []⟩)
  | some c => (.ret, ⟨[(4, int c), (5, int 0)], []⟩)
abbrev at3 (x y : List Int) (i : Int) : St := ⟨[(8, .er (9, 0) 0 0 1), (10, .er (11, 0) 0 0 1), (12, int i)], [((9, 0), .arr 3 [x.map pI] 0), ((11, 0), .arr 3 [y.map pI] 0)]⟩
theorem cmp3_step (a d : Int) (h : (a != d) = true) : (bif decide (a < d) then (-1 : Int) else bif true then 1 else 0) = cmpI a d ∧ (cmpI a d != 0) = true := by
  unfold cmpI
  simp only [bne_iff_ne, ne_eq] at h
  cases h1 : decide (a < d) with
  | true => exact ⟨rfl, rfl⟩
  | false =>
    have : a > d := by simp at h1; omega
    simp [this]
theorem cmp3_eq (a d : Int) (h : (a != d) = false) : (cmpI a d != 0) = false := by
  have : a = d := by simpa using h
  subst this
  unfold cmpI
  simp
theorem cmp3_loop (a b c d e f : Int) : EvCode cx (EvCall cx) (.loop (loopBody Tryz.f85 0)) (at3 [a, b, c] [d, e, f] 0) (out3 (cmpP [a, b, c] [d, e, f])).1 (out3 (cmpP [a, b, c] [d, e, f])).2 := by
  have l3 : EvCode cx (EvCall cx) (.loop (loopBody Tryz.f85 0)) (at3 [a, b, c] [d, e, f] 3) (.exit 1) ⟨[], []⟩ := by
    exact EvCode.out [.same, .same] [] [] .nil (AE.ne_exit _) (by kernel_rfl)
  have l2 : EvCode cx (EvCall cx) (.loop (loopBody Tryz.f85 0)) (at3 [a, b, c] [d, e, f] 2) (out3 (cmpP [c] [f])).1 (out3 (cmpP [c] [f])).2 := by
    cases hb : c != f with
    | true =>
      obtain ⟨h1, h2⟩ := cmp3_step c f hb
      have hs := sign127 (decide (c < f)) true
      rw [h1] at hs
      simp only [cmpP, h2, cond_true, out3]
      exact EvCode.out [.same, .same, .same, .same, T, .same, .same, .same, .same, .val, .call (int (cmpI c f)) ([])] [(4 : Nat), (5 : Nat)] [] (.cons ((by decide) : inBd (2 : Int) (3 : Nat)) (.cons (rfl : (1 : Nat) = (1 : Nat)) (.cons ((by decide) : inBd (2 : Int) (3 : Nat)) (.cons (rfl : (1 : Nat) = (1 : Nat)) (.cons (vb hb) (.cons ((by decide) : inBd (2 : Int) (3 : Nat)) (.cons (rfl : (1 : Nat) = (1 : Nat)) (.cons ((by decide) : inBd (2 : Int) (3 : Nat)) (.cons (rfl : (1 : Nat) = (1 : Nat)) (.cons hs .nil)))))))))) AE.ne_ret (by kernel_rfl)
    | false =>
      simp only [cmpP, cmp3_eq c f hb, cond_false, out3]
      exact EvCode.round [.same, .same, .same, .same, F, .same, .same] [(8 : Nat), (10 : Nat), (12 : Nat)] [((9 : Nat), (0 : Nat)), ((11 : Nat), (0 : Nat))] (.cons ((by decide) : inBd (2 : Int) (3 : Nat)) (.cons (rfl : (1 : Nat) = (1 : Nat)) (.cons ((by decide) : inBd (2 : Int) (3 : Nat)) (.cons (rfl : (1 : Nat) = (1 : Nat)) (.cons (vb hb) .nil))))) (by kernel_rfl) l3
  have l1 : EvCode cx (EvCall cx) (.loop (loopBody Tryz.f85 0)) (at3 [a, b, c] [d, e, f] 1) (out3 (cmpP [b, c] [e, f])).1 (out3 (cmpP [b, c] [e, f])).2 := by
    cases hb : b != e with
    | true =>
      obtain ⟨h1, h2⟩ := cmp3_step b e hb
      have hs := sign127 (decide (b < e)) true
      rw [h1] at hs
      clear l2
      rw [cmpP, h2]
      simp only [cond_true, out3]
      exact EvCode.out [.same, .same, .same, .same, T, .same, .same, .same, .same, .val, .call (int (cmpI b e)) ([])] [(4 : Nat), (5 : Nat)] [] (.cons ((by decide) : inBd (1 : Int) (3 : Nat)) (.cons (rfl : (1 : Nat) = (1 : Nat)) (.cons ((by decide) : inBd (1 : Int) (3 : Nat)) (.cons (rfl : (1 : Nat) = (1 : Nat)) (.cons (vb hb) (.cons ((by decide) : inBd (1 : Int) (3 : Nat)) (.cons (rfl : (1 : Nat) = (1 : Nat)) (.cons ((by decide) : inBd (1 : Int) (3 : Nat)) (.cons (rfl : (1 : Nat) = (1 : Nat)) (.cons hs .nil)))))))))) AE.ne_ret (by kernel_rfl)
    | false =>
      rw [cmpP, cmp3_eq b e hb]
      simp only [cond_false]
      generalize out3 (cmpP [c] [f]) = o at l2 ⊢
      exact EvCode.round [.same, .same, .same, .same, F, .same, .same] [(8 : Nat), (10 : Nat), (12 : Nat)] [((9 : Nat), (0 : Nat)), ((11 : Nat), (0 : Nat))] (.cons ((by decide) : inBd (1 : Int) (3 : Nat)) (.cons (rfl : (1 : Nat) = (1 : Nat)) (.cons ((by decide) : inBd (1 : Int) (3 : Nat)) (.cons (rfl : (1 : Nat) = (1 : Nat)) (.cons (vb hb) .nil))))) (by kernel_rfl) l2
  cases hb : a != d with
  | true =>
    obtain ⟨h1, h2⟩ := cmp3_step a d hb
    have hs := sign127 (decide (a < d)) true
    rw [h1] at hs
    clear l1 l2
    rw [cmpP, h2]
    simp only [cond_true, out3]
    exact EvCode.out [.same, .same, .same, .same, T, .same, .same, .same, .same, .val, .call (int (cmpI a d)) ([])] [(4 : Nat), (5 : Nat)] [] (.cons ((by decide) : inBd (0 : Int) (3 : Nat)) (.cons (rfl : (1 : Nat) = (1 : Nat)) (.cons ((by decide) : inBd (0 : Int) (3 : Nat)) (.cons (rfl : (1 : Nat) = (1 : Nat)) (.cons (vb hb) (.cons ((by decide) : inBd (0 : Int) (3 : Nat)) (.cons (rfl : (1 : Nat) = (1 : Nat)) (.cons ((by decide) : inBd (0 : Int) (3 : Nat)) (.cons (rfl : (1 : Nat) = (1 : Nat)) (.cons hs .nil)))))))))) AE.ne_ret (by kernel_rfl)
  | false =>
    rw [cmpP, cmp3_eq a d hb]
    simp only [cond_false]
    generalize out3 (cmpP [b, c] [e, f]) = o at l1 ⊢
    clear l2
    exact EvCode.round [.same, .same, .same, .same, F, .same, .same] [(8 : Nat), (10 : Nat), (12 : Nat)] [((9 : Nat), (0 : Nat)), ((11 : Nat), (0 : Nat))] (.cons ((by decide) : inBd (0 : Int) (3 : Nat)) (.cons (rfl : (1 : Nat) = (1 : Nat)) (.cons ((by decide) : inBd (0 : Int) (3 : Nat)) (.cons (rfl : (1 : Nat) = (1 : Nat)) (.cons (vb hb) .nil))))) (by kernel_rfl) l1
theorem cmpS_gt (a b : ByteArray) : cmpS a b = bif Op.bytesLess a.toList b.toList then -1 else bif !(Op.bytesLess a.toList b.toList || a.toList == b.toList) then 1 else 0 := rfl
theorem compare85 (v w : Val) (hv : v ∈ dvals) (hw : w ∈ dvals) : EvCall cx 85 [ag v.row, ag w.row] [] (.tup [int (cmpV v w).1, int (cmpV v w).2]) [] := by
  have k1 := check126 v hv
  have k2 := check126 w hw
  unfold cmpV
  cases b1 : v.kind != w.kind with
  | true => exact EvCall.run Tryz.f85 Tryz.func85 Tryz.call85 [.val, .call (int (0 : Int)) ([]), .same, .same, .val, .call (int (0 : Int)) ([]), .same, .same, T, .same, .same, .same, .same, .same, .same, .same, .same, .same, .val] (.cons k1 (.cons k2 (.cons (vb b1) .nil))) (by kernel_rfl)
  | false =>
    cases b2 : v.kind == 1 with
    | true => exact EvCall.run Tryz.f85 Tryz.func85 Tryz.call85 [.val, .call (int (0 : Int)) ([]), .same, .same, .val, .call (int (0 : Int)) ([]), .same, .same, F, .same, .same, .same, T, .same, .same, .same, .same, .same, .same, .val] (.cons k1 (.cons k2 (.cons (vb b1) (.cons (vb b2) .nil)))) (by kernel_rfl)
    | false =>
      cases b3 : v.kind == 5 with
      | true => exact EvCall.run Tryz.f85 Tryz.func85 Tryz.call85 [.val, .call (int (0 : Int)) ([]), .same, .same, .val, .call (int (0 : Int)) ([]), .same, .same, F, .same, .same, .same, F, .same, .same, .same, .same, T, .same, .same, .val] (.cons k1 (.cons k2 (.cons (vb b1) (.cons (vb b2) (.cons (vb b3) .nil))))) (by kernel_rfl)
      | false =>
        cases b4 : v.kind == 2 with
        | true =>
          have hs := sign127 (decide (v.number < w.number)) (decide (v.number > w.number))
          rw [show (bif decide (v.number < w.number) then (-1 : Int) else bif decide (v.number > w.number) then 1 else 0) = cmpI v.number w.number from rfl] at hs
          simp only [cond_true, cond_false]
          exact EvCall.run Tryz.f85 Tryz.func85 Tryz.call85 [.val, .call (int (0 : Int)) ([]), .same, .same, .val, .call (int (0 : Int)) ([]), .same, .same, F, .same, .same, .same, F, .same, .same, .same, .same, F, .same, .same, T, .same, .same, .same, .val, .call (int (cmpI v.number w.number)) ([]), .val] (.cons k1 (.cons k2 (.cons (vb b1) (.cons (vb b2) (.cons (vb b3) (.cons (vb b4) (.cons hs .nil))))))) (by kernel_rfl)
        | false =>
          cases b5 : v.kind == 3 with
          | true =>
            have hs := sign127 (Op.bytesLess v.text.toList w.text.toList) (!(Op.bytesLess v.text.toList w.text.toList || v.text.toList == w.text.toList))
            rw [← cmpS_gt] at hs
            simp only [cond_true, cond_false]
            exact EvCall.run Tryz.f85 Tryz.func85 Tryz.call85 [.val, .call (int (0 : Int)) ([]), .same, .same, .val, .call (int (0 : Int)) ([]), .same, .same, F, .same, .same, .same, F, .same, .same, .same, .same, F, .same, .same, F, .same, T, .same, .same, .same, .val, .call (int (cmpS v.text w.text)) ([]), .val] (.cons k1 (.cons k2 (.cons (vb b1) (.cons (vb b2) (.cons (vb b3) (.cons (vb b4) (.cons (vb b5) (.cons hs .nil)))))))) (by kernel_rfl)
          | false =>
            have hk : v.kind = w.kind := by simpa using b1
            have n1 : v.kind ≠ 1 := by simpa using b2
            have n5 : v.kind ≠ 5 := by simpa using b3
            have n2 : v.kind ≠ 2 := by simpa using b4
            have n3 : v.kind ≠ 3 := by simpa using b5
            have hp := parts128 v.text (dvals_ver hv n1 n2 n3 n5)
            have hq := parts128 w.text (dvals_ver hw (hk ▸ n1) (hk ▸ n2) (hk ▸ n3) (hk ▸ n5))
            unfold ver3
            generalize partsF v.text = q1 at *
            generalize partsF w.text = q2 at *
            obtain ⟨a, b, c⟩ := q1
            obtain ⟨d, e, f⟩ := q2
            simp only at hp hq ⊢
            have hl := cmp3_loop a b c d e f
            simp only [cond_false]
            unfold cmpR
            cases hcp : cmpP [a, b, c] [d, e, f] with
            | none =>
              rw [hcp] at hl
              simp only [out3] at hl
              simp only [List.length_cons, List.length_nil, Nat.lt_irrefl, decide_false, cond_false]
              exact EvCall.run Tryz.f85 Tryz.func85 Tryz.call85 [.val, .call (int (0 : Int)) ([]), .same, .same, .val, .call (int (0 : Int)) ([]), .same, .same, F, .same, .same, .same, F, .same, .same, .same, .same, F, .same, .same, F, .same, F, .same, .val, .call (AV.tup [AV.agg [int a, int b, int c], Ev.bool true]) ([]), .same, .val, .call (AV.tup [AV.agg [int d, int e, int f], Ev.bool true]) ([]), .same, .loop [(8 : Nat), (10 : Nat), (12 : Nat)] [((9 : Nat), (0 : Nat)), ((11 : Nat), (0 : Nat))] (AE.exit (1 : Nat)) ({ e := [], s := [] }), .val] (.cons k1 (.cons k2 (.cons (vb b1) (.cons (vb b2) (.cons (vb b3) (.cons (vb b4) (.cons (vb b5) (.cons hp (.cons (⟨rfl, (by omega)⟩ : (1 : Nat) = (1 : Nat) ∧ (0 : Nat) ≤ (0 : Nat)) (.cons hq (.cons (⟨rfl, (by omega)⟩ : (1 : Nat) = (1 : Nat) ∧ (0 : Nat) ≤ (0 : Nat)) (.cons hl .nil)))))))))))) (by kernel_rfl)
            | some x =>
              rw [hcp] at hl
              simp only [out3] at hl
              exact EvCall.as (r := AV.tup [AV.p (PV.s (Value.int IntKind.i64 x)), AV.p (PV.s (Value.int IntKind.i64 (0 : Int)))]) (H' := []) (EvCall.run Tryz.f85 Tryz.func85 Tryz.call85 [.val, .call (int (0 : Int)) ([]), .same, .same, .val, .call (int (0 : Int)) ([]), .same, .same, F, .same, .same, .same, F, .same, .same, .same, .same, F, .same, .same, F, .same, F, .same, .val, .call (AV.tup [AV.agg [int a, int b, int c], Ev.bool true]) ([]), .same, .val, .call (AV.tup [AV.agg [int d, int e, int f], Ev.bool true]) ([]), .same, .loop [(8 : Nat), (10 : Nat), (12 : Nat)] [((9 : Nat), (0 : Nat)), ((11 : Nat), (0 : Nat))] (AE.ret) ({ e := [((4 : Nat), AV.p (PV.s (Value.int IntKind.i64 x))), ((5 : Nat), AV.p (PV.s (Value.int IntKind.i64 (0 : Int))))], s := [] }), .val] (.cons k1 (.cons k2 (.cons (vb b1) (.cons (vb b2) (.cons (vb b3) (.cons (vb b4) (.cons (vb b5) (.cons hp (.cons (⟨rfl, (by omega)⟩ : (1 : Nat) = (1 : Nat) ∧ (0 : Nat) ≤ (0 : Nat)) (.cons hq (.cons (⟨rfl, (by omega)⟩ : (1 : Nat) = (1 : Nat) ∧ (0 : Nat) ≤ (0 : Nat)) (.cons hl .nil)))))))))))) (by kernel_rfl)) rfl rfl
end Go.Proofs.YtbdnigendhhndaaGreatDoor
end
section
/- The reference: Test, Eval. -/
namespace Go.Proofs.YtbdnigendhhndaaGreatDoor
open Go Go.Ev
set_option maxRecDepth 100000

theorem in_loop (v : Val) (hv : v.list.length ≤ 2 ^ 62) (e : Exp) (l : List Val) (hel : e.values = l) (hl : l.length ≤ 2 ^ 30) : ∀ (suf pre : List Val), l = pre ++ suf →
    EvCode cx (EvCall cx) (.loop (loopBody Tryz.f51 0)) ⟨[(3, .ref (4, 0) 0), (5, .ref (6, 0) 0), (7, int pre.length)], [((4, 0), .cells (e.row.map .p)), ((6, 0), .cells (v.row.map .p))]⟩
      (anyOut 4 (suf.any fun w => eqV v w)).1 (anyOut 4 (suf.any fun w => eqV v w)).2
  | [], pre, h => by
    have hq : pre.length = l.length := by rw [h]; simp
    have hge : ¬ (pre.length : Int) < ((e.values.map Val.row).length : Nat) := by rw [hel]; simp; omega
    simp only [List.any_nil, anyOut, cond_false]
    exact EvCode.out [F, .same] [] [] (.cons (vb (by simp [strs_length, rowsE_length, *] : decide ((↑pre.length : Int) < (↑(List.map Val.row e.values).length : Int)) = false)) .nil) (AE.ne_exit _) (by kernel_rfl)
  | w :: r, pre, h => by
    have hlt : (pre.length : Int) < ((e.values.map Val.row).length : Nat) := by rw [hel, h]; simp; omega
    have hlt2 : pre.length < l.length := by rw [h]; simp
    have hrow : rowI (e.values.map Val.row) (pre.length : Int) = some w.row := by
      rw [hel]
      apply rowI_at
      simp only [List.getElem?_map, get_of_split h, Option.map_some]
    have hc := equal82 v w hv
    simp only [List.any_cons]
    cases hb : eqV v w with
    | true =>
      rw [hb] at hc
      simp only [Bool.true_or, anyOut, cond_true]
      exact EvCode.out [T, .same, .row (w.row), .same, .val, .call (Ev.bool true) ([]), .same] [(4 : Nat)] [] (.cons (vb (by simp_all [strs_length, rowsE_length] : decide ((↑pre.length : Int) < (↑(List.map Val.row e.values).length : Int)) = true)) (.cons hrow (.cons hc .nil))) AE.ne_ret (by kernel_rfl)
    | false =>
      rw [hb] at hc
      have ih := in_loop v hv e l hel hl r (pre ++ [w]) (by simp [h])
      simp only [List.length_append, List.length_singleton] at ih
      simp only [Bool.false_or]
      generalize anyOut 4 (r.any fun w => eqV v w) = o at ih ⊢
      exact EvCode.round [T, .same, .row (w.row), .same, .val, .call (Ev.bool false) ([]), .same, .v (.int .i64 ((pre.length + (1 : Nat) : Nat) : Int))] [(3 : Nat), (5 : Nat), (7 : Nat)] [((4 : Nat), (0 : Nat)), ((6 : Nat), (0 : Nat))] (.cons (vb (by simp_all [strs_length, rowsE_length] : decide ((↑pre.length : Int) < (↑(List.map Val.row e.values).length : Int)) = true)) (.cons hrow (.cons hc (.cons (natVi64 (by omega) (by omega) (by omega) : Value.int .i64 (IntKind.i64.wrap ((↑pre.length : Int) + (1 : Int))) = .int .i64 ((pre.length + (1 : Nat) : Nat) : Int)) .nil)))) (by kernel_rfl) ih
abbrev RefIs (s : List Ctx) (e : Exp) (b : Bool) : Prop := EvCall cx 51 [.agg [sl (s.map Ctx.row)], ag e.row] [] (bool b) []
theorem testR (s : List Ctx) (hs : ∀ c ∈ s, DrC c) (hl : s.length ≤ 2) (e : Exp) (hv : ∀ v ∈ e.values, v ∈ dvals) (hlen : e.values.length ≤ 2 ^ 30) : EvCall cx 51 [.agg [sl (s.map Ctx.row)], ag e.row] [] (bool (testF s e)) [] := by
  have hok : ∀ c ∈ s, c.Ok := fun c hc => (hs c hc).ok
  have hld := lookup_dr hs e.kind e.name
  have hlk := lookup80 s e.kind e.name (by omega) hok
  have ht := isTest81 e.op
  unfold testF
  generalize lookupS s e.kind e.name = r at hld hlk ⊢
  obtain ⟨v, b⟩ := r
  simp only at hlk hld ⊢
  cases b with
  | false =>
    simp only [cond_false]
    exact EvCall.run Tryz.f51 Tryz.func51 Tryz.call51 [.val, .call (AV.tup [ag v.row, Ev.bool false]) ([]), .same, .same, .same, .same, .same, .same, .same, .val] (.cons hlk .nil) (by kernel_rfl)
  | true =>
    have hvd := hld rfl
    have hvs := dvals_small hvd
    simp only [cond_true]
    cases b0 : isTest e.op with
    | false =>
      rw [b0] at ht
      simp only [cond_false]
      exact EvCall.run Tryz.f51 Tryz.func51 Tryz.call51 [.val, .call (AV.tup [ag v.row, Ev.bool true]) ([]), .same, .same, .same, .same, .val, .call (Ev.bool false) ([]), .same, .same, .same, .same, .val] (.cons hlk (.cons ht .nil)) (by kernel_rfl)
    | true =>
      rw [b0] at ht
      simp only [cond_true]
      unfold valsF
      cases b6 : e.op == 6 with
      | true =>
        simp only [cond_true]
        exact EvCall.run Tryz.f51 Tryz.func51 Tryz.call51 [.val, .call (AV.tup [ag v.row, Ev.bool true]) ([]), .same, .same, .same, .same, .val, .call (Ev.bool true) ([]), .same, .same, .same, .same, T, .same, .val] (.cons hlk (.cons ht (.cons (vb b6) .nil))) (by kernel_rfl)
      | false =>
        cases b8 : e.op == 8 with
        | true =>
          have hlp := in_loop v (by omega) e e.values rfl hlen e.values [] rfl
          simp only [cond_true, cond_false]
          cases ha : e.values.any fun w => eqV v w with
          | true =>
            rw [ha] at hlp
            simp only [anyOut, cond_true] at hlp
            exact EvCall.run Tryz.f51 Tryz.func51 Tryz.call51 [.val, .call (AV.tup [ag v.row, Ev.bool true]) ([]), .same, .same, .same, .same, .val, .call (Ev.bool true) ([]), .same, .same, .same, .same, F, .same, T, .same, .loop [(3 : Nat), (5 : Nat), (7 : Nat)] [((4 : Nat), (0 : Nat)), ((6 : Nat), (0 : Nat))] (AE.ret) ({ e := [((4 : Nat), AV.p (PV.s (Value.bool true)))], s := [] }), .val] (.cons hlk (.cons ht (.cons (vb b6) (.cons (vb b8) (.cons hlp .nil))))) (by kernel_rfl)
          | false =>
            rw [ha] at hlp
            simp only [anyOut, cond_false] at hlp
            exact EvCall.run Tryz.f51 Tryz.func51 Tryz.call51 [.val, .call (AV.tup [ag v.row, Ev.bool true]) ([]), .same, .same, .same, .same, .val, .call (Ev.bool true) ([]), .same, .same, .same, .same, F, .same, T, .same, .loop [(3 : Nat), (5 : Nat), (7 : Nat)] [((4 : Nat), (0 : Nat)), ((6 : Nat), (0 : Nat))] (AE.exit (0 : Nat)) ({ e := [], s := [] }), .val] (.cons hlk (.cons ht (.cons (vb b6) (.cons (vb b8) (.cons hlp .nil))))) (by kernel_rfl)
        | false =>
          obtain ⟨o, kd, nm, vs, ks⟩ := e
          simp only [Exp.op, Exp.kind, Exp.name, Exp.values] at *
          simp only [cond_false]
          cases vs with
          | nil => exact EvCall.run Tryz.f51 Tryz.func51 Tryz.call51 [.val, .call (AV.tup [ag v.row, Ev.bool true]) ([]), .same, .same, .same, .same, .val, .call (Ev.bool true) ([]), .same, .same, .same, .same, F, .same, F, .same, .same, .same, .val] (.cons hlk (.cons ht (.cons (vb b6) (.cons (vb b8) .nil)))) (by kernel_rfl)
          | cons w rest =>
            have hw := hv w (by simp)
            have hws := dvals_small hw
            have hrow : rowI ((w :: rest).map Val.row) 0 = some w.row := rfl
            have hne : (((List.map Val.row (w :: rest)).length : Int) == 0) = false := by simp; omega
            simp only
            unfold opF
            cases h7 : o == 7 with
            | true =>
              have he := equal82 v w (by omega)
              simp only [cond_true]
              cases k1 : v.kind == 3 with
              | true => exact EvCall.run Tryz.f51 Tryz.func51 Tryz.call51 [.val, .call (AV.tup [ag v.row, Ev.bool true]) ([]), .same, .same, .same, .same, .val, .call (Ev.bool true) ([]), .same, .same, .same, .same, F, .same, F, .same, .same, .same, .row (w.row), .row (w.row), T, .same, .same, .same, .same, .same, T, .same, .val, .call (Ev.bool (eqV v w)) ([]), .val] (.cons hlk (.cons ht (.cons (vb b6) (.cons (vb b8) (.cons hrow (.cons hrow (.cons (vb k1) (.cons (vb h7) (.cons he .nil))))))))) (by kernel_rfl)
              | false => exact EvCall.run Tryz.f51 Tryz.func51 Tryz.call51 [.val, .call (AV.tup [ag v.row, Ev.bool true]) ([]), .same, .same, .same, .same, .val, .call (Ev.bool true) ([]), .same, .same, .same, .same, F, .same, F, .same, .same, .same, .row (w.row), .row (w.row), F, .same, .same, .same, .same, T, .same, .val, .call (Ev.bool (eqV v w)) ([]), .val] (.cons hlk (.cons ht (.cons (vb b6) (.cons (vb b8) (.cons hrow (.cons hrow (.cons (vb k1) (.cons (vb h7) (.cons he .nil))))))))) (by kernel_rfl)
            | false =>
              cases h9 : o == 9 with
              | true =>
                have hwi := within83 v.text w.text 0 (by omega) (by omega) (by omega) (by omega)
                have hpe : withinF v.text w.text 0 = hasPre v.text w.text := by
                  unfold withinF hasPre
                  have : decide ((0 : Int) + (w.text.size : Int) ≤ (v.text.size : Int)) = decide (w.text.size ≤ v.text.size) := by rw [decide_eq_decide]; omega
                  rw [this]
                  simp
                rw [hpe] at hwi
                simp only [cond_true, cond_false]
                cases k1 : v.kind == 3 with
                | true =>
                  cases k2 : w.kind == 3 with
                  | true => simp only [Bool.true_and]; exact EvCall.run Tryz.f51 Tryz.func51 Tryz.call51 [.val, .call (AV.tup [ag v.row, Ev.bool true]) ([]), .same, .same, .same, .same, .val, .call (Ev.bool true) ([]), .same, .same, .same, .same, F, .same, F, .same, .same, .same, .row (w.row), .row (w.row), T, .same, .same, .same, T, .same, F, .same, T, .same, .same, .same, .same, .same, .same, .val, .call (Ev.bool (hasPre v.text w.text)) ([]), .same, .val] (.cons hlk (.cons ht (.cons (vb b6) (.cons (vb b8) (.cons hrow (.cons hrow (.cons (vb k1) (.cons (vb k2) (.cons (vb h7) (.cons (vb h9) (.cons hwi .nil))))))))))) (by kernel_rfl)
                  | false => simp only [Bool.false_and, Bool.and_false]; exact EvCall.run Tryz.f51 Tryz.func51 Tryz.call51 [.val, .call (AV.tup [ag v.row, Ev.bool true]) ([]), .same, .same, .same, .same, .val, .call (Ev.bool true) ([]), .same, .same, .same, .same, F, .same, F, .same, .same, .same, .row (w.row), .row (w.row), T, .same, .same, .same, F, .same, F, .same, T, .same, .same, .same, .same, .same, .same, .same, .val] (.cons hlk (.cons ht (.cons (vb b6) (.cons (vb b8) (.cons hrow (.cons hrow (.cons (vb k1) (.cons (vb k2) (.cons (vb h7) (.cons (vb h9) .nil)))))))))) (by kernel_rfl)
                | false => simp only [Bool.false_and]; exact EvCall.run Tryz.f51 Tryz.func51 Tryz.call51 [.val, .call (AV.tup [ag v.row, Ev.bool true]) ([]), .same, .same, .same, .same, .val, .call (Ev.bool true) ([]), .same, .same, .same, .same, F, .same, F, .same, .same, .same, .row (w.row), .row (w.row), F, .same, .same, .same, .same, F, .same, T, .same, .same, .same, .same, .same, .same, .same, .val] (.cons hlk (.cons ht (.cons (vb b6) (.cons (vb b8) (.cons hrow (.cons hrow (.cons (vb k1) (.cons (vb h7) (.cons (vb h9) .nil))))))))) (by kernel_rfl)
              | false =>
                cases h10 : o == 10 with
                | true =>
                  have hwi := within83 v.text w.text ((v.text.size : Int) - (w.text.size : Int)) (by omega) (by omega) (by omega) (by omega)
                  have hsu : Value.int .i64 (IntKind.i64.wrap ((v.text.size : Int) - (w.text.size : Int))) = .int .i64 ((v.text.size : Int) - (w.text.size : Int)) := by rw [wrap_id (by omega) (by omega)]
                  have hpe : withinF v.text w.text ((v.text.size : Int) - (w.text.size : Int)) = hasSuf v.text w.text := by
                    unfold withinF hasSuf
                    have h1 : decide ((v.text.size : Int) - (w.text.size : Int) ≥ 0) = decide (w.text.size ≤ v.text.size) := by rw [decide_eq_decide]; omega
                    have h2 : decide ((v.text.size : Int) - (w.text.size : Int) + (w.text.size : Int) ≤ (v.text.size : Int)) = true := by simp
                    have h3 : ((v.text.size : Int) - (w.text.size : Int) + (w.text.size : Int)).toNat = v.text.size := by omega
                    rw [h1, h2, h3]
                    cases hd : decide (w.text.size ≤ v.text.size) with
                    | false => rfl
                    | true =>
                      have := of_decide_eq_true hd
                      have h4 : ((v.text.size : Int) - (w.text.size : Int)).toNat = v.text.size - w.text.size := by omega
                      rw [h4]
                      rfl
                  rw [hpe] at hwi
                  simp only [cond_true, cond_false]
                  cases k1 : v.kind == 3 with
                  | true =>
                    cases k2 : w.kind == 3 with
                    | true => simp only [Bool.true_and]; exact EvCall.run Tryz.f51 Tryz.func51 Tryz.call51 [.val, .call (AV.tup [ag v.row, Ev.bool true]) ([]), .same, .same, .same, .same, .val, .call (Ev.bool true) ([]), .same, .same, .same, .same, F, .same, F, .same, .same, .same, .row (w.row), .row (w.row), T, .same, .same, .same, T, .same, F, .same, F, .same, T, .same, .same, .same, .same, .same, .same, .same, .same, .same, .same, .same, .same, .v (.int .i64 ((↑v.text.size : Int) - (↑w.text.size : Int))), .same, .val, .call (Ev.bool (hasSuf v.text w.text)) ([]), .same, .val] (.cons hlk (.cons ht (.cons (vb b6) (.cons (vb b8) (.cons hrow (.cons hrow (.cons (vb k1) (.cons (vb k2) (.cons (vb h7) (.cons (vb h9) (.cons (vb h10) (.cons (wrapVi64 (e := (↑v.text.size : Int) - (↑w.text.size : Int)) (by omega) (by omega)) (.cons hwi .nil))))))))))))) (by kernel_rfl)
                    | false => simp only [Bool.false_and, Bool.and_false]; exact EvCall.run Tryz.f51 Tryz.func51 Tryz.call51 [.val, .call (AV.tup [ag v.row, Ev.bool true]) ([]), .same, .same, .same, .same, .val, .call (Ev.bool true) ([]), .same, .same, .same, .same, F, .same, F, .same, .same, .same, .row (w.row), .row (w.row), T, .same, .same, .same, F, .same, F, .same, F, .same, T, .same, .same, .same, .same, .same, .same, .same, .same, .same, .same, .same, .same, .same, .same, .val] (.cons hlk (.cons ht (.cons (vb b6) (.cons (vb b8) (.cons hrow (.cons hrow (.cons (vb k1) (.cons (vb k2) (.cons (vb h7) (.cons (vb h9) (.cons (vb h10) .nil))))))))))) (by kernel_rfl)
                  | false => simp only [Bool.false_and]; exact EvCall.run Tryz.f51 Tryz.func51 Tryz.call51 [.val, .call (AV.tup [ag v.row, Ev.bool true]) ([]), .same, .same, .same, .same, .val, .call (Ev.bool true) ([]), .same, .same, .same, .same, F, .same, F, .same, .same, .same, .row (w.row), .row (w.row), F, .same, .same, .same, .same, F, .same, F, .same, T, .same, .same, .same, .same, .same, .same, .same, .same, .same, .same, .same, .same, .same, .same, .val] (.cons hlk (.cons ht (.cons (vb b6) (.cons (vb b8) (.cons hrow (.cons hrow (.cons (vb k1) (.cons (vb h7) (.cons (vb h9) (.cons (vb h10) .nil)))))))))) (by kernel_rfl)
                | false =>
                  cases h11 : o == 11 with
                  | true =>
                    have hct := contains84 v w (by omega) (by omega) (by omega)
                    have ho : opF 11 v w = (v.kind == 3 && (w.kind == 3 && Lib.contains v.text.data.toList w.text.data.toList) || (w.kind == 3 && (v.kind == 5 && v.list.any fun u => w.text.toList == u.toList))) := rfl
                    rw [← ho]
                    simp only [cond_true, cond_false]
                    cases k1 : v.kind == 3 with
                    | true => exact EvCall.run Tryz.f51 Tryz.func51 Tryz.call51 [.val, .call (AV.tup [ag v.row, Ev.bool true]) ([]), .same, .same, .same, .same, .val, .call (Ev.bool true) ([]), .same, .same, .same, .same, F, .same, F, .same, .same, .same, .row (w.row), .row (w.row), T, .same, .same, .same, .same, .same, F, .same, F, .same, F, .same, T, .same, .val, .call (Ev.bool (opF (11 : Int) v w)) ([]), .val] (.cons hlk (.cons ht (.cons (vb b6) (.cons (vb b8) (.cons hrow (.cons hrow (.cons (vb k1) (.cons (vb h7) (.cons (vb h9) (.cons (vb h10) (.cons (vb h11) (.cons hct .nil)))))))))))) (by kernel_rfl)
                    | false => exact EvCall.run Tryz.f51 Tryz.func51 Tryz.call51 [.val, .call (AV.tup [ag v.row, Ev.bool true]) ([]), .same, .same, .same, .same, .val, .call (Ev.bool true) ([]), .same, .same, .same, .same, F, .same, F, .same, .same, .same, .row (w.row), .row (w.row), F, .same, .same, .same, .same, F, .same, F, .same, F, .same, T, .same, .val, .call (Ev.bool (opF (11 : Int) v w)) ([]), .val] (.cons hlk (.cons ht (.cons (vb b6) (.cons (vb b8) (.cons hrow (.cons hrow (.cons (vb k1) (.cons (vb h7) (.cons (vb h9) (.cons (vb h10) (.cons (vb h11) (.cons hct .nil)))))))))))) (by kernel_rfl)
                  | false =>
                    have hcm := compare85 v w hvd hw
                    simp only [cond_false]
                    generalize cmpV v w = q at hcm ⊢
                    obtain ⟨c, x⟩ := q
                    simp only at hcm ⊢
                    cases x0 : x != 0 with
                    | true =>
                      simp only [cond_true]
                      cases k1 : v.kind == 3 with
                      | true => exact EvCall.run Tryz.f51 Tryz.func51 Tryz.call51 [.val, .call (AV.tup [ag v.row, Ev.bool true]) ([]), .same, .same, .same, .same, .val, .call (Ev.bool true) ([]), .same, .same, .same, .same, F, .same, F, .same, .same, .same, .row (w.row), .row (w.row), T, .same, .same, .same, .same, .same, F, .same, F, .same, F, .same, F, .same, .val, .call (AV.tup [int c, int x]) ([]), T, .same, .val] (.cons hlk (.cons ht (.cons (vb b6) (.cons (vb b8) (.cons hrow (.cons hrow (.cons (vb k1) (.cons (vb h7) (.cons (vb h9) (.cons (vb h10) (.cons (vb h11) (.cons hcm (.cons (vb x0) .nil))))))))))))) (by kernel_rfl)
                      | false => exact EvCall.run Tryz.f51 Tryz.func51 Tryz.call51 [.val, .call (AV.tup [ag v.row, Ev.bool true]) ([]), .same, .same, .same, .same, .val, .call (Ev.bool true) ([]), .same, .same, .same, .same, F, .same, F, .same, .same, .same, .row (w.row), .row (w.row), F, .same, .same, .same, .same, F, .same, F, .same, F, .same, F, .same, .val, .call (AV.tup [int c, int x]) ([]), T, .same, .val] (.cons hlk (.cons ht (.cons (vb b6) (.cons (vb b8) (.cons hrow (.cons hrow (.cons (vb k1) (.cons (vb h7) (.cons (vb h9) (.cons (vb h10) (.cons (vb h11) (.cons hcm (.cons (vb x0) .nil))))))))))))) (by kernel_rfl)
                    | false =>
                      simp only [cond_false]
                      cases k1 : v.kind == 3 with
                      | true =>
                        cases o1 : o == 12 with
                        | true => simp only [cond_true]; exact EvCall.run Tryz.f51 Tryz.func51 Tryz.call51 [.val, .call (AV.tup [ag v.row, Ev.bool true]) ([]), .same, .same, .same, .same, .val, .call (Ev.bool true) ([]), .same, .same, .same, .same, F, .same, F, .same, .same, .same, .row (w.row), .row (w.row), T, .same, .same, .same, .same, .same, F, .same, F, .same, F, .same, F, .same, .val, .call (AV.tup [int c, int x]) ([]), F, .same, T, .same, .same, .val] (.cons hlk (.cons ht (.cons (vb b6) (.cons (vb b8) (.cons hrow (.cons hrow (.cons (vb k1) (.cons (vb h7) (.cons (vb h9) (.cons (vb h10) (.cons (vb h11) (.cons hcm (.cons (vb x0) (.cons (vb o1) .nil)))))))))))))) (by kernel_rfl)
                        | false =>
                          cases o2 : o == 13 with
                          | true => simp only [cond_true, cond_false]; exact EvCall.run Tryz.f51 Tryz.func51 Tryz.call51 [.val, .call (AV.tup [ag v.row, Ev.bool true]) ([]), .same, .same, .same, .same, .val, .call (Ev.bool true) ([]), .same, .same, .same, .same, F, .same, F, .same, .same, .same, .row (w.row), .row (w.row), T, .same, .same, .same, .same, .same, F, .same, F, .same, F, .same, F, .same, .val, .call (AV.tup [int c, int x]) ([]), F, .same, F, .same, T, .same, .same, .val] (.cons hlk (.cons ht (.cons (vb b6) (.cons (vb b8) (.cons hrow (.cons hrow (.cons (vb k1) (.cons (vb h7) (.cons (vb h9) (.cons (vb h10) (.cons (vb h11) (.cons hcm (.cons (vb x0) (.cons (vb o1) (.cons (vb o2) .nil))))))))))))))) (by kernel_rfl)
                          | false =>
                            cases o3 : o == 14 with
                            | true => simp only [cond_true, cond_false]; exact EvCall.run Tryz.f51 Tryz.func51 Tryz.call51 [.val, .call (AV.tup [ag v.row, Ev.bool true]) ([]), .same, .same, .same, .same, .val, .call (Ev.bool true) ([]), .same, .same, .same, .same, F, .same, F, .same, .same, .same, .row (w.row), .row (w.row), T, .same, .same, .same, .same, .same, F, .same, F, .same, F, .same, F, .same, .val, .call (AV.tup [int c, int x]) ([]), F, .same, F, .same, F, .same, T, .same, .same, .val] (.cons hlk (.cons ht (.cons (vb b6) (.cons (vb b8) (.cons hrow (.cons hrow (.cons (vb k1) (.cons (vb h7) (.cons (vb h9) (.cons (vb h10) (.cons (vb h11) (.cons hcm (.cons (vb x0) (.cons (vb o1) (.cons (vb o2) (.cons (vb o3) .nil)))))))))))))))) (by kernel_rfl)
                            | false => simp only [cond_false]; exact EvCall.run Tryz.f51 Tryz.func51 Tryz.call51 [.val, .call (AV.tup [ag v.row, Ev.bool true]) ([]), .same, .same, .same, .same, .val, .call (Ev.bool true) ([]), .same, .same, .same, .same, F, .same, F, .same, .same, .same, .row (w.row), .row (w.row), T, .same, .same, .same, .same, .same, F, .same, F, .same, F, .same, F, .same, .val, .call (AV.tup [int c, int x]) ([]), F, .same, F, .same, F, .same, F, .same, .same, .val] (.cons hlk (.cons ht (.cons (vb b6) (.cons (vb b8) (.cons hrow (.cons hrow (.cons (vb k1) (.cons (vb h7) (.cons (vb h9) (.cons (vb h10) (.cons (vb h11) (.cons hcm (.cons (vb x0) (.cons (vb o1) (.cons (vb o2) (.cons (vb o3) .nil)))))))))))))))) (by kernel_rfl)
                      | false =>
                        cases o1 : o == 12 with
                        | true => simp only [cond_true]; exact EvCall.run Tryz.f51 Tryz.func51 Tryz.call51 [.val, .call (AV.tup [ag v.row, Ev.bool true]) ([]), .same, .same, .same, .same, .val, .call (Ev.bool true) ([]), .same, .same, .same, .same, F, .same, F, .same, .same, .same, .row (w.row), .row (w.row), F, .same, .same, .same, .same, F, .same, F, .same, F, .same, F, .same, .val, .call (AV.tup [int c, int x]) ([]), F, .same, T, .same, .same, .val] (.cons hlk (.cons ht (.cons (vb b6) (.cons (vb b8) (.cons hrow (.cons hrow (.cons (vb k1) (.cons (vb h7) (.cons (vb h9) (.cons (vb h10) (.cons (vb h11) (.cons hcm (.cons (vb x0) (.cons (vb o1) .nil)))))))))))))) (by kernel_rfl)
                        | false =>
                          cases o2 : o == 13 with
                          | true => simp only [cond_true, cond_false]; exact EvCall.run Tryz.f51 Tryz.func51 Tryz.call51 [.val, .call (AV.tup [ag v.row, Ev.bool true]) ([]), .same, .same, .same, .same, .val, .call (Ev.bool true) ([]), .same, .same, .same, .same, F, .same, F, .same, .same, .same, .row (w.row), .row (w.row), F, .same, .same, .same, .same, F, .same, F, .same, F, .same, F, .same, .val, .call (AV.tup [int c, int x]) ([]), F, .same, F, .same, T, .same, .same, .val] (.cons hlk (.cons ht (.cons (vb b6) (.cons (vb b8) (.cons hrow (.cons hrow (.cons (vb k1) (.cons (vb h7) (.cons (vb h9) (.cons (vb h10) (.cons (vb h11) (.cons hcm (.cons (vb x0) (.cons (vb o1) (.cons (vb o2) .nil))))))))))))))) (by kernel_rfl)
                          | false =>
                            cases o3 : o == 14 with
                            | true => simp only [cond_true, cond_false]; exact EvCall.run Tryz.f51 Tryz.func51 Tryz.call51 [.val, .call (AV.tup [ag v.row, Ev.bool true]) ([]), .same, .same, .same, .same, .val, .call (Ev.bool true) ([]), .same, .same, .same, .same, F, .same, F, .same, .same, .same, .row (w.row), .row (w.row), F, .same, .same, .same, .same, F, .same, F, .same, F, .same, F, .same, .val, .call (AV.tup [int c, int x]) ([]), F, .same, F, .same, F, .same, T, .same, .same, .val] (.cons hlk (.cons ht (.cons (vb b6) (.cons (vb b8) (.cons hrow (.cons hrow (.cons (vb k1) (.cons (vb h7) (.cons (vb h9) (.cons (vb h10) (.cons (vb h11) (.cons hcm (.cons (vb x0) (.cons (vb o1) (.cons (vb o2) (.cons (vb o3) .nil)))))))))))))))) (by kernel_rfl)
                            | false => simp only [cond_false]; exact EvCall.run Tryz.f51 Tryz.func51 Tryz.call51 [.val, .call (AV.tup [ag v.row, Ev.bool true]) ([]), .same, .same, .same, .same, .val, .call (Ev.bool true) ([]), .same, .same, .same, .same, F, .same, F, .same, .same, .same, .row (w.row), .row (w.row), F, .same, .same, .same, .same, F, .same, F, .same, F, .same, F, .same, .val, .call (AV.tup [int c, int x]) ([]), F, .same, F, .same, F, .same, F, .same, .same, .val] (.cons hlk (.cons ht (.cons (vb b6) (.cons (vb b8) (.cons hrow (.cons hrow (.cons (vb k1) (.cons (vb h7) (.cons (vb h9) (.cons (vb h10) (.cons (vb h11) (.cons hcm (.cons (vb x0) (.cons (vb o1) (.cons (vb o2) (.cons (vb o3) .nil)))))))))))))))) (by kernel_rfl)
end Go.Proofs.YtbdnigendhhndaaGreatDoor
end
section
/- The reference: Eval. -/
namespace Go.Proofs.YtbdnigendhhndaaGreatDoor
open Go Go.Ev
set_option maxRecDepth 100000

abbrev RefAt (s : List Ctx) (m : List ByteArray) (e : Exp) (b : Bool) : Prop := EvCall cx 24 [.agg [sl (s.map Ctx.row)], sl (strs m), ag e.row] [] (bool b) []
abbrev refSt (s : List Ctx) (m : List ByteArray) (e : Exp) (t : Nat) (i : Nat) : St := ⟨[(1, sl (strs m)), (3, .ref (4, 0) 0), (5, .ref (6, 0) 0), (t, int i)], [((4, 0), cs0 s), ((6, 0), .cells (e.row.map .p))]⟩
def allOutK (b : Bool) : AE × St := bif b then (.exit 1, ⟨[], []⟩) else (.ret, ⟨[(6, bool false)], []⟩)
def anyOutK (b : Bool) : AE × St := bif b then (.ret, ⟨[(6, bool true)], []⟩) else (.exit 3, ⟨[], []⟩)
theorem and_loop (s : List Ctx) (m : List ByteArray) (e : Exp) (p : Exp → Bool) (l : List Exp) (hel : e.kids = l) (hl : l.length ≤ 2 ^ 30) (hp : ∀ k ∈ l, RefAt s m k (p k)) : ∀ (suf pre : List Exp), l = pre ++ suf →
    EvCode cx (EvCall cx) (.loop (loopBody Tryz.f24 0)) (refSt s m e 7 pre.length) (allOutK (!(suf.any fun k => !p k))).1 (allOutK (!(suf.any fun k => !p k))).2
  | [], pre, h => by
    have hq : pre.length = l.length := by rw [h]; simp
    have hge : ¬ (pre.length : Int) < ((rowsE e.kids).length : Nat) := by rw [rowsE_length, hel]; omega
    simp only [List.any_nil, Bool.not_false, allOutK, cond_true]
    exact EvCode.out [F, .same] [] [] (.cons (vb (by simp; omega : decide ((↑pre.length : Int) < (↑(rowsE e.kids).length : Int)) = false)) .nil) (AE.ne_exit _) (by kernel_rfl)
  | x :: r, pre, h => by
    have hlt : (pre.length : Int) < ((rowsE e.kids).length : Nat) := by rw [rowsE_length, hel, h]; simp; omega
    have hlt2 : pre.length < l.length := by rw [h]; simp
    have hrow : rowI (rowsE e.kids) (pre.length : Int) = some x.row := by
      rw [hel]
      exact rowI_rowsE (get_of_split h)
    have hc := hp x (by rw [h]; simp)
    unfold RefAt at hc
    simp only [List.any_cons]
    cases hb : p x with
    | false =>
      rw [hb] at hc
      simp only [Bool.not_false, Bool.true_or, Bool.not_true, allOutK, cond_false]
      clear hp
      exact EvCode.out [T, .same, .row (x.row), .same, .val, .call (Ev.bool false) ([]), .same, .same] [(6 : Nat)] [] (.cons (vb (by simp; omega : decide ((↑pre.length : Int) < (↑(rowsE e.kids).length : Int)) = true)) (.cons hrow (.cons hc .nil))) AE.ne_ret (by kernel_rfl)
    | true =>
      rw [hb] at hc
      have ih := and_loop s m e p l hel hl hp r (pre ++ [x]) (by simp [h])
      simp only [refSt, List.length_append, List.length_singleton] at ih
      simp only [Bool.not_true, Bool.false_or]
      generalize allOutK (!(r.any fun k => !p k)) = o at ih ⊢
      clear hp
      exact EvCode.round [T, .same, .row (x.row), .same, .val, .call (Ev.bool true) ([]), .same, .same, .v (.int .i64 ((pre.length + (1 : Nat) : Nat) : Int))] [(1 : Nat), (3 : Nat), (5 : Nat), (7 : Nat)] [((4 : Nat), (0 : Nat)), ((6 : Nat), (0 : Nat))] (.cons (vb (by simp; omega : decide ((↑pre.length : Int) < (↑(rowsE e.kids).length : Int)) = true)) (.cons hrow (.cons hc (.cons (natVi64 (by omega) (by omega) (by omega) : Value.int .i64 (IntKind.i64.wrap ((↑pre.length : Int) + (1 : Int))) = .int .i64 ((pre.length + (1 : Nat) : Nat) : Int)) .nil)))) (by kernel_rfl) ih
theorem or_loop (s : List Ctx) (m : List ByteArray) (e : Exp) (p : Exp → Bool) (l : List Exp) (hel : e.kids = l) (hl : l.length ≤ 2 ^ 30) (hp : ∀ k ∈ l, RefAt s m k (p k)) : ∀ (suf pre : List Exp), l = pre ++ suf →
    EvCode cx (EvCall cx) (.loop (loopBody Tryz.f24 1)) (refSt s m e 8 pre.length) (anyOutK (suf.any fun k => p k)).1 (anyOutK (suf.any fun k => p k)).2
  | [], pre, h => by
    have hq : pre.length = l.length := by rw [h]; simp
    have hge : ¬ (pre.length : Int) < ((rowsE e.kids).length : Nat) := by rw [rowsE_length, hel]; omega
    simp only [List.any_nil, anyOutK, cond_false]
    exact EvCode.out [F, .same] [] [] (.cons (vb (by simp; omega : decide ((↑pre.length : Int) < (↑(rowsE e.kids).length : Int)) = false)) .nil) (AE.ne_exit _) (by kernel_rfl)
  | x :: r, pre, h => by
    have hlt : (pre.length : Int) < ((rowsE e.kids).length : Nat) := by rw [rowsE_length, hel, h]; simp; omega
    have hlt2 : pre.length < l.length := by rw [h]; simp
    have hrow : rowI (rowsE e.kids) (pre.length : Int) = some x.row := by
      rw [hel]
      exact rowI_rowsE (get_of_split h)
    have hc := hp x (by rw [h]; simp)
    unfold RefAt at hc
    simp only [List.any_cons]
    cases hb : p x with
    | true =>
      rw [hb] at hc
      simp only [Bool.true_or, anyOutK, cond_true]
      clear hp
      exact EvCode.out [T, .same, .row (x.row), .same, .val, .call (Ev.bool true) ([]), .same] [(6 : Nat)] [] (.cons (vb (by simp; omega : decide ((↑pre.length : Int) < (↑(rowsE e.kids).length : Int)) = true)) (.cons hrow (.cons hc .nil))) AE.ne_ret (by kernel_rfl)
    | false =>
      rw [hb] at hc
      have ih := or_loop s m e p l hel hl hp r (pre ++ [x]) (by simp [h])
      simp only [refSt, List.length_append, List.length_singleton] at ih
      simp only [Bool.false_or]
      generalize anyOutK (r.any fun k => p k) = o at ih ⊢
      clear hp
      exact EvCode.round [T, .same, .row (x.row), .same, .val, .call (Ev.bool false) ([]), .same, .v (.int .i64 ((pre.length + (1 : Nat) : Nat) : Int))] [(1 : Nat), (3 : Nat), (5 : Nat), (8 : Nat)] [((4 : Nat), (0 : Nat)), ((6 : Nat), (0 : Nat))] (.cons (vb (by simp; omega : decide ((↑pre.length : Int) < (↑(rowsE e.kids).length : Int)) = true)) (.cons hrow (.cons hc (.cons (natVi64 (by omega) (by omega) (by omega) : Value.int .i64 (IntKind.i64.wrap ((↑pre.length : Int) + (1 : Int))) = .int .i64 ((pre.length + (1 : Nat) : Nat) : Int)) .nil)))) (by kernel_rfl) ih
theorem evalR (s : List Ctx) (hs : ∀ c ∈ s, DrC c) (hl : s.length ≤ 2) (m : List ByteArray) (hm : m.length ≤ 2 ^ 30) (e : Exp) (he : OkD DrawnV e) : RefAt s m e (evalE (testF s) m e) := by
  induction he with
  | @mk e h1 h2 h3 h4 h0 ih =>
    have ht := testR s hs hl e h0 h1
    have hh := hasR m e.name (by omega)
    obtain ⟨o, k, n, vs, ks⟩ := e
    simp only [Exp.kids] at h3 h4 ih
    have he : hasS m n = m.any fun u => n.toList == u.toList := any_congr fun u _ => by
      rw [Bool.eq_iff_iff]
      simp only [beq_iff_eq]
      exact eq_comm
    simp only [Exp.name] at hh
    rw [he] at hh
    have ha := and_loop s m (.mk o k n vs ks) (evalE (testF s) m) ks rfl h3 ih ks [] rfl
    have hor := or_loop s m (.mk o k n vs ks) (evalE (testF s) m) ks rfl h3 ih ks [] rfl
    simp only [refSt, List.length_nil] at ha hor
    rw [← anyNot_any] at ha
    rw [show (ks.any fun k => evalE (testF s) m k) = anyE (testF s) m ks from (anyE_any _ _ _).symm] at hor
    unfold RefAt
    simp only [evalE]
    cases e1 : o == 1 with
    | true =>
      clear ha hor ht hh ih
      simp only [cond_true]
      exact EvCall.run Tryz.f24 Tryz.func24 Tryz.call24 [T, .same, .val] (.cons (vb e1) .nil) (by kernel_rfl)
    | false =>
      cases e2 : o == 2 with
      | true =>
        clear hor ht hh ih
        simp only [cond_true, cond_false]
        cases hb : anyNot (testF s) m ks with
        | true =>
          rw [hb] at ha
          simp only [Bool.not_true, allOutK, cond_false] at ha
          simp only [Bool.not_true]
          exact EvCall.run Tryz.f24 Tryz.func24 Tryz.call24 [F, .same, T, .same, .loop [(1 : Nat), (3 : Nat), (5 : Nat), (7 : Nat)] [((4 : Nat), (0 : Nat)), ((6 : Nat), (0 : Nat))] (AE.ret) ({ e := [((6 : Nat), AV.p (PV.s (Value.bool false)))], s := [] }), .val] (.cons (vb e1) (.cons (vb e2) (.cons ha .nil))) (by kernel_rfl)
        | false =>
          rw [hb] at ha
          simp only [Bool.not_false, allOutK, cond_true] at ha
          simp only [Bool.not_false]
          exact EvCall.run Tryz.f24 Tryz.func24 Tryz.call24 [F, .same, T, .same, .loop [(1 : Nat), (3 : Nat), (5 : Nat), (7 : Nat)] [((4 : Nat), (0 : Nat)), ((6 : Nat), (0 : Nat))] (AE.exit (1 : Nat)) ({ e := [], s := [] }), .val] (.cons (vb e1) (.cons (vb e2) (.cons ha .nil))) (by kernel_rfl)
      | false =>
        cases e3 : o == 3 with
        | true =>
          clear ha ht hh ih
          simp only [cond_true, cond_false]
          cases hb : anyE (testF s) m ks with
          | true =>
            rw [hb] at hor
            simp only [anyOutK, cond_true] at hor
            exact EvCall.run Tryz.f24 Tryz.func24 Tryz.call24 [F, .same, F, .same, T, .same, .loop [(1 : Nat), (3 : Nat), (5 : Nat), (8 : Nat)] [((4 : Nat), (0 : Nat)), ((6 : Nat), (0 : Nat))] (AE.ret) ({ e := [((6 : Nat), AV.p (PV.s (Value.bool true)))], s := [] }), .val] (.cons (vb e1) (.cons (vb e2) (.cons (vb e3) (.cons hor .nil)))) (by kernel_rfl)
          | false =>
            rw [hb] at hor
            simp only [anyOutK, cond_false] at hor
            exact EvCall.run Tryz.f24 Tryz.func24 Tryz.call24 [F, .same, F, .same, T, .same, .loop [(1 : Nat), (3 : Nat), (5 : Nat), (8 : Nat)] [((4 : Nat), (0 : Nat)), ((6 : Nat), (0 : Nat))] (AE.exit (3 : Nat)) ({ e := [], s := [] }), .val] (.cons (vb e1) (.cons (vb e2) (.cons (vb e3) (.cons hor .nil)))) (by kernel_rfl)
        | false =>
          cases e4 : o == 4 with
          | true =>
            clear ha hor ht hh
            simp only [cond_true, cond_false]
            cases ks with
            | nil =>
              simp only [headNot]
              exact EvCall.run Tryz.f24 Tryz.func24 Tryz.call24 [F, .same, F, .same, F, .same, T, .same, .same, .same, .same, .same, .same, .same, .same, .same, .same, .same, .val] (.cons (vb e1) (.cons (vb e2) (.cons (vb e3) (.cons (vb e4) .nil)))) (by kernel_rfl)
            | cons x r =>
              have hx := ih x (by simp)
              have hr : rowI (rowsE (x :: r)) 0 = some x.row := by rw [rowsE_map]; rfl
              have hg : decide (((rowsE (x :: r)).length : Int) > 0) = true := by simp [rowsE]
              simp only [headNot]
              clear ih
              unfold RefAt at hx
              exact EvCall.run Tryz.f24 Tryz.func24 Tryz.call24 [F, .same, F, .same, F, .same, T, .same, T, .same, .same, .same, .same, .same, .row (x.row), .same, .same, .same, .val, .call (Ev.bool (evalE (testF s) m x)) ([]), .same, .same, .same, .val] (.cons (vb e1) (.cons (vb e2) (.cons (vb e3) (.cons (vb e4) (.cons (vb hg) (.cons hr (.cons hx .nil))))))) (by kernel_rfl)
          | false =>
            simp only [cond_false]
            cases e5 : o == 5 with
            | true =>
              clear ha hor ht ih
              simp only [cond_true]
              exact EvCall.run Tryz.f24 Tryz.func24 Tryz.call24 [F, .same, F, .same, F, .same, F, .same, T, .same, .val, .call (Ev.bool (m.any fun (u : ByteArray) => n.toList == u.toList)) ([]), .val] (.cons (vb e1) (.cons (vb e2) (.cons (vb e3) (.cons (vb e4) (.cons (vb e5) (.cons hh .nil)))))) (by kernel_rfl)
            | false =>
              clear ha hor hh ih
              simp only [cond_false]
              exact EvCall.run Tryz.f24 Tryz.func24 Tryz.call24 [F, .same, F, .same, F, .same, F, .same, F, .same, .val, .call (Ev.bool (testF s (Exp.mk o k n vs ks))) ([]), .val] (.cons (vb e1) (.cons (vb e2) (.cons (vb e3) (.cons (vb e4) (.cons (vb e5) (.cons ht .nil)))))) (by kernel_rfl)
end Go.Proofs.YtbdnigendhhndaaGreatDoor
end
