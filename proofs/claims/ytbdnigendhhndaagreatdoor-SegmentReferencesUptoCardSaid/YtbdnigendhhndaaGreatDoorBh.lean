/- A part of the proofs of this seat's laws (abstract interpretation of the translated program, and contracts of its functions); no statement of its own. -/
import Derived.Test.YtbdnigendhhndaaGreatDoorBg
import Derived.Test.YtbdnigendhhndaaGreatDoorBc
import Derived.Test.YtbdnigendhhndaaGreatDoorUa
set_option linter.unusedVariables false
set_option linter.unusedSimpArgs false
section
/- The reference: Same, Find, Lookup, IsTest, Equal, sign. -/
namespace Go.Proofs.YtbdnigendhhndaaGreatDoor
open Go Go.Ev
set_option maxRecDepth 100000

def allOut (t : Nat) (b : Bool) : AE × St := bif b then (.exit 0, ⟨[], []⟩) else (.ret, ⟨[(t, bool false)], []⟩)
theorem same_loop (l m : List ByteArray) (hl : l.length ≤ 2 ^ 62) (he : l.length = m.length) : ∀ (s pl s' pm : List ByteArray), l = pl ++ s → m = pm ++ s' → pl.length = pm.length →
    EvCode cx (EvCall cx) (.loop (loopBody Tryz.f12 0)) ⟨[(0, sl (strs l)), (1, sl (strs m)), (5, int pl.length)], []⟩ (allOut 4 (eqSs s s')).1 (allOut 4 (eqSs s s')).2
  | [], pl, s', pm, h, h', hp => by
    have hq : pl.length = l.length := by rw [h]; simp
    have hge : ¬ (pl.length : Int) < (l.length : Int) := by omega
    have hs : s' = [] := by
      apply List.eq_nil_of_length_eq_zero
      have := congrArg List.length h'
      simp at this
      omega
    subst hs
    simp only [eqL, allOut, cond_true]
    exact EvCode.out [F, .same] [] [] (.cons (vb (by simp [strs_length, rowsE_length]; omega : decide ((↑pl.length : Int) < (↑(strs l).length : Int)) = false)) .nil) (AE.ne_exit _) (by kernel_rfl)
  | a :: r, pl, [], pm, h, h', hp => by
    exfalso
    have h1 := congrArg List.length h
    have h2 := congrArg List.length h'
    simp at h1 h2
    omega
  | a :: r, pl, b :: q, pm, h, h', hp => by
    have hlt : pl.length < l.length := by rw [h]; simp
    have hx : l[pl.length]? = some a := get_of_split h
    have hy : m[pl.length]? = some b := by rw [hp]; exact get_of_split h'
    simp only [eqL]
    cases hb : eqS a b with
    | false =>
      have hb2 : (!(a.toList == b.toList)) = true := by unfold eqS at hb; rw [hb]; rfl
      simp only [Bool.false_and, allOut, cond_false]
      exact EvCode.out [T, .same, .row ([pS a]), .same, .row ([pS b]), .same, T, .same] [(4 : Nat)] [] (.cons (vb (by simp [strs_length, rowsE_length]; omega : decide ((↑pl.length : Int) < (↑(strs l).length : Int)) = true)) (.cons (rowI_strs hx : rowI (strs l) (↑pl.length : Int) = some [pS a]) (.cons (rowI_strs hy : rowI (strs m) (↑pl.length : Int) = some [pS b]) (.cons (vb hb2) .nil)))) AE.ne_ret (by kernel_rfl)
    | true =>
      have hb2 : (!(a.toList == b.toList)) = false := by unfold eqS at hb; rw [hb]; rfl
      have ih := same_loop l m hl he r (pl ++ [a]) q (pm ++ [b]) (by simp [h]) (by simp [h']) (by simp [hp])
      simp only [List.length_append, List.length_singleton] at ih
      simp only [Bool.true_and]
      generalize allOut 4 (eqSs r q) = o at ih ⊢
      exact EvCode.round [T, .same, .row ([pS a]), .same, .row ([pS b]), .same, F, .same, .v (.int .i64 ((pl.length + (1 : Nat) : Nat) : Int))] [(0 : Nat), (1 : Nat), (5 : Nat)] [] (.cons (vb (by simp [strs_length, rowsE_length]; omega : decide ((↑pl.length : Int) < (↑(strs l).length : Int)) = true)) (.cons (rowI_strs hx : rowI (strs l) (↑pl.length : Int) = some [pS a]) (.cons (rowI_strs hy : rowI (strs m) (↑pl.length : Int) = some [pS b]) (.cons (vb hb2) (.cons (natVi64 (by omega) (by omega) (by omega) : Value.int .i64 (IntKind.i64.wrap ((↑pl.length : Int) + (1 : Int))) = .int .i64 ((pl.length + (1 : Nat) : Nat) : Int)) .nil))))) (by kernel_rfl) ih
theorem eqL_len {α : Type} (p : α → α → Bool) : ∀ (l m : List α), l.length ≠ m.length → eqL p l m = false
  | [], [], h => absurd rfl h
  | [], _ :: _, _ => rfl
  | _ :: _, [], _ => rfl
  | a :: r, b :: q, h => by simp only [eqL]; rw [eqL_len p r q (by simp at h; omega)]; simp
theorem same12 (l m : List ByteArray) (hl : l.length ≤ 2 ^ 62) : EvCall cx 12 [sl (strs l), sl (strs m)] [] (bool (eqSs l m)) [] := by
  by_cases he : l.length = m.length
  · have h := same_loop l m hl he l [] m [] rfl rfl rfl
    simp only [List.length_nil] at h
    have hne : (((strs l).length : Int) != ((strs m).length : Nat)) = false := by simp [strs_length, he]
    cases hb : eqSs l m with
    | true =>
      rw [hb] at h
      simp only [allOut, cond_true] at h
      exact EvCall.run Tryz.f12 Tryz.func12 Tryz.call12 [F, .same, .loop [(0 : Nat), (1 : Nat), (5 : Nat)] [] (AE.exit (0 : Nat)) ({ e := [], s := [] }), .val] (.cons (vb hne) (.cons h .nil)) (by kernel_rfl)
    | false =>
      rw [hb] at h
      simp only [allOut, cond_false] at h
      exact EvCall.run Tryz.f12 Tryz.func12 Tryz.call12 [F, .same, .loop [(0 : Nat), (1 : Nat), (5 : Nat)] [] (AE.ret) ({ e := [((4 : Nat), AV.p (PV.s (Value.bool false)))], s := [] }), .val] (.cons (vb hne) (.cons h .nil)) (by kernel_rfl)
  · have hne : (((strs l).length : Int) != ((strs m).length : Nat)) = true := by simp [strs_length]; omega
    rw [show eqSs l m = false from eqL_len _ l m he]
    exact EvCall.run Tryz.f12 Tryz.func12 Tryz.call12 [T, .same, .val] (.cons (vb hne) .nil) (by kernel_rfl)
theorem isTest81 (o : Int) : EvCall cx 81 [int o] [] (bool (isTest o)) [] := by
  unfold isTest
  cases h1 : decide (o ≥ 6) with
  | false => simp only [Bool.false_and]; exact EvCall.run Tryz.f81 Tryz.func81 Tryz.call81 [F, .same, .same, .same, .val] (.cons (vb h1) .nil) (by kernel_rfl)
  | true =>
    cases h2 : decide (o ≤ 15) with
    | false => simp only [Bool.and_false]; exact EvCall.run Tryz.f81 Tryz.func81 Tryz.call81 [T, .same, .same, F, .same, .val] (.cons (vb h1) (.cons (vb h2) .nil)) (by kernel_rfl)
    | true => simp only [Bool.and_true]; exact EvCall.run Tryz.f81 Tryz.func81 Tryz.call81 [T, .same, .same, T, .same, .val] (.cons (vb h1) (.cons (vb h2) .nil)) (by kernel_rfl)
theorem equal82 (v w : Val) (hv : v.list.length ≤ 2 ^ 62) : EvCall cx 82 [ag v.row, ag w.row] [] (bool (eqV v w)) [] := by
  have h := same12 v.list w.list hv
  unfold eqV
  cases b1 : (v.kind == w.kind) with
  | false => simp only [Bool.false_and]; exact EvCall.run Tryz.f82 Tryz.func82 Tryz.call82 [F, .same, .same, .same, .same, .same, .same, .same, .same, .same, .same, .same, .same, .same, .same, .same, .same, .same, .same, .val] (.cons (vb b1) .nil) (by kernel_rfl)
  | true =>
    cases b2 : (v.number == w.number) with
    | false => simp only [Bool.false_and, Bool.and_false]; exact EvCall.run Tryz.f82 Tryz.func82 Tryz.call82 [T, .same, .same, .same, .same, .same, F, .same, .same, .same, .same, .same, .same, .same, .same, .same, .same, .same, .same, .same, .val] (.cons (vb b1) (.cons (vb b2) .nil)) (by kernel_rfl)
    | true =>
      cases b3 : eqS v.text w.text with
      | false => simp only [Bool.false_and, Bool.and_false]; exact EvCall.run Tryz.f82 Tryz.func82 Tryz.call82 [T, .same, .same, .same, .same, .same, T, .same, .same, .same, .same, .same, .same, F, .same, .same, .same, .same, .same, .same, .same, .val] (.cons (vb b1) (.cons (vb b2) (.cons (vb b3) .nil))) (by kernel_rfl)
      | true => simp only [Bool.true_and]; exact EvCall.run Tryz.f82 Tryz.func82 Tryz.call82 [T, .same, .same, .same, .same, .same, T, .same, .same, .same, .same, .same, .same, T, .same, .same, .same, .same, .same, .same, .val, .call (Ev.bool (eqSs v.list w.list)) ([]), .same, .val] (.cons (vb b1) (.cons (vb b2) (.cons (vb b3) (.cons h .nil)))) (by kernel_rfl)
theorem sign127 (a b : Bool) : EvCall cx 127 [bool a, bool b] [] (int (bif a then -1 else bif b then 1 else 0)) [] := by
  cases a with
  | true => exact EvCall.run Tryz.f127 Tryz.func127 Tryz.call127 [.same, .val] .nil (by kernel_rfl)
  | false =>
    cases b with
    | true => exact EvCall.run Tryz.f127 Tryz.func127 Tryz.call127 [.same, .same, .val] .nil (by kernel_rfl)
    | false => exact EvCall.run Tryz.f127 Tryz.func127 Tryz.call127 [.same, .same, .val] .nil (by kernel_rfl)
end Go.Proofs.YtbdnigendhhndaaGreatDoor
end
section
/- The reference: Find, Lookup, within. -/
namespace Go.Proofs.YtbdnigendhhndaaGreatDoor
open Go Go.Ev
set_option maxRecDepth 100000

abbrev cs0 (s : List Ctx) : AO := .cells [sl (s.map Ctx.row)]
abbrev noC : AO := .cells [str ⟨#[]⟩, str ⟨#[]⟩, .p (.s nilS)]
def findOut (s : List Ctx) (o : Option Ctx) : AE × St := match o with
  | none => (.exit 0, ⟨[(4, .ref (5, 0) 0)], [((5, 0), noC)]⟩)
  | some c => (.ret, ⟨[(4, .ref (5, 0) 0), (5, bool true)], [((5, 0), .cells (c.row.map .p))]⟩)
theorem find_loop (s : List Ctx) (k : ByteArray) (hs : s.length ≤ 2 ^ 62) : ∀ (suf pre : List Ctx), s = pre ++ suf →
    EvCode cx (EvCall cx) (.loop (loopBody Tryz.f78 0)) ⟨[(1, str k), (2, .ref (3, 0) 0), (4, .ref (5, 0) 0), (6, int pre.length)], [((3, 0), cs0 s), ((5, 0), noC)]⟩
      (findOut s (suf.find? fun c => eqS c.kind k)).1 (findOut s (suf.find? fun c => eqS c.kind k)).2
  | [], pre, h => by
    have hq : pre.length = s.length := by rw [h]; simp
    have hge : ¬ (pre.length : Int) < (s.length : Int) := by omega
    simp only [List.find?_nil, findOut]
    exact EvCode.out [F, .same] [(4 : Nat)] [((5 : Nat), (0 : Nat))] (.cons (vb (by simp; omega : decide ((↑pre.length : Int) < (↑(List.map Ctx.row s).length : Int)) = false)) .nil) (AE.ne_exit _) (by kernel_rfl)
  | c :: r, pre, h => by
    have hlt : pre.length < s.length := by rw [h]; simp
    have hrow : rowI (s.map Ctx.row) (pre.length : Int) = some c.row := by
      apply rowI_at
      simp only [List.getElem?_map, get_of_split h, Option.map_some]
    simp only [List.find?_cons]
    cases hb : eqS c.kind k with
    | true =>
      simp only [findOut]
      exact EvCode.out [T, .same, .row (c.row), .same, T, .same, .row (c.row), .same] [(4 : Nat), (5 : Nat)] [((5 : Nat), (0 : Nat))] (.cons (vb (by simp; omega : decide ((↑pre.length : Int) < (↑(List.map Ctx.row s).length : Int)) = true)) (.cons hrow (.cons (vb hb) (.cons hrow .nil)))) AE.ne_ret (by kernel_rfl)
    | false =>
      have ih := find_loop s k hs r (pre ++ [c]) (by simp [h])
      simp only [List.length_append, List.length_singleton] at ih
      generalize findOut s (List.find? (fun c => eqS c.kind k) r) = o at ih ⊢
      exact EvCode.round [T, .same, .row (c.row), .same, F, .same, .v (.int .i64 ((pre.length + (1 : Nat) : Nat) : Int))] [(1 : Nat), (2 : Nat), (4 : Nat), (6 : Nat)] [((3 : Nat), (0 : Nat)), ((5 : Nat), (0 : Nat))] (.cons (vb (by simp; omega : decide ((↑pre.length : Int) < (↑(List.map Ctx.row s).length : Int)) = true)) (.cons hrow (.cons (vb hb) (.cons (natVi64 (by omega) (by omega) (by omega) : Value.int .i64 (IntKind.i64.wrap ((↑pre.length : Int) + (1 : Int))) = .int .i64 ((pre.length + (1 : Nat) : Nat) : Int)) .nil)))) (by kernel_rfl) ih
theorem find78 (s : List Ctx) (k : ByteArray) (hs : s.length ≤ 2 ^ 62) : EvCall cx 78 [.agg [sl (s.map Ctx.row)], str k] [] (.tup [ag (findC s k).1.row, bool (findC s k).2]) [] := by
  have h := find_loop s k hs s [] rfl
  unfold findC
  generalize s.find? (fun c => eqS c.kind k) = o at h ⊢
  cases o with
  | none =>
    simp only [findOut] at h
    exact EvCall.run Tryz.f78 Tryz.func78 Tryz.call78 [.loop [(1 : Nat), (2 : Nat), (4 : Nat), (6 : Nat)] [((3 : Nat), (0 : Nat)), ((5 : Nat), (0 : Nat))] (AE.exit (0 : Nat)) ({ e := [((4 : Nat), AV.ref ((5 : Nat), (0 : Nat)) (0 : Nat))], s := [(((5 : Nat), (0 : Nat)), AO.cells [AV.p (PV.s (Value.string (ByteArray.mk #[]))), AV.p (PV.s (Value.string (ByteArray.mk #[]))), AV.p (PV.s (Value.slice none (0 : Nat) (0 : Nat)))])] }), .val] (.cons h .nil) (by kernel_rfl)
  | some c =>
    simp only [findOut] at h
    exact EvCall.as (r := AV.tup [AV.agg [AV.p (PV.s (Value.string c.kind)), AV.p (PV.s (Value.string c.key)), AV.p (PV.sl (List.map Att.row c.atts))], AV.p (PV.s (Value.bool true))]) (H' := []) (EvCall.run Tryz.f78 Tryz.func78 Tryz.call78 [.loop [(1 : Nat), (2 : Nat), (4 : Nat), (6 : Nat)] [((3 : Nat), (0 : Nat)), ((5 : Nat), (0 : Nat))] (AE.ret) ({ e := [((4 : Nat), AV.ref ((5 : Nat), (0 : Nat)) (0 : Nat)), ((5 : Nat), AV.p (PV.s (Value.bool true)))], s := [(((5 : Nat), (0 : Nat)), AO.cells [AV.p (PV.s (Value.string c.kind)), AV.p (PV.s (Value.string c.key)), AV.p (PV.sl (List.map Att.row c.atts))])] }), .val] (.cons h .nil) (by kernel_rfl)) rfl rfl
def latOut (o : Option Att) : AE × St := match o with
  | none => (.exit 0, ⟨[(6, .ref (7, 0) 0), (7, bool false)], [((7, 0), .cells [int 0, int 0, str ⟨#[]⟩, .p (.s nilS)])]⟩)
  | some a => (.ret, ⟨[(6, .ref (7, 0) 0), (7, bool true)], [((7, 0), .cells (a.value.row.map .p))]⟩)
theorem lookup5_loop (c : Ctx) (l : List Att) (hc : c.atts = l) (nm : ByteArray) (hl : l.length ≤ 2 ^ 62) : ∀ (suf pre : List Att), l = pre ++ suf →
    EvCode cx (EvCall cx) (.loop (loopBody Tryz.f80 0)) ⟨[(2, str nm), (6, .ref (7, 0) 0), (7, bool false), (8, .ref (9, 0) 0), (10, int pre.length)], [((7, 0), .cells [int 0, int 0, str ⟨#[]⟩, .p (.s nilS)]), ((9, 0), .cells (c.row.map .p))]⟩
      (latOut (suf.find? fun a => eqS a.name nm)).1 (latOut (suf.find? fun a => eqS a.name nm)).2
  | [], pre, h => by
    have hq : pre.length = l.length := by rw [h]; simp
    have hge : ¬ (pre.length : Int) < ((c.atts.map Att.row).length : Nat) := by rw [hc]; simp; omega
    simp only [List.find?_nil, latOut]
    exact EvCode.out [F, .same] [(6 : Nat), (7 : Nat)] [((7 : Nat), (0 : Nat))] (.cons (vb (by simp [strs_length, rowsE_length, *] : decide ((↑pre.length : Int) < (↑(List.map Att.row c.atts).length : Int)) = false)) .nil) (AE.ne_exit _) (by kernel_rfl)
  | a :: r, pre, h => by
    have hlt : (pre.length : Int) < ((c.atts.map Att.row).length : Nat) := by rw [hc, h]; simp; omega
    have hlt2 : pre.length < l.length := by rw [h]; simp
    have hrow : rowI (c.atts.map Att.row) (pre.length : Int) = some a.row := by
      rw [hc]
      apply rowI_at
      simp only [List.getElem?_map, get_of_split h, Option.map_some]
    simp only [List.find?_cons]
    cases hb : eqS a.name nm with
    | true =>
      simp only [latOut]
      exact EvCode.out [T, .same, .row (a.row), .same, T, .same, .row (a.row), .same] [(6 : Nat), (7 : Nat)] [((7 : Nat), (0 : Nat))] (.cons (vb (by simp_all [strs_length, rowsE_length] : decide ((↑pre.length : Int) < (↑(List.map Att.row c.atts).length : Int)) = true)) (.cons hrow (.cons (vb hb) (.cons hrow .nil)))) AE.ne_ret (by kernel_rfl)
    | false =>
      have ih := lookup5_loop c l hc nm hl r (pre ++ [a]) (by simp [h])
      simp only [List.length_append, List.length_singleton] at ih
      generalize latOut (List.find? (fun a => eqS a.name nm) r) = o at ih ⊢
      exact EvCode.round [T, .same, .row (a.row), .same, F, .same, .v (.int .i64 ((pre.length + (1 : Nat) : Nat) : Int))] [(2 : Nat), (6 : Nat), (7 : Nat), (8 : Nat), (10 : Nat)] [((7 : Nat), (0 : Nat)), ((9 : Nat), (0 : Nat))] (.cons (vb (by simp_all [strs_length, rowsE_length] : decide ((↑pre.length : Int) < (↑(List.map Att.row c.atts).length : Int)) = true)) (.cons hrow (.cons (vb hb) (.cons (natVi64 (by omega) (by omega) (by omega) : Value.int .i64 (IntKind.i64.wrap ((↑pre.length : Int) + (1 : Int))) = .int .i64 ((pre.length + (1 : Nat) : Nat) : Int)) .nil)))) (by kernel_rfl) ih
theorem lookup80 (s : List Ctx) (kd nm : ByteArray) (hs : s.length ≤ 2 ^ 62) (hok : ∀ c ∈ s, c.Ok) :
    EvCall cx 80 [.agg [sl (s.map Ctx.row)], str kd, str nm] [] (.tup [ag (lookupS s kd nm).1.row, bool (lookupS s kd nm).2]) [] := by
  have hf := find78 s kd hs
  unfold findC at hf
  unfold lookupS
  generalize ho : s.find? (fun c => eqS c.kind kd) = o at hf ⊢
  cases o with
  | none => exact EvCall.run Tryz.f80 Tryz.func80 Tryz.call80 [.val, .call (AV.tup [ag (match none with | some c => (c, true) | none => (noCtx, false)).fst.row, Ev.bool (match none with | some c => (c, true) | none => (noCtx, false)).snd]) ([]), .same, .same, .val] (.cons hf .nil) (by kernel_rfl)
  | some c =>
    dsimp only at hf
    have hc := hok c (List.mem_of_find?_eq_some ho)
    have hl := lookup5_loop c c.atts rfl nm (by have := hc.len; omega) c.atts [] rfl
    cases hb : eqS nm ⟨#[107, 101, 121]⟩ with
    | true =>
      simp only [cond_true]
      exact EvCall.run Tryz.f80 Tryz.func80 Tryz.call80 [.val, .call (AV.tup [ag c.row, Ev.bool true]) ([]), .same, .same, T, .same, .val] (.cons hf (.cons (vb hb) .nil)) (by kernel_rfl)
    | false =>
      simp only [cond_false]
      unfold lookupA
      cases hfa : c.atts.find? fun a => eqS a.name nm with
      | none =>
        rw [hfa] at hl
        simp only [latOut] at hl
        exact EvCall.run Tryz.f80 Tryz.func80 Tryz.call80 [.val, .call (AV.tup [ag c.row, Ev.bool true]) ([]), .same, .same, F, .same, .loop [(2 : Nat), (6 : Nat), (7 : Nat), (8 : Nat), (10 : Nat)] [((7 : Nat), (0 : Nat)), ((9 : Nat), (0 : Nat))] (AE.exit (0 : Nat)) ({ e := [((6 : Nat), AV.ref ((7 : Nat), (0 : Nat)) (0 : Nat)), ((7 : Nat), AV.p (PV.s (Value.bool false)))], s := [(((7 : Nat), (0 : Nat)), AO.cells [AV.p (PV.s (Value.int IntKind.i64 (0 : Int))), AV.p (PV.s (Value.int IntKind.i64 (0 : Int))), AV.p (PV.s (Value.string (ByteArray.mk #[]))), AV.p (PV.s (Value.slice none (0 : Nat) (0 : Nat)))])] }), .val] (.cons hf (.cons (vb hb) (.cons hl .nil))) (by kernel_rfl)
      | some a =>
        rw [hfa] at hl
        simp only [latOut] at hl
        exact EvCall.as (r := AV.tup [AV.agg [AV.p (PV.s (Value.int IntKind.i64 a.value.kind)), AV.p (PV.s (Value.int IntKind.i64 a.value.number)), AV.p (PV.s (Value.string a.value.text)), AV.p (PV.sl (strs a.value.list))], AV.p (PV.s (Value.bool true))]) (H' := []) (EvCall.run Tryz.f80 Tryz.func80 Tryz.call80 [.val, .call (AV.tup [ag c.row, Ev.bool true]) ([]), .same, .same, F, .same, .loop [(2 : Nat), (6 : Nat), (7 : Nat), (8 : Nat), (10 : Nat)] [((7 : Nat), (0 : Nat)), ((9 : Nat), (0 : Nat))] (AE.ret) ({ e := [((6 : Nat), AV.ref ((7 : Nat), (0 : Nat)) (0 : Nat)), ((7 : Nat), AV.p (PV.s (Value.bool true)))], s := [(((7 : Nat), (0 : Nat)), AO.cells [AV.p (PV.s (Value.int IntKind.i64 a.value.kind)), AV.p (PV.s (Value.int IntKind.i64 a.value.number)), AV.p (PV.s (Value.string a.value.text)), AV.p (PV.sl (strs a.value.list))])] }), .val] (.cons hf (.cons (vb hb) (.cons hl .nil))) (by kernel_rfl)) rfl rfl
def withinF (s t : ByteArray) (i : Int) : Bool := bif decide (i ≥ 0) then bif decide (i + t.size ≤ s.size) then (s.extract i.toNat (i + t.size).toNat).toList == t.toList else false else false
theorem within83 (s t : ByteArray) (i : Int) (hs : s.size ≤ 2 ^ 40) (ht : t.size ≤ 2 ^ 40) (h1 : -(2 ^ 41) ≤ i) (h2 : i ≤ 2 ^ 41) : EvCall cx 83 [str s, str t, int i] [] (bool (withinF s t i)) [] := by
  unfold withinF
  have hw : Value.int .i64 (IntKind.i64.wrap (i + (t.size : Int))) = .int .i64 (i + t.size) := by rw [wrap_id (by omega) (by omega)]
  cases b1 : decide (i ≥ 0) with
  | false => exact EvCall.run Tryz.f83 Tryz.func83 Tryz.call83 [F, .same, .same, .same, .same, .same, .same, .same, .same, .same, .same, .same, .same, .same, .same, .same, .same, .same, .same, .val] (.cons (vb b1) .nil) (by kernel_rfl)
  | true =>
    cases b2 : decide (i + (t.size : Int) ≤ (s.size : Int)) with
    | false => exact EvCall.run Tryz.f83 Tryz.func83 Tryz.call83 [T, .same, .same, .same, .same, .v (.int .i64 (i + (↑t.size : Int))), .same, .same, .same, F, .same, .same, .same, .same, .same, .same, .same, .same, .same, .same, .same, .val] (.cons (vb b1) (.cons (wrapVi64 (e := i + (↑t.size : Int)) (by omega) (by omega)) (.cons (vb b2) .nil))) (by kernel_rfl)
    | true =>
      have := of_decide_eq_true b1
      have := of_decide_eq_true b2
      have h3 : 0 ≤ i ∧ i ≤ i + (t.size : Int) ∧ i + (t.size : Int) ≤ (s.size : Int) := by omega
      simp only [cond_true]
      exact EvCall.run Tryz.f83 Tryz.func83 Tryz.call83 [T, .same, .same, .same, .same, .v (.int .i64 (i + (↑t.size : Int))), .same, .same, .same, T, .same, .same, .same, .same, .same, .same, .same, .v (.int .i64 (i + (↑t.size : Int))), .same, .same, .same, .same, .same, .same, .val] (.cons (vb b1) (.cons (wrapVi64 (e := i + (↑t.size : Int)) (by omega) (by omega)) (.cons (vb b2) (.cons (wrapVi64 (e := i + (↑t.size : Int)) (by omega) (by omega)) (.cons (h3 : (0 : Int) ≤ i ∧ i ≤ (some (i + (↑t.size : Int))).getD (↑s.size : Int) ∧ (some (i + (↑t.size : Int))).getD (↑s.size : Int) ≤ (↑s.size : Int)) .nil))))) (by kernel_rfl)
end Go.Proofs.YtbdnigendhhndaaGreatDoor
end
section
/- The reference: contains. -/
namespace Go.Proofs.YtbdnigendhhndaaGreatDoor
open Go Go.Ev
set_option maxRecDepth 100000

/-- Some instance from i on. -/
def occF (s t : ByteArray) : Nat → Nat → Bool
  | 0, _ => false
  | f + 1, i => bif decide ((i : Int) + (t.size : Int) ≤ (s.size : Int)) then (bif withinF s t (i : Int) then true else occF s t f (i + 1)) else false
theorem withinF_nat (s t : ByteArray) (i : Nat) (h : i + t.size ≤ s.size) : withinF s t (i : Int) = Lib.occAt s.data.toList t.data.toList i := by
  unfold withinF
  have h1 : decide ((i : Int) ≥ 0) = true := by simp
  have h2 : decide ((i : Int) + (t.size : Int) ≤ (s.size : Int)) = true := by simp; omega
  rw [h1, h2, Lib.occ_of_piece s t i h]
  have h3 : ((i : Int) + (t.size : Int)).toNat = i + t.size := by omega
  simp only [cond_true, Int.toNat_natCast, h3]
theorem occF_true (s t : ByteArray) : ∀ (f i : Nat), occF s t f i = true → ∃ j, j + t.size ≤ s.size ∧ Lib.occAt s.data.toList t.data.toList j = true
  | 0, i, h => by cases h
  | f + 1, i, h => by
    simp only [occF] at h
    cases hb : decide ((i : Int) + (t.size : Int) ≤ (s.size : Int)) with
    | false => rw [hb] at h; cases h
    | true =>
      have := of_decide_eq_true hb
      rw [hb] at h
      simp only [cond_true] at h
      cases hw : withinF s t (i : Int) with
      | true => exact ⟨i, by omega, by rw [← withinF_nat s t i (by omega)]; exact hw⟩
      | false => rw [hw] at h; exact occF_true s t f (i + 1) h
theorem occF_false (s t : ByteArray) : ∀ (f i : Nat), s.size < f + i → occF s t f i = false → ∀ j, i ≤ j → j + t.size ≤ s.size → Lib.occAt s.data.toList t.data.toList j = false
  | 0, i, hf, h, j, hj, hle => by omega
  | f + 1, i, hf, h, j, hj, hle => by
    simp only [occF] at h
    have hb : decide ((i : Int) + (t.size : Int) ≤ (s.size : Int)) = true := by simp; omega
    rw [hb] at h
    simp only [cond_true] at h
    cases hw : withinF s t (i : Int) with
    | true => rw [hw] at h; cases h
    | false =>
      rw [hw] at h
      by_cases he : j = i
      · subst he; rw [← withinF_nat s t j hle]; exact hw
      · exact occF_false s t f (i + 1) (by omega) h j (by omega) hle
theorem occF_contains (s t : ByteArray) : occF s t (s.size + 1) 0 = Lib.contains s.data.toList t.data.toList := by
  have hs : s.data.toList.length = s.size := by simp
  have ht : t.data.toList.length = t.size := by simp
  unfold Lib.contains
  rcases Lib.index_spec s.data.toList t.data.toList with ⟨h1, h2⟩ | ⟨i, h1, h2, h3, _⟩
  · rw [h1]
    cases ho : occF s t (s.size + 1) 0 with
    | false => rfl
    | true =>
      obtain ⟨j, hj, hoc⟩ := occF_true s t _ _ ho
      rw [h2 j (by omega)] at hoc
      cases hoc
  · rw [h1]
    have hd : decide ((0 : Int) ≤ (i : Int)) = true := by simp
    rw [hd]
    cases ho : occF s t (s.size + 1) 0 with
    | true => rfl
    | false =>
      have hroom : i + t.size ≤ s.size := by
        rcases Lib.occAt_room h3 with h | h
        · omega
        · have : t.size = 0 := by rw [← ht, h]; rfl
          omega
      rw [occF_false s t _ 0 (by omega) ho i (by omega) hroom] at h3
      cases h3
theorem cont_loop (v w : Val) (k : (v.kind == 3) = true) (hv : v.text.size ≤ 2 ^ 40) (hw : w.text.size ≤ 2 ^ 40) : ∀ (f i : Nat), i + f = v.text.size + 1 →
    EvCode cx (EvCall cx) (.loop (loopBody Tryz.f84 0)) ⟨[(2, .ref (3, 0) 0), (3, .ref (4, 0) 0), (5, int i)], [((3, 0), .cells (v.row.map .p)), ((4, 0), .cells (w.row.map .p))]⟩
      (anyOut 4 (occF v.text w.text f i)).1 (anyOut 4 (occF v.text w.text f i)).2 := by
  intro f
  induction f with
  | zero =>
    intro i hi
    have hge : decide ((i : Int) + (w.text.size : Int) ≤ (v.text.size : Int)) = false := by simp; omega
    have hwr : Value.int .i64 (IntKind.i64.wrap ((i : Int) + (w.text.size : Int))) = .int .i64 ((i : Int) + (w.text.size : Int)) := by rw [wrap_id (by omega) (by omega)]
    simp only [occF, anyOut, cond_false]
    exact EvCode.out [T, .same, .same, .same, .same, .same, .v (.int .i64 ((i + w.text.size : Nat) : Int)), .same, .same, .same, .same, F, .same, .same] [] [] (.cons (vb k) (.cons (natVi64 (by omega) (by omega) (by omega) : Value.int .i64 (IntKind.i64.wrap ((↑i : Int) + (↑w.text.size : Int))) = .int .i64 ((i + w.text.size : Nat) : Int)) (.cons (vb hge) .nil))) (AE.ne_exit _) (by kernel_rfl)
  | succ f ih =>
    intro i hi
    have hwr : Value.int .i64 (IntKind.i64.wrap ((i : Int) + (w.text.size : Int))) = .int .i64 ((i : Int) + (w.text.size : Int)) := by rw [wrap_id (by omega) (by omega)]
    have hc := within83 v.text w.text (i : Int) hv hw (by omega) (by omega)
    simp only [occF]
    cases hb : decide ((i : Int) + (w.text.size : Int) ≤ (v.text.size : Int)) with
    | false =>
      simp only [anyOut, cond_false]
      clear ih
      exact EvCode.out [T, .same, .same, .same, .same, .same, .v (.int .i64 ((i + w.text.size : Nat) : Int)), .same, .same, .same, .same, F, .same, .same] [] [] (.cons (vb k) (.cons (natVi64 (by omega) (by omega) (by omega) : Value.int .i64 (IntKind.i64.wrap ((↑i : Int) + (↑w.text.size : Int))) = .int .i64 ((i + w.text.size : Nat) : Int)) (.cons (vb hb) .nil))) (AE.ne_exit _) (by kernel_rfl)
    | true =>
      simp only [cond_true]
      cases hw2 : withinF v.text w.text (i : Int) with
      | true =>
        rw [hw2] at hc
        simp only [anyOut, cond_true]
        clear ih
        exact EvCode.out [T, .same, .same, .same, .same, .same, .v (.int .i64 ((i + w.text.size : Nat) : Int)), .same, .same, .same, .same, T, .same, .same, .val, .call (Ev.bool true) ([]), .same] [(4 : Nat)] [] (.cons (vb k) (.cons (natVi64 (by omega) (by omega) (by omega) : Value.int .i64 (IntKind.i64.wrap ((↑i : Int) + (↑w.text.size : Int))) = .int .i64 ((i + w.text.size : Nat) : Int)) (.cons (vb hb) (.cons hc .nil)))) AE.ne_ret (by kernel_rfl)
      | false =>
        rw [hw2] at hc
        have ih := ih (i + 1) (by omega)
        simp only [cond_false]
        generalize anyOut 4 (occF v.text w.text f (i + 1)) = o at ih ⊢
        exact EvCode.round [T, .same, .same, .same, .same, .same, .v (.int .i64 ((i + w.text.size : Nat) : Int)), .same, .same, .same, .same, T, .same, .same, .val, .call (Ev.bool false) ([]), .same, .v (.int .i64 ((i + (1 : Nat) : Nat) : Int))] [(2 : Nat), (3 : Nat), (5 : Nat)] [((3 : Nat), (0 : Nat)), ((4 : Nat), (0 : Nat))] (.cons (vb k) (.cons (natVi64 (by omega) (by omega) (by omega) : Value.int .i64 (IntKind.i64.wrap ((↑i : Int) + (↑w.text.size : Int))) = .int .i64 ((i + w.text.size : Nat) : Int)) (.cons (vb hb) (.cons hc (.cons (natVi64 (by omega) (by omega) (by omega) : Value.int .i64 (IntKind.i64.wrap ((↑i : Int) + (1 : Int))) = .int .i64 ((i + (1 : Nat) : Nat) : Int)) .nil))))) (by kernel_rfl) ih
theorem contains84 (v w : Val) (hv : v.text.size ≤ 2 ^ 40) (hw : w.text.size ≤ 2 ^ 40) (hl : v.list.length ≤ 2 ^ 62) : EvCall cx 84 [ag v.row, ag w.row] [] (bool (opF 11 v w)) [] := by
  have hh := hasR v.list w.text hl
  have he : hasS v.list w.text = v.list.any fun u => w.text.toList == u.toList := any_congr fun u _ => by
    rw [Bool.eq_iff_iff]
    simp only [beq_iff_eq]
    exact eq_comm
  rw [he] at hh
  have ho : opF 11 v w = (v.kind == 3 && (w.kind == 3 && Lib.contains v.text.data.toList w.text.data.toList) || (w.kind == 3 && (v.kind == 5 && v.list.any fun u => w.text.toList == u.toList))) := rfl
  rw [ho]
  cases k2 : w.kind == 3 with
  | false =>
    simp only [Bool.false_and, Bool.and_false, Bool.or_false]
    have k2' : (w.kind != 3) = true := by simp at k2 ⊢; exact k2
    exact EvCall.run Tryz.f84 Tryz.func84 Tryz.call84 [T, .same, .val] (.cons (vb k2') .nil) (by kernel_rfl)
  | true =>
    have k2' : (w.kind != 3) = false := by simp at k2 ⊢; exact k2
    cases k5 : v.kind == 5 with
    | true =>
      have k3 : (v.kind == 3) = false := by rw [eq_of_beq k5]; rfl
      simp only [k3, Bool.false_and, Bool.true_and, Bool.false_or]
      exact EvCall.run Tryz.f84 Tryz.func84 Tryz.call84 [F, .same, T, .same, .val, .call (Ev.bool (v.list.any fun (u : ByteArray) => w.text.toList == u.toList)) ([]), .val] (.cons (vb k2') (.cons (vb k5) (.cons hh .nil))) (by kernel_rfl)
    | false =>
      cases k3 : v.kind == 3 with
      | false =>
        simp only [Bool.false_and, Bool.and_false, Bool.or_false]
        have hlp : EvCode cx (EvCall cx) (.loop (loopBody Tryz.f84 0)) ⟨[(2, .ref (3, 0) 0), (3, .ref (4, 0) 0), (5, int 0)], [((3, 0), .cells (v.row.map .p)), ((4, 0), .cells (w.row.map .p))]⟩ (.exit 0) ⟨[], []⟩ := by
          exact EvCode.out [F, .same, .same, .same, .same, .same, .same, .same, .same, .same, .same, .same] [] [] (.cons (vb k3) .nil) (AE.ne_exit _) (by kernel_rfl)
        exact EvCall.run Tryz.f84 Tryz.func84 Tryz.call84 [F, .same, F, .same, .loop [(2 : Nat), (3 : Nat), (5 : Nat)] [((3 : Nat), (0 : Nat)), ((4 : Nat), (0 : Nat))] (AE.exit (0 : Nat)) ({ e := [], s := [] }), .val] (.cons (vb k2') (.cons (vb k5) (.cons hlp .nil))) (by kernel_rfl)
      | true =>
        simp only [Bool.true_and, Bool.false_and, Bool.or_false]
        have hlp := cont_loop v w k3 hv hw (v.text.size + 1) 0 (by omega)
        rw [occF_contains] at hlp
        cases hc : Lib.contains v.text.data.toList w.text.data.toList with
        | true =>
          rw [hc] at hlp
          simp only [anyOut, cond_true] at hlp
          exact EvCall.run Tryz.f84 Tryz.func84 Tryz.call84 [F, .same, F, .same, .loop [(2 : Nat), (3 : Nat), (5 : Nat)] [((3 : Nat), (0 : Nat)), ((4 : Nat), (0 : Nat))] (AE.ret) ({ e := [((4 : Nat), AV.p (PV.s (Value.bool true)))], s := [] }), .val] (.cons (vb k2') (.cons (vb k5) (.cons hlp .nil))) (by kernel_rfl)
        | false =>
          rw [hc] at hlp
          simp only [anyOut, cond_false] at hlp
          exact EvCall.run Tryz.f84 Tryz.func84 Tryz.call84 [F, .same, F, .same, .loop [(2 : Nat), (3 : Nat), (5 : Nat)] [((3 : Nat), (0 : Nat)), ((4 : Nat), (0 : Nat))] (AE.exit (0 : Nat)) ({ e := [], s := [] }), .val] (.cons (vb k2') (.cons (vb k5) (.cons hlp .nil))) (by kernel_rfl)
end Go.Proofs.YtbdnigendhhndaaGreatDoor
end
