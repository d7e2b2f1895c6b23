/- A part of the proofs of this seat's laws (abstract interpretation of the translated program, and contracts of its functions); no statement of its own. -/
import Derived.Test.YtbdnigendhhndaaGreatDoorBc
import Derived.Test.YtbdnigendhhndaaGreatDoorBa
set_option linter.unusedVariables false
set_option linter.unusedSimpArgs false
section
/- graph.Order and what it calls. -/
namespace Go.Proofs.YtbdnigendhhndaaGreatDoor
open Go Go.Ev
set_option maxRecDepth 100000

/-- The map 'done': the texts in it. -/
def doneR (D : List ByteArray) : List (Value × List PV) := D.map fun k => (.string k, [.s (.bool true)])
theorem doneR_keys (D : List ByteArray) (x : ByteArray) : (∀ y ∈ doneR D, keyB cx.ty 9 y.1 = true) ∧ keyB cx.ty 9 (.string x) = true := by
  refine ⟨fun y hy => ?_, rfl⟩
  simp only [doneR, List.mem_map] at hy
  obtain ⟨k, _, rfl⟩ := hy
  rfl
theorem doneR_has (D : List ByteArray) (x : ByteArray) : mapHas (doneR D) (.string x) = D.any fun k => x.toList == k.toList := by
  induction D with
  | nil => rfl
  | cons k r ih => simp only [doneR, List.map_cons, mapHas, keyEq, List.any_cons]; rw [← ih]; rfl
theorem doneR_get (D : List ByteArray) (x : ByteArray) (h : (D.any fun k => x.toList == k.toList) = true) : mapGet (doneR D) (.string x) = some [.s (.bool true)] := by
  induction D with
  | nil => simp at h
  | cons k r ih =>
    simp only [doneR, List.map_cons, mapGet, keyEq]
    cases hk : x.toList == k.toList with
    | true => rfl
    | false =>
      simp only [List.any_cons, hk, Bool.false_or] at h
      exact ih h
def inD (D : List ByteArray) (x : ByteArray) : Bool := D.any fun k => x.toList == k.toList

theorem order65 (D : List ByteArray) (x : ByteArray) : EvCall cx 65 [str x, .ref (0, 0) 0] [.cells [.mp (0, 1)], .map false (doneR D)] (bool (!inD D x)) [.cells [.mp (0, 1)], .map false (doneR D)] := by
  have hk := doneR_keys D x
  have hh := doneR_has D x
  unfold inD
  cases hb : D.any fun k => x.toList == k.toList with
  | true =>
    have hg := doneR_get D x hb
    rw [hb] at hh
    exact EvCall.run Tryz.f65 Tryz.func65 Tryz.call65 [.b true, .row ([PV.s (Value.bool true)]), .same] (.cons (hk : (∀ (y : Value × List PV), y ∈ doneR D → keyB cx.ty (9 : Nat) y.fst = true) ∧ true = true) (.cons hh (.cons hg .nil))) (by kernel_rfl)
  | false =>
    rw [hb] at hh
    exact EvCall.run Tryz.f65 Tryz.func65 Tryz.call65 [.b false, .same] (.cons (hk : (∀ (y : Value × List PV), y ∈ doneR D → keyB cx.ty (9 : Nat) y.fst = true) ∧ true = true) (.cons hh .nil)) (by kernel_rfl)
abbrev HD (D : List ByteArray) : List AO := [.cells [.mp (0, 1)], .map false (doneR D)]
abbrev SD (D : List ByteArray) : List (Ev.Id × AO) := [((0, 0), .cells [.mp (0, 1)]), ((0, 1), .map false (doneR D))]
theorem idx_loopD (D l : List ByteArray) (hl : l.length ≤ 2 ^ 62) : ∀ (suf pre : List ByteArray), l = pre ++ suf →
    EvCode cx (EvCall cx) (.loop (loopBody Tryz.f62 0)) ⟨[(0, sl (strs l)), (1, .fn 65 [.ref (0, 0) 0]), (7, int l.length), (8, int pre.length)], SD D⟩
      (idxOut (idxS (fun x => !inD D x) suf pre.length)).1 ⟨(idxOut (idxS (fun x => !inD D x) suf pre.length)).2.e, SD D⟩
  | [], pre, h => by
    have hp : pre.length = l.length := by rw [h]; simp
    simp only [idxS]
    exact EvCode.out [F, .same] [] [((0 : Nat), (0 : Nat)), ((0 : Nat), (1 : Nat))] (.cons (vb (by simp [strs_length, rowsE_length]; omega : decide ((↑pre.length : Int) < (↑l.length : Int)) = false)) .nil) (AE.ne_exit _) (by kernel_rfl)
  | x :: r, pre, h => by
    have hlt : pre.length < l.length := by rw [h]; simp
    have hx : l[pre.length]? = some x := get_of_split h
    have hc := order65 D x
    have ih := idx_loopD D l hl r (pre ++ [x]) (by simp [h])
    simp only [List.length_append, List.length_singleton] at ih
    simp only [idxS]
    cases hb : !inD D x with
    | true =>
      rw [hb] at hc
      exact EvCode.out [T, .same, .row ([pS x]), .same, .call (Ev.bool true) ([AO.cells [AV.mp ((0 : Nat), (1 : Nat))], AO.map false (doneR D)]), .same] [(4 : Nat)] [((0 : Nat), (0 : Nat)), ((0 : Nat), (1 : Nat))] (.cons (vb (by simp [strs_length, rowsE_length]; omega : decide ((↑pre.length : Int) < (↑l.length : Int)) = true)) (.cons (rowI_strs hx : rowI (strs l) (↑pre.length : Int) = some [pS x]) (.cons hc .nil))) AE.ne_ret (by kernel_rfl)
    | false =>
      rw [hb] at hc
      exact EvCode.round [T, .same, .row ([pS x]), .same, .call (Ev.bool false) ([AO.cells [AV.mp ((0 : Nat), (1 : Nat))], AO.map false (doneR D)]), .same, .v (.int .i64 ((pre.length + (1 : Nat) : Nat) : Int))] [(0 : Nat), (1 : Nat), (7 : Nat), (8 : Nat)] [((0 : Nat), (0 : Nat)), ((0 : Nat), (1 : Nat))] (.cons (vb (by simp [strs_length, rowsE_length]; omega : decide ((↑pre.length : Int) < (↑l.length : Int)) = true)) (.cons (rowI_strs hx : rowI (strs l) (↑pre.length : Int) = some [pS x]) (.cons hc (.cons (natVi64 (by omega) (by omega) (by omega) : Value.int .i64 (IntKind.i64.wrap ((↑pre.length : Int) + (1 : Int))) = .int .i64 ((pre.length + (1 : Nat) : Nat) : Int)) .nil)))) (by kernel_rfl) ih
theorem indexD (D l : List ByteArray) (hl : l.length ≤ 2 ^ 62) : EvCall cx 62 [sl (strs l), .fn 65 [.ref (0, 0) 0]] (HD D) (int (idxI (idxS (fun x => !inD D x) l 0))) (HD D) := by
  have h := idx_loopD D l hl l [] rfl
  simp only [List.length_nil] at h
  rw [show (l.length : Int) = ((strs l).length : Nat) by rw [strs_length]] at h
  cases hb : idxS (fun x => !inD D x) l 0 with
  | none =>
    rw [hb] at h
    exact EvCall.run Tryz.f62 Tryz.func62 Tryz.call62 [.loop [(0 : Nat), (1 : Nat), (7 : Nat), (8 : Nat)] [((0 : Nat), (0 : Nat)), ((0 : Nat), (1 : Nat))] (AE.exit (0 : Nat)) ({ e := [], s := [(((0 : Nat), (0 : Nat)), AO.cells [AV.mp ((0 : Nat), (1 : Nat))]), (((0 : Nat), (1 : Nat)), AO.map false (doneR D))] })] (.cons h .nil) (by kernel_rfl)
  | some j =>
    rw [hb] at h
    exact EvCall.run Tryz.f62 Tryz.func62 Tryz.call62 [.loop [(0 : Nat), (1 : Nat), (7 : Nat), (8 : Nat)] [((0 : Nat), (0 : Nat)), ((0 : Nat), (1 : Nat))] (AE.ret) ({ e := [((4 : Nat), AV.p (PV.s (Value.int IntKind.i64 (↑j : Int))))], s := [(((0 : Nat), (0 : Nat)), AO.cells [AV.mp ((0 : Nat), (1 : Nat))]), (((0 : Nat), (1 : Nat)), AO.map false (doneR D))] })] (.cons h .nil) (by kernel_rfl)
theorem containsD (D l : List ByteArray) (hl : l.length ≤ 2 ^ 62) : EvCall cx 64 [sl (strs l), .fn 65 [.ref (0, 0) 0]] (HD D) (bool (l.any fun x => !inD D x)) (HD D) := by
  have h := indexD D l hl
  have e := idxI_any (fun x => !inD D x) l
  exact EvCall.as (r := AV.p (PV.s (Value.bool (decide (idxI (idxS (fun (x : ByteArray) => !inD D x) l (0 : Nat)) ≥ (0 : Int)))))) (H' := [AO.cells [AV.mp ((0 : Nat), (1 : Nat))], AO.map false (doneR D)]) (EvCall.run Tryz.f64 Tryz.func64 Tryz.call64 [.call (int (idxI (idxS (fun (x : ByteArray) => !inD D x) l (0 : Nat)))) (HD D), .same] (.cons h .nil) (by kernel_rfl)) (by simp [strs_length, rowsE_length]; omega) rfl

/-- The map 'needs'. -/
def needR (M : List (ByteArray × List ByteArray)) : List (Value × List PV) := M.map fun p => (.string p.1, [.sl (strs p.2)])
def needOf : List (ByteArray × List ByteArray) → ByteArray → Option (List ByteArray)
  | [], _ => none
  | (k, v) :: r, x => bif x.toList == k.toList then some v else needOf r x
theorem needR_keys (M : List (ByteArray × List ByteArray)) (x : ByteArray) : (∀ y ∈ needR M, keyB cx.ty 9 y.1 = true) ∧ keyB cx.ty 9 (.string x) = true := by
  refine ⟨fun y hy => ?_, rfl⟩
  simp only [needR, List.mem_map] at hy
  obtain ⟨k, _, rfl⟩ := hy
  rfl
theorem needR_has (M : List (ByteArray × List ByteArray)) (x : ByteArray) : mapHas (needR M) (.string x) = (needOf M x).isSome := by
  induction M with
  | nil => rfl
  | cons k r ih =>
    simp only [needR, List.map_cons, mapHas, keyEq, needOf]
    cases hk : x.toList == k.1.toList with
    | true => rfl
    | false => simp only [Bool.false_or, cond_false]; exact ih
theorem needR_get (M : List (ByteArray × List ByteArray)) (x : ByteArray) : mapGet (needR M) (.string x) = (needOf M x).map fun v => [.sl (strs v)] := by
  induction M with
  | nil => rfl
  | cons k r ih =>
    simp only [needR, List.map_cons, mapGet, keyEq, needOf]
    cases hk : x.toList == k.1.toList with
    | true => rfl
    | false => simp only [cond_false]; exact ih
/-- All needs of x are in D. -/
def ready (M : List (ByteArray × List ByteArray)) (D : List ByteArray) (x : ByteArray) : Bool := !(((needOf M x).getD []).any fun y => !inD D y)

abbrev HO (M : List (ByteArray × List ByteArray)) (D : List ByteArray) : List AO := [.cells [.mp (0, 2)], .cells [.mp (0, 3)], .map false (needR M), .map false (doneR D)]
theorem order63 (M : List (ByteArray × List ByteArray)) (D : List ByteArray) (x : ByteArray) (hM : ((needOf M x).getD []).length ≤ 2 ^ 62) :
    EvCall cx 63 [str x, .ref (0, 0) 0, .ref (0, 1) 0] (HO M D) (bool (ready M D x)) (HO M D) := by
  have hk := needR_keys M x
  have hh := needR_has M x
  have hg := needR_get M x
  unfold ready
  cases hn : needOf M x with
  | none =>
    rw [hn] at hh
    have hh' : mapHas (needR M) (.string x) = false := hh
    have hc := containsD D [] (by simp)
    exact EvCall.run Tryz.f63 Tryz.func63 Tryz.call63 [.b false, .call (Ev.bool ([].any fun (x : ByteArray) => !inD D x)) (HD D), .same] (.cons (hk : (∀ (y : Value × List PV), y ∈ needR M → keyB cx.ty (9 : Nat) y.fst = true) ∧ true = true) (.cons hh' (.cons hc .nil))) (by kernel_rfl)
  | some v =>
    rw [hn] at hh hg hM
    have hh' : mapHas (needR M) (.string x) = true := hh
    have hg' : mapGet (needR M) (.string x) = some [.sl (strs v)] := hg
    have hc := containsD D v hM
    simp only [Option.getD_some]
    exact EvCall.run Tryz.f63 Tryz.func63 Tryz.call63 [.b true, .row ([PV.sl (strs v)]), .call (Ev.bool (v.any fun (x : ByteArray) => !inD D x)) (HD D), .same] (.cons (hk : (∀ (y : Value × List PV), y ∈ needR M → keyB cx.ty (9 : Nat) y.fst = true) ∧ true = true) (.cons hh' (.cons hg' (.cons hc .nil)))) (by kernel_rfl)
end Go.Proofs.YtbdnigendhhndaaGreatDoor
end
section
/- graph.Order: searches in 'left', which is a slice of its own; Delete, Clone. -/
namespace Go.Proofs.YtbdnigendhhndaaGreatDoor
open Go Go.Ev
set_option maxRecDepth 100000

theorem at_pre (l : List ByteArray) (rs : List (List PV)) (i : Nat) (x : ByteArray) (h : l[i]? = some x) : (strs l ++ rs)[0 + ((i : Nat) : Int).toNat]? = some [pS x] := by
  rw [Int.toNat_natCast, Nat.zero_add, List.getElem?_append_left (by rw [strs_length]; exact (List.getElem?_eq_some_iff.1 h).1)]
  exact get_strs h

theorem index79o_loop (l : List ByteArray) (rs : List (List PV)) (v : ByteArray) (N : Nat) (hN : (strs l ++ rs).length = N) (h62 : N ≤ 2 ^ 62) : ∀ (suf pre : List ByteArray), l = pre ++ suf →
    EvCode cx (EvCall cx) (.loop (loopBody Tryz.f79 0)) ⟨[(0, .ms (0, 0) 0 l.length N), (1, str v), (7, int l.length), (8, int pre.length)], [((0, 0), .arr 1 (strs l ++ rs) 0)]⟩
      (idxOut (idxS (fun u => v.toList == u.toList) suf pre.length)).1 ⟨(idxOut (idxS (fun u => v.toList == u.toList) suf pre.length)).2.e, [((0, 0), .arr 1 (strs l ++ rs) 0)]⟩
  | [], pre, h => by
    have hp : pre.length = l.length := by rw [h]; simp
    simp only [idxS]
    exact EvCode.out [F, .same] [] [((0 : Nat), (0 : Nat))] (.cons (vb (by simp [strs_length, rowsE_length]; omega : decide ((↑pre.length : Int) < (↑l.length : Int)) = false)) .nil) (AE.ne_exit _) (by kernel_rfl)
  | x :: r, pre, h => by
    have hlt : pre.length < l.length := by rw [h]; simp
    have hlN : l.length ≤ N := by rw [← hN]; simp [strs]
    have hx := at_pre l rs pre.length x (get_of_split h)
    have ih := index79o_loop l rs v N hN h62 r (pre ++ [x]) (by simp [h])
    simp only [List.length_append, List.length_singleton] at ih
    simp only [idxS]
    cases hb : v.toList == x.toList with
    | true => exact EvCode.out [T, .same, .row ([pS x]), T, .same] [(4 : Nat)] [((0 : Nat), (0 : Nat))] (.cons (vb (by simp [strs_length, rowsE_length]; omega : decide ((↑pre.length : Int) < (↑l.length : Int)) = true)) (.cons ((by simp [inBd, strs_length, rowsE_length]; omega) : inBd (↑pre.length : Int) l.length) (.cons (hN : (strs l ++ rs).length = N) (.cons hx (.cons (vb hb) .nil))))) AE.ne_ret (by kernel_rfl)
    | false => exact EvCode.round [T, .same, .row ([pS x]), F, .same, .v (.int .i64 ((pre.length + (1 : Nat) : Nat) : Int))] [(0 : Nat), (1 : Nat), (7 : Nat), (8 : Nat)] [((0 : Nat), (0 : Nat))] (.cons (vb (by simp [strs_length, rowsE_length]; omega : decide ((↑pre.length : Int) < (↑l.length : Int)) = true)) (.cons ((by simp [inBd, strs_length, rowsE_length]; omega) : inBd (↑pre.length : Int) l.length) (.cons (hN : (strs l ++ rs).length = N) (.cons hx (.cons (vb hb) (.cons (natVi64 (by omega) (by omega) (by omega) : Value.int .i64 (IntKind.i64.wrap ((↑pre.length : Int) + (1 : Int))) = .int .i64 ((pre.length + (1 : Nat) : Nat) : Int)) .nil)))))) (by kernel_rfl) ih
theorem contains50o (l : List ByteArray) (rs : List (List PV)) (v : ByteArray) (N : Nat) (hN : (strs l ++ rs).length = N) (h62 : N ≤ 2 ^ 62) :
    EvCall cx 50 [.ms (0, 0) 0 l.length N, str v] [.arr 1 (strs l ++ rs) 0] (bool (l.any fun u => v.toList == u.toList)) [.arr 1 (strs l ++ rs) 0] := by
  have hi : EvCall cx 79 [.ms (0, 0) 0 l.length N, str v] [.arr 1 (strs l ++ rs) 0] (int (idxI (idxS (fun u => v.toList == u.toList) l 0))) [.arr 1 (strs l ++ rs) 0] := by
    have h := index79o_loop l rs v N hN h62 l [] rfl
    simp only [List.length_nil] at h
    cases hb : idxS (fun u => v.toList == u.toList) l 0 with
    | none =>
      rw [hb] at h
      exact EvCall.run Tryz.f79 Tryz.func79 Tryz.call79 [.loop [(0 : Nat), (1 : Nat), (7 : Nat), (8 : Nat)] [((0 : Nat), (0 : Nat))] (AE.exit (0 : Nat)) ({ e := [], s := [(((0 : Nat), (0 : Nat)), AO.arr (1 : Nat) (strs l ++ rs) (0 : Nat))] }), .val] (.cons h .nil) (by kernel_rfl)
    | some j =>
      rw [hb] at h
      exact EvCall.run Tryz.f79 Tryz.func79 Tryz.call79 [.loop [(0 : Nat), (1 : Nat), (7 : Nat), (8 : Nat)] [((0 : Nat), (0 : Nat))] (AE.ret) ({ e := [((4 : Nat), AV.p (PV.s (Value.int IntKind.i64 (↑j : Int))))], s := [(((0 : Nat), (0 : Nat)), AO.arr (1 : Nat) (strs l ++ rs) (0 : Nat))] }), .val] (.cons h .nil) (by kernel_rfl)
  have e := idxI_any (fun u => v.toList == u.toList) l
  exact EvCall.as (r := AV.p (PV.s (Value.bool (decide (idxI (idxS (fun (u : ByteArray) => v.toList == u.toList) l (0 : Nat)) ≥ (0 : Int)))))) (H' := [AO.arr (1 : Nat) (strs l ++ rs) (0 : Nat)]) (EvCall.run Tryz.f50 Tryz.func50 Tryz.call50 [.ref, .call (int (idxI (idxS (fun (u : ByteArray) => v.toList == u.toList) l (0 : Nat)))) ([AO.arr (1 : Nat) (strs l ++ rs) (0 : Nat)]), .same, .val] (.cons hi .nil) (by kernel_rfl)) (by simp [strs_length, rowsE_length]; omega) rfl

abbrev HL (l : List ByteArray) (rs : List (List PV)) (M : List (ByteArray × List ByteArray)) (D : List ByteArray) : List AO := [.arr 1 (strs l ++ rs) 0, .cells [.mp (0, 3)], .cells [.mp (0, 4)], .map false (needR M), .map false (doneR D)]
abbrev SL (l : List ByteArray) (rs : List (List PV)) (M : List (ByteArray × List ByteArray)) (D : List ByteArray) : List (Ev.Id × AO) := [((0, 0), .arr 1 (strs l ++ rs) 0), ((0, 1), .cells [.mp (0, 3)]), ((0, 2), .cells [.mp (0, 4)]), ((0, 3), .map false (needR M)), ((0, 4), .map false (doneR D))]
theorem idx_loopO (M : List (ByteArray × List ByteArray)) (D : List ByteArray) (hM : ∀ x, ((needOf M x).getD []).length ≤ 2 ^ 62) (l : List ByteArray) (rs : List (List PV)) (N : Nat) (hN : (strs l ++ rs).length = N) (h62 : N ≤ 2 ^ 62) : ∀ (suf pre : List ByteArray), l = pre ++ suf →
    EvCode cx (EvCall cx) (.loop (loopBody Tryz.f62 0)) ⟨[(0, .ms (0, 0) 0 l.length N), (1, .fn 63 [.ref (0, 1) 0, .ref (0, 2) 0]), (7, int l.length), (8, int pre.length)], SL l rs M D⟩
      (idxOut (idxS (ready M D) suf pre.length)).1 ⟨(idxOut (idxS (ready M D) suf pre.length)).2.e, SL l rs M D⟩
  | [], pre, h => by
    have hp : pre.length = l.length := by rw [h]; simp
    simp only [idxS]
    exact EvCode.out [F, .same] [] [((0 : Nat), (0 : Nat)), ((0 : Nat), (1 : Nat)), ((0 : Nat), (2 : Nat)), ((0 : Nat), (3 : Nat)), ((0 : Nat), (4 : Nat))] (.cons (vb (by simp [strs_length, rowsE_length]; omega : decide ((↑pre.length : Int) < (↑l.length : Int)) = false)) .nil) (AE.ne_exit _) (by kernel_rfl)
  | x :: r, pre, h => by
    have hlt : pre.length < l.length := by rw [h]; simp
    have hlN : l.length ≤ N := by rw [← hN]; simp [strs]
    have hx := at_pre l rs pre.length x (get_of_split h)
    have hc := order63 M D x (hM x)
    have ih := idx_loopO M D hM l rs N hN h62 r (pre ++ [x]) (by simp [h])
    simp only [List.length_append, List.length_singleton] at ih
    simp only [idxS]
    cases hb : ready M D x with
    | true =>
      rw [hb] at hc
      exact EvCode.out [T, .same, .row ([pS x]), .val, .call (Ev.bool true) (HO M D), .same] [(4 : Nat)] [((0 : Nat), (0 : Nat)), ((0 : Nat), (1 : Nat)), ((0 : Nat), (2 : Nat)), ((0 : Nat), (3 : Nat)), ((0 : Nat), (4 : Nat))] (.cons (vb (by simp [strs_length, rowsE_length]; omega : decide ((↑pre.length : Int) < (↑l.length : Int)) = true)) (.cons ((by simp [inBd, strs_length, rowsE_length]; omega) : inBd (↑pre.length : Int) l.length) (.cons (hN : (strs l ++ rs).length = N) (.cons hx (.cons hc .nil))))) AE.ne_ret (by kernel_rfl)
    | false =>
      rw [hb] at hc
      exact EvCode.round [T, .same, .row ([pS x]), .val, .call (Ev.bool false) (HO M D), .same, .v (.int .i64 ((pre.length + (1 : Nat) : Nat) : Int))] [(0 : Nat), (1 : Nat), (7 : Nat), (8 : Nat)] [((0 : Nat), (0 : Nat)), ((0 : Nat), (1 : Nat)), ((0 : Nat), (2 : Nat)), ((0 : Nat), (3 : Nat)), ((0 : Nat), (4 : Nat))] (.cons (vb (by simp [strs_length, rowsE_length]; omega : decide ((↑pre.length : Int) < (↑l.length : Int)) = true)) (.cons ((by simp [inBd, strs_length, rowsE_length]; omega) : inBd (↑pre.length : Int) l.length) (.cons (hN : (strs l ++ rs).length = N) (.cons hx (.cons hc (.cons (natVi64 (by omega) (by omega) (by omega) : Value.int .i64 (IntKind.i64.wrap ((↑pre.length : Int) + (1 : Int))) = .int .i64 ((pre.length + (1 : Nat) : Nat) : Int)) .nil)))))) (by kernel_rfl) ih
theorem indexO (M : List (ByteArray × List ByteArray)) (D : List ByteArray) (hM : ∀ x, ((needOf M x).getD []).length ≤ 2 ^ 62) (l : List ByteArray) (rs : List (List PV)) (N : Nat) (hN : (strs l ++ rs).length = N) (h62 : N ≤ 2 ^ 62) :
    EvCall cx 62 [.ms (0, 0) 0 l.length N, .fn 63 [.ref (0, 1) 0, .ref (0, 2) 0]] (HL l rs M D) (int (idxI (idxS (ready M D) l 0))) (HL l rs M D) := by
  have h := idx_loopO M D hM l rs N hN h62 l [] rfl
  simp only [List.length_nil] at h
  cases hb : idxS (ready M D) l 0 with
  | none =>
    rw [hb] at h
    exact EvCall.run Tryz.f62 Tryz.func62 Tryz.call62 [.loop [(0 : Nat), (1 : Nat), (7 : Nat), (8 : Nat)] [((0 : Nat), (0 : Nat)), ((0 : Nat), (1 : Nat)), ((0 : Nat), (2 : Nat)), ((0 : Nat), (3 : Nat)), ((0 : Nat), (4 : Nat))] (AE.exit (0 : Nat)) ({ e := [], s := [(((0 : Nat), (0 : Nat)), AO.arr (1 : Nat) (strs l ++ rs) (0 : Nat)), (((0 : Nat), (1 : Nat)), AO.cells [AV.mp ((0 : Nat), (3 : Nat))]), (((0 : Nat), (2 : Nat)), AO.cells [AV.mp ((0 : Nat), (4 : Nat))]), (((0 : Nat), (3 : Nat)), AO.map false (needR M)), (((0 : Nat), (4 : Nat)), AO.map false (doneR D))] }), .val] (.cons h .nil) (by kernel_rfl)
  | some j =>
    rw [hb] at h
    exact EvCall.run Tryz.f62 Tryz.func62 Tryz.call62 [.loop [(0 : Nat), (1 : Nat), (7 : Nat), (8 : Nat)] [((0 : Nat), (0 : Nat)), ((0 : Nat), (1 : Nat)), ((0 : Nat), (2 : Nat)), ((0 : Nat), (3 : Nat)), ((0 : Nat), (4 : Nat))] (AE.ret) ({ e := [((4 : Nat), AV.p (PV.s (Value.int IntKind.i64 (↑j : Int))))], s := [(((0 : Nat), (0 : Nat)), AO.arr (1 : Nat) (strs l ++ rs) (0 : Nat)), (((0 : Nat), (1 : Nat)), AO.cells [AV.mp ((0 : Nat), (3 : Nat))]), (((0 : Nat), (2 : Nat)), AO.cells [AV.mp ((0 : Nat), (4 : Nat))]), (((0 : Nat), (3 : Nat)), AO.map false (needR M)), (((0 : Nat), (4 : Nat)), AO.map false (doneR D))] }), .val] (.cons h .nil) (by kernel_rfl)

theorem clone61o (x : ByteArray) (r : List ByteArray) (N : Nat) (hN : N = r.length + 1) (h62 : N ≤ 2 ^ 30) :
    EvCall cx 61 [.ms (0, 0) 0 N N] [.arr 1 (strs (x :: r)) 0] (.ms (0, 1) 0 N N) [.arr 1 (strs (x :: r)) 0, .arr 1 (strs (x :: r)) 0] := by
  have hl : (strs (x :: r)).length = N := by rw [strs_length]; simp [hN]
  have ht : List.take N (List.drop 0 (strs (x :: r))) = strs (x :: r) := by rw [List.drop_zero, List.take_of_length_le (Nat.le_of_eq hl)]
  have he : (List.take N (List.drop 0 (strs (x :: r)))).isEmpty = false := by rw [ht]; rfl
  have hne : List.take N (List.drop 0 (strs (x :: r))) ≠ [] := by rw [ht]; simp [strs]
  have hb : (0 + (List.take N (List.drop 0 (strs (x :: r)))).length) * 16 ≤ maxBytes := by rw [ht, hl]; simp only [maxBytes]; omega
  have hb2 : 0 + (List.take N (List.drop 0 (strs (x :: r)))).length ≤ 2 ^ 62 := by rw [ht, hl]; omega
  have e1 : AV.ms (0, 1) 0 (0 + (List.take N (List.drop 0 (strs (x :: r)))).length) (0 + (List.take N (List.drop 0 (strs (x :: r)))).length) = AV.ms (0, 1) 0 N N := by rw [ht, hl, Nat.zero_add]
  have e2 : [AO.arr 1 (strs (x :: r)) 0, AO.arr 1 ([] ++ List.take N (List.drop 0 (strs (x :: r)))) 0] = [AO.arr 1 (strs (x :: r)) 0, AO.arr 1 (strs (x :: r)) 0] := by rw [ht]; rfl
  exact EvCall.as (r := AV.ms ((0 : Nat), (1 : Nat)) (0 : Nat) ((0 : Nat) + (List.take N (List.drop (0 : Nat) (strs (x :: r)))).length) ((0 : Nat) + (List.take N (List.drop (0 : Nat) (strs (x :: r)))).length)) (H' := [AO.arr (1 : Nat) (strs (x :: r)) (0 : Nat), AO.arr (1 : Nat) (List.map (fun (i : Nat) => List.take ti9.sz (List.drop (i * ti9.sz) [])) (List.range (0 : Nat)) ++ List.take N (List.drop (0 : Nat) (strs (x :: r)))) (0 : Nat)]) (EvCall.run Tryz.f61 Tryz.func61 Tryz.call61 [.same, .b false, .val, .ref] (.cons (⟨hl, (by omega)⟩ : (strs (x :: r)).length = N ∧ (0 : Nat) + N ≤ N) (.cons he (.cons (⟨rfl, ⟨rfl, ⟨rfl, ⟨rfl, ⟨hne, ⟨hb, hb2⟩⟩⟩⟩⟩⟩ : (0 : Nat) = (0 : Nat) ∧ (0 : Nat) = (0 : Nat) ∧ (0 : Nat) = (0 : Nat) ∧ (1 : Nat) = (1 : Nat) ∧ List.take N (List.drop (0 : Nat) (strs (x :: r))) ≠ [] ∧ ((0 : Nat) + (List.take N (List.drop (0 : Nat) (strs (x :: r)))).length) * ti9.by' ≤ (140737488355328 : Nat) ∧ (0 : Nat) + (List.take N (List.drop (0 : Nat) (strs (x :: r)))).length ≤ (4611686018427387904 : Nat)) .nil))) (by kernel_rfl)) e1 e2
end Go.Proofs.YtbdnigendhhndaaGreatDoor
end
section
/- slices.Delete of one element. -/
namespace Go.Proofs.YtbdnigendhhndaaGreatDoor
open Go Go.Ev
set_option maxRecDepth 100000

theorem delLast (P : List ByteArray) (x : ByteArray) (rs : List (List PV)) (n N : Nat) (hn : n = P.length + 1) (hN : (strs (P ++ [x]) ++ rs).length = N) (h62 : N ≤ 2 ^ 62) :
    EvCall cx 66 [.ms (0, 0) 0 n N, int P.length, int n] [.arr 1 (strs (P ++ [x]) ++ rs) 0] (.ms (0, 0) 0 P.length N) [.arr 1 (strs P ++ ([pS ⟨#[]⟩] :: rs)) 0] := by
  have hnN : n ≤ N := by rw [← hN]; simp [strs, hn]
  have ht : List.take (n - ((n : Nat) : Int).toNat) (List.drop (0 + ((n : Nat) : Int).toNat) (strs (P ++ [x]) ++ rs)) = [] := by simp
  have he : (List.take (n - ((n : Nat) : Int).toNat) (List.drop (0 + ((n : Nat) : Int).toNat) (strs (P ++ [x]) ++ rs))).isEmpty = true := by rw [ht]; rfl
  have e2 : [AO.arr 1 (List.take (0 + 0 + P.length) (strs (P ++ [x]) ++ rs) ++ List.replicate (n - P.length) [pS ⟨#[]⟩] ++ List.drop (0 + 0 + P.length + (n - P.length)) (strs (P ++ [x]) ++ rs)) 0] = [AO.arr 1 (strs P ++ ([pS ⟨#[]⟩] :: rs)) 0] := by
    have h1 : n - P.length = 1 := by omega
    have h2 : (strs P).length = P.length := strs_length P
    have h3 : strs (P ++ [x]) ++ rs = strs P ++ ([pS x] :: rs) := by simp [strs]
    rw [h1, h3, Nat.add_zero, Nat.zero_add, ← h2, List.take_left, List.drop_append]
    simp
  exact EvCall.as (r := AV.ms ((0 : Nat), (0 : Nat)) (0 : Nat) (((some (↑P.length : Int)).getD (↑n : Int)).toNat - (0 : Nat)) N) (H' := [AO.arr (1 : Nat) (List.take ((0 : Nat) + Int.toNat (0 : Int) + (↑(((some (↑P.length : Int)).getD (↑n : Int)).toNat - Int.toNat (0 : Int)) : Int).toNat) (strs (P ++ [x]) ++ rs) ++ List.replicate (((some (↑n : Int)).getD (↑(((some (↑P.length : Int)).getD (↑n : Int)).toNat - Int.toNat (0 : Int)) : Int)).toNat - (↑(((some (↑P.length : Int)).getD (↑n : Int)).toNat - Int.toNat (0 : Int)) : Int).toNat) [nrm (PV.s (Value.string (ByteArray.mk #[])))] ++ List.drop ((0 : Nat) + Int.toNat (0 : Int) + (↑(((some (↑P.length : Int)).getD (↑n : Int)).toNat - Int.toNat (0 : Int)) : Int).toNat + (((some (↑n : Int)).getD (↑(((some (↑P.length : Int)).getD (↑n : Int)).toNat - Int.toNat (0 : Int)) : Int)).toNat - (↑(((some (↑P.length : Int)).getD (↑n : Int)).toNat - Int.toNat (0 : Int)) : Int).toNat)) (strs (P ++ [x]) ++ rs)) (0 : Nat)]) (EvCall.run Tryz.f66 Tryz.func66 Tryz.call66 [F, .same, .b true, .ref] (.cons (⟨hN, ⟨(by omega), ⟨(by omega), ⟨(by omega), (by omega)⟩⟩⟩⟩ : (strs (P ++ [x]) ++ rs).length = N ∧ (0 : Int) ≤ (↑P.length : Int) ∧ (↑P.length : Int) ≤ (↑n : Int) ∧ (↑n : Int) ≤ (↑n : Int) ∧ (↑(0 : Nat) : Int) + (↑n : Int) ≤ (↑N : Int)) (.cons (vb (by simp; omega : ((↑P.length : Int) == (↑n : Int)) = false)) (.cons (⟨hN, ⟨(by omega), ⟨(by simp), (by simp [strs_length, rowsE_length]; omega)⟩⟩⟩ : (strs (P ++ [x]) ++ rs).length = N ∧ (0 : Int) ≤ (0 : Int) ∧ (0 : Int) ≤ (some (↑P.length : Int)).getD (↑n : Int) ∧ (↑(0 : Nat) : Int) + (some (↑P.length : Int)).getD (↑n : Int) ≤ (↑N : Int)) (.cons (⟨hN, ⟨(by omega), ⟨(by simp), (by simp [strs_length, rowsE_length]; omega)⟩⟩⟩ : (strs (P ++ [x]) ++ rs).length = N ∧ (0 : Int) ≤ (↑n : Int) ∧ (↑n : Int) ≤ none.getD (↑n : Int) ∧ (↑(0 : Nat) : Int) + none.getD (↑n : Int) ≤ (↑N : Int)) (.cons (⟨hN, (by simp [strs_length, rowsE_length]; omega)⟩ : (strs (P ++ [x]) ++ rs).length = N ∧ (0 : Nat) + (↑n : Int).toNat + ((none.getD (↑n : Int)).toNat - (↑n : Int).toNat) ≤ N) (.cons he (.cons (hN : (strs (P ++ [x]) ++ rs).length = N) (.cons (⟨hN, ⟨(by omega), ⟨(by simp [strs_length, rowsE_length]; omega), (by simp [strs_length, rowsE_length]; omega)⟩⟩⟩ : (strs (P ++ [x]) ++ rs).length = N ∧ (0 : Int) ≤ (↑(((some (↑P.length : Int)).getD (↑n : Int)).toNat - (0 : Nat)) : Int) ∧ (↑(((some (↑P.length : Int)).getD (↑n : Int)).toNat - (0 : Nat)) : Int) ≤ (some (↑n : Int)).getD (↑(((some (↑P.length : Int)).getD (↑n : Int)).toNat - (0 : Nat)) : Int) ∧ (↑(0 : Nat) : Int) + (some (↑n : Int)).getD (↑(((some (↑P.length : Int)).getD (↑n : Int)).toNat - (0 : Nat)) : Int) ≤ (↑N : Int)) (.cons (⟨hN, ⟨(by simp [strs_length, rowsE_length]; omega), ⟨(by omega), (by simp [strs_length, rowsE_length]; omega)⟩⟩⟩ : (strs (P ++ [x]) ++ rs).length = N ∧ (0 : Nat) + (↑(((some (↑P.length : Int)).getD (↑n : Int)).toNat - (0 : Nat)) : Int).toNat + (((some (↑n : Int)).getD (↑(((some (↑P.length : Int)).getD (↑n : Int)).toNat - (0 : Nat)) : Int)).toNat - (↑(((some (↑P.length : Int)).getD (↑n : Int)).toNat - (0 : Nat)) : Int).toNat) ≤ N ∧ (0 : Nat) ≤ (0 : Nat) + (↑(((some (↑P.length : Int)).getD (↑n : Int)).toNat - (0 : Nat)) : Int).toNat ∧ (0 : Nat) < ((some (↑n : Int)).getD (↑(((some (↑P.length : Int)).getD (↑n : Int)).toNat - (0 : Nat)) : Int)).toNat - (↑(((some (↑P.length : Int)).getD (↑n : Int)).toNat - (0 : Nat)) : Int).toNat) .nil))))))))) (by kernel_rfl)) rfl e2
theorem delMid (P R : List ByteArray) (x y : ByteArray) (rs : List (List PV)) (n N : Nat) (hn : n = P.length + 1 + (R.length + 1)) (hN : (strs (P ++ x :: y :: R) ++ rs).length = N) (h62 : N ≤ 2 ^ 62) :
    EvCall cx 66 [.ms (0, 0) 0 n N, int P.length, int (P.length + 1 : Nat)] [.arr 1 (strs (P ++ x :: y :: R) ++ rs) 0] (.ms (0, 0) 0 (P.length + (R.length + 1)) N) [.arr 1 (strs (P ++ y :: R) ++ ([pS ⟨#[]⟩] :: rs)) 0] := by
  have hnN : n ≤ N := by rw [← hN]; simp [strs, hn]; omega
  have ht : List.take (n - ((P.length + 1 : Nat) : Int).toNat) (List.drop (0 + ((P.length + 1 : Nat) : Int).toNat) (strs (P ++ x :: y :: R) ++ rs)) = strs (y :: R) := by
    have h2 : (strs (P ++ [x])).length = P.length + 1 := by simp [strs]
    have h3 : strs (P ++ x :: y :: R) ++ rs = strs (P ++ [x]) ++ (strs (y :: R) ++ rs) := by simp [strs]
    have h4 : n - (P.length + 1) = (strs (y :: R)).length := by rw [strs_length]; simp; omega
    rw [Int.toNat_natCast, Nat.zero_add, h3, ← h2, List.drop_left, h2, h4, List.take_left]
  have he : (List.take (n - ((P.length + 1 : Nat) : Int).toNat) (List.drop (0 + ((P.length + 1 : Nat) : Int).toNat) (strs (P ++ x :: y :: R) ++ rs))).isEmpty = false := by rw [ht]; rfl
  have hne : List.take (n - ((P.length + 1 : Nat) : Int).toNat) (List.drop (0 + ((P.length + 1 : Nat) : Int).toNat) (strs (P ++ x :: y :: R) ++ rs)) ≠ [] := by rw [ht]; simp [strs]
  have hL : (List.take (n - ((P.length + 1 : Nat) : Int).toNat) (List.drop (0 + ((P.length + 1 : Nat) : Int).toNat) (strs (P ++ x :: y :: R) ++ rs))).length = R.length + 1 := by rw [ht, strs_length]; rfl
  have f1 : P.length - 0 + (List.take (n - ((P.length + 1 : Nat) : Int).toNat) (List.drop (0 + ((P.length + 1 : Nat) : Int).toNat) (strs (P ++ x :: y :: R) ++ rs))).length ≤ N := by rw [hL]; omega
  have f2 : P.length - 0 + (List.take (n - ((P.length + 1 : Nat) : Int).toNat) (List.drop (0 + ((P.length + 1 : Nat) : Int).toNat) (strs (P ++ x :: y :: R) ++ rs))).length ≤ 4611686018427387904 := by rw [hL]; omega
  have e1 : AV.ms (0, 0) 0 (P.length - 0 + (List.take (n - ((P.length + 1 : Nat) : Int).toNat) (List.drop (0 + ((P.length + 1 : Nat) : Int).toNat) (strs (P ++ x :: y :: R) ++ rs))).length) N = AV.ms (0, 0) 0 (P.length + (R.length + 1)) N := by rw [hL]; rfl
  have e2 : [AO.arr 1 (List.take (0 + (P.length - 0 + (List.take (n - ((P.length + 1 : Nat) : Int).toNat) (List.drop (0 + ((P.length + 1 : Nat) : Int).toNat) (strs (P ++ x :: y :: R) ++ rs))).length)) (List.take (P.length - 0) (strs (P ++ x :: y :: R) ++ rs) ++ (List.take (n - ((P.length + 1 : Nat) : Int).toNat) (List.drop (0 + ((P.length + 1 : Nat) : Int).toNat) (strs (P ++ x :: y :: R) ++ rs))) ++ List.drop (P.length - 0 + (List.take (n - ((P.length + 1 : Nat) : Int).toNat) (List.drop (0 + ((P.length + 1 : Nat) : Int).toNat) (strs (P ++ x :: y :: R) ++ rs))).length) (strs (P ++ x :: y :: R) ++ rs)) ++ List.replicate (n - (P.length - 0 + (List.take (n - ((P.length + 1 : Nat) : Int).toNat) (List.drop (0 + ((P.length + 1 : Nat) : Int).toNat) (strs (P ++ x :: y :: R) ++ rs))).length)) [pS ⟨#[]⟩] ++ List.drop (0 + (P.length - 0 + (List.take (n - ((P.length + 1 : Nat) : Int).toNat) (List.drop (0 + ((P.length + 1 : Nat) : Int).toNat) (strs (P ++ x :: y :: R) ++ rs))).length) + (n - (P.length - 0 + (List.take (n - ((P.length + 1 : Nat) : Int).toNat) (List.drop (0 + ((P.length + 1 : Nat) : Int).toNat) (strs (P ++ x :: y :: R) ++ rs))).length))) (List.take (P.length - 0) (strs (P ++ x :: y :: R) ++ rs) ++ (List.take (n - ((P.length + 1 : Nat) : Int).toNat) (List.drop (0 + ((P.length + 1 : Nat) : Int).toNat) (strs (P ++ x :: y :: R) ++ rs))) ++ List.drop (P.length - 0 + (List.take (n - ((P.length + 1 : Nat) : Int).toNat) (List.drop (0 + ((P.length + 1 : Nat) : Int).toNat) (strs (P ++ x :: y :: R) ++ rs))).length) (strs (P ++ x :: y :: R) ++ rs))) 0] = [AO.arr 1 (strs (P ++ y :: R) ++ ([pS ⟨#[]⟩] :: rs)) 0] := by
    rw [hL, ht, Nat.zero_add, Nat.sub_zero]
    have h2 : (strs P).length = P.length := strs_length P
    have h3 : (strs (P ++ x :: y :: R) ++ rs) = strs P ++ (strs (x :: y :: R) ++ rs) := by simp [strs]
    have h4 : List.take P.length (strs (P ++ x :: y :: R) ++ rs) = strs P := by rw [h3, ← h2, List.take_left]
    have h5 : strs P ++ strs (y :: R) = strs (P ++ y :: R) := by simp [strs]
    have h6 : (strs (P ++ y :: R)).length = P.length + (R.length + 1) := by simp [strs]
    have h7 : n - (P.length + (R.length + 1)) = 1 := by omega
    have h8 : (strs (P ++ x :: y :: R)).length = P.length + (R.length + 1) + 1 := by simp [strs]; omega
    have h9 : List.drop (P.length + (R.length + 1) + 1) (strs (P ++ x :: y :: R) ++ rs) = rs := by rw [← h8, List.drop_left]
    rw [h4, h5, h7, ← h6, List.take_left, ← List.drop_drop, List.drop_left, h6, List.drop_drop, h9]
    simp
  exact EvCall.as (r := AV.ms ((0 : Nat), (0 : Nat)) (0 : Nat) (((some (↑P.length : Int)).getD (↑n : Int)).toNat - (0 : Nat) + (List.take ((none.getD (↑n : Int)).toNat - (↑(P.length + (1 : Nat)) : Int).toNat) (List.drop ((0 : Nat) + (↑(P.length + (1 : Nat)) : Int).toNat) (strs (P ++ x :: y :: R) ++ rs))).length) N) (H' := [AO.arr (1 : Nat) (List.take ((0 : Nat) + (↑(((some (↑P.length : Int)).getD (↑n : Int)).toNat - Int.toNat (0 : Int) + (List.take ((none.getD (↑n : Int)).toNat - (↑(P.length + (1 : Nat)) : Int).toNat) (List.drop ((0 : Nat) + (↑(P.length + (1 : Nat)) : Int).toNat) (strs (P ++ x :: y :: R) ++ rs))).length) : Int).toNat) (List.take (((some (↑P.length : Int)).getD (↑n : Int)).toNat - Int.toNat (0 : Int)) (strs (P ++ x :: y :: R) ++ rs) ++ List.take ((none.getD (↑n : Int)).toNat - (↑(P.length + (1 : Nat)) : Int).toNat) (List.drop ((0 : Nat) + (↑(P.length + (1 : Nat)) : Int).toNat) (strs (P ++ x :: y :: R) ++ rs)) ++ List.drop (((some (↑P.length : Int)).getD (↑n : Int)).toNat - Int.toNat (0 : Int) + (List.take ((none.getD (↑n : Int)).toNat - (↑(P.length + (1 : Nat)) : Int).toNat) (List.drop ((0 : Nat) + (↑(P.length + (1 : Nat)) : Int).toNat) (strs (P ++ x :: y :: R) ++ rs))).length) (strs (P ++ x :: y :: R) ++ rs)) ++ List.replicate (((some (↑n : Int)).getD (↑(((some (↑P.length : Int)).getD (↑n : Int)).toNat - Int.toNat (0 : Int) + (List.take ((none.getD (↑n : Int)).toNat - (↑(P.length + (1 : Nat)) : Int).toNat) (List.drop ((0 : Nat) + (↑(P.length + (1 : Nat)) : Int).toNat) (strs (P ++ x :: y :: R) ++ rs))).length) : Int)).toNat - (↑(((some (↑P.length : Int)).getD (↑n : Int)).toNat - Int.toNat (0 : Int) + (List.take ((none.getD (↑n : Int)).toNat - (↑(P.length + (1 : Nat)) : Int).toNat) (List.drop ((0 : Nat) + (↑(P.length + (1 : Nat)) : Int).toNat) (strs (P ++ x :: y :: R) ++ rs))).length) : Int).toNat) [nrm (PV.s (Value.string (ByteArray.mk #[])))] ++ List.drop ((0 : Nat) + (↑(((some (↑P.length : Int)).getD (↑n : Int)).toNat - Int.toNat (0 : Int) + (List.take ((none.getD (↑n : Int)).toNat - (↑(P.length + (1 : Nat)) : Int).toNat) (List.drop ((0 : Nat) + (↑(P.length + (1 : Nat)) : Int).toNat) (strs (P ++ x :: y :: R) ++ rs))).length) : Int).toNat + (((some (↑n : Int)).getD (↑(((some (↑P.length : Int)).getD (↑n : Int)).toNat - Int.toNat (0 : Int) + (List.take ((none.getD (↑n : Int)).toNat - (↑(P.length + (1 : Nat)) : Int).toNat) (List.drop ((0 : Nat) + (↑(P.length + (1 : Nat)) : Int).toNat) (strs (P ++ x :: y :: R) ++ rs))).length) : Int)).toNat - (↑(((some (↑P.length : Int)).getD (↑n : Int)).toNat - Int.toNat (0 : Int) + (List.take ((none.getD (↑n : Int)).toNat - (↑(P.length + (1 : Nat)) : Int).toNat) (List.drop ((0 : Nat) + (↑(P.length + (1 : Nat)) : Int).toNat) (strs (P ++ x :: y :: R) ++ rs))).length) : Int).toNat)) (List.take (((some (↑P.length : Int)).getD (↑n : Int)).toNat - Int.toNat (0 : Int)) (strs (P ++ x :: y :: R) ++ rs) ++ List.take ((none.getD (↑n : Int)).toNat - (↑(P.length + (1 : Nat)) : Int).toNat) (List.drop ((0 : Nat) + (↑(P.length + (1 : Nat)) : Int).toNat) (strs (P ++ x :: y :: R) ++ rs)) ++ List.drop (((some (↑P.length : Int)).getD (↑n : Int)).toNat - Int.toNat (0 : Int) + (List.take ((none.getD (↑n : Int)).toNat - (↑(P.length + (1 : Nat)) : Int).toNat) (List.drop ((0 : Nat) + (↑(P.length + (1 : Nat)) : Int).toNat) (strs (P ++ x :: y :: R) ++ rs))).length) (strs (P ++ x :: y :: R) ++ rs))) (0 : Nat)]) (EvCall.run Tryz.f66 Tryz.func66 Tryz.call66 [F, .same, .b false, .ref, .val, .ref] (.cons (⟨hN, ⟨(by omega), ⟨(by omega), ⟨(by omega), (by omega)⟩⟩⟩⟩ : (strs (P ++ x :: y :: R) ++ rs).length = N ∧ (0 : Int) ≤ (↑P.length : Int) ∧ (↑P.length : Int) ≤ (↑(P.length + (1 : Nat)) : Int) ∧ (↑(P.length + (1 : Nat)) : Int) ≤ (↑n : Int) ∧ (↑(0 : Nat) : Int) + (↑n : Int) ≤ (↑N : Int)) (.cons (vb (by simp; omega : ((↑P.length : Int) == (↑(P.length + (1 : Nat)) : Int)) = false)) (.cons (⟨hN, ⟨(by omega), ⟨(by simp), (by simp [strs_length, rowsE_length]; omega)⟩⟩⟩ : (strs (P ++ x :: y :: R) ++ rs).length = N ∧ (0 : Int) ≤ (0 : Int) ∧ (0 : Int) ≤ (some (↑P.length : Int)).getD (↑n : Int) ∧ (↑(0 : Nat) : Int) + (some (↑P.length : Int)).getD (↑n : Int) ≤ (↑N : Int)) (.cons (⟨hN, ⟨(by omega), ⟨(by simp [strs_length, rowsE_length]; omega), (by simp [strs_length, rowsE_length]; omega)⟩⟩⟩ : (strs (P ++ x :: y :: R) ++ rs).length = N ∧ (0 : Int) ≤ (↑(P.length + (1 : Nat)) : Int) ∧ (↑(P.length + (1 : Nat)) : Int) ≤ none.getD (↑n : Int) ∧ (↑(0 : Nat) : Int) + none.getD (↑n : Int) ≤ (↑N : Int)) (.cons (⟨hN, (by simp [strs_length, rowsE_length]; omega)⟩ : (strs (P ++ x :: y :: R) ++ rs).length = N ∧ (0 : Nat) + (↑(P.length + (1 : Nat)) : Int).toNat + ((none.getD (↑n : Int)).toNat - (↑(P.length + (1 : Nat)) : Int).toNat) ≤ N) (.cons he (.cons (⟨hN, ⟨rfl, ⟨rfl, ⟨hne, ⟨(by omega), ⟨f1, f2⟩⟩⟩⟩⟩⟩ : (strs (P ++ x :: y :: R) ++ rs).length = N ∧ (0 : Nat) = (0 : Nat) ∧ (1 : Nat) = (1 : Nat) ∧ List.take ((none.getD (↑n : Int)).toNat - (↑(P.length + (1 : Nat)) : Int).toNat) (List.drop ((0 : Nat) + (↑(P.length + (1 : Nat)) : Int).toNat) (strs (P ++ x :: y :: R) ++ rs)) ≠ [] ∧ (0 : Nat) ≤ ((some (↑P.length : Int)).getD (↑n : Int)).toNat - (0 : Nat) ∧ ((some (↑P.length : Int)).getD (↑n : Int)).toNat - (0 : Nat) + (List.take ((none.getD (↑n : Int)).toNat - (↑(P.length + (1 : Nat)) : Int).toNat) (List.drop ((0 : Nat) + (↑(P.length + (1 : Nat)) : Int).toNat) (strs (P ++ x :: y :: R) ++ rs))).length ≤ N ∧ ((some (↑P.length : Int)).getD (↑n : Int)).toNat - (0 : Nat) + (List.take ((none.getD (↑n : Int)).toNat - (↑(P.length + (1 : Nat)) : Int).toNat) (List.drop ((0 : Nat) + (↑(P.length + (1 : Nat)) : Int).toNat) (strs (P ++ x :: y :: R) ++ rs))).length ≤ (4611686018427387904 : Nat)) (.cons (⟨(by simp_all [strs_length, rowsE_length]; omega), ⟨(by omega), ⟨(by simp [strs_length, rowsE_length]; omega), (by simp [strs_length, rowsE_length]; omega)⟩⟩⟩ : (List.take (((some (↑P.length : Int)).getD (↑n : Int)).toNat - Int.toNat (0 : Int)) (strs (P ++ x :: y :: R) ++ rs) ++ List.take ((none.getD (↑n : Int)).toNat - (↑(P.length + (1 : Nat)) : Int).toNat) (List.drop ((0 : Nat) + (↑(P.length + (1 : Nat)) : Int).toNat) (strs (P ++ x :: y :: R) ++ rs)) ++ List.drop (((some (↑P.length : Int)).getD (↑n : Int)).toNat - Int.toNat (0 : Int) + (List.take ((none.getD (↑n : Int)).toNat - (↑(P.length + (1 : Nat)) : Int).toNat) (List.drop ((0 : Nat) + (↑(P.length + (1 : Nat)) : Int).toNat) (strs (P ++ x :: y :: R) ++ rs))).length) (strs (P ++ x :: y :: R) ++ rs)).length = N ∧ (0 : Int) ≤ (↑(((some (↑P.length : Int)).getD (↑n : Int)).toNat - (0 : Nat) + (List.take ((none.getD (↑n : Int)).toNat - (↑(P.length + (1 : Nat)) : Int).toNat) (List.drop ((0 : Nat) + (↑(P.length + (1 : Nat)) : Int).toNat) (strs (P ++ x :: y :: R) ++ rs))).length) : Int) ∧ (↑(((some (↑P.length : Int)).getD (↑n : Int)).toNat - (0 : Nat) + (List.take ((none.getD (↑n : Int)).toNat - (↑(P.length + (1 : Nat)) : Int).toNat) (List.drop ((0 : Nat) + (↑(P.length + (1 : Nat)) : Int).toNat) (strs (P ++ x :: y :: R) ++ rs))).length) : Int) ≤ (some (↑n : Int)).getD (↑(((some (↑P.length : Int)).getD (↑n : Int)).toNat - (0 : Nat) + (List.take ((none.getD (↑n : Int)).toNat - (↑(P.length + (1 : Nat)) : Int).toNat) (List.drop ((0 : Nat) + (↑(P.length + (1 : Nat)) : Int).toNat) (strs (P ++ x :: y :: R) ++ rs))).length) : Int) ∧ (↑(0 : Nat) : Int) + (some (↑n : Int)).getD (↑(((some (↑P.length : Int)).getD (↑n : Int)).toNat - (0 : Nat) + (List.take ((none.getD (↑n : Int)).toNat - (↑(P.length + (1 : Nat)) : Int).toNat) (List.drop ((0 : Nat) + (↑(P.length + (1 : Nat)) : Int).toNat) (strs (P ++ x :: y :: R) ++ rs))).length) : Int) ≤ (↑N : Int)) (.cons (⟨(by simp_all [strs_length, rowsE_length]; omega), ⟨(by simp [strs_length, rowsE_length]; omega), ⟨(by omega), (by simp [strs_length, rowsE_length]; omega)⟩⟩⟩ : (List.take (((some (↑P.length : Int)).getD (↑n : Int)).toNat - Int.toNat (0 : Int)) (strs (P ++ x :: y :: R) ++ rs) ++ List.take ((none.getD (↑n : Int)).toNat - (↑(P.length + (1 : Nat)) : Int).toNat) (List.drop ((0 : Nat) + (↑(P.length + (1 : Nat)) : Int).toNat) (strs (P ++ x :: y :: R) ++ rs)) ++ List.drop (((some (↑P.length : Int)).getD (↑n : Int)).toNat - Int.toNat (0 : Int) + (List.take ((none.getD (↑n : Int)).toNat - (↑(P.length + (1 : Nat)) : Int).toNat) (List.drop ((0 : Nat) + (↑(P.length + (1 : Nat)) : Int).toNat) (strs (P ++ x :: y :: R) ++ rs))).length) (strs (P ++ x :: y :: R) ++ rs)).length = N ∧ (0 : Nat) + (↑(((some (↑P.length : Int)).getD (↑n : Int)).toNat - (0 : Nat) + (List.take ((none.getD (↑n : Int)).toNat - (↑(P.length + (1 : Nat)) : Int).toNat) (List.drop ((0 : Nat) + (↑(P.length + (1 : Nat)) : Int).toNat) (strs (P ++ x :: y :: R) ++ rs))).length) : Int).toNat + (((some (↑n : Int)).getD (↑(((some (↑P.length : Int)).getD (↑n : Int)).toNat - (0 : Nat) + (List.take ((none.getD (↑n : Int)).toNat - (↑(P.length + (1 : Nat)) : Int).toNat) (List.drop ((0 : Nat) + (↑(P.length + (1 : Nat)) : Int).toNat) (strs (P ++ x :: y :: R) ++ rs))).length) : Int)).toNat - (↑(((some (↑P.length : Int)).getD (↑n : Int)).toNat - (0 : Nat) + (List.take ((none.getD (↑n : Int)).toNat - (↑(P.length + (1 : Nat)) : Int).toNat) (List.drop ((0 : Nat) + (↑(P.length + (1 : Nat)) : Int).toNat) (strs (P ++ x :: y :: R) ++ rs))).length) : Int).toNat) ≤ N ∧ (0 : Nat) ≤ (0 : Nat) + (↑(((some (↑P.length : Int)).getD (↑n : Int)).toNat - (0 : Nat) + (List.take ((none.getD (↑n : Int)).toNat - (↑(P.length + (1 : Nat)) : Int).toNat) (List.drop ((0 : Nat) + (↑(P.length + (1 : Nat)) : Int).toNat) (strs (P ++ x :: y :: R) ++ rs))).length) : Int).toNat ∧ (0 : Nat) < ((some (↑n : Int)).getD (↑(((some (↑P.length : Int)).getD (↑n : Int)).toNat - (0 : Nat) + (List.take ((none.getD (↑n : Int)).toNat - (↑(P.length + (1 : Nat)) : Int).toNat) (List.drop ((0 : Nat) + (↑(P.length + (1 : Nat)) : Int).toNat) (strs (P ++ x :: y :: R) ++ rs))).length) : Int)).toNat - (↑(((some (↑P.length : Int)).getD (↑n : Int)).toNat - (0 : Nat) + (List.take ((none.getD (↑n : Int)).toNat - (↑(P.length + (1 : Nat)) : Int).toNat) (List.drop ((0 : Nat) + (↑(P.length + (1 : Nat)) : Int).toNat) (strs (P ++ x :: y :: R) ++ rs))).length) : Int).toNat) .nil))))))))) (by kernel_rfl)) e1 e2
end Go.Proofs.YtbdnigendhhndaaGreatDoor
end
section
/- graph.Order: the loop that takes what is ready. -/
namespace Go.Proofs.YtbdnigendhhndaaGreatDoor
open Go Go.Ev
set_option maxRecDepth 100000

def addD (D : List ByteArray) (x : ByteArray) : List ByteArray := bif inD D x then D else D ++ [x]
theorem doneR_set (D : List ByteArray) (x : ByteArray) : mapSet (doneR D) (.string x) [.s (.bool true)] = doneR (addD D x) := by
  have key : ∀ D : List ByteArray, mapSet (doneR D) (.string x) [.s (.bool true)] = bif inD D x then doneR D else doneR D ++ [(.string x, [.s (.bool true)])] := by
    intro D
    induction D with
    | nil => rfl
    | cons k r ih =>
      simp only [doneR, List.map_cons, mapSet, keyEq, inD, List.any_cons]
      cases hk : x.toList == k.toList with
      | true => rfl
      | false =>
        simp only [cond_false, Bool.false_or]
        have ih' := ih
        simp only [doneR, inD] at ih'
        rw [ih']
        cases r.any fun k => x.toList == k.toList <;> rfl
  rw [key]
  unfold addD
  cases inD D x with
  | true => rfl
  | false => simp [doneR]

/-- The first that p holds of, with what stands around it. -/
def pick (p : ByteArray → Bool) : List ByteArray → Option (List ByteArray × ByteArray × List ByteArray)
  | [] => none
  | x :: r => bif p x then some ([], x, r) else (pick p r).map fun t => (x :: t.1, t.2.1, t.2.2)
theorem pick_none {p : ByteArray → Bool} : ∀ {l : List ByteArray} (n : Nat), pick p l = none → idxS p l n = none
  | [], n, _ => rfl
  | x :: r, n, h => by
    simp only [pick] at h
    simp only [idxS]
    cases hp : p x with
    | true => rw [hp] at h; cases h
    | false =>
      rw [hp] at h
      simp only [cond_false, Option.map_eq_none_iff] at h
      exact pick_none (n + 1) h
theorem pick_some {p : ByteArray → Bool} : ∀ {l : List ByteArray} (n : Nat) {P R : List ByteArray} {x : ByteArray}, pick p l = some (P, x, R) → idxS p l n = some (n + P.length) ∧ l = P ++ x :: R
  | y :: r, n, P, R, x, h => by
    simp only [pick] at h
    simp only [idxS]
    cases hp : p y with
    | true =>
      rw [hp] at h
      cases h
      exact ⟨rfl, rfl⟩
    | false =>
      rw [hp] at h
      simp only [cond_false, Option.map_eq_some_iff, Prod.mk.injEq] at h
      obtain ⟨⟨P', x', R'⟩, h1, h2, h3, h4⟩ := h
      simp only at h2 h3 h4
      subst h2; subst h3; subst h4
      obtain ⟨e1, e2⟩ := pick_some (n + 1) h1
      simp only [cond_false]
      exact ⟨by rw [e1]; simp; omega, by rw [e2]; rfl⟩

/-- What graph.Order's second loop makes. -/
def topo (M : List (ByteArray × List ByteArray)) : Nat → List ByteArray → List ByteArray → List ByteArray → Option (List ByteArray)
  | 0, _, o, _ => some o
  | f + 1, l, o, D => match l with
    | [] => some o
    | y :: t => match pick (ready M D) (y :: t) with
      | none => none
      | some (P, x, R) => topo M f (P ++ R) (o ++ [x]) (addD D x)

def ownS (id : Ev.Id) (sz : Nat) (rows : List (List PV)) : List (Ev.Id × AO) := match rows with
  | [] => []
  | r :: t => [(id, .arr sz (r :: t) 0)]
theorem ownS_cons (id : Ev.Id) (x : ByteArray) (r : List ByteArray) : ownS id 1 (strs (x :: r)) = [(id, .arr 1 (strs (x :: r)) 0)] := rfl
theorem ownV_snoc (id : Ev.Id) (o : List ByteArray) (x : ByteArray) : ownV id (strs (o ++ [x])) = .ms id 0 (o.length + 1) (o.length + 1) := by
  cases o with
  | nil => rfl
  | cons y t => simp [ownV, strs]
theorem ownS_snoc (id : Ev.Id) (o : List ByteArray) (x : ByteArray) : ownS id 1 (strs (o ++ [x])) = [(id, .arr 1 (strs o ++ [[pS x]]) 0)] := by
  cases o with
  | nil => rfl
  | cons y t => simp [ownS, strs]

abbrev topoS (M : List (ByteArray × List ByteArray)) (D l o : List ByteArray) (rs : List (List PV)) : List (Ev.Id × AO) :=
  [((8, 0), .cells [.mp (24, 0)]), ((12, 0), .cells [.mp (55, 0)]), ((16, 0), .arr 1 (strs l ++ rs) 0), ((24, 0), .map false (needR M)), ((55, 0), .map false (doneR D))] ++ ownS (70, 0) 1 (strs o)
def topoOut (r : Option (List ByteArray)) : AE × St := match r with
  | none => (.ret, ⟨[(4, .p (.s nilS)), (5, int 12)], []⟩)
  | some o => (.exit 2, ⟨[(10, ownV (70, 0) (strs o))], ownS (70, 0) 1 (strs o)⟩)

theorem topo_loop (M : List (ByteArray × List ByteArray)) (hM : ∀ x, ((needOf M x).getD []).length ≤ 2 ^ 62) (N : Nat) (h62 : N ≤ 2 ^ 30) : ∀ (f : Nat) (l o D : List ByteArray) (rs : List (List PV)) (n : Nat), n = l.length → l.length ≤ f → (strs l ++ rs).length = N → o.length + l.length ≤ 2 ^ 30 →
    EvCode cx (EvCall cx) (.loop (loopBody Tryz.f33 1)) ⟨[(6, .ms (16, 0) 0 n N), (7, .ref (8, 0) 0), (10, ownV (70, 0) (strs o)), (11, .ref (12, 0) 0)], topoS M D l o rs⟩
      (topoOut (topo M (f + 1) l o D)).1 (topoOut (topo M (f + 1) l o D)).2
  | f, [], o, D, rs, n, hn, hf, hN, ho => by
    simp only [topo, topoOut]
    have hn0 : n = 0 := hn
    subst hn0
    cases o with
    | nil => exact EvCode.out [.same, .same] [(10 : Nat)] [] .nil (AE.ne_exit _) (by kernel_rfl)
    | cons a u =>
      simp only [topoS, ownS_cons, ownV_cons, List.cons_append, List.nil_append]
      exact EvCode.out [.same, .same] [(10 : Nat)] [((70 : Nat), (0 : Nat))] .nil (AE.ne_exit _) (by kernel_rfl)
  | 0, y :: t, o, D, rs, n, hn, hf, hN, ho => by simp at hf
  | f + 1, y :: t, o, D, rs, n, hn, hf, hN, ho => by
    have hi := indexO M D hM (y :: t) rs N hN (by omega)
    rw [← hn] at hi
    have hpos : 0 < n := by simp at hn; omega
    have hnN : n ≤ N := by rw [← hN, hn]; simp [strs]
    rw [topo]
    cases hp : pick (ready M D) (y :: t) with
    | none =>
      rw [pick_none 0 hp] at hi
      simp only [topoOut]
      cases o with
      | nil => exact EvCode.out [T, .same, .ref, .call (int (idxI none)) (HL (y :: t) rs M D), .same, .same] [(4 : Nat), (5 : Nat)] [] (.cons (vb (by simp; omega : decide ((↑n : Int) > (0 : Int)) = true)) (.cons hi .nil)) AE.ne_ret (by kernel_rfl)
      | cons a u =>
        simp only [topoS, ownS_cons, ownV_cons, List.cons_append, List.nil_append]
        exact EvCode.out [T, .same, .ref, .call (int (idxI none)) (HL (y :: t) rs M D), .same, .same] [(4 : Nat), (5 : Nat)] [] (.cons (vb (by simp; omega : decide ((↑n : Int) > (0 : Int)) = true)) (.cons hi .nil)) AE.ne_ret (by kernel_rfl)
    | some q =>
      obtain ⟨P, x, R⟩ := q
      obtain ⟨e1, e2⟩ := pick_some 0 hp
      rw [Nat.zero_add] at e1
      rw [e1] at hi
      simp only [idxI] at hi
      clear hp e1
      generalize y :: t = l at *
      subst e2
      have hk := doneR_keys D x
      have g := at_pre (P ++ x :: R) rs P.length x (by simp)
      have hPl : P.length < n := by rw [hn]; simp
      simp only
      cases R with
      | nil =>
        have hn1 : n = P.length + 1 := by rw [hn]; simp
        subst hn1
        have hd := delLast P x rs (P.length + 1) N rfl hN (by omega)
        have ih := topo_loop M hM N h62 f (P ++ []) (o ++ [x]) (addD D x) ([pS ⟨#[]⟩] :: rs) P.length (by simp) (by simp at hf ⊢; omega) (by simp [strs] at hN ⊢; omega) (by simp at ho ⊢; omega)
        rw [ownV_snoc] at ih
        simp only [topoS, ownS_snoc, ← doneR_set, List.append_nil] at ih
        simp only [List.append_nil]
        cases o with
        | nil => exact EvCode.round [T, .same, .ref, .call (int (↑P.length : Int)) (HL (P ++ [x]) rs M D), .same, .same, .row ([pS x]), .same, .row ([pS x]), .v (.int .i64 ((P.length + (1 : Nat) : Nat) : Int)), .ref, .call (AV.ms ((0 : Nat), (0 : Nat)) (0 : Nat) P.length N) ([AO.arr (1 : Nat) (strs P ++ [pS { data := #[] }] :: rs) (0 : Nat)])] [(6 : Nat), (7 : Nat), (10 : Nat), (11 : Nat)] [((8 : Nat), (0 : Nat)), ((12 : Nat), (0 : Nat)), ((16 : Nat), (0 : Nat)), ((24 : Nat), (0 : Nat)), ((55 : Nat), (0 : Nat)), ((70 : Nat), (0 : Nat))] (.cons (vb (by simp : decide ((↑(P.length + (1 : Nat)) : Int) > (0 : Int)) = true)) (.cons hi (.cons ((by simp [inBd, strs_length, rowsE_length]; omega) : inBd (↑P.length : Int) (P.length + (1 : Nat))) (.cons (hN : (strs (P ++ [x]) ++ rs).length = N) (.cons g (.cons (⟨rfl, (by omega)⟩ : (1 : Nat) = (1 : Nat) ∧ (1 : Nat) ≤ (1 : Nat)) (.cons (⟨(by simp), ⟨(by omega), (by omega)⟩⟩ : List.take (1 : Nat) (List.drop (0 : Nat) (List.map (fun (i : Nat) => List.take ti9.sz (List.drop (i * ti9.sz) [nrm (pS x)])) (List.range (1 : Nat)))) ≠ [] ∧ (16 : Nat) ≤ (140737488355328 : Nat) ∧ (1 : Nat) ≤ (4611686018427387904 : Nat)) (.cons ((by simp [inBd, strs_length, rowsE_length]; omega) : inBd (↑P.length : Int) (P.length + (1 : Nat))) (.cons (hN : (strs (P ++ [x]) ++ rs).length = N) (.cons g (.cons (hk : (∀ (y : Value × List PV), y ∈ doneR D → keyB cx.ty (9 : Nat) y.fst = true) ∧ true = true) (.cons (natVi64 (by omega) (by omega) (by omega) : Value.int .i64 (IntKind.i64.wrap ((↑P.length : Int) + (1 : Int))) = .int .i64 ((P.length + (1 : Nat) : Nat) : Int)) (.cons hd .nil))))))))))))) (by kernel_rfl) ih
        | cons a u =>
          have ho' : u.length + 1 ≤ 2 ^ 30 := by simp at ho; omega
          have hsl : (strs (a :: u)).length = u.length + 1 := by simp [strs]
          simp only [topoS, ownS_cons, ownV_cons, List.cons_append, List.nil_append]
          exact EvCode.round [T, .same, .ref, .call (int (↑P.length : Int)) (HL (P ++ [x]) rs M D), .same, .same, .row ([pS x]), .same, .val, .row ([pS x]), .v (.int .i64 ((P.length + (1 : Nat) : Nat) : Int)), .ref, .call (AV.ms ((0 : Nat), (0 : Nat)) (0 : Nat) P.length N) ([AO.arr (1 : Nat) (strs P ++ [pS { data := #[] }] :: rs) (0 : Nat)])] [(6 : Nat), (7 : Nat), (10 : Nat), (11 : Nat)] [((8 : Nat), (0 : Nat)), ((12 : Nat), (0 : Nat)), ((16 : Nat), (0 : Nat)), ((24 : Nat), (0 : Nat)), ((55 : Nat), (0 : Nat)), ((70 : Nat), (0 : Nat))] (.cons (vb (by simp : decide ((↑(P.length + (1 : Nat)) : Int) > (0 : Int)) = true)) (.cons hi (.cons ((by simp [inBd, strs_length, rowsE_length]; omega) : inBd (↑P.length : Int) (P.length + (1 : Nat))) (.cons (hN : (strs (P ++ [x]) ++ rs).length = N) (.cons g (.cons (⟨rfl, (by omega)⟩ : (1 : Nat) = (1 : Nat) ∧ (1 : Nat) ≤ (1 : Nat)) (.cons (⟨hsl, ⟨rfl, ⟨rfl, ⟨rfl, ⟨(by simp), ⟨(by omega), (by omega)⟩⟩⟩⟩⟩⟩ : (strs (a :: u)).length = u.length + (1 : Nat) ∧ (0 : Nat) = (0 : Nat) ∧ u.length + (1 : Nat) = u.length + (1 : Nat) ∧ (1 : Nat) = (1 : Nat) ∧ List.take (1 : Nat) (List.drop (0 : Nat) (List.map (fun (i : Nat) => List.take ti9.sz (List.drop (i * ti9.sz) [nrm (pS x)])) (List.range (1 : Nat)))) ≠ [] ∧ (u.length + (1 : Nat) + (1 : Nat)) * (16 : Nat) ≤ (140737488355328 : Nat) ∧ u.length + (1 : Nat) + (1 : Nat) ≤ (4611686018427387904 : Nat)) (.cons ((by simp [inBd, strs_length, rowsE_length]; omega) : inBd (↑P.length : Int) (P.length + (1 : Nat))) (.cons (hN : (strs (P ++ [x]) ++ rs).length = N) (.cons g (.cons (hk : (∀ (y : Value × List PV), y ∈ doneR D → keyB cx.ty (9 : Nat) y.fst = true) ∧ true = true) (.cons (natVi64 (by omega) (by omega) (by omega) : Value.int .i64 (IntKind.i64.wrap ((↑P.length : Int) + (1 : Int))) = .int .i64 ((P.length + (1 : Nat) : Nat) : Int)) (.cons hd .nil))))))))))))) (by kernel_rfl) ih
      | cons z R =>
        have hd := delMid P R x z rs n N (by rw [hn]; simp; omega) hN (by omega)
        have ih := topo_loop M hM N h62 f (P ++ z :: R) (o ++ [x]) (addD D x) ([pS ⟨#[]⟩] :: rs) (P.length + (R.length + 1)) (by simp) (by simp at hf ⊢; omega) (by simp [strs] at hN ⊢; omega) (by simp at ho ⊢; omega)
        rw [ownV_snoc] at ih
        simp only [topoS, ownS_snoc, ← doneR_set] at ih
        cases o with
        | nil => exact EvCode.round [T, .same, .ref, .call (int (↑P.length : Int)) (HL (P ++ x :: z :: R) rs M D), .same, .same, .row ([pS x]), .same, .row ([pS x]), .v (.int .i64 ((P.length + (1 : Nat) : Nat) : Int)), .ref, .call (AV.ms ((0 : Nat), (0 : Nat)) (0 : Nat) (P.length + (R.length + (1 : Nat))) N) ([AO.arr (1 : Nat) (strs (P ++ z :: R) ++ [pS { data := #[] }] :: rs) (0 : Nat)])] [(6 : Nat), (7 : Nat), (10 : Nat), (11 : Nat)] [((8 : Nat), (0 : Nat)), ((12 : Nat), (0 : Nat)), ((16 : Nat), (0 : Nat)), ((24 : Nat), (0 : Nat)), ((55 : Nat), (0 : Nat)), ((70 : Nat), (0 : Nat))] (.cons (vb (by simp; omega : decide ((↑n : Int) > (0 : Int)) = true)) (.cons hi (.cons ((by simp [inBd, strs_length, rowsE_length]; omega) : inBd (↑P.length : Int) n) (.cons (hN : (strs (P ++ x :: z :: R) ++ rs).length = N) (.cons g (.cons (⟨rfl, (by omega)⟩ : (1 : Nat) = (1 : Nat) ∧ (1 : Nat) ≤ (1 : Nat)) (.cons (⟨(by simp), ⟨(by omega), (by omega)⟩⟩ : List.take (1 : Nat) (List.drop (0 : Nat) (List.map (fun (i : Nat) => List.take ti9.sz (List.drop (i * ti9.sz) [nrm (pS x)])) (List.range (1 : Nat)))) ≠ [] ∧ (16 : Nat) ≤ (140737488355328 : Nat) ∧ (1 : Nat) ≤ (4611686018427387904 : Nat)) (.cons ((by simp [inBd, strs_length, rowsE_length]; omega) : inBd (↑P.length : Int) n) (.cons (hN : (strs (P ++ x :: z :: R) ++ rs).length = N) (.cons g (.cons (hk : (∀ (y : Value × List PV), y ∈ doneR D → keyB cx.ty (9 : Nat) y.fst = true) ∧ true = true) (.cons (natVi64 (by omega) (by omega) (by omega) : Value.int .i64 (IntKind.i64.wrap ((↑P.length : Int) + (1 : Int))) = .int .i64 ((P.length + (1 : Nat) : Nat) : Int)) (.cons hd .nil))))))))))))) (by kernel_rfl) ih
        | cons a u =>
          have ho' : u.length + 1 ≤ 2 ^ 30 := by simp at ho; omega
          have hsl : (strs (a :: u)).length = u.length + 1 := by simp [strs]
          simp only [topoS, ownS_cons, ownV_cons, List.cons_append, List.nil_append]
          exact EvCode.round [T, .same, .ref, .call (int (↑P.length : Int)) (HL (P ++ x :: z :: R) rs M D), .same, .same, .row ([pS x]), .same, .val, .row ([pS x]), .v (.int .i64 ((P.length + (1 : Nat) : Nat) : Int)), .ref, .call (AV.ms ((0 : Nat), (0 : Nat)) (0 : Nat) (P.length + (R.length + (1 : Nat))) N) ([AO.arr (1 : Nat) (strs (P ++ z :: R) ++ [pS { data := #[] }] :: rs) (0 : Nat)])] [(6 : Nat), (7 : Nat), (10 : Nat), (11 : Nat)] [((8 : Nat), (0 : Nat)), ((12 : Nat), (0 : Nat)), ((16 : Nat), (0 : Nat)), ((24 : Nat), (0 : Nat)), ((55 : Nat), (0 : Nat)), ((70 : Nat), (0 : Nat))] (.cons (vb (by simp; omega : decide ((↑n : Int) > (0 : Int)) = true)) (.cons hi (.cons ((by simp [inBd, strs_length, rowsE_length]; omega) : inBd (↑P.length : Int) n) (.cons (hN : (strs (P ++ x :: z :: R) ++ rs).length = N) (.cons g (.cons (⟨rfl, (by omega)⟩ : (1 : Nat) = (1 : Nat) ∧ (1 : Nat) ≤ (1 : Nat)) (.cons (⟨hsl, ⟨rfl, ⟨rfl, ⟨rfl, ⟨(by simp), ⟨(by omega), (by omega)⟩⟩⟩⟩⟩⟩ : (strs (a :: u)).length = u.length + (1 : Nat) ∧ (0 : Nat) = (0 : Nat) ∧ u.length + (1 : Nat) = u.length + (1 : Nat) ∧ (1 : Nat) = (1 : Nat) ∧ List.take (1 : Nat) (List.drop (0 : Nat) (List.map (fun (i : Nat) => List.take ti9.sz (List.drop (i * ti9.sz) [nrm (pS x)])) (List.range (1 : Nat)))) ≠ [] ∧ (u.length + (1 : Nat) + (1 : Nat)) * (16 : Nat) ≤ (140737488355328 : Nat) ∧ u.length + (1 : Nat) + (1 : Nat) ≤ (4611686018427387904 : Nat)) (.cons ((by simp [inBd, strs_length, rowsE_length]; omega) : inBd (↑P.length : Int) n) (.cons (hN : (strs (P ++ x :: z :: R) ++ rs).length = N) (.cons g (.cons (hk : (∀ (y : Value × List PV), y ∈ doneR D → keyB cx.ty (9 : Nat) y.fst = true) ∧ true = true) (.cons (natVi64 (by omega) (by omega) (by omega) : Value.int .i64 (IntKind.i64.wrap ((↑P.length : Int) + (1 : Int))) = .int .i64 ((P.length + (1 : Nat) : Nat) : Int)) (.cons hd .nil))))))))))))) (by kernel_rfl) ih
end Go.Proofs.YtbdnigendhhndaaGreatDoor
end
section
/- graph.Order: the loop over the edges. -/
namespace Go.Proofs.YtbdnigendhhndaaGreatDoor
open Go Go.Ev
set_option maxRecDepth 100000

def inL (l : List ByteArray) (v : ByteArray) : Bool := l.any fun u => v.toList == u.toList
def edgR (e : ByteArray × ByteArray) : List PV := [pS e.1, pS e.2]
def edgeOk (l : List ByteArray) (e : ByteArray × ByteArray) : Bool := inL l e.1 && inL l e.2
/-- One edge more in the groups. -/
def grpAdd : List (ByteArray × List ByteArray) → ByteArray × ByteArray → List (ByteArray × List ByteArray)
  | [], e => [(e.1, [e.2])]
  | p :: r, e => bif e.1.toList == p.1.toList then (p.1, p.2 ++ [e.2]) :: r else p :: grpAdd r e
/-- What each text needs directly. -/
def needM (E : List (ByteArray × ByteArray)) : List (ByteArray × List ByteArray) := E.foldl grpAdd []

theorem needM_snoc (E : List (ByteArray × ByteArray)) (e : ByteArray × ByteArray) : needM (E ++ [e]) = grpAdd (needM E) e := by simp [needM]
theorem needR_set (M : List (ByteArray × List ByteArray)) (e : ByteArray × ByteArray) : mapSet (needR M) (.string e.1) [.sl (strs ((needOf M e.1).getD [] ++ [e.2]))] = needR (grpAdd M e) := by
  induction M with
  | nil => rfl
  | cons p r ih =>
    simp only [needOf, grpAdd]
    cases hk : e.1.toList == p.1.toList with
    | true => simp only [needR, List.map_cons, mapSet, keyEq, hk, cond_true, Option.getD_some]
    | false =>
      simp only [cond_false]
      simp only [needR, List.map_cons, mapSet, keyEq, hk, cond_false] at ih ⊢
      rw [ih]
theorem grpAdd_of (M : List (ByteArray × List ByteArray)) (e : ByteArray × ByteArray) (x : ByteArray) :
    (needOf (grpAdd M e) x).getD [] = (needOf M x).getD [] ++ (bif x.toList == e.1.toList then [e.2] else []) := by
  induction M with
  | nil =>
    simp only [grpAdd, needOf, Option.getD_none]
    cases x.toList == e.1.toList <;> rfl
  | cons p r ih =>
    simp only [grpAdd]
    cases hk : e.1.toList == p.1.toList with
    | true =>
      have hk' : e.1.toList = p.1.toList := by simpa using hk
      simp only [cond_true, needOf]
      rw [hk']
      cases x.toList == p.1.toList with
      | true => rfl
      | false => simp
    | false =>
      simp only [cond_false, needOf]
      cases hx : x.toList == p.1.toList with
      | true =>
        have hx' : x.toList = p.1.toList := by simpa using hx
        have : (x.toList == e.1.toList) = false := by
          rw [hx']
          cases hc : p.1.toList == e.1.toList with
          | false => rfl
          | true =>
            have : p.1.toList = e.1.toList := by simpa using hc
            rw [this] at hk
            simp at hk
        simp [this]
      | false => simpa using ih
/-- The needs of x are where the edges of x lead. -/
theorem needM_of (E : List (ByteArray × ByteArray)) (x : ByteArray) : (needOf (needM E) x).getD [] = (E.filter fun e => x.toList == e.1.toList).map Prod.snd := by
  have key : ∀ (E : List (ByteArray × ByteArray)) (M : List (ByteArray × List ByteArray)), (needOf (E.foldl grpAdd M) x).getD [] = (needOf M x).getD [] ++ (E.filter fun e => x.toList == e.1.toList).map Prod.snd := by
    intro E
    induction E with
    | nil => intro M; simp
    | cons e r ih =>
      intro M
      rw [List.foldl_cons, ih, grpAdd_of, List.append_assoc]
      congr 1
      simp only [List.filter_cons]
      cases x.toList == e.1.toList <;> rfl
  exact key E []
theorem needM_len (E : List (ByteArray × ByteArray)) (x : ByteArray) : ((needOf (needM E) x).getD []).length ≤ E.length := by
  rw [needM_of, List.length_map]
  exact List.length_filter_le _ _

def edgeOutG (l : List ByteArray) (N : Nat) (E suf : List (ByteArray × ByteArray)) : AE × St := bif suf.all (edgeOk l) then
  (.exit 0, ⟨[(6, .ms (16, 0) 0 N N), (7, .ref (8, 0) 0)], [((8, 0), .cells [.mp (24, 0)]), ((16, 0), .arr 1 (strs l) 0), ((24, 0), .gm (needR (needM E)) none E.length)]⟩)
  else (.ret, ⟨[(4, .p (.s nilS)), (5, int 11)], []⟩)
def edgeOut (l : List ByteArray) (N : Nat) (E suf : List (ByteArray × ByteArray)) : AE × St := bif suf.all (edgeOk l) then
  (.exit 0, ⟨[(6, .ms (16, 0) 0 N N), (7, .ref (8, 0) 0)], [((8, 0), .cells [.mp (24, 0)]), ((16, 0), .arr 1 (strs l) 0), ((24, 0), .map false (needR (needM E)))]⟩)
  else (.ret, ⟨[(4, .p (.s nilS)), (5, int 11)], []⟩)

theorem edge_loopG (l : List ByteArray) (N : Nat) (hN : N = l.length) (h62 : N ≤ 2 ^ 30) (E : List (ByteArray × ByteArray)) (hE2 : E.length ≤ 2 ^ 30) : ∀ (suf pre : List (ByteArray × ByteArray)), E = pre ++ suf →
    EvCode cx (EvCall cx) (.loop (loopBody Tryz.f33 0)) ⟨[(6, .ms (16, 0) 0 N N), (7, .ref (8, 0) 0), (24, sl (E.map edgR)), (25, int E.length), (26, int pre.length)], [((8, 0), .cells [.mp (24, 0)]), ((16, 0), .arr 1 (strs l) 0), ((24, 0), .gm (needR (needM pre)) none pre.length)]⟩
      (edgeOutG l N E suf).1 (edgeOutG l N E suf).2
  | [], pre, h => by
    have hp : pre.length = E.length := by rw [h]; simp
    have he : pre = E := by simpa using h.symm
    rw [he]
    exact EvCode.out [F, .same] [6, 7] [(8, 0), (16, 0), (24, 0)] (.cons (vb (by simp : decide ((↑E.length : Int) < (↑E.length : Int)) = false)) .nil) (AE.ne_exit _) (by kernel_rfl)
  | e :: r, pre, h => by
    have hlt : pre.length < E.length := by rw [h]; simp
    have hx : E[pre.length]? = some e := get_of_split h
    have hlr : (strs l ++ []).length = N := by rw [List.append_nil, strs_length, hN]
    have hc1 := contains50o l [] e.1 N hlr (by omega)
    have hc2 := contains50o l [] e.2 N hlr (by omega)
    rw [List.append_nil, ← hN] at hc1 hc2
    have ih := edge_loopG l N hN h62 E hE2 r (pre ++ [e]) (by simp [h])
    simp only [List.length_append, List.length_singleton] at ih
    have hml := needM_len pre e.1
    have hset := needR_set (needM pre) e
    rw [needM_snoc, ← hset] at ih
    have hk := needR_keys (needM pre) e.1
    have hk1 := hk.1
    have hh := needR_has (needM pre) e.1
    have hg := needR_get (needM pre) e.1
    have hke : (e.1.toList == e.1.toList) = true := by simp
    have ho : (e :: r).all (edgeOk l) = (edgeOk l e && r.all (edgeOk l)) := rfl
    unfold edgeOutG
    rw [ho]
    unfold edgeOk inL
    cases b1 : l.any (fun u => e.1.toList == u.toList) with
    | false =>
      rw [b1] at hc1
      simp only [Bool.false_and, cond_false]
      exact EvCode.out [T, .same, .row (edgR e), .same, .ref, .call (Ev.bool false) ([AO.arr 1 (strs l) 0]), .same, .same, .same, .same, .same, .same, .same, .same] [4, 5] [] (.cons (vb (by simp; omega : decide ((↑pre.length : Int) < (↑E.length : Int)) = true)) (.cons (rowI_at hx : rowI (List.map edgR E) (↑pre.length : Int) = some (edgR e)) (.cons hc1 .nil))) AE.ne_ret (by kernel_rfl)
    | true =>
      rw [b1] at hc1
      cases b2 : l.any (fun u => e.2.toList == u.toList) with
      | false =>
        rw [b2] at hc2
        simp only [Bool.and_false, Bool.false_and, cond_false]
        exact EvCode.out [T, .same, .row (edgR e), .same, .ref, .call (Ev.bool true) ([AO.arr 1 (strs l) 0]), .same, .same, .same, .same, .same, .ref, .call (Ev.bool false) ([AO.arr 1 (strs l) 0]), .same, .same, .same, .same] [4, 5] [] (.cons (vb (by simp; omega : decide ((↑pre.length : Int) < (↑E.length : Int)) = true)) (.cons (rowI_at hx : rowI (List.map edgR E) (↑pre.length : Int) = some (edgR e)) (.cons hc1 (.cons hc2 .nil)))) AE.ne_ret (by kernel_rfl)
      | true =>
        rw [b2] at hc2
        simp only [Bool.true_and]
        unfold edgeOutG edgeOk inL at ih
        cases hn : needOf (needM pre) e.1 with
        | none =>
          rw [hn] at hh ih
          have hh' : mapHas (needR (needM pre)) (.string e.1) = false := hh
          simp only [Option.getD_none, List.nil_append] at ih
          exact EvCode.round [T, .same, .row (edgR e), .same, .ref, .call (Ev.bool true) ([AO.arr 1 (strs l) 0]), .same, .same, .same, .same, .same, .ref, .call (Ev.bool true) ([AO.arr 1 (strs l) 0]), .same, .same, .same, .same, .same, .b false, .v (.int .i64 ((pre.length + 1 : Nat) : Int))] [6, 7, 24, 25, 26] [(8, 0), (16, 0), (24, 0)] (.cons (vb (by simp; omega : decide ((↑pre.length : Int) < (↑E.length : Int)) = true)) (.cons (rowI_at hx : rowI (List.map edgR E) (↑pre.length : Int) = some (edgR e)) (.cons hc1 (.cons hc2 (.cons (hk : (∀ (y : Value × List PV), y ∈ needR (needM pre) → keyB cx.ty 9 y.fst = true) ∧ true = true) (.cons (⟨rfl, (by omega)⟩ : 1 = 1 ∧ 1 ≤ 1) (.cons (rfl : pre.length = pre.length) (.cons hh' (.cons ((by omega) : 16 ≤ 140737488355328) (.cons (⟨rfl, ⟨hk1, ⟨rfl, hke⟩⟩⟩ : pre.length = pre.length ∧ (∀ (y : Value × List PV), y ∈ needR (needM pre) → keyB cx.ty 9 y.fst = true) ∧ true = true ∧ keyEq (Value.string e.fst) (Value.string e.fst) = true) (.cons (natVi64 (by omega) (by omega) (by omega) : Value.int .i64 (IntKind.i64.wrap ((↑pre.length : Int) + (1 : Int))) = .int .i64 ((pre.length + 1 : Nat) : Int)) .nil))))))))))) (by kernel_rfl) ih
        | some v =>
          rw [hn] at hh hg ih hml
          have hh' : mapHas (needR (needM pre)) (.string e.1) = true := hh
          have hg' : mapGet (needR (needM pre)) (.string e.1) = some [.sl (strs v)] := hg
          simp only [Option.getD_some] at ih hml
          have hsv : (strs v).length = v.length := strs_length v
          have hap : strs (v ++ [e.2]) = strs v ++ [[pS e.2]] := by simp [strs]
          rw [hap] at ih
          exact EvCode.round [T, .same, .row (edgR e), .same, .ref, .call (Ev.bool true) ([AO.arr 1 (strs l) 0]), .same, .same, .same, .same, .same, .ref, .call (Ev.bool true) ([AO.arr 1 (strs l) 0]), .same, .same, .same, .same, .same, .b true, .row ([PV.sl (strs v)]), .v (.int .i64 ((pre.length + 1 : Nat) : Int))] [6, 7, 24, 25, 26] [(8, 0), (16, 0), (24, 0)] (.cons (vb (by simp; omega : decide ((↑pre.length : Int) < (↑E.length : Int)) = true)) (.cons (rowI_at hx : rowI (List.map edgR E) (↑pre.length : Int) = some (edgR e)) (.cons hc1 (.cons hc2 (.cons (hk : (∀ (y : Value × List PV), y ∈ needR (needM pre) → keyB cx.ty 9 y.fst = true) ∧ true = true) (.cons (⟨rfl, (by omega)⟩ : 1 = 1 ∧ 1 ≤ 1) (.cons (rfl : pre.length = pre.length) (.cons hh' (.cons hg' (.cons (⟨(by omega), (by omega)⟩ : ((strs v).length + 1) * 16 ≤ 140737488355328 ∧ (strs v).length + 1 ≤ 4611686018427387904) (.cons (⟨rfl, ⟨hk1, ⟨rfl, hke⟩⟩⟩ : pre.length = pre.length ∧ (∀ (y : Value × List PV), y ∈ needR (needM pre) → keyB cx.ty 9 y.fst = true) ∧ true = true ∧ keyEq (Value.string e.fst) (Value.string e.fst) = true) (.cons (natVi64 (by omega) (by omega) (by omega) : Value.int .i64 (IntKind.i64.wrap ((↑pre.length : Int) + (1 : Int))) = .int .i64 ((pre.length + 1 : Nat) : Int)) .nil)))))))))))) (by kernel_rfl) ih
theorem edge_loop (l : List ByteArray) (N : Nat) (hN : N = l.length) (h62 : N ≤ 2 ^ 30) (E : List (ByteArray × ByteArray)) (hE2 : E.length ≤ 2 ^ 30) :
    EvCode cx (EvCall cx) (.loop (loopBody Tryz.f33 0)) ⟨[(6, .ms (16, 0) 0 N N), (7, .ref (8, 0) 0), (24, sl (E.map edgR)), (25, int E.length), (26, int 0)], [((8, 0), .cells [.mp (24, 0)]), ((16, 0), .arr 1 (strs l) 0), ((24, 0), .gm [] none 0)]⟩
      (edgeOut l N E E).1 (edgeOut l N E E).2 := by
  have h := edge_loopG l N hN h62 E hE2 E [] rfl
  unfold edgeOutG at h
  unfold edgeOut
  cases ha : E.all (edgeOk l) with
  | false => rw [ha] at h; exact h
  | true =>
    rw [ha] at h
    simp only [cond_true] at h ⊢
    exact EvCode.kept (ts := [6, 7]) (is := [(8, 0), (16, 0), (24, 0)]) rfl (EvCode.frzR (id := (24, 0)) h rfl)
end Go.Proofs.YtbdnigendhhndaaGreatDoor
end
section
/- graph.Order. -/
namespace Go.Proofs.YtbdnigendhhndaaGreatDoor
open Go Go.Ev
set_option maxRecDepth 100000

theorem isortFrom_len : ∀ (s p : List ByteArray), (isortFrom p s).length = p.length + s.length
  | [], p => by simp [isortFrom]
  | x :: s, p => by simp only [isortFrom]; rw [isortFrom_len, insP_len]; simp; omega
theorem isort_len (l : List ByteArray) : (isort l).length = l.length := by
  cases l with
  | nil => rfl
  | cons x r => simp only [isort]; rw [isortFrom_len]; simp; omega

def orderG (ns : List ByteArray) (E : List (ByteArray × ByteArray)) : List ByteArray × Int :=
  bif (compactS (isort ns)).length != ns.length then ([], 10)
  else bif E.all (edgeOk (isort ns)) then (match topo (needM E) (ns.length + 1) (isort ns) [] [] with | none => ([], 12) | some o => (o, 0))
  else ([], 11)

theorem compactNil : EvCall cx 31 [sl []] [] (sl []) [] := by
  exact EvCall.run Tryz.f31 Tryz.func31 Tryz.call31 [.same, .same, .val] .nil (by kernel_rfl)

theorem orderNil : EvCall cx 33 [sl (strs []), sl []] [] (.tup [sl [], int 0]) [] := by
  have h1 := values60 []
  have h2 := sorted59 [] (by simp)
  have h3 := clone61 [] (by simp)
  have h4 := compactNil
  have l1 : EvCode cx (EvCall cx) (.loop (loopBody Tryz.f33 0)) ⟨[(6, .p (.s nilS)), (7, .ref (8, 0) 0), (25, int 0), (26, int 0)], [((8, 0), .cells [.mp (24, 0)]), ((24, 0), .map false [])]⟩
      (.exit 0) ⟨[(6, .p (.s nilS)), (7, .ref (8, 0) 0)], [((8, 0), .cells [.mp (24, 0)]), ((24, 0), .map false [])]⟩ := by
    exact EvCode.out [.same, .same] [6, 7] [(8, 0), (24, 0)] .nil (AE.ne_exit _) (by kernel_rfl)
  have l2 : EvCode cx (EvCall cx) (.loop (loopBody Tryz.f33 1)) ⟨[(6, .p (.s nilS)), (10, .p (.s nilS))], []⟩
      (.exit 2) ⟨[(10, .p (.s nilS))], []⟩ := by
    exact EvCode.out [.same, .same] [10] [] .nil (AE.ne_exit _) (by kernel_rfl)
  exact EvCall.run Tryz.f33 Tryz.func33 Tryz.call33 [.val, .call (AV.fn (104 : FuncId) [AV.ref (0, 0) 0]) ([AO.cells [sl (strs [])]]), .val, .call (sortedV (0, 1) []) (AO.cells [sl (strs [])] :: sortedO []), .val, .call (sl (strs [])) ([]), .val, .call (sl []) ([]), .same, .same, .val, .loop [6, 7, 25, 26] [(8, 0), (24, 0)] (AE.exit 0) ({ e := [(6, AV.p (PV.s (Value.slice none 0 0))), (7, AV.ref (8, 0) 0)], s := [((8, 0), AO.cells [AV.mp (24, 0)]), ((24, 0), AO.map false [])] }), .loop [6, 10] [] (AE.exit 2) ({ e := [(10, AV.p (PV.s (Value.slice none 0 0)))], s := [] }), .val] (.cons h1 (.cons h2 (.cons h3 (.cons h4 (.cons l1 (.cons l2 .nil)))))) (by kernel_rfl)

theorem order33 (n0 : ByteArray) (nr : List ByteArray) (h12 : (n0 :: nr).length ≤ 12) (E : List (ByteArray × ByteArray)) (hE2 : E.length ≤ 2 ^ 30) :
    EvCall cx 33 [sl (strs (n0 :: nr)), sl (E.map edgR)] [] (.tup [sl (strs (orderG (n0 :: nr) E).1), int (orderG (n0 :: nr) E).2]) [] := by
  have hM : ∀ x, ((needOf (needM E) x).getD []).length ≤ 2 ^ 62 := fun x => by have := needM_len E x; omega
  have h1 := values60 (n0 :: nr)
  have h2 := sorted59 (n0 :: nr) (by omega)
  have hl : (isort (n0 :: nr)).length = nr.length + 1 := by rw [isort_len]; simp
  unfold orderG
  have hlen : (n0 :: nr).length = nr.length + 1 := by simp
  simp only [sortedV, sortedO] at h2
  rw [hlen] at h2 h12
  rw [hlen]
  generalize hs : isort (n0 :: nr) = s at *
  cases s with
  | nil => simp at hl
  | cons x r =>
    have hr : nr.length + 1 = r.length + 1 := by simpa using hl.symm
    rw [hr] at h2
    rw [hr]
    have h3 := clone61o x r (r.length + 1) rfl (by omega)
    obtain ⟨rs, _, h4⟩ := compact31 (x :: r) (r.length + 1) (by simp) (by omega) (by omega)
    cases hb : (compactS (x :: r)).length != r.length + 1 with
    | true =>
      simp only [cond_true]
      have hb2 : (((compactS (x :: r)).length : Int) != ((r.length + 1 : Nat) : Int)) = true := by simp at hb ⊢; omega
      exact EvCall.run Tryz.f33 Tryz.func33 Tryz.call33 [.val, .call (AV.fn (104 : FuncId) [AV.ref (0, 0) 0]) ([AO.cells [sl (strs (n0 :: nr))]]), .val, .call (AV.ms (0, 1) 0 (r.length + 1) (r.length + 1)) ([AO.cells [sl (strs (n0 :: nr))], AO.arr 1 (strs (x :: r)) 0]), .ref, .call (AV.ms (0, 1) 0 (r.length + 1) (r.length + 1)) ([AO.arr 1 (strs (x :: r)) 0, AO.arr 1 (strs (x :: r)) 0]), .ref, .call (AV.ms (0, 0) 0 (compactS (x :: r)).length (r.length + 1)) ([AO.arr 1 (strs (compactS (x :: r)) ++ rs) 0]), T, .same, .val] (.cons h1 (.cons h2 (.cons h3 (.cons h4 (.cons (vb hb2) .nil))))) (by kernel_rfl)
    | false =>
      have hb2 : (((compactS (x :: r)).length : Int) != ((r.length + 1 : Nat) : Int)) = false := by simp at hb ⊢; omega
      have hlp := edge_loop (x :: r) (r.length + 1) (by simp) (by omega) E hE2
      rw [show (E.length : Int) = ((E.map edgR).length : Nat) by simp] at hlp
      simp only [cond_false]
      cases ha : E.all (edgeOk (x :: r)) with
      | false =>
        unfold edgeOut at hlp
        rw [ha] at hlp
        simp only [cond_false]
        exact EvCall.run Tryz.f33 Tryz.func33 Tryz.call33 [.val, .call (AV.fn (104 : FuncId) [AV.ref (0, 0) 0]) ([AO.cells [sl (strs (n0 :: nr))]]), .val, .call (AV.ms (0, 1) 0 (r.length + 1) (r.length + 1)) ([AO.cells [sl (strs (n0 :: nr))], AO.arr 1 (strs (x :: r)) 0]), .ref, .call (AV.ms (0, 1) 0 (r.length + 1) (r.length + 1)) ([AO.arr 1 (strs (x :: r)) 0, AO.arr 1 (strs (x :: r)) 0]), .ref, .call (AV.ms (0, 0) 0 (compactS (x :: r)).length (r.length + 1)) ([AO.arr 1 (strs (compactS (x :: r)) ++ rs) 0]), F, .same, .ref, .loop [6, 7, 24, 25, 26] [(8, 0), (16, 0), (24, 0)] (AE.ret) ({ e := [(4, AV.p (PV.s (Value.slice none 0 0))), (5, AV.p (PV.s (Value.int IntKind.i64 (11 : Int))))], s := [] }), .val] (.cons h1 (.cons h2 (.cons h3 (.cons h4 (.cons (vb hb2) (.cons hlp .nil)))))) (by kernel_rfl)
      | true =>
        unfold edgeOut at hlp
        rw [ha] at hlp
        have ht := topo_loop (needM E) hM (r.length + 1) (by omega) (r.length + 1) (x :: r) [] [] [] (r.length + 1) (by simp) (by simp) (by simp [strs]) (by simp; omega)
        simp only [topoS, List.append_nil] at ht
        simp only [cond_true]
        cases hto : topo (needM E) (r.length + 1 + 1) (x :: r) [] [] with
        | none =>
          rw [hto] at ht
          exact EvCall.run Tryz.f33 Tryz.func33 Tryz.call33 [.val, .call (AV.fn (104 : FuncId) [AV.ref (0, 0) 0]) ([AO.cells [sl (strs (n0 :: nr))]]), .val, .call (AV.ms (0, 1) 0 (r.length + 1) (r.length + 1)) ([AO.cells [sl (strs (n0 :: nr))], AO.arr 1 (strs (x :: r)) 0]), .ref, .call (AV.ms (0, 1) 0 (r.length + 1) (r.length + 1)) ([AO.arr 1 (strs (x :: r)) 0, AO.arr 1 (strs (x :: r)) 0]), .ref, .call (AV.ms (0, 0) 0 (compactS (x :: r)).length (r.length + 1)) ([AO.arr 1 (strs (compactS (x :: r)) ++ rs) 0]), F, .same, .ref, .loop [6, 7, 24, 25, 26] [(8, 0), (16, 0), (24, 0)] (AE.exit 0) ({ e := [(6, AV.ms (16, 0) 0 (r.length + 1) (r.length + 1)), (7, AV.ref (8, 0) 0)], s := [((8, 0), AO.cells [AV.mp (24, 0)]), ((16, 0), AO.arr 1 (strs (x :: r)) 0), ((24, 0), AO.map false (needR (needM E)))] }), .loop [6, 7, 10, 11] [(8, 0), (12, 0), (16, 0), (24, 0), (55, 0)] (AE.ret) ({ e := [(4, AV.p (PV.s (Value.slice none 0 0))), (5, AV.p (PV.s (Value.int IntKind.i64 (12 : Int))))], s := [] }), .val] (.cons h1 (.cons h2 (.cons h3 (.cons h4 (.cons (vb hb2) (.cons hlp (.cons ht .nil))))))) (by kernel_rfl)
        | some o =>
          rw [hto] at ht
          cases o with
          | nil => exact EvCall.run Tryz.f33 Tryz.func33 Tryz.call33 [.val, .call (AV.fn (104 : FuncId) [AV.ref (0, 0) 0]) ([AO.cells [sl (strs (n0 :: nr))]]), .val, .call (AV.ms (0, 1) 0 (r.length + 1) (r.length + 1)) ([AO.cells [sl (strs (n0 :: nr))], AO.arr 1 (strs (x :: r)) 0]), .ref, .call (AV.ms (0, 1) 0 (r.length + 1) (r.length + 1)) ([AO.arr 1 (strs (x :: r)) 0, AO.arr 1 (strs (x :: r)) 0]), .ref, .call (AV.ms (0, 0) 0 (compactS (x :: r)).length (r.length + 1)) ([AO.arr 1 (strs (compactS (x :: r)) ++ rs) 0]), F, .same, .ref, .loop [6, 7, 24, 25, 26] [(8, 0), (16, 0), (24, 0)] (AE.exit 0) ({ e := [(6, AV.ms (16, 0) 0 (r.length + 1) (r.length + 1)), (7, AV.ref (8, 0) 0)], s := [((8, 0), AO.cells [AV.mp (24, 0)]), ((16, 0), AO.arr 1 (strs (x :: r)) 0), ((24, 0), AO.map false (needR (needM E)))] }), .loop [6, 7, 10, 11] [(8, 0), (12, 0), (16, 0), (24, 0), (55, 0)] (AE.exit 2) ({ e := [(10, AV.p (PV.s (Value.slice none 0 0)))], s := [] }), .val] (.cons h1 (.cons h2 (.cons h3 (.cons h4 (.cons (vb hb2) (.cons hlp (.cons ht .nil))))))) (by kernel_rfl)
          | cons a u =>
            simp only [topoOut, ownS_cons, ownV_cons] at ht
            have hsl : (strs (a :: u)).length = u.length + 1 := by simp [strs]
            have htk : List.take (u.length + 1) (List.drop 0 (strs (a :: u))) = strs (a :: u) := by rw [List.drop_zero, List.take_of_length_le (Nat.le_of_eq hsl)]
            exact EvCall.run Tryz.f33 Tryz.func33 Tryz.call33 [.val, .call (AV.fn (104 : FuncId) [AV.ref (0, 0) 0]) ([AO.cells [sl (strs (n0 :: nr))]]), .val, .call (AV.ms (0, 1) 0 (r.length + 1) (r.length + 1)) ([AO.cells [sl (strs (n0 :: nr))], AO.arr 1 (strs (x :: r)) 0]), .ref, .call (AV.ms (0, 1) 0 (r.length + 1) (r.length + 1)) ([AO.arr 1 (strs (x :: r)) 0, AO.arr 1 (strs (x :: r)) 0]), .ref, .call (AV.ms (0, 0) 0 (compactS (x :: r)).length (r.length + 1)) ([AO.arr 1 (strs (compactS (x :: r)) ++ rs) 0]), F, .same, .ref, .loop [6, 7, 24, 25, 26] [(8, 0), (16, 0), (24, 0)] (AE.exit 0) ({ e := [(6, AV.ms (16, 0) 0 (r.length + 1) (r.length + 1)), (7, AV.ref (8, 0) 0)], s := [((8, 0), AO.cells [AV.mp (24, 0)]), ((16, 0), AO.arr 1 (strs (x :: r)) 0), ((24, 0), AO.map false (needR (needM E)))] }), .loop [6, 7, 10, 11] [(8, 0), (12, 0), (16, 0), (24, 0), (55, 0)] (AE.exit 2) ({ e := [(10, AV.ms (70, 0) 0 (u.length + 1) (u.length + 1))], s := [((70, 0), AO.arr 1 (strs (a :: u)) 0)] }), .val, .row [.sl (strs (a :: u))]] (.cons h1 (.cons h2 (.cons h3 (.cons h4 (.cons (vb hb2) (.cons hlp (.cons ht (.cons (⟨hsl, (by omega)⟩ : (strs (a :: u)).length = u.length + 1 ∧ 0 + (u.length + 1) ≤ u.length + 1) (.cons (congrArg (fun z => some [PV.sl z]) htk) .nil))))))))) (by kernel_rfl)
end Go.Proofs.YtbdnigendhhndaaGreatDoor
end
