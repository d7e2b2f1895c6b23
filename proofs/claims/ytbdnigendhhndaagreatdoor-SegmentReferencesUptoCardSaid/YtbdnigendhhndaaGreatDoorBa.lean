/- A part of the proofs of this seat's laws (abstract interpretation of the translated program, and contracts of its functions); no statement of its own. -/
import Derived.Test.YtbdnigendhhndaaGreatDoorFc
import Derived.Test.YtbdnigendhhndaaGreatDoorPa
set_option linter.unusedVariables false
set_option linter.unusedSimpArgs false
section
/- slices.Index, slices.Contains over texts. -/
namespace Go.Proofs.YtbdnigendhhndaaGreatDoor
open Go Go.Ev
set_option maxRecDepth 100000

theorem index_loop (l : List ByteArray) (v : ByteArray) (hl : l.length ≤ 2 ^ 62) : ∀ (suf pre : List ByteArray), l = pre ++ suf →
    EvCode cx (EvCall cx) (.loop (loopBody Tryz.f79 0)) ⟨[(0, sl (strs l)), (1, str v), (7, int l.length), (8, int pre.length)], []⟩ (idxOut (idxS (fun u => v.toList == u.toList) suf pre.length)).1 (idxOut (idxS (fun u => v.toList == u.toList) suf pre.length)).2
  | [], pre, h => by
    have hp : pre.length = l.length := by rw [h]; simp
    exact EvCode.out [.same, .b false] [] [] (.cons (by simp [hp] : decide ((pre.length : Int) < l.length) = false) .nil) (by simp [idxOut, idxS]) (by kernel_rfl)
  | x :: r, pre, h => by
    have hlt : pre.length < l.length := by rw [h]; simp
    have hrow : rowI (strs l) (pre.length : Int) = some [.s (.string x)] := rowI_at (get_of_split h)
    simp only [idxS]
    cases hb : v.toList == x.toList with
    | true =>
      exact EvCode.out [.same, .b true, .row [.s (.string x)], .same, .same, .b true] [4] [] (.cons (by simpa using hlt : decide ((pre.length : Int) < l.length) = true) (.cons hrow (.cons hb .nil))) (by simp [idxOut]) (by kernel_rfl)
    | false =>
      have ih := index_loop l v hl r (pre ++ [x]) (by simp [h])
      simp only [List.length_append, List.length_singleton] at ih
      simp only [cond_false]
      have h2 : Value.int .i64 (IntKind.i64.wrap ((pre.length : Int) + 1)) = .int .i64 ((pre.length + 1 : Nat) : Int) := by rw [wrap_id (by omega) (by omega)]; simp
      exact EvCode.round [.same, .b true, .row [.s (.string x)], .same, .same, .b false, .v (.int .i64 ((pre.length + 1 : Nat) : Int))] [0, 1, 7, 8] []
        (.cons (by simpa using hlt : decide ((pre.length : Int) < l.length) = true) (.cons hrow (.cons hb (.cons h2 .nil)))) (by kernel_rfl) ih

theorem index79 (l : List ByteArray) (v : ByteArray) (hl : l.length ≤ 2 ^ 62) : EvCall cx 79 [sl (strs l), str v] [] (int (idxI (idxS (fun u => v.toList == u.toList) l 0))) [] := by
  have h := index_loop l v hl l [] rfl
  have hlen : ((strs l).length : Int) = l.length := by rw [strs_length]
  simp only [List.length_nil] at h
  rw [← strs_length l] at h
  cases hi : idxS (fun u => v.toList == u.toList) l 0 with
  | none =>
    rw [hi] at h
    exact EvCall.run Tryz.f79 Tryz.func79 Tryz.call79 [.loop [0, 1, 7, 8] [] (.exit 0) ⟨[], []⟩] (.cons h .nil) (by kernel_rfl)
  | some j =>
    rw [hi] at h
    exact EvCall.run Tryz.f79 Tryz.func79 Tryz.call79 [.loop [0, 1, 7, 8] [] .ret ⟨[(4, int j)], []⟩] (.cons h .nil) (by kernel_rfl)

theorem contains50 (l : List ByteArray) (v : ByteArray) (hl : l.length ≤ 2 ^ 62) : EvCall cx 50 [sl (strs l), str v] [] (bool (l.any fun u => v.toList == u.toList)) [] := by
  have h := index79 l v hl
  have he : decide (idxI (idxS (fun u => v.toList == u.toList) l 0) ≥ 0) = l.any fun u => v.toList == u.toList := by
    rw [← idxS_any (n := 0)]
    cases idxS (fun u => v.toList == u.toList) l 0 with
    | none => rfl
    | some j => simp [idxI]
  rw [← he]
  exact EvCall.run Tryz.f50 Tryz.func50 Tryz.call50 [.call (int (idxI (idxS (fun u => v.toList == u.toList) l 0))) [], .same] (.cons h .nil) (by kernel_rfl)
end Go.Proofs.YtbdnigendhhndaaGreatDoor
end
section
/- Written by gen.py. -/
namespace Go.Proofs.YtbdnigendhhndaaGreatDoor
open Go Go.Ev
set_option maxRecDepth 100000

theorem each54_loop (f : FuncId) (g : Exp → Exp) (l : List Exp) (hl : l.length ≤ 2 ^ 30) (hf : ∀ e ∈ l, EvCall cx f [ag e.row] [] (ag (g e).row) []) : ∀ (suf pre : List Exp) (q : List (List PV)), l = pre ++ suf → q = pre.map (fun e => (g e).row) →
    EvCode cx (EvCall cx) (.loop (loopBody Tryz.f54 0)) ⟨[(1, .fn f []), (5, .ms (11, 0) 0 pre.length pre.length), (11, sl (l.map Exp.row)), (12, int l.length), (13, int pre.length)], [((11, 0), .arr 5 q 0)]⟩
      (.exit 0) ⟨[(5, .ms (11, 0) 0 l.length l.length)], [((11, 0), .arr 5 (l.map fun e => (g e).row) 0)]⟩
  | [], pre, q, h, hq => by
    have hp : l = pre := by simpa using h
    subst hp
    subst hq
    exact EvCode.out [.same, .b false] [5] [(11, 0)] (.cons (by simp : decide ((l.length : Int) < l.length) = false) .nil) (by simp) (by kernel_rfl)
  | x :: r, pre, q, h, hq => by
    have hlt : pre.length < l.length := by rw [h]; simp
    have hrow : rowI (l.map Exp.row) (pre.length : Int) = some x.row := rowI_at (get_of_split h)
    have ih := each54_loop f g l hl hf r (pre ++ [x]) (q ++ [(g x).row]) (by simp [h]) (by simp [hq])
    simp only [List.length_append, List.length_singleton] at ih
    have h2 : Value.int .i64 (IntKind.i64.wrap ((pre.length : Int) + 1)) = .int .i64 ((pre.length + 1 : Nat) : Int) := by rw [wrap_id (by omega) (by omega)]; simp
    have hb : q.length = pre.length ∧ 0 = 0 ∧ pre.length = pre.length ∧ 5 = 5 ∧ [(g x).row] ≠ [] ∧ (pre.length + 1) * 88 ≤ 2 ^ 47 ∧ pre.length + 1 ≤ 2 ^ 62 := ⟨by simp [hq], rfl, rfl, rfl, by simp, by omega, by omega⟩
    exact EvCode.round [.same, .b true, .row x.row, .same, .call (ag (g x).row) [], .same, .v (.int .i64 ((pre.length + 1 : Nat) : Int))] [1, 5, 11, 12, 13] [(11, 0)]
      (.cons (by simpa using hlt : decide ((pre.length : Int) < l.length) = true) (.cons hrow (.cons (hf x (by rw [h]; simp)) (.cons (⟨rfl, Nat.le_refl _⟩ : 1 = 1 ∧ 0 + 1 ≤ 1) (.cons hb (.cons h2 .nil)))))) (by kernel_rfl) ih

theorem each54 (f : FuncId) (g : Exp → Exp) (l : List Exp) (hl : l.length ≤ 2 ^ 30) (hf : ∀ e ∈ l, EvCall cx f [ag e.row] [] (ag (g e).row) []) :
    EvCall cx 54 [sl (l.map Exp.row), .fn f []] [] (sl (l.map fun e => (g e).row)) [] := by
  have h := each54_loop f g l hl hf l [] [] rfl rfl
  rw [show (l.length : Int) = ((l.map Exp.row).length : Nat) by simp] at h
  have hb : (0 : Int) ≤ 0 ∧ (0 : Int) ≤ ((l.map Exp.row).length : Nat) ∧ (((l.map Exp.row).length : Nat) : Int) * 88 ≤ ((2 ^ 47 : Nat) : Int) ∧ (((l.map Exp.row).length : Nat) : Int) ≤ 2 ^ 62 := by
    rw [List.length_map]; refine ⟨by omega, by omega, by omega, by omega⟩
  have hn : some [PV.sl ((((l.map fun e => (g e).row)).drop 0).take l.length)] = some [PV.sl (l.map fun e => (g e).row)] := by rw [List.drop_zero, List.take_of_length_le (by simp)]
  exact EvCall.run Tryz.f54 Tryz.func54 Tryz.call54 [.loop [1, 5, 11, 12, 13] [(11, 0)] (.exit 0) ⟨[(5, .ms (11, 0) 0 l.length l.length)], [((11, 0), .arr 5 (l.map fun e => (g e).row) 0)]⟩, .row [.sl (l.map fun e => (g e).row)]]
    (.cons hb (.cons h (.cons (by simp : (l.map fun e => (g e).row).length = l.length ∧ 0 + l.length ≤ l.length) (.cons hn .nil)))) (by kernel_rfl)

theorem each90_loop (f : FuncId) (g : Val → Val) (l : List Val) (hl : l.length ≤ 2 ^ 30) (hf : ∀ e ∈ l, EvCall cx f [ag e.row] [] (ag (g e).row) []) : ∀ (suf pre : List Val) (q : List (List PV)), l = pre ++ suf → q = pre.map (fun e => (g e).row) →
    EvCode cx (EvCall cx) (.loop (loopBody Tryz.f90 0)) ⟨[(1, .fn f []), (5, .ms (11, 0) 0 pre.length pre.length), (11, sl (l.map Val.row)), (12, int l.length), (13, int pre.length)], [((11, 0), .arr 4 q 0)]⟩
      (.exit 0) ⟨[(5, .ms (11, 0) 0 l.length l.length)], [((11, 0), .arr 4 (l.map fun e => (g e).row) 0)]⟩
  | [], pre, q, h, hq => by
    have hp : l = pre := by simpa using h
    subst hp
    subst hq
    exact EvCode.out [.same, .b false] [5] [(11, 0)] (.cons (by simp : decide ((l.length : Int) < l.length) = false) .nil) (by simp) (by kernel_rfl)
  | x :: r, pre, q, h, hq => by
    have hlt : pre.length < l.length := by rw [h]; simp
    have hrow : rowI (l.map Val.row) (pre.length : Int) = some x.row := rowI_at (get_of_split h)
    have ih := each90_loop f g l hl hf r (pre ++ [x]) (q ++ [(g x).row]) (by simp [h]) (by simp [hq])
    simp only [List.length_append, List.length_singleton] at ih
    have h2 : Value.int .i64 (IntKind.i64.wrap ((pre.length : Int) + 1)) = .int .i64 ((pre.length + 1 : Nat) : Int) := by rw [wrap_id (by omega) (by omega)]; simp
    have hb : q.length = pre.length ∧ 0 = 0 ∧ pre.length = pre.length ∧ 4 = 4 ∧ [(g x).row] ≠ [] ∧ (pre.length + 1) * 56 ≤ 2 ^ 47 ∧ pre.length + 1 ≤ 2 ^ 62 := ⟨by simp [hq], rfl, rfl, rfl, by simp, by omega, by omega⟩
    exact EvCode.round [.same, .b true, .row x.row, .same, .call (ag (g x).row) [], .same, .v (.int .i64 ((pre.length + 1 : Nat) : Int))] [1, 5, 11, 12, 13] [(11, 0)]
      (.cons (by simpa using hlt : decide ((pre.length : Int) < l.length) = true) (.cons hrow (.cons (hf x (by rw [h]; simp)) (.cons (⟨rfl, Nat.le_refl _⟩ : 1 = 1 ∧ 0 + 1 ≤ 1) (.cons hb (.cons h2 .nil)))))) (by kernel_rfl) ih

theorem each90 (f : FuncId) (g : Val → Val) (l : List Val) (hl : l.length ≤ 2 ^ 30) (hf : ∀ e ∈ l, EvCall cx f [ag e.row] [] (ag (g e).row) []) :
    EvCall cx 90 [sl (l.map Val.row), .fn f []] [] (sl (l.map fun e => (g e).row)) [] := by
  have h := each90_loop f g l hl hf l [] [] rfl rfl
  rw [show (l.length : Int) = ((l.map Val.row).length : Nat) by simp] at h
  have hb : (0 : Int) ≤ 0 ∧ (0 : Int) ≤ ((l.map Val.row).length : Nat) ∧ (((l.map Val.row).length : Nat) : Int) * 56 ≤ ((2 ^ 47 : Nat) : Int) ∧ (((l.map Val.row).length : Nat) : Int) ≤ 2 ^ 62 := by
    rw [List.length_map]; refine ⟨by omega, by omega, by omega, by omega⟩
  have hn : some [PV.sl ((((l.map fun e => (g e).row)).drop 0).take l.length)] = some [PV.sl (l.map fun e => (g e).row)] := by rw [List.drop_zero, List.take_of_length_le (by simp)]
  exact EvCall.run Tryz.f90 Tryz.func90 Tryz.call90 [.loop [1, 5, 11, 12, 13] [(11, 0)] (.exit 0) ⟨[(5, .ms (11, 0) 0 l.length l.length)], [((11, 0), .arr 4 (l.map fun e => (g e).row) 0)]⟩, .row [.sl (l.map fun e => (g e).row)]]
    (.cons hb (.cons h (.cons (by simp : (l.map fun e => (g e).row).length = l.length ∧ 0 + l.length ≤ l.length) (.cons hn .nil)))) (by kernel_rfl)

theorem each164_loop (f : FuncId) (g : Att → Att) (l : List Att) (hl : l.length ≤ 2 ^ 30) (hf : ∀ e ∈ l, EvCall cx f [ag e.row] [] (ag (g e).row) []) : ∀ (suf pre : List Att) (q : List (List PV)), l = pre ++ suf → q = pre.map (fun e => (g e).row) →
    EvCode cx (EvCall cx) (.loop (loopBody Tryz.f164 0)) ⟨[(1, .fn f []), (5, .ms (11, 0) 0 pre.length pre.length), (11, sl (l.map Att.row)), (12, int l.length), (13, int pre.length)], [((11, 0), .arr 5 q 0)]⟩
      (.exit 0) ⟨[(5, .ms (11, 0) 0 l.length l.length)], [((11, 0), .arr 5 (l.map fun e => (g e).row) 0)]⟩
  | [], pre, q, h, hq => by
    have hp : l = pre := by simpa using h
    subst hp
    subst hq
    exact EvCode.out [.same, .b false] [5] [(11, 0)] (.cons (by simp : decide ((l.length : Int) < l.length) = false) .nil) (by simp) (by kernel_rfl)
  | x :: r, pre, q, h, hq => by
    have hlt : pre.length < l.length := by rw [h]; simp
    have hrow : rowI (l.map Att.row) (pre.length : Int) = some x.row := rowI_at (get_of_split h)
    have ih := each164_loop f g l hl hf r (pre ++ [x]) (q ++ [(g x).row]) (by simp [h]) (by simp [hq])
    simp only [List.length_append, List.length_singleton] at ih
    have h2 : Value.int .i64 (IntKind.i64.wrap ((pre.length : Int) + 1)) = .int .i64 ((pre.length + 1 : Nat) : Int) := by rw [wrap_id (by omega) (by omega)]; simp
    have hb : q.length = pre.length ∧ 0 = 0 ∧ pre.length = pre.length ∧ 5 = 5 ∧ [(g x).row] ≠ [] ∧ (pre.length + 1) * 72 ≤ 2 ^ 47 ∧ pre.length + 1 ≤ 2 ^ 62 := ⟨by simp [hq], rfl, rfl, rfl, by simp, by omega, by omega⟩
    exact EvCode.round [.same, .b true, .row x.row, .same, .call (ag (g x).row) [], .same, .v (.int .i64 ((pre.length + 1 : Nat) : Int))] [1, 5, 11, 12, 13] [(11, 0)]
      (.cons (by simpa using hlt : decide ((pre.length : Int) < l.length) = true) (.cons hrow (.cons (hf x (by rw [h]; simp)) (.cons (⟨rfl, Nat.le_refl _⟩ : 1 = 1 ∧ 0 + 1 ≤ 1) (.cons hb (.cons h2 .nil)))))) (by kernel_rfl) ih

theorem each164 (f : FuncId) (g : Att → Att) (l : List Att) (hl : l.length ≤ 2 ^ 30) (hf : ∀ e ∈ l, EvCall cx f [ag e.row] [] (ag (g e).row) []) :
    EvCall cx 164 [sl (l.map Att.row), .fn f []] [] (sl (l.map fun e => (g e).row)) [] := by
  have h := each164_loop f g l hl hf l [] [] rfl rfl
  rw [show (l.length : Int) = ((l.map Att.row).length : Nat) by simp] at h
  have hb : (0 : Int) ≤ 0 ∧ (0 : Int) ≤ ((l.map Att.row).length : Nat) ∧ (((l.map Att.row).length : Nat) : Int) * 72 ≤ ((2 ^ 47 : Nat) : Int) ∧ (((l.map Att.row).length : Nat) : Int) ≤ 2 ^ 62 := by
    rw [List.length_map]; refine ⟨by omega, by omega, by omega, by omega⟩
  have hn : some [PV.sl ((((l.map fun e => (g e).row)).drop 0).take l.length)] = some [PV.sl (l.map fun e => (g e).row)] := by rw [List.drop_zero, List.take_of_length_le (by simp)]
  exact EvCall.run Tryz.f164 Tryz.func164 Tryz.call164 [.loop [1, 5, 11, 12, 13] [(11, 0)] (.exit 0) ⟨[(5, .ms (11, 0) 0 l.length l.length)], [((11, 0), .arr 5 (l.map fun e => (g e).row) 0)]⟩, .row [.sl (l.map fun e => (g e).row)]]
    (.cons hb (.cons h (.cons (by simp : (l.map fun e => (g e).row).length = l.length ∧ 0 + l.length ≤ l.length) (.cons hn .nil)))) (by kernel_rfl)
end Go.Proofs.YtbdnigendhhndaaGreatDoor
end
section
/- slices.Clone, slices.Equal over texts; same.Value. -/
namespace Go.Proofs.YtbdnigendhhndaaGreatDoor
open Go Go.Ev
set_option maxRecDepth 100000

theorem clone61 (l : List ByteArray) (hl : l.length ≤ 2 ^ 30) : EvCall cx 61 [sl (strs l)] [] (sl (strs l)) [] := by
  cases l with
  | nil =>
    exact EvCall.split (a := []) (EvCall.run Tryz.f61 Tryz.func61 Tryz.call61 [] .nil (by kernel_rfl))
      (EvCall.run Tryz.f61 Tryz.func61 Tryz.call61 [] (.cons (rfl : 0 = 0) (.cons (⟨rfl, Nat.le_refl _⟩ : 0 = 0 ∧ 0 + 0 ≤ 0) .nil)) (by kernel_rfl))
  | cons x l =>
    have hs : (strs (x :: l)).length = l.length + 1 := by simp [strs]
    have h1 : strs (x :: l) ≠ [] := by simp [strs]
    have h2 : RowsAre 1 (strs (x :: l)) := rowsAre_map fun _ => rfl
    have h3 : 0 = 0 ∧ 0 = 0 ∧ 0 = 0 ∧ 1 = 1 ∧ strs (x :: l) ≠ [] ∧ (0 + (strs (x :: l)).length) * 16 ≤ 2 ^ 47 ∧ 0 + (strs (x :: l)).length ≤ 2 ^ 62 := by
      simp only [List.length_cons] at hl
      refine ⟨rfl, rfl, rfl, rfl, h1, by rw [hs]; omega, by rw [hs]; omega⟩
    have h4 : ([] ++ strs (x :: l)).length = 0 + (strs (x :: l)).length ∧ 0 + (0 + (strs (x :: l)).length) ≤ 0 + (strs (x :: l)).length := by simp
    have h5 : some [PV.sl ((([] ++ strs (x :: l)).drop 0).take (0 + (strs (x :: l)).length))] = some [PV.sl (strs (x :: l))] := by simp
    exact EvCall.run Tryz.f61 Tryz.func61 Tryz.call61 [.same, .same, .row [.sl (strs (x :: l))]] (.cons h1 (.cons h2 (.cons h3 (.cons h4 (.cons h5 .nil))))) (by kernel_rfl)


def eqOut (b : Bool) : AE × St := bif b then (.exit 0, ⟨[], []⟩) else (.ret, ⟨[(4, bool false)], []⟩)

theorem equal_loop (l k : List ByteArray) (hl : l.length ≤ 2 ^ 62) : ∀ (s pl s' pk : List ByteArray), l = pl ++ s → k = pk ++ s' → pl.length = pk.length → s.length = s'.length →
    EvCode cx (EvCall cx) (.loop (loopBody Tryz.f178 0)) ⟨[(0, sl (strs l)), (1, sl (strs k)), (12, int l.length), (13, int pl.length)], []⟩ (eqOut (eqSs s s')).1 (eqOut (eqSs s s')).2
  | [], pl, s', pk, h, hk, hp, hs => by
    have hs' : s' = [] := List.eq_nil_of_length_eq_zero (by simpa using hs.symm)
    subst hs'
    have hp : pl.length = l.length := by rw [h]; simp
    exact EvCode.out [F] [] [] (.cons (ltF (n := pl.length) (m := l.length) (by omega)) .nil) (by simp [eqOut, eqL]) (by kernel_rfl)
  | x :: r, pl, s', pk, h, hk, hp, hs => by
    cases s' with
    | nil => simp at hs
    | cons y q =>
      have hlt : pl.length < l.length := by rw [h]; simp
      have h1 : rowI (strs l) (pl.length : Int) = some [pS x] := rowI_at (get_of_split h)
      have h2 : rowI (strs k) (pl.length : Int) = some [pS y] := by rw [hp]; exact rowI_at (get_of_split hk)
      simp only [eqSs, eqL]
      cases hb : eqS x y with
      | false =>
        exact EvCode.out [T, .same, .row [pS x], .same, .row [pS y], .same, T] [4] [] (.cons (ltT hlt) (.cons h1 (.cons h2 (.cons (vb (by rw [show (x.toList == y.toList) = eqS x y from rfl, hb]; rfl) : Value.bool (!(x.toList == y.toList)) = .bool true) .nil)))) (by simp [eqOut]) (by kernel_rfl)
      | true =>
        have ih := equal_loop l k hl r (pl ++ [x]) q (pk ++ [y]) (by simp [h]) (by simp [hk]) (by simp [hp]) (by simpa using hs)
        simp only [List.length_append, List.length_singleton] at ih
        simp only [Bool.true_and]
        exact EvCode.round [T, .same, .row [pS x], .same, .row [pS y], .same, F, .same, .v (.int .i64 ((pl.length + 1 : Nat) : Int))] [0, 1, 12, 13] []
          (.cons (ltT hlt) (.cons h1 (.cons h2 (.cons (vb (by rw [show (x.toList == y.toList) = eqS x y from rfl, hb]; rfl) : Value.bool (!(x.toList == y.toList)) = .bool false) (.cons (succV hlt hl) .nil))))) (by kernel_rfl) ih

theorem equal178 (l k : List ByteArray) (hl : l.length ≤ 2 ^ 62) : EvCall cx 178 [sl (strs l), sl (strs k)] [] (bool (eqSs l k)) [] := by
  by_cases h : l.length = k.length
  · have hlp := equal_loop l k hl l [] k [] rfl rfl rfl h
    rw [show (l.length : Int) = ((strs l).length : Nat) by rw [strs_length]] at hlp
    have hne : Value.bool (((strs l).length : Int) != ((strs k).length : Int)) = .bool false := by simp [strs_length, h]
    cases hb : eqSs l k with
    | true =>
      rw [hb] at hlp
      exact EvCall.run Tryz.f178 Tryz.func178 Tryz.call178 [F, .same, .loop [0, 1, 12, 13] [] (.exit 0) ⟨[], []⟩] (.cons hne (.cons hlp .nil)) (by kernel_rfl)
    | false =>
      rw [hb] at hlp
      exact EvCall.run Tryz.f178 Tryz.func178 Tryz.call178 [F, .same, .loop [0, 1, 12, 13] [] .ret ⟨[(4, bool false)], []⟩] (.cons hne (.cons hlp .nil)) (by kernel_rfl)
  · have hne : Value.bool (((strs l).length : Int) != ((strs k).length : Int)) = .bool true := by simp [strs_length]; omega
    rw [show eqSs l k = false from eqL_length h]
    exact EvCall.run Tryz.f178 Tryz.func178 Tryz.call178 [T] (.cons hne .nil) (by kernel_rfl)


theorem sameV131 (v w : Val) (hv : v.list.length ≤ 2 ^ 62) : EvCall cx 131 [ag v.row, ag w.row] [] (bool (eqV v w)) [] := by
  unfold eqV
  cases h1 : v.kind == w.kind with
  | false => exact EvCall.run Tryz.f131 Tryz.func131 Tryz.call131 [F] (.cons (vb h1) .nil) (by kernel_rfl)
  | true =>
    cases h2 : v.number == w.number with
    | false => exact EvCall.run Tryz.f131 Tryz.func131 Tryz.call131 ([T] ++ S 5 ++ [F]) (.cons (vb h1) (.cons (vb h2) .nil)) (by kernel_rfl)
    | true =>
      cases h3 : eqS v.text w.text with
      | false => exact EvCall.run Tryz.f131 Tryz.func131 Tryz.call131 ([T] ++ S 5 ++ [T] ++ S 6 ++ [F]) (.cons (vb h1) (.cons (vb h2) (.cons (vb h3) .nil))) (by kernel_rfl)
      | true =>
        exact EvCall.run Tryz.f131 Tryz.func131 Tryz.call131 ([T] ++ S 5 ++ [T] ++ S 6 ++ [T] ++ S 6 ++ [.call (bool (eqSs v.list w.list)) []]) (.cons (vb h1) (.cons (vb h2) (.cons (vb h3) (.cons (equal178 v.list w.list hv) .nil)))) (by kernel_rfl)
end Go.Proofs.YtbdnigendhhndaaGreatDoor
end
section
/- Written by gen.py. -/
namespace Go.Proofs.YtbdnigendhhndaaGreatDoor
open Go Go.Ev
set_option maxRecDepth 100000
def eqfOut (b : Bool) : AE × St := bif b then (.exit 0, ⟨[], []⟩) else (.ret, ⟨[(6, bool false)], []⟩)

theorem eqf130_loop (g : FuncId) (p : Val → Val → Bool) (l k : List Val) (hl : l.length ≤ 2 ^ 62) (hf : ∀ x ∈ l, ∀ y ∈ k, EvCall cx g [ag x.row, ag y.row] [] (bool (p x y)) []) : ∀ (s pl s' pk : List Val), l = pl ++ s → k = pk ++ s' → pl.length = pk.length → s.length = s'.length →
    EvCode cx (EvCall cx) (.loop (loopBody Tryz.f130 0)) ⟨[(1, sl (k.map Val.row)), (2, .fn g []), (15, sl (l.map Val.row)), (16, int l.length), (17, int pl.length)], []⟩ (eqfOut (eqL p s s')).1 (eqfOut (eqL p s s')).2
  | [], pl, s', pk, h, hk, hp, hs => by
    have hs' : s' = [] := List.eq_nil_of_length_eq_zero (by simpa using hs.symm)
    subst hs'
    have hp : pl.length = l.length := by rw [h]; simp
    exact EvCode.out [F] [] [] (.cons (ltF (n := pl.length) (m := l.length) (by omega)) .nil) (by simp [eqfOut, eqL]) (by kernel_rfl)
  | x :: r, pl, s', pk, h, hk, hp, hs => by
    cases s' with
    | nil => simp at hs
    | cons y q =>
      have hlt : pl.length < l.length := by rw [h]; simp
      have h1 : rowI (l.map Val.row) (pl.length : Int) = some x.row := rowI_at (get_of_split h)
      have h2 : rowI (k.map Val.row) (pl.length : Int) = some y.row := by rw [hp]; exact rowI_at (get_of_split hk)
      have hc := hf x (by rw [h]; simp) y (by rw [hk]; simp)
      simp only [eqL]
      cases hb : p x y with
      | false =>
        rw [hb] at hc
        exact EvCode.out [T, .same, .row x.row, .same, .row y.row, .same, .call (bool false) []] [6] [] (.cons (ltT hlt) (.cons h1 (.cons h2 (.cons hc .nil)))) (by simp [eqfOut]) (by kernel_rfl)
      | true =>
        rw [hb] at hc
        have ih := eqf130_loop g p l k hl hf r (pl ++ [x]) q (pk ++ [y]) (by simp [h]) (by simp [hk]) (by simp [hp]) (by simpa using hs)
        simp only [List.length_append, List.length_singleton] at ih
        simp only [Bool.true_and]
        exact EvCode.round [T, .same, .row x.row, .same, .row y.row, .same, .call (bool true) [], .same, .same, .v (.int .i64 ((pl.length + 1 : Nat) : Int))] [1, 2, 15, 16, 17] []
          (.cons (ltT hlt) (.cons h1 (.cons h2 (.cons hc (.cons (succV hlt hl) .nil))))) (by kernel_rfl) ih

theorem eqf130 (g : FuncId) (p : Val → Val → Bool) (l k : List Val) (hl : l.length ≤ 2 ^ 62) (hf : ∀ x ∈ l, ∀ y ∈ k, EvCall cx g [ag x.row, ag y.row] [] (bool (p x y)) []) :
    EvCall cx 130 [sl (l.map Val.row), sl (k.map Val.row), .fn g []] [] (bool (eqL p l k)) [] := by
  by_cases h : l.length = k.length
  · have hlp := eqf130_loop g p l k hl hf l [] k [] rfl rfl rfl h
    rw [show (l.length : Int) = ((l.map Val.row).length : Nat) by simp] at hlp
    have hne : Value.bool (((l.map Val.row).length : Int) != ((k.map Val.row).length : Int)) = .bool false := by simp [h]
    cases hb : eqL p l k with
    | true =>
      rw [hb] at hlp
      exact EvCall.run Tryz.f130 Tryz.func130 Tryz.call130 [F, .same, .loop [1, 2, 15, 16, 17] [] (.exit 0) ⟨[], []⟩] (.cons hne (.cons hlp .nil)) (by kernel_rfl)
    | false =>
      rw [hb] at hlp
      exact EvCall.run Tryz.f130 Tryz.func130 Tryz.call130 [F, .same, .loop [1, 2, 15, 16, 17] [] .ret ⟨[(6, bool false)], []⟩] (.cons hne (.cons hlp .nil)) (by kernel_rfl)
  · have hne : Value.bool (((l.map Val.row).length : Int) != ((k.map Val.row).length : Int)) = .bool true := by simp; omega
    rw [eqL_length h]
    exact EvCall.run Tryz.f130 Tryz.func130 Tryz.call130 [T] (.cons hne .nil) (by kernel_rfl)

theorem eqf132_loop (g : FuncId) (p : Exp → Exp → Bool) (l k : List Exp) (hl : l.length ≤ 2 ^ 62) (hf : ∀ x ∈ l, ∀ y ∈ k, EvCall cx g [ag x.row, ag y.row] [] (bool (p x y)) []) : ∀ (s pl s' pk : List Exp), l = pl ++ s → k = pk ++ s' → pl.length = pk.length → s.length = s'.length →
    EvCode cx (EvCall cx) (.loop (loopBody Tryz.f132 0)) ⟨[(1, sl (k.map Exp.row)), (2, .fn g []), (15, sl (l.map Exp.row)), (16, int l.length), (17, int pl.length)], []⟩ (eqfOut (eqL p s s')).1 (eqfOut (eqL p s s')).2
  | [], pl, s', pk, h, hk, hp, hs => by
    have hs' : s' = [] := List.eq_nil_of_length_eq_zero (by simpa using hs.symm)
    subst hs'
    have hp : pl.length = l.length := by rw [h]; simp
    exact EvCode.out [F] [] [] (.cons (ltF (n := pl.length) (m := l.length) (by omega)) .nil) (by simp [eqfOut, eqL]) (by kernel_rfl)
  | x :: r, pl, s', pk, h, hk, hp, hs => by
    cases s' with
    | nil => simp at hs
    | cons y q =>
      have hlt : pl.length < l.length := by rw [h]; simp
      have h1 : rowI (l.map Exp.row) (pl.length : Int) = some x.row := rowI_at (get_of_split h)
      have h2 : rowI (k.map Exp.row) (pl.length : Int) = some y.row := by rw [hp]; exact rowI_at (get_of_split hk)
      have hc := hf x (by rw [h]; simp) y (by rw [hk]; simp)
      simp only [eqL]
      cases hb : p x y with
      | false =>
        rw [hb] at hc
        exact EvCode.out [T, .same, .row x.row, .same, .row y.row, .same, .call (bool false) []] [6] [] (.cons (ltT hlt) (.cons h1 (.cons h2 (.cons hc .nil)))) (by simp [eqfOut]) (by kernel_rfl)
      | true =>
        rw [hb] at hc
        have ih := eqf132_loop g p l k hl hf r (pl ++ [x]) q (pk ++ [y]) (by simp [h]) (by simp [hk]) (by simp [hp]) (by simpa using hs)
        simp only [List.length_append, List.length_singleton] at ih
        simp only [Bool.true_and]
        exact EvCode.round [T, .same, .row x.row, .same, .row y.row, .same, .call (bool true) [], .same, .same, .v (.int .i64 ((pl.length + 1 : Nat) : Int))] [1, 2, 15, 16, 17] []
          (.cons (ltT hlt) (.cons h1 (.cons h2 (.cons hc (.cons (succV hlt hl) .nil))))) (by kernel_rfl) ih

theorem eqf132 (g : FuncId) (p : Exp → Exp → Bool) (l k : List Exp) (hl : l.length ≤ 2 ^ 62) (hf : ∀ x ∈ l, ∀ y ∈ k, EvCall cx g [ag x.row, ag y.row] [] (bool (p x y)) []) :
    EvCall cx 132 [sl (l.map Exp.row), sl (k.map Exp.row), .fn g []] [] (bool (eqL p l k)) [] := by
  by_cases h : l.length = k.length
  · have hlp := eqf132_loop g p l k hl hf l [] k [] rfl rfl rfl h
    rw [show (l.length : Int) = ((l.map Exp.row).length : Nat) by simp] at hlp
    have hne : Value.bool (((l.map Exp.row).length : Int) != ((k.map Exp.row).length : Int)) = .bool false := by simp [h]
    cases hb : eqL p l k with
    | true =>
      rw [hb] at hlp
      exact EvCall.run Tryz.f132 Tryz.func132 Tryz.call132 [F, .same, .loop [1, 2, 15, 16, 17] [] (.exit 0) ⟨[], []⟩] (.cons hne (.cons hlp .nil)) (by kernel_rfl)
    | false =>
      rw [hb] at hlp
      exact EvCall.run Tryz.f132 Tryz.func132 Tryz.call132 [F, .same, .loop [1, 2, 15, 16, 17] [] .ret ⟨[(6, bool false)], []⟩] (.cons hne (.cons hlp .nil)) (by kernel_rfl)
  · have hne : Value.bool (((l.map Exp.row).length : Int) != ((k.map Exp.row).length : Int)) = .bool true := by simp; omega
    rw [eqL_length h]
    exact EvCall.run Tryz.f132 Tryz.func132 Tryz.call132 [T] (.cons hne .nil) (by kernel_rfl)

theorem index129e_loop (g : FuncId) (p : Exp → Bool) (e0 : Exp) (l : List Exp) (hl : l.length ≤ 2 ^ 62) (hf : ∀ e ∈ l, EvCall cx g [ag e.row, .ref (0, 0) 0] [.cells (e0.row.map .p)] (bool (p e)) [.cells (e0.row.map .p)]) : ∀ (suf pre : List Exp), l = pre ++ suf →
    EvCode cx (EvCall cx) (.loop (loopBody Tryz.f129 0)) ⟨[(0, sl (l.map Exp.row)), (1, .fn g [.ref (0, 0) 0]), (7, int l.length), (8, int pre.length)], [((0, 0), .cells (e0.row.map .p))]⟩
      (idxOut (idxS p suf pre.length)).1 ⟨(idxOut (idxS p suf pre.length)).2.e, [((0, 0), .cells (e0.row.map .p))]⟩
  | [], pre, h => by
    have hp : pre.length = l.length := by rw [h]; simp
    exact EvCode.out [F] [] [(0, 0)] (.cons (ltF (n := pre.length) (m := l.length) (by omega)) .nil) (by simp [idxOut, idxS]) (by kernel_rfl)
  | x :: r, pre, h => by
    have hlt : pre.length < l.length := by rw [h]; simp
    have hrow : rowI (l.map Exp.row) (pre.length : Int) = some x.row := rowI_at (get_of_split h)
    have hc := hf x (by rw [h]; simp)
    simp only [idxS]
    cases hb : p x with
    | true =>
      rw [hb] at hc
      exact EvCode.out [T, .same, .row x.row, .same, .call (bool true) [.cells (e0.row.map .p)], .same] [4] [(0, 0)] (.cons (ltT hlt) (.cons hrow (.cons hc .nil))) (by simp [idxOut]) (by kernel_rfl)
    | false =>
      rw [hb] at hc
      have ih := index129e_loop g p e0 l hl hf r (pre ++ [x]) (by simp [h])
      simp only [List.length_append, List.length_singleton] at ih
      simp only [cond_false]
      exact EvCode.round [T, .same, .row x.row, .same, .call (bool false) [.cells (e0.row.map .p)], .same, .v (.int .i64 ((pre.length + 1 : Nat) : Int))] [0, 1, 7, 8] [(0, 0)]
        (.cons (ltT hlt) (.cons hrow (.cons hc (.cons (succV hlt hl) .nil)))) (by kernel_rfl) ih

theorem index129e (g : FuncId) (p : Exp → Bool) (e0 : Exp) (l : List Exp) (hl : l.length ≤ 2 ^ 62) (hf : ∀ e ∈ l, EvCall cx g [ag e.row, .ref (0, 0) 0] [.cells (e0.row.map .p)] (bool (p e)) [.cells (e0.row.map .p)]) :
    EvCall cx 129 [sl (l.map Exp.row), .fn g [.ref (0, 0) 0]] [.cells (e0.row.map .p)] (int (idxI (idxS p l 0))) [.cells (e0.row.map .p)] := by
  have h := index129e_loop g p e0 l hl hf l [] rfl
  simp only [List.length_nil] at h
  rw [show (l.length : Int) = ((l.map Exp.row).length : Nat) by simp] at h
  cases hi : idxS p l 0 with
  | none =>
    rw [hi] at h
    exact EvCall.run Tryz.f129 Tryz.func129 Tryz.call129 [.loop [0, 1, 7, 8] [(0, 0)] (.exit 0) ⟨[], [((0, 0), .cells (e0.row.map .p))]⟩] (.cons h .nil) (by kernel_rfl)
  | some j =>
    rw [hi] at h
    exact EvCall.run Tryz.f129 Tryz.func129 Tryz.call129 [.loop [0, 1, 7, 8] [(0, 0)] .ret ⟨[(4, int j)], [((0, 0), .cells (e0.row.map .p))]⟩] (.cons h .nil) (by kernel_rfl)

theorem any87e (g : FuncId) (p : Exp → Bool) (e0 : Exp) (l : List Exp) (hl : l.length ≤ 2 ^ 62) (hf : ∀ e ∈ l, EvCall cx g [ag e.row, .ref (0, 0) 0] [.cells (e0.row.map .p)] (bool (p e)) [.cells (e0.row.map .p)]) :
    EvCall cx 87 [sl (l.map Exp.row), .fn g [.ref (0, 0) 0]] [.cells (e0.row.map .p)] (bool (l.any p)) [.cells (e0.row.map .p)] := by
  have h := index129e g p e0 l hl hf
  rw [← idxI_any]
  exact EvCall.run Tryz.f87 Tryz.func87 Tryz.call87 [.call (int (idxI (idxS p l 0))) [.cells (e0.row.map .p)]] (.cons h .nil) (by kernel_rfl)

theorem index129s_loop (g : FuncId) (p : Exp → Bool) (s0 : List (List PV)) (n0 : List (List PV)) (l : List Exp) (hl : l.length ≤ 2 ^ 62) (hf : ∀ e ∈ l, EvCall cx g [ag e.row, .ref (0, 0) 0, .ref (0, 1) 0] [.cells [sl s0], .cells [sl n0]] (bool (p e)) [.cells [sl s0], .cells [sl n0]]) : ∀ (suf pre : List Exp), l = pre ++ suf →
    EvCode cx (EvCall cx) (.loop (loopBody Tryz.f129 0)) ⟨[(0, sl (l.map Exp.row)), (1, .fn g [.ref (0, 0) 0, .ref (0, 1) 0]), (7, int l.length), (8, int pre.length)], [((0, 0), .cells [sl s0]), ((0, 1), .cells [sl n0])]⟩
      (idxOut (idxS p suf pre.length)).1 ⟨(idxOut (idxS p suf pre.length)).2.e, [((0, 0), .cells [sl s0]), ((0, 1), .cells [sl n0])]⟩
  | [], pre, h => by
    have hp : pre.length = l.length := by rw [h]; simp
    exact EvCode.out [F] [] [(0, 0), (0, 1)] (.cons (ltF (n := pre.length) (m := l.length) (by omega)) .nil) (by simp [idxOut, idxS]) (by kernel_rfl)
  | x :: r, pre, h => by
    have hlt : pre.length < l.length := by rw [h]; simp
    have hrow : rowI (l.map Exp.row) (pre.length : Int) = some x.row := rowI_at (get_of_split h)
    have hc := hf x (by rw [h]; simp)
    simp only [idxS]
    cases hb : p x with
    | true =>
      rw [hb] at hc
      exact EvCode.out [T, .same, .row x.row, .same, .call (bool true) [.cells [sl s0], .cells [sl n0]], .same] [4] [(0, 0), (0, 1)] (.cons (ltT hlt) (.cons hrow (.cons hc .nil))) (by simp [idxOut]) (by kernel_rfl)
    | false =>
      rw [hb] at hc
      have ih := index129s_loop g p s0 n0 l hl hf r (pre ++ [x]) (by simp [h])
      simp only [List.length_append, List.length_singleton] at ih
      simp only [cond_false]
      exact EvCode.round [T, .same, .row x.row, .same, .call (bool false) [.cells [sl s0], .cells [sl n0]], .same, .v (.int .i64 ((pre.length + 1 : Nat) : Int))] [0, 1, 7, 8] [(0, 0), (0, 1)]
        (.cons (ltT hlt) (.cons hrow (.cons hc (.cons (succV hlt hl) .nil)))) (by kernel_rfl) ih

theorem index129s (g : FuncId) (p : Exp → Bool) (s0 : List (List PV)) (n0 : List (List PV)) (l : List Exp) (hl : l.length ≤ 2 ^ 62) (hf : ∀ e ∈ l, EvCall cx g [ag e.row, .ref (0, 0) 0, .ref (0, 1) 0] [.cells [sl s0], .cells [sl n0]] (bool (p e)) [.cells [sl s0], .cells [sl n0]]) :
    EvCall cx 129 [sl (l.map Exp.row), .fn g [.ref (0, 0) 0, .ref (0, 1) 0]] [.cells [sl s0], .cells [sl n0]] (int (idxI (idxS p l 0))) [.cells [sl s0], .cells [sl n0]] := by
  have h := index129s_loop g p s0 n0 l hl hf l [] rfl
  simp only [List.length_nil] at h
  rw [show (l.length : Int) = ((l.map Exp.row).length : Nat) by simp] at h
  cases hi : idxS p l 0 with
  | none =>
    rw [hi] at h
    exact EvCall.run Tryz.f129 Tryz.func129 Tryz.call129 [.loop [0, 1, 7, 8] [(0, 0), (0, 1)] (.exit 0) ⟨[], [((0, 0), .cells [sl s0]), ((0, 1), .cells [sl n0])]⟩] (.cons h .nil) (by kernel_rfl)
  | some j =>
    rw [hi] at h
    exact EvCall.run Tryz.f129 Tryz.func129 Tryz.call129 [.loop [0, 1, 7, 8] [(0, 0), (0, 1)] .ret ⟨[(4, int j)], [((0, 0), .cells [sl s0]), ((0, 1), .cells [sl n0])]⟩] (.cons h .nil) (by kernel_rfl)

theorem any87s (g : FuncId) (p : Exp → Bool) (s0 : List (List PV)) (n0 : List (List PV)) (l : List Exp) (hl : l.length ≤ 2 ^ 62) (hf : ∀ e ∈ l, EvCall cx g [ag e.row, .ref (0, 0) 0, .ref (0, 1) 0] [.cells [sl s0], .cells [sl n0]] (bool (p e)) [.cells [sl s0], .cells [sl n0]]) :
    EvCall cx 87 [sl (l.map Exp.row), .fn g [.ref (0, 0) 0, .ref (0, 1) 0]] [.cells [sl s0], .cells [sl n0]] (bool (l.any p)) [.cells [sl s0], .cells [sl n0]] := by
  have h := index129s g p s0 n0 l hl hf
  rw [← idxI_any]
  exact EvCall.run Tryz.f87 Tryz.func87 Tryz.call87 [.call (int (idxI (idxS p l 0))) [.cells [sl s0], .cells [sl n0]]] (.cons h .nil) (by kernel_rfl)

theorem index162k_loop (g : FuncId) (p : Ctx → Bool) (k0 : ByteArray) (l : List Ctx) (hl : l.length ≤ 2 ^ 62) (hf : ∀ e ∈ l, EvCall cx g [ag e.row, .ref (0, 0) 0] [.cells [str k0]] (bool (p e)) [.cells [str k0]]) : ∀ (suf pre : List Ctx), l = pre ++ suf →
    EvCode cx (EvCall cx) (.loop (loopBody Tryz.f162 0)) ⟨[(0, sl (l.map Ctx.row)), (1, .fn g [.ref (0, 0) 0]), (7, int l.length), (8, int pre.length)], [((0, 0), .cells [str k0])]⟩
      (idxOut (idxS p suf pre.length)).1 ⟨(idxOut (idxS p suf pre.length)).2.e, [((0, 0), .cells [str k0])]⟩
  | [], pre, h => by
    have hp : pre.length = l.length := by rw [h]; simp
    exact EvCode.out [F] [] [(0, 0)] (.cons (ltF (n := pre.length) (m := l.length) (by omega)) .nil) (by simp [idxOut, idxS]) (by kernel_rfl)
  | x :: r, pre, h => by
    have hlt : pre.length < l.length := by rw [h]; simp
    have hrow : rowI (l.map Ctx.row) (pre.length : Int) = some x.row := rowI_at (get_of_split h)
    have hc := hf x (by rw [h]; simp)
    simp only [idxS]
    cases hb : p x with
    | true =>
      rw [hb] at hc
      exact EvCode.out [T, .same, .row x.row, .same, .call (bool true) [.cells [str k0]], .same] [4] [(0, 0)] (.cons (ltT hlt) (.cons hrow (.cons hc .nil))) (by simp [idxOut]) (by kernel_rfl)
    | false =>
      rw [hb] at hc
      have ih := index162k_loop g p k0 l hl hf r (pre ++ [x]) (by simp [h])
      simp only [List.length_append, List.length_singleton] at ih
      simp only [cond_false]
      exact EvCode.round [T, .same, .row x.row, .same, .call (bool false) [.cells [str k0]], .same, .v (.int .i64 ((pre.length + 1 : Nat) : Int))] [0, 1, 7, 8] [(0, 0)]
        (.cons (ltT hlt) (.cons hrow (.cons hc (.cons (succV hlt hl) .nil)))) (by kernel_rfl) ih

theorem index162k (g : FuncId) (p : Ctx → Bool) (k0 : ByteArray) (l : List Ctx) (hl : l.length ≤ 2 ^ 62) (hf : ∀ e ∈ l, EvCall cx g [ag e.row, .ref (0, 0) 0] [.cells [str k0]] (bool (p e)) [.cells [str k0]]) :
    EvCall cx 162 [sl (l.map Ctx.row), .fn g [.ref (0, 0) 0]] [.cells [str k0]] (int (idxI (idxS p l 0))) [.cells [str k0]] := by
  have h := index162k_loop g p k0 l hl hf l [] rfl
  simp only [List.length_nil] at h
  rw [show (l.length : Int) = ((l.map Ctx.row).length : Nat) by simp] at h
  cases hi : idxS p l 0 with
  | none =>
    rw [hi] at h
    exact EvCall.run Tryz.f162 Tryz.func162 Tryz.call162 [.loop [0, 1, 7, 8] [(0, 0)] (.exit 0) ⟨[], [((0, 0), .cells [str k0])]⟩] (.cons h .nil) (by kernel_rfl)
  | some j =>
    rw [hi] at h
    exact EvCall.run Tryz.f162 Tryz.func162 Tryz.call162 [.loop [0, 1, 7, 8] [(0, 0)] .ret ⟨[(4, int j)], [((0, 0), .cells [str k0])]⟩] (.cons h .nil) (by kernel_rfl)

theorem index191v_loop (g : FuncId) (p : Val → Bool) (v0 : Val) (l : List Val) (hl : l.length ≤ 2 ^ 62) (hf : ∀ e ∈ l, EvCall cx g [ag e.row, .ref (0, 0) 0] [.cells (v0.row.map .p)] (bool (p e)) [.cells (v0.row.map .p)]) : ∀ (suf pre : List Val), l = pre ++ suf →
    EvCode cx (EvCall cx) (.loop (loopBody Tryz.f191 0)) ⟨[(0, sl (l.map Val.row)), (1, .fn g [.ref (0, 0) 0]), (7, int l.length), (8, int pre.length)], [((0, 0), .cells (v0.row.map .p))]⟩
      (idxOut (idxS p suf pre.length)).1 ⟨(idxOut (idxS p suf pre.length)).2.e, [((0, 0), .cells (v0.row.map .p))]⟩
  | [], pre, h => by
    have hp : pre.length = l.length := by rw [h]; simp
    exact EvCode.out [F] [] [(0, 0)] (.cons (ltF (n := pre.length) (m := l.length) (by omega)) .nil) (by simp [idxOut, idxS]) (by kernel_rfl)
  | x :: r, pre, h => by
    have hlt : pre.length < l.length := by rw [h]; simp
    have hrow : rowI (l.map Val.row) (pre.length : Int) = some x.row := rowI_at (get_of_split h)
    have hc := hf x (by rw [h]; simp)
    simp only [idxS]
    cases hb : p x with
    | true =>
      rw [hb] at hc
      exact EvCode.out [T, .same, .row x.row, .same, .call (bool true) [.cells (v0.row.map .p)], .same] [4] [(0, 0)] (.cons (ltT hlt) (.cons hrow (.cons hc .nil))) (by simp [idxOut]) (by kernel_rfl)
    | false =>
      rw [hb] at hc
      have ih := index191v_loop g p v0 l hl hf r (pre ++ [x]) (by simp [h])
      simp only [List.length_append, List.length_singleton] at ih
      simp only [cond_false]
      exact EvCode.round [T, .same, .row x.row, .same, .call (bool false) [.cells (v0.row.map .p)], .same, .v (.int .i64 ((pre.length + 1 : Nat) : Int))] [0, 1, 7, 8] [(0, 0)]
        (.cons (ltT hlt) (.cons hrow (.cons hc (.cons (succV hlt hl) .nil)))) (by kernel_rfl) ih

theorem index191v (g : FuncId) (p : Val → Bool) (v0 : Val) (l : List Val) (hl : l.length ≤ 2 ^ 62) (hf : ∀ e ∈ l, EvCall cx g [ag e.row, .ref (0, 0) 0] [.cells (v0.row.map .p)] (bool (p e)) [.cells (v0.row.map .p)]) :
    EvCall cx 191 [sl (l.map Val.row), .fn g [.ref (0, 0) 0]] [.cells (v0.row.map .p)] (int (idxI (idxS p l 0))) [.cells (v0.row.map .p)] := by
  have h := index191v_loop g p v0 l hl hf l [] rfl
  simp only [List.length_nil] at h
  rw [show (l.length : Int) = ((l.map Val.row).length : Nat) by simp] at h
  cases hi : idxS p l 0 with
  | none =>
    rw [hi] at h
    exact EvCall.run Tryz.f191 Tryz.func191 Tryz.call191 [.loop [0, 1, 7, 8] [(0, 0)] (.exit 0) ⟨[], [((0, 0), .cells (v0.row.map .p))]⟩] (.cons h .nil) (by kernel_rfl)
  | some j =>
    rw [hi] at h
    exact EvCall.run Tryz.f191 Tryz.func191 Tryz.call191 [.loop [0, 1, 7, 8] [(0, 0)] .ret ⟨[(4, int j)], [((0, 0), .cells (v0.row.map .p))]⟩] (.cons h .nil) (by kernel_rfl)

theorem any167v (g : FuncId) (p : Val → Bool) (v0 : Val) (l : List Val) (hl : l.length ≤ 2 ^ 62) (hf : ∀ e ∈ l, EvCall cx g [ag e.row, .ref (0, 0) 0] [.cells (v0.row.map .p)] (bool (p e)) [.cells (v0.row.map .p)]) :
    EvCall cx 167 [sl (l.map Val.row), .fn g [.ref (0, 0) 0]] [.cells (v0.row.map .p)] (bool (l.any p)) [.cells (v0.row.map .p)] := by
  have h := index191v g p v0 l hl hf
  rw [← idxI_any]
  exact EvCall.run Tryz.f167 Tryz.func167 Tryz.call167 [.call (int (idxI (idxS p l 0))) [.cells (v0.row.map .p)]] (.cons h .nil) (by kernel_rfl)
end Go.Proofs.YtbdnigendhhndaaGreatDoor
end
section
/- clone.Value, clone.Expr, clone.Attribute, clone.Context; same.Expr; clause.test. -/
namespace Go.Proofs.YtbdnigendhhndaaGreatDoor
open Go Go.Ev
set_option maxRecDepth 100000

theorem cloneV91 (v : Val) (h : v.list.length ≤ 2 ^ 30) : EvCall cx 91 [ag v.row] [] (ag v.row) [] :=
  EvCall.run Tryz.f91 Tryz.func91 Tryz.call91 [.call (sl (strs v.list)) []] (.cons (clone61 v.list h) .nil) (by kernel_rfl)

theorem cloneE56 (e : Exp) (h : e.Ok) : EvCall cx 56 [ag e.row] [] (ag e.row) [] := by
  induction h with
  | @mk e h1 h2 h3 h4 ih =>
    have c1 : EvCall cx 90 [sl (e.values.map Val.row), .fn 91 []] [] (sl (e.values.map Val.row)) [] := each90 91 (fun v => v) e.values h1 fun v hv => cloneV91 v (h2 v hv)
    have c2 : EvCall cx 54 [sl (rowsE e.kids), .fn 56 []] [] (sl (rowsE e.kids)) [] := by
      rw [rowsE_map]
      exact each54 56 (fun k => k) e.kids h3 ih
    exact EvCall.run Tryz.f56 Tryz.func56 Tryz.call56 [.call (sl (e.values.map Val.row)) [], .call (sl (rowsE e.kids)) []] (.cons c1 (.cons c2 .nil)) (by kernel_rfl)

theorem cloneA165 (a : Att) (h : a.value.list.length ≤ 2 ^ 30) : EvCall cx 165 [ag a.row] [] (ag a.row) [] :=
  EvCall.run Tryz.f165 Tryz.func165 Tryz.call165 [.call (ag a.value.row) []] (.cons (cloneV91 a.value h) .nil) (by kernel_rfl)

theorem cloneC122 (c : Ctx) (h : c.Ok) : EvCall cx 122 [ag c.row] [] (ag c.row) [] := by
  have c1 : EvCall cx 164 [sl (c.atts.map Att.row), .fn 165 []] [] (sl (c.atts.map Att.row)) [] := each164 165 (fun v => v) c.atts h.len fun a ha => cloneA165 a (h.lists a ha)
  exact EvCall.run Tryz.f122 Tryz.func122 Tryz.call122 [.call (sl (c.atts.map Att.row)) []] (.cons c1 .nil) (by kernel_rfl)

theorem sameE89 (e : Exp) (h : e.Ok) : ∀ f : Exp, EvCall cx 89 [ag e.row, ag f.row] [] (bool (eqE e f)) [] := by
  induction h with
  | @mk e h1 h2 h3 h4 ih =>
    intro f
    rw [eqE_def]
    have c1 : EvCall cx 130 [sl (e.values.map Val.row), sl (f.values.map Val.row), .fn 131 []] [] (bool (eqL eqV e.values f.values)) [] :=
      eqf130 131 eqV e.values f.values (by omega) fun v hv w _ => sameV131 v w (by have := h2 v hv; omega)
    have c2 : EvCall cx 132 [sl (rowsE e.kids), sl (rowsE f.kids), .fn 89 []] [] (bool (eqL eqE e.kids f.kids)) [] := by
      rw [rowsE_map, rowsE_map]
      exact eqf132 89 eqE e.kids f.kids (by omega) fun v hv w _ => ih v hv w
    cases g1 : e.op == f.op with
    | false => exact EvCall.run Tryz.f89 Tryz.func89 Tryz.call89 [F] (.cons (vb g1) .nil) (by kernel_rfl)
    | true =>
      cases g2 : eqS e.kind f.kind with
      | false => exact EvCall.run Tryz.f89 Tryz.func89 Tryz.call89 ([T] ++ S 5 ++ [F]) (.cons (vb g1) (.cons (vb g2) .nil)) (by kernel_rfl)
      | true =>
        cases g3 : eqS e.name f.name with
        | false => exact EvCall.run Tryz.f89 Tryz.func89 Tryz.call89 ([T] ++ S 5 ++ [T] ++ S 6 ++ [F]) (.cons (vb g1) (.cons (vb g2) (.cons (vb g3) .nil))) (by kernel_rfl)
        | true =>
          cases g4 : eqL eqV e.values f.values with
          | false =>
            rw [g4] at c1
            exact EvCall.run Tryz.f89 Tryz.func89 Tryz.call89 ([T] ++ S 5 ++ [T] ++ S 6 ++ [T] ++ S 6 ++ [.call (bool false) []]) (.cons (vb g1) (.cons (vb g2) (.cons (vb g3) (.cons c1 .nil)))) (by kernel_rfl)
          | true =>
            rw [g4] at c1
            exact EvCall.run Tryz.f89 Tryz.func89 Tryz.call89 ([T] ++ S 5 ++ [T] ++ S 6 ++ [T] ++ S 6 ++ [.call (bool true) []] ++ S 6 ++ [.call (bool (eqL eqE e.kids f.kids)) []])
              (.cons (vb g1) (.cons (vb g2) (.cons (vb g3) (.cons c1 (.cons c2 .nil))))) (by kernel_rfl)

theorem test86 (o : Int) : EvCall cx 86 [int o] [] (bool (isTest o)) [] := by
  unfold isTest
  cases h1 : decide (o ≥ 6) with
  | false => exact EvCall.run Tryz.f86 Tryz.func86 Tryz.call86 [F] (.cons (vb h1) .nil) (by kernel_rfl)
  | true => exact EvCall.run Tryz.f86 Tryz.func86 Tryz.call86 [T] (.cons (vb h1) .nil) (by kernel_rfl)

/-- clause.atoms$1 -/
theorem atoms88 (x e : Exp) (h : x.Ok) : EvCall cx 88 [ag x.row, .ref (0, 0) 0] [.cells (e.row.map .p)] (bool (eqE x e)) [.cells (e.row.map .p)] :=
  EvCall.run Tryz.f88 Tryz.func88 Tryz.call88 [.call (bool (eqE x e)) []] (.cons (sameE89 x h e) .nil) (by kernel_rfl)
end Go.Proofs.YtbdnigendhhndaaGreatDoor
end
section
/- Written by gen.py. -/
namespace Go.Proofs.YtbdnigendhhndaaGreatDoor
open Go Go.Ev
set_option maxRecDepth 100000

/-- What clause.atoms does with a condition. -/
def AtomsOk (k : Exp) : Prop := ∀ (l : List Exp) (fz : Nat), (∀ x ∈ l, x.Ok) → l.length + k.nodes ≤ 2 ^ 30 → ∃ fz', EvCall cx 55 [lAV l, ag k.row] (lH l fz) (lAV (atomsL k l)) (lH (atomsL k l) fz')

theorem atoms_loopA (ks : List Exp) (hk : ks.length ≤ 2 ^ 30) (hok : ∀ k ∈ ks, k.Ok) (ih : ∀ k ∈ ks, AtomsOk k) : ∀ (suf pre l : List Exp) (fz : Nat), ks = pre ++ suf → l ≠ [] → (∀ x ∈ l, x.Ok) → l.length + nodesL suf ≤ 2 ^ 30 →
    ∃ fz', EvCode cx (EvCall cx) (.loop (loopBody Tryz.f55 0)) ⟨[(0, .ms (0, 0) 0 l.length l.length), (26, sl (ks.map Exp.row)), (27, int ks.length), (28, int pre.length)], [((0, 0), .arr 5 (l.map Exp.row) fz)]⟩
      (.exit 0) ⟨[(0, .ms (0, 0) 0 (atomsLs suf l).length (atomsLs suf l).length)], [((0, 0), .arr 5 ((atomsLs suf l).map Exp.row) fz')]⟩
  | [], pre, l, fz, h, hne, hl, hn => by
    have hp : pre.length = ks.length := by rw [h]; simp
    exact ⟨fz, EvCode.out [F] [0] [(0, 0)] (.cons (ltF (n := pre.length) (m := ks.length) (by omega)) .nil) (by simp) (by kernel_rfl)⟩
  | x :: r, pre, l, fz, h, hne, hl, hn => by
    have hlt : pre.length < ks.length := by rw [h]; simp
    have hrow : rowI (ks.map Exp.row) (pre.length : Int) = some x.row := rowI_at (get_of_split h)
    simp only [nodesL] at hn
    have hx : x ∈ ks := by rw [h]; simp
    obtain ⟨fz1, hc⟩ := ih x hx l fz hl (by omega)
    have hne1 := atomsL_ne x hne
    have hlen := atomsL_len x l
    rw [lAV_ne hne, lH_ne hne, lAV_ne hne1, lH_ne hne1] at hc
    obtain ⟨fz2, hr⟩ := atoms_loopA ks hk hok ih r (pre ++ [x]) (atomsL x l) fz1 (by simp [h]) hne1 (atomsL_ok (hok x hx) l hl) (by omega)
    simp only [List.length_append, List.length_singleton] at hr
    refine ⟨fz2, ?_⟩
    simp only [atomsLs]
    exact EvCode.round [T, .same, .row x.row, .same, .ref, .call (.ms (0, 0) 0 (atomsL x l).length (atomsL x l).length) [.arr 5 ((atomsL x l).map Exp.row) fz1], .v (.int .i64 ((pre.length + 1 : Nat) : Int))] [0, 26, 27, 28] [(0, 0)]
      (.cons (ltT hlt) (.cons hrow (.cons hc (.cons (succV hlt (by omega)) .nil)))) (by kernel_rfl) hr

theorem atoms_loopB (ks : List Exp) (hk : ks.length ≤ 2 ^ 30) (hok : ∀ k ∈ ks, k.Ok) (ih : ∀ k ∈ ks, AtomsOk k) : ∀ (suf pre l : List Exp) (fz : Nat), ks = pre ++ suf → l ≠ [] → (∀ x ∈ l, x.Ok) → l.length + nodesL suf ≤ 2 ^ 30 →
    ∃ fz', EvCode cx (EvCall cx) (.loop (loopBody Tryz.f55 0)) ⟨[(0, .ms (25, 0) 0 l.length l.length), (26, sl (ks.map Exp.row)), (27, int ks.length), (28, int pre.length)], [((25, 0), .arr 5 (l.map Exp.row) fz)]⟩
      (.exit 0) ⟨[(0, .ms (25, 0) 0 (atomsLs suf l).length (atomsLs suf l).length)], [((25, 0), .arr 5 ((atomsLs suf l).map Exp.row) fz')]⟩
  | [], pre, l, fz, h, hne, hl, hn => by
    have hp : pre.length = ks.length := by rw [h]; simp
    exact ⟨fz, EvCode.out [F] [0] [(25, 0)] (.cons (ltF (n := pre.length) (m := ks.length) (by omega)) .nil) (by simp) (by kernel_rfl)⟩
  | x :: r, pre, l, fz, h, hne, hl, hn => by
    have hlt : pre.length < ks.length := by rw [h]; simp
    have hrow : rowI (ks.map Exp.row) (pre.length : Int) = some x.row := rowI_at (get_of_split h)
    simp only [nodesL] at hn
    have hx : x ∈ ks := by rw [h]; simp
    obtain ⟨fz1, hc⟩ := ih x hx l fz hl (by omega)
    have hne1 := atomsL_ne x hne
    have hlen := atomsL_len x l
    rw [lAV_ne hne, lH_ne hne, lAV_ne hne1, lH_ne hne1] at hc
    obtain ⟨fz2, hr⟩ := atoms_loopB ks hk hok ih r (pre ++ [x]) (atomsL x l) fz1 (by simp [h]) hne1 (atomsL_ok (hok x hx) l hl) (by omega)
    simp only [List.length_append, List.length_singleton] at hr
    refine ⟨fz2, ?_⟩
    simp only [atomsLs]
    exact EvCode.round [T, .same, .row x.row, .same, .ref, .call (.ms (0, 0) 0 (atomsL x l).length (atomsL x l).length) [.arr 5 ((atomsL x l).map Exp.row) fz1], .v (.int .i64 ((pre.length + 1 : Nat) : Int))] [0, 26, 27, 28] [(25, 0)]
      (.cons (ltT hlt) (.cons hrow (.cons hc (.cons (succV hlt (by omega)) .nil)))) (by kernel_rfl) hr

theorem atoms_loopC (ks : List Exp) (hk : ks.length ≤ 2 ^ 30) (hok : ∀ k ∈ ks, k.Ok) (ih : ∀ k ∈ ks, AtomsOk k) : ∀ (suf pre l : List Exp) (fz : Nat), ks = pre ++ suf → l ≠ [] → (∀ x ∈ l, x.Ok) → l.length + nodesL suf ≤ 2 ^ 30 →
    ∃ fz', EvCode cx (EvCall cx) (.loop (loopBody Tryz.f55 0)) ⟨[(0, .ms (35, 0) 0 l.length l.length), (26, sl (ks.map Exp.row)), (27, int ks.length), (28, int pre.length)], [((35, 0), .arr 5 (l.map Exp.row) fz)]⟩
      (.exit 0) ⟨[(0, .ms (35, 0) 0 (atomsLs suf l).length (atomsLs suf l).length)], [((35, 0), .arr 5 ((atomsLs suf l).map Exp.row) fz')]⟩
  | [], pre, l, fz, h, hne, hl, hn => by
    have hp : pre.length = ks.length := by rw [h]; simp
    exact ⟨fz, EvCode.out [F] [0] [(35, 0)] (.cons (ltF (n := pre.length) (m := ks.length) (by omega)) .nil) (by simp) (by kernel_rfl)⟩
  | x :: r, pre, l, fz, h, hne, hl, hn => by
    have hlt : pre.length < ks.length := by rw [h]; simp
    have hrow : rowI (ks.map Exp.row) (pre.length : Int) = some x.row := rowI_at (get_of_split h)
    simp only [nodesL] at hn
    have hx : x ∈ ks := by rw [h]; simp
    obtain ⟨fz1, hc⟩ := ih x hx l fz hl (by omega)
    have hne1 := atomsL_ne x hne
    have hlen := atomsL_len x l
    rw [lAV_ne hne, lH_ne hne, lAV_ne hne1, lH_ne hne1] at hc
    obtain ⟨fz2, hr⟩ := atoms_loopC ks hk hok ih r (pre ++ [x]) (atomsL x l) fz1 (by simp [h]) hne1 (atomsL_ok (hok x hx) l hl) (by omega)
    simp only [List.length_append, List.length_singleton] at hr
    refine ⟨fz2, ?_⟩
    simp only [atomsLs]
    exact EvCode.round [T, .same, .row x.row, .same, .ref, .call (.ms (0, 0) 0 (atomsL x l).length (atomsL x l).length) [.arr 5 ((atomsL x l).map Exp.row) fz1], .v (.int .i64 ((pre.length + 1 : Nat) : Int))] [0, 26, 27, 28] [(35, 0)]
      (.cons (ltT hlt) (.cons hrow (.cons hc (.cons (succV hlt (by omega)) .nil)))) (by kernel_rfl) hr

def atSt (l : List Exp) (fz : Nat) : St := match l with
  | [] => ⟨[(0, .p (.s nilS))], []⟩
  | _ => ⟨[(0, .ms (35, 0) 0 l.length l.length)], [((35, 0), .arr 5 (l.map Exp.row) fz)]⟩
theorem atSt_ne {l : List Exp} (h : l ≠ []) (fz : Nat) : atSt l fz = ⟨[(0, .ms (35, 0) 0 l.length l.length)], [((35, 0), .arr 5 (l.map Exp.row) fz)]⟩ := by cases l with | nil => exact absurd rfl h | cons _ _ => rfl

theorem atoms_loopN (ks : List Exp) (hk : ks.length ≤ 2 ^ 30) (hok : ∀ k ∈ ks, k.Ok) (ih : ∀ k ∈ ks, AtomsOk k) : ∀ (suf pre : List Exp), ks = pre ++ suf → nodesL suf ≤ 2 ^ 30 →
    ∃ fz', EvCode cx (EvCall cx) (.loop (loopBody Tryz.f55 0)) ⟨[(0, .p (.s nilS)), (26, sl (ks.map Exp.row)), (27, int ks.length), (28, int pre.length)], []⟩
      (.exit 0) (atSt (atomsLs suf []) fz')
  | [], pre, h, hn => by
    have hp : pre.length = ks.length := by rw [h]; simp
    exact ⟨0, EvCode.out [F] [0] [] (.cons (ltF (n := pre.length) (m := ks.length) (by omega)) .nil) (by simp) (by kernel_rfl)⟩
  | x :: r, pre, h, hn => by
    have hlt : pre.length < ks.length := by rw [h]; simp
    have hrow : rowI (ks.map Exp.row) (pre.length : Int) = some x.row := rowI_at (get_of_split h)
    simp only [nodesL] at hn
    have hx : x ∈ ks := by rw [h]; simp
    obtain ⟨fz1, hc⟩ := ih x hx [] 0 (by simp) (by simp; omega)
    have hlen := atomsL_len x []
    simp only [List.length_nil] at hlen
    simp only [atomsLs]
    by_cases hne1 : atomsL x [] = []
    · rw [hne1] at hc ⊢
      obtain ⟨fz2, hr⟩ := atoms_loopN ks hk hok ih r (pre ++ [x]) (by simp [h]) (by omega)
      simp only [List.length_append, List.length_singleton] at hr
      exact ⟨fz2, EvCode.round [T, .same, .row x.row, .same, .ref, .call (.p (.s nilS)) [], .v (.int .i64 ((pre.length + 1 : Nat) : Int))] [0, 26, 27, 28] []
        (.cons (ltT hlt) (.cons hrow (.cons hc (.cons (succV hlt (by omega)) .nil)))) (by kernel_rfl) hr⟩
    · rw [lAV_ne hne1, lH_ne hne1] at hc
      obtain ⟨fz2, hr⟩ := atoms_loopC ks hk hok ih r (pre ++ [x]) (atomsL x []) fz1 (by simp [h]) hne1 (atomsL_ok (hok x hx) [] (by simp)) (by omega)
      simp only [List.length_append, List.length_singleton] at hr
      refine ⟨fz2, ?_⟩
      rw [atSt_ne (atomsLs_ne r hne1)]
      exact EvCode.round [T, .same, .row x.row, .same, .ref, .call (.ms (0, 0) 0 (atomsL x []).length (atomsL x []).length) [.arr 5 ((atomsL x []).map Exp.row) fz1], .v (.int .i64 ((pre.length + 1 : Nat) : Int))] [0, 26, 27, 28] [(35, 0)]
        (.cons (ltT hlt) (.cons hrow (.cons hc (.cons (succV hlt (by omega)) .nil)))) (by kernel_rfl) hr
end Go.Proofs.YtbdnigendhhndaaGreatDoor
end
section
/- clause.atoms, clause.Atoms. -/
namespace Go.Proofs.YtbdnigendhhndaaGreatDoor
open Go Go.Ev
set_option maxRecDepth 100000

theorem addAtom_eq {e : Exp} {l : List Exp} {b : Bool} (h : (wants e.op && !(l.any fun x => eqE x e)) = b) : addAtom e l = bif b then l ++ [e] else l := by unfold addAtom; rw [h]

theorem atoms55 (e : Exp) (he : e.Ok) : AtomsOk e := by
  induction he with
  | @mk e h1 h2 h3 h4 ih =>
    have he : e.Ok := .mk h1 h2 h3 h4
    intro l fz hl hn
    rw [Exp.nodes_def] at hn
    have ht := test86 e.op
    have hks : (e.kids.map Exp.row) = rowsE e.kids := (rowsE_map _).symm
    have hklen : (e.kids.length : Int) = ((rowsE e.kids).length : Nat) := by rw [rowsE_map]; simp
    rw [atomsL_def]
    by_cases hne : l = []
    · -- from nil
      subst hne
      have hany : EvCall cx 87 [sl [], .fn 88 [.ref (0, 0) 0]] [.cells (e.row.map .p)] (bool false) [.cells (e.row.map .p)] := any87e 88 (fun x => eqE x e) e [] (by simp) (by simp)
      cases hw : wants e.op with
      | true =>
        have ha : addAtom e [] = [e] := by rw [addAtom_eq (b := true) (by simp [hw])]; rfl
        rw [ha]
        obtain ⟨fz', hlp⟩ := atoms_loopB e.kids h3 h4 ih e.kids [] [e] 0 rfl (by simp) (by simpa using he) (by simp; omega)
        rw [hks, hklen] at hlp
        have hne1 : atomsLs e.kids [e] ≠ [] := atomsLs_ne _ (by simp)
        refine ⟨fz', ?_⟩
        rw [lAV_ne hne1, lH_ne hne1]
        have hap : [e.row] ≠ [] ∧ 1 * 88 ≤ 2 ^ 47 ∧ 1 ≤ 2 ^ 62 := ⟨by simp, by omega, by omega⟩
        cases hT : isTest e.op with
        | true =>
          rw [hT] at ht
          exact EvCall.run Tryz.f55 Tryz.func55 Tryz.call55 ([.call (bool true) []] ++ S 7 ++ [.call (bool false) [.cells (e.row.map .p)]] ++ S 5 ++ [.loop [0, 26, 27, 28] [(25, 0)] (.exit 0) ⟨[(0, .ms (25, 0) 0 (atomsLs e.kids [e]).length (atomsLs e.kids [e]).length)], [((25, 0), .arr 5 ((atomsLs e.kids [e]).map Exp.row) fz')]⟩, .ref])
            (.cons ht (.cons hany (.cons (⟨rfl, Nat.le_refl _⟩ : 1 = 1 ∧ 0 + 1 ≤ 1) (.cons hap (.cons hlp .nil))))) (by kernel_rfl)
        | false =>
          rw [hT] at ht
          have h5 : (e.op == 5) = true := by simpa [wants, hT] using hw
          exact EvCall.run Tryz.f55 Tryz.func55 Tryz.call55 ([.call (bool false) []] ++ S 3 ++ [T] ++ S 4 ++ [.call (bool false) [.cells (e.row.map .p)]] ++ S 5 ++ [.loop [0, 26, 27, 28] [(25, 0)] (.exit 0) ⟨[(0, .ms (25, 0) 0 (atomsLs e.kids [e]).length (atomsLs e.kids [e]).length)], [((25, 0), .arr 5 ((atomsLs e.kids [e]).map Exp.row) fz')]⟩, .ref])
            (.cons ht (.cons (vb h5) (.cons hany (.cons (⟨rfl, Nat.le_refl _⟩ : 1 = 1 ∧ 0 + 1 ≤ 1) (.cons hap (.cons hlp .nil)))))) (by kernel_rfl)
      | false =>
        have ha : addAtom e [] = [] := by rw [addAtom_eq (b := false) (by simp [hw])]; rfl
        rw [ha]
        obtain ⟨fz', hlp⟩ := atoms_loopN e.kids h3 h4 ih e.kids [] rfl (by omega)
        rw [hks, hklen] at hlp
        have hT : isTest e.op = false := by simp [wants] at hw; exact hw.1
        have h5 : (e.op == 5) = false := by simpa [wants, hT] using hw
        rw [hT] at ht
        refine ⟨fz', ?_⟩
        by_cases hne1 : atomsLs e.kids [] = []
        · rw [hne1] at hlp ⊢
          exact EvCall.run Tryz.f55 Tryz.func55 Tryz.call55 ([.call (bool false) []] ++ S 3 ++ [F] ++ S 7 ++ [.loop [0, 26, 27, 28] [] (.exit 0) ⟨[(0, .p (.s nilS))], []⟩, .ref])
            (.cons ht (.cons (vb h5) (.cons hlp .nil))) (by kernel_rfl)
        · rw [atSt_ne hne1] at hlp
          rw [lAV_ne hne1, lH_ne hne1]
          exact EvCall.run Tryz.f55 Tryz.func55 Tryz.call55 ([.call (bool false) []] ++ S 3 ++ [F] ++ S 7 ++ [.loop [0, 26, 27, 28] [] (.exit 0) ⟨[(0, .ms (35, 0) 0 (atomsLs e.kids []).length (atomsLs e.kids []).length)], [((35, 0), .arr 5 ((atomsLs e.kids []).map Exp.row) fz')]⟩, .ref])
            (.cons ht (.cons (vb h5) (.cons hlp .nil))) (by kernel_rfl)
    · -- from a list
      have hany : EvCall cx 87 [sl (l.map Exp.row), .fn 88 [.ref (0, 0) 0]] [.cells (e.row.map .p)] (bool (l.any fun x => eqE x e)) [.cells (e.row.map .p)] := any87e 88 (fun x => eqE x e) e l (by omega) fun x hx => atoms88 x e (hl x hx)
      have hsn : (l.map Exp.row).length = l.length ∧ 0 + l.length ≤ l.length := by simp
      have hnd : some [PV.sl (((l.map Exp.row).drop 0).take l.length)] = some [PV.sl (l.map Exp.row)] := by rw [List.drop_zero, List.take_of_length_le (by simp)]
      have hne1 : atomsLs e.kids (addAtom e l) ≠ [] := atomsLs_ne _ (addAtom_ne hne)
      have hlen1 := addAtom_len e l
      rw [lAV_ne hne, lH_ne hne, lAV_ne hne1]
      simp only [lH_ne hne1]
      have lp : ∀ fz, ∃ fz', EvCode cx (EvCall cx) (.loop (loopBody Tryz.f55 0)) ⟨[(0, .ms (0, 0) 0 (addAtom e l).length (addAtom e l).length), (26, sl (rowsE e.kids)), (27, int ((rowsE e.kids).length : Nat)), (28, int 0)], [((0, 0), .arr 5 ((addAtom e l).map Exp.row) fz)]⟩
          (.exit 0) ⟨[(0, .ms (0, 0) 0 (atomsLs e.kids (addAtom e l)).length (atomsLs e.kids (addAtom e l)).length)], [((0, 0), .arr 5 ((atomsLs e.kids (addAtom e l)).map Exp.row) fz')]⟩ := by
        intro fz
        obtain ⟨fz', h⟩ := atoms_loopA e.kids h3 h4 ih e.kids [] (addAtom e l) fz rfl (addAtom_ne hne) (addAtom_ok he hl) (by omega)
        rw [hks, hklen] at h
        exact ⟨fz', h⟩
      have hap : (l.map Exp.row).length = l.length ∧ 0 = 0 ∧ l.length = l.length ∧ 5 = 5 ∧ [e.row] ≠ [] ∧ (l.length + 1) * 88 ≤ 2 ^ 47 ∧ l.length + 1 ≤ 2 ^ 62 := ⟨by simp, rfl, rfl, rfl, by simp, by omega, by omega⟩
      cases hw : wants e.op with
      | false =>
        have ha : addAtom e l = l := by rw [addAtom_eq (b := false) (by simp [hw])]; rfl
        have hT : isTest e.op = false := by simp [wants] at hw; exact hw.1
        have h5 : (e.op == 5) = false := by simpa [wants, hT] using hw
        rw [hT] at ht
        obtain ⟨fz', hlp⟩ := lp fz
        rw [ha] at hlp ⊢
        exact ⟨fz', EvCall.run Tryz.f55 Tryz.func55 Tryz.call55 ([.call (bool false) []] ++ S 3 ++ [F] ++ S 7 ++ [.loop [0, 26, 27, 28] [(0, 0)] (.exit 0) ⟨[(0, .ms (0, 0) 0 (atomsLs e.kids l).length (atomsLs e.kids l).length)], [((0, 0), .arr 5 ((atomsLs e.kids l).map Exp.row) fz')]⟩, .ref])
          (.cons ht (.cons (vb h5) (.cons hlp .nil))) (by kernel_rfl)⟩
      | true =>
        cases hA : l.any fun x => eqE x e with
        | true =>
          have ha : addAtom e l = l := by rw [addAtom_eq (b := false) (by simp [hw, hA])]; rfl
          rw [hA] at hany
          obtain ⟨fz', hlp⟩ := lp (l.map Exp.row).length
          rw [ha] at hlp ⊢
          refine ⟨fz', ?_⟩
          cases hT : isTest e.op with
          | true =>
            rw [hT] at ht
            exact EvCall.run Tryz.f55 Tryz.func55 Tryz.call55 ([.call (bool true) []] ++ S 7 ++ [.row [.sl (l.map Exp.row)], .call (bool true) [.cells (e.row.map .p)]] ++ S 4 ++ [.loop [0, 26, 27, 28] [(0, 0)] (.exit 0) ⟨[(0, .ms (0, 0) 0 (atomsLs e.kids l).length (atomsLs e.kids l).length)], [((0, 0), .arr 5 ((atomsLs e.kids l).map Exp.row) fz')]⟩, .ref])
              (.cons ht (.cons hsn (.cons hnd (.cons hany (.cons hlp .nil))))) (by kernel_rfl)
          | false =>
            rw [hT] at ht
            have h5 : (e.op == 5) = true := by simpa [wants, hT] using hw
            exact EvCall.run Tryz.f55 Tryz.func55 Tryz.call55 ([.call (bool false) []] ++ S 3 ++ [T] ++ S 4 ++ [.row [.sl (l.map Exp.row)], .call (bool true) [.cells (e.row.map .p)]] ++ S 4 ++ [.loop [0, 26, 27, 28] [(0, 0)] (.exit 0) ⟨[(0, .ms (0, 0) 0 (atomsLs e.kids l).length (atomsLs e.kids l).length)], [((0, 0), .arr 5 ((atomsLs e.kids l).map Exp.row) fz')]⟩, .ref])
              (.cons ht (.cons (vb h5) (.cons hsn (.cons hnd (.cons hany (.cons hlp .nil)))))) (by kernel_rfl)
        | false =>
          have ha : addAtom e l = l ++ [e] := by rw [addAtom_eq (b := true) (by simp [hw, hA])]; rfl
          rw [hA] at hany
          obtain ⟨fz', hlp⟩ := lp (l.map Exp.row).length
          rw [ha] at hlp ⊢
          rw [List.map_append, List.length_append] at hlp
          refine ⟨fz', ?_⟩
          cases hT : isTest e.op with
          | true =>
            rw [hT] at ht
            exact EvCall.run Tryz.f55 Tryz.func55 Tryz.call55 ([.call (bool true) []] ++ S 7 ++ [.row [.sl (l.map Exp.row)], .call (bool false) [.cells (e.row.map .p)]] ++ S 5 ++ [.loop [0, 26, 27, 28] [(0, 0)] (.exit 0) ⟨[(0, .ms (0, 0) 0 (atomsLs e.kids (l ++ [e])).length (atomsLs e.kids (l ++ [e])).length)], [((0, 0), .arr 5 ((atomsLs e.kids (l ++ [e])).map Exp.row) fz')]⟩, .ref])
              (.cons ht (.cons hsn (.cons hnd (.cons hany (.cons (⟨rfl, Nat.le_refl _⟩ : 1 = 1 ∧ 0 + 1 ≤ 1) (.cons hap (.cons hlp .nil))))))) (by kernel_rfl)
          | false =>
            rw [hT] at ht
            have h5 : (e.op == 5) = true := by simpa [wants, hT] using hw
            exact EvCall.run Tryz.f55 Tryz.func55 Tryz.call55 ([.call (bool false) []] ++ S 3 ++ [T] ++ S 4 ++ [.row [.sl (l.map Exp.row)], .call (bool false) [.cells (e.row.map .p)]] ++ S 5 ++ [.loop [0, 26, 27, 28] [(0, 0)] (.exit 0) ⟨[(0, .ms (0, 0) 0 (atomsLs e.kids (l ++ [e])).length (atomsLs e.kids (l ++ [e])).length)], [((0, 0), .arr 5 ((atomsLs e.kids (l ++ [e])).map Exp.row) fz')]⟩, .ref])
              (.cons ht (.cons (vb h5) (.cons hsn (.cons hnd (.cons hany (.cons (⟨rfl, Nat.le_refl _⟩ : 1 = 1 ∧ 0 + 1 ≤ 1) (.cons hap (.cons hlp .nil)))))))) (by kernel_rfl)
end Go.Proofs.YtbdnigendhhndaaGreatDoor
end
section
/- clause.Atoms. -/
namespace Go.Proofs.YtbdnigendhhndaaGreatDoor
open Go Go.Ev
set_option maxRecDepth 100000

theorem atoms29 (e : Exp) (he : e.Ok) (hn : e.nodes ≤ 2 ^ 30) : EvCall cx 29 [ag e.row] [] (sl ((atomsL e []).map Exp.row)) [] := by
  obtain ⟨fz, hc⟩ := atoms55 e he [] 0 (by simp) (by simpa using hn)
  have hlen := atomsL_len e []
  simp only [List.length_nil] at hlen
  have hok := atomsL_ok he [] (by simp)
  have he2 := each54 56 (fun k => k) (atomsL e []) (by omega) fun k hk => cloneE56 k (hok k hk)
  by_cases hne : atomsL e [] = []
  · rw [hne] at hc he2 ⊢
    exact EvCall.run Tryz.f29 Tryz.func29 Tryz.call29 [.ref, .call (.p (.s nilS)) [], .call (sl []) []] (.cons hc (.cons he2 .nil)) (by kernel_rfl)
  · rw [lAV_ne hne, lH_ne hne] at hc
    have hsn : ((atomsL e []).map Exp.row).length = (atomsL e []).length ∧ 0 + (atomsL e []).length ≤ (atomsL e []).length := by simp
    have hnd : some [PV.sl ((((atomsL e []).map Exp.row).drop 0).take (atomsL e []).length)] = some [PV.sl ((atomsL e []).map Exp.row)] := by rw [List.drop_zero, List.take_of_length_le (by simp)]
    exact EvCall.run Tryz.f29 Tryz.func29 Tryz.call29 [.ref, .call (.ms (0, 0) 0 (atomsL e []).length (atomsL e []).length) [.arr 5 ((atomsL e []).map Exp.row) fz], .row [.sl ((atomsL e []).map Exp.row)], .call (sl ((atomsL e []).map Exp.row)) []]
      (.cons hc (.cons hsn (.cons hnd (.cons he2 .nil)))) (by kernel_rfl)
end Go.Proofs.YtbdnigendhhndaaGreatDoor
end
section
/- flagstonedraw: New, Left, Next. -/
namespace Go.Proofs.YtbdnigendhhndaaGreatDoor
open Go Go.Ev
set_option maxRecDepth 100000

/-- Bytes as rows. -/
def u8s (l : List Int) : List (List PV) := l.map fun b => [.s (.int .u8 b)]
def cod (l : List Int) (p : Int) : AO := .cells [sl (u8s l), int p]

theorem left27 (l : List Int) (p : Int) : EvCall cx 27 [.ref (0, 0) 0] [cod l p] (bool (decide (p < ((u8s l).length : Nat)))) [cod l p] :=
  EvCall.run Tryz.f27 Tryz.func27 Tryz.call27 [] .nil (by kernel_rfl)

theorem new9 (l : List Int) (most : Nat) : ∃ l', EvCall cx 9 [sl (u8s l), int most] [] (.ref (0, 0) 0) [cod l' 0] ∧ (∀ b ∈ l', b ∈ l) ∧ l'.length ≤ most := by
  by_cases h : l.length > most
  · have h1 : Value.bool (decide (((u8s l).length : Int) > (most : Int))) = .bool true := by simp [u8s]; exact h
    have h2 : RowsAre 1 (u8s l) ∧ (0 : Int) ≤ 0 ∧ (0 : Int) ≤ most ∧ (most : Int) ≤ ((u8s l).length : Nat) := ⟨rowsAre_map fun _ => rfl, Int.le_refl _, by omega, by simp [u8s]; omega⟩
    have h3 : some [PV.sl (((u8s l).take ((most : Int)).toNat).drop ((0 : Int)).toNat)] = some [PV.sl (u8s (l.take most))] := by simp [u8s, List.map_take]
    exact ⟨l.take most, EvCall.run Tryz.f9 Tryz.func9 Tryz.call9 [T, .same, .row [.sl (u8s (l.take most))]] (.cons h1 (.cons h2 (.cons h3 .nil))) (by kernel_rfl), fun b hb => List.mem_of_mem_take hb, by simp; omega⟩
  · have h1 : Value.bool (decide (((u8s l).length : Int) > (most : Int))) = .bool false := by simp [u8s]; omega
    exact ⟨l, EvCall.run Tryz.f9 Tryz.func9 Tryz.call9 [F] (.cons h1 .nil) (by kernel_rfl), fun b hb => hb, by omega⟩

/-- A choice: the number and where the list stands then. -/
theorem next10 (l : List Int) (hl : ∀ b ∈ l, 0 ≤ b ∧ b ≤ 255) (hlen : l.length ≤ 2 ^ 30) (p n : Nat) (hn : 1 ≤ n) : ∃ (k p' : Nat), EvCall cx 10 [.ref (0, 0) 0, int n] [cod l p] (int k) [cod l p'] ∧ k < n ∧ p ≤ p' ∧ p' ≤ max p l.length := by
  have hL := left27 l p
  have hsz : ((u8s l).length : Nat) = l.length := by simp [u8s]
  by_cases h : p < l.length
  · have hd : decide ((p : Int) < ((u8s l).length : Nat)) = true := by rw [hsz]; simpa using h
    rw [hd] at hL
    have hg : l[p]? = some l[p] := List.getElem?_eq_getElem h
    obtain ⟨hb0, hb1⟩ := hl l[p] (List.getElem_mem h)
    have h1 : Value.int .i64 (IntKind.i64.wrap ((p : Int) + 1)) = .int .i64 ((p + 1 : Nat) : Int) := by rw [wrap_id (by omega) (by omega)]; simp
    have h2 : Value.int .i64 (IntKind.i64.wrap (((p + 1 : Nat) : Int) - 1)) = .int .i64 (p : Int) := by rw [wrap_id (by omega) (by omega)]; simp
    have h3 : rowI (u8s l) (p : Int) = some [.s (.int .u8 l[p])] := rowI_at hg
    have h4 : Value.int .i64 (IntKind.i64.wrap l[p]) = .int .i64 l[p] := by rw [wrap_id (by omega) (by omega)]
    have h5 : (n : Int) ≠ 0 := by omega
    have h6 : Value.int .i64 (l[p].tmod (n : Int)) = .int .i64 (((l[p] % (n : Int)).toNat : Nat) : Int) := by
      rw [Int.tmod_eq_emod_of_nonneg hb0, Int.toNat_of_nonneg (Int.emod_nonneg _ h5)]
    refine ⟨(l[p] % (n : Int)).toNat, p + 1, ?_, ?_, by omega, by omega⟩
    · exact EvCall.run Tryz.f10 Tryz.func10 Tryz.call10 [.call (bool true) [cod l p], .same, .same, .v (.int .i64 ((p + 1 : Nat) : Int)), .v (.int .i64 (p : Int)), .row [.s (.int .u8 l[p])], .same, .v (.int .i64 l[p]), .v (.int .i64 (((l[p] % (n : Int)).toNat : Nat) : Int))]
        (.cons hL (.cons h1 (.cons h2 (.cons h3 (.cons h4 (.cons h5 (.cons h6 .nil))))))) (by kernel_rfl)
    · have := Int.emod_lt_of_pos l[p] (show (0 : Int) < n by omega)
      have := Int.emod_nonneg l[p] h5
      omega
  · have hd : decide ((p : Int) < ((u8s l).length : Nat)) = false := by rw [hsz]; simp; omega
    rw [hd] at hL
    exact ⟨0, p, EvCall.run Tryz.f10 Tryz.func10 Tryz.call10 [.call (bool false) [cod l p]] (.cons hL .nil) (by kernel_rfl), by omega, Nat.le_refl _, by omega⟩
end Go.Proofs.YtbdnigendhhndaaGreatDoor
end
section
/- flagstonedraw: Text, Key. -/
namespace Go.Proofs.YtbdnigendhhndaaGreatDoor
open Go Go.Ev
set_option maxRecDepth 100000

/-- Where a list of choices stands behind a draw. -/
structure Drew (l : List Int) (p p' : Nat) : Prop where
  ge : p ≤ p'
  le : p' ≤ max p l.length
theorem Drew.trans {l : List Int} {p p' p'' : Nat} (h : Drew l p p') (k : Drew l p' p'') : Drew l p p'' := ⟨Nat.le_trans h.ge k.ge, by have := h.le; have := k.le; have := h.ge; omega⟩
structure Codes (l : List Int) : Prop where
  u8 : ∀ b ∈ l, 0 ≤ b ∧ b ≤ 255
  len : l.length ≤ 2 ^ 30

theorem draw10 {l : List Int} (h : Codes l) (p n : Nat) (hn : 1 ≤ n) : ∃ (k p' : Nat), EvCall cx 10 [.ref (0, 0) 0, int n] [cod l p] (int k) [cod l p'] ∧ k < n ∧ Drew l p p' := by
  obtain ⟨k, p', h1, h2, h3, h4⟩ := next10 l h.u8 h.len p n hn
  exact ⟨k, p', h1, h2, h3, h4⟩

def pvStr : PV → ByteArray
  | .s (.string s) => s
  | _ => ⟨#[]⟩
def textsL : List ByteArray := gTexts.map pvStr
def keyOf10 (k : Nat) : ByteArray := ByteArray.mk #[107] ++ Utf8.encode (IntKind.i32.wrap (IntKind.i64.wrap (48 + (k : Int))))
def keysL : List ByteArray := (List.range 10).map keyOf10
theorem texts_at (k : Nat) (h : k < 11) : ∃ s : ByteArray, takeN 1 (gTexts.drop (((k : Nat) : Int).toNat * 1)) = some [pS s] ∧ s ∈ textsL := by
  have : k = 0 ∨ k = 1 ∨ k = 2 ∨ k = 3 ∨ k = 4 ∨ k = 5 ∨ k = 6 ∨ k = 7 ∨ k = 8 ∨ k = 9 ∨ k = 10 := by omega
  rcases this with rfl | rfl | rfl | rfl | rfl | rfl | rfl | rfl | rfl | rfl | rfl
  · exact ⟨_, rfl, List.mem_of_getElem? (i := 0) rfl⟩
  · exact ⟨_, rfl, List.mem_of_getElem? (i := 1) rfl⟩
  · exact ⟨_, rfl, List.mem_of_getElem? (i := 2) rfl⟩
  · exact ⟨_, rfl, List.mem_of_getElem? (i := 3) rfl⟩
  · exact ⟨_, rfl, List.mem_of_getElem? (i := 4) rfl⟩
  · exact ⟨_, rfl, List.mem_of_getElem? (i := 5) rfl⟩
  · exact ⟨_, rfl, List.mem_of_getElem? (i := 6) rfl⟩
  · exact ⟨_, rfl, List.mem_of_getElem? (i := 7) rfl⟩
  · exact ⟨_, rfl, List.mem_of_getElem? (i := 8) rfl⟩
  · exact ⟨_, rfl, List.mem_of_getElem? (i := 9) rfl⟩
  · exact ⟨_, rfl, List.mem_of_getElem? (i := 10) rfl⟩

theorem text38 {l : List Int} (h : Codes l) (p : Nat) : ∃ (s : ByteArray) (p' : Nat), EvCall cx 38 [.ref (0, 0) 0] [cod l p] (str s) [cod l p'] ∧ s ∈ textsL ∧ Drew l p p' := by
  obtain ⟨k, p', hc, hk, hd⟩ := draw10 h p 11 (by omega)
  obtain ⟨s, hs, hz⟩ := texts_at k hk
  have hb : inBd (k : Int) 11 := ⟨by omega, by omega⟩
  exact ⟨s, p', EvCall.run Tryz.f38 Tryz.func38 Tryz.call38 [.call (int k) [cod l p'], .row [pS s]] (.cons hc (.cons hb (.cons hs .nil))) (by kernel_rfl), hz, hd⟩

theorem key_at (k : Nat) (h : k < 10) : (ByteArray.mk #[107] ++ Utf8.encode (IntKind.i32.wrap (IntKind.i64.wrap (48 + (k : Int))))).size ≤ 16 ∧
    (ByteArray.mk #[107]).size + (Utf8.encode (IntKind.i32.wrap (IntKind.i64.wrap (48 + (k : Int))))).size ≤ 2 ^ 62 := by
  have : k = 0 ∨ k = 1 ∨ k = 2 ∨ k = 3 ∨ k = 4 ∨ k = 5 ∨ k = 6 ∨ k = 7 ∨ k = 8 ∨ k = 9 := by omega
  rcases this with rfl | rfl | rfl | rfl | rfl | rfl | rfl | rfl | rfl | rfl
  all_goals exact ⟨by decide +kernel, by decide +kernel⟩

theorem key52 {l : List Int} (h : Codes l) (p : Nat) : ∃ (s : ByteArray) (p' : Nat), EvCall cx 52 [.ref (0, 0) 0] [cod l p] (str s) [cod l p'] ∧ s ∈ keysL ∧ Drew l p p' := by
  obtain ⟨k, p', hc, hk, hd⟩ := draw10 h p 10 (by omega)
  obtain ⟨h1, h2⟩ := key_at k hk
  exact ⟨_, p', EvCall.run Tryz.f52 Tryz.func52 Tryz.call52 [.call (int k) [cod l p']] (.cons hc (.cons h2 .nil)) (by kernel_rfl), List.mem_map.2 ⟨k, List.mem_range.2 hk, rfl⟩, hd⟩
end Go.Proofs.YtbdnigendhhndaaGreatDoor
end
section
/- flagstonedraw: Value. -/
namespace Go.Proofs.YtbdnigendhhndaaGreatDoor
open Go Go.Ev
set_option maxRecDepth 100000

def numsL : List Int := [0, 1, 17, 18, 19, -5, 64, 1099511627776, -1099511627776]
def versL : List ByteArray := gVersions.map pvStr
def pvList : PV → List ByteArray
  | .sl rows => rows.map fun r => match r with | [d] => pvStr d | _ => ⟨#[]⟩
  | _ => []
def listsL : List (List ByteArray) := gLists.map pvList
/-- The values that are drawn. -/
def dvals : List Val := [⟨1, 0, ⟨#[]⟩, []⟩, ⟨1, 1, ⟨#[]⟩, []⟩] ++ numsL.map (fun n => ⟨2, n, ⟨#[]⟩, []⟩) ++ (textsL ++ keysL).map (fun s => ⟨3, 0, s, []⟩) ++ versL.map (fun s => ⟨4, 0, s, []⟩) ++ listsL.map (fun l => ⟨5, 0, ⟨#[]⟩, l⟩)
theorem nums_at (k : Nat) (h : k < 9) : ∃ x : Int, [[pI 0], [pI 1], [pI 17], [pI 18], [pI 19], [pI (-5)], [pI 64], [pI 1099511627776], [pI (-1099511627776)]][0 + ((k : Nat) : Int).toNat]? = some [pI x] ∧ x ∈ numsL := by
  have : k = 0 ∨ k = 1 ∨ k = 2 ∨ k = 3 ∨ k = 4 ∨ k = 5 ∨ k = 6 ∨ k = 7 ∨ k = 8 := by omega
  rcases this with rfl | rfl | rfl | rfl | rfl | rfl | rfl | rfl | rfl
  · exact ⟨_, rfl, List.mem_of_getElem? (i := 0) rfl⟩
  · exact ⟨_, rfl, List.mem_of_getElem? (i := 1) rfl⟩
  · exact ⟨_, rfl, List.mem_of_getElem? (i := 2) rfl⟩
  · exact ⟨_, rfl, List.mem_of_getElem? (i := 3) rfl⟩
  · exact ⟨_, rfl, List.mem_of_getElem? (i := 4) rfl⟩
  · exact ⟨_, rfl, List.mem_of_getElem? (i := 5) rfl⟩
  · exact ⟨_, rfl, List.mem_of_getElem? (i := 6) rfl⟩
  · exact ⟨_, rfl, List.mem_of_getElem? (i := 7) rfl⟩
  · exact ⟨_, rfl, List.mem_of_getElem? (i := 8) rfl⟩
theorem vers_at (k : Nat) (h : k < 6) : ∃ s : ByteArray, takeN 1 (gVersions.drop (((k : Nat) : Int).toNat * 1)) = some [pS s] ∧ s ∈ versL := by
  have : k = 0 ∨ k = 1 ∨ k = 2 ∨ k = 3 ∨ k = 4 ∨ k = 5 := by omega
  rcases this with rfl | rfl | rfl | rfl | rfl | rfl
  · exact ⟨_, rfl, List.mem_of_getElem? (i := 0) rfl⟩
  · exact ⟨_, rfl, List.mem_of_getElem? (i := 1) rfl⟩
  · exact ⟨_, rfl, List.mem_of_getElem? (i := 2) rfl⟩
  · exact ⟨_, rfl, List.mem_of_getElem? (i := 3) rfl⟩
  · exact ⟨_, rfl, List.mem_of_getElem? (i := 4) rfl⟩
  · exact ⟨_, rfl, List.mem_of_getElem? (i := 5) rfl⟩
theorem lists_at (k : Nat) (h : k < 5) : ∃ rs : List ByteArray, takeN 1 (gLists.drop (((k : Nat) : Int).toNat * 1)) = some [.sl (strs rs)] ∧ rs ∈ listsL ∧ rs.length ≤ 3 := by
  have : k = 0 ∨ k = 1 ∨ k = 2 ∨ k = 3 ∨ k = 4 := by omega
  rcases this with rfl | rfl | rfl | rfl | rfl
  · exact ⟨[], rfl, List.mem_of_getElem? (i := 0) rfl, by simp⟩
  · exact ⟨[_], rfl, List.mem_of_getElem? (i := 1) rfl, by simp⟩
  · exact ⟨[_, _], rfl, List.mem_of_getElem? (i := 2) rfl, by simp⟩
  · exact ⟨[_, _, _], rfl, List.mem_of_getElem? (i := 3) rfl, by simp⟩
  · exact ⟨[_], rfl, List.mem_of_getElem? (i := 4) rfl, by simp⟩

theorem value53 {l : List Int} (h : Codes l) (p : Nat) (kd : Int) : ∃ (v : Val) (p' : Nat), EvCall cx 53 [.ref (0, 0) 0, int kd] [cod l p] (ag v.row) [cod l p'] ∧ v ∈ dvals ∧ Drew l p p' := by
  by_cases h1 : kd = 1
  · subst h1
    obtain ⟨k, p', hc, hk, hd⟩ := draw10 h p 2 (by omega)
    exact ⟨⟨1, k, ⟨#[]⟩, []⟩, p', EvCall.run Tryz.f53 Tryz.func53 Tryz.call53 (S 2 ++ [.call (int k) [cod l p']]) (.cons hc .nil) (by kernel_rfl), (by rcases (by omega : k = 0 ∨ k = 1) with rfl | rfl <;> simp [dvals]), hd⟩
  by_cases h2 : kd = 2
  · subst h2
    obtain ⟨k, p', hc, hk, hd⟩ := draw10 h p 9 (by omega)
    obtain ⟨x, hx, hm⟩ := nums_at k hk
    have hb : inBd (k : Int) 9 := ⟨by omega, by omega⟩
    exact ⟨⟨2, x, ⟨#[]⟩, []⟩, p', EvCall.run Tryz.f53 Tryz.func53 Tryz.call53 (S 4 ++ [.call (int k) [cod l p'], .row [pI x]]) (.cons hc (.cons hb (.cons (rfl : 9 = 9) (.cons hx .nil)))) (by kernel_rfl), (by simp [dvals, hm]), hd⟩
  by_cases h3 : kd = 3
  · subst h3
    obtain ⟨s, p', hc, hs, hd⟩ := text38 h p
    exact ⟨⟨3, 0, s, []⟩, p', EvCall.run Tryz.f53 Tryz.func53 Tryz.call53 (S 6 ++ [.call (str s) [cod l p']]) (.cons hc .nil) (by kernel_rfl), (by simp [dvals, hs]), hd⟩
  by_cases h4 : kd = 4
  · subst h4
    obtain ⟨k, p', hc, hk, hd⟩ := draw10 h p 6 (by omega)
    obtain ⟨s, hx, hs⟩ := vers_at k hk
    have hb : inBd (k : Int) 6 := ⟨by omega, by omega⟩
    exact ⟨⟨4, 0, s, []⟩, p', EvCall.run Tryz.f53 Tryz.func53 Tryz.call53 (S 8 ++ [.call (int k) [cod l p'], .row [pS s]]) (.cons hc (.cons hb (.cons hx .nil))) (by kernel_rfl), (by simp [dvals, hs]), hd⟩
  obtain ⟨k, p', hc, hk, hd⟩ := draw10 h p 5 (by omega)
  obtain ⟨rs, hx, hm, hl⟩ := lists_at k hk
  have hb : inBd (k : Int) 5 := ⟨by omega, by omega⟩
  have e1 : (kd == 1) = false := by simpa using h1
  have e2 : (kd == 2) = false := by simpa using h2
  have e3 : (kd == 3) = false := by simpa using h3
  have e4 : (kd == 4) = false := by simpa using h4
  refine ⟨⟨5, 0, ⟨#[]⟩, rs⟩, p', ?_, (by simp [dvals, hm]), hd⟩
  cases rs with
  | nil =>
    exact EvCall.run Tryz.f53 Tryz.func53 Tryz.call53 [F, .same, F, .same, F, .same, F, .same, .call (int k) [cod l p'], .row [.sl []]]
      (.cons (vb e1) (.cons (vb e2) (.cons (vb e3) (.cons (vb e4) (.cons hc (.cons hb (.cons hx (.cons (by simp [RowsAre] : RowsAre 1 []) .nil)))))))) (by kernel_rfl)
  | cons s rs =>
    have hlen : (strs (s :: rs)).length = rs.length + 1 := by simp [strs]
    simp only [List.length_cons] at hl
    have hn : strs (s :: rs) ≠ [] ∧ (strs (s :: rs)).length * 16 ≤ 2 ^ 47 ∧ (strs (s :: rs)).length ≤ 2 ^ 62 := ⟨by simp [strs], by rw [hlen]; omega, by rw [hlen]; omega⟩
    have hs : (strs (s :: rs)).length = (strs (s :: rs)).length ∧ 0 + (strs (s :: rs)).length ≤ (strs (s :: rs)).length := ⟨rfl, by omega⟩
    have hq : some [PV.sl (((strs (s :: rs)).drop 0).take (strs (s :: rs)).length)] = some [PV.sl (strs (s :: rs))] := by simp
    exact EvCall.run Tryz.f53 Tryz.func53 Tryz.call53 [F, .same, F, .same, F, .same, F, .same, .call (int k) [cod l p'], .row [.sl (strs (s :: rs))], .same, .same, .row [.sl (strs (s :: rs))]]
      (.cons (vb e1) (.cons (vb e2) (.cons (vb e3) (.cons (vb e4) (.cons hc (.cons hb (.cons hx (.cons (rowsAre_map fun _ => rfl : RowsAre 1 (strs (s :: rs))) (.cons hn (.cons hs (.cons hq .nil))))))))))) (by kernel_rfl)
end Go.Proofs.YtbdnigendhhndaaGreatDoor
end
