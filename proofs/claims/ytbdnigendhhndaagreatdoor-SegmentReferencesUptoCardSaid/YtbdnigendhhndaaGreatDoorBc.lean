/- A part of the proofs of this seat's laws (abstract interpretation of the translated program, and contracts of its functions); no statement of its own. -/
import Derived.Test.YtbdnigendhhndaaGreatDoorBa
import Derived.Test.YtbdnigendhhndaaGreatDoorPa
import Derived.Test.YtbdnigendhhndaaGreatDoorFc
import Derived.Sort.Walk0
set_option linter.unusedVariables false
set_option linter.unusedSimpArgs false
section
/- subject.index, subject.Find. -/
namespace Go.Proofs.YtbdnigendhhndaaGreatDoor
open Go Go.Ev
set_option maxRecDepth 100000

theorem index163 (c : Ctx) (k : ByteArray) : EvCall cx 163 [ag c.row, .ref (0, 0) 0] [.cells [str k]] (bool (eqS c.kind k)) [.cells [str k]] :=
  EvCall.run Tryz.f163 Tryz.func163 Tryz.call163 [] .nil (by kernel_rfl)

theorem index121 (l : List Ctx) (k : ByteArray) (hl : l.length ≤ 2 ^ 62) : EvCall cx 121 [.agg [sl (l.map Ctx.row)], str k] [] (int (idxI (idxS (fun c => eqS c.kind k) l 0))) [] := by
  have h := index162k 163 (fun c => eqS c.kind k) k l hl fun c _ => index163 c k
  exact EvCall.run Tryz.f121 Tryz.func121 Tryz.call121 [.call (int (idxI (idxS (fun c => eqS c.kind k) l 0))) [.cells [str k]]] (.cons h .nil) (by kernel_rfl)

theorem idxS_find {α : Type} (p : α → Bool) : ∀ (l : List α) (n : Nat), match idxS p l n with
    | none => l.find? p = none
    | some j => n ≤ j ∧ ∃ c, l[j - n]? = some c ∧ l.find? p = some c
  | [], n => rfl
  | x :: r, n => by
    simp only [idxS, List.find?_cons]
    cases hp : p x with
    | true => exact ⟨Nat.le_refl _, x, by simp, rfl⟩
    | false =>
      have ih := idxS_find p r (n + 1)
      simp only [cond_false]
      split at ih
      · exact ih
      · rename_i j he
        obtain ⟨h1, c, h2, h3⟩ := ih
        refine ⟨by omega, c, ?_, h3⟩
        have : j - n = (j - (n + 1)) + 1 := by omega
        rw [this]
        simpa using h2

def noCtx : Ctx := ⟨⟨#[]⟩, ⟨#[]⟩, []⟩
def findC (l : List Ctx) (k : ByteArray) : Ctx × Bool := match l.find? fun c => eqS c.kind k with
  | some c => (c, true)
  | none => (noCtx, false)

theorem find76 (l : List Ctx) (k : ByteArray) (hl : l.length ≤ 2 ^ 62) (hok : ∀ c ∈ l, c.Ok) : EvCall cx 76 [.agg [sl (l.map Ctx.row)], str k] [] (.tup [ag (findC l k).1.row, bool (findC l k).2]) [] := by
  have h := index121 l k hl
  have hf := idxS_find (fun c => eqS c.kind k) l 0
  unfold findC
  split at hf
  · rename_i he
    rw [he] at h
    rw [hf]
    exact EvCall.run Tryz.f76 Tryz.func76 Tryz.call76 [.call (int (-1)) []] (.cons h .nil) (by kernel_rfl)
  · rename_i j he
    rw [he] at h
    obtain ⟨_, c, h2, h3⟩ := hf
    rw [h3]
    simp only [Nat.sub_zero] at h2
    have hrow : rowI (l.map Ctx.row) (j : Int) = some c.row := rowI_at h2
    have hneg : Value.bool (decide ((j : Int) < 0)) = .bool false := by simp
    exact EvCall.run Tryz.f76 Tryz.func76 Tryz.call76 [.call (int j) [], F, .same, .row c.row, .same, .call (ag c.row) []]
      (.cons h (.cons hneg (.cons hrow (.cons (cloneC122 c (hok c (List.mem_of_getElem? h2))) .nil)))) (by kernel_rfl)
end Go.Proofs.YtbdnigendhhndaaGreatDoor
end
section
/- flagstonelaw12.unfold. -/
namespace Go.Proofs.YtbdnigendhhndaaGreatDoor
open Go Go.Ev
set_option maxRecDepth 100000

mutual
def unfoldE (b : Exp) : Exp → Exp
  | .mk o k n vs ks => bif o == 5 then .mk 2 ⟨#[]⟩ ⟨#[]⟩ [] [b, b] else .mk o k n vs (unfoldEs b ks)
def unfoldEs (b : Exp) : List Exp → List Exp
  | [] => []
  | k :: r => unfoldE b k :: unfoldEs b r
end
theorem unfoldEs_map (b : Exp) (l : List Exp) : unfoldEs b l = l.map (unfoldE b) := by
  induction l with
  | nil => rfl
  | cons x r ih => simp [unfoldEs, ih]
theorem unfoldE_def (b e : Exp) : unfoldE b e = bif e.op == 5 then .mk 2 ⟨#[]⟩ ⟨#[]⟩ [] [b, b] else .mk e.op e.kind e.name e.values (unfoldEs b e.kids) := by cases e; rfl

def zeroRow : List PV := [pI 0, pS ⟨#[]⟩, pS ⟨#[]⟩, .sl [], .sl []]

theorem unfold_loop (e b : Exp) (ks : List Exp) (hks : e.kids = ks) (hk : ks.length ≤ 2 ^ 30) (ih : ∀ k ∈ ks, EvCall cx 26 [ag k.row, ag b.row] [] (ag (unfoldE b k).row) []) : ∀ (suf pre : List Exp) (q : List (List PV)), ks = pre ++ suf → q = pre.map (fun k => (unfoldE b k).row) ++ List.replicate suf.length zeroRow →
    EvCode cx (EvCall cx) (.loop (loopBody Tryz.f26 0)) ⟨[(2, .ref (3, 0) 0), (3, .ref (4, 0) 0), (4, .ref (5, 0) 0), (5, .ms (18, 0) 0 ks.length ks.length), (19, int ks.length), (20, int pre.length)], [((3, 0), .cells (e.row.map .p)), ((4, 0), .cells (b.row.map .p)), ((5, 0), .cells [int 0, str ⟨#[]⟩, str ⟨#[]⟩, .p (.s nilS), .p (.s nilS)]), ((18, 0), .arr 5 q 0)]⟩
      (.exit 0) ⟨[(2, .ref (3, 0) 0), (4, .ref (5, 0) 0), (5, .ms (18, 0) 0 ks.length ks.length)], [((3, 0), .cells (e.row.map .p)), ((5, 0), .cells [int 0, str ⟨#[]⟩, str ⟨#[]⟩, .p (.s nilS), .p (.s nilS)]), ((18, 0), .arr 5 (ks.map fun k => (unfoldE b k).row) 0)]⟩
  | [], pre, q, h, hq => by
    have hp : ks = pre := by simpa using h
    have hq' : q = ks.map fun k => (unfoldE b k).row := by rw [hq, hp]; simp
    subst hq'
    exact EvCode.out [F] [2, 4, 5] [(3, 0), (5, 0), (18, 0)] (.cons (ltF (n := pre.length) (m := ks.length) (by rw [hp]; omega)) .nil) (by simp) (by kernel_rfl)
  | x :: r, pre, q, h, hq => by
    have hlt : pre.length < ks.length := by rw [h]; simp
    have hrow : rowI (rowsE e.kids) (pre.length : Int) = some x.row := by rw [rowsE_map, hks]; exact rowI_at (get_of_split h)
    have hql : q.length = ks.length := by rw [hq, h]; simp
    have hget : q[0 + ((pre.length : Int)).toNat]? = some zeroRow := by rw [hq]; simp
    have hset : q.set (0 + ((pre.length : Int)).toNat) (unfoldE b x).row = (pre ++ [x]).map (fun k => (unfoldE b k).row) ++ List.replicate r.length zeroRow := by
      rw [hq]; simp [List.replicate_succ]
    have hr := unfold_loop e b ks hks hk ih r (pre ++ [x]) _ (by simp [h]) hset
    simp only [List.length_append, List.length_singleton] at hr
    have hb : inBd (pre.length : Int) ks.length := ⟨by omega, by omega⟩
    exact EvCode.round [T, .same, .row x.row, .same, .call (ag (unfoldE b x).row) [], .row zeroRow, .v (.int .i64 ((pre.length + 1 : Nat) : Int))] [2, 3, 4, 5, 19, 20] [(3, 0), (4, 0), (5, 0), (18, 0)]
      (.cons (ltT hlt) (.cons hrow (.cons (ih x (by rw [h]; simp)) (.cons hb (.cons (⟨hql, Nat.zero_le _⟩ : q.length = ks.length ∧ 0 ≤ 0 + ((pre.length : Int)).toNat) (.cons hget (.cons (succV hlt (by omega)) .nil))))))) (by kernel_rfl) hr

theorem unfold26 (b : Exp) (e : Exp) (he : e.Ok) : EvCall cx 26 [ag e.row, ag b.row] [] (ag (unfoldE b e).row) [] := by
  induction he with
  | @mk e h1 h2 h3 h4 ih =>
    rw [unfoldE_def]
    cases h5 : e.op == 5 with
    | true =>
      have hq : some [PV.sl ((([b.row, b.row]).drop 0).take 2)] = some [PV.sl (rowsE [b, b])] := by rw [rowsE_map]; rfl
      exact EvCall.run Tryz.f26 Tryz.func26 Tryz.call26 [T, .same, .row [.sl (rowsE [b, b])]] (.cons (vb h5) (.cons (⟨rfl, Nat.le_refl _⟩ : 2 = 2 ∧ 0 + 2 ≤ 2) (.cons hq .nil))) (by kernel_rfl)
    | false =>
      have hl : (rowsE e.kids).length = e.kids.length := by rw [rowsE_map]; simp
      have hlp := unfold_loop e b e.kids rfl h3 ih e.kids [] (List.replicate e.kids.length zeroRow) rfl (by simp)
      rw [← hl] at hlp
      have hm : (0 : Int) ≤ ((rowsE e.kids).length : Nat) ∧ (((rowsE e.kids).length : Nat) : Int) ≤ ((rowsE e.kids).length : Nat) ∧ (((rowsE e.kids).length : Nat) : Int) * 88 ≤ ((2 ^ 47 : Nat) : Int) ∧ (((rowsE e.kids).length : Nat) : Int) ≤ 2 ^ 62 := by
        rw [hl]; refine ⟨by omega, by omega, by omega, by omega⟩
      have hs : (e.kids.map fun k => (unfoldE b k).row).length = (rowsE e.kids).length ∧ 0 + (rowsE e.kids).length ≤ (rowsE e.kids).length := by rw [hl]; simp
      have hq : some [PV.sl (((e.kids.map fun k => (unfoldE b k).row).drop 0).take (rowsE e.kids).length)] = some [PV.sl (rowsE (unfoldEs b e.kids))] := by
        rw [hl, rowsE_map, unfoldEs_map, List.drop_zero, List.take_of_length_le (by simp), List.map_map]; rfl
      exact EvCall.run Tryz.f26 Tryz.func26 Tryz.call26 [F, .same, .loop [2, 3, 4, 5, 19, 20] [(3, 0), (4, 0), (5, 0), (18, 0)] (.exit 0) ⟨[(2, .ref (3, 0) 0), (4, .ref (5, 0) 0), (5, .ms (18, 0) 0 (rowsE e.kids).length (rowsE e.kids).length)], [((3, 0), .cells (e.row.map .p)), ((5, 0), .cells [int 0, str ⟨#[]⟩, str ⟨#[]⟩, .p (.s nilS), .p (.s nilS)]), ((18, 0), .arr 5 (e.kids.map fun k => (unfoldE b k).row) 0)]⟩, .row [.sl (rowsE (unfoldEs b e.kids))]]
        (.cons (vb h5) (.cons hm (.cons hlp (.cons hs (.cons hq .nil))))) (by kernel_rfl)
end Go.Proofs.YtbdnigendhhndaaGreatDoor
end
section
/- clause.Eval, over any contract of clause.Test. -/
namespace Go.Proofs.YtbdnigendhhndaaGreatDoor
open Go Go.Ev
set_option maxRecDepth 100000

theorem eval123 (s0 n0 : List (List PV)) (x : Exp) (v : Bool) (h : EvCall cx 77 [.agg [sl s0], sl n0, ag x.row] [] (bool v) []) :
    EvCall cx 123 [ag x.row, .ref (0, 0) 0, .ref (0, 1) 0] [.cells [sl s0], .cells [sl n0]] (bool (!v)) [.cells [sl s0], .cells [sl n0]] :=
  EvCall.run Tryz.f123 Tryz.func123 Tryz.call123 [.call (bool v) []] (.cons h .nil) (by kernel_rfl)
theorem eval124 (s0 n0 : List (List PV)) (x : Exp) (v : Bool) (h : EvCall cx 77 [.agg [sl s0], sl n0, ag x.row] [] (bool v) []) :
    EvCall cx 124 [ag x.row, .ref (0, 0) 0, .ref (0, 1) 0] [.cells [sl s0], .cells [sl n0]] (bool v) [.cells [sl s0], .cells [sl n0]] :=
  EvCall.run Tryz.f124 Tryz.func124 Tryz.call124 [.call (bool v) []] (.cons h .nil) (by kernel_rfl)

/-- A condition whose lists are short, with a property at every depth. -/
inductive OkD (D : Exp → Prop) : Exp → Prop where
  | mk {e : Exp} (h1 : e.values.length ≤ 2 ^ 30) (h2 : ∀ v ∈ e.values, v.list.length ≤ 2 ^ 30) (h3 : e.kids.length ≤ 2 ^ 30) (h4 : ∀ k ∈ e.kids, OkD D k) (h0 : D e) : OkD D e
theorem OkD.d {D : Exp → Prop} {e : Exp} (h : OkD D e) : D e := by cases h; assumption
theorem OkD.ok {D : Exp → Prop} {e : Exp} (h : OkD D e) : e.Ok := by
  induction h with
  | mk h1 h2 h3 h4 h0 ih => exact .mk h1 h2 h3 ih

mutual
def evalE (tb : Exp → Bool) (m : List ByteArray) : Exp → Bool
  | .mk o k n vs ks => bif o == 1 then true else bif o == 2 then !anyNot tb m ks else bif o == 3 then anyE tb m ks else bif o == 4 then headNot tb m ks else bif o == 5 then m.any (fun u => n.toList == u.toList) else tb (.mk o k n vs ks)
def anyNot (tb : Exp → Bool) (m : List ByteArray) : List Exp → Bool
  | [] => false
  | k :: r => !evalE tb m k || anyNot tb m r
def anyE (tb : Exp → Bool) (m : List ByteArray) : List Exp → Bool
  | [] => false
  | k :: r => evalE tb m k || anyE tb m r
def headNot (tb : Exp → Bool) (m : List ByteArray) : List Exp → Bool
  | [] => false
  | k :: _ => !evalE tb m k
end
theorem anyNot_any (tb : Exp → Bool) (m : List ByteArray) (l : List Exp) : anyNot tb m l = l.any fun k => !evalE tb m k := by
  induction l with
  | nil => simp [anyNot]
  | cons x r ih => simp [anyNot, ih]
theorem anyE_any (tb : Exp → Bool) (m : List ByteArray) (l : List Exp) : anyE tb m l = l.any fun k => evalE tb m k := by
  induction l with
  | nil => simp [anyE]
  | cons x r ih => simp [anyE, ih]

theorem eval77 (s0 : List (List PV)) (m : List ByteArray) (hm : m.length ≤ 2 ^ 62) (tb : Exp → Bool) {D : Exp → Prop} (htb : ∀ e : Exp, OkD D e → EvCall cx 125 [.agg [sl s0], ag e.row] [] (bool (tb e)) []) (e : Exp) (he : OkD D e) :
    EvCall cx 77 [.agg [sl s0], sl (strs m), ag e.row] [] (bool (evalE tb m e)) [] := by
  induction he with
  | @mk e h1 h2 h3 h4 h0 ih =>
    have ht := htb e (.mk h1 h2 h3 h4 h0)
    obtain ⟨o, k, n, vs, ks⟩ := e
    simp only [Exp.kids] at h3 h4 ih
    have c2 : EvCall cx 87 [sl (rowsE ks), .fn 123 [.ref (0, 0) 0, .ref (0, 1) 0]] [.cells [sl s0], .cells [sl (strs m)]] (bool (anyNot tb m ks)) [.cells [sl s0], .cells [sl (strs m)]] := by
      rw [rowsE_map, anyNot_any]
      exact any87s 123 (fun k => !evalE tb m k) s0 (strs m) ks (by omega) fun x hx => eval123 s0 (strs m) x _ (ih x hx)
    have c3 : EvCall cx 87 [sl (rowsE ks), .fn 124 [.ref (0, 0) 0, .ref (0, 1) 0]] [.cells [sl s0], .cells [sl (strs m)]] (bool (anyE tb m ks)) [.cells [sl s0], .cells [sl (strs m)]] := by
      rw [rowsE_map, anyE_any]
      exact any87s 124 (fun k => evalE tb m k) s0 (strs m) ks (by omega) fun x hx => eval124 s0 (strs m) x _ (ih x hx)
    have c5 := contains50 m n hm
    simp only [evalE]
    cases e1 : o == 1 with
    | true => exact EvCall.run Tryz.f77 Tryz.func77 Tryz.call77 [T] (.cons (vb e1) .nil) (by kernel_rfl)
    | false =>
      cases e2 : o == 2 with
      | true => exact EvCall.run Tryz.f77 Tryz.func77 Tryz.call77 [F, .same, T, .same, .call (bool (anyNot tb m ks)) [.cells [sl s0], .cells [sl (strs m)]]] (.cons (vb e1) (.cons (vb e2) (.cons c2 .nil))) (by kernel_rfl)
      | false =>
        cases e3 : o == 3 with
        | true => exact EvCall.run Tryz.f77 Tryz.func77 Tryz.call77 [F, .same, F, .same, T, .same, .call (bool (anyE tb m ks)) [.cells [sl s0], .cells [sl (strs m)]]] (.cons (vb e1) (.cons (vb e2) (.cons (vb e3) (.cons c3 .nil)))) (by kernel_rfl)
        | false =>
          cases e4 : o == 4 with
          | true =>
            cases ks with
            | nil => exact EvCall.run Tryz.f77 Tryz.func77 Tryz.call77 [F, .same, F, .same, F, .same, T] (.cons (vb e1) (.cons (vb e2) (.cons (vb e3) (.cons (vb e4) .nil)))) (by kernel_rfl)
            | cons x r =>
              have hx := eval123 s0 (strs m) x _ (ih x (by simp))
              have hr : rowI (rowsE (x :: r)) 0 = some x.row := by rw [rowsE_map]; rfl
              have hg : Value.bool (decide (((rowsE (x :: r)).length : Int) > 0)) = .bool true := by simp [rowsE]
              exact EvCall.run Tryz.f77 Tryz.func77 Tryz.call77 [F, .same, F, .same, F, .same, T, .same, T, .same, .same, .same, .same, .row x.row, .same, .same, .same, .call (bool (!evalE tb m x)) [.cells [sl s0], .cells [sl (strs m)]]]
                (.cons (vb e1) (.cons (vb e2) (.cons (vb e3) (.cons (vb e4) (.cons hg (.cons hr (.cons hx .nil))))))) (by kernel_rfl)
          | false =>
            cases e5 : o == 5 with
            | true => exact EvCall.run Tryz.f77 Tryz.func77 Tryz.call77 [F, .same, F, .same, F, .same, F, .same, T, .same, .call (bool (m.any fun u => n.toList == u.toList)) []] (.cons (vb e1) (.cons (vb e2) (.cons (vb e3) (.cons (vb e4) (.cons (vb e5) (.cons c5 .nil)))))) (by kernel_rfl)
            | false => exact EvCall.run Tryz.f77 Tryz.func77 Tryz.call77 [F, .same, F, .same, F, .same, F, .same, F, .same, .call (bool (tb (.mk o k n vs ks))) []] (.cons (vb e1) (.cons (vb e2) (.cons (vb e3) (.cons (vb e4) (.cons (vb e5) (.cons ht .nil)))))) (by kernel_rfl)
end Go.Proofs.YtbdnigendhhndaaGreatDoor
end
section
/- flagstoneref1: Same, Has, Add. -/
namespace Go.Proofs.YtbdnigendhhndaaGreatDoor
open Go Go.Ev
set_option maxRecDepth 100000

def hasS (l : List ByteArray) (s : ByteArray) : Bool := l.any fun u => u.toList == s.toList
def anyOut (t : Nat) (b : Bool) : AE × St := bif b then (.ret, ⟨[(t, bool true)], []⟩) else (.exit 0, ⟨[], []⟩)

theorem has_loop (l : List ByteArray) (s : ByteArray) (hl : l.length ≤ 2 ^ 62) : ∀ (suf pre : List ByteArray), l = pre ++ suf →
    EvCode cx (EvCall cx) (.loop (loopBody Tryz.f22 0)) ⟨[(0, sl (strs l)), (1, str s), (5, int pre.length)], []⟩ (anyOut 4 (suf.any fun u => u.toList == s.toList)).1 (anyOut 4 (suf.any fun u => u.toList == s.toList)).2
  | [], pre, h => by
    have hp : pre.length = l.length := by rw [h]; simp
    exact EvCode.out [F, .same] [] [] (.cons (vb (by simp [strs_length, rowsE_length]; omega : decide ((↑pre.length : Int) < (↑(strs l).length : Int)) = false)) .nil) (AE.ne_exit _) (by kernel_rfl)
  | x :: r, pre, h => by
    have hlt : pre.length < l.length := by rw [h]; simp
    have hx : l[pre.length]? = some x := get_of_split h
    have ih := has_loop l s hl r (pre ++ [x]) (by simp [h])
    simp only [List.length_append, List.length_singleton] at ih
    simp only [List.any_cons]
    cases hb : x.toList == s.toList with
    | true => exact EvCode.out [T, .same, .row ([pS x]), .same, T, .same] [(4 : Nat)] [] (.cons (vb (by simp [strs_length, rowsE_length]; omega : decide ((↑pre.length : Int) < (↑(strs l).length : Int)) = true)) (.cons (rowI_strs hx : rowI (strs l) (↑pre.length : Int) = some [pS x]) (.cons (vb hb) .nil))) AE.ne_ret (by kernel_rfl)
    | false => exact EvCode.round [T, .same, .row ([pS x]), .same, F, .same, .v (.int .i64 ((pre.length + (1 : Nat) : Nat) : Int))] [(0 : Nat), (1 : Nat), (5 : Nat)] [] (.cons (vb (by simp [strs_length, rowsE_length]; omega : decide ((↑pre.length : Int) < (↑(strs l).length : Int)) = true)) (.cons (rowI_strs hx : rowI (strs l) (↑pre.length : Int) = some [pS x]) (.cons (vb hb) (.cons (natVi64 (by omega) (by omega) (by omega) : Value.int .i64 (IntKind.i64.wrap ((↑pre.length : Int) + (1 : Int))) = .int .i64 ((pre.length + (1 : Nat) : Nat) : Int)) .nil)))) (by kernel_rfl) ih

theorem hasR (l : List ByteArray) (s : ByteArray) (hl : l.length ≤ 2 ^ 62) : EvCall cx 22 [sl (strs l), str s] [] (bool (hasS l s)) [] := by
  have h := has_loop l s hl l [] rfl
  unfold hasS
  cases hb : l.any fun u => u.toList == s.toList with
  | true => 
    rw [hb] at h
    exact EvCall.run Tryz.f22 Tryz.func22 Tryz.call22 [.loop [(0 : Nat), (1 : Nat), (5 : Nat)] [] (AE.ret) ({ e := [((4 : Nat), AV.p (PV.s (Value.bool true)))], s := [] })] (.cons h .nil) (by kernel_rfl)
  | false =>
    rw [hb] at h
    exact EvCall.run Tryz.f22 Tryz.func22 Tryz.call22 [.loop [(0 : Nat), (1 : Nat), (5 : Nat)] [] (AE.exit (0 : Nat)) ({ e := [], s := [] })] (.cons h .nil) (by kernel_rfl)
end Go.Proofs.YtbdnigendhhndaaGreatDoor
end
section
/- The sort: less, insertion sort. -/
namespace Go.Proofs.YtbdnigendhhndaaGreatDoor
open Go Go.Ev
set_option maxRecDepth 100000

def ltS (a b : ByteArray) : Bool := Op.bytesLess a.toList b.toList

theorem isNaN (a : ByteArray) : EvCall cx 138 [str a] [] (bool false) [] := by
  have h : (a.toList == a.toList) = true := by simp
  have h2 : (!(a.toList == a.toList)) = false := by simp
  exact EvCall.run Tryz.f138 Tryz.func138 Tryz.call138 [F] (.cons (vb h2) .nil) (by kernel_rfl)
theorem less (a b : ByteArray) : EvCall cx 98 [str a, str b] [] (bool (ltS a b)) [] := by
  have h := isNaN a
  have h2 := isNaN b
  exact EvCall.run Tryz.f98 Tryz.func98 Tryz.call98 [.call (Ev.bool false) ([]), .same, .same, .same, .same, .same, .same, .same, .same, .same] (.cons h .nil) (by kernel_rfl)

/-- x is put into the sorted list whose reverse is the first argument. -/
def insRev : List ByteArray → ByteArray → List ByteArray → List ByteArray
  | [], x, q => x :: q
  | y :: r, x, q => bif ltS x y then insRev r x (y :: q) else (y :: r).reverse ++ x :: q

def own1 (l : List ByteArray) : AO := .arr 1 (strs l) 0

theorem at_mid (P Q : List ByteArray) (x : ByteArray) (n : Nat) (hn : n = P.length) : (strs (P ++ x :: Q))[0 + ((n : Nat) : Int).toNat]? = some [pS x] := by
  subst hn; rw [Int.toNat_natCast, Nat.zero_add]; simp [strs]
theorem set_mid (P Q : List ByteArray) (x y : ByteArray) (n : Nat) (hn : n = P.length) : (strs (P ++ x :: Q)).set (0 + ((n : Nat) : Int).toNat) [pS y] = strs (P ++ y :: Q) := by
  have e : n = (strs P).length := by simp [hn, strs]
  rw [Int.toNat_natCast, Nat.zero_add, e]
  simp [strs]

theorem ins_at1 (A B rp q : List ByteArray) (x : ByteArray) : (strs (A ++ (rp.reverse ++ x :: q) ++ B))[0 + (((A.length + rp.length : Nat) : Int)).toNat]? = some [pS x] := by
  have e : A ++ (rp.reverse ++ x :: q) ++ B = (A ++ rp.reverse) ++ x :: (q ++ B) := by simp
  rw [e]; exact at_mid _ _ _ _ (by simp)
theorem ins_at2 (A B r q : List ByteArray) (y x : ByteArray) : (strs (A ++ ((y :: r).reverse ++ x :: q) ++ B))[0 + (((A.length + r.length : Nat) : Int)).toNat]? = some [pS y] := by
  have e : A ++ ((y :: r).reverse ++ x :: q) ++ B = (A ++ r.reverse) ++ y :: (x :: q ++ B) := by simp
  rw [e]; exact at_mid _ _ _ _ (by simp)
theorem ins_set1 (A B r q : List ByteArray) (y x : ByteArray) : (strs (A ++ ((y :: r).reverse ++ x :: q) ++ B)).set (0 + (((A.length + (r.length + 1) : Nat) : Int)).toNat) [pS y] = strs (A ++ (r.reverse ++ y :: y :: q) ++ B) := by
  have e : A ++ ((y :: r).reverse ++ x :: q) ++ B = (A ++ (r.reverse ++ [y])) ++ x :: (q ++ B) := by simp
  have e2 : A ++ (r.reverse ++ y :: y :: q) ++ B = (A ++ (r.reverse ++ [y])) ++ y :: (q ++ B) := by simp
  rw [e, e2]; exact set_mid _ _ _ _ _ (by simp)
theorem ins_set2 (A B r q : List ByteArray) (y x : ByteArray) : (strs (A ++ (r.reverse ++ y :: y :: q) ++ B)).set (0 + (((A.length + r.length : Nat) : Int)).toNat) [pS x] = strs (A ++ (r.reverse ++ x :: y :: q) ++ B) := by
  have e : A ++ (r.reverse ++ y :: y :: q) ++ B = (A ++ r.reverse) ++ y :: (y :: q ++ B) := by simp
  have e2 : A ++ (r.reverse ++ x :: y :: q) ++ B = (A ++ r.reverse) ++ x :: (y :: q ++ B) := by simp
  rw [e, e2]; exact set_mid _ _ _ _ _ (by simp)

theorem ins_loop (A B : List ByteArray) (b i : Int) (x : ByteArray) (N : Nat) (hN : N ≤ 2 ^ 62) : ∀ (rp q : List ByteArray), (A ++ (rp.reverse ++ x :: q) ++ B).length = N →
    EvCode cx (EvCall cx) (.loop (loopBody Tryz.f92 1)) ⟨[(0, .ms (0, 0) 0 N N), (1, int A.length), (2, int b), (6, int i), (7, int (A.length + rp.length : Nat))], [((0, 0), .arr 1 (strs (A ++ (rp.reverse ++ x :: q) ++ B)) 0)]⟩
      (.exit 2) ⟨[(0, .ms (0, 0) 0 N N), (1, int A.length), (2, int b), (6, int i)], [((0, 0), .arr 1 (strs (A ++ insRev rp x q ++ B)) 0)]⟩
  | [], q, h => by
    exact EvCode.out [F, .same, .same, .same, .same, .same, .same, .same, .same, .same, .same, .same, .same] [(0 : Nat), (1 : Nat), (2 : Nat), (6 : Nat)] [((0 : Nat), (0 : Nat))] (.cons (vb (by simp [strs_length, rowsE_length, *] : decide ((↑(A.length + (0 : Nat)) : Int) > (↑A.length : Int)) = false)) .nil) (AE.ne_exit _) (by kernel_rfl)
  | y :: r, q, h => by
    have hlen : (strs (A ++ ((y :: r).reverse ++ x :: q) ++ B)).length = N := by rw [strs_length]; exact h
    have hl2 : A.length + r.length + 1 < N := by simp at h; omega
    have g1 := ins_at1 A B (y :: r) q x
    have g2 := ins_at2 A B r q y x
    have hw := less x y
    simp only [insRev]
    cases hb : ltS x y with
    | true =>
      have ih := ins_loop A B b i x N hN r (y :: q) (by simp at h ⊢; omega)
      have s1 := ins_set1 A B r q y x
      have s2 := ins_set2 A B r q y x
      have g3 : ((strs (A ++ ((y :: r).reverse ++ x :: q) ++ B)).set (0 + (((A.length + (r.length + 1) : Nat) : Int)).toNat) [pS y])[0 + (((A.length + r.length : Nat) : Int)).toNat]? = some [pS y] := by
        rw [s1]; exact ins_at1 A B r (y :: q) y
      rw [hb] at hw
      rw [← s2, ← s1] at ih
      exact EvCode.round [T, .same, .same, .same, .same, .row ([pS x]), .same, .same, .same, .v (.int .i64 ((A.length + (y :: r).length - (1 : Nat) : Nat) : Int)), .same, .same, .row ([pS y]), .same, .call (Ev.bool true) ([]), .same, .same, .v (.int .i64 ((A.length + (y :: r).length - (1 : Nat) : Nat) : Int)), .v (.int .i64 ((A.length + (y :: r).length - (1 : Nat) : Nat) : Int)), .row ([pS y]), .row ([pS x]), .row ([pS x]), .row ([pS y]), .v (.int .i64 ((A.length + (y :: r).length - (1 : Nat) : Nat) : Int))] [(0 : Nat), (1 : Nat), (2 : Nat), (6 : Nat), (7 : Nat)] [((0 : Nat), (0 : Nat))] (.cons (vb (by simp [strs_length, rowsE_length]; omega : decide ((↑(A.length + (y :: r).length) : Int) > (↑A.length : Int)) = true)) (.cons ((by simp [inBd, strs_length, rowsE_length]; omega) : inBd (↑(A.length + (y :: r).length) : Int) N) (.cons (hlen : (strs (A ++ ((y :: r).reverse ++ x :: q) ++ B)).length = N) (.cons g1 (.cons (natVi64 (by simp_all [strs_length, rowsE_length]; omega) (by simp_all [strs_length, rowsE_length]; omega) (by simp_all [strs_length, rowsE_length]; omega) : Value.int .i64 (IntKind.i64.wrap ((↑(A.length + (y :: r).length) : Int) - (1 : Int))) = .int .i64 ((A.length + (y :: r).length - (1 : Nat) : Nat) : Int)) (.cons ((by simp [inBd, strs_length, rowsE_length]; omega) : inBd (↑(A.length + (y :: r).length - (1 : Nat)) : Int) N) (.cons (hlen : (strs (A ++ ((y :: r).reverse ++ x :: q) ++ B)).length = N) (.cons g2 (.cons hw (.cons (natVi64 (by simp_all [strs_length, rowsE_length]; omega) (by simp_all [strs_length, rowsE_length]; omega) (by simp_all [strs_length, rowsE_length]; omega) : Value.int .i64 (IntKind.i64.wrap ((↑(A.length + (y :: r).length) : Int) - (1 : Int))) = .int .i64 ((A.length + (y :: r).length - (1 : Nat) : Nat) : Int)) (.cons (natVi64 (by simp_all [strs_length, rowsE_length]; omega) (by simp_all [strs_length, rowsE_length]; omega) (by simp_all [strs_length, rowsE_length]; omega) : Value.int .i64 (IntKind.i64.wrap ((↑(A.length + (y :: r).length) : Int) - (1 : Int))) = .int .i64 ((A.length + (y :: r).length - (1 : Nat) : Nat) : Int)) (.cons ((by simp [inBd, strs_length, rowsE_length]; omega) : inBd (↑(A.length + (y :: r).length - (1 : Nat)) : Int) N) (.cons (hlen : (strs (A ++ ((y :: r).reverse ++ x :: q) ++ B)).length = N) (.cons g2 (.cons ((by simp [inBd, strs_length, rowsE_length]; omega) : inBd (↑(A.length + (y :: r).length) : Int) N) (.cons (hlen : (strs (A ++ ((y :: r).reverse ++ x :: q) ++ B)).length = N) (.cons g1 (.cons ((by simp [inBd, strs_length, rowsE_length]; omega) : inBd (↑(A.length + (y :: r).length) : Int) N) (.cons (⟨hlen, (by omega)⟩ : (strs (A ++ ((y :: r).reverse ++ x :: q) ++ B)).length = N ∧ (0 : Nat) ≤ (0 : Nat) + (↑(A.length + (y :: r).length) : Int).toNat) (.cons g1 (.cons ((by simp [inBd, strs_length, rowsE_length]; omega) : inBd (↑(A.length + (y :: r).length - (1 : Nat)) : Int) N) (.cons (⟨(by simp_all [strs_length, rowsE_length]), (by omega)⟩ : ((strs (A ++ ((y :: r).reverse ++ x :: q) ++ B)).set ((0 : Nat) + (↑(A.length + (y :: r).length) : Int).toNat) (List.take (0 : Nat) [pS x] ++ [nrm (pS y)] ++ List.drop ((0 : Nat) + ti9.sz) [pS x])).length = N ∧ (0 : Nat) ≤ (0 : Nat) + (↑(A.length + (y :: r).length - (1 : Nat)) : Int).toNat) (.cons g3 (.cons (natVi64 (by simp_all [strs_length, rowsE_length]; omega) (by simp_all [strs_length, rowsE_length]; omega) (by simp_all [strs_length, rowsE_length]; omega) : Value.int .i64 (IntKind.i64.wrap ((↑(A.length + (y :: r).length) : Int) - (1 : Int))) = .int .i64 ((A.length + (y :: r).length - (1 : Nat) : Nat) : Int)) .nil)))))))))))))))))))))))) (by kernel_rfl) ih
    | false =>
      rw [hb] at hw
      exact EvCode.out [T, .same, .same, .same, .same, .row ([pS x]), .same, .same, .same, .v (.int .i64 ((A.length + (y :: r).length - (1 : Nat) : Nat) : Int)), .same, .same, .row ([pS y]), .same, .call (Ev.bool false) ([]), .same, .same] [(0 : Nat), (1 : Nat), (2 : Nat), (6 : Nat)] [((0 : Nat), (0 : Nat))] (.cons (vb (by simp [strs_length, rowsE_length]; omega : decide ((↑(A.length + (y :: r).length) : Int) > (↑A.length : Int)) = true)) (.cons ((by simp [inBd, strs_length, rowsE_length]; omega) : inBd (↑(A.length + (y :: r).length) : Int) N) (.cons (hlen : (strs (A ++ ((y :: r).reverse ++ x :: q) ++ B)).length = N) (.cons g1 (.cons (natVi64 (by simp_all [strs_length, rowsE_length]; omega) (by simp_all [strs_length, rowsE_length]; omega) (by simp_all [strs_length, rowsE_length]; omega) : Value.int .i64 (IntKind.i64.wrap ((↑(A.length + (y :: r).length) : Int) - (1 : Int))) = .int .i64 ((A.length + (y :: r).length - (1 : Nat) : Nat) : Int)) (.cons ((by simp [inBd, strs_length, rowsE_length]; omega) : inBd (↑(A.length + (y :: r).length - (1 : Nat)) : Int) N) (.cons (hlen : (strs (A ++ ((y :: r).reverse ++ x :: q) ++ B)).length = N) (.cons g2 (.cons hw .nil))))))))) (AE.ne_exit _) (by kernel_rfl)
theorem insRev_len : ∀ (rp q : List ByteArray) (x : ByteArray), (insRev rp x q).length = rp.length + 1 + q.length
  | [], q, x => by simp [insRev]; omega
  | y :: r, q, x => by
    simp only [insRev]
    cases ltS x y with
    | true => simp only [cond_true]; rw [insRev_len]; simp; omega
    | false => simp; omega
theorem insRev_app : ∀ (rp q s : List ByteArray) (x : ByteArray), insRev rp x (q ++ s) = insRev rp x q ++ s
  | [], q, s, x => by simp [insRev]
  | y :: r, q, s, x => by
    simp only [insRev]
    cases ltS x y with
    | true => simp only [cond_true]; rw [← insRev_app]; rfl
    | false => simp
def insP (p : List ByteArray) (x : ByteArray) : List ByteArray := insRev p.reverse x []
theorem insP_len (p : List ByteArray) (x : ByteArray) : (insP p x).length = p.length + 1 := by simp [insP, insRev_len]
theorem insRev_insP (p s : List ByteArray) (x : ByteArray) : insRev p.reverse x s = insP p x ++ s := by
  have := insRev_app p.reverse [] s x
  simpa [insP] using this
def isortFrom : List ByteArray → List ByteArray → List ByteArray
  | p, [] => p
  | p, x :: s => isortFrom (insP p x) s
def isort : List ByteArray → List ByteArray
  | [] => []
  | x :: r => isortFrom [x] r

theorem sort_loop (A B : List ByteArray) (N : Nat) (hN : N ≤ 2 ^ 62) : ∀ (s p : List ByteArray) (b : Nat), b = A.length + p.length + s.length → (A ++ (p ++ s) ++ B).length = N →
    EvCode cx (EvCall cx) (.loop (loopBody Tryz.f92 0)) ⟨[(0, .ms (0, 0) 0 N N), (1, int A.length), (2, int b), (6, int (A.length + p.length : Nat))], [((0, 0), .arr 1 (strs (A ++ (p ++ s) ++ B)) 0)]⟩
      (.exit 0) ⟨[], [((0, 0), .arr 1 (strs (A ++ isortFrom p s ++ B)) 0)]⟩
  | [], p, b, hb, h => by
    have hb' : b = A.length + p.length := by simpa using hb
    simp only [List.append_nil, isortFrom]
    exact EvCode.out [F, .same] [] [((0 : Nat), (0 : Nat))] (.cons (vb (by simp [strs_length, rowsE_length]; omega : decide ((↑(A.length + p.length) : Int) < (↑b : Int)) = false)) .nil) (AE.ne_exit _) (by kernel_rfl)
  | x :: s, p, b, hb, h => by
    have hlt : A.length + p.length < b := by simp at hb; omega
    have hbN : b ≤ N := by simp at h hb; omega
    have hi := ins_loop A B b (A.length + p.length : Nat) x N hN p.reverse s (by simpa using h)
    simp only [List.length_reverse, List.reverse_reverse, insRev_insP] at hi
    have ih := sort_loop A B N hN s (insP p x) b (by rw [insP_len]; simp at hb; omega) (by simp [insP_len] at h ⊢; omega)
    rw [insP_len] at ih
    simp only [isortFrom]
    exact EvCode.round [T, .same, .loop [(0 : Nat), (1 : Nat), (2 : Nat), (6 : Nat), (7 : Nat)] [((0 : Nat), (0 : Nat))] (AE.exit (2 : Nat)) ({ e := [((0 : Nat), AV.ms ((0 : Nat), (0 : Nat)) (0 : Nat) N N), ((1 : Nat), AV.p (PV.s (Value.int IntKind.i64 (↑A.length : Int)))), ((2 : Nat), AV.p (PV.s (Value.int IntKind.i64 (↑b : Int)))), ((6 : Nat), AV.p (PV.s (Value.int IntKind.i64 (↑(A.length + p.length) : Int))))], s := [(((0 : Nat), (0 : Nat)), AO.arr (1 : Nat) (strs (A ++ (insP p x ++ s) ++ B)) (0 : Nat))] }), .v (.int .i64 ((A.length + p.length + (1 : Nat) : Nat) : Int))] [(0 : Nat), (1 : Nat), (2 : Nat), (6 : Nat)] [((0 : Nat), (0 : Nat))] (.cons (vb (by simp [strs_length, rowsE_length]; omega : decide ((↑(A.length + p.length) : Int) < (↑b : Int)) = true)) (.cons hi (.cons (natVi64 (by omega) (by omega) (by omega) : Value.int .i64 (IntKind.i64.wrap ((↑(A.length + p.length) : Int) + (1 : Int))) = .int .i64 ((A.length + p.length + (1 : Nat) : Nat) : Int)) .nil))) (by kernel_rfl) ih
theorem insertionSort (A l B : List ByteArray) (N : Nat) (hN : N ≤ 2 ^ 62) (h : (A ++ l ++ B).length = N) (b : Nat) (hb : b = A.length + l.length) :
    EvCall cx 92 [.ms (0, 0) 0 N N, int A.length, int b] [.arr 1 (strs (A ++ l ++ B)) 0] (.tup []) [.arr 1 (strs (A ++ isort l ++ B)) 0] := by
  have hA : A.length ≤ N := by simp at h; omega
  cases l with
  | nil =>
    have hlp : EvCode cx (EvCall cx) (.loop (loopBody Tryz.f92 0)) ⟨[(0, .ms (0, 0) 0 N N), (1, int A.length), (2, int b), (6, int (A.length + 1 : Nat))], [((0, 0), .arr 1 (strs (A ++ [] ++ B)) 0)]⟩
      (.exit 0) ⟨[], [((0, 0), .arr 1 (strs (A ++ isort [] ++ B)) 0)]⟩ := by
      simp at hb
      exact EvCode.out [F, .same] [] [((0 : Nat), (0 : Nat))] (.cons (vb (by simp [strs_length, rowsE_length]; omega : decide ((↑(A.length + (1 : Nat)) : Int) < (↑b : Int)) = false)) .nil) (AE.ne_exit _) (by kernel_rfl)
    exact EvCall.run Tryz.f92 Tryz.func92 Tryz.call92 [.v (.int .i64 ((A.length + (1 : Nat) : Nat) : Int)), .loop [(0 : Nat), (1 : Nat), (2 : Nat), (6 : Nat)] [((0 : Nat), (0 : Nat))] (AE.exit (0 : Nat)) ({ e := [], s := [(((0 : Nat), (0 : Nat)), AO.arr (1 : Nat) (strs (A ++ isort [] ++ B)) (0 : Nat))] }), .ref] (.cons (natVi64 (by omega) (by omega) (by omega) : Value.int .i64 (IntKind.i64.wrap ((↑A.length : Int) + (1 : Int))) = .int .i64 ((A.length + (1 : Nat) : Nat) : Int)) (.cons hlp .nil)) (by kernel_rfl)
  | cons x r =>
    have hlp := sort_loop A B N hN r [x] b (by simp at hb ⊢; omega) (by simpa using h)
    simp only [List.length_singleton, List.cons_append, List.nil_append] at hlp
    exact EvCall.run Tryz.f92 Tryz.func92 Tryz.call92 [.v (.int .i64 ((A.length + (1 : Nat) : Nat) : Int)), .loop [(0 : Nat), (1 : Nat), (2 : Nat), (6 : Nat)] [((0 : Nat), (0 : Nat))] (AE.exit (0 : Nat)) ({ e := [], s := [(((0 : Nat), (0 : Nat)), AO.arr (1 : Nat) (strs (A ++ isortFrom [x] r ++ B)) (0 : Nat))] }), .ref] (.cons (natVi64 (by omega) (by omega) (by omega) : Value.int .i64 (IntKind.i64.wrap ((↑A.length : Int) + (1 : Int))) = .int .i64 ((A.length + (1 : Nat) : Nat) : Int)) (.cons hlp .nil)) (by kernel_rfl)
end Go.Proofs.YtbdnigendhhndaaGreatDoor
end
section
/- The insertion sort's answer is the sorted list. -/
namespace Go.Proofs.YtbdnigendhhndaaGreatDoor
open Go Go.Ev
set_option maxRecDepth 100000

abbrev dB (s : ByteArray) : List UInt8 := s.data.toList
def leS (a b : ByteArray) : Prop := dB a ≤ dB b
theorem dB_inj {a b : ByteArray} (h : dB a = dB b) : a = b := by
  obtain ⟨⟨a⟩⟩ := a; obtain ⟨⟨b⟩⟩ := b
  simp only [dB] at h
  rw [h]
theorem toList_dB (a : ByteArray) : a.toList = dB a := by rw [ByteArray.toList_eq]
theorem ltS_iff (a b : ByteArray) : ltS a b = decide (dB a < dB b) := by
  unfold ltS
  rw [toList_dB, toList_dB, Go.Proofs.bytesLess_eq]
theorem leS_of_lt {a b : ByteArray} (h : ltS a b = true) : leS a b := by
  rw [ltS_iff] at h
  exact List.le_of_lt (by simpa using h)
theorem leS_of_nlt {a b : ByteArray} (h : ltS a b = false) : leS b a := by
  rw [ltS_iff] at h
  exact List.not_lt.1 (by simpa using h)
theorem leS_trans {a b c : ByteArray} (h : leS a b) (h2 : leS b c) : leS a c := List.le_trans h h2
theorem leS_refl (a : ByteArray) : leS a a := List.le_refl _
theorem leS_anti {a b : ByteArray} (h : leS a b) (h2 : leS b a) : a = b := dB_inj (List.le_antisymm h h2)

theorem insRev_perm : ∀ (rp q : List ByteArray) (x : ByteArray), (insRev rp x q).Perm (x :: (rp.reverse ++ q))
  | [], q, x => by simp [insRev]
  | y :: r, q, x => by
    simp only [insRev]
    cases ltS x y with
    | true =>
      simp only [cond_true]
      refine (insRev_perm r (y :: q) x).trans ?_
      simp
    | false =>
      simp only [cond_false]
      exact List.perm_middle
/-- x goes into a sorted list. -/
theorem insRev_sorted : ∀ (rp q : List ByteArray) (x : ByteArray), (rp.reverse ++ q).Pairwise leS → (∀ y ∈ q, leS x y) → (insRev rp x q).Pairwise leS
  | [], q, x, h, hq => by
    simp only [insRev]
    exact List.pairwise_cons.2 ⟨hq, by simpa using h⟩
  | y :: r, q, x, h, hq => by
    simp only [insRev]
    cases hb : ltS x y with
    | true =>
      simp only [cond_true]
      refine insRev_sorted r (y :: q) x (by simpa using h) fun z hz => ?_
      rcases List.mem_cons.1 hz with rfl | hz
      · exact leS_of_lt hb
      · exact hq z hz
    | false =>
      simp only [cond_false]
      have hyx := leS_of_nlt hb
      rw [List.pairwise_append] at h ⊢
      obtain ⟨h1, h2, h3⟩ := h
      refine ⟨h1, List.pairwise_cons.2 ⟨hq, h2⟩, fun a ha b hb => ?_⟩
      rcases List.mem_cons.1 hb with rfl | hb
      · have : leS a y := by
          have ha' : a ∈ r.reverse ++ [y] := by simpa using ha
          rcases List.mem_append.1 ha' with ha' | ha'
          · have : (r.reverse ++ [y]).Pairwise leS := by simpa using h1
            exact (List.pairwise_append.1 this).2.2 a ha' y (by simp)
          · rw [List.mem_singleton.1 ha']; exact leS_refl y
        exact leS_trans this hyx
      · exact h3 a ha b hb
theorem insP_sorted {p : List ByteArray} (x : ByteArray) (h : p.Pairwise leS) : (insP p x).Pairwise leS := insRev_sorted _ _ _ (by simpa using h) (by simp)
theorem insP_perm (p : List ByteArray) (x : ByteArray) : (insP p x).Perm (x :: p) := by
  have := insRev_perm p.reverse [] x
  simpa [insP] using this
theorem isortFrom_sorted : ∀ (s p : List ByteArray), p.Pairwise leS → (isortFrom p s).Pairwise leS
  | [], p, h => by simpa [isortFrom] using h
  | x :: s, p, h => by simp only [isortFrom]; exact isortFrom_sorted s _ (insP_sorted x h)
theorem isortFrom_perm : ∀ (s p : List ByteArray), (isortFrom p s).Perm (p ++ s)
  | [], p => by simp [isortFrom]
  | x :: s, p => by
    simp only [isortFrom]
    refine (isortFrom_perm s _).trans ?_
    refine ((insP_perm p x).append_right s).trans ?_
    exact List.perm_middle.symm
theorem isort_sorted (l : List ByteArray) : (isort l).Pairwise leS := by
  cases l with
  | nil => exact .nil
  | cons x r => exact isortFrom_sorted r [x] (by simp)
theorem isort_perm (l : List ByteArray) : (isort l).Perm l := by
  cases l with
  | nil => exact .nil
  | cons x r => exact isortFrom_perm r [x]
theorem isort_merge (l : List ByteArray) : (isort l).map (fun s => s.data.toList) = (l.map fun s => s.data.toList).mergeSort fun a b => decide (a ≤ b) := by
  refine List.Perm.eq_of_pairwise (le := fun a b => decide (a ≤ b) = true) (fun a b _ _ h1 h2 => ?_) ?_ (List.pairwise_mergeSort (fun a b c h1 h2 => ?_) (fun a b => ?_) _) (((isort_perm l).map _).trans (List.mergeSort_perm _ _).symm)
  · simp only [decide_eq_true_eq] at h1 h2
    exact List.le_antisymm h1 h2
  · rw [List.pairwise_map]
    exact (isort_sorted l).imp fun {a b} h => by simpa [leS] using h
  · simp only [decide_eq_true_eq] at h1 h2 ⊢
    exact List.le_trans h1 h2
  · have := List.le_total a b
    simpa using this
/-- slices.Sort of any length. -/
theorem sortAny (x : ByteArray) (r : List ByteArray) (h : (x :: r).length ≤ 2 ^ 30) (N : Nat) (hN : N = (x :: r).length) :
    EvCall cx 30 [.ms (0, 0) 0 N N] [.arr 1 (strs (x :: r)) 0] (.tup []) [.arr 1 (strs (isort (x :: r))) 0] := by
  subst hN
  exact EvCall.prim4 (.mk x r _ (by omega) (isort_merge (x :: r)))
end Go.Proofs.YtbdnigendhhndaaGreatDoor
end
section
/- slices.Sort of at most 12 texts. -/
namespace Go.Proofs.YtbdnigendhhndaaGreatDoor
open Go Go.Ev
set_option maxRecDepth 100000

theorem len64 (n : Nat) (h : n ≤ 12) : ∃ k : Int, EvCall cx 102 [.p (.s (.int .u64 n))] [] (int k) [] := by
  have : n = 0 ∨ n = 1 ∨ n = 2 ∨ n = 3 ∨ n = 4 ∨ n = 5 ∨ n = 6 ∨ n = 7 ∨ n = 8 ∨ n = 9 ∨ n = 10 ∨ n = 11 ∨ n = 12 := by omega
  rcases this with rfl | rfl | rfl | rfl | rfl | rfl | rfl | rfl | rfl | rfl | rfl | rfl | rfl
  · refine ⟨0, ?_⟩; exact EvCall.run Tryz.f102 Tryz.func102 Tryz.call102 [.same, .same, .same, .same, .same, .same, .same, .same, .same, .same] .nil (by kernel_rfl)
  · refine ⟨1, ?_⟩; exact EvCall.run Tryz.f102 Tryz.func102 Tryz.call102 [.same, .same, .same, .same, .same, .same, .same, .same, .same, .same] .nil (by kernel_rfl)
  · refine ⟨2, ?_⟩; exact EvCall.run Tryz.f102 Tryz.func102 Tryz.call102 [.same, .same, .same, .same, .same, .same, .same, .same, .same, .same] .nil (by kernel_rfl)
  · refine ⟨2, ?_⟩; exact EvCall.run Tryz.f102 Tryz.func102 Tryz.call102 [.same, .same, .same, .same, .same, .same, .same, .same, .same, .same] .nil (by kernel_rfl)
  · refine ⟨3, ?_⟩; exact EvCall.run Tryz.f102 Tryz.func102 Tryz.call102 [.same, .same, .same, .same, .same, .same, .same, .same, .same, .same] .nil (by kernel_rfl)
  · refine ⟨3, ?_⟩; exact EvCall.run Tryz.f102 Tryz.func102 Tryz.call102 [.same, .same, .same, .same, .same, .same, .same, .same, .same, .same] .nil (by kernel_rfl)
  · refine ⟨3, ?_⟩; exact EvCall.run Tryz.f102 Tryz.func102 Tryz.call102 [.same, .same, .same, .same, .same, .same, .same, .same, .same, .same] .nil (by kernel_rfl)
  · refine ⟨3, ?_⟩; exact EvCall.run Tryz.f102 Tryz.func102 Tryz.call102 [.same, .same, .same, .same, .same, .same, .same, .same, .same, .same] .nil (by kernel_rfl)
  · refine ⟨4, ?_⟩; exact EvCall.run Tryz.f102 Tryz.func102 Tryz.call102 [.same, .same, .same, .same, .same, .same, .same, .same, .same, .same] .nil (by kernel_rfl)
  · refine ⟨4, ?_⟩; exact EvCall.run Tryz.f102 Tryz.func102 Tryz.call102 [.same, .same, .same, .same, .same, .same, .same, .same, .same, .same] .nil (by kernel_rfl)
  · refine ⟨4, ?_⟩; exact EvCall.run Tryz.f102 Tryz.func102 Tryz.call102 [.same, .same, .same, .same, .same, .same, .same, .same, .same, .same] .nil (by kernel_rfl)
  · refine ⟨4, ?_⟩; exact EvCall.run Tryz.f102 Tryz.func102 Tryz.call102 [.same, .same, .same, .same, .same, .same, .same, .same, .same, .same] .nil (by kernel_rfl)
  · refine ⟨4, ?_⟩; exact EvCall.run Tryz.f102 Tryz.func102 Tryz.call102 [.same, .same, .same, .same, .same, .same, .same, .same, .same, .same] .nil (by kernel_rfl)
theorem bitsLen (n : Nat) (h : n ≤ 12) : ∃ k : Int, EvCall cx 58 [.p (.s (.int .u64 n))] [] (int k) [] := by
  obtain ⟨k, hk⟩ := len64 n h
  refine ⟨k, ?_⟩
  exact EvCall.run Tryz.f58 Tryz.func58 Tryz.call58 [.same, .call (int k) ([])] (.cons hk .nil) (by kernel_rfl)
theorem pdq12 (l : List ByteArray) (h : l.length ≤ 12) (k : Int) (N : Nat) (hN : N = l.length) :
    EvCall cx 57 [.ms (0, 0) 0 N N, int 0, int N, int k] [.arr 1 (strs l) 0] (.tup []) [.arr 1 (strs (isort l)) 0] := by
  have hi := insertionSort [] l [] N (by omega) (by simp [hN]) N (by simp [hN])
  simp only [List.nil_append, List.append_nil, List.length_nil] at hi
  have hlp : EvCode cx (EvCall cx) (.loop (loopBody Tryz.f57 0)) ⟨[(0, .ms (0, 0) 0 N N), (1, int 0), (2, int N), (3, int k), (8, Ev.bool true), (9, Ev.bool true)], [((0, 0), .arr 1 (strs l) 0)]⟩
      .ret ⟨[], [((0, 0), .arr 1 (strs (isort l)) 0)]⟩ := by
    exact EvCode.out [.v (.int .i64 ((N - (0 : Nat) : Nat) : Int)), T, .same, .ref, .call (AV.tup []) ([AO.arr (1 : Nat) (strs (isort l)) (0 : Nat)])] [] [((0 : Nat), (0 : Nat))] (.cons (natVi64 (by omega) (by omega) (by omega) : Value.int .i64 (IntKind.i64.wrap ((↑N : Int) - (0 : Int))) = .int .i64 ((N - (0 : Nat) : Nat) : Int)) (.cons (vb (by simp [strs_length, rowsE_length]; omega : decide ((↑(N - (0 : Nat)) : Int) ≤ (12 : Int)) = true)) (.cons hi .nil))) AE.ne_ret (by kernel_rfl)
  exact EvCall.run Tryz.f57 Tryz.func57 Tryz.call57 [.loop [(0 : Nat), (1 : Nat), (2 : Nat), (3 : Nat), (8 : Nat), (9 : Nat)] [((0 : Nat), (0 : Nat))] (AE.ret) ({ e := [], s := [(((0 : Nat), (0 : Nat)), AO.arr (1 : Nat) (strs (isort l)) (0 : Nat))] }), .ref] (.cons hlp .nil) (by kernel_rfl)
theorem sort12 (l : List ByteArray) (h : l.length ≤ 12) (N : Nat) (hN : N = l.length) :
    EvCall cx 30 [.ms (0, 0) 0 N N] [.arr 1 (strs l) 0] (.tup []) [.arr 1 (strs (isort l)) 0] := by
  obtain ⟨k, hk⟩ := bitsLen N (by omega)
  have hp := pdq12 l h k N hN
  have hw : IntKind.u64.wrap (N : Int) = N := by simp [IntKind.wrap, IntKind.bits]; omega
  exact EvCall.run Tryz.f30 Tryz.func30 Tryz.call30 [.v (.int .u64 ((N : Nat) : Int)), .call (int k) ([]), .ref, .call (AV.tup []) ([AO.arr (1 : Nat) (strs (isort l)) (0 : Nat)]), .ref] (.cons (natVu64 (by omega) (by omega) (by omega) : Value.int .u64 (IntKind.u64.wrap ((↑N : Int))) = .int .u64 ((N : Nat) : Int)) (.cons hk (.cons hp .nil))) (by kernel_rfl)
theorem insNil : EvCall cx 92 [.p (.s nilS), int 0, int 0] [] (.tup []) [] := by
  have hlp : EvCode cx (EvCall cx) (.loop (loopBody Tryz.f92 0)) ⟨[(0, .p (.s nilS)), (1, int 0), (2, int 0), (6, int 1)], []⟩ (.exit 0) ⟨[], []⟩ := by
    exact EvCode.out [.same, .same] [] [] .nil (AE.ne_exit _) (by kernel_rfl)
  exact EvCall.run Tryz.f92 Tryz.func92 Tryz.call92 [.same, .loop [(0 : Nat), (1 : Nat), (2 : Nat), (6 : Nat)] [] (AE.exit (0 : Nat)) ({ e := [], s := [] })] (.cons hlp .nil) (by kernel_rfl)
theorem pdqNil (k : Int) : EvCall cx 57 [.p (.s nilS), int 0, int 0, int k] [] (.tup []) [] := by
  have hi := insNil
  have hlp : EvCode cx (EvCall cx) (.loop (loopBody Tryz.f57 0)) ⟨[(0, .p (.s nilS)), (1, int 0), (2, int 0), (3, int k), (8, Ev.bool true), (9, Ev.bool true)], []⟩ .ret ⟨[], []⟩ := by
    exact EvCode.out [.same, .same, .same, .ref, .call (AV.tup []) ([])] [] [] (.cons hi .nil) AE.ne_ret (by kernel_rfl)
  exact EvCall.run Tryz.f57 Tryz.func57 Tryz.call57 [.loop [(0 : Nat), (1 : Nat), (2 : Nat), (3 : Nat), (8 : Nat), (9 : Nat)] [] (AE.ret) ({ e := [], s := [] })] (.cons hlp .nil) (by kernel_rfl)
theorem sortNil : EvCall cx 30 [.p (.s nilS)] [] (.tup []) [] := by
  obtain ⟨k, hk⟩ := bitsLen 0 (by omega)
  have hp := pdqNil k
  exact EvCall.run Tryz.f30 Tryz.func30 Tryz.call30 [.same, .call (int k) ([]), .ref, .call (AV.tup []) ([])] (.cons hk (.cons hp .nil)) (by kernel_rfl)
end Go.Proofs.YtbdnigendhhndaaGreatDoor
end
section
/- slices.Values, Collect, Sorted, Compact over texts. -/
namespace Go.Proofs.YtbdnigendhhndaaGreatDoor
open Go Go.Ev
set_option maxRecDepth 100000

theorem values60 (l : List ByteArray) : EvCall cx 60 [sl (strs l)] [] (.fn 104 [.ref (0, 0) 0]) [.cells [sl (strs l)]] := by
  exact EvCall.run Tryz.f60 Tryz.func60 Tryz.call60 [.val] .nil (by kernel_rfl)
theorem collect103 (l : List ByteArray) (h : l.length ≤ 2 ^ 30) : EvCall cx 103 [.fn 104 [.ref (0, 0) 0]] [.cells [sl (strs l)]] (ownV ((0, 1) : Nat × Nat) (strs l)) (.cells [sl (strs l)] :: ownO 1 (strs l)) := by
  have hs := EvCall.prim (SeqPrim.mk l (by omega))
  cases l with
  | nil => exact EvCall.run Tryz.f103 Tryz.func103 Tryz.call103 [.ref, .call (ownV (0, 1) (strs [])) (AO.cells [AV.p (PV.sl (strs []))] :: ownO 1 (strs [])), .ref] (.cons hs .nil) (by kernel_rfl)
  | cons x r => exact EvCall.run Tryz.f103 Tryz.func103 Tryz.call103 [.ref, .call (ownV (0, 1) (strs (x :: r))) (AO.cells [AV.p (PV.sl (strs (x :: r)))] :: ownO 1 (strs (x :: r))), .ref] (.cons hs .nil) (by kernel_rfl)
def sortedV (id : Ev.Id) (l : List ByteArray) : AV := match l with
  | [] => .p (.s nilS)
  | _ => .ms id 0 l.length l.length
def sortedO (l : List ByteArray) : List AO := match l with
  | [] => []
  | _ => [.arr 1 (strs (isort l)) 0]
theorem ownV_cons (id : Ev.Id) (x : ByteArray) (r : List ByteArray) : ownV id (strs (x :: r)) = .ms id 0 (r.length + 1) (r.length + 1) := by simp [ownV, strs]
theorem ownO_cons (x : ByteArray) (r : List ByteArray) : ownO 1 (strs (x :: r)) = [.arr 1 (strs (x :: r)) 0] := rfl
theorem sorted59 (l : List ByteArray) (h : l.length ≤ 2 ^ 30) : EvCall cx 59 [.fn 104 [.ref (0, 0) 0]] [.cells [sl (strs l)]] (sortedV ((0, 1) : Nat × Nat) l) (.cells [sl (strs l)] :: sortedO l) := by
  have hc := collect103 l (by omega)
  cases l with
  | nil =>
    have hs := sortNil
    exact EvCall.run Tryz.f59 Tryz.func59 Tryz.call59 [.val, .call (ownV (0, 1) (strs [])) (AO.cells [sl (strs [])] :: ownO 1 (strs [])), .ref, .call (AV.tup []) ([]), .ref] (.cons hc (.cons hs .nil)) (by kernel_rfl)
  | cons x r =>
    rw [ownV_cons, ownO_cons] at hc
    have hs := sortAny x r h (r.length + 1) (by simp)
    exact EvCall.run Tryz.f59 Tryz.func59 Tryz.call59 [.val, .call (AV.ms (0, 1) 0 (r.length + 1) (r.length + 1)) ([AO.cells [sl (strs (x :: r))], AO.arr 1 (strs (x :: r)) 0]), .ref, .call (AV.tup []) ([AO.arr 1 (strs (isort (x :: r))) 0]), .ref] (.cons hc (.cons hs .nil)) (by kernel_rfl)
end Go.Proofs.YtbdnigendhhndaaGreatDoor
end
section
/- slices.Compact over texts of one's own; slices.Clone of such. -/
namespace Go.Proofs.YtbdnigendhhndaaGreatDoor
open Go Go.Ev
set_option maxRecDepth 100000

/-- What follows y, without what equals its neighbour. -/
def dedup : ByteArray → List ByteArray → List ByteArray
  | _, [] => []
  | y, z :: r => bif z.toList == y.toList then dedup z r else z :: dedup z r
def compactS : List ByteArray → List ByteArray
  | [] => []
  | x :: r => x :: dedup x r

theorem cp_at1 (C R Qt : List ByteArray) (q0 z : ByteArray) (m : Nat) (hm : m = C.length + Qt.length + 1) : (strs (C ++ q0 :: Qt ++ z :: R))[m]? = some [pS z] := by
  subst hm
  have e : C ++ q0 :: Qt ++ z :: R = (C ++ q0 :: Qt) ++ z :: R := by simp
  have := at_mid (C ++ q0 :: Qt) R z _ rfl
  rw [Int.toNat_natCast, Nat.zero_add] at this
  simpa [Nat.add_assoc] using this
theorem cp_at2 (C R Qt : List ByteArray) (q0 y : ByteArray) (hy : (q0 :: Qt)[Qt.length]? = some y) (m : Nat) (hm : m = C.length + Qt.length) : (strs (C ++ q0 :: Qt ++ R))[m]? = some [pS y] := by
  subst hm
  have h1 : Qt.length < (q0 :: Qt).length := by simp
  simp only [strs, List.getElem?_map]
  rw [List.append_assoc, List.getElem?_append_right (by omega), List.getElem?_append_left (by simp)]
  simp only [Nat.add_sub_cancel_left]
  rw [hy]; rfl

theorem cp_loop (N k0 n0 : Nat) (hn0 : k0 + n0 = N) (hN : N ≤ 2 ^ 62) : ∀ (R C Qt : List ByteArray) (q0 y : ByteArray) (k2 : Nat), (q0 :: Qt)[Qt.length]? = some y → (C ++ q0 :: Qt ++ R).length = N → k0 + k2 = C.length + Qt.length + 1 → 1 ≤ k2 → k0 ≤ C.length →
    ∃ (q1 : ByteArray) (Q1 : List ByteArray), (C ++ dedup y R ++ q1 :: Q1).length = N ∧
    EvCode cx (EvCall cx) (.loop (loopBody Tryz.f31 1)) ⟨[(0, .ms (0, 0) 0 N N), (3, int C.length), (4, .ms (0, 0) k0 n0 N), (5, int k2)], [((0, 0), .arr 1 (strs (C ++ q0 :: Qt ++ R)) 0)]⟩
      (.exit 2) ⟨[(0, .ms (0, 0) 0 N N), (3, int (C ++ dedup y R).length)], [((0, 0), .arr 1 (strs (C ++ dedup y R ++ q1 :: Q1)) 0)]⟩
  | [], C, Qt, q0, y, k2, hy, h, hk, h1, h2 => by
    refine ⟨q0, Qt, by simpa [dedup] using h, ?_⟩
    simp only [dedup, List.append_nil]
    have hl : (C ++ q0 :: Qt).length = N := by simpa using h
    have hlt : ¬ (k2 : Int) < ((n0 : Nat) : Int) := by simp at hl; omega
    exact EvCode.out [F, .same] [(0 : Nat), (3 : Nat)] [((0 : Nat), (0 : Nat))] (.cons (vb (by simp; omega : decide ((↑k2 : Int) < (↑n0 : Int)) = false)) .nil) (AE.ne_exit _) (by kernel_rfl)
  | z :: R, C, Qt, q0, y, k2, hy, h, hk, h1, h2 => by
    have hl : (strs (C ++ q0 :: Qt ++ z :: R)).length = N := by rw [strs_length]; exact h
    have hlt : (k2 : Int) < ((n0 : Nat) : Int) := by simp at h; omega
    have g1 := cp_at1 C R Qt q0 z (k0 + ((k2 : Nat) : Int).toNat) (by omega)
    have g2 := cp_at2 C (z :: R) Qt q0 y hy (k0 + ((k2 - 1 : Nat) : Int).toNat) (by omega)
    simp only [dedup]
    cases hb : z.toList == y.toList with
    | true =>
      obtain ⟨q1, Q1, e, ih⟩ := cp_loop N k0 n0 hn0 hN R C (Qt ++ [z]) q0 z (k2 + 1) (by simp) (by simp at h ⊢; omega) (by simp; omega) (by omega) h2
      refine ⟨q1, Q1, e, ?_⟩
      have e2 : C ++ q0 :: (Qt ++ [z]) ++ R = C ++ q0 :: Qt ++ z :: R := by simp
      rw [e2] at ih
      simp only [cond_true]
      exact EvCode.round [T, .same, .row ([pS z]), .v (.int .i64 ((k2 - (1 : Nat) : Nat) : Int)), .row ([pS y]), F, .same, .v (.int .i64 ((k2 + (1 : Nat) : Nat) : Int))] [(0 : Nat), (3 : Nat), (4 : Nat), (5 : Nat)] [((0 : Nat), (0 : Nat))] (.cons (vb (by simp; omega : decide ((↑k2 : Int) < (↑n0 : Int)) = true)) (.cons ((by simp [inBd, strs_length, rowsE_length]; omega) : inBd (↑k2 : Int) n0) (.cons (hl : (strs (C ++ q0 :: Qt ++ z :: R)).length = N) (.cons g1 (.cons (natVi64 (by omega) (by omega) (by omega) : Value.int .i64 (IntKind.i64.wrap ((↑k2 : Int) - (1 : Int))) = .int .i64 ((k2 - (1 : Nat) : Nat) : Int)) (.cons ((by simp [inBd, strs_length, rowsE_length]; omega) : inBd (↑(k2 - (1 : Nat)) : Int) n0) (.cons (hl : (strs (C ++ q0 :: Qt ++ z :: R)).length = N) (.cons g2 (.cons (vb (by simp [strs_length, rowsE_length, *] : (!z.toList == y.toList) = false)) (.cons (natVi64 (by omega) (by omega) (by omega) : Value.int .i64 (IntKind.i64.wrap ((↑k2 : Int) + (1 : Int))) = .int .i64 ((k2 + (1 : Nat) : Nat) : Int)) .nil)))))))))) (by kernel_rfl) ih
    | false =>
      have es : (strs (C ++ q0 :: Qt ++ z :: R)).set (0 + ((C.length : Nat) : Int).toNat) [pS z] = strs (C ++ [z] ++ (Qt ++ [z]) ++ R) := by
        have := set_mid C (Qt ++ z :: R) q0 z C.length rfl
        simpa using this
      have g3 : (strs (C ++ q0 :: Qt ++ z :: R))[0 + ((C.length : Nat) : Int).toNat]? = some [pS q0] := by
        have := at_mid C (Qt ++ z :: R) q0 C.length rfl
        simpa using this
      have hCN : C.length < N := by simp at h; omega
      simp only [cond_false]
      cases hQ : Qt ++ [z] with
      | nil => simp at hQ
      | cons q1' Q1' =>
        have hq2 : Q1'.length = Qt.length := by
          have := congrArg List.length hQ
          simpa using this.symm
        obtain ⟨q1, Q1, e, ih⟩ := cp_loop N k0 n0 hn0 hN R (C ++ [z]) Q1' q1' z (k2 + 1) (by rw [← hQ, hq2]; simp) (by rw [List.append_assoc, List.append_assoc]; simp at h ⊢; omega) (by simp; omega) (by omega) (by simp; omega)
        rw [hQ] at es
        refine ⟨q1, Q1, by simpa using e, ?_⟩
        rw [← es] at ih
        simp only [List.length_append, List.length_singleton, List.append_assoc, List.singleton_append] at ih ⊢
        simp only [List.append_assoc, List.cons_append] at g1 g2 g3 hl
        exact EvCode.round [T, .same, .row ([pS z]), .v (.int .i64 ((k2 - (1 : Nat) : Nat) : Int)), .row ([pS y]), T, .same, .row ([pS z]), .row ([pS q0]), .v (.int .i64 ((C.length + (1 : Nat) : Nat) : Int)), .v (.int .i64 ((k2 + (1 : Nat) : Nat) : Int))] [(0 : Nat), (3 : Nat), (4 : Nat), (5 : Nat)] [((0 : Nat), (0 : Nat))] (.cons (vb (by simp; omega : decide ((↑k2 : Int) < (↑n0 : Int)) = true)) (.cons ((by simp [inBd, strs_length, rowsE_length]; omega) : inBd (↑k2 : Int) n0) (.cons (hl : (strs (C ++ (q0 :: Qt ++ z :: R))).length = N) (.cons g1 (.cons (natVi64 (by omega) (by omega) (by omega) : Value.int .i64 (IntKind.i64.wrap ((↑k2 : Int) - (1 : Int))) = .int .i64 ((k2 - (1 : Nat) : Nat) : Int)) (.cons ((by simp [inBd, strs_length, rowsE_length]; omega) : inBd (↑(k2 - (1 : Nat)) : Int) n0) (.cons (hl : (strs (C ++ (q0 :: Qt ++ z :: R))).length = N) (.cons g2 (.cons (vb (by simp [strs_length, rowsE_length, *] : (!z.toList == y.toList) = true)) (.cons ((by simp [inBd, strs_length, rowsE_length]; omega) : inBd (↑k2 : Int) n0) (.cons (hl : (strs (C ++ (q0 :: Qt ++ z :: R))).length = N) (.cons g1 (.cons ((by simp [inBd, strs_length, rowsE_length]; omega) : inBd (↑C.length : Int) N) (.cons (⟨hl, (by omega)⟩ : (strs (C ++ (q0 :: Qt ++ z :: R))).length = N ∧ (0 : Nat) ≤ (0 : Nat) + (↑C.length : Int).toNat) (.cons g3 (.cons (natVi64 (by omega) (by omega) (by omega) : Value.int .i64 (IntKind.i64.wrap ((↑C.length : Int) + (1 : Int))) = .int .i64 ((C.length + (1 : Nat) : Nat) : Int)) (.cons (natVi64 (by omega) (by omega) (by omega) : Value.int .i64 (IntKind.i64.wrap ((↑k2 : Int) + (1 : Int))) = .int .i64 ((k2 + (1 : Nat) : Nat) : Int)) .nil))))))))))))))))) (by kernel_rfl) ih
def cpOut (N : Nat) (P : List ByteArray) (y : ByteArray) (R : List ByteArray) (e : AE) (τ : St) : Prop :=
  (dedup y R = R ∧ e = .exit 0 ∧ τ = ⟨[(0, .ms (0, 0) 0 N N)], [((0, 0), .arr 1 (strs (P ++ y :: R)) 0)]⟩) ∨
  (∃ rs, (strs (P ++ y :: dedup y R) ++ rs).length = N ∧ e = .ret ∧ τ = ⟨[(2, .ms (0, 0) 0 (P ++ y :: dedup y R).length N)], [((0, 0), .arr 1 (strs (P ++ y :: dedup y R) ++ rs) 0)]⟩)

theorem cp_outer (N : Nat) (hN : N ≤ 2 ^ 62) : ∀ (R P : List ByteArray) (y : ByteArray), (P ++ y :: R).length = N →
    ∃ e τ, cpOut N P y R e τ ∧ EvCode cx (EvCall cx) (.loop (loopBody Tryz.f31 0)) ⟨[(0, .ms (0, 0) 0 N N), (3, int (P.length + 1 : Nat))], [((0, 0), .arr 1 (strs (P ++ y :: R)) 0)]⟩ e τ
  | [], P, y, h => by
    refine ⟨_, _, .inl ⟨rfl, rfl, rfl⟩, ?_⟩
    have hl : P.length + 1 = N := by simpa using h
    exact EvCode.out [F, .same] [(0 : Nat)] [((0 : Nat), (0 : Nat))] (.cons (vb (by simp; omega : decide ((↑(P.length + (1 : Nat)) : Int) < (↑N : Int)) = false)) .nil) (AE.ne_exit _) (by kernel_rfl)
  | z :: R, P, y, h => by
    have hl : (strs (P ++ y :: z :: R)).length = N := by rw [strs_length]; exact h
    have hlt : P.length + 1 < N := by simp at h; omega
    have g1 : (strs (P ++ y :: z :: R))[0 + ((P.length + 1 : Nat) : Int).toNat]? = some [pS z] := by
      have := at_mid (P ++ [y]) R z (P.length + 1) (by simp)
      simpa using this
    have g2 : (strs (P ++ y :: z :: R))[0 + ((P.length + 1 - 1 : Nat) : Int).toNat]? = some [pS y] := at_mid P (z :: R) y P.length rfl
    cases hb : z.toList == y.toList with
    | false =>
      obtain ⟨e, τ, ho, ih⟩ := cp_outer N hN R (P ++ [y]) z (by simpa using h)
      have e1 : P ++ [y] ++ z :: R = P ++ y :: z :: R := by simp
      rw [e1] at ih
      simp only [List.length_append, List.length_singleton] at ih
      refine ⟨e, τ, ?_, ?_⟩
      · rcases ho with ⟨h1, h2, h3⟩ | ⟨rs, h0, h2, h3⟩
        · exact .inl ⟨by simp [dedup, hb, h1], h2, by rw [h3, e1]⟩
        · have e2 : P ++ y :: dedup y (z :: R) = P ++ [y] ++ z :: dedup z R := by simp [dedup, hb]
          refine .inr ⟨rs, by rw [e2]; exact h0, h2, ?_⟩
          rw [h3, e2]
      · exact EvCode.round [T, .same, .row ([pS z]), .v (.int .i64 ((P.length + (1 : Nat) - (1 : Nat) : Nat) : Int)), .row ([pS y]), F, .same, .v (.int .i64 ((P.length + (1 : Nat) + (1 : Nat) : Nat) : Int))] [(0 : Nat), (3 : Nat)] [((0 : Nat), (0 : Nat))] (.cons (vb (by simp; omega : decide ((↑(P.length + (1 : Nat)) : Int) < (↑N : Int)) = true)) (.cons ((by simp [inBd, strs_length, rowsE_length]; omega) : inBd (↑(P.length + (1 : Nat)) : Int) N) (.cons (hl : (strs (P ++ y :: z :: R)).length = N) (.cons g1 (.cons (natVi64 (by omega) (by omega) (by omega) : Value.int .i64 (IntKind.i64.wrap ((↑(P.length + (1 : Nat)) : Int) - (1 : Int))) = .int .i64 ((P.length + (1 : Nat) - (1 : Nat) : Nat) : Int)) (.cons ((by simp [inBd, strs_length, rowsE_length]; omega) : inBd (↑(P.length + (1 : Nat) - (1 : Nat)) : Int) N) (.cons (hl : (strs (P ++ y :: z :: R)).length = N) (.cons g2 (.cons (vb hb) (.cons (natVi64 (by omega) (by omega) (by omega) : Value.int .i64 (IntKind.i64.wrap ((↑(P.length + (1 : Nat)) : Int) + (1 : Int))) = .int .i64 ((P.length + (1 : Nat) + (1 : Nat) : Nat) : Int)) .nil)))))))))) (by kernel_rfl) ih
    | true =>
      obtain ⟨q1, Q1, hq, hi⟩ := cp_loop N (0 + (P.length + 1)) (N - (P.length + 1)) (by omega) hN R (P ++ [y]) [] z z 1 (by simp) (by simpa using h) (by simp) (by omega) (by simp)
      have e1 : P ++ [y] ++ [z] ++ R = P ++ y :: z :: R := by simp
      rw [e1] at hi
      simp only [List.length_append, List.length_singleton] at hi hq
      have hd : dedup y (z :: R) = dedup z R := by simp [dedup, hb]
      have hc : (strs (P ++ [y] ++ dedup z R ++ q1 :: Q1)).length = N := by rw [strs_length]; simp at hq ⊢; omega
      have hcl : P.length + 1 + (dedup z R).length < N := by simp at hq; omega
      refine ⟨.ret, ⟨[(2, .ms (0, 0) 0 (P.length + 1 + (dedup z R).length) N)], [((0, 0), .arr 1 (List.take (0 + ((P.length + 1 + (dedup z R).length : Nat) : Int).toNat) (strs (P ++ [y] ++ dedup z R ++ q1 :: Q1)) ++ List.replicate (N - ((P.length + 1 + (dedup z R).length : Nat) : Int).toNat) [pS ⟨#[]⟩] ++ List.drop (0 + ((P.length + 1 + (dedup z R).length : Nat) : Int).toNat + (N - ((P.length + 1 + (dedup z R).length : Nat) : Int).toNat)) (strs (P ++ [y] ++ dedup z R ++ q1 :: Q1))) 0)]⟩, ?_, ?_⟩
      · refine .inr ⟨List.replicate (N - (P.length + 1 + (dedup z R).length)) [pS ⟨#[]⟩], by rw [hd]; simp [strs]; omega, rfl, ?_⟩
        rw [hd]
        have e3 : strs (P ++ [y] ++ dedup z R ++ q1 :: Q1) = strs (P ++ y :: dedup z R) ++ strs (q1 :: Q1) := by simp [strs]
        have e4 : (strs (P ++ y :: dedup z R)).length = P.length + 1 + (dedup z R).length := by simp [strs]; omega
        have e5 : P.length + 1 + (dedup z R).length + (N - (P.length + 1 + (dedup z R).length)) = N := by omega
        have e6 : (P ++ y :: dedup z R).length = P.length + 1 + (dedup z R).length := by simp; omega
        simp only [Int.toNat_natCast, Nat.zero_add]
        rw [e5, List.drop_of_length_le (Nat.le_of_eq hc), List.append_nil, e3, ← e4, List.take_left', e4, e6]
        rfl
      · exact EvCode.out [T, .same, .row ([pS z]), .v (.int .i64 ((P.length + (1 : Nat) - (1 : Nat) : Nat) : Int)), .row ([pS y]), T, .same, .loop [(0 : Nat), (3 : Nat), (4 : Nat), (5 : Nat)] [((0 : Nat), (0 : Nat))] (AE.exit (2 : Nat)) ({ e := [((0 : Nat), AV.ms ((0 : Nat), (0 : Nat)) (0 : Nat) N N), ((3 : Nat), AV.p (PV.s (Value.int IntKind.i64 (↑(P.length + (1 : Nat) + (dedup z R).length) : Int))))], s := [(((0 : Nat), (0 : Nat)), AO.arr (1 : Nat) (strs (P ++ [y] ++ dedup z R ++ q1 :: Q1)) (0 : Nat))] })] [(2 : Nat)] [((0 : Nat), (0 : Nat))] (.cons (vb (by simp; omega : decide ((↑(P.length + (1 : Nat)) : Int) < (↑N : Int)) = true)) (.cons ((by simp [inBd, strs_length, rowsE_length]; omega) : inBd (↑(P.length + (1 : Nat)) : Int) N) (.cons (hl : (strs (P ++ y :: z :: R)).length = N) (.cons g1 (.cons (natVi64 (by omega) (by omega) (by omega) : Value.int .i64 (IntKind.i64.wrap ((↑(P.length + (1 : Nat)) : Int) - (1 : Int))) = .int .i64 ((P.length + (1 : Nat) - (1 : Nat) : Nat) : Int)) (.cons ((by simp [inBd, strs_length, rowsE_length]; omega) : inBd (↑(P.length + (1 : Nat) - (1 : Nat)) : Int) N) (.cons (hl : (strs (P ++ y :: z :: R)).length = N) (.cons g2 (.cons (vb hb) (.cons (⟨hl, ⟨(by omega), ⟨(by simp [strs_length, rowsE_length]; omega), (by simp)⟩⟩⟩ : (strs (P ++ y :: z :: R)).length = N ∧ (0 : Int) ≤ (↑(P.length + (1 : Nat)) : Int) ∧ (↑(P.length + (1 : Nat)) : Int) ≤ none.getD (↑N : Int) ∧ (↑(0 : Nat) : Int) + none.getD (↑N : Int) ≤ (↑N : Int)) (.cons hi (.cons (⟨hc, ⟨(by omega), ⟨(by simp [strs_length, rowsE_length]; omega), (by simp)⟩⟩⟩ : (strs (P ++ [y] ++ dedup z R ++ q1 :: Q1)).length = N ∧ (0 : Int) ≤ (↑(P.length + (1 : Nat) + (dedup z R).length) : Int) ∧ (↑(P.length + (1 : Nat) + (dedup z R).length) : Int) ≤ none.getD (↑N : Int) ∧ (↑(0 : Nat) : Int) + none.getD (↑N : Int) ≤ (↑N : Int)) (.cons (⟨hc, ⟨(by simp [strs_length, rowsE_length]; omega), ⟨(by omega), (by simp [strs_length, rowsE_length]; omega)⟩⟩⟩ : (strs (P ++ [y] ++ dedup z R ++ q1 :: Q1)).length = N ∧ (0 : Nat) + (↑(P.length + (1 : Nat) + (dedup z R).length) : Int).toNat + ((none.getD (↑N : Int)).toNat - (↑(P.length + (1 : Nat) + (dedup z R).length) : Int).toNat) ≤ N ∧ (0 : Nat) ≤ (0 : Nat) + (↑(P.length + (1 : Nat) + (dedup z R).length) : Int).toNat ∧ (0 : Nat) < (none.getD (↑N : Int)).toNat - (↑(P.length + (1 : Nat) + (dedup z R).length) : Int).toNat) (.cons (⟨(by simp_all [strs_length, rowsE_length]; omega), ⟨(by omega), ⟨(by simp [strs_length, rowsE_length]; omega), (by simp [strs_length, rowsE_length]; omega)⟩⟩⟩ : (List.take ((0 : Nat) + (↑(P.length + (1 : Nat) + (dedup z R).length) : Int).toNat) (strs (P ++ [y] ++ dedup z R ++ q1 :: Q1)) ++ List.replicate ((none.getD (↑N : Int)).toNat - (↑(P.length + (1 : Nat) + (dedup z R).length) : Int).toNat) [nrm (PV.s (Value.string { data := #[] }))] ++ List.drop ((0 : Nat) + (↑(P.length + (1 : Nat) + (dedup z R).length) : Int).toNat + ((none.getD (↑N : Int)).toNat - (↑(P.length + (1 : Nat) + (dedup z R).length) : Int).toNat)) (strs (P ++ [y] ++ dedup z R ++ q1 :: Q1))).length = N ∧ (0 : Int) ≤ (0 : Int) ∧ (0 : Int) ≤ (some (↑(P.length + (1 : Nat) + (dedup z R).length) : Int)).getD (↑N : Int) ∧ (↑(0 : Nat) : Int) + (some (↑(P.length + (1 : Nat) + (dedup z R).length) : Int)).getD (↑N : Int) ≤ (↑N : Int)) .nil)))))))))))))) AE.ne_ret (by kernel_rfl)

theorem compact31 (l : List ByteArray) (N : Nat) (hN : N = l.length) (h0 : 1 ≤ N) (h62 : N ≤ 2 ^ 62) :
    ∃ rs, (strs (compactS l) ++ rs).length = N ∧ EvCall cx 31 [.ms (0, 0) 0 N N] [.arr 1 (strs l) 0] (.ms (0, 0) 0 (compactS l).length N) [.arr 1 (strs (compactS l) ++ rs) 0] := by
  cases l with
  | nil => simp at hN; omega
  | cons x r =>
    by_cases h2 : N < 2
    · have hr : r = [] := List.eq_nil_of_length_eq_zero (by simp at hN; omega)
      subst hr
      have hN1 : N = 1 := by simpa using hN
      subst hN1
      refine ⟨[], by simp [strs, compactS, dedup], ?_⟩
      have : compactS [x] = [x] := rfl
      rw [this]
      exact EvCall.run Tryz.f31 Tryz.func31 Tryz.call31 [.same, .same, .ref] .nil (by kernel_rfl)
    · obtain ⟨e, τ, ho, hlp⟩ := cp_outer N h62 r [] x (by simp [hN])
      simp only [List.nil_append, List.length_nil, Nat.zero_add] at hlp
      rcases ho with ⟨h1, rfl, rfl⟩ | ⟨rs, hrs, rfl, rfl⟩
      · have hc : compactS (x :: r) = x :: r := by simp [compactS, h1]
        refine ⟨[], by rw [hc, List.append_nil, strs_length, hN], ?_⟩
        rw [hc, List.append_nil, ← hN]
        exact EvCall.run Tryz.f31 Tryz.func31 Tryz.call31 [F, .same, .loop [(0 : Nat), (3 : Nat)] [((0 : Nat), (0 : Nat))] (AE.exit (0 : Nat)) ({ e := [((0 : Nat), AV.ms ((0 : Nat), (0 : Nat)) (0 : Nat) N N)], s := [(((0 : Nat), (0 : Nat)), AO.arr (1 : Nat) (strs ([] ++ x :: r)) (0 : Nat))] }), .ref] (.cons (vb (by simp; omega : decide ((↑N : Int) < (2 : Int)) = false)) (.cons hlp .nil)) (by kernel_rfl)
      · refine ⟨rs, hrs, ?_⟩
        simp only [List.nil_append] at hlp
        have hc : x :: dedup x r = compactS (x :: r) := rfl
        rw [hc] at hlp
        exact EvCall.run Tryz.f31 Tryz.func31 Tryz.call31 [F, .same, .loop [(0 : Nat), (3 : Nat)] [((0 : Nat), (0 : Nat))] (AE.ret) ({ e := [((2 : Nat), AV.ms ((0 : Nat), (0 : Nat)) (0 : Nat) (compactS (x :: r)).length N)], s := [(((0 : Nat), (0 : Nat)), AO.arr (1 : Nat) (strs (compactS (x :: r)) ++ rs) (0 : Nat))] }), .ref] (.cons (vb (by simp; omega : decide ((↑N : Int) < (2 : Int)) = false)) (.cons hlp .nil)) (by kernel_rfl)
end Go.Proofs.YtbdnigendhhndaaGreatDoor
end
