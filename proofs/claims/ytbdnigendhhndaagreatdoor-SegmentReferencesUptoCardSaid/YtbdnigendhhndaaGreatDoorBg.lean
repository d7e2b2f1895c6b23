/- A part of the proofs of this seat's laws (abstract interpretation of the translated program, and contracts of its functions); no statement of its own. -/
import Derived.Test.YtbdnigendhhndaaGreatDoorBb
import Derived.Test.YtbdnigendhhndaaGreatDoorBa
import Derived.Test.YtbdnigendhhndaaGreatDoorBc
import Derived.Test.YtbdnigendhhndaaGreatDoorBf
import Derived.Test.YtbdnigendhhndaaGreatDoorBe
set_option linter.unusedVariables false
set_option linter.unusedSimpArgs false
section
/- value.Equal, cmp.Compare. -/
namespace Go.Proofs.YtbdnigendhhndaaGreatDoor
open Go Go.Ev
set_option maxRecDepth 100000

theorem equal169 (v w : Val) (hv : v.list.length ≤ 2 ^ 62) : EvCall cx 169 [ag v.row, ag w.row] [] (bool (eqV v w)) [] := by
  have h := equal178 v.list w.list hv
  unfold eqV
  cases b1 : (v.kind == w.kind) with
  | false => simp only [Bool.false_and]; exact EvCall.run Tryz.f169 Tryz.func169 Tryz.call169 [F, .same, .same, .same, .same, .same, .same, .same, .same, .same, .same, .same, .same, .same, .same, .same, .same, .same, .same, .val] (.cons (vb b1) .nil) (by kernel_rfl)
  | true =>
    cases b2 : (v.number == w.number) with
    | false => simp only [Bool.false_and, Bool.and_false]; exact EvCall.run Tryz.f169 Tryz.func169 Tryz.call169 [T, .same, .same, .same, .same, .same, F, .same, .same, .same, .same, .same, .same, .same, .same, .same, .same, .same, .same, .same, .val] (.cons (vb b1) (.cons (vb b2) .nil)) (by kernel_rfl)
    | true =>
      cases b3 : eqS v.text w.text with
      | false => simp only [Bool.false_and, Bool.and_false]; exact EvCall.run Tryz.f169 Tryz.func169 Tryz.call169 [T, .same, .same, .same, .same, .same, T, .same, .same, .same, .same, .same, .same, F, .same, .same, .same, .same, .same, .same, .same, .val] (.cons (vb b1) (.cons (vb b2) (.cons (vb b3) .nil))) (by kernel_rfl)
      | true => simp only [Bool.true_and]; exact EvCall.run Tryz.f169 Tryz.func169 Tryz.call169 [T, .same, .same, .same, .same, .same, T, .same, .same, .same, .same, .same, .same, T, .same, .same, .same, .same, .same, .same, .val, .call (Ev.bool (eqSs v.list w.list)) ([]), .same, .val] (.cons (vb b1) (.cons (vb b2) (.cons (vb b3) (.cons h .nil)))) (by kernel_rfl)
theorem nan220 (a : Int) : EvCall cx 220 [int a] [] (bool false) [] := by
  have h : (a != a) = false := by simp
  exact EvCall.run Tryz.f220 Tryz.func220 Tryz.call220 [F, .val] (.cons (vb h) .nil) (by kernel_rfl)
theorem nan138 (a : ByteArray) : EvCall cx 138 [str a] [] (bool false) [] := by
  have h : (!(a.toList == a.toList)) = false := by simp
  exact EvCall.run Tryz.f138 Tryz.func138 Tryz.call138 [F, .val] (.cons (vb h) .nil) (by kernel_rfl)
def cmpI (a b : Int) : Int := bif decide (a < b) then -1 else bif decide (a > b) then 1 else 0
theorem cmp196 (a b : Int) : EvCall cx 196 [int a, int b] [] (int (cmpI a b)) [] := by
  have h1 := nan220 a
  have h2 := nan220 b
  unfold cmpI
  cases c1 : decide (a < b) with
  | true => exact EvCall.run Tryz.f196 Tryz.func196 Tryz.call196 [.val, .call (Ev.bool false) ([]), .val, .call (Ev.bool false) ([]), .same, .same, T, .same, .val] (.cons h1 (.cons h2 (.cons (vb c1) .nil))) (by kernel_rfl)
  | false =>
    cases c2 : decide (a > b) with
    | true => exact EvCall.run Tryz.f196 Tryz.func196 Tryz.call196 [.val, .call (Ev.bool false) ([]), .val, .call (Ev.bool false) ([]), .same, .same, F, .same, T, .same, .val] (.cons h1 (.cons h2 (.cons (vb c1) (.cons (vb c2) .nil)))) (by kernel_rfl)
    | false => exact EvCall.run Tryz.f196 Tryz.func196 Tryz.call196 [.val, .call (Ev.bool false) ([]), .val, .call (Ev.bool false) ([]), .same, .same, F, .same, F, .same, .val] (.cons h1 (.cons h2 (.cons (vb c1) (.cons (vb c2) .nil)))) (by kernel_rfl)
end Go.Proofs.YtbdnigendhhndaaGreatDoor
end
section
/- cmp.Compare over texts, slices.Compare, value.Compare. -/
namespace Go.Proofs.YtbdnigendhhndaaGreatDoor
open Go Go.Ev
set_option maxRecDepth 100000

def cmpS (a b : ByteArray) : Int := bif Op.bytesLess a.toList b.toList then -1 else bif !(Op.bytesLess a.toList b.toList || a.toList == b.toList) then 1 else 0
theorem cmp197 (a b : ByteArray) : EvCall cx 197 [str a, str b] [] (int (cmpS a b)) [] := by
  have h1 := nan138 a
  have h2 := nan138 b
  unfold cmpS
  cases c1 : Op.bytesLess a.toList b.toList with
  | true => exact EvCall.run Tryz.f197 Tryz.func197 Tryz.call197 [.val, .call (Ev.bool false) ([]), .val, .call (Ev.bool false) ([]), .same, .same, T, .same, .val] (.cons h1 (.cons h2 (.cons (vb c1) .nil))) (by kernel_rfl)
  | false =>
    cases c2 : !(false || a.toList == b.toList) with
    | true =>
      have c3 : (!(Op.bytesLess a.toList b.toList || a.toList == b.toList)) = true := by rw [c1]; exact c2
      exact EvCall.run Tryz.f197 Tryz.func197 Tryz.call197 [.val, .call (Ev.bool false) ([]), .val, .call (Ev.bool false) ([]), .same, .same, F, .same, T, .same, .val] (.cons h1 (.cons h2 (.cons (vb c1) (.cons (vb c3) .nil)))) (by kernel_rfl)
    | false =>
      have c3 : (!(Op.bytesLess a.toList b.toList || a.toList == b.toList)) = false := by rw [c1]; exact c2
      exact EvCall.run Tryz.f197 Tryz.func197 Tryz.call197 [.val, .call (Ev.bool false) ([]), .val, .call (Ev.bool false) ([]), .same, .same, F, .same, F, .same, .val] (.cons h1 (.cons h2 (.cons (vb c1) (.cons (vb c3) .nil)))) (by kernel_rfl)
def ints (l : List Int) : List (List PV) := l.map fun n => [pI n]
def cmpP : List Int → List Int → Option Int
  | [], _ => none
  | _ :: _, [] => some 1
  | a :: r, b :: q => bif cmpI a b != 0 then some (cmpI a b) else cmpP r q
def cmpOut (l m : List Int) (o : Option Int) : AE × St := match o with
  | none => (.exit 0, ⟨[(0, sl (ints l)), (1, sl (ints m)), (4, int 0)], []⟩)
  | some c => (.ret, ⟨[(4, int c)], []⟩)
theorem compare_loop (l m : List Int) (hl : l.length ≤ 2 ^ 62) : ∀ (s pl s' pm : List Int), l = pl ++ s → m = pm ++ s' → pl.length = pm.length →
    EvCode cx (EvCall cx) (.loop (loopBody Tryz.f199 0)) ⟨[(0, sl (ints l)), (1, sl (ints m)), (4, int 0), (9, sl (ints l)), (10, int l.length), (11, int pl.length)], []⟩
      (cmpOut l m (cmpP s s')).1 (cmpOut l m (cmpP s s')).2
  | [], pl, s', pm, h, h', hp => by
    have hq : pl.length = l.length := by rw [h]; simp
    have hge : ¬ (pl.length : Int) < (l.length : Int) := by omega
    simp only [cmpP, cmpOut]
    exact EvCode.out [F, .same] [(0 : Nat), (1 : Nat), (4 : Nat)] [] (.cons (vb (by simp; omega : decide ((↑pl.length : Int) < (↑l.length : Int)) = false)) .nil) (AE.ne_exit _) (by kernel_rfl)
  | a :: r, pl, [], pm, h, h', hp => by
    have hlt : pl.length < l.length := by rw [h]; simp
    have hq : (ints m).length = pl.length := by rw [h', hp]; simp [ints]
    have hrow : rowI (ints l) (pl.length : Int) = some [pI a] := by
      apply rowI_at
      simp only [ints, List.getElem?_map, get_of_split h, Option.map_some]
    have hge : (pl.length : Int) ≥ ((ints m).length : Nat) := by omega
    simp only [cmpP, cmpOut]
    exact EvCode.out [T, .same, .row ([pI a]), .same, T, .same] [(4 : Nat)] [] (.cons (vb (by simp; omega : decide ((↑pl.length : Int) < (↑l.length : Int)) = true)) (.cons hrow (.cons (vb (by simp; omega : decide ((↑pl.length : Int) ≥ (↑(ints m).length : Int)) = true)) .nil))) AE.ne_ret (by kernel_rfl)
  | a :: r, pl, b :: q, pm, h, h', hp => by
    have hlt : pl.length < l.length := by rw [h]; simp
    have hlm : (ints m).length = m.length := by simp [ints]
    have hq : pl.length < m.length := by rw [h', hp]; simp
    have hlt2 : ¬ (pl.length : Int) ≥ ((ints m).length : Nat) := by omega
    have hrow : rowI (ints l) (pl.length : Int) = some [pI a] := by
      apply rowI_at
      simp only [ints, List.getElem?_map, get_of_split h, Option.map_some]
    have hrow2 : rowI (ints m) (pl.length : Int) = some [pI b] := by
      apply rowI_at
      rw [hp]
      simp only [ints, List.getElem?_map, get_of_split h', Option.map_some]
    have hc := cmp196 a b
    simp only [cmpP]
    cases hb : cmpI a b != 0 with
    | true =>
      simp only [cond_true, cmpOut]
      exact EvCode.out [T, .same, .row ([pI a]), .same, F, .same, .row ([pI b]), .same, .val, .call (int (cmpI a b)) ([]), T, .same] [(4 : Nat)] [] (.cons (vb (by simp; omega : decide ((↑pl.length : Int) < (↑l.length : Int)) = true)) (.cons hrow (.cons (vb (by simp; omega : decide ((↑pl.length : Int) ≥ (↑(ints m).length : Int)) = false)) (.cons hrow2 (.cons hc (.cons (vb hb) .nil)))))) AE.ne_ret (by kernel_rfl)
    | false =>
      have ih := compare_loop l m hl r (pl ++ [a]) q (pm ++ [b]) (by simp [h]) (by simp [h']) (by simp [hp])
      simp only [List.length_append, List.length_singleton] at ih
      simp only [cond_false]
      generalize cmpOut l m (cmpP r q) = o at ih ⊢
      exact EvCode.round [T, .same, .row ([pI a]), .same, F, .same, .row ([pI b]), .same, .val, .call (int (cmpI a b)) ([]), F, .same, .v (.int .i64 ((pl.length + (1 : Nat) : Nat) : Int))] [(0 : Nat), (1 : Nat), (4 : Nat), (9 : Nat), (10 : Nat), (11 : Nat)] [] (.cons (vb (by simp; omega : decide ((↑pl.length : Int) < (↑l.length : Int)) = true)) (.cons hrow (.cons (vb (by simp; omega : decide ((↑pl.length : Int) ≥ (↑(ints m).length : Int)) = false)) (.cons hrow2 (.cons hc (.cons (vb hb) (.cons (natVi64 (by omega) (by omega) (by omega) : Value.int .i64 (IntKind.i64.wrap ((↑pl.length : Int) + (1 : Int))) = .int .i64 ((pl.length + (1 : Nat) : Nat) : Int)) .nil))))))) (by kernel_rfl) ih
def cmpR (l m : List Int) : Int := match cmpP l m with
  | some c => c
  | none => bif decide (l.length < m.length) then -1 else 0
theorem compare199 (l m : List Int) (hl : l.length ≤ 2 ^ 62) : EvCall cx 199 [sl (ints l), sl (ints m)] [] (int (cmpR l m)) [] := by
  have h := compare_loop l m hl l [] m [] rfl rfl rfl
  have e1 : (ints l).length = l.length := by simp [ints]
  have e2 : (ints m).length = m.length := by simp [ints]
  simp only [List.length_nil] at h
  rw [← e1] at h
  unfold cmpR
  cases hc : cmpP l m with
  | none =>
    rw [hc] at h
    simp only [cmpOut] at h
    cases hb : decide (l.length < m.length) with
    | true =>
      have hlt : ((ints l).length : Int) < ((ints m).length : Nat) := by have := of_decide_eq_true hb; omega
      simp only [cond_true]
      exact EvCall.run Tryz.f199 Tryz.func199 Tryz.call199 [.loop [(0 : Nat), (1 : Nat), (4 : Nat), (9 : Nat), (10 : Nat), (11 : Nat)] [] (AE.exit (0 : Nat)) ({ e := [((0 : Nat), AV.p (PV.sl (ints l))), ((1 : Nat), AV.p (PV.sl (ints m))), ((4 : Nat), AV.p (PV.s (Value.int IntKind.i64 (0 : Int))))], s := [] }), T, .same, .val] (.cons h (.cons (vb (by simp; omega : decide ((↑(ints l).length : Int) < (↑(ints m).length : Int)) = true)) .nil)) (by kernel_rfl)
    | false =>
      have hlt : ¬ ((ints l).length : Int) < ((ints m).length : Nat) := by have := of_decide_eq_false hb; omega
      simp only [cond_false]
      exact EvCall.run Tryz.f199 Tryz.func199 Tryz.call199 [.loop [(0 : Nat), (1 : Nat), (4 : Nat), (9 : Nat), (10 : Nat), (11 : Nat)] [] (AE.exit (0 : Nat)) ({ e := [((0 : Nat), AV.p (PV.sl (ints l))), ((1 : Nat), AV.p (PV.sl (ints m))), ((4 : Nat), AV.p (PV.s (Value.int IntKind.i64 (0 : Int))))], s := [] }), F, .same, .val] (.cons h (.cons (vb (by simp; omega : decide ((↑(ints l).length : Int) < (↑(ints m).length : Int)) = false)) .nil)) (by kernel_rfl)
  | some c =>
    rw [hc] at h
    simp only [cmpOut] at h
    exact EvCall.as (r := AV.p (PV.s (Value.int IntKind.i64 c))) (H' := []) (EvCall.run Tryz.f199 Tryz.func199 Tryz.call199 [.loop [(0 : Nat), (1 : Nat), (4 : Nat), (9 : Nat), (10 : Nat), (11 : Nat)] [] (AE.ret) ({ e := [((4 : Nat), AV.p (PV.s (Value.int IntKind.i64 c)))], s := [] }), .val] (.cons h .nil) (by kernel_rfl)) rfl rfl
theorem dvals_ver {v : Val} (h : v ∈ dvals) (h1 : v.kind ≠ 1) (h2 : v.kind ≠ 2) (h3 : v.kind ≠ 3) (h5 : v.kind ≠ 5) : v.text ∈ versL := by
  simp only [dvals, List.mem_append, List.mem_map, List.mem_cons, List.not_mem_nil, or_false] at h
  rcases h with (((h | h) | h) | h) | h
  · rcases h with rfl | rfl <;> exact absurd rfl h1
  · obtain ⟨n, _, rfl⟩ := h; exact absurd rfl h2
  · obtain ⟨s, _, rfl⟩ := h; exact absurd rfl h3
  · obtain ⟨s, hs, rfl⟩ := h; exact hs
  · obtain ⟨l, _, rfl⟩ := h; exact absurd rfl h5
/-- The numbers of a drawn version. -/
noncomputable def partsF (s : ByteArray) : Int × Int × Int := (is3 (xRun 198 [str s])).getD (0, 0, 0)
theorem partsF_of (s : ByteArray) (hs : s ∈ versL) : EvCall cx 198 [str s] [] (.tup [.agg [int (partsF s).1, int (partsF s).2.1, int (partsF s).2.2], bool true]) [] := by
  have h := parts_all
  rw [List.all_eq_true] at h
  have h1 := h s hs
  obtain ⟨⟨a, b, c⟩, h2⟩ := Option.isSome_iff_exists.1 h1
  have h3 : partsF s = (a, b, c) := by unfold partsF; rw [h2]; rfl
  rw [h3]
  exact xRun_ev (is3_eq h2)
noncomputable def ver3 (s : ByteArray) : List Int := [(partsF s).1, (partsF s).2.1, (partsF s).2.2]
/-- What value.Compare answers at drawn values. -/
noncomputable def cmpV (v w : Val) : Int × Int :=
  bif v.kind != w.kind then (0, 8) else bif v.kind == 1 then (0, 8) else bif v.kind == 5 then (0, 8) else bif v.kind == 2 then (cmpI v.number w.number, 0) else bif v.kind == 3 then (cmpS v.text w.text, 0) else (cmpR (ver3 v.text) (ver3 w.text), 0)
theorem compare173 (v w : Val) (hv : v ∈ dvals) (hw : w ∈ dvals) : EvCall cx 173 [ag v.row, ag w.row] [] (.tup [int (cmpV v w).1, int (cmpV v w).2]) [] := by
  have k1 := check195 v hv
  have k2 := check195 w hw
  unfold cmpV
  cases b1 : v.kind != w.kind with
  | true => exact EvCall.run Tryz.f173 Tryz.func173 Tryz.call173 [.val, .call (int (0 : Int)) ([]), .same, .same, .val, .call (int (0 : Int)) ([]), .same, .same, T, .same, .same, .same, .same, .same, .same, .same, .same, .same, .val] (.cons k1 (.cons k2 (.cons (vb b1) .nil))) (by kernel_rfl)
  | false =>
    cases b2 : v.kind == 1 with
    | true => exact EvCall.run Tryz.f173 Tryz.func173 Tryz.call173 [.val, .call (int (0 : Int)) ([]), .same, .same, .val, .call (int (0 : Int)) ([]), .same, .same, F, .same, .same, .same, T, .same, .same, .same, .same, .same, .same, .val] (.cons k1 (.cons k2 (.cons (vb b1) (.cons (vb b2) .nil)))) (by kernel_rfl)
    | false =>
      cases b3 : v.kind == 5 with
      | true => exact EvCall.run Tryz.f173 Tryz.func173 Tryz.call173 [.val, .call (int (0 : Int)) ([]), .same, .same, .val, .call (int (0 : Int)) ([]), .same, .same, F, .same, .same, .same, F, .same, .same, .same, .same, T, .same, .same, .val] (.cons k1 (.cons k2 (.cons (vb b1) (.cons (vb b2) (.cons (vb b3) .nil))))) (by kernel_rfl)
      | false =>
        cases b4 : v.kind == 2 with
        | true =>
          have hc := cmp196 v.number w.number
          exact EvCall.run Tryz.f173 Tryz.func173 Tryz.call173 [.val, .call (int (0 : Int)) ([]), .same, .same, .val, .call (int (0 : Int)) ([]), .same, .same, F, .same, .same, .same, F, .same, .same, .same, .same, F, .same, .same, T, .same, .val, .call (int (cmpI v.number w.number)) ([]), .val] (.cons k1 (.cons k2 (.cons (vb b1) (.cons (vb b2) (.cons (vb b3) (.cons (vb b4) (.cons hc .nil))))))) (by kernel_rfl)
        | false =>
          cases b5 : v.kind == 3 with
          | true =>
            have hc := cmp197 v.text w.text
            exact EvCall.run Tryz.f173 Tryz.func173 Tryz.call173 [.val, .call (int (0 : Int)) ([]), .same, .same, .val, .call (int (0 : Int)) ([]), .same, .same, F, .same, .same, .same, F, .same, .same, .same, .same, F, .same, .same, F, .same, T, .same, .val, .call (int (cmpS v.text w.text)) ([]), .val] (.cons k1 (.cons k2 (.cons (vb b1) (.cons (vb b2) (.cons (vb b3) (.cons (vb b4) (.cons (vb b5) (.cons hc .nil)))))))) (by kernel_rfl)
          | false =>
            have hk : v.kind = w.kind := by simpa using b1
            have n1 : v.kind ≠ 1 := by simpa using b2
            have n5 : v.kind ≠ 5 := by simpa using b3
            have n2 : v.kind ≠ 2 := by simpa using b4
            have n3 : v.kind ≠ 3 := by simpa using b5
            have hp := partsF_of v.text (dvals_ver hv n1 n2 n3 n5)
            have hq := partsF_of w.text (dvals_ver hw (hk ▸ n1) (hk ▸ n2) (hk ▸ n3) (hk ▸ n5))
            unfold ver3
            generalize partsF v.text = q1 at *
            generalize partsF w.text = q2 at *
            obtain ⟨a, b, c⟩ := q1
            obtain ⟨d, e, f⟩ := q2
            simp only at hp hq ⊢
            have hc := compare199 [a, b, c] [d, e, f] (by simp)
            simp only [ints, List.map_cons, List.map_nil] at hc
            simp only [cond_false]
            exact EvCall.run Tryz.f173 Tryz.func173 Tryz.call173 [.val, .call (int (0 : Int)) ([]), .same, .same, .val, .call (int (0 : Int)) ([]), .same, .same, F, .same, .same, .same, F, .same, .same, .same, .same, F, .same, .same, F, .same, F, .same, .val, .call (AV.tup [AV.agg [int a, int b, int c], Ev.bool true]) ([]), .same, .val, .call (AV.tup [AV.agg [int d, int e, int f], Ev.bool true]) ([]), .same, .same, .same, .val, .call (int (cmpR [a, b, c] [d, e, f])) ([]), .val] (.cons k1 (.cons k2 (.cons (vb b1) (.cons (vb b2) (.cons (vb b3) (.cons (vb b4) (.cons (vb b5) (.cons hp (.cons (⟨rfl, (by omega)⟩ : (1 : Nat) = (1 : Nat) ∧ (0 : Nat) ≤ (0 : Nat)) (.cons hq (.cons (⟨rfl, (by omega)⟩ : (1 : Nat) = (1 : Nat) ∧ (0 : Nat) ≤ (0 : Nat)) (.cons hc .nil)))))))))))) (by kernel_rfl)
end Go.Proofs.YtbdnigendhhndaaGreatDoor
end
section
/- strings.HasPrefix, HasSuffix; subject.Lookup. -/
namespace Go.Proofs.YtbdnigendhhndaaGreatDoor
open Go Go.Ev
set_option maxRecDepth 100000

def hasPre (s t : ByteArray) : Bool := bif decide (t.size ≤ s.size) then (s.extract 0 t.size).toList == t.toList else false
theorem prefix192 (s t : ByteArray) (hs : s.size ≤ 2 ^ 40) : EvCall cx 192 [str s, str t] [] (bool (hasPre s t)) [] := by
  unfold hasPre
  cases h : decide (t.size ≤ s.size) with
  | true =>
    have h1 : (s.size : Int) ≥ (t.size : Int) := by have := of_decide_eq_true h; omega
    have h2 : 0 ≤ (t.size : Int) ∧ (t.size : Int) ≤ (s.size : Int) := by omega
    simp only [cond_true]
    exact EvCall.run Tryz.f192 Tryz.func192 Tryz.call192 [T, .same, .same, .same, .same, .same, .same, .same, .same, .same, .val] (.cons (vb (by simp; omega : decide ((↑s.size : Int) ≥ (↑t.size : Int)) = true)) (.cons (⟨(by omega), h2⟩ : (0 : Int) ≤ (0 : Int) ∧ (0 : Int) ≤ (some (↑t.size : Int)).getD (↑s.size : Int) ∧ (some (↑t.size : Int)).getD (↑s.size : Int) ≤ (↑s.size : Int)) .nil)) (by kernel_rfl)
  | false =>
    have h1 : ¬ (s.size : Int) ≥ (t.size : Int) := by have := of_decide_eq_false h; omega
    simp only [cond_false]
    exact EvCall.run Tryz.f192 Tryz.func192 Tryz.call192 [F, .same, .same, .same, .same, .same, .same, .same, .val] (.cons (vb (by simp; omega : decide ((↑s.size : Int) ≥ (↑t.size : Int)) = false)) .nil) (by kernel_rfl)
theorem prefix170 (s t : ByteArray) (hs : s.size ≤ 2 ^ 40) : EvCall cx 170 [str s, str t] [] (bool (hasPre s t)) [] := by
  have h := prefix192 s t hs
  exact EvCall.run Tryz.f170 Tryz.func170 Tryz.call170 [.val, .call (Ev.bool (hasPre s t)) ([]), .val] (.cons h .nil) (by kernel_rfl)
def hasSuf (s t : ByteArray) : Bool := bif decide (t.size ≤ s.size) then (s.extract (s.size - t.size) s.size).toList == t.toList else false
theorem suffix193 (s t : ByteArray) (hs : s.size ≤ 2 ^ 40) : EvCall cx 193 [str s, str t] [] (bool (hasSuf s t)) [] := by
  unfold hasSuf
  cases h : decide (t.size ≤ s.size) with
  | true =>
    have h1 : (s.size : Int) ≥ (t.size : Int) := by have := of_decide_eq_true h; omega
    have h2 : 0 ≤ (s.size : Int) - (t.size : Int) ∧ (s.size : Int) - (t.size : Int) ≤ (s.size : Int) := by omega
    simp only [cond_true]
    exact EvCall.run Tryz.f193 Tryz.func193 Tryz.call193 [T, .same, .same, .same, .same, .same, .same, .v (.int .i64 ((s.size - t.size : Nat) : Int)), .same, .same, .same, .same, .same, .same, .val] (.cons (vb (by simp; omega : decide ((↑s.size : Int) ≥ (↑t.size : Int)) = true)) (.cons (natVi64 (by omega) (by omega) (by omega) : Value.int .i64 (IntKind.i64.wrap ((↑s.size : Int) - (↑t.size : Int))) = .int .i64 ((s.size - t.size : Nat) : Int)) (.cons (⟨(by omega), ⟨(by simp), (by simp)⟩⟩ : (0 : Int) ≤ (↑(s.size - t.size) : Int) ∧ (↑(s.size - t.size) : Int) ≤ none.getD (↑s.size : Int) ∧ none.getD (↑s.size : Int) ≤ (↑s.size : Int)) .nil))) (by kernel_rfl)
  | false =>
    have h1 : ¬ (s.size : Int) ≥ (t.size : Int) := by have := of_decide_eq_false h; omega
    simp only [cond_false]
    exact EvCall.run Tryz.f193 Tryz.func193 Tryz.call193 [F, .same, .same, .same, .same, .same, .same, .same, .same, .same, .same, .val] (.cons (vb (by simp; omega : decide ((↑s.size : Int) ≥ (↑t.size : Int)) = false)) .nil) (by kernel_rfl)
theorem suffix171 (s t : ByteArray) (hs : s.size ≤ 2 ^ 40) : EvCall cx 171 [str s, str t] [] (bool (hasSuf s t)) [] := by
  have h := suffix193 s t hs
  exact EvCall.run Tryz.f171 Tryz.func171 Tryz.call171 [.val, .call (Ev.bool (hasSuf s t)) ([]), .val] (.cons h .nil) (by kernel_rfl)
end Go.Proofs.YtbdnigendhhndaaGreatDoor
end
section
/- subject.Lookup. -/
namespace Go.Proofs.YtbdnigendhhndaaGreatDoor
open Go Go.Ev
set_option maxRecDepth 100000

def zeroV : Val := ⟨0, 0, ⟨#[]⟩, []⟩
def attOut (o : Option Att) : AE × St := match o with
  | none => (.exit 0, ⟨[(6, .ref (7, 0) 0), (7, bool false)], [((7, 0), .cells [int 0, int 0, str ⟨#[]⟩, .p (.s nilS)])]⟩)
  | some a => (.ret, ⟨[(6, .ref (7, 0) 0), (7, bool true)], [((7, 0), .cells (a.value.row.map .p))]⟩)
theorem lookup_loop (l : List Att) (nm : ByteArray) (hl : l.length ≤ 2 ^ 62) (hok : ∀ a ∈ l, a.value.list.length ≤ 2 ^ 30) : ∀ (suf pre : List Att), l = pre ++ suf →
    EvCode cx (EvCall cx) (.loop (loopBody Tryz.f166 0)) ⟨[(2, str nm), (6, .ref (7, 0) 0), (7, bool false), (29, sl (l.map Att.row)), (30, int l.length), (31, int pre.length)], [((7, 0), .cells [int 0, int 0, str ⟨#[]⟩, .p (.s nilS)])]⟩
      (attOut (suf.find? fun a => eqS a.name nm)).1 (attOut (suf.find? fun a => eqS a.name nm)).2
  | [], pre, h => by
    have hq : pre.length = l.length := by rw [h]; simp
    have hge : ¬ (pre.length : Int) < (l.length : Int) := by omega
    simp only [List.find?_nil, attOut]
    exact EvCode.out [F, .same] [(6 : Nat), (7 : Nat)] [((7 : Nat), (0 : Nat))] (.cons (vb (by simp; omega : decide ((↑pre.length : Int) < (↑l.length : Int)) = false)) .nil) (AE.ne_exit _) (by kernel_rfl)
  | a :: r, pre, h => by
    have hlt : pre.length < l.length := by rw [h]; simp
    have hrow : rowI (l.map Att.row) (pre.length : Int) = some a.row := by
      apply rowI_at
      simp only [List.getElem?_map, get_of_split h, Option.map_some]
    simp only [List.find?_cons]
    cases hb : eqS a.name nm with
    | true =>
      have hc := cloneV91 a.value (hok a (by rw [h]; simp))
      simp only [attOut]
      exact EvCode.out [T, .same, .row (a.row), .same, T, .same, .val, .call (ag a.value.row) ([])] [(6 : Nat), (7 : Nat)] [((7 : Nat), (0 : Nat))] (.cons (vb (by simp; omega : decide ((↑pre.length : Int) < (↑l.length : Int)) = true)) (.cons hrow (.cons (vb hb) (.cons hc .nil)))) AE.ne_ret (by kernel_rfl)
    | false =>
      have ih := lookup_loop l nm hl hok r (pre ++ [a]) (by simp [h])
      simp only [List.length_append, List.length_singleton] at ih
      generalize attOut (List.find? (fun a => eqS a.name nm) r) = o at ih ⊢
      exact EvCode.round [T, .same, .row (a.row), .same, F, .same, .v (.int .i64 ((pre.length + (1 : Nat) : Nat) : Int))] [(2 : Nat), (6 : Nat), (7 : Nat), (29 : Nat), (30 : Nat), (31 : Nat)] [((7 : Nat), (0 : Nat))] (.cons (vb (by simp; omega : decide ((↑pre.length : Int) < (↑l.length : Int)) = true)) (.cons hrow (.cons (vb hb) (.cons (natVi64 (by omega) (by omega) (by omega) : Value.int .i64 (IntKind.i64.wrap ((↑pre.length : Int) + (1 : Int))) = .int .i64 ((pre.length + (1 : Nat) : Nat) : Int)) .nil)))) (by kernel_rfl) ih
def lookupA (c : Ctx) (nm : ByteArray) : Val × Bool := match c.atts.find? fun a => eqS a.name nm with
  | some a => (a.value, true)
  | none => (zeroV, false)
def lookupS (s : List Ctx) (kd nm : ByteArray) : Val × Bool := match s.find? fun c => eqS c.kind kd with
  | none => (zeroV, false)
  | some c => bif eqS nm ⟨#[107, 101, 121]⟩ then (⟨3, 0, c.key, []⟩, true) else lookupA c nm
theorem lookup166 (s : List Ctx) (kd nm : ByteArray) (hs : s.length ≤ 2 ^ 62) (hok : ∀ c ∈ s, c.Ok) :
    EvCall cx 166 [.agg [sl (s.map Ctx.row)], str kd, str nm] [] (.tup [ag (lookupS s kd nm).1.row, bool (lookupS s kd nm).2]) [] := by
  have hi := index121 s kd hs
  have hf := idxS_find (fun c => eqS c.kind kd) s 0
  unfold lookupS
  split at hf
  · rename_i he
    rw [he] at hi
    simp only [idxI] at hi
    rw [hf]
    have hn : (-1 : Int) < 0 := by omega
    exact EvCall.run Tryz.f166 Tryz.func166 Tryz.call166 [.val, .call (int (-1 : Int)) ([]), .same, .same, .val] (.cons hi .nil) (by kernel_rfl)
  · rename_i j he
    rw [he] at hi
    simp only [idxI] at hi
    obtain ⟨_, c, h2, h3⟩ := hf
    rw [h3]
    simp only [Nat.sub_zero] at h2
    have hrow : rowI (s.map Ctx.row) (j : Int) = some c.row := by
      apply rowI_at
      simp only [List.getElem?_map, h2, Option.map_some]
    have hneg : ¬ (j : Int) < 0 := by omega
    have hc := hok c (List.mem_of_getElem? h2)
    have hlp := lookup_loop c.atts nm (by have := hc.len; omega) hc.lists c.atts [] rfl
    simp only [List.length_nil] at hlp
    have e1 : ((c.atts.length : Nat) : Int) = (((c.atts.map Att.row).length : Nat) : Int) := by simp
    rw [e1] at hlp
    cases hb : eqS nm ⟨#[107, 101, 121]⟩ with
    | true =>
      simp only [cond_true]
      exact EvCall.run Tryz.f166 Tryz.func166 Tryz.call166 [.val, .call (int (↑j : Int)) ([]), .same, .same, .row (c.row), .same, T, .same, .val] (.cons hi (.cons hrow (.cons (vb hb) .nil))) (by kernel_rfl)
    | false =>
      simp only [cond_false]
      unfold lookupA
      cases hfa : c.atts.find? fun a => eqS a.name nm with
      | none =>
        rw [hfa] at hlp
        simp only [attOut] at hlp
        exact EvCall.run Tryz.f166 Tryz.func166 Tryz.call166 [.val, .call (int (↑j : Int)) ([]), .same, .same, .row (c.row), .same, F, .same, .loop [(2 : Nat), (6 : Nat), (7 : Nat), (29 : Nat), (30 : Nat), (31 : Nat)] [((7 : Nat), (0 : Nat))] (AE.exit (0 : Nat)) ({ e := [((6 : Nat), AV.ref ((7 : Nat), (0 : Nat)) (0 : Nat)), ((7 : Nat), AV.p (PV.s (Value.bool false)))], s := [(((7 : Nat), (0 : Nat)), AO.cells [AV.p (PV.s (Value.int IntKind.i64 (0 : Int))), AV.p (PV.s (Value.int IntKind.i64 (0 : Int))), AV.p (PV.s (Value.string { data := #[] })), AV.p (PV.s (Value.slice none (0 : Nat) (0 : Nat)))])] }), .val] (.cons hi (.cons hrow (.cons (vb hb) (.cons hlp .nil)))) (by kernel_rfl)
      | some a =>
        rw [hfa] at hlp
        simp only [attOut] at hlp
        exact EvCall.as (r := AV.tup [AV.agg [AV.p (PV.s (Value.int IntKind.i64 a.value.kind)), AV.p (PV.s (Value.int IntKind.i64 a.value.number)), AV.p (PV.s (Value.string a.value.text)), AV.p (PV.sl (strs a.value.list))], AV.p (PV.s (Value.bool true))]) (H' := []) (EvCall.run Tryz.f166 Tryz.func166 Tryz.call166 [.val, .call (int (↑j : Int)) ([]), .same, .same, .row (c.row), .same, F, .same, .loop [(2 : Nat), (6 : Nat), (7 : Nat), (29 : Nat), (30 : Nat), (31 : Nat)] [((7 : Nat), (0 : Nat))] (AE.ret) ({ e := [((6 : Nat), AV.ref ((7 : Nat), (0 : Nat)) (0 : Nat)), ((7 : Nat), AV.p (PV.s (Value.bool true)))], s := [(((7 : Nat), (0 : Nat)), AO.cells [AV.p (PV.s (Value.int IntKind.i64 a.value.kind)), AV.p (PV.s (Value.int IntKind.i64 a.value.number)), AV.p (PV.s (Value.string a.value.text)), AV.p (PV.sl (strs a.value.list))])] }), .val] (.cons hi (.cons hrow (.cons (vb hb) (.cons hlp .nil)))) (by kernel_rfl)) rfl rfl
end Go.Proofs.YtbdnigendhhndaaGreatDoor
end
section
/- clause.Test answers at drawn conditions and subjects. -/
namespace Go.Proofs.YtbdnigendhhndaaGreatDoor
open Go Go.Ev
set_option maxRecDepth 100000

theorem dvals_small {v : Val} (h : v ∈ dvals) : v.text.size ≤ 100 ∧ v.list.length ≤ 100 := by
  have ha : (dvals.all fun v => Nat.ble v.text.size 100 && Nat.ble v.list.length 100) = true := by kernel_rfl
  rw [List.all_eq_true] at ha
  have := ha v h
  simp only [Bool.and_eq_true] at this
  exact ⟨Nat.le_of_ble_eq_true this.1, Nat.le_of_ble_eq_true this.2⟩
theorem lookup_dr {s : List Ctx} (hs : ∀ c ∈ s, DrC c) (kd nm : ByteArray) (h : (lookupS s kd nm).2 = true) : (lookupS s kd nm).1 ∈ dvals := by
  unfold lookupS at h ⊢
  split at h
  · cases h
  · rename_i c hc
    have hm := hs c (List.mem_of_find?_eq_some hc)
    cases hb : eqS nm ⟨#[107, 101, 121]⟩ with
    | true =>
      simp only [cond_true]
      simp [dvals, hm.key]
    | false =>
      rw [hb] at h
      simp only [cond_false] at h ⊢
      unfold lookupA at h ⊢
      split at h
      · rename_i a ha
        exact hm.vals a (List.mem_of_find?_eq_some ha)
      · cases h
theorem test168 (v w : Val) (hv : v.list.length ≤ 2 ^ 62) : EvCall cx 168 [ag w.row, .ref (0, 0) 0] [.cells (v.row.map .p)] (bool (eqV v w)) [.cells (v.row.map .p)] := by
  have h := equal169 v w hv
  exact EvCall.run Tryz.f168 Tryz.func168 Tryz.call168 [.val, .call (Ev.bool (eqV v w)) ([]), .val] (.cons h .nil) (by kernel_rfl)
theorem contains172 (s t : ByteArray) (hs : s.size < 4294967281) : EvCall cx 172 [str s, str t] [] (bool (Lib.contains s.data.toList t.data.toList)) [] := EvCall.prim2 (.contains s t hs)
def TestIs (s : List Ctx) (e : Exp) (b : Bool) : Prop := EvCall cx 125 [.agg [sl (s.map Ctx.row)], ag e.row] [] (bool b) []
/-- What two values come to by an operation (but has, in). -/
noncomputable def opF (o : Int) (v w : Val) : Bool :=
  bif o == 7 then eqV v w else bif o == 9 then v.kind == 3 && (w.kind == 3 && hasPre v.text w.text) else bif o == 10 then v.kind == 3 && (w.kind == 3 && hasSuf v.text w.text) else
  bif o == 11 then v.kind == 3 && (w.kind == 3 && Lib.contains v.text.data.toList w.text.data.toList) || (w.kind == 3 && (v.kind == 5 && v.list.any fun u => w.text.toList == u.toList)) else
  bif (cmpV v w).2 != 0 then false else bif o == 12 then decide ((cmpV v w).1 < 0) else bif o == 13 then decide ((cmpV v w).1 ≤ 0) else bif o == 14 then decide ((cmpV v w).1 > 0) else decide ((cmpV v w).1 ≥ 0)
noncomputable def valsF (o : Int) (v : Val) (vs : List Val) : Bool :=
  bif o == 6 then true else bif o == 8 then vs.any (fun w => eqV v w) else match vs with
    | [] => false
    | w :: _ => opF o v w
/-- What clause.Test answers at drawn values. -/
noncomputable def testF (s : List Ctx) (e : Exp) : Bool :=
  bif (lookupS s e.kind e.name).2 then bif isTest e.op then valsF e.op (lookupS s e.kind e.name).1 e.values else false else false
def TestAns (s : List Ctx) (e : Exp) : Prop := EvCall cx 125 [.agg [sl (s.map Ctx.row)], ag e.row] [] (bool (testF s e)) []
theorem TestAns.of {s : List Ctx} {e : Exp} {b : Bool} (h : testF s e = b) (hc : EvCall cx 125 [.agg [sl (s.map Ctx.row)], ag e.row] [] (bool b) []) : TestAns s e := by unfold TestAns; rw [h]; exact hc
theorem test_cmp (s : List Ctx) (hok : ∀ c ∈ s, c.Ok) (hl : s.length ≤ 2) (o : Int) (kd nm : ByteArray) (w : Val) (rest : List Val) (ks : List Exp) (v : Val) (hlk : lookupS s kd nm = (v, true)) (hv : v ∈ dvals) (hw : w ∈ dvals)
    (b0 : isTest o = true) (b6 : (o == 6) = false) (b8 : (o == 8) = false) (h7 : (o == 7) = false) (h9 : (o == 9) = false) (h10 : (o == 10) = false) (h11 : (o == 11) = false) : TestAns s (.mk o kd nm (w :: rest) ks) := by
  have hl2 := lookup166 s kd nm (by omega) hok
  rw [hlk] at hl2
  dsimp only at hl2
  have ht := test86 o
  rw [b0] at ht
  have hc := compare173 v w hv hw
  generalize hcv : cmpV v w = q at hc
  obtain ⟨c, x⟩ := q
  simp only at hc
  cases k1 : v.kind == 3 with
  | true =>
    cases k2 : w.kind == 3 with
    | true =>
      cases x0 : x != 0 with
      | true => exact TestAns.of (b := false) (by simp only [testF, valsF, opF, Exp.op, Exp.kind, Exp.name, Exp.values, hlk, b0, b6, b8, h7, h9, h10, h11, hcv, x0, cond_true, cond_false]) (by exact EvCall.run Tryz.f125 Tryz.func125 Tryz.call125 [.val, .call (AV.tup [ag v.row, Ev.bool true]) ([]), .same, .same, .same, .same, .val, .call (Ev.bool true) ([]), .same, .same, .same, .same, F, .same, F, .same, .same, .same, .same, .same, T, .same, .same, .same, T, .same, F, .same, F, .same, F, .same, F, .same, .val, .call (AV.tup [int c, int x]) ([]), T, .same, .val] (.cons hl2 (.cons ht (.cons (vb b6) (.cons (vb b8) (.cons (vb k1) (.cons (vb k2) (.cons (vb h7) (.cons (vb h9) (.cons (vb h10) (.cons (vb h11) (.cons hc (.cons (vb x0) .nil)))))))))))) (by kernel_rfl))
      | false =>
        cases o1 : o == 12 with
        | true => exact TestAns.of (b := decide (c < 0)) (by simp only [testF, valsF, opF, Exp.op, Exp.kind, Exp.name, Exp.values, hlk, b0, b6, b8, h7, h9, h10, h11, hcv, x0, cond_true, cond_false, o1]) (by exact EvCall.run Tryz.f125 Tryz.func125 Tryz.call125 [.val, .call (AV.tup [ag v.row, Ev.bool true]) ([]), .same, .same, .same, .same, .val, .call (Ev.bool true) ([]), .same, .same, .same, .same, F, .same, F, .same, .same, .same, .same, .same, T, .same, .same, .same, T, .same, F, .same, F, .same, F, .same, F, .same, .val, .call (AV.tup [int c, int x]) ([]), F, .same, T, .same, .same, .val] (.cons hl2 (.cons ht (.cons (vb b6) (.cons (vb b8) (.cons (vb k1) (.cons (vb k2) (.cons (vb h7) (.cons (vb h9) (.cons (vb h10) (.cons (vb h11) (.cons hc (.cons (vb x0) (.cons (vb o1) .nil))))))))))))) (by kernel_rfl))
        | false =>
          cases o2 : o == 13 with
          | true => exact TestAns.of (b := decide (c ≤ 0)) (by simp only [testF, valsF, opF, Exp.op, Exp.kind, Exp.name, Exp.values, hlk, b0, b6, b8, h7, h9, h10, h11, hcv, x0, cond_true, cond_false, o1, o2]) (by exact EvCall.run Tryz.f125 Tryz.func125 Tryz.call125 [.val, .call (AV.tup [ag v.row, Ev.bool true]) ([]), .same, .same, .same, .same, .val, .call (Ev.bool true) ([]), .same, .same, .same, .same, F, .same, F, .same, .same, .same, .same, .same, T, .same, .same, .same, T, .same, F, .same, F, .same, F, .same, F, .same, .val, .call (AV.tup [int c, int x]) ([]), F, .same, F, .same, T, .same, .same, .val] (.cons hl2 (.cons ht (.cons (vb b6) (.cons (vb b8) (.cons (vb k1) (.cons (vb k2) (.cons (vb h7) (.cons (vb h9) (.cons (vb h10) (.cons (vb h11) (.cons hc (.cons (vb x0) (.cons (vb o1) (.cons (vb o2) .nil)))))))))))))) (by kernel_rfl))
          | false =>
            cases o3 : o == 14 with
            | true => exact TestAns.of (b := decide (c > 0)) (by simp only [testF, valsF, opF, Exp.op, Exp.kind, Exp.name, Exp.values, hlk, b0, b6, b8, h7, h9, h10, h11, hcv, x0, cond_true, cond_false, o1, o2, o3]) (by exact EvCall.run Tryz.f125 Tryz.func125 Tryz.call125 [.val, .call (AV.tup [ag v.row, Ev.bool true]) ([]), .same, .same, .same, .same, .val, .call (Ev.bool true) ([]), .same, .same, .same, .same, F, .same, F, .same, .same, .same, .same, .same, T, .same, .same, .same, T, .same, F, .same, F, .same, F, .same, F, .same, .val, .call (AV.tup [int c, int x]) ([]), F, .same, F, .same, F, .same, T, .same, .same, .val] (.cons hl2 (.cons ht (.cons (vb b6) (.cons (vb b8) (.cons (vb k1) (.cons (vb k2) (.cons (vb h7) (.cons (vb h9) (.cons (vb h10) (.cons (vb h11) (.cons hc (.cons (vb x0) (.cons (vb o1) (.cons (vb o2) (.cons (vb o3) .nil))))))))))))))) (by kernel_rfl))
            | false => exact TestAns.of (b := decide (c ≥ 0)) (by simp only [testF, valsF, opF, Exp.op, Exp.kind, Exp.name, Exp.values, hlk, b0, b6, b8, h7, h9, h10, h11, hcv, x0, cond_true, cond_false, o1, o2, o3]) (by exact EvCall.run Tryz.f125 Tryz.func125 Tryz.call125 [.val, .call (AV.tup [ag v.row, Ev.bool true]) ([]), .same, .same, .same, .same, .val, .call (Ev.bool true) ([]), .same, .same, .same, .same, F, .same, F, .same, .same, .same, .same, .same, T, .same, .same, .same, T, .same, F, .same, F, .same, F, .same, F, .same, .val, .call (AV.tup [int c, int x]) ([]), F, .same, F, .same, F, .same, F, .same, .same, .val] (.cons hl2 (.cons ht (.cons (vb b6) (.cons (vb b8) (.cons (vb k1) (.cons (vb k2) (.cons (vb h7) (.cons (vb h9) (.cons (vb h10) (.cons (vb h11) (.cons hc (.cons (vb x0) (.cons (vb o1) (.cons (vb o2) (.cons (vb o3) .nil))))))))))))))) (by kernel_rfl))
    | false =>
      cases x0 : x != 0 with
      | true => exact TestAns.of (b := false) (by simp only [testF, valsF, opF, Exp.op, Exp.kind, Exp.name, Exp.values, hlk, b0, b6, b8, h7, h9, h10, h11, hcv, x0, cond_true, cond_false]) (by exact EvCall.run Tryz.f125 Tryz.func125 Tryz.call125 [.val, .call (AV.tup [ag v.row, Ev.bool true]) ([]), .same, .same, .same, .same, .val, .call (Ev.bool true) ([]), .same, .same, .same, .same, F, .same, F, .same, .same, .same, .same, .same, T, .same, .same, .same, F, .same, F, .same, F, .same, F, .same, F, .same, .val, .call (AV.tup [int c, int x]) ([]), T, .same, .val] (.cons hl2 (.cons ht (.cons (vb b6) (.cons (vb b8) (.cons (vb k1) (.cons (vb k2) (.cons (vb h7) (.cons (vb h9) (.cons (vb h10) (.cons (vb h11) (.cons hc (.cons (vb x0) .nil)))))))))))) (by kernel_rfl))
      | false =>
        cases o1 : o == 12 with
        | true => exact TestAns.of (b := decide (c < 0)) (by simp only [testF, valsF, opF, Exp.op, Exp.kind, Exp.name, Exp.values, hlk, b0, b6, b8, h7, h9, h10, h11, hcv, x0, cond_true, cond_false, o1]) (by exact EvCall.run Tryz.f125 Tryz.func125 Tryz.call125 [.val, .call (AV.tup [ag v.row, Ev.bool true]) ([]), .same, .same, .same, .same, .val, .call (Ev.bool true) ([]), .same, .same, .same, .same, F, .same, F, .same, .same, .same, .same, .same, T, .same, .same, .same, F, .same, F, .same, F, .same, F, .same, F, .same, .val, .call (AV.tup [int c, int x]) ([]), F, .same, T, .same, .same, .val] (.cons hl2 (.cons ht (.cons (vb b6) (.cons (vb b8) (.cons (vb k1) (.cons (vb k2) (.cons (vb h7) (.cons (vb h9) (.cons (vb h10) (.cons (vb h11) (.cons hc (.cons (vb x0) (.cons (vb o1) .nil))))))))))))) (by kernel_rfl))
        | false =>
          cases o2 : o == 13 with
          | true => exact TestAns.of (b := decide (c ≤ 0)) (by simp only [testF, valsF, opF, Exp.op, Exp.kind, Exp.name, Exp.values, hlk, b0, b6, b8, h7, h9, h10, h11, hcv, x0, cond_true, cond_false, o1, o2]) (by exact EvCall.run Tryz.f125 Tryz.func125 Tryz.call125 [.val, .call (AV.tup [ag v.row, Ev.bool true]) ([]), .same, .same, .same, .same, .val, .call (Ev.bool true) ([]), .same, .same, .same, .same, F, .same, F, .same, .same, .same, .same, .same, T, .same, .same, .same, F, .same, F, .same, F, .same, F, .same, F, .same, .val, .call (AV.tup [int c, int x]) ([]), F, .same, F, .same, T, .same, .same, .val] (.cons hl2 (.cons ht (.cons (vb b6) (.cons (vb b8) (.cons (vb k1) (.cons (vb k2) (.cons (vb h7) (.cons (vb h9) (.cons (vb h10) (.cons (vb h11) (.cons hc (.cons (vb x0) (.cons (vb o1) (.cons (vb o2) .nil)))))))))))))) (by kernel_rfl))
          | false =>
            cases o3 : o == 14 with
            | true => exact TestAns.of (b := decide (c > 0)) (by simp only [testF, valsF, opF, Exp.op, Exp.kind, Exp.name, Exp.values, hlk, b0, b6, b8, h7, h9, h10, h11, hcv, x0, cond_true, cond_false, o1, o2, o3]) (by exact EvCall.run Tryz.f125 Tryz.func125 Tryz.call125 [.val, .call (AV.tup [ag v.row, Ev.bool true]) ([]), .same, .same, .same, .same, .val, .call (Ev.bool true) ([]), .same, .same, .same, .same, F, .same, F, .same, .same, .same, .same, .same, T, .same, .same, .same, F, .same, F, .same, F, .same, F, .same, F, .same, .val, .call (AV.tup [int c, int x]) ([]), F, .same, F, .same, F, .same, T, .same, .same, .val] (.cons hl2 (.cons ht (.cons (vb b6) (.cons (vb b8) (.cons (vb k1) (.cons (vb k2) (.cons (vb h7) (.cons (vb h9) (.cons (vb h10) (.cons (vb h11) (.cons hc (.cons (vb x0) (.cons (vb o1) (.cons (vb o2) (.cons (vb o3) .nil))))))))))))))) (by kernel_rfl))
            | false => exact TestAns.of (b := decide (c ≥ 0)) (by simp only [testF, valsF, opF, Exp.op, Exp.kind, Exp.name, Exp.values, hlk, b0, b6, b8, h7, h9, h10, h11, hcv, x0, cond_true, cond_false, o1, o2, o3]) (by exact EvCall.run Tryz.f125 Tryz.func125 Tryz.call125 [.val, .call (AV.tup [ag v.row, Ev.bool true]) ([]), .same, .same, .same, .same, .val, .call (Ev.bool true) ([]), .same, .same, .same, .same, F, .same, F, .same, .same, .same, .same, .same, T, .same, .same, .same, F, .same, F, .same, F, .same, F, .same, F, .same, .val, .call (AV.tup [int c, int x]) ([]), F, .same, F, .same, F, .same, F, .same, .same, .val] (.cons hl2 (.cons ht (.cons (vb b6) (.cons (vb b8) (.cons (vb k1) (.cons (vb k2) (.cons (vb h7) (.cons (vb h9) (.cons (vb h10) (.cons (vb h11) (.cons hc (.cons (vb x0) (.cons (vb o1) (.cons (vb o2) (.cons (vb o3) .nil))))))))))))))) (by kernel_rfl))
  | false =>
    cases x0 : x != 0 with
    | true => exact TestAns.of (b := false) (by simp only [testF, valsF, opF, Exp.op, Exp.kind, Exp.name, Exp.values, hlk, b0, b6, b8, h7, h9, h10, h11, hcv, x0, cond_true, cond_false]) (by exact EvCall.run Tryz.f125 Tryz.func125 Tryz.call125 [.val, .call (AV.tup [ag v.row, Ev.bool true]) ([]), .same, .same, .same, .same, .val, .call (Ev.bool true) ([]), .same, .same, .same, .same, F, .same, F, .same, .same, .same, .same, .same, F, .same, .same, .same, .same, F, .same, F, .same, F, .same, F, .same, .val, .call (AV.tup [int c, int x]) ([]), T, .same, .val] (.cons hl2 (.cons ht (.cons (vb b6) (.cons (vb b8) (.cons (vb k1) (.cons (vb h7) (.cons (vb h9) (.cons (vb h10) (.cons (vb h11) (.cons hc (.cons (vb x0) .nil))))))))))) (by kernel_rfl))
    | false =>
      cases o1 : o == 12 with
      | true => exact TestAns.of (b := decide (c < 0)) (by simp only [testF, valsF, opF, Exp.op, Exp.kind, Exp.name, Exp.values, hlk, b0, b6, b8, h7, h9, h10, h11, hcv, x0, cond_true, cond_false, o1]) (by exact EvCall.run Tryz.f125 Tryz.func125 Tryz.call125 [.val, .call (AV.tup [ag v.row, Ev.bool true]) ([]), .same, .same, .same, .same, .val, .call (Ev.bool true) ([]), .same, .same, .same, .same, F, .same, F, .same, .same, .same, .same, .same, F, .same, .same, .same, .same, F, .same, F, .same, F, .same, F, .same, .val, .call (AV.tup [int c, int x]) ([]), F, .same, T, .same, .same, .val] (.cons hl2 (.cons ht (.cons (vb b6) (.cons (vb b8) (.cons (vb k1) (.cons (vb h7) (.cons (vb h9) (.cons (vb h10) (.cons (vb h11) (.cons hc (.cons (vb x0) (.cons (vb o1) .nil)))))))))))) (by kernel_rfl))
      | false =>
        cases o2 : o == 13 with
        | true => exact TestAns.of (b := decide (c ≤ 0)) (by simp only [testF, valsF, opF, Exp.op, Exp.kind, Exp.name, Exp.values, hlk, b0, b6, b8, h7, h9, h10, h11, hcv, x0, cond_true, cond_false, o1, o2]) (by exact EvCall.run Tryz.f125 Tryz.func125 Tryz.call125 [.val, .call (AV.tup [ag v.row, Ev.bool true]) ([]), .same, .same, .same, .same, .val, .call (Ev.bool true) ([]), .same, .same, .same, .same, F, .same, F, .same, .same, .same, .same, .same, F, .same, .same, .same, .same, F, .same, F, .same, F, .same, F, .same, .val, .call (AV.tup [int c, int x]) ([]), F, .same, F, .same, T, .same, .same, .val] (.cons hl2 (.cons ht (.cons (vb b6) (.cons (vb b8) (.cons (vb k1) (.cons (vb h7) (.cons (vb h9) (.cons (vb h10) (.cons (vb h11) (.cons hc (.cons (vb x0) (.cons (vb o1) (.cons (vb o2) .nil))))))))))))) (by kernel_rfl))
        | false =>
          cases o3 : o == 14 with
          | true => exact TestAns.of (b := decide (c > 0)) (by simp only [testF, valsF, opF, Exp.op, Exp.kind, Exp.name, Exp.values, hlk, b0, b6, b8, h7, h9, h10, h11, hcv, x0, cond_true, cond_false, o1, o2, o3]) (by exact EvCall.run Tryz.f125 Tryz.func125 Tryz.call125 [.val, .call (AV.tup [ag v.row, Ev.bool true]) ([]), .same, .same, .same, .same, .val, .call (Ev.bool true) ([]), .same, .same, .same, .same, F, .same, F, .same, .same, .same, .same, .same, F, .same, .same, .same, .same, F, .same, F, .same, F, .same, F, .same, .val, .call (AV.tup [int c, int x]) ([]), F, .same, F, .same, F, .same, T, .same, .same, .val] (.cons hl2 (.cons ht (.cons (vb b6) (.cons (vb b8) (.cons (vb k1) (.cons (vb h7) (.cons (vb h9) (.cons (vb h10) (.cons (vb h11) (.cons hc (.cons (vb x0) (.cons (vb o1) (.cons (vb o2) (.cons (vb o3) .nil)))))))))))))) (by kernel_rfl))
          | false => exact TestAns.of (b := decide (c ≥ 0)) (by simp only [testF, valsF, opF, Exp.op, Exp.kind, Exp.name, Exp.values, hlk, b0, b6, b8, h7, h9, h10, h11, hcv, x0, cond_true, cond_false, o1, o2, o3]) (by exact EvCall.run Tryz.f125 Tryz.func125 Tryz.call125 [.val, .call (AV.tup [ag v.row, Ev.bool true]) ([]), .same, .same, .same, .same, .val, .call (Ev.bool true) ([]), .same, .same, .same, .same, F, .same, F, .same, .same, .same, .same, .same, F, .same, .same, .same, .same, F, .same, F, .same, F, .same, F, .same, .val, .call (AV.tup [int c, int x]) ([]), F, .same, F, .same, F, .same, F, .same, .same, .val] (.cons hl2 (.cons ht (.cons (vb b6) (.cons (vb b8) (.cons (vb k1) (.cons (vb h7) (.cons (vb h9) (.cons (vb h10) (.cons (vb h11) (.cons hc (.cons (vb x0) (.cons (vb o1) (.cons (vb o2) (.cons (vb o3) .nil)))))))))))))) (by kernel_rfl))
end Go.Proofs.YtbdnigendhhndaaGreatDoor
end
section
/- clause.Test answers: the other operations. -/
namespace Go.Proofs.YtbdnigendhhndaaGreatDoor
open Go Go.Ev
set_option maxRecDepth 100000

theorem test_no (s : List Ctx) (hok : ∀ c ∈ s, c.Ok) (hl : s.length ≤ 2) (e : Exp) (v : Val) (h : lookupS s e.kind e.name = (v, false)) : TestAns s e := by
  have hlk := lookup166 s e.kind e.name (by omega) hok
  rw [h] at hlk
  dsimp only at hlk
  exact TestAns.of (b := false) (by simp only [testF, valsF, h, cond_true, cond_false]) (by exact EvCall.run Tryz.f125 Tryz.func125 Tryz.call125 [.val, .call (AV.tup [ag v.row, Ev.bool false]) ([]), .same, .same, .same, .same, .same, .same, .same, .val] (.cons hlk .nil) (by kernel_rfl))
theorem test_op (s : List Ctx) (hok : ∀ c ∈ s, c.Ok) (hl : s.length ≤ 2) (e : Exp) (v : Val) (h : lookupS s e.kind e.name = (v, true)) (b0 : isTest e.op = false) : TestAns s e := by
  have hlk := lookup166 s e.kind e.name (by omega) hok
  rw [h] at hlk
  dsimp only at hlk
  have ht := test86 e.op
  rw [b0] at ht
  exact TestAns.of (b := false) (by simp only [testF, valsF, h, b0, cond_true, cond_false]) (by exact EvCall.run Tryz.f125 Tryz.func125 Tryz.call125 [.val, .call (AV.tup [ag v.row, Ev.bool true]) ([]), .same, .same, .same, .same, .val, .call (Ev.bool false) ([]), .same, .same, .same, .same, .val] (.cons hlk (.cons ht .nil)) (by kernel_rfl))
theorem test_has (s : List Ctx) (hok : ∀ c ∈ s, c.Ok) (hl : s.length ≤ 2) (e : Exp) (v : Val) (h : lookupS s e.kind e.name = (v, true)) (b0 : isTest e.op = true) (b6 : (e.op == 6) = true) : TestAns s e := by
  have hlk := lookup166 s e.kind e.name (by omega) hok
  rw [h] at hlk
  dsimp only at hlk
  have ht := test86 e.op
  rw [b0] at ht
  exact TestAns.of (b := true) (by simp only [testF, valsF, h, b0, b6, cond_true, cond_false]) (by exact EvCall.run Tryz.f125 Tryz.func125 Tryz.call125 [.val, .call (AV.tup [ag v.row, Ev.bool true]) ([]), .same, .same, .same, .same, .val, .call (Ev.bool true) ([]), .same, .same, .same, .same, T, .same, .val] (.cons hlk (.cons ht (.cons (vb b6) .nil))) (by kernel_rfl))
theorem test_in (s : List Ctx) (hok : ∀ c ∈ s, c.Ok) (hl : s.length ≤ 2) (e : Exp) (he : e.values.length ≤ 2 ^ 30) (v : Val) (hv : v ∈ dvals) (h : lookupS s e.kind e.name = (v, true)) (b0 : isTest e.op = true) (b6 : (e.op == 6) = false) (b8 : (e.op == 8) = true) : TestAns s e := by
  have hlk := lookup166 s e.kind e.name (by omega) hok
  rw [h] at hlk
  dsimp only at hlk
  have ht := test86 e.op
  rw [b0] at ht
  have hvs := dvals_small hv
  have hany := any167v 168 (fun w => eqV v w) v e.values (by omega) fun w _ => test168 v w (by omega)
  exact TestAns.of (b := e.values.any fun w => eqV v w) (by simp only [testF, valsF, h, b0, b6, b8, cond_true, cond_false]) (by exact EvCall.run Tryz.f125 Tryz.func125 Tryz.call125 [.val, .call (AV.tup [ag v.row, Ev.bool true]) ([]), .same, .same, .same, .same, .val, .call (Ev.bool true) ([]), .same, .same, .same, .same, F, .same, T, .same, .val, .call (Ev.bool (e.values.any fun (w : Val) => eqV v w)) ([AO.cells (List.map AV.p v.row)]), .val] (.cons hlk (.cons ht (.cons (vb b6) (.cons (vb b8) (.cons hany .nil))))) (by kernel_rfl))
theorem test_nil (s : List Ctx) (hok : ∀ c ∈ s, c.Ok) (hl : s.length ≤ 2) (o : Int) (kd nm : ByteArray) (ks : List Exp) (v : Val) (h : lookupS s kd nm = (v, true)) (b0 : isTest o = true) (b6 : (o == 6) = false) (b8 : (o == 8) = false) : TestAns s (.mk o kd nm [] ks) := by
  have hlk := lookup166 s kd nm (by omega) hok
  rw [h] at hlk
  dsimp only at hlk
  have ht := test86 o
  rw [b0] at ht
  exact TestAns.of (b := false) (by simp only [testF, valsF, opF, Exp.op, Exp.kind, Exp.name, Exp.values, h, b0, b6, b8, cond_true, cond_false]) (by exact EvCall.run Tryz.f125 Tryz.func125 Tryz.call125 [.val, .call (AV.tup [ag v.row, Ev.bool true]) ([]), .same, .same, .same, .same, .val, .call (Ev.bool true) ([]), .same, .same, .same, .same, F, .same, F, .same, .same, .same, .val] (.cons hlk (.cons ht (.cons (vb b6) (.cons (vb b8) .nil)))) (by kernel_rfl))
end Go.Proofs.YtbdnigendhhndaaGreatDoor
end
section
/- clause.Test answers: equals. -/
namespace Go.Proofs.YtbdnigendhhndaaGreatDoor
open Go Go.Ev
set_option maxRecDepth 100000

theorem test_eq (s : List Ctx) (hok : ∀ c ∈ s, c.Ok) (hl : s.length ≤ 2) (o : Int) (kd nm : ByteArray) (w : Val) (rest : List Val) (ks : List Exp) (v : Val) (h : lookupS s kd nm = (v, true)) (hv : v ∈ dvals)
    (b0 : isTest o = true) (b6 : (o == 6) = false) (b8 : (o == 8) = false) (h7 : (o == 7) = true) : TestAns s (.mk o kd nm (w :: rest) ks) := by
  have hlk := lookup166 s kd nm (by omega) hok
  rw [h] at hlk
  dsimp only at hlk
  have ht := test86 o
  rw [b0] at ht
  have hvs := dvals_small hv
  have he := equal169 v w (by omega)
  cases k1 : v.kind == 3 with
  | true => exact TestAns.of (b := eqV v w) (by simp only [testF, valsF, opF, Exp.op, Exp.kind, Exp.name, Exp.values, h, b0, b6, b8, h7, cond_true, cond_false]) (by exact EvCall.run Tryz.f125 Tryz.func125 Tryz.call125 [.val, .call (AV.tup [ag v.row, Ev.bool true]) ([]), .same, .same, .same, .same, .val, .call (Ev.bool true) ([]), .same, .same, .same, .same, F, .same, F, .same, .same, .same, .same, .same, T, .same, .same, .same, .same, .same, T, .same, .val, .call (Ev.bool (eqV v w)) ([]), .val] (.cons hlk (.cons ht (.cons (vb b6) (.cons (vb b8) (.cons (vb k1) (.cons (vb h7) (.cons he .nil))))))) (by kernel_rfl))
  | false => exact TestAns.of (b := eqV v w) (by simp only [testF, valsF, opF, Exp.op, Exp.kind, Exp.name, Exp.values, h, b0, b6, b8, h7, cond_true, cond_false]) (by exact EvCall.run Tryz.f125 Tryz.func125 Tryz.call125 [.val, .call (AV.tup [ag v.row, Ev.bool true]) ([]), .same, .same, .same, .same, .val, .call (Ev.bool true) ([]), .same, .same, .same, .same, F, .same, F, .same, .same, .same, .same, .same, F, .same, .same, .same, .same, T, .same, .val, .call (Ev.bool (eqV v w)) ([]), .val] (.cons hlk (.cons ht (.cons (vb b6) (.cons (vb b8) (.cons (vb k1) (.cons (vb h7) (.cons he .nil))))))) (by kernel_rfl))
end Go.Proofs.YtbdnigendhhndaaGreatDoor
end
section
/- clause.Test answers: starts, ends. -/
namespace Go.Proofs.YtbdnigendhhndaaGreatDoor
open Go Go.Ev
set_option maxRecDepth 100000

theorem test_starts (s : List Ctx) (hok : ∀ c ∈ s, c.Ok) (hl : s.length ≤ 2) (o : Int) (kd nm : ByteArray) (w : Val) (rest : List Val) (ks : List Exp) (v : Val) (h : lookupS s kd nm = (v, true)) (hv : v ∈ dvals)
    (b0 : isTest o = true) (b6 : (o == 6) = false) (b8 : (o == 8) = false) (h7 : (o == 7) = false) (h9 : (o == 9) = true) : TestAns s (.mk o kd nm (w :: rest) ks) := by
  have hlk := lookup166 s kd nm (by omega) hok
  rw [h] at hlk
  dsimp only at hlk
  have ht := test86 o
  rw [b0] at ht
  have hvs := dvals_small hv
  have he := prefix170 v.text w.text (by omega)
  cases k1 : v.kind == 3 with
  | true =>
    cases k2 : w.kind == 3 with
    | true => exact TestAns.of (b := hasPre v.text w.text) (by simp only [testF, valsF, opF, Exp.op, Exp.kind, Exp.name, Exp.values, h, b0, b6, b8, h7, h9, k1, k2, Bool.true_and, Bool.false_and, Bool.and_false, cond_true, cond_false]) (by exact EvCall.run Tryz.f125 Tryz.func125 Tryz.call125 [.val, .call (AV.tup [ag v.row, Ev.bool true]) ([]), .same, .same, .same, .same, .val, .call (Ev.bool true) ([]), .same, .same, .same, .same, F, .same, F, .same, .same, .same, .same, .same, T, .same, .same, .same, T, .same, F, .same, T, .same, .same, .same, .same, .same, .same, .val, .call (Ev.bool (hasPre v.text w.text)) ([]), .same, .val] (.cons hlk (.cons ht (.cons (vb b6) (.cons (vb b8) (.cons (vb k1) (.cons (vb k2) (.cons (vb h7) (.cons (vb h9) (.cons he .nil))))))))) (by kernel_rfl))
    | false => exact TestAns.of (b := false) (by simp only [testF, valsF, opF, Exp.op, Exp.kind, Exp.name, Exp.values, h, b0, b6, b8, h7, h9, k1, k2, Bool.true_and, Bool.false_and, Bool.and_false, cond_true, cond_false]) (by exact EvCall.run Tryz.f125 Tryz.func125 Tryz.call125 [.val, .call (AV.tup [ag v.row, Ev.bool true]) ([]), .same, .same, .same, .same, .val, .call (Ev.bool true) ([]), .same, .same, .same, .same, F, .same, F, .same, .same, .same, .same, .same, T, .same, .same, .same, F, .same, F, .same, T, .same, .same, .same, .same, .same, .same, .same, .val] (.cons hlk (.cons ht (.cons (vb b6) (.cons (vb b8) (.cons (vb k1) (.cons (vb k2) (.cons (vb h7) (.cons (vb h9) .nil)))))))) (by kernel_rfl))
  | false => exact TestAns.of (b := false) (by simp only [testF, valsF, opF, Exp.op, Exp.kind, Exp.name, Exp.values, h, b0, b6, b8, h7, h9, k1, Bool.true_and, Bool.false_and, Bool.and_false, cond_true, cond_false]) (by exact EvCall.run Tryz.f125 Tryz.func125 Tryz.call125 [.val, .call (AV.tup [ag v.row, Ev.bool true]) ([]), .same, .same, .same, .same, .val, .call (Ev.bool true) ([]), .same, .same, .same, .same, F, .same, F, .same, .same, .same, .same, .same, F, .same, .same, .same, .same, F, .same, T, .same, .same, .same, .same, .same, .same, .same, .val] (.cons hlk (.cons ht (.cons (vb b6) (.cons (vb b8) (.cons (vb k1) (.cons (vb h7) (.cons (vb h9) .nil))))))) (by kernel_rfl))
theorem test_ends (s : List Ctx) (hok : ∀ c ∈ s, c.Ok) (hl : s.length ≤ 2) (o : Int) (kd nm : ByteArray) (w : Val) (rest : List Val) (ks : List Exp) (v : Val) (h : lookupS s kd nm = (v, true)) (hv : v ∈ dvals)
    (b0 : isTest o = true) (b6 : (o == 6) = false) (b8 : (o == 8) = false) (h7 : (o == 7) = false) (h9 : (o == 9) = false) (h10 : (o == 10) = true) : TestAns s (.mk o kd nm (w :: rest) ks) := by
  have hlk := lookup166 s kd nm (by omega) hok
  rw [h] at hlk
  dsimp only at hlk
  have ht := test86 o
  rw [b0] at ht
  have hvs := dvals_small hv
  have he := suffix171 v.text w.text (by omega)
  cases k1 : v.kind == 3 with
  | true =>
    cases k2 : w.kind == 3 with
    | true => exact TestAns.of (b := hasSuf v.text w.text) (by simp only [testF, valsF, opF, Exp.op, Exp.kind, Exp.name, Exp.values, h, b0, b6, b8, h7, h9, h10, k1, k2, Bool.true_and, Bool.false_and, Bool.and_false, cond_true, cond_false]) (by exact EvCall.run Tryz.f125 Tryz.func125 Tryz.call125 [.val, .call (AV.tup [ag v.row, Ev.bool true]) ([]), .same, .same, .same, .same, .val, .call (Ev.bool true) ([]), .same, .same, .same, .same, F, .same, F, .same, .same, .same, .same, .same, T, .same, .same, .same, T, .same, F, .same, F, .same, T, .same, .same, .same, .same, .same, .same, .val, .call (Ev.bool (hasSuf v.text w.text)) ([]), .same, .val] (.cons hlk (.cons ht (.cons (vb b6) (.cons (vb b8) (.cons (vb k1) (.cons (vb k2) (.cons (vb h7) (.cons (vb h9) (.cons (vb h10) (.cons he .nil)))))))))) (by kernel_rfl))
    | false => exact TestAns.of (b := false) (by simp only [testF, valsF, opF, Exp.op, Exp.kind, Exp.name, Exp.values, h, b0, b6, b8, h7, h9, h10, k1, k2, Bool.true_and, Bool.false_and, Bool.and_false, cond_true, cond_false]) (by exact EvCall.run Tryz.f125 Tryz.func125 Tryz.call125 [.val, .call (AV.tup [ag v.row, Ev.bool true]) ([]), .same, .same, .same, .same, .val, .call (Ev.bool true) ([]), .same, .same, .same, .same, F, .same, F, .same, .same, .same, .same, .same, T, .same, .same, .same, F, .same, F, .same, F, .same, T, .same, .same, .same, .same, .same, .same, .same, .val] (.cons hlk (.cons ht (.cons (vb b6) (.cons (vb b8) (.cons (vb k1) (.cons (vb k2) (.cons (vb h7) (.cons (vb h9) (.cons (vb h10) .nil))))))))) (by kernel_rfl))
  | false => exact TestAns.of (b := false) (by simp only [testF, valsF, opF, Exp.op, Exp.kind, Exp.name, Exp.values, h, b0, b6, b8, h7, h9, h10, k1, Bool.true_and, Bool.false_and, Bool.and_false, cond_true, cond_false]) (by exact EvCall.run Tryz.f125 Tryz.func125 Tryz.call125 [.val, .call (AV.tup [ag v.row, Ev.bool true]) ([]), .same, .same, .same, .same, .val, .call (Ev.bool true) ([]), .same, .same, .same, .same, F, .same, F, .same, .same, .same, .same, .same, F, .same, .same, .same, .same, F, .same, F, .same, T, .same, .same, .same, .same, .same, .same, .same, .val] (.cons hlk (.cons ht (.cons (vb b6) (.cons (vb b8) (.cons (vb k1) (.cons (vb h7) (.cons (vb h9) (.cons (vb h10) .nil)))))))) (by kernel_rfl))
end Go.Proofs.YtbdnigendhhndaaGreatDoor
end
section
/- clause.Test answers: contains; all operations. -/
namespace Go.Proofs.YtbdnigendhhndaaGreatDoor
open Go Go.Ev
set_option maxRecDepth 100000

theorem test_contains (s : List Ctx) (hok : ∀ c ∈ s, c.Ok) (hl : s.length ≤ 2) (o : Int) (kd nm : ByteArray) (w : Val) (rest : List Val) (ks : List Exp) (v : Val) (h : lookupS s kd nm = (v, true)) (hv : v ∈ dvals)
    (b0 : isTest o = true) (b6 : (o == 6) = false) (b8 : (o == 8) = false) (h7 : (o == 7) = false) (h9 : (o == 9) = false) (h10 : (o == 10) = false) (h11 : (o == 11) = true) : TestAns s (.mk o kd nm (w :: rest) ks) := by
  have hlk := lookup166 s kd nm (by omega) hok
  rw [h] at hlk
  dsimp only at hlk
  have ht := test86 o
  rw [b0] at ht
  have hvs := dvals_small hv
  have he := contains172 v.text w.text (by omega)
  have hc := contains50 v.list w.text (by omega)
  cases k1 : v.kind == 3 with
  | true =>
    have k5 : (v.kind == 5) = false := by
      have := eq_of_beq k1
      rw [this]
      rfl
    cases k2 : w.kind == 3 with
    | true =>
      cases kc : Lib.contains v.text.data.toList w.text.data.toList with
      | true =>
        rw [kc] at he
        exact TestAns.of (b := true) (by simp only [testF, valsF, opF, Exp.op, Exp.kind, Exp.name, Exp.values, h, b0, b6, b8, h7, h9, h10, h11, k1, k2, kc, k5, Bool.true_and, Bool.false_and, Bool.and_false, Bool.or_false, Bool.false_or, Bool.true_or, Bool.or_true, Bool.and_true, cond_true, cond_false]) (by exact EvCall.run Tryz.f125 Tryz.func125 Tryz.call125 [.val, .call (AV.tup [ag v.row, Ev.bool true]) ([]), .same, .same, .same, .same, .val, .call (Ev.bool true) ([]), .same, .same, .same, .same, F, .same, F, .same, .same, .same, .same, .same, T, .same, .same, .same, T, .same, F, .same, F, .same, F, .same, T, .same, .same, .same, .same, .same, .same, .val, .call (Ev.bool true) ([]), .same, .same, .same, .same, .same, .same, .same, .same, .same, .val] (.cons hlk (.cons ht (.cons (vb b6) (.cons (vb b8) (.cons (vb k1) (.cons (vb k2) (.cons (vb h7) (.cons (vb h9) (.cons (vb h10) (.cons (vb h11) (.cons he .nil))))))))))) (by kernel_rfl))
      | false =>
        rw [kc] at he
        exact TestAns.of (b := false) (by simp only [testF, valsF, opF, Exp.op, Exp.kind, Exp.name, Exp.values, h, b0, b6, b8, h7, h9, h10, h11, k1, k2, kc, k5, Bool.true_and, Bool.false_and, Bool.and_false, Bool.or_false, Bool.false_or, Bool.true_or, Bool.or_true, Bool.and_true, cond_true, cond_false]) (by exact EvCall.run Tryz.f125 Tryz.func125 Tryz.call125 [.val, .call (AV.tup [ag v.row, Ev.bool true]) ([]), .same, .same, .same, .same, .val, .call (Ev.bool true) ([]), .same, .same, .same, .same, F, .same, F, .same, .same, .same, .same, .same, T, .same, .same, .same, T, .same, F, .same, F, .same, F, .same, T, .same, .same, .same, .same, .same, .same, .val, .call (Ev.bool false) ([]), .same, .same, .same, .same, T, .same, .same, .same, .same, F, .same, .same, .same, .same, .same, .same, .same, .same, .same, .same, .same, .val] (.cons hlk (.cons ht (.cons (vb b6) (.cons (vb b8) (.cons (vb k1) (.cons (vb k2) (.cons (vb h7) (.cons (vb h9) (.cons (vb h10) (.cons (vb h11) (.cons he (.cons (vb k2) (.cons (vb k5) .nil))))))))))))) (by kernel_rfl))
    | false => exact TestAns.of (b := false) (by simp only [testF, valsF, opF, Exp.op, Exp.kind, Exp.name, Exp.values, h, b0, b6, b8, h7, h9, h10, h11, k1, k2, k5, Bool.true_and, Bool.false_and, Bool.and_false, Bool.or_false, Bool.false_or, Bool.true_or, Bool.or_true, Bool.and_true, cond_true, cond_false]) (by exact EvCall.run Tryz.f125 Tryz.func125 Tryz.call125 [.val, .call (AV.tup [ag v.row, Ev.bool true]) ([]), .same, .same, .same, .same, .val, .call (Ev.bool true) ([]), .same, .same, .same, .same, F, .same, F, .same, .same, .same, .same, .same, T, .same, .same, .same, F, .same, F, .same, F, .same, F, .same, T, .same, .same, .same, .same, .same, .same, .same, .same, .same, .same, F, .same, .same, .same, .same, .same, .same, .same, .same, .same, .same, .same, .same, .same, .same, .same, .val] (.cons hlk (.cons ht (.cons (vb b6) (.cons (vb b8) (.cons (vb k1) (.cons (vb k2) (.cons (vb h7) (.cons (vb h9) (.cons (vb h10) (.cons (vb h11) (.cons (vb k2) .nil))))))))))) (by kernel_rfl))
  | false =>
    cases k2 : w.kind == 3 with
    | true =>
      cases k5 : v.kind == 5 with
      | true => exact TestAns.of (b := v.list.any (fun u => w.text.toList == u.toList)) (by simp only [testF, valsF, opF, Exp.op, Exp.kind, Exp.name, Exp.values, h, b0, b6, b8, h7, h9, h10, h11, k1, k2, k5, Bool.true_and, Bool.false_and, Bool.and_false, Bool.or_false, Bool.false_or, Bool.true_or, Bool.or_true, Bool.and_true, cond_true, cond_false]) (by exact EvCall.run Tryz.f125 Tryz.func125 Tryz.call125 [.val, .call (AV.tup [ag v.row, Ev.bool true]) ([]), .same, .same, .same, .same, .val, .call (Ev.bool true) ([]), .same, .same, .same, .same, F, .same, F, .same, .same, .same, .same, .same, F, .same, .same, .same, .same, F, .same, F, .same, F, .same, T, .same, .same, .same, .same, .same, .same, .same, .same, .same, .same, T, .same, .same, .same, .same, T, .same, .same, .same, .same, .same, .same, .same, .same, .val, .call (Ev.bool (v.list.any fun (u : ByteArray) => w.text.toList == u.toList)) ([]), .same, .same, .same, .val] (.cons hlk (.cons ht (.cons (vb b6) (.cons (vb b8) (.cons (vb k1) (.cons (vb h7) (.cons (vb h9) (.cons (vb h10) (.cons (vb h11) (.cons (vb k2) (.cons (vb k5) (.cons hc .nil)))))))))))) (by kernel_rfl))
      | false => exact TestAns.of (b := false) (by simp only [testF, valsF, opF, Exp.op, Exp.kind, Exp.name, Exp.values, h, b0, b6, b8, h7, h9, h10, h11, k1, k2, k5, Bool.true_and, Bool.false_and, Bool.and_false, Bool.or_false, Bool.false_or, Bool.true_or, Bool.or_true, Bool.and_true, cond_true, cond_false]) (by exact EvCall.run Tryz.f125 Tryz.func125 Tryz.call125 [.val, .call (AV.tup [ag v.row, Ev.bool true]) ([]), .same, .same, .same, .same, .val, .call (Ev.bool true) ([]), .same, .same, .same, .same, F, .same, F, .same, .same, .same, .same, .same, F, .same, .same, .same, .same, F, .same, F, .same, F, .same, T, .same, .same, .same, .same, .same, .same, .same, .same, .same, .same, T, .same, .same, .same, .same, F, .same, .same, .same, .same, .same, .same, .same, .same, .same, .same, .same, .val] (.cons hlk (.cons ht (.cons (vb b6) (.cons (vb b8) (.cons (vb k1) (.cons (vb h7) (.cons (vb h9) (.cons (vb h10) (.cons (vb h11) (.cons (vb k2) (.cons (vb k5) .nil))))))))))) (by kernel_rfl))
    | false => exact TestAns.of (b := false) (by simp only [testF, valsF, opF, Exp.op, Exp.kind, Exp.name, Exp.values, h, b0, b6, b8, h7, h9, h10, h11, k1, k2, Bool.true_and, Bool.false_and, Bool.and_false, Bool.or_false, Bool.false_or, Bool.true_or, Bool.or_true, Bool.and_true, cond_true, cond_false]) (by exact EvCall.run Tryz.f125 Tryz.func125 Tryz.call125 [.val, .call (AV.tup [ag v.row, Ev.bool true]) ([]), .same, .same, .same, .same, .val, .call (Ev.bool true) ([]), .same, .same, .same, .same, F, .same, F, .same, .same, .same, .same, .same, F, .same, .same, .same, .same, F, .same, F, .same, F, .same, T, .same, .same, .same, .same, .same, .same, .same, .same, .same, .same, F, .same, .same, .same, .same, .same, .same, .same, .same, .same, .same, .same, .same, .same, .same, .same, .val] (.cons hlk (.cons ht (.cons (vb b6) (.cons (vb b8) (.cons (vb k1) (.cons (vb h7) (.cons (vb h9) (.cons (vb h10) (.cons (vb h11) (.cons (vb k2) .nil)))))))))) (by kernel_rfl))

theorem DrC.ok {c : Ctx} (h : DrC c) : c.Ok := ⟨by have := h.len; omega, fun a ha => by have := (dvals_small (h.vals a ha)).2; omega⟩
theorem test_all (s : List Ctx) (hs : ∀ c ∈ s, DrC c) (hl : s.length ≤ 2) (e : Exp) (hv : ∀ v ∈ e.values, v ∈ dvals) (hlen : e.values.length ≤ 2 ^ 30) : TestAns s e := by
  have hok : ∀ c ∈ s, c.Ok := fun c hc => (hs c hc).ok
  have hld := lookup_dr hs e.kind e.name
  generalize hlk : lookupS s e.kind e.name = r at hld
  obtain ⟨v, b⟩ := r
  cases b with
  | false => exact test_no s hok hl e v hlk
  | true =>
    have hvd := hld rfl
    cases b0 : isTest e.op with
    | false => exact test_op s hok hl e v hlk b0
    | true =>
      cases b6 : e.op == 6 with
      | true => exact test_has s hok hl e v hlk b0 b6
      | false =>
        cases b8 : e.op == 8 with
        | true => exact test_in s hok hl e hlen v hvd hlk b0 b6 b8
        | false =>
          obtain ⟨o, kd, nm, vs, ks⟩ := e
          simp only [Exp.op, Exp.kind, Exp.name, Exp.values] at *
          cases vs with
          | nil => exact test_nil s hok hl o kd nm ks v hlk b0 b6 b8
          | cons w rest =>
            have hw := hv w (by simp)
            cases h7 : o == 7 with
            | true => exact test_eq s hok hl o kd nm w rest ks v hlk hvd b0 b6 b8 h7
            | false =>
              cases h9 : o == 9 with
              | true => exact test_starts s hok hl o kd nm w rest ks v hlk hvd b0 b6 b8 h7 h9
              | false =>
                cases h10 : o == 10 with
                | true => exact test_ends s hok hl o kd nm w rest ks v hlk hvd b0 b6 b8 h7 h9 h10
                | false =>
                  cases h11 : o == 11 with
                  | true => exact test_contains s hok hl o kd nm w rest ks v hlk hvd b0 b6 b8 h7 h9 h10 h11
                  | false => exact test_cmp s hok hl o kd nm w rest ks v hlk hvd hw b0 b6 b8 h7 h9 h10 h11

/-- A condition whose values are drawn ones. -/
def DrawnV (e : Exp) : Prop := ∀ v ∈ e.values, v ∈ dvals
theorem testF_of (s : List Ctx) (hs : ∀ c ∈ s, DrC c) (hl : s.length ≤ 2) : TestOf s DrawnV (testF s) := fun e he => test_all s hs hl e he.d he.ok.vals
end Go.Proofs.YtbdnigendhhndaaGreatDoor
end
