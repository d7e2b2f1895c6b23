/- A part of the proofs of this seat's laws (abstract interpretation of the translated program, and contracts of its functions); no statement of its own. -/
import Derived.Test.YtbdnigendhhndaaGreatDoorUa
import Derived.Test.YtbdnigendhhndaaGreatDoorBj
set_option linter.unusedVariables false
set_option linter.unusedSimpArgs false
section
/- SegmentLists: the plain law. -/
namespace Go.Proofs.YtbdnigendhhndaaGreatDoor
open Go Go.Ev
set_option maxRecDepth 100000

abbrev kOne : ByteArray := ⟨#[111, 110, 101]⟩
def oneG (inc exc : List ByteArray) (w : Exp) : Seg := ⟨kOne, kUser, inc, exc, w⟩
theorem one_edges {w : Exp} (hw : DrE [] w) (inc exc : List ByteArray) : segEdges [oneG inc exc w] = [] := by
  have h1 : refersS w = [] := by unfold refersS; rw [refs_none hw.no5]; rfl
  simp only [oneG, segEdges, h1]
  rfl
theorem one_ok {w : Exp} (hw : DrE [] w) (hn : w.nodes ≤ 67) {inc exc : List ByteArray} (hi : inc.length ≤ 2 ^ 30) (he : exc.length ≤ 2 ^ 30) : SegsOk [oneG inc exc w] := by
  refine ⟨by simp, ?_, ?_, ?_⟩
  · intro g hg
    simp at hg
    subst hg
    exact ⟨hw.okd.ok, by simp only [oneG]; omega, by simp [oneG, refs_none hw.no5], hi, he⟩
  · unfold Apart
    rw [one_edges hw]
    simp
  · intro x
    rw [one_edges hw]
    simp [needM, needOf]
theorem one_okd {w : Exp} (hw : DrE [] w) (inc exc : List ByteArray) : ∀ g ∈ [oneG inc exc w], OkD DrawnV g.when := by
  intro g hg
  simp at hg
  subst hg
  exact hw.okd
theorem one_members (tb : Exp → Bool) (s : List Ctx) {w : Exp} (hw : DrE [] w) (inc exc : List ByteArray) : membersS tb s [oneG inc exc w] = bif containsG tb s (oneG inc exc w) [] then [kOne] else [] := by
  unfold membersS
  have ho : orderS [oneG inc exc w] = ([kOne], 0) := by
    have : orderS [oneG inc exc w] = orderG [kOne] (segEdges [oneG inc exc w]) := rfl
    rw [this, one_edges hw]
    show _ = _
    kernel_rfl
  rw [ho]
  have : (([kOne], (0 : Int)).2 != 0) = false := rfl
  rw [this]
  simp only [cond_false]
  have g1 : mGet (byAdd [] [oneG inc exc w]) kOne = some (oneG inc exc w) := by kernel_rfl
  simp only [memF, g1]
  cases containsG tb s (oneG inc exc w) [] with
  | true => show _ = _; kernel_rfl
  | false => rfl
theorem one_law (tb : Exp → Bool) (s : List Ctx) {w : Exp} (hw : DrE [] w) (inc exc : List ByteArray) : inL (membersS tb s [oneG inc exc w]) kOne = containsG tb s (oneG inc exc w) [] := by
  rw [one_members tb s hw]
  cases containsG tb s (oneG inc exc w) [] with
  | true => show _ = _; kernel_rfl
  | false => rfl
theorem one_len (tb : Exp → Bool) (s : List Ctx) {w : Exp} (hw : DrE [] w) (inc exc : List ByteArray) : (membersS tb s [oneG inc exc w]).length ≤ 2 ^ 30 := by
  rw [one_members tb s hw]
  cases containsG tb s (oneG inc exc w) [] <;> simp
theorem has_inL (l : List ByteArray) (k : ByteArray) : hasS l k = inL l k := any_congr fun u _ => by
  rw [Bool.eq_iff_iff]
  simp only [beq_iff_eq]
  exact eq_comm
/-- What the law expects of a subject's user. -/
def wantOne (tb : Exp → Bool) (inc exc : List ByteArray) (w : Exp) (o : Option Ctx) : Bool := match o with
  | none => false
  | some c => bif hasS exc c.key then false else bif hasS inc c.key then true else evalE tb [] w
theorem one_want (tb : Exp → Bool) (s : List Ctx) {w : Exp} (hw : DrE [] w) (inc exc : List ByteArray) : containsG tb s (oneG inc exc w) [] = wantOne tb inc exc w (s.find? fun c => eqS c.kind kUser) := by
  have hop : (w.op != 0) = true := by have := hw.op_ne; simp; omega
  unfold containsG wantOne findC oneG
  simp only
  cases s.find? fun c => eqS c.kind kUser with
  | none => rfl
  | some c => simp only [cond_true, has_inL, hop]
end Go.Proofs.YtbdnigendhhndaaGreatDoor
end
section
/- SegmentLists: the loop over the contexts, the rest behind the segment's making. Printed by genlists.py. -/
namespace Go.Proofs.YtbdnigendhhndaaGreatDoor
open Go Go.Ev
set_option maxRecDepth 100000

abbrev isUser (c : Ctx) : Bool := eqS c.kind kUser
def listsOut (o : Option Ctx) (b : Bool) : AE × St := match o with
  | none => (.exit 0, ⟨[(12, bool b)], []⟩)
  | some _ => (.ret, ⟨[(8, bool true)], []⟩)

theorem lists_loopN_N (s : List Ctx) (hs : s.length ≤ 2) (hsd : ∀ c ∈ s, DrC c) (w : Exp) (hw : DrE [] w) (b : Bool) (hb : b = wantOne (testF s) [] [] w (s.find? isUser)) : ∀ (suf pre : List Ctx), s = pre ++ suf → s.find? isUser = suf.find? isUser →
    EvCode cx (EvCall cx) (.loop (loopBody Tryz.f5 0)) ⟨[(10, .ref (11, 0) 0), (11, .ref (12, 0) 0), (12, bool b), (13, int pre.length)], [((11, 0), cs0 s), ((12, 0), .cells [str kOne, str kUser, .p (.s nilS), .p (.s nilS), int w.op, str w.kind, str w.name, sl (w.values.map Val.row), sl (rowsE w.kids)])]⟩
      (listsOut (suf.find? isUser) b).1 (listsOut (suf.find? isUser) b).2
  | [], pre, h, hf => by
    have hq : pre.length = s.length := by rw [h]; simp
    have hge : ¬ (pre.length : Int) < (s.length : Int) := by omega
    simp only [List.find?_nil, listsOut]
    exact EvCode.out [F, .same] [(12 : Nat)] [] (.cons (vb (by simp; omega : decide ((↑pre.length : Int) < (↑(List.map Ctx.row s).length : Int)) = false)) .nil) (AE.ne_exit _) (by kernel_rfl)
  | c :: r, pre, h, hf => by
    have hlt : pre.length < s.length := by rw [h]; simp
    have hrow : rowI (s.map Ctx.row) (pre.length : Int) = some c.row := by
      apply rowI_at
      simp only [List.getElem?_map, get_of_split h, Option.map_some]
    cases hk : isUser c with
    | false =>
      have hne : (!(c.kind.toList == kUser.toList)) = true := by unfold isUser eqS at hk; rw [hk]; rfl
      have hf2 : s.find? isUser = r.find? isUser := by rw [hf, List.find?_cons, hk]
      have ih := lists_loopN_N s hs hsd w hw b hb r (pre ++ [c]) (by simp [h]) hf2
      simp only [List.length_append, List.length_singleton] at ih
      simp only [List.find?_cons, hk]
      generalize listsOut (List.find? isUser r) b = o at ih ⊢
      clear hb hf hf2 hw hsd
      exact EvCode.round [T, .same, .row (c.row), .same, T, .same, .v (.int .i64 ((pre.length + (1 : Nat) : Nat) : Int))] [(10 : Nat), (11 : Nat), (12 : Nat), (13 : Nat)] [((11 : Nat), (0 : Nat)), ((12 : Nat), (0 : Nat))] (.cons (vb (by simp; omega : decide ((↑pre.length : Int) < (↑(List.map Ctx.row s).length : Int)) = true)) (.cons hrow (.cons (vb hne) (.cons (natVi64 (by omega) (by omega) (by omega) : Value.int .i64 (IntKind.i64.wrap ((↑pre.length : Int) + (1 : Int))) = .int .i64 ((pre.length + (1 : Nat) : Nat) : Int)) .nil)))) (by kernel_rfl) ih
    | true =>
      have hne : (!(c.kind.toList == kUser.toList)) = false := by unfold isUser eqS at hk; rw [hk]; rfl
      have hf2 : s.find? isUser = some c := by rw [hf, List.find?_cons, hk]
      rw [hf2] at hb
      simp only [wantOne] at hb
      have hE := hasR [] c.key (by simp)
      have hI := hasR [] c.key (by simp)
      have hV := evalR s hsd hs [] (by simp) w hw.okd
      unfold RefAt at hV
      simp only [List.find?_cons, hk, listsOut]
      clear hf hf2 hw hsd
      have z0 : hasS [] c.key = false := rfl
      rw [z0] at hE
      rw [z0] at hI
      simp only [z0, cond_false] at hb
      rw [← hb] at hV
      clear hb
      cases b with
      | true => exact EvCode.out [T, .same, .row (c.row), .same, F, .same, .val, .call (Ev.bool false) ([]), .same, .val, .call (Ev.bool false) ([]), .same, .val, .call (Ev.bool true) ([])] [(8 : Nat)] [] (.cons (vb (by simp; omega : decide ((↑pre.length : Int) < (↑(List.map Ctx.row s).length : Int)) = true)) (.cons hrow (.cons (vb hne) (.cons hI (.cons hI (.cons hV .nil)))))) AE.ne_ret (by kernel_rfl)
      | false => exact EvCode.out [T, .same, .row (c.row), .same, F, .same, .val, .call (Ev.bool false) ([]), .same, .val, .call (Ev.bool false) ([]), .same, .val, .call (Ev.bool false) ([])] [(8 : Nat)] [] (.cons (vb (by simp; omega : decide ((↑pre.length : Int) < (↑(List.map Ctx.row s).length : Int)) = true)) (.cons hrow (.cons (vb hne) (.cons hI (.cons hI (.cons hV .nil)))))) AE.ne_ret (by kernel_rfl)
theorem lists_tailN_N (s : List Ctx) (hs : s.length ≤ 2) (hsd : ∀ c ∈ s, DrC c) (w : Exp) (hw : DrE [] w) (hwn : w.nodes ≤ 67) :
    EvCode cx (EvCall cx) (tailAt Tryz.f5 8) ⟨[(10, .ref (11, 0) 0), (11, .ref (12, 0) 0)], [((11, 0), cs0 s), ((12, 0), .cells [str kOne, str kUser, .p (.s nilS), .p (.s nilS), int w.op, str w.kind, str w.name, sl (w.values.map Val.row), sl (rowsE w.kids)])]⟩ .ret ⟨[(8, bool true)], []⟩ := by
  have hso : SubjOk s := ⟨by omega, fun c hc => (hsd c hc).ok⟩
  have hc := contains21 s hso (testF s) (testF_of s hsd hs) [oneG [] [] w] (one_ok hw hwn (by simp) (by simp)) (one_okd hw _ _) kOne (one_len _ _ hw _ _)
  rw [one_law _ _ hw, one_want _ _ hw] at hc
  have hl := lists_loopN_N s hs hsd w hw _ rfl s [] rfl rfl
  simp only [List.length_nil] at hl
  have hsr : [oneG [] [] w].map Seg.row = [(oneG [] [] w).row] := rfl
  rw [hsr] at hc
  clear hsr hso hw hsd
  cases hf : s.find? isUser with
  | none =>
    rw [hf] at hl hc
    simp only [wantOne, listsOut] at hl hc
    exact EvCode.tail [.val, .row [.sl (List.map (fun (i : Nat) => List.take ti33.sz (List.drop (i * ti33.sz) [nrm (PV.s (Value.string kOne)), nrm (PV.s (Value.string kUser)), nrm (PV.s nilS), nrm (PV.s nilS), nrm (PV.s (Value.int IntKind.i64 w.op)), nrm (PV.s (Value.string w.kind)), nrm (PV.s (Value.string w.name)), nrm (PV.sl (List.map Val.row w.values)), nrm (PV.sl (rowsE w.kids))])) (List.range (1 : Nat)))], .call (Ev.bool false) ([]), .loop [(10 : Nat), (11 : Nat), (12 : Nat), (13 : Nat)] [((11 : Nat), (0 : Nat)), ((12 : Nat), (0 : Nat))] (AE.exit (0 : Nat)) ({ e := [((12 : Nat), AV.p (PV.s (Value.bool false)))], s := [] }), .same] [(8 : Nat)] [] (.cons (⟨rfl, (by omega)⟩ : (1 : Nat) = (1 : Nat) ∧ (1 : Nat) ≤ (1 : Nat)) (.cons (by simp : some [PV.sl (List.take (1 : Nat) (List.drop (0 : Nat) (List.map (fun (i : Nat) => List.take ti33.sz (List.drop (i * ti33.sz) [nrm (PV.s (Value.string kOne)), nrm (PV.s (Value.string kUser)), nrm (PV.s nilS), nrm (PV.s nilS), nrm (PV.s (Value.int IntKind.i64 w.op)), nrm (PV.s (Value.string w.kind)), nrm (PV.s (Value.string w.name)), nrm (PV.sl (List.map Val.row w.values)), nrm (PV.sl (rowsE w.kids))])) (List.range (1 : Nat)))))] = some [PV.sl (List.map (fun (i : Nat) => List.take ti33.sz (List.drop (i * ti33.sz) [nrm (PV.s (Value.string kOne)), nrm (PV.s (Value.string kUser)), nrm (PV.s nilS), nrm (PV.s nilS), nrm (PV.s (Value.int IntKind.i64 w.op)), nrm (PV.s (Value.string w.kind)), nrm (PV.s (Value.string w.name)), nrm (PV.sl (List.map Val.row w.values)), nrm (PV.sl (rowsE w.kids))])) (List.range (1 : Nat)))]) (.cons hc (.cons hl .nil)))) (by kernel_rfl)
  | some c =>
    rw [hf] at hl hc
    generalize wantOne (testF s) [] [] w (some c) = b at hl hc
    simp only [listsOut] at hl
    exact EvCode.tail [.val, .row [.sl (List.map (fun (i : Nat) => List.take ti33.sz (List.drop (i * ti33.sz) [nrm (PV.s (Value.string kOne)), nrm (PV.s (Value.string kUser)), nrm (PV.s nilS), nrm (PV.s nilS), nrm (PV.s (Value.int IntKind.i64 w.op)), nrm (PV.s (Value.string w.kind)), nrm (PV.s (Value.string w.name)), nrm (PV.sl (List.map Val.row w.values)), nrm (PV.sl (rowsE w.kids))])) (List.range (1 : Nat)))], .call (Ev.bool b) ([]), .loop [(10 : Nat), (11 : Nat), (12 : Nat), (13 : Nat)] [((11 : Nat), (0 : Nat)), ((12 : Nat), (0 : Nat))] (AE.ret) ({ e := [((8 : Nat), AV.p (PV.s (Value.bool true)))], s := [] })] [(8 : Nat)] [] (.cons (⟨rfl, (by omega)⟩ : (1 : Nat) = (1 : Nat) ∧ (1 : Nat) ≤ (1 : Nat)) (.cons (by simp : some [PV.sl (List.take (1 : Nat) (List.drop (0 : Nat) (List.map (fun (i : Nat) => List.take ti33.sz (List.drop (i * ti33.sz) [nrm (PV.s (Value.string kOne)), nrm (PV.s (Value.string kUser)), nrm (PV.s nilS), nrm (PV.s nilS), nrm (PV.s (Value.int IntKind.i64 w.op)), nrm (PV.s (Value.string w.kind)), nrm (PV.s (Value.string w.name)), nrm (PV.sl (List.map Val.row w.values)), nrm (PV.sl (rowsE w.kids))])) (List.range (1 : Nat)))))] = some [PV.sl (List.map (fun (i : Nat) => List.take ti33.sz (List.drop (i * ti33.sz) [nrm (PV.s (Value.string kOne)), nrm (PV.s (Value.string kUser)), nrm (PV.s nilS), nrm (PV.s nilS), nrm (PV.s (Value.int IntKind.i64 w.op)), nrm (PV.s (Value.string w.kind)), nrm (PV.s (Value.string w.name)), nrm (PV.sl (List.map Val.row w.values)), nrm (PV.sl (rowsE w.kids))])) (List.range (1 : Nat)))]) (.cons hc (.cons hl .nil)))) (by kernel_rfl)

theorem lists_loopN_36 (s : List Ctx) (hs : s.length ≤ 2) (hsd : ∀ c ∈ s, DrC c) (w : Exp) (hw : DrE [] w) (exc : List ByteArray) (he30 : exc.length ≤ 2 ^ 30) (R2 : List (List PV)) (n2 N2 : Nat) (hR2 : R2.length = N2) (hn2 : n2 ≤ N2) (ha2 : RowsAre 1 R2) (ht2 : List.take n2 (List.drop 0 R2) = strs exc) (b : Bool) (hb : b = wantOne (testF s) [] exc w (s.find? isUser)) : ∀ (suf pre : List Ctx), s = pre ++ suf → s.find? isUser = suf.find? isUser →
    EvCode cx (EvCall cx) (.loop (loopBody Tryz.f5 0)) ⟨[(10, .ref (11, 0) 0), (11, .ref (12, 0) 0), (12, bool b), (13, int pre.length)], [((11, 0), cs0 s), ((12, 0), .cells [str kOne, str kUser, .p (.s nilS), .ms (36, 0) 0 n2 N2, int w.op, str w.kind, str w.name, sl (w.values.map Val.row), sl (rowsE w.kids)]), ((36, 0), .arr 1 R2 R2.length)]⟩
      (listsOut (suf.find? isUser) b).1 (listsOut (suf.find? isUser) b).2
  | [], pre, h, hf => by
    have hq : pre.length = s.length := by rw [h]; simp
    have hge : ¬ (pre.length : Int) < (s.length : Int) := by omega
    simp only [List.find?_nil, listsOut]
    exact EvCode.out [F, .same] [(12 : Nat)] [] (.cons (vb (by simp; omega : decide ((↑pre.length : Int) < (↑(List.map Ctx.row s).length : Int)) = false)) .nil) (AE.ne_exit _) (by kernel_rfl)
  | c :: r, pre, h, hf => by
    have hlt : pre.length < s.length := by rw [h]; simp
    have hrow : rowI (s.map Ctx.row) (pre.length : Int) = some c.row := by
      apply rowI_at
      simp only [List.getElem?_map, get_of_split h, Option.map_some]
    cases hk : isUser c with
    | false =>
      have hne : (!(c.kind.toList == kUser.toList)) = true := by unfold isUser eqS at hk; rw [hk]; rfl
      have hf2 : s.find? isUser = r.find? isUser := by rw [hf, List.find?_cons, hk]
      have ih := lists_loopN_36 s hs hsd w hw exc he30 R2 n2 N2 hR2 hn2 ha2 ht2 b hb r (pre ++ [c]) (by simp [h]) hf2
      simp only [List.length_append, List.length_singleton] at ih
      simp only [List.find?_cons, hk]
      generalize listsOut (List.find? isUser r) b = o at ih ⊢
      clear hb hf hf2 hw hsd
      exact EvCode.round [T, .same, .row (c.row), .same, T, .same, .v (.int .i64 ((pre.length + (1 : Nat) : Nat) : Int))] [(10 : Nat), (11 : Nat), (12 : Nat), (13 : Nat)] [((11 : Nat), (0 : Nat)), ((12 : Nat), (0 : Nat)), ((36 : Nat), (0 : Nat))] (.cons (vb (by simp; omega : decide ((↑pre.length : Int) < (↑(List.map Ctx.row s).length : Int)) = true)) (.cons hrow (.cons (vb hne) (.cons (natVi64 (by omega) (by omega) (by omega) : Value.int .i64 (IntKind.i64.wrap ((↑pre.length : Int) + (1 : Int))) = .int .i64 ((pre.length + (1 : Nat) : Nat) : Int)) .nil)))) (by kernel_rfl) ih
    | true =>
      have hne : (!(c.kind.toList == kUser.toList)) = false := by unfold isUser eqS at hk; rw [hk]; rfl
      have hf2 : s.find? isUser = some c := by rw [hf, List.find?_cons, hk]
      rw [hf2] at hb
      simp only [wantOne] at hb
      have hE := hasR exc c.key (by omega)
      have hI := hasR [] c.key (by simp)
      have hV := evalR s hsd hs [] (by simp) w hw.okd
      unfold RefAt at hV
      simp only [List.find?_cons, hk, listsOut]
      clear hf hf2 hw hsd
      have z0 : hasS [] c.key = false := rfl
      cases x1 : hasS exc c.key with
      | true =>
        rw [x1] at hE hb
        simp only [cond_true] at hb
        subst hb
        clear hI hV
        exact EvCode.out [T, .same, .row (c.row), .same, F, .same, .val, .row [.sl (strs exc)], .call (Ev.bool true) ([]), .same, .same] [(8 : Nat)] [] (.cons (vb (by simp; omega : decide ((↑pre.length : Int) < (↑(List.map Ctx.row s).length : Int)) = true)) (.cons hrow (.cons (vb hne) (.cons (⟨hR2, (by omega)⟩ : R2.length = N2 ∧ (0 : Nat) + n2 ≤ N2) (.cons (congrArg (fun z => some [PV.sl z]) ht2) (.cons hE .nil)))))) AE.ne_ret (by kernel_rfl)
      | false =>
        rw [x1] at hE hb
        rw [z0] at hI
        simp only [z0, cond_false] at hb
        rw [← hb] at hV
        clear hb
        cases b with
        | true => exact EvCode.out [T, .same, .row (c.row), .same, F, .same, .val, .row [.sl (strs exc)], .call (Ev.bool false) ([]), .same, .val, .call (Ev.bool false) ([]), .same, .val, .call (Ev.bool true) ([])] [(8 : Nat)] [] (.cons (vb (by simp; omega : decide ((↑pre.length : Int) < (↑(List.map Ctx.row s).length : Int)) = true)) (.cons hrow (.cons (vb hne) (.cons (⟨hR2, (by omega)⟩ : R2.length = N2 ∧ (0 : Nat) + n2 ≤ N2) (.cons (congrArg (fun z => some [PV.sl z]) ht2) (.cons hE (.cons hI (.cons hV .nil)))))))) AE.ne_ret (by kernel_rfl)
        | false => exact EvCode.out [T, .same, .row (c.row), .same, F, .same, .val, .row [.sl (strs exc)], .call (Ev.bool false) ([]), .same, .val, .call (Ev.bool false) ([]), .same, .val, .call (Ev.bool false) ([])] [(8 : Nat)] [] (.cons (vb (by simp; omega : decide ((↑pre.length : Int) < (↑(List.map Ctx.row s).length : Int)) = true)) (.cons hrow (.cons (vb hne) (.cons (⟨hR2, (by omega)⟩ : R2.length = N2 ∧ (0 : Nat) + n2 ≤ N2) (.cons (congrArg (fun z => some [PV.sl z]) ht2) (.cons hE (.cons hI (.cons hV .nil)))))))) AE.ne_ret (by kernel_rfl)
theorem lists_tailN_36 (s : List Ctx) (hs : s.length ≤ 2) (hsd : ∀ c ∈ s, DrC c) (w : Exp) (hw : DrE [] w) (hwn : w.nodes ≤ 67) (exc : List ByteArray) (he30 : exc.length ≤ 2 ^ 30) (R2 : List (List PV)) (n2 N2 : Nat) (hR2 : R2.length = N2) (hn2 : n2 ≤ N2) (ha2 : RowsAre 1 R2) (ht2 : List.take n2 (List.drop 0 R2) = strs exc) :
    EvCode cx (EvCall cx) (tailAt Tryz.f5 8) ⟨[(10, .ref (11, 0) 0), (11, .ref (12, 0) 0)], [((11, 0), cs0 s), ((12, 0), .cells [str kOne, str kUser, .p (.s nilS), .ms (36, 0) 0 n2 N2, int w.op, str w.kind, str w.name, sl (w.values.map Val.row), sl (rowsE w.kids)]), ((36, 0), .arr 1 R2 0)]⟩ .ret ⟨[(8, bool true)], []⟩ := by
  have hso : SubjOk s := ⟨by omega, fun c hc => (hsd c hc).ok⟩
  have hc := contains21 s hso (testF s) (testF_of s hsd hs) [oneG [] exc w] (one_ok hw hwn (by simp) (by omega)) (one_okd hw _ _) kOne (one_len _ _ hw _ _)
  rw [one_law _ _ hw, one_want _ _ hw] at hc
  have hl := lists_loopN_36 s hs hsd w hw exc he30 R2 n2 N2 hR2 hn2 ha2 ht2 _ rfl s [] rfl rfl
  simp only [List.length_nil] at hl
  have hsr : [oneG [] exc w].map Seg.row = [(oneG [] exc w).row] := rfl
  rw [hsr] at hc
  clear hsr hso hw hsd
  cases hf : s.find? isUser with
  | none =>
    rw [hf] at hl hc
    simp only [wantOne, listsOut] at hl hc
    exact EvCode.tail [.row [.sl (strs exc)], .val, .row [.sl (List.map (fun (i : Nat) => List.take ti33.sz (List.drop (i * ti33.sz) [nrm (PV.s (Value.string kOne)), nrm (PV.s (Value.string kUser)), nrm (PV.s nilS), PV.sl (strs exc), nrm (PV.s (Value.int IntKind.i64 w.op)), nrm (PV.s (Value.string w.kind)), nrm (PV.s (Value.string w.name)), nrm (PV.sl (List.map Val.row w.values)), nrm (PV.sl (rowsE w.kids))])) (List.range (1 : Nat)))], .call (Ev.bool false) ([]), .loop [(10 : Nat), (11 : Nat), (12 : Nat), (13 : Nat)] [((11 : Nat), (0 : Nat)), ((12 : Nat), (0 : Nat)), ((36 : Nat), (0 : Nat))] (AE.exit (0 : Nat)) ({ e := [((12 : Nat), AV.p (PV.s (Value.bool false)))], s := [] }), .same] [(8 : Nat)] [] (.cons (⟨hR2, (by omega)⟩ : R2.length = N2 ∧ (0 : Nat) + n2 ≤ N2) (.cons (congrArg (fun z => some [PV.sl z]) ht2) (.cons (⟨rfl, (by omega)⟩ : (1 : Nat) = (1 : Nat) ∧ (1 : Nat) ≤ (1 : Nat)) (.cons (by simp : some [PV.sl (List.take (1 : Nat) (List.drop (0 : Nat) (List.map (fun (i : Nat) => List.take ti33.sz (List.drop (i * ti33.sz) [nrm (PV.s (Value.string kOne)), nrm (PV.s (Value.string kUser)), nrm (PV.s nilS), PV.sl (strs exc), nrm (PV.s (Value.int IntKind.i64 w.op)), nrm (PV.s (Value.string w.kind)), nrm (PV.s (Value.string w.name)), nrm (PV.sl (List.map Val.row w.values)), nrm (PV.sl (rowsE w.kids))])) (List.range (1 : Nat)))))] = some [PV.sl (List.map (fun (i : Nat) => List.take ti33.sz (List.drop (i * ti33.sz) [nrm (PV.s (Value.string kOne)), nrm (PV.s (Value.string kUser)), nrm (PV.s nilS), PV.sl (strs exc), nrm (PV.s (Value.int IntKind.i64 w.op)), nrm (PV.s (Value.string w.kind)), nrm (PV.s (Value.string w.name)), nrm (PV.sl (List.map Val.row w.values)), nrm (PV.sl (rowsE w.kids))])) (List.range (1 : Nat)))]) (.cons hc (.cons hl .nil)))))) (by kernel_rfl)
  | some c =>
    rw [hf] at hl hc
    generalize wantOne (testF s) [] exc w (some c) = b at hl hc
    simp only [listsOut] at hl
    exact EvCode.tail [.row [.sl (strs exc)], .val, .row [.sl (List.map (fun (i : Nat) => List.take ti33.sz (List.drop (i * ti33.sz) [nrm (PV.s (Value.string kOne)), nrm (PV.s (Value.string kUser)), nrm (PV.s nilS), PV.sl (strs exc), nrm (PV.s (Value.int IntKind.i64 w.op)), nrm (PV.s (Value.string w.kind)), nrm (PV.s (Value.string w.name)), nrm (PV.sl (List.map Val.row w.values)), nrm (PV.sl (rowsE w.kids))])) (List.range (1 : Nat)))], .call (Ev.bool b) ([]), .loop [(10 : Nat), (11 : Nat), (12 : Nat), (13 : Nat)] [((11 : Nat), (0 : Nat)), ((12 : Nat), (0 : Nat)), ((36 : Nat), (0 : Nat))] (AE.ret) ({ e := [((8 : Nat), AV.p (PV.s (Value.bool true)))], s := [] })] [(8 : Nat)] [] (.cons (⟨hR2, (by omega)⟩ : R2.length = N2 ∧ (0 : Nat) + n2 ≤ N2) (.cons (congrArg (fun z => some [PV.sl z]) ht2) (.cons (⟨rfl, (by omega)⟩ : (1 : Nat) = (1 : Nat) ∧ (1 : Nat) ≤ (1 : Nat)) (.cons (by simp : some [PV.sl (List.take (1 : Nat) (List.drop (0 : Nat) (List.map (fun (i : Nat) => List.take ti33.sz (List.drop (i * ti33.sz) [nrm (PV.s (Value.string kOne)), nrm (PV.s (Value.string kUser)), nrm (PV.s nilS), PV.sl (strs exc), nrm (PV.s (Value.int IntKind.i64 w.op)), nrm (PV.s (Value.string w.kind)), nrm (PV.s (Value.string w.name)), nrm (PV.sl (List.map Val.row w.values)), nrm (PV.sl (rowsE w.kids))])) (List.range (1 : Nat)))))] = some [PV.sl (List.map (fun (i : Nat) => List.take ti33.sz (List.drop (i * ti33.sz) [nrm (PV.s (Value.string kOne)), nrm (PV.s (Value.string kUser)), nrm (PV.s nilS), PV.sl (strs exc), nrm (PV.s (Value.int IntKind.i64 w.op)), nrm (PV.s (Value.string w.kind)), nrm (PV.s (Value.string w.name)), nrm (PV.sl (List.map Val.row w.values)), nrm (PV.sl (rowsE w.kids))])) (List.range (1 : Nat)))]) (.cons hc (.cons hl .nil)))))) (by kernel_rfl)

theorem lists_loopN_38 (s : List Ctx) (hs : s.length ≤ 2) (hsd : ∀ c ∈ s, DrC c) (w : Exp) (hw : DrE [] w) (exc : List ByteArray) (he30 : exc.length ≤ 2 ^ 30) (R2 : List (List PV)) (n2 N2 : Nat) (hR2 : R2.length = N2) (hn2 : n2 ≤ N2) (ha2 : RowsAre 1 R2) (ht2 : List.take n2 (List.drop 0 R2) = strs exc) (b : Bool) (hb : b = wantOne (testF s) [] exc w (s.find? isUser)) : ∀ (suf pre : List Ctx), s = pre ++ suf → s.find? isUser = suf.find? isUser →
    EvCode cx (EvCall cx) (.loop (loopBody Tryz.f5 0)) ⟨[(10, .ref (11, 0) 0), (11, .ref (12, 0) 0), (12, bool b), (13, int pre.length)], [((11, 0), cs0 s), ((12, 0), .cells [str kOne, str kUser, .p (.s nilS), .ms (38, 0) 0 n2 N2, int w.op, str w.kind, str w.name, sl (w.values.map Val.row), sl (rowsE w.kids)]), ((38, 0), .arr 1 R2 R2.length)]⟩
      (listsOut (suf.find? isUser) b).1 (listsOut (suf.find? isUser) b).2
  | [], pre, h, hf => by
    have hq : pre.length = s.length := by rw [h]; simp
    have hge : ¬ (pre.length : Int) < (s.length : Int) := by omega
    simp only [List.find?_nil, listsOut]
    exact EvCode.out [F, .same] [(12 : Nat)] [] (.cons (vb (by simp; omega : decide ((↑pre.length : Int) < (↑(List.map Ctx.row s).length : Int)) = false)) .nil) (AE.ne_exit _) (by kernel_rfl)
  | c :: r, pre, h, hf => by
    have hlt : pre.length < s.length := by rw [h]; simp
    have hrow : rowI (s.map Ctx.row) (pre.length : Int) = some c.row := by
      apply rowI_at
      simp only [List.getElem?_map, get_of_split h, Option.map_some]
    cases hk : isUser c with
    | false =>
      have hne : (!(c.kind.toList == kUser.toList)) = true := by unfold isUser eqS at hk; rw [hk]; rfl
      have hf2 : s.find? isUser = r.find? isUser := by rw [hf, List.find?_cons, hk]
      have ih := lists_loopN_38 s hs hsd w hw exc he30 R2 n2 N2 hR2 hn2 ha2 ht2 b hb r (pre ++ [c]) (by simp [h]) hf2
      simp only [List.length_append, List.length_singleton] at ih
      simp only [List.find?_cons, hk]
      generalize listsOut (List.find? isUser r) b = o at ih ⊢
      clear hb hf hf2 hw hsd
      exact EvCode.round [T, .same, .row (c.row), .same, T, .same, .v (.int .i64 ((pre.length + (1 : Nat) : Nat) : Int))] [(10 : Nat), (11 : Nat), (12 : Nat), (13 : Nat)] [((11 : Nat), (0 : Nat)), ((12 : Nat), (0 : Nat)), ((38 : Nat), (0 : Nat))] (.cons (vb (by simp; omega : decide ((↑pre.length : Int) < (↑(List.map Ctx.row s).length : Int)) = true)) (.cons hrow (.cons (vb hne) (.cons (natVi64 (by omega) (by omega) (by omega) : Value.int .i64 (IntKind.i64.wrap ((↑pre.length : Int) + (1 : Int))) = .int .i64 ((pre.length + (1 : Nat) : Nat) : Int)) .nil)))) (by kernel_rfl) ih
    | true =>
      have hne : (!(c.kind.toList == kUser.toList)) = false := by unfold isUser eqS at hk; rw [hk]; rfl
      have hf2 : s.find? isUser = some c := by rw [hf, List.find?_cons, hk]
      rw [hf2] at hb
      simp only [wantOne] at hb
      have hE := hasR exc c.key (by omega)
      have hI := hasR [] c.key (by simp)
      have hV := evalR s hsd hs [] (by simp) w hw.okd
      unfold RefAt at hV
      simp only [List.find?_cons, hk, listsOut]
      clear hf hf2 hw hsd
      have z0 : hasS [] c.key = false := rfl
      cases x1 : hasS exc c.key with
      | true =>
        rw [x1] at hE hb
        simp only [cond_true] at hb
        subst hb
        clear hI hV
        exact EvCode.out [T, .same, .row (c.row), .same, F, .same, .val, .row [.sl (strs exc)], .call (Ev.bool true) ([]), .same, .same] [(8 : Nat)] [] (.cons (vb (by simp; omega : decide ((↑pre.length : Int) < (↑(List.map Ctx.row s).length : Int)) = true)) (.cons hrow (.cons (vb hne) (.cons (⟨hR2, (by omega)⟩ : R2.length = N2 ∧ (0 : Nat) + n2 ≤ N2) (.cons (congrArg (fun z => some [PV.sl z]) ht2) (.cons hE .nil)))))) AE.ne_ret (by kernel_rfl)
      | false =>
        rw [x1] at hE hb
        rw [z0] at hI
        simp only [z0, cond_false] at hb
        rw [← hb] at hV
        clear hb
        cases b with
        | true => exact EvCode.out [T, .same, .row (c.row), .same, F, .same, .val, .row [.sl (strs exc)], .call (Ev.bool false) ([]), .same, .val, .call (Ev.bool false) ([]), .same, .val, .call (Ev.bool true) ([])] [(8 : Nat)] [] (.cons (vb (by simp; omega : decide ((↑pre.length : Int) < (↑(List.map Ctx.row s).length : Int)) = true)) (.cons hrow (.cons (vb hne) (.cons (⟨hR2, (by omega)⟩ : R2.length = N2 ∧ (0 : Nat) + n2 ≤ N2) (.cons (congrArg (fun z => some [PV.sl z]) ht2) (.cons hE (.cons hI (.cons hV .nil)))))))) AE.ne_ret (by kernel_rfl)
        | false => exact EvCode.out [T, .same, .row (c.row), .same, F, .same, .val, .row [.sl (strs exc)], .call (Ev.bool false) ([]), .same, .val, .call (Ev.bool false) ([]), .same, .val, .call (Ev.bool false) ([])] [(8 : Nat)] [] (.cons (vb (by simp; omega : decide ((↑pre.length : Int) < (↑(List.map Ctx.row s).length : Int)) = true)) (.cons hrow (.cons (vb hne) (.cons (⟨hR2, (by omega)⟩ : R2.length = N2 ∧ (0 : Nat) + n2 ≤ N2) (.cons (congrArg (fun z => some [PV.sl z]) ht2) (.cons hE (.cons hI (.cons hV .nil)))))))) AE.ne_ret (by kernel_rfl)
theorem lists_tailN_38 (s : List Ctx) (hs : s.length ≤ 2) (hsd : ∀ c ∈ s, DrC c) (w : Exp) (hw : DrE [] w) (hwn : w.nodes ≤ 67) (exc : List ByteArray) (he30 : exc.length ≤ 2 ^ 30) (R2 : List (List PV)) (n2 N2 : Nat) (hR2 : R2.length = N2) (hn2 : n2 ≤ N2) (ha2 : RowsAre 1 R2) (ht2 : List.take n2 (List.drop 0 R2) = strs exc) :
    EvCode cx (EvCall cx) (tailAt Tryz.f5 8) ⟨[(10, .ref (11, 0) 0), (11, .ref (12, 0) 0)], [((11, 0), cs0 s), ((12, 0), .cells [str kOne, str kUser, .p (.s nilS), .ms (38, 0) 0 n2 N2, int w.op, str w.kind, str w.name, sl (w.values.map Val.row), sl (rowsE w.kids)]), ((38, 0), .arr 1 R2 0)]⟩ .ret ⟨[(8, bool true)], []⟩ := by
  have hso : SubjOk s := ⟨by omega, fun c hc => (hsd c hc).ok⟩
  have hc := contains21 s hso (testF s) (testF_of s hsd hs) [oneG [] exc w] (one_ok hw hwn (by simp) (by omega)) (one_okd hw _ _) kOne (one_len _ _ hw _ _)
  rw [one_law _ _ hw, one_want _ _ hw] at hc
  have hl := lists_loopN_38 s hs hsd w hw exc he30 R2 n2 N2 hR2 hn2 ha2 ht2 _ rfl s [] rfl rfl
  simp only [List.length_nil] at hl
  have hsr : [oneG [] exc w].map Seg.row = [(oneG [] exc w).row] := rfl
  rw [hsr] at hc
  clear hsr hso hw hsd
  cases hf : s.find? isUser with
  | none =>
    rw [hf] at hl hc
    simp only [wantOne, listsOut] at hl hc
    exact EvCode.tail [.row [.sl (strs exc)], .val, .row [.sl (List.map (fun (i : Nat) => List.take ti33.sz (List.drop (i * ti33.sz) [nrm (PV.s (Value.string kOne)), nrm (PV.s (Value.string kUser)), nrm (PV.s nilS), PV.sl (strs exc), nrm (PV.s (Value.int IntKind.i64 w.op)), nrm (PV.s (Value.string w.kind)), nrm (PV.s (Value.string w.name)), nrm (PV.sl (List.map Val.row w.values)), nrm (PV.sl (rowsE w.kids))])) (List.range (1 : Nat)))], .call (Ev.bool false) ([]), .loop [(10 : Nat), (11 : Nat), (12 : Nat), (13 : Nat)] [((11 : Nat), (0 : Nat)), ((12 : Nat), (0 : Nat)), ((38 : Nat), (0 : Nat))] (AE.exit (0 : Nat)) ({ e := [((12 : Nat), AV.p (PV.s (Value.bool false)))], s := [] }), .same] [(8 : Nat)] [] (.cons (⟨hR2, (by omega)⟩ : R2.length = N2 ∧ (0 : Nat) + n2 ≤ N2) (.cons (congrArg (fun z => some [PV.sl z]) ht2) (.cons (⟨rfl, (by omega)⟩ : (1 : Nat) = (1 : Nat) ∧ (1 : Nat) ≤ (1 : Nat)) (.cons (by simp : some [PV.sl (List.take (1 : Nat) (List.drop (0 : Nat) (List.map (fun (i : Nat) => List.take ti33.sz (List.drop (i * ti33.sz) [nrm (PV.s (Value.string kOne)), nrm (PV.s (Value.string kUser)), nrm (PV.s nilS), PV.sl (strs exc), nrm (PV.s (Value.int IntKind.i64 w.op)), nrm (PV.s (Value.string w.kind)), nrm (PV.s (Value.string w.name)), nrm (PV.sl (List.map Val.row w.values)), nrm (PV.sl (rowsE w.kids))])) (List.range (1 : Nat)))))] = some [PV.sl (List.map (fun (i : Nat) => List.take ti33.sz (List.drop (i * ti33.sz) [nrm (PV.s (Value.string kOne)), nrm (PV.s (Value.string kUser)), nrm (PV.s nilS), PV.sl (strs exc), nrm (PV.s (Value.int IntKind.i64 w.op)), nrm (PV.s (Value.string w.kind)), nrm (PV.s (Value.string w.name)), nrm (PV.sl (List.map Val.row w.values)), nrm (PV.sl (rowsE w.kids))])) (List.range (1 : Nat)))]) (.cons hc (.cons hl .nil)))))) (by kernel_rfl)
  | some c =>
    rw [hf] at hl hc
    generalize wantOne (testF s) [] exc w (some c) = b at hl hc
    simp only [listsOut] at hl
    exact EvCode.tail [.row [.sl (strs exc)], .val, .row [.sl (List.map (fun (i : Nat) => List.take ti33.sz (List.drop (i * ti33.sz) [nrm (PV.s (Value.string kOne)), nrm (PV.s (Value.string kUser)), nrm (PV.s nilS), PV.sl (strs exc), nrm (PV.s (Value.int IntKind.i64 w.op)), nrm (PV.s (Value.string w.kind)), nrm (PV.s (Value.string w.name)), nrm (PV.sl (List.map Val.row w.values)), nrm (PV.sl (rowsE w.kids))])) (List.range (1 : Nat)))], .call (Ev.bool b) ([]), .loop [(10 : Nat), (11 : Nat), (12 : Nat), (13 : Nat)] [((11 : Nat), (0 : Nat)), ((12 : Nat), (0 : Nat)), ((38 : Nat), (0 : Nat))] (AE.ret) ({ e := [((8 : Nat), AV.p (PV.s (Value.bool true)))], s := [] })] [(8 : Nat)] [] (.cons (⟨hR2, (by omega)⟩ : R2.length = N2 ∧ (0 : Nat) + n2 ≤ N2) (.cons (congrArg (fun z => some [PV.sl z]) ht2) (.cons (⟨rfl, (by omega)⟩ : (1 : Nat) = (1 : Nat) ∧ (1 : Nat) ≤ (1 : Nat)) (.cons (by simp : some [PV.sl (List.take (1 : Nat) (List.drop (0 : Nat) (List.map (fun (i : Nat) => List.take ti33.sz (List.drop (i * ti33.sz) [nrm (PV.s (Value.string kOne)), nrm (PV.s (Value.string kUser)), nrm (PV.s nilS), PV.sl (strs exc), nrm (PV.s (Value.int IntKind.i64 w.op)), nrm (PV.s (Value.string w.kind)), nrm (PV.s (Value.string w.name)), nrm (PV.sl (List.map Val.row w.values)), nrm (PV.sl (rowsE w.kids))])) (List.range (1 : Nat)))))] = some [PV.sl (List.map (fun (i : Nat) => List.take ti33.sz (List.drop (i * ti33.sz) [nrm (PV.s (Value.string kOne)), nrm (PV.s (Value.string kUser)), nrm (PV.s nilS), PV.sl (strs exc), nrm (PV.s (Value.int IntKind.i64 w.op)), nrm (PV.s (Value.string w.kind)), nrm (PV.s (Value.string w.name)), nrm (PV.sl (List.map Val.row w.values)), nrm (PV.sl (rowsE w.kids))])) (List.range (1 : Nat)))]) (.cons hc (.cons hl .nil)))))) (by kernel_rfl)

theorem lists_loop32_N (s : List Ctx) (hs : s.length ≤ 2) (hsd : ∀ c ∈ s, DrC c) (w : Exp) (hw : DrE [] w) (inc : List ByteArray) (hi30 : inc.length ≤ 2 ^ 30) (R1 : List (List PV)) (n1 N1 : Nat) (hR1 : R1.length = N1) (hn1 : n1 ≤ N1) (ha1 : RowsAre 1 R1) (ht1 : List.take n1 (List.drop 0 R1) = strs inc) (b : Bool) (hb : b = wantOne (testF s) inc [] w (s.find? isUser)) : ∀ (suf pre : List Ctx), s = pre ++ suf → s.find? isUser = suf.find? isUser →
    EvCode cx (EvCall cx) (.loop (loopBody Tryz.f5 0)) ⟨[(10, .ref (11, 0) 0), (11, .ref (12, 0) 0), (12, bool b), (13, int pre.length)], [((11, 0), cs0 s), ((12, 0), .cells [str kOne, str kUser, .ms (32, 0) 0 n1 N1, .p (.s nilS), int w.op, str w.kind, str w.name, sl (w.values.map Val.row), sl (rowsE w.kids)]), ((32, 0), .arr 1 R1 R1.length)]⟩
      (listsOut (suf.find? isUser) b).1 (listsOut (suf.find? isUser) b).2
  | [], pre, h, hf => by
    have hq : pre.length = s.length := by rw [h]; simp
    have hge : ¬ (pre.length : Int) < (s.length : Int) := by omega
    simp only [List.find?_nil, listsOut]
    exact EvCode.out [F, .same] [(12 : Nat)] [] (.cons (vb (by simp; omega : decide ((↑pre.length : Int) < (↑(List.map Ctx.row s).length : Int)) = false)) .nil) (AE.ne_exit _) (by kernel_rfl)
  | c :: r, pre, h, hf => by
    have hlt : pre.length < s.length := by rw [h]; simp
    have hrow : rowI (s.map Ctx.row) (pre.length : Int) = some c.row := by
      apply rowI_at
      simp only [List.getElem?_map, get_of_split h, Option.map_some]
    cases hk : isUser c with
    | false =>
      have hne : (!(c.kind.toList == kUser.toList)) = true := by unfold isUser eqS at hk; rw [hk]; rfl
      have hf2 : s.find? isUser = r.find? isUser := by rw [hf, List.find?_cons, hk]
      have ih := lists_loop32_N s hs hsd w hw inc hi30 R1 n1 N1 hR1 hn1 ha1 ht1 b hb r (pre ++ [c]) (by simp [h]) hf2
      simp only [List.length_append, List.length_singleton] at ih
      simp only [List.find?_cons, hk]
      generalize listsOut (List.find? isUser r) b = o at ih ⊢
      clear hb hf hf2 hw hsd
      exact EvCode.round [T, .same, .row (c.row), .same, T, .same, .v (.int .i64 ((pre.length + (1 : Nat) : Nat) : Int))] [(10 : Nat), (11 : Nat), (12 : Nat), (13 : Nat)] [((11 : Nat), (0 : Nat)), ((12 : Nat), (0 : Nat)), ((32 : Nat), (0 : Nat))] (.cons (vb (by simp; omega : decide ((↑pre.length : Int) < (↑(List.map Ctx.row s).length : Int)) = true)) (.cons hrow (.cons (vb hne) (.cons (natVi64 (by omega) (by omega) (by omega) : Value.int .i64 (IntKind.i64.wrap ((↑pre.length : Int) + (1 : Int))) = .int .i64 ((pre.length + (1 : Nat) : Nat) : Int)) .nil)))) (by kernel_rfl) ih
    | true =>
      have hne : (!(c.kind.toList == kUser.toList)) = false := by unfold isUser eqS at hk; rw [hk]; rfl
      have hf2 : s.find? isUser = some c := by rw [hf, List.find?_cons, hk]
      rw [hf2] at hb
      simp only [wantOne] at hb
      have hE := hasR [] c.key (by simp)
      have hI := hasR inc c.key (by omega)
      have hV := evalR s hsd hs [] (by simp) w hw.okd
      unfold RefAt at hV
      simp only [List.find?_cons, hk, listsOut]
      clear hf hf2 hw hsd
      have z0 : hasS [] c.key = false := rfl
      rw [z0] at hE
      simp only [z0, cond_false] at hb
      cases x2 : hasS inc c.key with
      | true =>
        rw [x2] at hI hb
        simp only [cond_true] at hb
        subst hb
        clear hV
        exact EvCode.out [T, .same, .row (c.row), .same, F, .same, .val, .call (Ev.bool false) ([]), .same, .val, .row [.sl (strs inc)], .call (Ev.bool true) ([]), .same] [(8 : Nat)] [] (.cons (vb (by simp; omega : decide ((↑pre.length : Int) < (↑(List.map Ctx.row s).length : Int)) = true)) (.cons hrow (.cons (vb hne) (.cons hE (.cons (⟨hR1, (by omega)⟩ : R1.length = N1 ∧ (0 : Nat) + n1 ≤ N1) (.cons (congrArg (fun z => some [PV.sl z]) ht1) (.cons hI .nil))))))) AE.ne_ret (by kernel_rfl)
      | false =>
        rw [x2] at hI hb
        simp only [cond_false] at hb
        rw [← hb] at hV
        clear hb
        cases b with
        | true => exact EvCode.out [T, .same, .row (c.row), .same, F, .same, .val, .call (Ev.bool false) ([]), .same, .val, .row [.sl (strs inc)], .call (Ev.bool false) ([]), .same, .val, .call (Ev.bool true) ([])] [(8 : Nat)] [] (.cons (vb (by simp; omega : decide ((↑pre.length : Int) < (↑(List.map Ctx.row s).length : Int)) = true)) (.cons hrow (.cons (vb hne) (.cons hE (.cons (⟨hR1, (by omega)⟩ : R1.length = N1 ∧ (0 : Nat) + n1 ≤ N1) (.cons (congrArg (fun z => some [PV.sl z]) ht1) (.cons hI (.cons hV .nil)))))))) AE.ne_ret (by kernel_rfl)
        | false => exact EvCode.out [T, .same, .row (c.row), .same, F, .same, .val, .call (Ev.bool false) ([]), .same, .val, .row [.sl (strs inc)], .call (Ev.bool false) ([]), .same, .val, .call (Ev.bool false) ([])] [(8 : Nat)] [] (.cons (vb (by simp; omega : decide ((↑pre.length : Int) < (↑(List.map Ctx.row s).length : Int)) = true)) (.cons hrow (.cons (vb hne) (.cons hE (.cons (⟨hR1, (by omega)⟩ : R1.length = N1 ∧ (0 : Nat) + n1 ≤ N1) (.cons (congrArg (fun z => some [PV.sl z]) ht1) (.cons hI (.cons hV .nil)))))))) AE.ne_ret (by kernel_rfl)
theorem lists_tail32_N (s : List Ctx) (hs : s.length ≤ 2) (hsd : ∀ c ∈ s, DrC c) (w : Exp) (hw : DrE [] w) (hwn : w.nodes ≤ 67) (inc : List ByteArray) (hi30 : inc.length ≤ 2 ^ 30) (R1 : List (List PV)) (n1 N1 : Nat) (hR1 : R1.length = N1) (hn1 : n1 ≤ N1) (ha1 : RowsAre 1 R1) (ht1 : List.take n1 (List.drop 0 R1) = strs inc) :
    EvCode cx (EvCall cx) (tailAt Tryz.f5 8) ⟨[(10, .ref (11, 0) 0), (11, .ref (12, 0) 0)], [((11, 0), cs0 s), ((12, 0), .cells [str kOne, str kUser, .ms (32, 0) 0 n1 N1, .p (.s nilS), int w.op, str w.kind, str w.name, sl (w.values.map Val.row), sl (rowsE w.kids)]), ((32, 0), .arr 1 R1 0)]⟩ .ret ⟨[(8, bool true)], []⟩ := by
  have hso : SubjOk s := ⟨by omega, fun c hc => (hsd c hc).ok⟩
  have hc := contains21 s hso (testF s) (testF_of s hsd hs) [oneG inc [] w] (one_ok hw hwn (by omega) (by simp)) (one_okd hw _ _) kOne (one_len _ _ hw _ _)
  rw [one_law _ _ hw, one_want _ _ hw] at hc
  have hl := lists_loop32_N s hs hsd w hw inc hi30 R1 n1 N1 hR1 hn1 ha1 ht1 _ rfl s [] rfl rfl
  simp only [List.length_nil] at hl
  have hsr : [oneG inc [] w].map Seg.row = [(oneG inc [] w).row] := rfl
  rw [hsr] at hc
  clear hsr hso hw hsd
  cases hf : s.find? isUser with
  | none =>
    rw [hf] at hl hc
    simp only [wantOne, listsOut] at hl hc
    exact EvCode.tail [.row [.sl (strs inc)], .val, .row [.sl (List.map (fun (i : Nat) => List.take ti33.sz (List.drop (i * ti33.sz) [nrm (PV.s (Value.string kOne)), nrm (PV.s (Value.string kUser)), PV.sl (strs inc), nrm (PV.s nilS), nrm (PV.s (Value.int IntKind.i64 w.op)), nrm (PV.s (Value.string w.kind)), nrm (PV.s (Value.string w.name)), nrm (PV.sl (List.map Val.row w.values)), nrm (PV.sl (rowsE w.kids))])) (List.range (1 : Nat)))], .call (Ev.bool false) ([]), .loop [(10 : Nat), (11 : Nat), (12 : Nat), (13 : Nat)] [((11 : Nat), (0 : Nat)), ((12 : Nat), (0 : Nat)), ((32 : Nat), (0 : Nat))] (AE.exit (0 : Nat)) ({ e := [((12 : Nat), AV.p (PV.s (Value.bool false)))], s := [] }), .same] [(8 : Nat)] [] (.cons (⟨hR1, (by omega)⟩ : R1.length = N1 ∧ (0 : Nat) + n1 ≤ N1) (.cons (congrArg (fun z => some [PV.sl z]) ht1) (.cons (⟨rfl, (by omega)⟩ : (1 : Nat) = (1 : Nat) ∧ (1 : Nat) ≤ (1 : Nat)) (.cons (by simp : some [PV.sl (List.take (1 : Nat) (List.drop (0 : Nat) (List.map (fun (i : Nat) => List.take ti33.sz (List.drop (i * ti33.sz) [nrm (PV.s (Value.string kOne)), nrm (PV.s (Value.string kUser)), PV.sl (strs inc), nrm (PV.s nilS), nrm (PV.s (Value.int IntKind.i64 w.op)), nrm (PV.s (Value.string w.kind)), nrm (PV.s (Value.string w.name)), nrm (PV.sl (List.map Val.row w.values)), nrm (PV.sl (rowsE w.kids))])) (List.range (1 : Nat)))))] = some [PV.sl (List.map (fun (i : Nat) => List.take ti33.sz (List.drop (i * ti33.sz) [nrm (PV.s (Value.string kOne)), nrm (PV.s (Value.string kUser)), PV.sl (strs inc), nrm (PV.s nilS), nrm (PV.s (Value.int IntKind.i64 w.op)), nrm (PV.s (Value.string w.kind)), nrm (PV.s (Value.string w.name)), nrm (PV.sl (List.map Val.row w.values)), nrm (PV.sl (rowsE w.kids))])) (List.range (1 : Nat)))]) (.cons hc (.cons hl .nil)))))) (by kernel_rfl)
  | some c =>
    rw [hf] at hl hc
    generalize wantOne (testF s) inc [] w (some c) = b at hl hc
    simp only [listsOut] at hl
    exact EvCode.tail [.row [.sl (strs inc)], .val, .row [.sl (List.map (fun (i : Nat) => List.take ti33.sz (List.drop (i * ti33.sz) [nrm (PV.s (Value.string kOne)), nrm (PV.s (Value.string kUser)), PV.sl (strs inc), nrm (PV.s nilS), nrm (PV.s (Value.int IntKind.i64 w.op)), nrm (PV.s (Value.string w.kind)), nrm (PV.s (Value.string w.name)), nrm (PV.sl (List.map Val.row w.values)), nrm (PV.sl (rowsE w.kids))])) (List.range (1 : Nat)))], .call (Ev.bool b) ([]), .loop [(10 : Nat), (11 : Nat), (12 : Nat), (13 : Nat)] [((11 : Nat), (0 : Nat)), ((12 : Nat), (0 : Nat)), ((32 : Nat), (0 : Nat))] (AE.ret) ({ e := [((8 : Nat), AV.p (PV.s (Value.bool true)))], s := [] })] [(8 : Nat)] [] (.cons (⟨hR1, (by omega)⟩ : R1.length = N1 ∧ (0 : Nat) + n1 ≤ N1) (.cons (congrArg (fun z => some [PV.sl z]) ht1) (.cons (⟨rfl, (by omega)⟩ : (1 : Nat) = (1 : Nat) ∧ (1 : Nat) ≤ (1 : Nat)) (.cons (by simp : some [PV.sl (List.take (1 : Nat) (List.drop (0 : Nat) (List.map (fun (i : Nat) => List.take ti33.sz (List.drop (i * ti33.sz) [nrm (PV.s (Value.string kOne)), nrm (PV.s (Value.string kUser)), PV.sl (strs inc), nrm (PV.s nilS), nrm (PV.s (Value.int IntKind.i64 w.op)), nrm (PV.s (Value.string w.kind)), nrm (PV.s (Value.string w.name)), nrm (PV.sl (List.map Val.row w.values)), nrm (PV.sl (rowsE w.kids))])) (List.range (1 : Nat)))))] = some [PV.sl (List.map (fun (i : Nat) => List.take ti33.sz (List.drop (i * ti33.sz) [nrm (PV.s (Value.string kOne)), nrm (PV.s (Value.string kUser)), PV.sl (strs inc), nrm (PV.s nilS), nrm (PV.s (Value.int IntKind.i64 w.op)), nrm (PV.s (Value.string w.kind)), nrm (PV.s (Value.string w.name)), nrm (PV.sl (List.map Val.row w.values)), nrm (PV.sl (rowsE w.kids))])) (List.range (1 : Nat)))]) (.cons hc (.cons hl .nil)))))) (by kernel_rfl)

theorem lists_loop32_36 (s : List Ctx) (hs : s.length ≤ 2) (hsd : ∀ c ∈ s, DrC c) (w : Exp) (hw : DrE [] w) (inc : List ByteArray) (hi30 : inc.length ≤ 2 ^ 30) (R1 : List (List PV)) (n1 N1 : Nat) (hR1 : R1.length = N1) (hn1 : n1 ≤ N1) (ha1 : RowsAre 1 R1) (ht1 : List.take n1 (List.drop 0 R1) = strs inc) (exc : List ByteArray) (he30 : exc.length ≤ 2 ^ 30) (R2 : List (List PV)) (n2 N2 : Nat) (hR2 : R2.length = N2) (hn2 : n2 ≤ N2) (ha2 : RowsAre 1 R2) (ht2 : List.take n2 (List.drop 0 R2) = strs exc) (b : Bool) (hb : b = wantOne (testF s) inc exc w (s.find? isUser)) : ∀ (suf pre : List Ctx), s = pre ++ suf → s.find? isUser = suf.find? isUser →
    EvCode cx (EvCall cx) (.loop (loopBody Tryz.f5 0)) ⟨[(10, .ref (11, 0) 0), (11, .ref (12, 0) 0), (12, bool b), (13, int pre.length)], [((11, 0), cs0 s), ((12, 0), .cells [str kOne, str kUser, .ms (32, 0) 0 n1 N1, .ms (36, 0) 0 n2 N2, int w.op, str w.kind, str w.name, sl (w.values.map Val.row), sl (rowsE w.kids)]), ((32, 0), .arr 1 R1 R1.length), ((36, 0), .arr 1 R2 R2.length)]⟩
      (listsOut (suf.find? isUser) b).1 (listsOut (suf.find? isUser) b).2
  | [], pre, h, hf => by
    have hq : pre.length = s.length := by rw [h]; simp
    have hge : ¬ (pre.length : Int) < (s.length : Int) := by omega
    simp only [List.find?_nil, listsOut]
    exact EvCode.out [F, .same] [(12 : Nat)] [] (.cons (vb (by simp; omega : decide ((↑pre.length : Int) < (↑(List.map Ctx.row s).length : Int)) = false)) .nil) (AE.ne_exit _) (by kernel_rfl)
  | c :: r, pre, h, hf => by
    have hlt : pre.length < s.length := by rw [h]; simp
    have hrow : rowI (s.map Ctx.row) (pre.length : Int) = some c.row := by
      apply rowI_at
      simp only [List.getElem?_map, get_of_split h, Option.map_some]
    cases hk : isUser c with
    | false =>
      have hne : (!(c.kind.toList == kUser.toList)) = true := by unfold isUser eqS at hk; rw [hk]; rfl
      have hf2 : s.find? isUser = r.find? isUser := by rw [hf, List.find?_cons, hk]
      have ih := lists_loop32_36 s hs hsd w hw inc hi30 R1 n1 N1 hR1 hn1 ha1 ht1 exc he30 R2 n2 N2 hR2 hn2 ha2 ht2 b hb r (pre ++ [c]) (by simp [h]) hf2
      simp only [List.length_append, List.length_singleton] at ih
      simp only [List.find?_cons, hk]
      generalize listsOut (List.find? isUser r) b = o at ih ⊢
      clear hb hf hf2 hw hsd
      exact EvCode.round [T, .same, .row (c.row), .same, T, .same, .v (.int .i64 ((pre.length + (1 : Nat) : Nat) : Int))] [(10 : Nat), (11 : Nat), (12 : Nat), (13 : Nat)] [((11 : Nat), (0 : Nat)), ((12 : Nat), (0 : Nat)), ((32 : Nat), (0 : Nat)), ((36 : Nat), (0 : Nat))] (.cons (vb (by simp; omega : decide ((↑pre.length : Int) < (↑(List.map Ctx.row s).length : Int)) = true)) (.cons hrow (.cons (vb hne) (.cons (natVi64 (by omega) (by omega) (by omega) : Value.int .i64 (IntKind.i64.wrap ((↑pre.length : Int) + (1 : Int))) = .int .i64 ((pre.length + (1 : Nat) : Nat) : Int)) .nil)))) (by kernel_rfl) ih
    | true =>
      have hne : (!(c.kind.toList == kUser.toList)) = false := by unfold isUser eqS at hk; rw [hk]; rfl
      have hf2 : s.find? isUser = some c := by rw [hf, List.find?_cons, hk]
      rw [hf2] at hb
      simp only [wantOne] at hb
      have hE := hasR exc c.key (by omega)
      have hI := hasR inc c.key (by omega)
      have hV := evalR s hsd hs [] (by simp) w hw.okd
      unfold RefAt at hV
      simp only [List.find?_cons, hk, listsOut]
      clear hf hf2 hw hsd
      have z0 : hasS [] c.key = false := rfl
      cases x1 : hasS exc c.key with
      | true =>
        rw [x1] at hE hb
        simp only [cond_true] at hb
        subst hb
        clear hI hV
        exact EvCode.out [T, .same, .row (c.row), .same, F, .same, .val, .row [.sl (strs exc)], .call (Ev.bool true) ([]), .same, .same] [(8 : Nat)] [] (.cons (vb (by simp; omega : decide ((↑pre.length : Int) < (↑(List.map Ctx.row s).length : Int)) = true)) (.cons hrow (.cons (vb hne) (.cons (⟨hR2, (by omega)⟩ : R2.length = N2 ∧ (0 : Nat) + n2 ≤ N2) (.cons (congrArg (fun z => some [PV.sl z]) ht2) (.cons hE .nil)))))) AE.ne_ret (by kernel_rfl)
      | false =>
        rw [x1] at hE hb
        simp only [z0, cond_false] at hb
        cases x2 : hasS inc c.key with
        | true =>
          rw [x2] at hI hb
          simp only [cond_true] at hb
          subst hb
          clear hV
          exact EvCode.out [T, .same, .row (c.row), .same, F, .same, .val, .row [.sl (strs exc)], .call (Ev.bool false) ([]), .same, .val, .row [.sl (strs inc)], .call (Ev.bool true) ([]), .same] [(8 : Nat)] [] (.cons (vb (by simp; omega : decide ((↑pre.length : Int) < (↑(List.map Ctx.row s).length : Int)) = true)) (.cons hrow (.cons (vb hne) (.cons (⟨hR2, (by omega)⟩ : R2.length = N2 ∧ (0 : Nat) + n2 ≤ N2) (.cons (congrArg (fun z => some [PV.sl z]) ht2) (.cons hE (.cons (⟨hR1, (by omega)⟩ : R1.length = N1 ∧ (0 : Nat) + n1 ≤ N1) (.cons (congrArg (fun z => some [PV.sl z]) ht1) (.cons hI .nil))))))))) AE.ne_ret (by kernel_rfl)
        | false =>
          rw [x2] at hI hb
          simp only [cond_false] at hb
          rw [← hb] at hV
          clear hb
          cases b with
          | true => exact EvCode.out [T, .same, .row (c.row), .same, F, .same, .val, .row [.sl (strs exc)], .call (Ev.bool false) ([]), .same, .val, .row [.sl (strs inc)], .call (Ev.bool false) ([]), .same, .val, .call (Ev.bool true) ([])] [(8 : Nat)] [] (.cons (vb (by simp; omega : decide ((↑pre.length : Int) < (↑(List.map Ctx.row s).length : Int)) = true)) (.cons hrow (.cons (vb hne) (.cons (⟨hR2, (by omega)⟩ : R2.length = N2 ∧ (0 : Nat) + n2 ≤ N2) (.cons (congrArg (fun z => some [PV.sl z]) ht2) (.cons hE (.cons (⟨hR1, (by omega)⟩ : R1.length = N1 ∧ (0 : Nat) + n1 ≤ N1) (.cons (congrArg (fun z => some [PV.sl z]) ht1) (.cons hI (.cons hV .nil)))))))))) AE.ne_ret (by kernel_rfl)
          | false => exact EvCode.out [T, .same, .row (c.row), .same, F, .same, .val, .row [.sl (strs exc)], .call (Ev.bool false) ([]), .same, .val, .row [.sl (strs inc)], .call (Ev.bool false) ([]), .same, .val, .call (Ev.bool false) ([])] [(8 : Nat)] [] (.cons (vb (by simp; omega : decide ((↑pre.length : Int) < (↑(List.map Ctx.row s).length : Int)) = true)) (.cons hrow (.cons (vb hne) (.cons (⟨hR2, (by omega)⟩ : R2.length = N2 ∧ (0 : Nat) + n2 ≤ N2) (.cons (congrArg (fun z => some [PV.sl z]) ht2) (.cons hE (.cons (⟨hR1, (by omega)⟩ : R1.length = N1 ∧ (0 : Nat) + n1 ≤ N1) (.cons (congrArg (fun z => some [PV.sl z]) ht1) (.cons hI (.cons hV .nil)))))))))) AE.ne_ret (by kernel_rfl)
theorem lists_tail32_36 (s : List Ctx) (hs : s.length ≤ 2) (hsd : ∀ c ∈ s, DrC c) (w : Exp) (hw : DrE [] w) (hwn : w.nodes ≤ 67) (inc : List ByteArray) (hi30 : inc.length ≤ 2 ^ 30) (R1 : List (List PV)) (n1 N1 : Nat) (hR1 : R1.length = N1) (hn1 : n1 ≤ N1) (ha1 : RowsAre 1 R1) (ht1 : List.take n1 (List.drop 0 R1) = strs inc) (exc : List ByteArray) (he30 : exc.length ≤ 2 ^ 30) (R2 : List (List PV)) (n2 N2 : Nat) (hR2 : R2.length = N2) (hn2 : n2 ≤ N2) (ha2 : RowsAre 1 R2) (ht2 : List.take n2 (List.drop 0 R2) = strs exc) :
    EvCode cx (EvCall cx) (tailAt Tryz.f5 8) ⟨[(10, .ref (11, 0) 0), (11, .ref (12, 0) 0)], [((11, 0), cs0 s), ((12, 0), .cells [str kOne, str kUser, .ms (32, 0) 0 n1 N1, .ms (36, 0) 0 n2 N2, int w.op, str w.kind, str w.name, sl (w.values.map Val.row), sl (rowsE w.kids)]), ((32, 0), .arr 1 R1 0), ((36, 0), .arr 1 R2 0)]⟩ .ret ⟨[(8, bool true)], []⟩ := by
  have hso : SubjOk s := ⟨by omega, fun c hc => (hsd c hc).ok⟩
  have hc := contains21 s hso (testF s) (testF_of s hsd hs) [oneG inc exc w] (one_ok hw hwn (by omega) (by omega)) (one_okd hw _ _) kOne (one_len _ _ hw _ _)
  rw [one_law _ _ hw, one_want _ _ hw] at hc
  have hl := lists_loop32_36 s hs hsd w hw inc hi30 R1 n1 N1 hR1 hn1 ha1 ht1 exc he30 R2 n2 N2 hR2 hn2 ha2 ht2 _ rfl s [] rfl rfl
  simp only [List.length_nil] at hl
  have hsr : [oneG inc exc w].map Seg.row = [(oneG inc exc w).row] := rfl
  rw [hsr] at hc
  clear hsr hso hw hsd
  cases hf : s.find? isUser with
  | none =>
    rw [hf] at hl hc
    simp only [wantOne, listsOut] at hl hc
    exact EvCode.tail [.row [.sl (strs inc)], .row [.sl (strs exc)], .val, .row [.sl (List.map (fun (i : Nat) => List.take ti33.sz (List.drop (i * ti33.sz) [nrm (PV.s (Value.string kOne)), nrm (PV.s (Value.string kUser)), PV.sl (strs inc), PV.sl (strs exc), nrm (PV.s (Value.int IntKind.i64 w.op)), nrm (PV.s (Value.string w.kind)), nrm (PV.s (Value.string w.name)), nrm (PV.sl (List.map Val.row w.values)), nrm (PV.sl (rowsE w.kids))])) (List.range (1 : Nat)))], .call (Ev.bool false) ([]), .loop [(10 : Nat), (11 : Nat), (12 : Nat), (13 : Nat)] [((11 : Nat), (0 : Nat)), ((12 : Nat), (0 : Nat)), ((32 : Nat), (0 : Nat)), ((36 : Nat), (0 : Nat))] (AE.exit (0 : Nat)) ({ e := [((12 : Nat), AV.p (PV.s (Value.bool false)))], s := [] }), .same] [(8 : Nat)] [] (.cons (⟨hR1, (by omega)⟩ : R1.length = N1 ∧ (0 : Nat) + n1 ≤ N1) (.cons (congrArg (fun z => some [PV.sl z]) ht1) (.cons (⟨hR2, (by omega)⟩ : R2.length = N2 ∧ (0 : Nat) + n2 ≤ N2) (.cons (congrArg (fun z => some [PV.sl z]) ht2) (.cons (⟨rfl, (by omega)⟩ : (1 : Nat) = (1 : Nat) ∧ (1 : Nat) ≤ (1 : Nat)) (.cons (by simp : some [PV.sl (List.take (1 : Nat) (List.drop (0 : Nat) (List.map (fun (i : Nat) => List.take ti33.sz (List.drop (i * ti33.sz) [nrm (PV.s (Value.string kOne)), nrm (PV.s (Value.string kUser)), PV.sl (strs inc), PV.sl (strs exc), nrm (PV.s (Value.int IntKind.i64 w.op)), nrm (PV.s (Value.string w.kind)), nrm (PV.s (Value.string w.name)), nrm (PV.sl (List.map Val.row w.values)), nrm (PV.sl (rowsE w.kids))])) (List.range (1 : Nat)))))] = some [PV.sl (List.map (fun (i : Nat) => List.take ti33.sz (List.drop (i * ti33.sz) [nrm (PV.s (Value.string kOne)), nrm (PV.s (Value.string kUser)), PV.sl (strs inc), PV.sl (strs exc), nrm (PV.s (Value.int IntKind.i64 w.op)), nrm (PV.s (Value.string w.kind)), nrm (PV.s (Value.string w.name)), nrm (PV.sl (List.map Val.row w.values)), nrm (PV.sl (rowsE w.kids))])) (List.range (1 : Nat)))]) (.cons hc (.cons hl .nil)))))))) (by kernel_rfl)
  | some c =>
    rw [hf] at hl hc
    generalize wantOne (testF s) inc exc w (some c) = b at hl hc
    simp only [listsOut] at hl
    exact EvCode.tail [.row [.sl (strs inc)], .row [.sl (strs exc)], .val, .row [.sl (List.map (fun (i : Nat) => List.take ti33.sz (List.drop (i * ti33.sz) [nrm (PV.s (Value.string kOne)), nrm (PV.s (Value.string kUser)), PV.sl (strs inc), PV.sl (strs exc), nrm (PV.s (Value.int IntKind.i64 w.op)), nrm (PV.s (Value.string w.kind)), nrm (PV.s (Value.string w.name)), nrm (PV.sl (List.map Val.row w.values)), nrm (PV.sl (rowsE w.kids))])) (List.range (1 : Nat)))], .call (Ev.bool b) ([]), .loop [(10 : Nat), (11 : Nat), (12 : Nat), (13 : Nat)] [((11 : Nat), (0 : Nat)), ((12 : Nat), (0 : Nat)), ((32 : Nat), (0 : Nat)), ((36 : Nat), (0 : Nat))] (AE.ret) ({ e := [((8 : Nat), AV.p (PV.s (Value.bool true)))], s := [] })] [(8 : Nat)] [] (.cons (⟨hR1, (by omega)⟩ : R1.length = N1 ∧ (0 : Nat) + n1 ≤ N1) (.cons (congrArg (fun z => some [PV.sl z]) ht1) (.cons (⟨hR2, (by omega)⟩ : R2.length = N2 ∧ (0 : Nat) + n2 ≤ N2) (.cons (congrArg (fun z => some [PV.sl z]) ht2) (.cons (⟨rfl, (by omega)⟩ : (1 : Nat) = (1 : Nat) ∧ (1 : Nat) ≤ (1 : Nat)) (.cons (by simp : some [PV.sl (List.take (1 : Nat) (List.drop (0 : Nat) (List.map (fun (i : Nat) => List.take ti33.sz (List.drop (i * ti33.sz) [nrm (PV.s (Value.string kOne)), nrm (PV.s (Value.string kUser)), PV.sl (strs inc), PV.sl (strs exc), nrm (PV.s (Value.int IntKind.i64 w.op)), nrm (PV.s (Value.string w.kind)), nrm (PV.s (Value.string w.name)), nrm (PV.sl (List.map Val.row w.values)), nrm (PV.sl (rowsE w.kids))])) (List.range (1 : Nat)))))] = some [PV.sl (List.map (fun (i : Nat) => List.take ti33.sz (List.drop (i * ti33.sz) [nrm (PV.s (Value.string kOne)), nrm (PV.s (Value.string kUser)), PV.sl (strs inc), PV.sl (strs exc), nrm (PV.s (Value.int IntKind.i64 w.op)), nrm (PV.s (Value.string w.kind)), nrm (PV.s (Value.string w.name)), nrm (PV.sl (List.map Val.row w.values)), nrm (PV.sl (rowsE w.kids))])) (List.range (1 : Nat)))]) (.cons hc (.cons hl .nil)))))))) (by kernel_rfl)

theorem lists_loop32_38 (s : List Ctx) (hs : s.length ≤ 2) (hsd : ∀ c ∈ s, DrC c) (w : Exp) (hw : DrE [] w) (inc : List ByteArray) (hi30 : inc.length ≤ 2 ^ 30) (R1 : List (List PV)) (n1 N1 : Nat) (hR1 : R1.length = N1) (hn1 : n1 ≤ N1) (ha1 : RowsAre 1 R1) (ht1 : List.take n1 (List.drop 0 R1) = strs inc) (exc : List ByteArray) (he30 : exc.length ≤ 2 ^ 30) (R2 : List (List PV)) (n2 N2 : Nat) (hR2 : R2.length = N2) (hn2 : n2 ≤ N2) (ha2 : RowsAre 1 R2) (ht2 : List.take n2 (List.drop 0 R2) = strs exc) (b : Bool) (hb : b = wantOne (testF s) inc exc w (s.find? isUser)) : ∀ (suf pre : List Ctx), s = pre ++ suf → s.find? isUser = suf.find? isUser →
    EvCode cx (EvCall cx) (.loop (loopBody Tryz.f5 0)) ⟨[(10, .ref (11, 0) 0), (11, .ref (12, 0) 0), (12, bool b), (13, int pre.length)], [((11, 0), cs0 s), ((12, 0), .cells [str kOne, str kUser, .ms (32, 0) 0 n1 N1, .ms (38, 0) 0 n2 N2, int w.op, str w.kind, str w.name, sl (w.values.map Val.row), sl (rowsE w.kids)]), ((32, 0), .arr 1 R1 R1.length), ((38, 0), .arr 1 R2 R2.length)]⟩
      (listsOut (suf.find? isUser) b).1 (listsOut (suf.find? isUser) b).2
  | [], pre, h, hf => by
    have hq : pre.length = s.length := by rw [h]; simp
    have hge : ¬ (pre.length : Int) < (s.length : Int) := by omega
    simp only [List.find?_nil, listsOut]
    exact EvCode.out [F, .same] [(12 : Nat)] [] (.cons (vb (by simp; omega : decide ((↑pre.length : Int) < (↑(List.map Ctx.row s).length : Int)) = false)) .nil) (AE.ne_exit _) (by kernel_rfl)
  | c :: r, pre, h, hf => by
    have hlt : pre.length < s.length := by rw [h]; simp
    have hrow : rowI (s.map Ctx.row) (pre.length : Int) = some c.row := by
      apply rowI_at
      simp only [List.getElem?_map, get_of_split h, Option.map_some]
    cases hk : isUser c with
    | false =>
      have hne : (!(c.kind.toList == kUser.toList)) = true := by unfold isUser eqS at hk; rw [hk]; rfl
      have hf2 : s.find? isUser = r.find? isUser := by rw [hf, List.find?_cons, hk]
      have ih := lists_loop32_38 s hs hsd w hw inc hi30 R1 n1 N1 hR1 hn1 ha1 ht1 exc he30 R2 n2 N2 hR2 hn2 ha2 ht2 b hb r (pre ++ [c]) (by simp [h]) hf2
      simp only [List.length_append, List.length_singleton] at ih
      simp only [List.find?_cons, hk]
      generalize listsOut (List.find? isUser r) b = o at ih ⊢
      clear hb hf hf2 hw hsd
      exact EvCode.round [T, .same, .row (c.row), .same, T, .same, .v (.int .i64 ((pre.length + (1 : Nat) : Nat) : Int))] [(10 : Nat), (11 : Nat), (12 : Nat), (13 : Nat)] [((11 : Nat), (0 : Nat)), ((12 : Nat), (0 : Nat)), ((32 : Nat), (0 : Nat)), ((38 : Nat), (0 : Nat))] (.cons (vb (by simp; omega : decide ((↑pre.length : Int) < (↑(List.map Ctx.row s).length : Int)) = true)) (.cons hrow (.cons (vb hne) (.cons (natVi64 (by omega) (by omega) (by omega) : Value.int .i64 (IntKind.i64.wrap ((↑pre.length : Int) + (1 : Int))) = .int .i64 ((pre.length + (1 : Nat) : Nat) : Int)) .nil)))) (by kernel_rfl) ih
    | true =>
      have hne : (!(c.kind.toList == kUser.toList)) = false := by unfold isUser eqS at hk; rw [hk]; rfl
      have hf2 : s.find? isUser = some c := by rw [hf, List.find?_cons, hk]
      rw [hf2] at hb
      simp only [wantOne] at hb
      have hE := hasR exc c.key (by omega)
      have hI := hasR inc c.key (by omega)
      have hV := evalR s hsd hs [] (by simp) w hw.okd
      unfold RefAt at hV
      simp only [List.find?_cons, hk, listsOut]
      clear hf hf2 hw hsd
      have z0 : hasS [] c.key = false := rfl
      cases x1 : hasS exc c.key with
      | true =>
        rw [x1] at hE hb
        simp only [cond_true] at hb
        subst hb
        clear hI hV
        exact EvCode.out [T, .same, .row (c.row), .same, F, .same, .val, .row [.sl (strs exc)], .call (Ev.bool true) ([]), .same, .same] [(8 : Nat)] [] (.cons (vb (by simp; omega : decide ((↑pre.length : Int) < (↑(List.map Ctx.row s).length : Int)) = true)) (.cons hrow (.cons (vb hne) (.cons (⟨hR2, (by omega)⟩ : R2.length = N2 ∧ (0 : Nat) + n2 ≤ N2) (.cons (congrArg (fun z => some [PV.sl z]) ht2) (.cons hE .nil)))))) AE.ne_ret (by kernel_rfl)
      | false =>
        rw [x1] at hE hb
        simp only [z0, cond_false] at hb
        cases x2 : hasS inc c.key with
        | true =>
          rw [x2] at hI hb
          simp only [cond_true] at hb
          subst hb
          clear hV
          exact EvCode.out [T, .same, .row (c.row), .same, F, .same, .val, .row [.sl (strs exc)], .call (Ev.bool false) ([]), .same, .val, .row [.sl (strs inc)], .call (Ev.bool true) ([]), .same] [(8 : Nat)] [] (.cons (vb (by simp; omega : decide ((↑pre.length : Int) < (↑(List.map Ctx.row s).length : Int)) = true)) (.cons hrow (.cons (vb hne) (.cons (⟨hR2, (by omega)⟩ : R2.length = N2 ∧ (0 : Nat) + n2 ≤ N2) (.cons (congrArg (fun z => some [PV.sl z]) ht2) (.cons hE (.cons (⟨hR1, (by omega)⟩ : R1.length = N1 ∧ (0 : Nat) + n1 ≤ N1) (.cons (congrArg (fun z => some [PV.sl z]) ht1) (.cons hI .nil))))))))) AE.ne_ret (by kernel_rfl)
        | false =>
          rw [x2] at hI hb
          simp only [cond_false] at hb
          rw [← hb] at hV
          clear hb
          cases b with
          | true => exact EvCode.out [T, .same, .row (c.row), .same, F, .same, .val, .row [.sl (strs exc)], .call (Ev.bool false) ([]), .same, .val, .row [.sl (strs inc)], .call (Ev.bool false) ([]), .same, .val, .call (Ev.bool true) ([])] [(8 : Nat)] [] (.cons (vb (by simp; omega : decide ((↑pre.length : Int) < (↑(List.map Ctx.row s).length : Int)) = true)) (.cons hrow (.cons (vb hne) (.cons (⟨hR2, (by omega)⟩ : R2.length = N2 ∧ (0 : Nat) + n2 ≤ N2) (.cons (congrArg (fun z => some [PV.sl z]) ht2) (.cons hE (.cons (⟨hR1, (by omega)⟩ : R1.length = N1 ∧ (0 : Nat) + n1 ≤ N1) (.cons (congrArg (fun z => some [PV.sl z]) ht1) (.cons hI (.cons hV .nil)))))))))) AE.ne_ret (by kernel_rfl)
          | false => exact EvCode.out [T, .same, .row (c.row), .same, F, .same, .val, .row [.sl (strs exc)], .call (Ev.bool false) ([]), .same, .val, .row [.sl (strs inc)], .call (Ev.bool false) ([]), .same, .val, .call (Ev.bool false) ([])] [(8 : Nat)] [] (.cons (vb (by simp; omega : decide ((↑pre.length : Int) < (↑(List.map Ctx.row s).length : Int)) = true)) (.cons hrow (.cons (vb hne) (.cons (⟨hR2, (by omega)⟩ : R2.length = N2 ∧ (0 : Nat) + n2 ≤ N2) (.cons (congrArg (fun z => some [PV.sl z]) ht2) (.cons hE (.cons (⟨hR1, (by omega)⟩ : R1.length = N1 ∧ (0 : Nat) + n1 ≤ N1) (.cons (congrArg (fun z => some [PV.sl z]) ht1) (.cons hI (.cons hV .nil)))))))))) AE.ne_ret (by kernel_rfl)
theorem lists_tail32_38 (s : List Ctx) (hs : s.length ≤ 2) (hsd : ∀ c ∈ s, DrC c) (w : Exp) (hw : DrE [] w) (hwn : w.nodes ≤ 67) (inc : List ByteArray) (hi30 : inc.length ≤ 2 ^ 30) (R1 : List (List PV)) (n1 N1 : Nat) (hR1 : R1.length = N1) (hn1 : n1 ≤ N1) (ha1 : RowsAre 1 R1) (ht1 : List.take n1 (List.drop 0 R1) = strs inc) (exc : List ByteArray) (he30 : exc.length ≤ 2 ^ 30) (R2 : List (List PV)) (n2 N2 : Nat) (hR2 : R2.length = N2) (hn2 : n2 ≤ N2) (ha2 : RowsAre 1 R2) (ht2 : List.take n2 (List.drop 0 R2) = strs exc) :
    EvCode cx (EvCall cx) (tailAt Tryz.f5 8) ⟨[(10, .ref (11, 0) 0), (11, .ref (12, 0) 0)], [((11, 0), cs0 s), ((12, 0), .cells [str kOne, str kUser, .ms (32, 0) 0 n1 N1, .ms (38, 0) 0 n2 N2, int w.op, str w.kind, str w.name, sl (w.values.map Val.row), sl (rowsE w.kids)]), ((32, 0), .arr 1 R1 0), ((38, 0), .arr 1 R2 0)]⟩ .ret ⟨[(8, bool true)], []⟩ := by
  have hso : SubjOk s := ⟨by omega, fun c hc => (hsd c hc).ok⟩
  have hc := contains21 s hso (testF s) (testF_of s hsd hs) [oneG inc exc w] (one_ok hw hwn (by omega) (by omega)) (one_okd hw _ _) kOne (one_len _ _ hw _ _)
  rw [one_law _ _ hw, one_want _ _ hw] at hc
  have hl := lists_loop32_38 s hs hsd w hw inc hi30 R1 n1 N1 hR1 hn1 ha1 ht1 exc he30 R2 n2 N2 hR2 hn2 ha2 ht2 _ rfl s [] rfl rfl
  simp only [List.length_nil] at hl
  have hsr : [oneG inc exc w].map Seg.row = [(oneG inc exc w).row] := rfl
  rw [hsr] at hc
  clear hsr hso hw hsd
  cases hf : s.find? isUser with
  | none =>
    rw [hf] at hl hc
    simp only [wantOne, listsOut] at hl hc
    exact EvCode.tail [.row [.sl (strs inc)], .row [.sl (strs exc)], .val, .row [.sl (List.map (fun (i : Nat) => List.take ti33.sz (List.drop (i * ti33.sz) [nrm (PV.s (Value.string kOne)), nrm (PV.s (Value.string kUser)), PV.sl (strs inc), PV.sl (strs exc), nrm (PV.s (Value.int IntKind.i64 w.op)), nrm (PV.s (Value.string w.kind)), nrm (PV.s (Value.string w.name)), nrm (PV.sl (List.map Val.row w.values)), nrm (PV.sl (rowsE w.kids))])) (List.range (1 : Nat)))], .call (Ev.bool false) ([]), .loop [(10 : Nat), (11 : Nat), (12 : Nat), (13 : Nat)] [((11 : Nat), (0 : Nat)), ((12 : Nat), (0 : Nat)), ((32 : Nat), (0 : Nat)), ((38 : Nat), (0 : Nat))] (AE.exit (0 : Nat)) ({ e := [((12 : Nat), AV.p (PV.s (Value.bool false)))], s := [] }), .same] [(8 : Nat)] [] (.cons (⟨hR1, (by omega)⟩ : R1.length = N1 ∧ (0 : Nat) + n1 ≤ N1) (.cons (congrArg (fun z => some [PV.sl z]) ht1) (.cons (⟨hR2, (by omega)⟩ : R2.length = N2 ∧ (0 : Nat) + n2 ≤ N2) (.cons (congrArg (fun z => some [PV.sl z]) ht2) (.cons (⟨rfl, (by omega)⟩ : (1 : Nat) = (1 : Nat) ∧ (1 : Nat) ≤ (1 : Nat)) (.cons (by simp : some [PV.sl (List.take (1 : Nat) (List.drop (0 : Nat) (List.map (fun (i : Nat) => List.take ti33.sz (List.drop (i * ti33.sz) [nrm (PV.s (Value.string kOne)), nrm (PV.s (Value.string kUser)), PV.sl (strs inc), PV.sl (strs exc), nrm (PV.s (Value.int IntKind.i64 w.op)), nrm (PV.s (Value.string w.kind)), nrm (PV.s (Value.string w.name)), nrm (PV.sl (List.map Val.row w.values)), nrm (PV.sl (rowsE w.kids))])) (List.range (1 : Nat)))))] = some [PV.sl (List.map (fun (i : Nat) => List.take ti33.sz (List.drop (i * ti33.sz) [nrm (PV.s (Value.string kOne)), nrm (PV.s (Value.string kUser)), PV.sl (strs inc), PV.sl (strs exc), nrm (PV.s (Value.int IntKind.i64 w.op)), nrm (PV.s (Value.string w.kind)), nrm (PV.s (Value.string w.name)), nrm (PV.sl (List.map Val.row w.values)), nrm (PV.sl (rowsE w.kids))])) (List.range (1 : Nat)))]) (.cons hc (.cons hl .nil)))))))) (by kernel_rfl)
  | some c =>
    rw [hf] at hl hc
    generalize wantOne (testF s) inc exc w (some c) = b at hl hc
    simp only [listsOut] at hl
    exact EvCode.tail [.row [.sl (strs inc)], .row [.sl (strs exc)], .val, .row [.sl (List.map (fun (i : Nat) => List.take ti33.sz (List.drop (i * ti33.sz) [nrm (PV.s (Value.string kOne)), nrm (PV.s (Value.string kUser)), PV.sl (strs inc), PV.sl (strs exc), nrm (PV.s (Value.int IntKind.i64 w.op)), nrm (PV.s (Value.string w.kind)), nrm (PV.s (Value.string w.name)), nrm (PV.sl (List.map Val.row w.values)), nrm (PV.sl (rowsE w.kids))])) (List.range (1 : Nat)))], .call (Ev.bool b) ([]), .loop [(10 : Nat), (11 : Nat), (12 : Nat), (13 : Nat)] [((11 : Nat), (0 : Nat)), ((12 : Nat), (0 : Nat)), ((32 : Nat), (0 : Nat)), ((38 : Nat), (0 : Nat))] (AE.ret) ({ e := [((8 : Nat), AV.p (PV.s (Value.bool true)))], s := [] })] [(8 : Nat)] [] (.cons (⟨hR1, (by omega)⟩ : R1.length = N1 ∧ (0 : Nat) + n1 ≤ N1) (.cons (congrArg (fun z => some [PV.sl z]) ht1) (.cons (⟨hR2, (by omega)⟩ : R2.length = N2 ∧ (0 : Nat) + n2 ≤ N2) (.cons (congrArg (fun z => some [PV.sl z]) ht2) (.cons (⟨rfl, (by omega)⟩ : (1 : Nat) = (1 : Nat) ∧ (1 : Nat) ≤ (1 : Nat)) (.cons (by simp : some [PV.sl (List.take (1 : Nat) (List.drop (0 : Nat) (List.map (fun (i : Nat) => List.take ti33.sz (List.drop (i * ti33.sz) [nrm (PV.s (Value.string kOne)), nrm (PV.s (Value.string kUser)), PV.sl (strs inc), PV.sl (strs exc), nrm (PV.s (Value.int IntKind.i64 w.op)), nrm (PV.s (Value.string w.kind)), nrm (PV.s (Value.string w.name)), nrm (PV.sl (List.map Val.row w.values)), nrm (PV.sl (rowsE w.kids))])) (List.range (1 : Nat)))))] = some [PV.sl (List.map (fun (i : Nat) => List.take ti33.sz (List.drop (i * ti33.sz) [nrm (PV.s (Value.string kOne)), nrm (PV.s (Value.string kUser)), PV.sl (strs inc), PV.sl (strs exc), nrm (PV.s (Value.int IntKind.i64 w.op)), nrm (PV.s (Value.string w.kind)), nrm (PV.s (Value.string w.name)), nrm (PV.sl (List.map Val.row w.values)), nrm (PV.sl (rowsE w.kids))])) (List.range (1 : Nat)))]) (.cons hc (.cons hl .nil)))))))) (by kernel_rfl)

theorem lists_loop34_N (s : List Ctx) (hs : s.length ≤ 2) (hsd : ∀ c ∈ s, DrC c) (w : Exp) (hw : DrE [] w) (inc : List ByteArray) (hi30 : inc.length ≤ 2 ^ 30) (R1 : List (List PV)) (n1 N1 : Nat) (hR1 : R1.length = N1) (hn1 : n1 ≤ N1) (ha1 : RowsAre 1 R1) (ht1 : List.take n1 (List.drop 0 R1) = strs inc) (b : Bool) (hb : b = wantOne (testF s) inc [] w (s.find? isUser)) : ∀ (suf pre : List Ctx), s = pre ++ suf → s.find? isUser = suf.find? isUser →
    EvCode cx (EvCall cx) (.loop (loopBody Tryz.f5 0)) ⟨[(10, .ref (11, 0) 0), (11, .ref (12, 0) 0), (12, bool b), (13, int pre.length)], [((11, 0), cs0 s), ((12, 0), .cells [str kOne, str kUser, .ms (34, 0) 0 n1 N1, .p (.s nilS), int w.op, str w.kind, str w.name, sl (w.values.map Val.row), sl (rowsE w.kids)]), ((34, 0), .arr 1 R1 R1.length)]⟩
      (listsOut (suf.find? isUser) b).1 (listsOut (suf.find? isUser) b).2
  | [], pre, h, hf => by
    have hq : pre.length = s.length := by rw [h]; simp
    have hge : ¬ (pre.length : Int) < (s.length : Int) := by omega
    simp only [List.find?_nil, listsOut]
    exact EvCode.out [F, .same] [(12 : Nat)] [] (.cons (vb (by simp; omega : decide ((↑pre.length : Int) < (↑(List.map Ctx.row s).length : Int)) = false)) .nil) (AE.ne_exit _) (by kernel_rfl)
  | c :: r, pre, h, hf => by
    have hlt : pre.length < s.length := by rw [h]; simp
    have hrow : rowI (s.map Ctx.row) (pre.length : Int) = some c.row := by
      apply rowI_at
      simp only [List.getElem?_map, get_of_split h, Option.map_some]
    cases hk : isUser c with
    | false =>
      have hne : (!(c.kind.toList == kUser.toList)) = true := by unfold isUser eqS at hk; rw [hk]; rfl
      have hf2 : s.find? isUser = r.find? isUser := by rw [hf, List.find?_cons, hk]
      have ih := lists_loop34_N s hs hsd w hw inc hi30 R1 n1 N1 hR1 hn1 ha1 ht1 b hb r (pre ++ [c]) (by simp [h]) hf2
      simp only [List.length_append, List.length_singleton] at ih
      simp only [List.find?_cons, hk]
      generalize listsOut (List.find? isUser r) b = o at ih ⊢
      clear hb hf hf2 hw hsd
      exact EvCode.round [T, .same, .row (c.row), .same, T, .same, .v (.int .i64 ((pre.length + (1 : Nat) : Nat) : Int))] [(10 : Nat), (11 : Nat), (12 : Nat), (13 : Nat)] [((11 : Nat), (0 : Nat)), ((12 : Nat), (0 : Nat)), ((34 : Nat), (0 : Nat))] (.cons (vb (by simp; omega : decide ((↑pre.length : Int) < (↑(List.map Ctx.row s).length : Int)) = true)) (.cons hrow (.cons (vb hne) (.cons (natVi64 (by omega) (by omega) (by omega) : Value.int .i64 (IntKind.i64.wrap ((↑pre.length : Int) + (1 : Int))) = .int .i64 ((pre.length + (1 : Nat) : Nat) : Int)) .nil)))) (by kernel_rfl) ih
    | true =>
      have hne : (!(c.kind.toList == kUser.toList)) = false := by unfold isUser eqS at hk; rw [hk]; rfl
      have hf2 : s.find? isUser = some c := by rw [hf, List.find?_cons, hk]
      rw [hf2] at hb
      simp only [wantOne] at hb
      have hE := hasR [] c.key (by simp)
      have hI := hasR inc c.key (by omega)
      have hV := evalR s hsd hs [] (by simp) w hw.okd
      unfold RefAt at hV
      simp only [List.find?_cons, hk, listsOut]
      clear hf hf2 hw hsd
      have z0 : hasS [] c.key = false := rfl
      rw [z0] at hE
      simp only [z0, cond_false] at hb
      cases x2 : hasS inc c.key with
      | true =>
        rw [x2] at hI hb
        simp only [cond_true] at hb
        subst hb
        clear hV
        exact EvCode.out [T, .same, .row (c.row), .same, F, .same, .val, .call (Ev.bool false) ([]), .same, .val, .row [.sl (strs inc)], .call (Ev.bool true) ([]), .same] [(8 : Nat)] [] (.cons (vb (by simp; omega : decide ((↑pre.length : Int) < (↑(List.map Ctx.row s).length : Int)) = true)) (.cons hrow (.cons (vb hne) (.cons hE (.cons (⟨hR1, (by omega)⟩ : R1.length = N1 ∧ (0 : Nat) + n1 ≤ N1) (.cons (congrArg (fun z => some [PV.sl z]) ht1) (.cons hI .nil))))))) AE.ne_ret (by kernel_rfl)
      | false =>
        rw [x2] at hI hb
        simp only [cond_false] at hb
        rw [← hb] at hV
        clear hb
        cases b with
        | true => exact EvCode.out [T, .same, .row (c.row), .same, F, .same, .val, .call (Ev.bool false) ([]), .same, .val, .row [.sl (strs inc)], .call (Ev.bool false) ([]), .same, .val, .call (Ev.bool true) ([])] [(8 : Nat)] [] (.cons (vb (by simp; omega : decide ((↑pre.length : Int) < (↑(List.map Ctx.row s).length : Int)) = true)) (.cons hrow (.cons (vb hne) (.cons hE (.cons (⟨hR1, (by omega)⟩ : R1.length = N1 ∧ (0 : Nat) + n1 ≤ N1) (.cons (congrArg (fun z => some [PV.sl z]) ht1) (.cons hI (.cons hV .nil)))))))) AE.ne_ret (by kernel_rfl)
        | false => exact EvCode.out [T, .same, .row (c.row), .same, F, .same, .val, .call (Ev.bool false) ([]), .same, .val, .row [.sl (strs inc)], .call (Ev.bool false) ([]), .same, .val, .call (Ev.bool false) ([])] [(8 : Nat)] [] (.cons (vb (by simp; omega : decide ((↑pre.length : Int) < (↑(List.map Ctx.row s).length : Int)) = true)) (.cons hrow (.cons (vb hne) (.cons hE (.cons (⟨hR1, (by omega)⟩ : R1.length = N1 ∧ (0 : Nat) + n1 ≤ N1) (.cons (congrArg (fun z => some [PV.sl z]) ht1) (.cons hI (.cons hV .nil)))))))) AE.ne_ret (by kernel_rfl)
theorem lists_tail34_N (s : List Ctx) (hs : s.length ≤ 2) (hsd : ∀ c ∈ s, DrC c) (w : Exp) (hw : DrE [] w) (hwn : w.nodes ≤ 67) (inc : List ByteArray) (hi30 : inc.length ≤ 2 ^ 30) (R1 : List (List PV)) (n1 N1 : Nat) (hR1 : R1.length = N1) (hn1 : n1 ≤ N1) (ha1 : RowsAre 1 R1) (ht1 : List.take n1 (List.drop 0 R1) = strs inc) :
    EvCode cx (EvCall cx) (tailAt Tryz.f5 8) ⟨[(10, .ref (11, 0) 0), (11, .ref (12, 0) 0)], [((11, 0), cs0 s), ((12, 0), .cells [str kOne, str kUser, .ms (34, 0) 0 n1 N1, .p (.s nilS), int w.op, str w.kind, str w.name, sl (w.values.map Val.row), sl (rowsE w.kids)]), ((34, 0), .arr 1 R1 0)]⟩ .ret ⟨[(8, bool true)], []⟩ := by
  have hso : SubjOk s := ⟨by omega, fun c hc => (hsd c hc).ok⟩
  have hc := contains21 s hso (testF s) (testF_of s hsd hs) [oneG inc [] w] (one_ok hw hwn (by omega) (by simp)) (one_okd hw _ _) kOne (one_len _ _ hw _ _)
  rw [one_law _ _ hw, one_want _ _ hw] at hc
  have hl := lists_loop34_N s hs hsd w hw inc hi30 R1 n1 N1 hR1 hn1 ha1 ht1 _ rfl s [] rfl rfl
  simp only [List.length_nil] at hl
  have hsr : [oneG inc [] w].map Seg.row = [(oneG inc [] w).row] := rfl
  rw [hsr] at hc
  clear hsr hso hw hsd
  cases hf : s.find? isUser with
  | none =>
    rw [hf] at hl hc
    simp only [wantOne, listsOut] at hl hc
    exact EvCode.tail [.row [.sl (strs inc)], .val, .row [.sl (List.map (fun (i : Nat) => List.take ti33.sz (List.drop (i * ti33.sz) [nrm (PV.s (Value.string kOne)), nrm (PV.s (Value.string kUser)), PV.sl (strs inc), nrm (PV.s nilS), nrm (PV.s (Value.int IntKind.i64 w.op)), nrm (PV.s (Value.string w.kind)), nrm (PV.s (Value.string w.name)), nrm (PV.sl (List.map Val.row w.values)), nrm (PV.sl (rowsE w.kids))])) (List.range (1 : Nat)))], .call (Ev.bool false) ([]), .loop [(10 : Nat), (11 : Nat), (12 : Nat), (13 : Nat)] [((11 : Nat), (0 : Nat)), ((12 : Nat), (0 : Nat)), ((34 : Nat), (0 : Nat))] (AE.exit (0 : Nat)) ({ e := [((12 : Nat), AV.p (PV.s (Value.bool false)))], s := [] }), .same] [(8 : Nat)] [] (.cons (⟨hR1, (by omega)⟩ : R1.length = N1 ∧ (0 : Nat) + n1 ≤ N1) (.cons (congrArg (fun z => some [PV.sl z]) ht1) (.cons (⟨rfl, (by omega)⟩ : (1 : Nat) = (1 : Nat) ∧ (1 : Nat) ≤ (1 : Nat)) (.cons (by simp : some [PV.sl (List.take (1 : Nat) (List.drop (0 : Nat) (List.map (fun (i : Nat) => List.take ti33.sz (List.drop (i * ti33.sz) [nrm (PV.s (Value.string kOne)), nrm (PV.s (Value.string kUser)), PV.sl (strs inc), nrm (PV.s nilS), nrm (PV.s (Value.int IntKind.i64 w.op)), nrm (PV.s (Value.string w.kind)), nrm (PV.s (Value.string w.name)), nrm (PV.sl (List.map Val.row w.values)), nrm (PV.sl (rowsE w.kids))])) (List.range (1 : Nat)))))] = some [PV.sl (List.map (fun (i : Nat) => List.take ti33.sz (List.drop (i * ti33.sz) [nrm (PV.s (Value.string kOne)), nrm (PV.s (Value.string kUser)), PV.sl (strs inc), nrm (PV.s nilS), nrm (PV.s (Value.int IntKind.i64 w.op)), nrm (PV.s (Value.string w.kind)), nrm (PV.s (Value.string w.name)), nrm (PV.sl (List.map Val.row w.values)), nrm (PV.sl (rowsE w.kids))])) (List.range (1 : Nat)))]) (.cons hc (.cons hl .nil)))))) (by kernel_rfl)
  | some c =>
    rw [hf] at hl hc
    generalize wantOne (testF s) inc [] w (some c) = b at hl hc
    simp only [listsOut] at hl
    exact EvCode.tail [.row [.sl (strs inc)], .val, .row [.sl (List.map (fun (i : Nat) => List.take ti33.sz (List.drop (i * ti33.sz) [nrm (PV.s (Value.string kOne)), nrm (PV.s (Value.string kUser)), PV.sl (strs inc), nrm (PV.s nilS), nrm (PV.s (Value.int IntKind.i64 w.op)), nrm (PV.s (Value.string w.kind)), nrm (PV.s (Value.string w.name)), nrm (PV.sl (List.map Val.row w.values)), nrm (PV.sl (rowsE w.kids))])) (List.range (1 : Nat)))], .call (Ev.bool b) ([]), .loop [(10 : Nat), (11 : Nat), (12 : Nat), (13 : Nat)] [((11 : Nat), (0 : Nat)), ((12 : Nat), (0 : Nat)), ((34 : Nat), (0 : Nat))] (AE.ret) ({ e := [((8 : Nat), AV.p (PV.s (Value.bool true)))], s := [] })] [(8 : Nat)] [] (.cons (⟨hR1, (by omega)⟩ : R1.length = N1 ∧ (0 : Nat) + n1 ≤ N1) (.cons (congrArg (fun z => some [PV.sl z]) ht1) (.cons (⟨rfl, (by omega)⟩ : (1 : Nat) = (1 : Nat) ∧ (1 : Nat) ≤ (1 : Nat)) (.cons (by simp : some [PV.sl (List.take (1 : Nat) (List.drop (0 : Nat) (List.map (fun (i : Nat) => List.take ti33.sz (List.drop (i * ti33.sz) [nrm (PV.s (Value.string kOne)), nrm (PV.s (Value.string kUser)), PV.sl (strs inc), nrm (PV.s nilS), nrm (PV.s (Value.int IntKind.i64 w.op)), nrm (PV.s (Value.string w.kind)), nrm (PV.s (Value.string w.name)), nrm (PV.sl (List.map Val.row w.values)), nrm (PV.sl (rowsE w.kids))])) (List.range (1 : Nat)))))] = some [PV.sl (List.map (fun (i : Nat) => List.take ti33.sz (List.drop (i * ti33.sz) [nrm (PV.s (Value.string kOne)), nrm (PV.s (Value.string kUser)), PV.sl (strs inc), nrm (PV.s nilS), nrm (PV.s (Value.int IntKind.i64 w.op)), nrm (PV.s (Value.string w.kind)), nrm (PV.s (Value.string w.name)), nrm (PV.sl (List.map Val.row w.values)), nrm (PV.sl (rowsE w.kids))])) (List.range (1 : Nat)))]) (.cons hc (.cons hl .nil)))))) (by kernel_rfl)

theorem lists_loop34_36 (s : List Ctx) (hs : s.length ≤ 2) (hsd : ∀ c ∈ s, DrC c) (w : Exp) (hw : DrE [] w) (inc : List ByteArray) (hi30 : inc.length ≤ 2 ^ 30) (R1 : List (List PV)) (n1 N1 : Nat) (hR1 : R1.length = N1) (hn1 : n1 ≤ N1) (ha1 : RowsAre 1 R1) (ht1 : List.take n1 (List.drop 0 R1) = strs inc) (exc : List ByteArray) (he30 : exc.length ≤ 2 ^ 30) (R2 : List (List PV)) (n2 N2 : Nat) (hR2 : R2.length = N2) (hn2 : n2 ≤ N2) (ha2 : RowsAre 1 R2) (ht2 : List.take n2 (List.drop 0 R2) = strs exc) (b : Bool) (hb : b = wantOne (testF s) inc exc w (s.find? isUser)) : ∀ (suf pre : List Ctx), s = pre ++ suf → s.find? isUser = suf.find? isUser →
    EvCode cx (EvCall cx) (.loop (loopBody Tryz.f5 0)) ⟨[(10, .ref (11, 0) 0), (11, .ref (12, 0) 0), (12, bool b), (13, int pre.length)], [((11, 0), cs0 s), ((12, 0), .cells [str kOne, str kUser, .ms (34, 0) 0 n1 N1, .ms (36, 0) 0 n2 N2, int w.op, str w.kind, str w.name, sl (w.values.map Val.row), sl (rowsE w.kids)]), ((34, 0), .arr 1 R1 R1.length), ((36, 0), .arr 1 R2 R2.length)]⟩
      (listsOut (suf.find? isUser) b).1 (listsOut (suf.find? isUser) b).2
  | [], pre, h, hf => by
    have hq : pre.length = s.length := by rw [h]; simp
    have hge : ¬ (pre.length : Int) < (s.length : Int) := by omega
    simp only [List.find?_nil, listsOut]
    exact EvCode.out [F, .same] [(12 : Nat)] [] (.cons (vb (by simp; omega : decide ((↑pre.length : Int) < (↑(List.map Ctx.row s).length : Int)) = false)) .nil) (AE.ne_exit _) (by kernel_rfl)
  | c :: r, pre, h, hf => by
    have hlt : pre.length < s.length := by rw [h]; simp
    have hrow : rowI (s.map Ctx.row) (pre.length : Int) = some c.row := by
      apply rowI_at
      simp only [List.getElem?_map, get_of_split h, Option.map_some]
    cases hk : isUser c with
    | false =>
      have hne : (!(c.kind.toList == kUser.toList)) = true := by unfold isUser eqS at hk; rw [hk]; rfl
      have hf2 : s.find? isUser = r.find? isUser := by rw [hf, List.find?_cons, hk]
      have ih := lists_loop34_36 s hs hsd w hw inc hi30 R1 n1 N1 hR1 hn1 ha1 ht1 exc he30 R2 n2 N2 hR2 hn2 ha2 ht2 b hb r (pre ++ [c]) (by simp [h]) hf2
      simp only [List.length_append, List.length_singleton] at ih
      simp only [List.find?_cons, hk]
      generalize listsOut (List.find? isUser r) b = o at ih ⊢
      clear hb hf hf2 hw hsd
      exact EvCode.round [T, .same, .row (c.row), .same, T, .same, .v (.int .i64 ((pre.length + (1 : Nat) : Nat) : Int))] [(10 : Nat), (11 : Nat), (12 : Nat), (13 : Nat)] [((11 : Nat), (0 : Nat)), ((12 : Nat), (0 : Nat)), ((34 : Nat), (0 : Nat)), ((36 : Nat), (0 : Nat))] (.cons (vb (by simp; omega : decide ((↑pre.length : Int) < (↑(List.map Ctx.row s).length : Int)) = true)) (.cons hrow (.cons (vb hne) (.cons (natVi64 (by omega) (by omega) (by omega) : Value.int .i64 (IntKind.i64.wrap ((↑pre.length : Int) + (1 : Int))) = .int .i64 ((pre.length + (1 : Nat) : Nat) : Int)) .nil)))) (by kernel_rfl) ih
    | true =>
      have hne : (!(c.kind.toList == kUser.toList)) = false := by unfold isUser eqS at hk; rw [hk]; rfl
      have hf2 : s.find? isUser = some c := by rw [hf, List.find?_cons, hk]
      rw [hf2] at hb
      simp only [wantOne] at hb
      have hE := hasR exc c.key (by omega)
      have hI := hasR inc c.key (by omega)
      have hV := evalR s hsd hs [] (by simp) w hw.okd
      unfold RefAt at hV
      simp only [List.find?_cons, hk, listsOut]
      clear hf hf2 hw hsd
      have z0 : hasS [] c.key = false := rfl
      cases x1 : hasS exc c.key with
      | true =>
        rw [x1] at hE hb
        simp only [cond_true] at hb
        subst hb
        clear hI hV
        exact EvCode.out [T, .same, .row (c.row), .same, F, .same, .val, .row [.sl (strs exc)], .call (Ev.bool true) ([]), .same, .same] [(8 : Nat)] [] (.cons (vb (by simp; omega : decide ((↑pre.length : Int) < (↑(List.map Ctx.row s).length : Int)) = true)) (.cons hrow (.cons (vb hne) (.cons (⟨hR2, (by omega)⟩ : R2.length = N2 ∧ (0 : Nat) + n2 ≤ N2) (.cons (congrArg (fun z => some [PV.sl z]) ht2) (.cons hE .nil)))))) AE.ne_ret (by kernel_rfl)
      | false =>
        rw [x1] at hE hb
        simp only [z0, cond_false] at hb
        cases x2 : hasS inc c.key with
        | true =>
          rw [x2] at hI hb
          simp only [cond_true] at hb
          subst hb
          clear hV
          exact EvCode.out [T, .same, .row (c.row), .same, F, .same, .val, .row [.sl (strs exc)], .call (Ev.bool false) ([]), .same, .val, .row [.sl (strs inc)], .call (Ev.bool true) ([]), .same] [(8 : Nat)] [] (.cons (vb (by simp; omega : decide ((↑pre.length : Int) < (↑(List.map Ctx.row s).length : Int)) = true)) (.cons hrow (.cons (vb hne) (.cons (⟨hR2, (by omega)⟩ : R2.length = N2 ∧ (0 : Nat) + n2 ≤ N2) (.cons (congrArg (fun z => some [PV.sl z]) ht2) (.cons hE (.cons (⟨hR1, (by omega)⟩ : R1.length = N1 ∧ (0 : Nat) + n1 ≤ N1) (.cons (congrArg (fun z => some [PV.sl z]) ht1) (.cons hI .nil))))))))) AE.ne_ret (by kernel_rfl)
        | false =>
          rw [x2] at hI hb
          simp only [cond_false] at hb
          rw [← hb] at hV
          clear hb
          cases b with
          | true => exact EvCode.out [T, .same, .row (c.row), .same, F, .same, .val, .row [.sl (strs exc)], .call (Ev.bool false) ([]), .same, .val, .row [.sl (strs inc)], .call (Ev.bool false) ([]), .same, .val, .call (Ev.bool true) ([])] [(8 : Nat)] [] (.cons (vb (by simp; omega : decide ((↑pre.length : Int) < (↑(List.map Ctx.row s).length : Int)) = true)) (.cons hrow (.cons (vb hne) (.cons (⟨hR2, (by omega)⟩ : R2.length = N2 ∧ (0 : Nat) + n2 ≤ N2) (.cons (congrArg (fun z => some [PV.sl z]) ht2) (.cons hE (.cons (⟨hR1, (by omega)⟩ : R1.length = N1 ∧ (0 : Nat) + n1 ≤ N1) (.cons (congrArg (fun z => some [PV.sl z]) ht1) (.cons hI (.cons hV .nil)))))))))) AE.ne_ret (by kernel_rfl)
          | false => exact EvCode.out [T, .same, .row (c.row), .same, F, .same, .val, .row [.sl (strs exc)], .call (Ev.bool false) ([]), .same, .val, .row [.sl (strs inc)], .call (Ev.bool false) ([]), .same, .val, .call (Ev.bool false) ([])] [(8 : Nat)] [] (.cons (vb (by simp; omega : decide ((↑pre.length : Int) < (↑(List.map Ctx.row s).length : Int)) = true)) (.cons hrow (.cons (vb hne) (.cons (⟨hR2, (by omega)⟩ : R2.length = N2 ∧ (0 : Nat) + n2 ≤ N2) (.cons (congrArg (fun z => some [PV.sl z]) ht2) (.cons hE (.cons (⟨hR1, (by omega)⟩ : R1.length = N1 ∧ (0 : Nat) + n1 ≤ N1) (.cons (congrArg (fun z => some [PV.sl z]) ht1) (.cons hI (.cons hV .nil)))))))))) AE.ne_ret (by kernel_rfl)
theorem lists_tail34_36 (s : List Ctx) (hs : s.length ≤ 2) (hsd : ∀ c ∈ s, DrC c) (w : Exp) (hw : DrE [] w) (hwn : w.nodes ≤ 67) (inc : List ByteArray) (hi30 : inc.length ≤ 2 ^ 30) (R1 : List (List PV)) (n1 N1 : Nat) (hR1 : R1.length = N1) (hn1 : n1 ≤ N1) (ha1 : RowsAre 1 R1) (ht1 : List.take n1 (List.drop 0 R1) = strs inc) (exc : List ByteArray) (he30 : exc.length ≤ 2 ^ 30) (R2 : List (List PV)) (n2 N2 : Nat) (hR2 : R2.length = N2) (hn2 : n2 ≤ N2) (ha2 : RowsAre 1 R2) (ht2 : List.take n2 (List.drop 0 R2) = strs exc) :
    EvCode cx (EvCall cx) (tailAt Tryz.f5 8) ⟨[(10, .ref (11, 0) 0), (11, .ref (12, 0) 0)], [((11, 0), cs0 s), ((12, 0), .cells [str kOne, str kUser, .ms (34, 0) 0 n1 N1, .ms (36, 0) 0 n2 N2, int w.op, str w.kind, str w.name, sl (w.values.map Val.row), sl (rowsE w.kids)]), ((34, 0), .arr 1 R1 0), ((36, 0), .arr 1 R2 0)]⟩ .ret ⟨[(8, bool true)], []⟩ := by
  have hso : SubjOk s := ⟨by omega, fun c hc => (hsd c hc).ok⟩
  have hc := contains21 s hso (testF s) (testF_of s hsd hs) [oneG inc exc w] (one_ok hw hwn (by omega) (by omega)) (one_okd hw _ _) kOne (one_len _ _ hw _ _)
  rw [one_law _ _ hw, one_want _ _ hw] at hc
  have hl := lists_loop34_36 s hs hsd w hw inc hi30 R1 n1 N1 hR1 hn1 ha1 ht1 exc he30 R2 n2 N2 hR2 hn2 ha2 ht2 _ rfl s [] rfl rfl
  simp only [List.length_nil] at hl
  have hsr : [oneG inc exc w].map Seg.row = [(oneG inc exc w).row] := rfl
  rw [hsr] at hc
  clear hsr hso hw hsd
  cases hf : s.find? isUser with
  | none =>
    rw [hf] at hl hc
    simp only [wantOne, listsOut] at hl hc
    exact EvCode.tail [.row [.sl (strs inc)], .row [.sl (strs exc)], .val, .row [.sl (List.map (fun (i : Nat) => List.take ti33.sz (List.drop (i * ti33.sz) [nrm (PV.s (Value.string kOne)), nrm (PV.s (Value.string kUser)), PV.sl (strs inc), PV.sl (strs exc), nrm (PV.s (Value.int IntKind.i64 w.op)), nrm (PV.s (Value.string w.kind)), nrm (PV.s (Value.string w.name)), nrm (PV.sl (List.map Val.row w.values)), nrm (PV.sl (rowsE w.kids))])) (List.range (1 : Nat)))], .call (Ev.bool false) ([]), .loop [(10 : Nat), (11 : Nat), (12 : Nat), (13 : Nat)] [((11 : Nat), (0 : Nat)), ((12 : Nat), (0 : Nat)), ((34 : Nat), (0 : Nat)), ((36 : Nat), (0 : Nat))] (AE.exit (0 : Nat)) ({ e := [((12 : Nat), AV.p (PV.s (Value.bool false)))], s := [] }), .same] [(8 : Nat)] [] (.cons (⟨hR1, (by omega)⟩ : R1.length = N1 ∧ (0 : Nat) + n1 ≤ N1) (.cons (congrArg (fun z => some [PV.sl z]) ht1) (.cons (⟨hR2, (by omega)⟩ : R2.length = N2 ∧ (0 : Nat) + n2 ≤ N2) (.cons (congrArg (fun z => some [PV.sl z]) ht2) (.cons (⟨rfl, (by omega)⟩ : (1 : Nat) = (1 : Nat) ∧ (1 : Nat) ≤ (1 : Nat)) (.cons (by simp : some [PV.sl (List.take (1 : Nat) (List.drop (0 : Nat) (List.map (fun (i : Nat) => List.take ti33.sz (List.drop (i * ti33.sz) [nrm (PV.s (Value.string kOne)), nrm (PV.s (Value.string kUser)), PV.sl (strs inc), PV.sl (strs exc), nrm (PV.s (Value.int IntKind.i64 w.op)), nrm (PV.s (Value.string w.kind)), nrm (PV.s (Value.string w.name)), nrm (PV.sl (List.map Val.row w.values)), nrm (PV.sl (rowsE w.kids))])) (List.range (1 : Nat)))))] = some [PV.sl (List.map (fun (i : Nat) => List.take ti33.sz (List.drop (i * ti33.sz) [nrm (PV.s (Value.string kOne)), nrm (PV.s (Value.string kUser)), PV.sl (strs inc), PV.sl (strs exc), nrm (PV.s (Value.int IntKind.i64 w.op)), nrm (PV.s (Value.string w.kind)), nrm (PV.s (Value.string w.name)), nrm (PV.sl (List.map Val.row w.values)), nrm (PV.sl (rowsE w.kids))])) (List.range (1 : Nat)))]) (.cons hc (.cons hl .nil)))))))) (by kernel_rfl)
  | some c =>
    rw [hf] at hl hc
    generalize wantOne (testF s) inc exc w (some c) = b at hl hc
    simp only [listsOut] at hl
    exact EvCode.tail [.row [.sl (strs inc)], .row [.sl (strs exc)], .val, .row [.sl (List.map (fun (i : Nat) => List.take ti33.sz (List.drop (i * ti33.sz) [nrm (PV.s (Value.string kOne)), nrm (PV.s (Value.string kUser)), PV.sl (strs inc), PV.sl (strs exc), nrm (PV.s (Value.int IntKind.i64 w.op)), nrm (PV.s (Value.string w.kind)), nrm (PV.s (Value.string w.name)), nrm (PV.sl (List.map Val.row w.values)), nrm (PV.sl (rowsE w.kids))])) (List.range (1 : Nat)))], .call (Ev.bool b) ([]), .loop [(10 : Nat), (11 : Nat), (12 : Nat), (13 : Nat)] [((11 : Nat), (0 : Nat)), ((12 : Nat), (0 : Nat)), ((34 : Nat), (0 : Nat)), ((36 : Nat), (0 : Nat))] (AE.ret) ({ e := [((8 : Nat), AV.p (PV.s (Value.bool true)))], s := [] })] [(8 : Nat)] [] (.cons (⟨hR1, (by omega)⟩ : R1.length = N1 ∧ (0 : Nat) + n1 ≤ N1) (.cons (congrArg (fun z => some [PV.sl z]) ht1) (.cons (⟨hR2, (by omega)⟩ : R2.length = N2 ∧ (0 : Nat) + n2 ≤ N2) (.cons (congrArg (fun z => some [PV.sl z]) ht2) (.cons (⟨rfl, (by omega)⟩ : (1 : Nat) = (1 : Nat) ∧ (1 : Nat) ≤ (1 : Nat)) (.cons (by simp : some [PV.sl (List.take (1 : Nat) (List.drop (0 : Nat) (List.map (fun (i : Nat) => List.take ti33.sz (List.drop (i * ti33.sz) [nrm (PV.s (Value.string kOne)), nrm (PV.s (Value.string kUser)), PV.sl (strs inc), PV.sl (strs exc), nrm (PV.s (Value.int IntKind.i64 w.op)), nrm (PV.s (Value.string w.kind)), nrm (PV.s (Value.string w.name)), nrm (PV.sl (List.map Val.row w.values)), nrm (PV.sl (rowsE w.kids))])) (List.range (1 : Nat)))))] = some [PV.sl (List.map (fun (i : Nat) => List.take ti33.sz (List.drop (i * ti33.sz) [nrm (PV.s (Value.string kOne)), nrm (PV.s (Value.string kUser)), PV.sl (strs inc), PV.sl (strs exc), nrm (PV.s (Value.int IntKind.i64 w.op)), nrm (PV.s (Value.string w.kind)), nrm (PV.s (Value.string w.name)), nrm (PV.sl (List.map Val.row w.values)), nrm (PV.sl (rowsE w.kids))])) (List.range (1 : Nat)))]) (.cons hc (.cons hl .nil)))))))) (by kernel_rfl)

theorem lists_loop34_38 (s : List Ctx) (hs : s.length ≤ 2) (hsd : ∀ c ∈ s, DrC c) (w : Exp) (hw : DrE [] w) (inc : List ByteArray) (hi30 : inc.length ≤ 2 ^ 30) (R1 : List (List PV)) (n1 N1 : Nat) (hR1 : R1.length = N1) (hn1 : n1 ≤ N1) (ha1 : RowsAre 1 R1) (ht1 : List.take n1 (List.drop 0 R1) = strs inc) (exc : List ByteArray) (he30 : exc.length ≤ 2 ^ 30) (R2 : List (List PV)) (n2 N2 : Nat) (hR2 : R2.length = N2) (hn2 : n2 ≤ N2) (ha2 : RowsAre 1 R2) (ht2 : List.take n2 (List.drop 0 R2) = strs exc) (b : Bool) (hb : b = wantOne (testF s) inc exc w (s.find? isUser)) : ∀ (suf pre : List Ctx), s = pre ++ suf → s.find? isUser = suf.find? isUser →
    EvCode cx (EvCall cx) (.loop (loopBody Tryz.f5 0)) ⟨[(10, .ref (11, 0) 0), (11, .ref (12, 0) 0), (12, bool b), (13, int pre.length)], [((11, 0), cs0 s), ((12, 0), .cells [str kOne, str kUser, .ms (34, 0) 0 n1 N1, .ms (38, 0) 0 n2 N2, int w.op, str w.kind, str w.name, sl (w.values.map Val.row), sl (rowsE w.kids)]), ((34, 0), .arr 1 R1 R1.length), ((38, 0), .arr 1 R2 R2.length)]⟩
      (listsOut (suf.find? isUser) b).1 (listsOut (suf.find? isUser) b).2
  | [], pre, h, hf => by
    have hq : pre.length = s.length := by rw [h]; simp
    have hge : ¬ (pre.length : Int) < (s.length : Int) := by omega
    simp only [List.find?_nil, listsOut]
    exact EvCode.out [F, .same] [(12 : Nat)] [] (.cons (vb (by simp; omega : decide ((↑pre.length : Int) < (↑(List.map Ctx.row s).length : Int)) = false)) .nil) (AE.ne_exit _) (by kernel_rfl)
  | c :: r, pre, h, hf => by
    have hlt : pre.length < s.length := by rw [h]; simp
    have hrow : rowI (s.map Ctx.row) (pre.length : Int) = some c.row := by
      apply rowI_at
      simp only [List.getElem?_map, get_of_split h, Option.map_some]
    cases hk : isUser c with
    | false =>
      have hne : (!(c.kind.toList == kUser.toList)) = true := by unfold isUser eqS at hk; rw [hk]; rfl
      have hf2 : s.find? isUser = r.find? isUser := by rw [hf, List.find?_cons, hk]
      have ih := lists_loop34_38 s hs hsd w hw inc hi30 R1 n1 N1 hR1 hn1 ha1 ht1 exc he30 R2 n2 N2 hR2 hn2 ha2 ht2 b hb r (pre ++ [c]) (by simp [h]) hf2
      simp only [List.length_append, List.length_singleton] at ih
      simp only [List.find?_cons, hk]
      generalize listsOut (List.find? isUser r) b = o at ih ⊢
      clear hb hf hf2 hw hsd
      exact EvCode.round [T, .same, .row (c.row), .same, T, .same, .v (.int .i64 ((pre.length + (1 : Nat) : Nat) : Int))] [(10 : Nat), (11 : Nat), (12 : Nat), (13 : Nat)] [((11 : Nat), (0 : Nat)), ((12 : Nat), (0 : Nat)), ((34 : Nat), (0 : Nat)), ((38 : Nat), (0 : Nat))] (.cons (vb (by simp; omega : decide ((↑pre.length : Int) < (↑(List.map Ctx.row s).length : Int)) = true)) (.cons hrow (.cons (vb hne) (.cons (natVi64 (by omega) (by omega) (by omega) : Value.int .i64 (IntKind.i64.wrap ((↑pre.length : Int) + (1 : Int))) = .int .i64 ((pre.length + (1 : Nat) : Nat) : Int)) .nil)))) (by kernel_rfl) ih
    | true =>
      have hne : (!(c.kind.toList == kUser.toList)) = false := by unfold isUser eqS at hk; rw [hk]; rfl
      have hf2 : s.find? isUser = some c := by rw [hf, List.find?_cons, hk]
      rw [hf2] at hb
      simp only [wantOne] at hb
      have hE := hasR exc c.key (by omega)
      have hI := hasR inc c.key (by omega)
      have hV := evalR s hsd hs [] (by simp) w hw.okd
      unfold RefAt at hV
      simp only [List.find?_cons, hk, listsOut]
      clear hf hf2 hw hsd
      have z0 : hasS [] c.key = false := rfl
      cases x1 : hasS exc c.key with
      | true =>
        rw [x1] at hE hb
        simp only [cond_true] at hb
        subst hb
        clear hI hV
        exact EvCode.out [T, .same, .row (c.row), .same, F, .same, .val, .row [.sl (strs exc)], .call (Ev.bool true) ([]), .same, .same] [(8 : Nat)] [] (.cons (vb (by simp; omega : decide ((↑pre.length : Int) < (↑(List.map Ctx.row s).length : Int)) = true)) (.cons hrow (.cons (vb hne) (.cons (⟨hR2, (by omega)⟩ : R2.length = N2 ∧ (0 : Nat) + n2 ≤ N2) (.cons (congrArg (fun z => some [PV.sl z]) ht2) (.cons hE .nil)))))) AE.ne_ret (by kernel_rfl)
      | false =>
        rw [x1] at hE hb
        simp only [z0, cond_false] at hb
        cases x2 : hasS inc c.key with
        | true =>
          rw [x2] at hI hb
          simp only [cond_true] at hb
          subst hb
          clear hV
          exact EvCode.out [T, .same, .row (c.row), .same, F, .same, .val, .row [.sl (strs exc)], .call (Ev.bool false) ([]), .same, .val, .row [.sl (strs inc)], .call (Ev.bool true) ([]), .same] [(8 : Nat)] [] (.cons (vb (by simp; omega : decide ((↑pre.length : Int) < (↑(List.map Ctx.row s).length : Int)) = true)) (.cons hrow (.cons (vb hne) (.cons (⟨hR2, (by omega)⟩ : R2.length = N2 ∧ (0 : Nat) + n2 ≤ N2) (.cons (congrArg (fun z => some [PV.sl z]) ht2) (.cons hE (.cons (⟨hR1, (by omega)⟩ : R1.length = N1 ∧ (0 : Nat) + n1 ≤ N1) (.cons (congrArg (fun z => some [PV.sl z]) ht1) (.cons hI .nil))))))))) AE.ne_ret (by kernel_rfl)
        | false =>
          rw [x2] at hI hb
          simp only [cond_false] at hb
          rw [← hb] at hV
          clear hb
          cases b with
          | true => exact EvCode.out [T, .same, .row (c.row), .same, F, .same, .val, .row [.sl (strs exc)], .call (Ev.bool false) ([]), .same, .val, .row [.sl (strs inc)], .call (Ev.bool false) ([]), .same, .val, .call (Ev.bool true) ([])] [(8 : Nat)] [] (.cons (vb (by simp; omega : decide ((↑pre.length : Int) < (↑(List.map Ctx.row s).length : Int)) = true)) (.cons hrow (.cons (vb hne) (.cons (⟨hR2, (by omega)⟩ : R2.length = N2 ∧ (0 : Nat) + n2 ≤ N2) (.cons (congrArg (fun z => some [PV.sl z]) ht2) (.cons hE (.cons (⟨hR1, (by omega)⟩ : R1.length = N1 ∧ (0 : Nat) + n1 ≤ N1) (.cons (congrArg (fun z => some [PV.sl z]) ht1) (.cons hI (.cons hV .nil)))))))))) AE.ne_ret (by kernel_rfl)
          | false => exact EvCode.out [T, .same, .row (c.row), .same, F, .same, .val, .row [.sl (strs exc)], .call (Ev.bool false) ([]), .same, .val, .row [.sl (strs inc)], .call (Ev.bool false) ([]), .same, .val, .call (Ev.bool false) ([])] [(8 : Nat)] [] (.cons (vb (by simp; omega : decide ((↑pre.length : Int) < (↑(List.map Ctx.row s).length : Int)) = true)) (.cons hrow (.cons (vb hne) (.cons (⟨hR2, (by omega)⟩ : R2.length = N2 ∧ (0 : Nat) + n2 ≤ N2) (.cons (congrArg (fun z => some [PV.sl z]) ht2) (.cons hE (.cons (⟨hR1, (by omega)⟩ : R1.length = N1 ∧ (0 : Nat) + n1 ≤ N1) (.cons (congrArg (fun z => some [PV.sl z]) ht1) (.cons hI (.cons hV .nil)))))))))) AE.ne_ret (by kernel_rfl)
theorem lists_tail34_38 (s : List Ctx) (hs : s.length ≤ 2) (hsd : ∀ c ∈ s, DrC c) (w : Exp) (hw : DrE [] w) (hwn : w.nodes ≤ 67) (inc : List ByteArray) (hi30 : inc.length ≤ 2 ^ 30) (R1 : List (List PV)) (n1 N1 : Nat) (hR1 : R1.length = N1) (hn1 : n1 ≤ N1) (ha1 : RowsAre 1 R1) (ht1 : List.take n1 (List.drop 0 R1) = strs inc) (exc : List ByteArray) (he30 : exc.length ≤ 2 ^ 30) (R2 : List (List PV)) (n2 N2 : Nat) (hR2 : R2.length = N2) (hn2 : n2 ≤ N2) (ha2 : RowsAre 1 R2) (ht2 : List.take n2 (List.drop 0 R2) = strs exc) :
    EvCode cx (EvCall cx) (tailAt Tryz.f5 8) ⟨[(10, .ref (11, 0) 0), (11, .ref (12, 0) 0)], [((11, 0), cs0 s), ((12, 0), .cells [str kOne, str kUser, .ms (34, 0) 0 n1 N1, .ms (38, 0) 0 n2 N2, int w.op, str w.kind, str w.name, sl (w.values.map Val.row), sl (rowsE w.kids)]), ((34, 0), .arr 1 R1 0), ((38, 0), .arr 1 R2 0)]⟩ .ret ⟨[(8, bool true)], []⟩ := by
  have hso : SubjOk s := ⟨by omega, fun c hc => (hsd c hc).ok⟩
  have hc := contains21 s hso (testF s) (testF_of s hsd hs) [oneG inc exc w] (one_ok hw hwn (by omega) (by omega)) (one_okd hw _ _) kOne (one_len _ _ hw _ _)
  rw [one_law _ _ hw, one_want _ _ hw] at hc
  have hl := lists_loop34_38 s hs hsd w hw inc hi30 R1 n1 N1 hR1 hn1 ha1 ht1 exc he30 R2 n2 N2 hR2 hn2 ha2 ht2 _ rfl s [] rfl rfl
  simp only [List.length_nil] at hl
  have hsr : [oneG inc exc w].map Seg.row = [(oneG inc exc w).row] := rfl
  rw [hsr] at hc
  clear hsr hso hw hsd
  cases hf : s.find? isUser with
  | none =>
    rw [hf] at hl hc
    simp only [wantOne, listsOut] at hl hc
    exact EvCode.tail [.row [.sl (strs inc)], .row [.sl (strs exc)], .val, .row [.sl (List.map (fun (i : Nat) => List.take ti33.sz (List.drop (i * ti33.sz) [nrm (PV.s (Value.string kOne)), nrm (PV.s (Value.string kUser)), PV.sl (strs inc), PV.sl (strs exc), nrm (PV.s (Value.int IntKind.i64 w.op)), nrm (PV.s (Value.string w.kind)), nrm (PV.s (Value.string w.name)), nrm (PV.sl (List.map Val.row w.values)), nrm (PV.sl (rowsE w.kids))])) (List.range (1 : Nat)))], .call (Ev.bool false) ([]), .loop [(10 : Nat), (11 : Nat), (12 : Nat), (13 : Nat)] [((11 : Nat), (0 : Nat)), ((12 : Nat), (0 : Nat)), ((34 : Nat), (0 : Nat)), ((38 : Nat), (0 : Nat))] (AE.exit (0 : Nat)) ({ e := [((12 : Nat), AV.p (PV.s (Value.bool false)))], s := [] }), .same] [(8 : Nat)] [] (.cons (⟨hR1, (by omega)⟩ : R1.length = N1 ∧ (0 : Nat) + n1 ≤ N1) (.cons (congrArg (fun z => some [PV.sl z]) ht1) (.cons (⟨hR2, (by omega)⟩ : R2.length = N2 ∧ (0 : Nat) + n2 ≤ N2) (.cons (congrArg (fun z => some [PV.sl z]) ht2) (.cons (⟨rfl, (by omega)⟩ : (1 : Nat) = (1 : Nat) ∧ (1 : Nat) ≤ (1 : Nat)) (.cons (by simp : some [PV.sl (List.take (1 : Nat) (List.drop (0 : Nat) (List.map (fun (i : Nat) => List.take ti33.sz (List.drop (i * ti33.sz) [nrm (PV.s (Value.string kOne)), nrm (PV.s (Value.string kUser)), PV.sl (strs inc), PV.sl (strs exc), nrm (PV.s (Value.int IntKind.i64 w.op)), nrm (PV.s (Value.string w.kind)), nrm (PV.s (Value.string w.name)), nrm (PV.sl (List.map Val.row w.values)), nrm (PV.sl (rowsE w.kids))])) (List.range (1 : Nat)))))] = some [PV.sl (List.map (fun (i : Nat) => List.take ti33.sz (List.drop (i * ti33.sz) [nrm (PV.s (Value.string kOne)), nrm (PV.s (Value.string kUser)), PV.sl (strs inc), PV.sl (strs exc), nrm (PV.s (Value.int IntKind.i64 w.op)), nrm (PV.s (Value.string w.kind)), nrm (PV.s (Value.string w.name)), nrm (PV.sl (List.map Val.row w.values)), nrm (PV.sl (rowsE w.kids))])) (List.range (1 : Nat)))]) (.cons hc (.cons hl .nil)))))))) (by kernel_rfl)
  | some c =>
    rw [hf] at hl hc
    generalize wantOne (testF s) inc exc w (some c) = b at hl hc
    simp only [listsOut] at hl
    exact EvCode.tail [.row [.sl (strs inc)], .row [.sl (strs exc)], .val, .row [.sl (List.map (fun (i : Nat) => List.take ti33.sz (List.drop (i * ti33.sz) [nrm (PV.s (Value.string kOne)), nrm (PV.s (Value.string kUser)), PV.sl (strs inc), PV.sl (strs exc), nrm (PV.s (Value.int IntKind.i64 w.op)), nrm (PV.s (Value.string w.kind)), nrm (PV.s (Value.string w.name)), nrm (PV.sl (List.map Val.row w.values)), nrm (PV.sl (rowsE w.kids))])) (List.range (1 : Nat)))], .call (Ev.bool b) ([]), .loop [(10 : Nat), (11 : Nat), (12 : Nat), (13 : Nat)] [((11 : Nat), (0 : Nat)), ((12 : Nat), (0 : Nat)), ((34 : Nat), (0 : Nat)), ((38 : Nat), (0 : Nat))] (AE.ret) ({ e := [((8 : Nat), AV.p (PV.s (Value.bool true)))], s := [] })] [(8 : Nat)] [] (.cons (⟨hR1, (by omega)⟩ : R1.length = N1 ∧ (0 : Nat) + n1 ≤ N1) (.cons (congrArg (fun z => some [PV.sl z]) ht1) (.cons (⟨hR2, (by omega)⟩ : R2.length = N2 ∧ (0 : Nat) + n2 ≤ N2) (.cons (congrArg (fun z => some [PV.sl z]) ht2) (.cons (⟨rfl, (by omega)⟩ : (1 : Nat) = (1 : Nat) ∧ (1 : Nat) ≤ (1 : Nat)) (.cons (by simp : some [PV.sl (List.take (1 : Nat) (List.drop (0 : Nat) (List.map (fun (i : Nat) => List.take ti33.sz (List.drop (i * ti33.sz) [nrm (PV.s (Value.string kOne)), nrm (PV.s (Value.string kUser)), PV.sl (strs inc), PV.sl (strs exc), nrm (PV.s (Value.int IntKind.i64 w.op)), nrm (PV.s (Value.string w.kind)), nrm (PV.s (Value.string w.name)), nrm (PV.sl (List.map Val.row w.values)), nrm (PV.sl (rowsE w.kids))])) (List.range (1 : Nat)))))] = some [PV.sl (List.map (fun (i : Nat) => List.take ti33.sz (List.drop (i * ti33.sz) [nrm (PV.s (Value.string kOne)), nrm (PV.s (Value.string kUser)), PV.sl (strs inc), PV.sl (strs exc), nrm (PV.s (Value.int IntKind.i64 w.op)), nrm (PV.s (Value.string w.kind)), nrm (PV.s (Value.string w.name)), nrm (PV.sl (List.map Val.row w.values)), nrm (PV.sl (rowsE w.kids))])) (List.range (1 : Nat)))]) (.cons hc (.cons hl .nil)))))))) (by kernel_rfl)
end Go.Proofs.YtbdnigendhhndaaGreatDoor
end
