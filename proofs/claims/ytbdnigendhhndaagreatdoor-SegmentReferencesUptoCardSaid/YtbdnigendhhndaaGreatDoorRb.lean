/- A part of the proofs of this seat's laws (abstract interpretation of the translated program, and contracts of its functions); no statement of its own. -/
import Derived.Test.YtbdnigendhhndaaGreatDoorUa
import Derived.Test.YtbdnigendhhndaaGreatDoorRa
import Derived.Test.YtbdnigendhhndaaGreatDoorBh
set_option linter.unusedVariables false
set_option linter.unusedSimpArgs false
section
/- The law on references. -/
namespace Go.Proofs.YtbdnigendhhndaaGreatDoor
open Go Go.Ev
set_option maxRecDepth 100000

abbrev nC : ByteArray := ⟨#[99]⟩
abbrev nA : ByteArray := ⟨#[97]⟩
abbrev nB : ByteArray := ⟨#[98]⟩
abbrev nD : ByteArray := ⟨#[100]⟩
abbrev nms : List ByteArray := [nC, nA, nB, nD]
abbrev zeroE : Exp := .mk 0 ⟨#[]⟩ ⟨#[]⟩ [] []
structure SegDr (g : Seg) : Prop where
  kind : g.kind = kUser
  incl : g.incl = []
  excl : g.excl = []
  ok : g.when.Ok
  nodes : g.when.nodes ≤ 67
theorem SegDr.refs {g : Seg} (h : SegDr g) : (refsOf g.when).length ≤ 67 := by
  have h1 := refsIn_len (atomsL g.when [])
  have h2 := atomsL_len g.when []
  have h3 := h.nodes
  simp only [List.length_nil] at h2
  unfold refsOf
  omega
theorem SegDr.segOk {g : Seg} (h : SegDr g) : SegOk g := ⟨h.ok, by have := h.nodes; omega, by have := h.refs; omega, by rw [h.incl]; simp, by rw [h.excl]; simp⟩
def segV (L : List Seg) : AV := ownV (49, 0) (L.map Seg.row)
def segS (L : List Seg) : List (Ev.Id × AO) := ownS (49, 0) 9 (L.map Seg.row)
abbrev l3e (e : Exp) (L : List Seg) (i : Nat) : List (Nat × AV) := [(3, .ref (4, 0) 0), (5, .ref (22, 0) 0), (6, .ms (23, 0) 0 4 4), (7, segV L), (8, int i)]
abbrev l3s (e : Exp) (c : List Int) (p fz : Nat) (L : List Seg) : List (Ev.Id × AO) := [((4, 0), .cells (e.row.map .p)), ((22, 0), cod c p), ((23, 0), .arr 1 (strs nms) fz)] ++ segS L
theorem same_refs (e : Exp) (he : e.Ok) (hn : e.nodes ≤ 2 ^ 30) : EvCall cx 12 [sl (strs (refersS e)), sl (strs (refersS e))] [] (bool true) [] := by
  have h1 := refersS_len e
  have h2 := refsIn_len (atomsL e [])
  have h3 := atomsL_len e []
  simp only [List.length_nil] at h3
  have h4 : (refsOf e).length ≤ 2 ^ 30 := by unfold refsOf; omega
  have h := same12 (refersS e) (refersS e) (by omega)
  rw [show eqSs (refersS e) (refersS e) = true by
    generalize refersS e = l
    induction l with
    | nil => rfl
    | cons x r ih => simp only [eqSs, eqL, eqS] at ih ⊢; simp [ih]] at h
  exact h
theorem l3_end (e : Exp) (c : List Int) (p fz : Nat) (L : List Seg) (hL : L.length = 4) :
    EvCode cx (EvCall cx) (.loop (loopBody Tryz.f3 0)) ⟨l3e e L 4, l3s e c p fz L⟩
      (.exit 0) ⟨[(3, .ref (4, 0) 0), (5, .ref (22, 0) 0), (7, segV L)], [((4, 0), .cells (e.row.map .p)), ((22, 0), cod c p)] ++ segS L⟩ := by
  obtain ⟨a, b, d, f, rfl⟩ : ∃ a b d f, L = [a, b, d, f] := by
    match L, hL with
    | [a, b, d, f], _ => exact ⟨a, b, d, f, rfl⟩
  simp only [segV, segS, ownV, ownS, List.map_cons, List.map_nil, List.length_cons, List.length_nil]
  exact EvCode.out [.same, .same] [3, 5, 7] [(4, 0), (22, 0), (49, 0)] .nil (AE.ne_exit _) (by kernel_rfl)
theorem segV_snoc (L : List Seg) (g : Seg) : segV (L ++ [g]) = .ms (49, 0) 0 (L.length + 1) (L.length + 1) := by simp only [segV, List.map_append, List.map_cons, List.map_nil]; rw [ownV_snocR, List.length_map]
theorem segS_snoc (L : List Seg) (g : Seg) : segS (L ++ [g]) = [((49, 0), .arr 9 (L.map Seg.row ++ [g.row]) 0)] := by simp only [segS, List.map_append, List.map_cons, List.map_nil]; rw [ownS_snocR]
abbrev l3o (e : Exp) (c : List Int) (p : Nat) (L : List Seg) : St := ⟨[(3, .ref (4, 0) 0), (5, .ref (22, 0) 0), (7, segV L)], [((4, 0), .cells (e.row.map .p)), ((22, 0), cod c p)] ++ segS L⟩
theorem l3_loop (e : Exp) {c : List Int} (hC : Codes c) : ∀ (suf pre : List ByteArray) (L : List Seg) (p fz : Nat), nms = pre ++ suf → L.map Seg.key = pre → (∀ g ∈ L, SegDr g) →
    ∃ (L' : List Seg) (p' : Nat), L'.map Seg.key = nms ∧ (∀ g ∈ L', SegDr g) ∧
      EvCode cx (EvCall cx) (.loop (loopBody Tryz.f3 0)) ⟨l3e e L pre.length, l3s e c p fz L⟩ (.exit 0) (l3o e c p' L')
  | [], pre, L, p, fz, h, hK, hL => by
    have hpre : pre = nms := by simpa using h.symm
    have hl : L.length = 4 := by have := congrArg List.length hK; rw [hpre] at this; simpa using this
    refine ⟨L, p, hK.trans hpre, hL, ?_⟩
    have := l3_end e c p fz L hl
    rw [hpre]
    exact this
  | n :: r, pre, L, p, fz, h, hK, hL => by
    have hlt : pre.length < 4 := by have := congrArg List.length h; simp at this; omega
    have hx : nms[pre.length]? = some n := get_of_split h
    have hLl : L.length = pre.length := by rw [← hK]; simp
    obtain ⟨k1, p1, hd1, hk1, _⟩ := draw10 hC p 3 (by omega)
    have fin : ∀ (w : Exp), w.Ok → w.nodes ≤ 67 → ∀ (p2 fz2 : Nat), ∃ (L' : List Seg) (p' : Nat), L'.map Seg.key = nms ∧ (∀ g ∈ L', SegDr g) ∧
        EvCode cx (EvCall cx) (.loop (loopBody Tryz.f3 0)) ⟨l3e e (L ++ [⟨n, kUser, [], [], w⟩]) (pre.length + 1), l3s e c p2 fz2 (L ++ [⟨n, kUser, [], [], w⟩])⟩ (.exit 0) (l3o e c p' L') := fun w hw hwn p2 fz2 => by
      obtain ⟨L', p', h1, h2, h3⟩ := l3_loop e hC r (pre ++ [n]) (L ++ [⟨n, kUser, [], [], w⟩]) p2 fz2 (by rw [h]; simp) (by simp [hK]) (fun g hg => by
        rcases List.mem_append.1 hg with hg | hg
        · exact hL g hg
        · rw [List.mem_singleton.1 hg]; exact ⟨rfl, rfl, rfl, hw, hwn⟩)
      simp only [List.length_append, List.length_singleton] at h3
      exact ⟨L', p', h1, h2, h3⟩
    have con : ∀ (w : Exp), w.Ok → w.nodes ≤ 67 → EvCall cx 13 [ag w.row] [] (sl (strs (refersS w))) [] ∧ EvCall cx 14 [ag w.row] [] (sl (strs (refersS w))) [] ∧ EvCall cx 12 [sl (strs (refersS w)), sl (strs (refersS w))] [] (bool true) [] := fun w hw hwn =>
      ⟨refers13 w hw (by omega), by rw [refers_same]; exact refers14 w hw (by omega), same_refs w hw (by omega)⟩
    cases hk : decide ((k1 : Int) > 0) with
    | false =>
      obtain ⟨c1, c2, c3⟩ := con zeroE zero_okd.ok (by simp [Exp.nodes, nodesL])
      obtain ⟨L', p', h1, h2, ih⟩ := fin zeroE zero_okd.ok (by simp [Exp.nodes, nodesL]) p1 fz
      refine ⟨L', p', h1, h2, ?_⟩
      simp only [l3e, l3s] at ih
      rw [segV_snoc, segS_snoc] at ih
      clear fin con
      simp only [l3o] at ih ⊢
      cases L with
      | nil =>
        have hp0 : pre.length = 0 := by rw [← hLl]; rfl
        simp only [l3e, l3s, segV, segS, List.map_nil, ownV, ownS, List.append_nil, List.nil_append, List.cons_append, List.length_nil] at ih ⊢
        exact EvCode.round [T, .same, .row ([pS n]), .val, .call (int (↑k1 : Int)) ([cod c (↑p1 : Int)]), F, .same, .same, .val, .call (sl (strs (refersS zeroE))) ([]), .val, .call (sl (strs (refersS zeroE))) ([]), .val, .call (Ev.bool true) ([]), .same, .same, .v (.int .i64 ((pre.length + 1 : Nat) : Int))] [3, 5, 6, 7, 8] [(4, 0), (22, 0), (23, 0), (49, 0)] (.cons (vb (by simp; omega : decide ((↑pre.length : Int) < (↑4 : Int)) = true)) (.cons ((by simp [inBd, strs_length, rowsE_length]; omega) : inBd (↑pre.length : Int) 4) (.cons (rfl : 4 = 4) (.cons (get_strs0 hx : (strs nms)[0 + (↑pre.length : Int).toNat]? = some [pS n]) (.cons hd1 (.cons (vb hk) (.cons (⟨rfl, (by omega)⟩ : 1 = 1 ∧ 1 ≤ 1) (.cons (⟨(by simp), ⟨(by omega), (by omega)⟩⟩ : List.take 1 (List.drop 0 (List.map (fun (i : Nat) => List.take ti33.sz (List.drop (i * ti33.sz) [nrm (pS n), nrm (PV.s (Value.string (ByteArray.mk #[(117 : UInt8), (115 : UInt8), (101 : UInt8), (114 : UInt8)]))), nrm (PV.s (Value.slice none 0 0)), nrm (PV.s (Value.slice none 0 0)), nrm (PV.s (Value.int IntKind.i64 (0 : Int))), nrm (PV.s (Value.string (ByteArray.mk #[]))), nrm (PV.s (Value.string (ByteArray.mk #[]))), nrm (PV.s (Value.slice none 0 0)), nrm (PV.s (Value.slice none 0 0))])) (List.range 1))) ≠ [] ∧ 168 ≤ 140737488355328 ∧ 1 ≤ 4611686018427387904) (.cons c1 (.cons c2 (.cons c3 (.cons (natVi64 (by omega) (by omega) (by omega) : Value.int .i64 (IntKind.i64.wrap ((↑pre.length : Int) + (1 : Int))) = .int .i64 ((pre.length + 1 : Nat) : Int)) .nil)))))))))))) (by kernel_rfl) ih
      | cons g0 u =>
        have hul : u.length < 4 := by simp at hLl; omega
        have hsl : (List.map Seg.row (g0 :: u)).length = u.length + 1 := by simp
        simp only [l3e, l3s, segV, segS, List.map_cons, ownV, ownS, List.nil_append, List.cons_append, List.length_cons, List.length_map] at ih ⊢
        exact EvCode.round [T, .same, .row ([pS n]), .val, .call (int (↑k1 : Int)) ([cod c (↑p1 : Int)]), F, .same, .same, .val, .val, .call (sl (strs (refersS zeroE))) ([]), .val, .call (sl (strs (refersS zeroE))) ([]), .val, .call (Ev.bool true) ([]), .same, .same, .v (.int .i64 ((pre.length + 1 : Nat) : Int))] [3, 5, 6, 7, 8] [(4, 0), (22, 0), (23, 0), (49, 0)] (.cons (vb (by simp; omega : decide ((↑pre.length : Int) < (↑4 : Int)) = true)) (.cons ((by simp [inBd, strs_length, rowsE_length]; omega) : inBd (↑pre.length : Int) 4) (.cons (rfl : 4 = 4) (.cons (get_strs0 hx : (strs nms)[0 + (↑pre.length : Int).toNat]? = some [pS n]) (.cons hd1 (.cons (vb hk) (.cons (⟨rfl, (by omega)⟩ : 1 = 1 ∧ 1 ≤ 1) (.cons (⟨hsl, ⟨rfl, ⟨rfl, ⟨rfl, ⟨(by simp), ⟨(by omega), (by omega)⟩⟩⟩⟩⟩⟩ : (g0.row :: List.map Seg.row u).length = u.length + 1 ∧ 0 = 0 ∧ u.length + 1 = u.length + 1 ∧ 9 = 9 ∧ List.take 1 (List.drop 0 (List.map (fun (i : Nat) => List.take ti33.sz (List.drop (i * ti33.sz) [nrm (pS n), nrm (PV.s (Value.string (ByteArray.mk #[(117 : UInt8), (115 : UInt8), (101 : UInt8), (114 : UInt8)]))), nrm (PV.s (Value.slice none 0 0)), nrm (PV.s (Value.slice none 0 0)), nrm (PV.s (Value.int IntKind.i64 (0 : Int))), nrm (PV.s (Value.string (ByteArray.mk #[]))), nrm (PV.s (Value.string (ByteArray.mk #[]))), nrm (PV.s (Value.slice none 0 0)), nrm (PV.s (Value.slice none 0 0))])) (List.range 1))) ≠ [] ∧ (u.length + 1 + 1) * 168 ≤ 140737488355328 ∧ u.length + 1 + 1 ≤ 4611686018427387904) (.cons c1 (.cons c2 (.cons c3 (.cons (natVi64 (by omega) (by omega) (by omega) : Value.int .i64 (IntKind.i64.wrap ((↑pre.length : Int) + (1 : Int))) = .int .i64 ((pre.length + 1 : Nat) : Int)) .nil)))))))))))) (by kernel_rfl) ih
    | true =>
      obtain ⟨k2, p2, hd2, hk2, _⟩ := draw10 hC p1 4 (by omega)
      have h4 : k2 = 0 ∨ k2 = 1 ∨ k2 = 2 ∨ k2 = 3 := by omega
      rcases h4 with rfl | rfl | rfl | rfl
      · obtain ⟨w, p3, he3, hwd, hwn, _⟩ := expr11 hC [nC] (by simp) p2
        obtain ⟨c1, c2, c3⟩ := con w hwd.okd.ok hwn
        obtain ⟨L', p', h1, h2, ih⟩ := fin w hwd.okd.ok hwn p3 4
        refine ⟨L', p', h1, h2, ?_⟩
        simp only [l3e, l3s] at ih
        rw [segV_snoc, segS_snoc] at ih
        clear fin con
        simp only [l3o] at ih ⊢
        cases L with
        | nil =>
          have hp0 : pre.length = 0 := by rw [← hLl]; rfl
          simp only [l3e, l3s, segV, segS, List.map_nil, ownV, ownS, List.append_nil, List.nil_append, List.cons_append, List.length_nil] at ih ⊢
          exact EvCode.round [T, .same, .row ([pS n]), .val, .call (int (↑k1 : Int)) ([cod c (↑p1 : Int)]), T, .same, .val, .call (int (↑0 : Int)) ([cod c (↑p2 : Int)]), .same, .val, .same, .call (ag w.row) ([cod c (↑p3 : Int)]), .same, .val, .call (sl (strs (refersS w))) ([]), .val, .call (sl (strs (refersS w))) ([]), .val, .call (Ev.bool true) ([]), .same, .same, .v (.int .i64 ((pre.length + 1 : Nat) : Int))] [3, 5, 6, 7, 8] [(4, 0), (22, 0), (23, 0), (49, 0)] (.cons (vb (by simp; omega : decide ((↑pre.length : Int) < (↑4 : Int)) = true)) (.cons ((by simp [inBd, strs_length, rowsE_length]; omega) : inBd (↑pre.length : Int) 4) (.cons (rfl : 4 = 4) (.cons (get_strs0 hx : (strs nms)[0 + (↑pre.length : Int).toNat]? = some [pS n]) (.cons hd1 (.cons (vb hk) (.cons hd2 (.cons (⟨rfl, ⟨(by omega), ⟨(by omega), (by omega)⟩⟩⟩ : 4 = 4 ∧ (0 : Int) ≤ (0 : Int) ∧ (0 : Int) ≤ (1 : Int) ∧ (1 : Int) ≤ (4 : Int)) (.cons (⟨rfl, (by omega)⟩ : 4 = 4 ∧ 1 ≤ 4) (.cons he3 (.cons (⟨rfl, (by omega)⟩ : 1 = 1 ∧ 1 ≤ 1) (.cons (⟨(by simp), ⟨(by omega), (by omega)⟩⟩ : List.take 1 (List.drop 0 (List.map (fun (i : Nat) => List.take ti33.sz (List.drop (i * ti33.sz) [nrm (pS n), nrm (PV.s (Value.string (ByteArray.mk #[(117 : UInt8), (115 : UInt8), (101 : UInt8), (114 : UInt8)]))), nrm (PV.s (Value.slice none 0 0)), nrm (PV.s (Value.slice none 0 0)), nrm (pI w.op), nrm (pS w.kind), nrm (pS w.name), nrm (PV.sl (List.map Val.row w.values)), nrm (PV.sl (rowsE w.kids))])) (List.range 1))) ≠ [] ∧ 168 ≤ 140737488355328 ∧ 1 ≤ 4611686018427387904) (.cons c1 (.cons c2 (.cons c3 (.cons (natVi64 (by omega) (by omega) (by omega) : Value.int .i64 (IntKind.i64.wrap ((↑pre.length : Int) + (1 : Int))) = .int .i64 ((pre.length + 1 : Nat) : Int)) .nil)))))))))))))))) (by kernel_rfl) ih
        | cons g0 u =>
          have hul : u.length < 4 := by simp at hLl; omega
          have hsl : (List.map Seg.row (g0 :: u)).length = u.length + 1 := by simp
          simp only [l3e, l3s, segV, segS, List.map_cons, ownV, ownS, List.nil_append, List.cons_append, List.length_cons, List.length_map] at ih ⊢
          exact EvCode.round [T, .same, .row ([pS n]), .val, .call (int (↑k1 : Int)) ([cod c (↑p1 : Int)]), T, .same, .val, .call (int (↑0 : Int)) ([cod c (↑p2 : Int)]), .same, .val, .same, .call (ag w.row) ([cod c (↑p3 : Int)]), .same, .val, .val, .call (sl (strs (refersS w))) ([]), .val, .call (sl (strs (refersS w))) ([]), .val, .call (Ev.bool true) ([]), .same, .same, .v (.int .i64 ((pre.length + 1 : Nat) : Int))] [3, 5, 6, 7, 8] [(4, 0), (22, 0), (23, 0), (49, 0)] (.cons (vb (by simp; omega : decide ((↑pre.length : Int) < (↑4 : Int)) = true)) (.cons ((by simp [inBd, strs_length, rowsE_length]; omega) : inBd (↑pre.length : Int) 4) (.cons (rfl : 4 = 4) (.cons (get_strs0 hx : (strs nms)[0 + (↑pre.length : Int).toNat]? = some [pS n]) (.cons hd1 (.cons (vb hk) (.cons hd2 (.cons (⟨rfl, ⟨(by omega), ⟨(by omega), (by omega)⟩⟩⟩ : 4 = 4 ∧ (0 : Int) ≤ (0 : Int) ∧ (0 : Int) ≤ (1 : Int) ∧ (1 : Int) ≤ (4 : Int)) (.cons (⟨rfl, (by omega)⟩ : 4 = 4 ∧ 1 ≤ 4) (.cons he3 (.cons (⟨rfl, (by omega)⟩ : 1 = 1 ∧ 1 ≤ 1) (.cons (⟨hsl, ⟨rfl, ⟨rfl, ⟨rfl, ⟨(by simp), ⟨(by omega), (by omega)⟩⟩⟩⟩⟩⟩ : (g0.row :: List.map Seg.row u).length = u.length + 1 ∧ 0 = 0 ∧ u.length + 1 = u.length + 1 ∧ 9 = 9 ∧ List.take 1 (List.drop 0 (List.map (fun (i : Nat) => List.take ti33.sz (List.drop (i * ti33.sz) [nrm (pS n), nrm (PV.s (Value.string (ByteArray.mk #[(117 : UInt8), (115 : UInt8), (101 : UInt8), (114 : UInt8)]))), nrm (PV.s (Value.slice none 0 0)), nrm (PV.s (Value.slice none 0 0)), nrm (pI w.op), nrm (pS w.kind), nrm (pS w.name), nrm (PV.sl (List.map Val.row w.values)), nrm (PV.sl (rowsE w.kids))])) (List.range 1))) ≠ [] ∧ (u.length + 1 + 1) * 168 ≤ 140737488355328 ∧ u.length + 1 + 1 ≤ 4611686018427387904) (.cons c1 (.cons c2 (.cons c3 (.cons (natVi64 (by omega) (by omega) (by omega) : Value.int .i64 (IntKind.i64.wrap ((↑pre.length : Int) + (1 : Int))) = .int .i64 ((pre.length + 1 : Nat) : Int)) .nil)))))))))))))))) (by kernel_rfl) ih
      · obtain ⟨w, p3, he3, hwd, hwn, _⟩ := expr11 hC [nC, nA] (by simp) p2
        obtain ⟨c1, c2, c3⟩ := con w hwd.okd.ok hwn
        obtain ⟨L', p', h1, h2, ih⟩ := fin w hwd.okd.ok hwn p3 4
        refine ⟨L', p', h1, h2, ?_⟩
        simp only [l3e, l3s] at ih
        rw [segV_snoc, segS_snoc] at ih
        clear fin con
        simp only [l3o] at ih ⊢
        cases L with
        | nil =>
          have hp0 : pre.length = 0 := by rw [← hLl]; rfl
          simp only [l3e, l3s, segV, segS, List.map_nil, ownV, ownS, List.append_nil, List.nil_append, List.cons_append, List.length_nil] at ih ⊢
          exact EvCode.round [T, .same, .row ([pS n]), .val, .call (int (↑k1 : Int)) ([cod c (↑p1 : Int)]), T, .same, .val, .call (int (↑1 : Int)) ([cod c (↑p2 : Int)]), .same, .val, .same, .call (ag w.row) ([cod c (↑p3 : Int)]), .same, .val, .call (sl (strs (refersS w))) ([]), .val, .call (sl (strs (refersS w))) ([]), .val, .call (Ev.bool true) ([]), .same, .same, .v (.int .i64 ((pre.length + 1 : Nat) : Int))] [3, 5, 6, 7, 8] [(4, 0), (22, 0), (23, 0), (49, 0)] (.cons (vb (by simp; omega : decide ((↑pre.length : Int) < (↑4 : Int)) = true)) (.cons ((by simp [inBd, strs_length, rowsE_length]; omega) : inBd (↑pre.length : Int) 4) (.cons (rfl : 4 = 4) (.cons (get_strs0 hx : (strs nms)[0 + (↑pre.length : Int).toNat]? = some [pS n]) (.cons hd1 (.cons (vb hk) (.cons hd2 (.cons (⟨rfl, ⟨(by omega), ⟨(by omega), (by omega)⟩⟩⟩ : 4 = 4 ∧ (0 : Int) ≤ (0 : Int) ∧ (0 : Int) ≤ (2 : Int) ∧ (2 : Int) ≤ (4 : Int)) (.cons (⟨rfl, (by omega)⟩ : 4 = 4 ∧ 2 ≤ 4) (.cons he3 (.cons (⟨rfl, (by omega)⟩ : 1 = 1 ∧ 1 ≤ 1) (.cons (⟨(by simp), ⟨(by omega), (by omega)⟩⟩ : List.take 1 (List.drop 0 (List.map (fun (i : Nat) => List.take ti33.sz (List.drop (i * ti33.sz) [nrm (pS n), nrm (PV.s (Value.string (ByteArray.mk #[(117 : UInt8), (115 : UInt8), (101 : UInt8), (114 : UInt8)]))), nrm (PV.s (Value.slice none 0 0)), nrm (PV.s (Value.slice none 0 0)), nrm (pI w.op), nrm (pS w.kind), nrm (pS w.name), nrm (PV.sl (List.map Val.row w.values)), nrm (PV.sl (rowsE w.kids))])) (List.range 1))) ≠ [] ∧ 168 ≤ 140737488355328 ∧ 1 ≤ 4611686018427387904) (.cons c1 (.cons c2 (.cons c3 (.cons (natVi64 (by omega) (by omega) (by omega) : Value.int .i64 (IntKind.i64.wrap ((↑pre.length : Int) + (1 : Int))) = .int .i64 ((pre.length + 1 : Nat) : Int)) .nil)))))))))))))))) (by kernel_rfl) ih
        | cons g0 u =>
          have hul : u.length < 4 := by simp at hLl; omega
          have hsl : (List.map Seg.row (g0 :: u)).length = u.length + 1 := by simp
          simp only [l3e, l3s, segV, segS, List.map_cons, ownV, ownS, List.nil_append, List.cons_append, List.length_cons, List.length_map] at ih ⊢
          exact EvCode.round [T, .same, .row ([pS n]), .val, .call (int (↑k1 : Int)) ([cod c (↑p1 : Int)]), T, .same, .val, .call (int (↑1 : Int)) ([cod c (↑p2 : Int)]), .same, .val, .same, .call (ag w.row) ([cod c (↑p3 : Int)]), .same, .val, .val, .call (sl (strs (refersS w))) ([]), .val, .call (sl (strs (refersS w))) ([]), .val, .call (Ev.bool true) ([]), .same, .same, .v (.int .i64 ((pre.length + 1 : Nat) : Int))] [3, 5, 6, 7, 8] [(4, 0), (22, 0), (23, 0), (49, 0)] (.cons (vb (by simp; omega : decide ((↑pre.length : Int) < (↑4 : Int)) = true)) (.cons ((by simp [inBd, strs_length, rowsE_length]; omega) : inBd (↑pre.length : Int) 4) (.cons (rfl : 4 = 4) (.cons (get_strs0 hx : (strs nms)[0 + (↑pre.length : Int).toNat]? = some [pS n]) (.cons hd1 (.cons (vb hk) (.cons hd2 (.cons (⟨rfl, ⟨(by omega), ⟨(by omega), (by omega)⟩⟩⟩ : 4 = 4 ∧ (0 : Int) ≤ (0 : Int) ∧ (0 : Int) ≤ (2 : Int) ∧ (2 : Int) ≤ (4 : Int)) (.cons (⟨rfl, (by omega)⟩ : 4 = 4 ∧ 2 ≤ 4) (.cons he3 (.cons (⟨rfl, (by omega)⟩ : 1 = 1 ∧ 1 ≤ 1) (.cons (⟨hsl, ⟨rfl, ⟨rfl, ⟨rfl, ⟨(by simp), ⟨(by omega), (by omega)⟩⟩⟩⟩⟩⟩ : (g0.row :: List.map Seg.row u).length = u.length + 1 ∧ 0 = 0 ∧ u.length + 1 = u.length + 1 ∧ 9 = 9 ∧ List.take 1 (List.drop 0 (List.map (fun (i : Nat) => List.take ti33.sz (List.drop (i * ti33.sz) [nrm (pS n), nrm (PV.s (Value.string (ByteArray.mk #[(117 : UInt8), (115 : UInt8), (101 : UInt8), (114 : UInt8)]))), nrm (PV.s (Value.slice none 0 0)), nrm (PV.s (Value.slice none 0 0)), nrm (pI w.op), nrm (pS w.kind), nrm (pS w.name), nrm (PV.sl (List.map Val.row w.values)), nrm (PV.sl (rowsE w.kids))])) (List.range 1))) ≠ [] ∧ (u.length + 1 + 1) * 168 ≤ 140737488355328 ∧ u.length + 1 + 1 ≤ 4611686018427387904) (.cons c1 (.cons c2 (.cons c3 (.cons (natVi64 (by omega) (by omega) (by omega) : Value.int .i64 (IntKind.i64.wrap ((↑pre.length : Int) + (1 : Int))) = .int .i64 ((pre.length + 1 : Nat) : Int)) .nil)))))))))))))))) (by kernel_rfl) ih
      · obtain ⟨w, p3, he3, hwd, hwn, _⟩ := expr11 hC [nC, nA, nB] (by simp) p2
        obtain ⟨c1, c2, c3⟩ := con w hwd.okd.ok hwn
        obtain ⟨L', p', h1, h2, ih⟩ := fin w hwd.okd.ok hwn p3 4
        refine ⟨L', p', h1, h2, ?_⟩
        simp only [l3e, l3s] at ih
        rw [segV_snoc, segS_snoc] at ih
        clear fin con
        simp only [l3o] at ih ⊢
        cases L with
        | nil =>
          have hp0 : pre.length = 0 := by rw [← hLl]; rfl
          simp only [l3e, l3s, segV, segS, List.map_nil, ownV, ownS, List.append_nil, List.nil_append, List.cons_append, List.length_nil] at ih ⊢
          exact EvCode.round [T, .same, .row ([pS n]), .val, .call (int (↑k1 : Int)) ([cod c (↑p1 : Int)]), T, .same, .val, .call (int (↑2 : Int)) ([cod c (↑p2 : Int)]), .same, .val, .same, .call (ag w.row) ([cod c (↑p3 : Int)]), .same, .val, .call (sl (strs (refersS w))) ([]), .val, .call (sl (strs (refersS w))) ([]), .val, .call (Ev.bool true) ([]), .same, .same, .v (.int .i64 ((pre.length + 1 : Nat) : Int))] [3, 5, 6, 7, 8] [(4, 0), (22, 0), (23, 0), (49, 0)] (.cons (vb (by simp; omega : decide ((↑pre.length : Int) < (↑4 : Int)) = true)) (.cons ((by simp [inBd, strs_length, rowsE_length]; omega) : inBd (↑pre.length : Int) 4) (.cons (rfl : 4 = 4) (.cons (get_strs0 hx : (strs nms)[0 + (↑pre.length : Int).toNat]? = some [pS n]) (.cons hd1 (.cons (vb hk) (.cons hd2 (.cons (⟨rfl, ⟨(by omega), ⟨(by omega), (by omega)⟩⟩⟩ : 4 = 4 ∧ (0 : Int) ≤ (0 : Int) ∧ (0 : Int) ≤ (3 : Int) ∧ (3 : Int) ≤ (4 : Int)) (.cons (⟨rfl, (by omega)⟩ : 4 = 4 ∧ 3 ≤ 4) (.cons he3 (.cons (⟨rfl, (by omega)⟩ : 1 = 1 ∧ 1 ≤ 1) (.cons (⟨(by simp), ⟨(by omega), (by omega)⟩⟩ : List.take 1 (List.drop 0 (List.map (fun (i : Nat) => List.take ti33.sz (List.drop (i * ti33.sz) [nrm (pS n), nrm (PV.s (Value.string (ByteArray.mk #[(117 : UInt8), (115 : UInt8), (101 : UInt8), (114 : UInt8)]))), nrm (PV.s (Value.slice none 0 0)), nrm (PV.s (Value.slice none 0 0)), nrm (pI w.op), nrm (pS w.kind), nrm (pS w.name), nrm (PV.sl (List.map Val.row w.values)), nrm (PV.sl (rowsE w.kids))])) (List.range 1))) ≠ [] ∧ 168 ≤ 140737488355328 ∧ 1 ≤ 4611686018427387904) (.cons c1 (.cons c2 (.cons c3 (.cons (natVi64 (by omega) (by omega) (by omega) : Value.int .i64 (IntKind.i64.wrap ((↑pre.length : Int) + (1 : Int))) = .int .i64 ((pre.length + 1 : Nat) : Int)) .nil)))))))))))))))) (by kernel_rfl) ih
        | cons g0 u =>
          have hul : u.length < 4 := by simp at hLl; omega
          have hsl : (List.map Seg.row (g0 :: u)).length = u.length + 1 := by simp
          simp only [l3e, l3s, segV, segS, List.map_cons, ownV, ownS, List.nil_append, List.cons_append, List.length_cons, List.length_map] at ih ⊢
          exact EvCode.round [T, .same, .row ([pS n]), .val, .call (int (↑k1 : Int)) ([cod c (↑p1 : Int)]), T, .same, .val, .call (int (↑2 : Int)) ([cod c (↑p2 : Int)]), .same, .val, .same, .call (ag w.row) ([cod c (↑p3 : Int)]), .same, .val, .val, .call (sl (strs (refersS w))) ([]), .val, .call (sl (strs (refersS w))) ([]), .val, .call (Ev.bool true) ([]), .same, .same, .v (.int .i64 ((pre.length + 1 : Nat) : Int))] [3, 5, 6, 7, 8] [(4, 0), (22, 0), (23, 0), (49, 0)] (.cons (vb (by simp; omega : decide ((↑pre.length : Int) < (↑4 : Int)) = true)) (.cons ((by simp [inBd, strs_length, rowsE_length]; omega) : inBd (↑pre.length : Int) 4) (.cons (rfl : 4 = 4) (.cons (get_strs0 hx : (strs nms)[0 + (↑pre.length : Int).toNat]? = some [pS n]) (.cons hd1 (.cons (vb hk) (.cons hd2 (.cons (⟨rfl, ⟨(by omega), ⟨(by omega), (by omega)⟩⟩⟩ : 4 = 4 ∧ (0 : Int) ≤ (0 : Int) ∧ (0 : Int) ≤ (3 : Int) ∧ (3 : Int) ≤ (4 : Int)) (.cons (⟨rfl, (by omega)⟩ : 4 = 4 ∧ 3 ≤ 4) (.cons he3 (.cons (⟨rfl, (by omega)⟩ : 1 = 1 ∧ 1 ≤ 1) (.cons (⟨hsl, ⟨rfl, ⟨rfl, ⟨rfl, ⟨(by simp), ⟨(by omega), (by omega)⟩⟩⟩⟩⟩⟩ : (g0.row :: List.map Seg.row u).length = u.length + 1 ∧ 0 = 0 ∧ u.length + 1 = u.length + 1 ∧ 9 = 9 ∧ List.take 1 (List.drop 0 (List.map (fun (i : Nat) => List.take ti33.sz (List.drop (i * ti33.sz) [nrm (pS n), nrm (PV.s (Value.string (ByteArray.mk #[(117 : UInt8), (115 : UInt8), (101 : UInt8), (114 : UInt8)]))), nrm (PV.s (Value.slice none 0 0)), nrm (PV.s (Value.slice none 0 0)), nrm (pI w.op), nrm (pS w.kind), nrm (pS w.name), nrm (PV.sl (List.map Val.row w.values)), nrm (PV.sl (rowsE w.kids))])) (List.range 1))) ≠ [] ∧ (u.length + 1 + 1) * 168 ≤ 140737488355328 ∧ u.length + 1 + 1 ≤ 4611686018427387904) (.cons c1 (.cons c2 (.cons c3 (.cons (natVi64 (by omega) (by omega) (by omega) : Value.int .i64 (IntKind.i64.wrap ((↑pre.length : Int) + (1 : Int))) = .int .i64 ((pre.length + 1 : Nat) : Int)) .nil)))))))))))))))) (by kernel_rfl) ih
      · obtain ⟨w, p3, he3, hwd, hwn, _⟩ := expr11 hC [nC, nA, nB, nD] (by simp) p2
        obtain ⟨c1, c2, c3⟩ := con w hwd.okd.ok hwn
        obtain ⟨L', p', h1, h2, ih⟩ := fin w hwd.okd.ok hwn p3 4
        refine ⟨L', p', h1, h2, ?_⟩
        simp only [l3e, l3s] at ih
        rw [segV_snoc, segS_snoc] at ih
        clear fin con
        simp only [l3o] at ih ⊢
        cases L with
        | nil =>
          have hp0 : pre.length = 0 := by rw [← hLl]; rfl
          simp only [l3e, l3s, segV, segS, List.map_nil, ownV, ownS, List.append_nil, List.nil_append, List.cons_append, List.length_nil] at ih ⊢
          exact EvCode.round [T, .same, .row ([pS n]), .val, .call (int (↑k1 : Int)) ([cod c (↑p1 : Int)]), T, .same, .val, .call (int (↑3 : Int)) ([cod c (↑p2 : Int)]), .same, .val, .same, .call (ag w.row) ([cod c (↑p3 : Int)]), .same, .val, .call (sl (strs (refersS w))) ([]), .val, .call (sl (strs (refersS w))) ([]), .val, .call (Ev.bool true) ([]), .same, .same, .v (.int .i64 ((pre.length + 1 : Nat) : Int))] [3, 5, 6, 7, 8] [(4, 0), (22, 0), (23, 0), (49, 0)] (.cons (vb (by simp; omega : decide ((↑pre.length : Int) < (↑4 : Int)) = true)) (.cons ((by simp [inBd, strs_length, rowsE_length]; omega) : inBd (↑pre.length : Int) 4) (.cons (rfl : 4 = 4) (.cons (get_strs0 hx : (strs nms)[0 + (↑pre.length : Int).toNat]? = some [pS n]) (.cons hd1 (.cons (vb hk) (.cons hd2 (.cons (⟨rfl, ⟨(by omega), ⟨(by omega), (by omega)⟩⟩⟩ : 4 = 4 ∧ (0 : Int) ≤ (0 : Int) ∧ (0 : Int) ≤ (4 : Int) ∧ (4 : Int) ≤ (4 : Int)) (.cons (⟨rfl, (by omega)⟩ : 4 = 4 ∧ 4 ≤ 4) (.cons he3 (.cons (⟨rfl, (by omega)⟩ : 1 = 1 ∧ 1 ≤ 1) (.cons (⟨(by simp), ⟨(by omega), (by omega)⟩⟩ : List.take 1 (List.drop 0 (List.map (fun (i : Nat) => List.take ti33.sz (List.drop (i * ti33.sz) [nrm (pS n), nrm (PV.s (Value.string (ByteArray.mk #[(117 : UInt8), (115 : UInt8), (101 : UInt8), (114 : UInt8)]))), nrm (PV.s (Value.slice none 0 0)), nrm (PV.s (Value.slice none 0 0)), nrm (pI w.op), nrm (pS w.kind), nrm (pS w.name), nrm (PV.sl (List.map Val.row w.values)), nrm (PV.sl (rowsE w.kids))])) (List.range 1))) ≠ [] ∧ 168 ≤ 140737488355328 ∧ 1 ≤ 4611686018427387904) (.cons c1 (.cons c2 (.cons c3 (.cons (natVi64 (by omega) (by omega) (by omega) : Value.int .i64 (IntKind.i64.wrap ((↑pre.length : Int) + (1 : Int))) = .int .i64 ((pre.length + 1 : Nat) : Int)) .nil)))))))))))))))) (by kernel_rfl) ih
        | cons g0 u =>
          have hul : u.length < 4 := by simp at hLl; omega
          have hsl : (List.map Seg.row (g0 :: u)).length = u.length + 1 := by simp
          simp only [l3e, l3s, segV, segS, List.map_cons, ownV, ownS, List.nil_append, List.cons_append, List.length_cons, List.length_map] at ih ⊢
          exact EvCode.round [T, .same, .row ([pS n]), .val, .call (int (↑k1 : Int)) ([cod c (↑p1 : Int)]), T, .same, .val, .call (int (↑3 : Int)) ([cod c (↑p2 : Int)]), .same, .val, .same, .call (ag w.row) ([cod c (↑p3 : Int)]), .same, .val, .val, .call (sl (strs (refersS w))) ([]), .val, .call (sl (strs (refersS w))) ([]), .val, .call (Ev.bool true) ([]), .same, .same, .v (.int .i64 ((pre.length + 1 : Nat) : Int))] [3, 5, 6, 7, 8] [(4, 0), (22, 0), (23, 0), (49, 0)] (.cons (vb (by simp; omega : decide ((↑pre.length : Int) < (↑4 : Int)) = true)) (.cons ((by simp [inBd, strs_length, rowsE_length]; omega) : inBd (↑pre.length : Int) 4) (.cons (rfl : 4 = 4) (.cons (get_strs0 hx : (strs nms)[0 + (↑pre.length : Int).toNat]? = some [pS n]) (.cons hd1 (.cons (vb hk) (.cons hd2 (.cons (⟨rfl, ⟨(by omega), ⟨(by omega), (by omega)⟩⟩⟩ : 4 = 4 ∧ (0 : Int) ≤ (0 : Int) ∧ (0 : Int) ≤ (4 : Int) ∧ (4 : Int) ≤ (4 : Int)) (.cons (⟨rfl, (by omega)⟩ : 4 = 4 ∧ 4 ≤ 4) (.cons he3 (.cons (⟨rfl, (by omega)⟩ : 1 = 1 ∧ 1 ≤ 1) (.cons (⟨hsl, ⟨rfl, ⟨rfl, ⟨rfl, ⟨(by simp), ⟨(by omega), (by omega)⟩⟩⟩⟩⟩⟩ : (g0.row :: List.map Seg.row u).length = u.length + 1 ∧ 0 = 0 ∧ u.length + 1 = u.length + 1 ∧ 9 = 9 ∧ List.take 1 (List.drop 0 (List.map (fun (i : Nat) => List.take ti33.sz (List.drop (i * ti33.sz) [nrm (pS n), nrm (PV.s (Value.string (ByteArray.mk #[(117 : UInt8), (115 : UInt8), (101 : UInt8), (114 : UInt8)]))), nrm (PV.s (Value.slice none 0 0)), nrm (PV.s (Value.slice none 0 0)), nrm (pI w.op), nrm (pS w.kind), nrm (pS w.name), nrm (PV.sl (List.map Val.row w.values)), nrm (PV.sl (rowsE w.kids))])) (List.range 1))) ≠ [] ∧ (u.length + 1 + 1) * 168 ≤ 140737488355328 ∧ u.length + 1 + 1 ≤ 4611686018427387904) (.cons c1 (.cons c2 (.cons c3 (.cons (natVi64 (by omega) (by omega) (by omega) : Value.int .i64 (IntKind.i64.wrap ((↑pre.length : Int) + (1 : Int))) = .int .i64 ((pre.length + 1 : Nat) : Int)) .nil)))))))))))))))) (by kernel_rfl) ih
end Go.Proofs.YtbdnigendhhndaaGreatDoor
end
section
/- The law on references, closed. -/
namespace Go.Proofs.YtbdnigendhhndaaGreatDoor
open Go Go.Ev
set_option maxRecDepth 100000

theorem segEdges_same (l : List Seg) : segEdgesR l = segEdges l := by
  induction l with
  | nil => rfl
  | cons g r ih => simp only [segEdgesR, segEdges, refers_same, ih]
theorem ordR_len (ns : List ByteArray) (E : List (ByteArray × ByteArray)) : ∀ (f : Nat) (o q : List ByteArray), ordR ns E f o = some q → q.length ≤ o.length + f
  | 0, o, q, h => by simp only [ordR, Option.some.injEq] at h; subst h; simp
  | f + 1, o, q, h => by
    simp only [ordR] at h
    cases hd : decide (o.length < ns.length) with
    | false => rw [hd] at h; simp only [cond_false, Option.some.injEq] at h; subst h; omega
    | true =>
      rw [hd] at h
      simp only [cond_true] at h
      split at h
      · have := ordR_len ns E f _ q h
        simp at this
        omega
      · cases h
theorem orderR_len (ns : List ByteArray) (E : List (ByteArray × ByteArray)) : (orderR ns E).1.length ≤ ns.length + 1 := by
  unfold orderR
  cases dupF [] ns with
  | true => simp
  | false =>
    cases E.all (edgeOkR ns) with
    | false => simp
    | true =>
      simp only [cond_true, cond_false]
      cases ho : ordR ns E (ns.length + 1) [] with
      | none => simp
      | some o => have := ordR_len ns E _ _ _ ho; simpa using this
theorem eqSs_refl (l : List ByteArray) : eqSs l l = true := by
  induction l with
  | nil => rfl
  | cons x r ih => simp only [eqSs, eqL, eqS] at ih ⊢; simp [ih]
/-- Both orders of some segments. -/
theorem orders_both (g : Seg) (r : List Seg) (hl : r.length ≤ 3) (hd : ∀ x ∈ g :: r, SegDr x) : ∃ (o : List ByteArray) (f : Int),
    EvCall cx 15 [sl ((g :: r).map Seg.row)] [] (.tup [sl (strs o), int f]) [] ∧
    EvCall cx 16 [sl ((g :: r).map Seg.row)] [] (.tup [sl (strs o), int f]) [] ∧
    EvCall cx 12 [sl (strs o), sl (strs o)] [] (bool true) [] := by
  have h1 := order15 (g :: r) ⟨by simp; omega, fun x hx => (hd x hx).segOk⟩
  have hel := segEdges_len (g :: r) fun x hx => (hd x hx).segOk
  have h2 := order16 (g :: r) (by simp; omega) (fun x hx => ⟨(hd x hx).ok, by have := (hd x hx).nodes; omega⟩) (by rw [segEdges_same]; simp at hel ⊢; omega)
  have he : orderS (g :: r) = orderR ((g :: r).map Seg.key) (segEdgesR (g :: r)) := by
    rw [segEdges_same, ← order_same]; rfl
  rw [he] at h1
  have hlen := orderR_len ((g :: r).map Seg.key) (segEdgesR (g :: r))
  have h3 := same12 (orderR ((g :: r).map Seg.key) (segEdgesR (g :: r))).1 (orderR ((g :: r).map Seg.key) (segEdgesR (g :: r))).1 (by simp only [List.length_map, List.length_cons] at hlen; omega)
  rw [eqSs_refl] at h3
  exact ⟨_, _, h1, h2, h3⟩
theorem law3 (cl : List Int) (hc : ∀ b ∈ cl, 0 ≤ b ∧ b ≤ 255) (e : Exp) (he : e.Ok) (hn : e.nodes ≤ 2 ^ 30) : EvCall cx 3 [sl (u8s cl), ag e.row] [] (bool true) [] := by
  have ha := awake8
  obtain ⟨c, hn9, hcm, hcl⟩ := new9 cl 150
  have hC : Codes c := ⟨fun b hb => hc b (hcm b hb), by omega⟩
  have r1 := refers13 e he hn
  have r2 : EvCall cx 14 [ag e.row] [] (sl (strs (refersS e))) [] := by rw [refers_same]; exact refers14 e he hn
  have r3 := same_refs e he hn
  rcases Decidable.em ((((rowsE e.kids).length : Nat) : Int) > 20) with h20 | h20
  · exact EvCall.run Tryz.f3 Tryz.func3 Tryz.call3 [.val, .call (Ev.bool true) ([]), .same, .same, T, .same, .val] (.cons ha (.cons (vb (by simp; omega : decide ((↑(rowsE e.kids).length : Int) > (20 : Int)) = true)) .nil)) (by kernel_rfl)
  · obtain ⟨L, p1, hk, hd, hlp⟩ := l3_loop e hC nms [] [] 0 0 rfl rfl (by simp)
    obtain ⟨a, b, d, f, rfl⟩ : ∃ a b d f, L = [a, b, d, f] := by
      have hl : L.length = 4 := by have := congrArg List.length hk; simpa using this
      match L, hl with
      | [a, b, d, f], _ => exact ⟨a, b, d, f, rfl⟩
    simp only [l3e, l3s, l3o, segV, segS, List.map_nil, List.map_cons, ownV, ownS, List.length_nil, List.append_nil, List.length_cons, List.cons_append, List.nil_append] at hlp
    obtain ⟨k, p2, hdr, _, _⟩ := draw10 hC p1 5 (by omega)
    cases hk5 : ((k : Int) == 1) with
    | true =>
      obtain ⟨o, g, o1, o2, o3⟩ := orders_both b [d, f] (by simp) (fun x hx => hd x (List.mem_cons_of_mem _ hx))
      have hff : (g == g) = true := by simp
      exact EvCall.run Tryz.f3 Tryz.func3 Tryz.call3 [.val, .call (Ev.bool true) ([]), .same, .same, F, .same, .val, .call (AV.ref (0, 0) 0) ([cod c (0 : Int)]), .loop [3, 5, 6, 7, 8] [(4, 0), (22, 0), (23, 0)] (AE.exit 0) ({ e := [(3, AV.ref (4, 0) 0), (5, AV.ref (22, 0) 0), (7, AV.ms (49, 0) 0 4 4)], s := [((4, 0), AO.cells [AV.p (PV.s (Value.int IntKind.i64 e.op)), AV.p (PV.s (Value.string e.kind)), AV.p (PV.s (Value.string e.name)), AV.p (PV.sl (List.map Val.row e.values)), AV.p (PV.sl (rowsE e.kids))]), ((22, 0), AO.cells [AV.p (PV.sl (u8s c)), AV.p (PV.s (Value.int IntKind.i64 (↑p1 : Int)))]), ((49, 0), AO.arr 9 [[PV.s (Value.string a.key), PV.s (Value.string a.kind), PV.sl (strs a.incl), PV.sl (strs a.excl), PV.s (Value.int IntKind.i64 a.when.op), PV.s (Value.string a.when.kind), PV.s (Value.string a.when.name), PV.sl (List.map Val.row a.when.values), PV.sl (rowsE a.when.kids)], [PV.s (Value.string b.key), PV.s (Value.string b.kind), PV.sl (strs b.incl), PV.sl (strs b.excl), PV.s (Value.int IntKind.i64 b.when.op), PV.s (Value.string b.when.kind), PV.s (Value.string b.when.name), PV.sl (List.map Val.row b.when.values), PV.sl (rowsE b.when.kids)], [PV.s (Value.string d.key), PV.s (Value.string d.kind), PV.sl (strs d.incl), PV.sl (strs d.excl), PV.s (Value.int IntKind.i64 d.when.op), PV.s (Value.string d.when.kind), PV.s (Value.string d.when.name), PV.sl (List.map Val.row d.when.values), PV.sl (rowsE d.when.kids)], [PV.s (Value.string f.key), PV.s (Value.string f.kind), PV.sl (strs f.incl), PV.sl (strs f.excl), PV.s (Value.int IntKind.i64 f.when.op), PV.s (Value.string f.when.kind), PV.s (Value.string f.when.name), PV.sl (List.map Val.row f.when.values), PV.sl (rowsE f.when.kids)]] 0)] }), .val, .call (int (↑k : Int)) ([cod c (↑p2 : Int)]), T, .same, .val, .same, .call (AV.tup [sl (strs o), int g]) ([]), .val, .same, .call (AV.tup [sl (strs o), int g]) ([]), T, .same, .same, .same, .val, .call (Ev.bool true) ([]), .same, .same, .same, .val, .call (sl (strs (refersS e))) ([]), .same, .same, .val, .call (sl (strs (refersS e))) ([]), .same, .val, .call (Ev.bool true) ([]), .same, .val] (.cons ha (.cons (vb (by simp; omega : decide ((↑(rowsE e.kids).length : Int) > (20 : Int)) = false)) (.cons hn9 (.cons hlp (.cons hdr (.cons (vb hk5) (.cons (⟨rfl, ⟨(by omega), ⟨(by omega), (by omega)⟩⟩⟩ : 4 = 4 ∧ (0 : Int) ≤ (1 : Int) ∧ (1 : Int) ≤ (4 : Int) ∧ (4 : Int) ≤ (4 : Int)) (.cons (⟨rfl, (by omega)⟩ : 4 = 4 ∧ 4 ≤ 4) (.cons o1 (.cons (⟨rfl, (by omega)⟩ : 4 = 4 ∧ 4 ≤ 4) (.cons o2 (.cons (vb hff) (.cons o3 (.cons r1 (.cons r2 (.cons r3 .nil)))))))))))))))) (by kernel_rfl)
    | false =>
      obtain ⟨o, g, o1, o2, o3⟩ := orders_both a [b, d, f] (by simp) hd
      have hff : (g == g) = true := by simp
      exact EvCall.run Tryz.f3 Tryz.func3 Tryz.call3 [.val, .call (Ev.bool true) ([]), .same, .same, F, .same, .val, .call (AV.ref (0, 0) 0) ([cod c (0 : Int)]), .loop [3, 5, 6, 7, 8] [(4, 0), (22, 0), (23, 0)] (AE.exit 0) ({ e := [(3, AV.ref (4, 0) 0), (5, AV.ref (22, 0) 0), (7, AV.ms (49, 0) 0 4 4)], s := [((4, 0), AO.cells [AV.p (PV.s (Value.int IntKind.i64 e.op)), AV.p (PV.s (Value.string e.kind)), AV.p (PV.s (Value.string e.name)), AV.p (PV.sl (List.map Val.row e.values)), AV.p (PV.sl (rowsE e.kids))]), ((22, 0), AO.cells [AV.p (PV.sl (u8s c)), AV.p (PV.s (Value.int IntKind.i64 (↑p1 : Int)))]), ((49, 0), AO.arr 9 [[PV.s (Value.string a.key), PV.s (Value.string a.kind), PV.sl (strs a.incl), PV.sl (strs a.excl), PV.s (Value.int IntKind.i64 a.when.op), PV.s (Value.string a.when.kind), PV.s (Value.string a.when.name), PV.sl (List.map Val.row a.when.values), PV.sl (rowsE a.when.kids)], [PV.s (Value.string b.key), PV.s (Value.string b.kind), PV.sl (strs b.incl), PV.sl (strs b.excl), PV.s (Value.int IntKind.i64 b.when.op), PV.s (Value.string b.when.kind), PV.s (Value.string b.when.name), PV.sl (List.map Val.row b.when.values), PV.sl (rowsE b.when.kids)], [PV.s (Value.string d.key), PV.s (Value.string d.kind), PV.sl (strs d.incl), PV.sl (strs d.excl), PV.s (Value.int IntKind.i64 d.when.op), PV.s (Value.string d.when.kind), PV.s (Value.string d.when.name), PV.sl (List.map Val.row d.when.values), PV.sl (rowsE d.when.kids)], [PV.s (Value.string f.key), PV.s (Value.string f.kind), PV.sl (strs f.incl), PV.sl (strs f.excl), PV.s (Value.int IntKind.i64 f.when.op), PV.s (Value.string f.when.kind), PV.s (Value.string f.when.name), PV.sl (List.map Val.row f.when.values), PV.sl (rowsE f.when.kids)]] 0)] }), .val, .call (int (↑k : Int)) ([cod c (↑p2 : Int)]), F, .same, .val, .row [.sl ([[PV.s (Value.string a.key), PV.s (Value.string a.kind), PV.sl (strs a.incl), PV.sl (strs a.excl), PV.s (Value.int IntKind.i64 a.when.op), PV.s (Value.string a.when.kind), PV.s (Value.string a.when.name), PV.sl (List.map Val.row a.when.values), PV.sl (rowsE a.when.kids)], [PV.s (Value.string b.key), PV.s (Value.string b.kind), PV.sl (strs b.incl), PV.sl (strs b.excl), PV.s (Value.int IntKind.i64 b.when.op), PV.s (Value.string b.when.kind), PV.s (Value.string b.when.name), PV.sl (List.map Val.row b.when.values), PV.sl (rowsE b.when.kids)], [PV.s (Value.string d.key), PV.s (Value.string d.kind), PV.sl (strs d.incl), PV.sl (strs d.excl), PV.s (Value.int IntKind.i64 d.when.op), PV.s (Value.string d.when.kind), PV.s (Value.string d.when.name), PV.sl (List.map Val.row d.when.values), PV.sl (rowsE d.when.kids)], [PV.s (Value.string f.key), PV.s (Value.string f.kind), PV.sl (strs f.incl), PV.sl (strs f.excl), PV.s (Value.int IntKind.i64 f.when.op), PV.s (Value.string f.when.kind), PV.s (Value.string f.when.name), PV.sl (List.map Val.row f.when.values), PV.sl (rowsE f.when.kids)]])], .call (AV.tup [sl (strs o), int g]) ([]), .val, .row [.sl ([[PV.s (Value.string a.key), PV.s (Value.string a.kind), PV.sl (strs a.incl), PV.sl (strs a.excl), PV.s (Value.int IntKind.i64 a.when.op), PV.s (Value.string a.when.kind), PV.s (Value.string a.when.name), PV.sl (List.map Val.row a.when.values), PV.sl (rowsE a.when.kids)], [PV.s (Value.string b.key), PV.s (Value.string b.kind), PV.sl (strs b.incl), PV.sl (strs b.excl), PV.s (Value.int IntKind.i64 b.when.op), PV.s (Value.string b.when.kind), PV.s (Value.string b.when.name), PV.sl (List.map Val.row b.when.values), PV.sl (rowsE b.when.kids)], [PV.s (Value.string d.key), PV.s (Value.string d.kind), PV.sl (strs d.incl), PV.sl (strs d.excl), PV.s (Value.int IntKind.i64 d.when.op), PV.s (Value.string d.when.kind), PV.s (Value.string d.when.name), PV.sl (List.map Val.row d.when.values), PV.sl (rowsE d.when.kids)], [PV.s (Value.string f.key), PV.s (Value.string f.kind), PV.sl (strs f.incl), PV.sl (strs f.excl), PV.s (Value.int IntKind.i64 f.when.op), PV.s (Value.string f.when.kind), PV.s (Value.string f.when.name), PV.sl (List.map Val.row f.when.values), PV.sl (rowsE f.when.kids)]])], .call (AV.tup [sl (strs o), int g]) ([]), T, .same, .same, .same, .val, .call (Ev.bool true) ([]), .same, .same, .same, .val, .call (sl (strs (refersS e))) ([]), .same, .same, .val, .call (sl (strs (refersS e))) ([]), .same, .val, .call (Ev.bool true) ([]), .same, .val] (.cons ha (.cons (vb (by simp; omega : decide ((↑(rowsE e.kids).length : Int) > (20 : Int)) = false)) (.cons hn9 (.cons hlp (.cons hdr (.cons (vb hk5) (.cons (⟨rfl, (by omega)⟩ : 4 = 4 ∧ 4 ≤ 4) (.cons (by simp : some [PV.sl (List.take 4 (List.drop 0 [[PV.s (Value.string a.key), PV.s (Value.string a.kind), PV.sl (strs a.incl), PV.sl (strs a.excl), PV.s (Value.int IntKind.i64 a.when.op), PV.s (Value.string a.when.kind), PV.s (Value.string a.when.name), PV.sl (List.map Val.row a.when.values), PV.sl (rowsE a.when.kids)], [PV.s (Value.string b.key), PV.s (Value.string b.kind), PV.sl (strs b.incl), PV.sl (strs b.excl), PV.s (Value.int IntKind.i64 b.when.op), PV.s (Value.string b.when.kind), PV.s (Value.string b.when.name), PV.sl (List.map Val.row b.when.values), PV.sl (rowsE b.when.kids)], [PV.s (Value.string d.key), PV.s (Value.string d.kind), PV.sl (strs d.incl), PV.sl (strs d.excl), PV.s (Value.int IntKind.i64 d.when.op), PV.s (Value.string d.when.kind), PV.s (Value.string d.when.name), PV.sl (List.map Val.row d.when.values), PV.sl (rowsE d.when.kids)], [PV.s (Value.string f.key), PV.s (Value.string f.kind), PV.sl (strs f.incl), PV.sl (strs f.excl), PV.s (Value.int IntKind.i64 f.when.op), PV.s (Value.string f.when.kind), PV.s (Value.string f.when.name), PV.sl (List.map Val.row f.when.values), PV.sl (rowsE f.when.kids)]]))] = some [PV.sl ([[PV.s (Value.string a.key), PV.s (Value.string a.kind), PV.sl (strs a.incl), PV.sl (strs a.excl), PV.s (Value.int IntKind.i64 a.when.op), PV.s (Value.string a.when.kind), PV.s (Value.string a.when.name), PV.sl (List.map Val.row a.when.values), PV.sl (rowsE a.when.kids)], [PV.s (Value.string b.key), PV.s (Value.string b.kind), PV.sl (strs b.incl), PV.sl (strs b.excl), PV.s (Value.int IntKind.i64 b.when.op), PV.s (Value.string b.when.kind), PV.s (Value.string b.when.name), PV.sl (List.map Val.row b.when.values), PV.sl (rowsE b.when.kids)], [PV.s (Value.string d.key), PV.s (Value.string d.kind), PV.sl (strs d.incl), PV.sl (strs d.excl), PV.s (Value.int IntKind.i64 d.when.op), PV.s (Value.string d.when.kind), PV.s (Value.string d.when.name), PV.sl (List.map Val.row d.when.values), PV.sl (rowsE d.when.kids)], [PV.s (Value.string f.key), PV.s (Value.string f.kind), PV.sl (strs f.incl), PV.sl (strs f.excl), PV.s (Value.int IntKind.i64 f.when.op), PV.s (Value.string f.when.kind), PV.s (Value.string f.when.name), PV.sl (List.map Val.row f.when.values), PV.sl (rowsE f.when.kids)]])]) (.cons o1 (.cons (⟨rfl, (by omega)⟩ : 4 = 4 ∧ 4 ≤ 4) (.cons (by simp : some [PV.sl (List.take 4 (List.drop 0 [[PV.s (Value.string a.key), PV.s (Value.string a.kind), PV.sl (strs a.incl), PV.sl (strs a.excl), PV.s (Value.int IntKind.i64 a.when.op), PV.s (Value.string a.when.kind), PV.s (Value.string a.when.name), PV.sl (List.map Val.row a.when.values), PV.sl (rowsE a.when.kids)], [PV.s (Value.string b.key), PV.s (Value.string b.kind), PV.sl (strs b.incl), PV.sl (strs b.excl), PV.s (Value.int IntKind.i64 b.when.op), PV.s (Value.string b.when.kind), PV.s (Value.string b.when.name), PV.sl (List.map Val.row b.when.values), PV.sl (rowsE b.when.kids)], [PV.s (Value.string d.key), PV.s (Value.string d.kind), PV.sl (strs d.incl), PV.sl (strs d.excl), PV.s (Value.int IntKind.i64 d.when.op), PV.s (Value.string d.when.kind), PV.s (Value.string d.when.name), PV.sl (List.map Val.row d.when.values), PV.sl (rowsE d.when.kids)], [PV.s (Value.string f.key), PV.s (Value.string f.kind), PV.sl (strs f.incl), PV.sl (strs f.excl), PV.s (Value.int IntKind.i64 f.when.op), PV.s (Value.string f.when.kind), PV.s (Value.string f.when.name), PV.sl (List.map Val.row f.when.values), PV.sl (rowsE f.when.kids)]]))] = some [PV.sl ([[PV.s (Value.string a.key), PV.s (Value.string a.kind), PV.sl (strs a.incl), PV.sl (strs a.excl), PV.s (Value.int IntKind.i64 a.when.op), PV.s (Value.string a.when.kind), PV.s (Value.string a.when.name), PV.sl (List.map Val.row a.when.values), PV.sl (rowsE a.when.kids)], [PV.s (Value.string b.key), PV.s (Value.string b.kind), PV.sl (strs b.incl), PV.sl (strs b.excl), PV.s (Value.int IntKind.i64 b.when.op), PV.s (Value.string b.when.kind), PV.s (Value.string b.when.name), PV.sl (List.map Val.row b.when.values), PV.sl (rowsE b.when.kids)], [PV.s (Value.string d.key), PV.s (Value.string d.kind), PV.sl (strs d.incl), PV.sl (strs d.excl), PV.s (Value.int IntKind.i64 d.when.op), PV.s (Value.string d.when.kind), PV.s (Value.string d.when.name), PV.sl (List.map Val.row d.when.values), PV.sl (rowsE d.when.kids)], [PV.s (Value.string f.key), PV.s (Value.string f.kind), PV.sl (strs f.incl), PV.sl (strs f.excl), PV.s (Value.int IntKind.i64 f.when.op), PV.s (Value.string f.when.kind), PV.s (Value.string f.when.name), PV.sl (List.map Val.row f.when.values), PV.sl (rowsE f.when.kids)]])]) (.cons o2 (.cons (vb hff) (.cons o3 (.cons r1 (.cons r2 (.cons r3 .nil))))))))))))))))) (by kernel_rfl)
end Go.Proofs.YtbdnigendhhndaaGreatDoor
end
