/- A part of the proofs of this seat's laws (abstract interpretation of the translated program, and contracts of its functions); no statement of its own. -/
import Derived.Test.YtbdnigendhhndaaGreatDoorBd
import Derived.Test.YtbdnigendhhndaaGreatDoorBa
import Derived.Test.YtbdnigendhhndaaGreatDoorBc
import Derived.Test.YtbdnigendhhndaaGreatDoorFc
set_option linter.unusedVariables false
set_option linter.unusedSimpArgs false
section
/- segment.Refers. -/
namespace Go.Proofs.YtbdnigendhhndaaGreatDoor
open Go Go.Ev
set_option maxRecDepth 100000

def refsIn (l : List Exp) : List ByteArray := (l.filter fun a => a.op == 5).map Exp.name
theorem refsIn_cons (a : Exp) (l : List Exp) : refsIn (a :: l) = bif a.op == 5 then a.name :: refsIn l else refsIn l := by
  unfold refsIn
  cases h : a.op == 5 <;> simp [List.filter_cons, h]

theorem refers_loop (l : List Exp) (hl : l.length ≤ 2 ^ 30) : ∀ (suf pre : List Exp) (o : List ByteArray), l = pre ++ suf → o.length ≤ pre.length →
    EvCode cx (EvCall cx) (.loop (loopBody Tryz.f13 0)) ⟨[(3, ownV (21, 0) (strs o)), (7, sl (l.map Exp.row)), (8, int l.length), (9, int pre.length)], ownS (21, 0) 1 (strs o)⟩
      (.exit 0) ⟨[(3, ownV (21, 0) (strs (o ++ refsIn suf)))], ownS (21, 0) 1 (strs (o ++ refsIn suf))⟩
  | [], pre, o, h, ho => by
    have hp : pre.length = l.length := by rw [h]; simp
    have e : o ++ refsIn [] = o := by simp [refsIn]
    rw [e]
    cases o with
    | nil => exact EvCode.out [F, .same] [3] [] (.cons (vb (by simp; omega : decide ((↑pre.length : Int) < (↑l.length : Int)) = false)) .nil) (AE.ne_exit _) (by kernel_rfl)
    | cons a u =>
      simp only [ownS_cons, ownV_cons]
      exact EvCode.out [F, .same] [3] [(21, 0)] (.cons (vb (by simp; omega : decide ((↑pre.length : Int) < (↑l.length : Int)) = false)) .nil) (AE.ne_exit _) (by kernel_rfl)
  | x :: r, pre, o, h, ho => by
    have hlt : pre.length < l.length := by rw [h]; simp
    have hx : l[pre.length]? = some x := get_of_split h
    rw [refsIn_cons]
    cases hb : x.op == 5 with
    | true =>
      have ih := refers_loop l hl r (pre ++ [x]) (o ++ [x.name]) (by simp [h]) (by simp; omega)
      rw [ownV_snoc, ownS_snoc] at ih
      simp only [List.length_append, List.length_singleton, List.append_assoc, List.singleton_append] at ih
      simp only [cond_true]
      cases o with
      | nil => exact EvCode.round [T, .same, .row (x.row), .same, T, .same, .same, .v (.int .i64 ((pre.length + 1 : Nat) : Int))] [3, 7, 8, 9] [(21, 0)] (.cons (vb (by simp; omega : decide ((↑pre.length : Int) < (↑l.length : Int)) = true)) (.cons (rowI_at hx : rowI (List.map Exp.row l) (↑pre.length : Int) = some x.row) (.cons (vb hb) (.cons (⟨rfl, (by omega)⟩ : 1 = 1 ∧ 1 ≤ 1) (.cons (⟨(by simp), ⟨(by omega), (by omega)⟩⟩ : List.take 1 (List.drop 0 (List.map (fun (i : Nat) => List.take ti9.sz (List.drop (i * ti9.sz) [nrm (pS x.name)])) (List.range 1))) ≠ [] ∧ 16 ≤ 140737488355328 ∧ 1 ≤ 4611686018427387904) (.cons (natVi64 (by omega) (by omega) (by omega) : Value.int .i64 (IntKind.i64.wrap ((↑pre.length : Int) + (1 : Int))) = .int .i64 ((pre.length + 1 : Nat) : Int)) .nil)))))) (by kernel_rfl) ih
      | cons a u =>
        have hsl : (strs (a :: u)).length = u.length + 1 := by simp [strs]
        simp only [List.length_cons] at ho
        simp only [ownS_cons, ownV_cons]
        exact EvCode.round [T, .same, .row (x.row), .same, T, .same, .same, .val, .v (.int .i64 ((pre.length + 1 : Nat) : Int))] [3, 7, 8, 9] [(21, 0)] (.cons (vb (by simp; omega : decide ((↑pre.length : Int) < (↑l.length : Int)) = true)) (.cons (rowI_at hx : rowI (List.map Exp.row l) (↑pre.length : Int) = some x.row) (.cons (vb hb) (.cons (⟨rfl, (by omega)⟩ : 1 = 1 ∧ 1 ≤ 1) (.cons (⟨hsl, ⟨rfl, ⟨rfl, ⟨rfl, ⟨(by simp), ⟨(by omega), (by omega)⟩⟩⟩⟩⟩⟩ : (strs (a :: u)).length = u.length + 1 ∧ 0 = 0 ∧ u.length + 1 = u.length + 1 ∧ 1 = 1 ∧ List.take 1 (List.drop 0 (List.map (fun (i : Nat) => List.take ti9.sz (List.drop (i * ti9.sz) [nrm (pS x.name)])) (List.range 1))) ≠ [] ∧ (u.length + 1 + 1) * 16 ≤ 140737488355328 ∧ u.length + 1 + 1 ≤ 4611686018427387904) (.cons (natVi64 (by omega) (by omega) (by omega) : Value.int .i64 (IntKind.i64.wrap ((↑pre.length : Int) + (1 : Int))) = .int .i64 ((pre.length + 1 : Nat) : Int)) .nil)))))) (by kernel_rfl) ih
    | false =>
      have ih := refers_loop l hl r (pre ++ [x]) o (by simp [h]) (by simp; omega)
      simp only [List.length_append, List.length_singleton] at ih
      simp only [cond_false]
      cases o with
      | nil => exact EvCode.round [T, .same, .row (x.row), .same, F, .same, .v (.int .i64 ((pre.length + 1 : Nat) : Int))] [3, 7, 8, 9] [] (.cons (vb (by simp; omega : decide ((↑pre.length : Int) < (↑l.length : Int)) = true)) (.cons (rowI_at hx : rowI (List.map Exp.row l) (↑pre.length : Int) = some x.row) (.cons (vb hb) (.cons (natVi64 (by omega) (by omega) (by omega) : Value.int .i64 (IntKind.i64.wrap ((↑pre.length : Int) + (1 : Int))) = .int .i64 ((pre.length + 1 : Nat) : Int)) .nil)))) (by kernel_rfl) ih
      | cons a u =>
        simp only [ownS_cons, ownV_cons] at ih ⊢
        exact EvCode.round [T, .same, .row (x.row), .same, F, .same, .v (.int .i64 ((pre.length + 1 : Nat) : Int))] [3, 7, 8, 9] [(21, 0)] (.cons (vb (by simp; omega : decide ((↑pre.length : Int) < (↑l.length : Int)) = true)) (.cons (rowI_at hx : rowI (List.map Exp.row l) (↑pre.length : Int) = some x.row) (.cons (vb hb) (.cons (natVi64 (by omega) (by omega) (by omega) : Value.int .i64 (IntKind.i64.wrap ((↑pre.length : Int) + (1 : Int))) = .int .i64 ((pre.length + 1 : Nat) : Int)) .nil)))) (by kernel_rfl) ih
def refsOf (e : Exp) : List ByteArray := refsIn (atomsL e [])
def refersS (e : Exp) : List ByteArray := compactS (isort (refsOf e))
theorem refsIn_len (l : List Exp) : (refsIn l).length ≤ l.length := by
  unfold refsIn
  rw [List.length_map]
  exact List.length_filter_le _ _
theorem refers13 (e : Exp) (he : e.Ok) (hn : e.nodes ≤ 2 ^ 30) : EvCall cx 13 [ag e.row] [] (sl (strs (refersS e))) [] := by
  have ha := atoms29 e he hn
  have hlen := atomsL_len e []
  simp only [List.length_nil] at hlen
  have hlp := refers_loop (atomsL e []) (by omega) (atomsL e []) [] [] rfl (Nat.le_refl _)
  rw [List.nil_append, show refsIn (atomsL e []) = refsOf e from rfl] at hlp
  rw [show ((atomsL e []).length : Int) = (((atomsL e []).map Exp.row).length : Nat) by simp] at hlp
  unfold refersS
  have hr : (refsOf e).length ≤ 2 ^ 30 := by have := refsIn_len (atomsL e []); unfold refsOf; omega
  generalize refsOf e = o at *
  cases o with
  | nil =>
    have hs := sortNil
    have hc := compactNil
    exact EvCall.run Tryz.f13 Tryz.func13 Tryz.call13 [.val, .call (sl (List.map Exp.row (atomsL e []))) ([]), .loop [3, 7, 8, 9] [] (AE.exit 0) ({ e := [(3, AV.p (PV.s (Value.slice none 0 0)))], s := [] }), .ref, .call (AV.tup []) ([]), .val, .call (sl []) ([]), .val] (.cons ha (.cons hlp (.cons hs (.cons hc .nil)))) (by kernel_rfl)
  | cons a u =>
    simp only [ownS_cons, ownV_cons] at hlp
    have hil : (isort (a :: u)).length = u.length + 1 := by rw [isort_len]; simp
    have hs := sortAny a u hr (u.length + 1) (by simp)
    obtain ⟨rs, hrs, hc⟩ := compact31 (isort (a :: u)) (u.length + 1) hil.symm (by omega) (by simp at hr; omega)
    have hle : 0 + (compactS (isort (a :: u))).length ≤ u.length + 1 := by rw [← hrs]; simp [strs]
    have htk : List.take (compactS (isort (a :: u))).length (List.drop 0 (strs (compactS (isort (a :: u))) ++ rs)) = strs (compactS (isort (a :: u))) := by
      rw [List.drop_zero, ← strs_length, List.take_left]
    exact EvCall.run Tryz.f13 Tryz.func13 Tryz.call13 [.val, .call (sl (List.map Exp.row (atomsL e []))) ([]), .loop [3, 7, 8, 9] [] (AE.exit 0) ({ e := [(3, AV.ms (21, 0) 0 (u.length + 1) (u.length + 1))], s := [((21, 0), AO.arr 1 (strs (a :: u)) 0)] }), .ref, .call (AV.tup []) ([AO.arr 1 (strs (isort (a :: u))) 0]), .ref, .call (AV.ms (0, 0) 0 (compactS (isort (a :: u))).length (u.length + 1)) ([AO.arr 1 (strs (compactS (isort (a :: u))) ++ rs) 0]), .val, .row [.sl (strs (compactS (isort (a :: u))))]] (.cons ha (.cons hlp (.cons hs (.cons hc (.cons (⟨hrs, hle⟩ : (strs (compactS (isort (a :: u))) ++ rs).length = u.length + 1 ∧ 0 + (compactS (isort (a :: u))).length ≤ u.length + 1) (.cons (congrArg (fun z => some [PV.sl z]) htk) .nil)))))) (by kernel_rfl)
end Go.Proofs.YtbdnigendhhndaaGreatDoor
end
section
/- segment.Order. -/
namespace Go.Proofs.YtbdnigendhhndaaGreatDoor
open Go Go.Ev
set_option maxRecDepth 100000

theorem ownV_snocR (id : Ev.Id) (o : List (List PV)) (x : List PV) : ownV id (o ++ [x]) = .ms id 0 (o.length + 1) (o.length + 1) := by
  cases o with
  | nil => rfl
  | cons y t => simp [ownV]
theorem ownS_snocR (id : Ev.Id) (sz : Nat) (o : List (List PV)) (x : List PV) : ownS id sz (o ++ [x]) = [(id, .arr sz (o ++ [x]) 0)] := by
  cases o with
  | nil => rfl
  | cons y t => simp [ownS]
def edgR' (E : List (ByteArray × ByteArray)) : List (List PV) := E.map edgR
theorem edgR_length (E : List (ByteArray × ByteArray)) : (edgR' E).length = E.length := by simp [edgR']
theorem ownS_consE (id : Ev.Id) (x : ByteArray × ByteArray) (r : List (ByteArray × ByteArray)) : ownS id 2 (edgR' (x :: r)) = [(id, .arr 2 (edgR' (x :: r)) 0)] := rfl
theorem ownV_consE (id : Ev.Id) (x : ByteArray × ByteArray) (r : List (ByteArray × ByteArray)) : ownV id (edgR' (x :: r)) = .ms id 0 (r.length + 1) (r.length + 1) := by simp [ownV, edgR']
theorem ownV_snocE (id : Ev.Id) (o : List (ByteArray × ByteArray)) (x : ByteArray × ByteArray) : ownV id (edgR' (o ++ [x])) = .ms id 0 (o.length + 1) (o.length + 1) := by
  cases o with
  | nil => rfl
  | cons y t => simp [ownV, edgR']
theorem ownS_snocE (id : Ev.Id) (o : List (ByteArray × ByteArray)) (x : ByteArray × ByteArray) : ownS id 2 (edgR' (o ++ [x])) = [(id, .arr 2 (edgR' o ++ [edgR x]) 0)] := by
  cases o with
  | nil => rfl
  | cons y t => simp [ownS, edgR']

theorem ord_inner (l : List Seg) (g : Seg) (i n : Nat) (KR : List (List PV)) (R : List ByteArray) (hR : R.length ≤ 2 ^ 20) : ∀ (suf pre : List ByteArray) (E : List (ByteArray × ByteArray)), R = pre ++ suf → E.length + suf.length ≤ 2 ^ 30 →
    EvCode cx (EvCall cx) (.loop (loopBody Tryz.f15 1)) ⟨[(4, .ms (21, 0) 0 n n), (5, ownV (36, 0) (edgR' E)), (7, .ref (8, 0) 0), (10, sl (l.map Seg.row)), (11, int l.length), (12, int i), (23, sl (strs R)), (24, int R.length), (25, int pre.length)],
        [((8, 0), .cells (g.row.map .p)), ((21, 0), .arr 1 KR 0)] ++ ownS (36, 0) 2 (edgR' E)⟩
      (.exit 2) ⟨[(4, .ms (21, 0) 0 n n), (5, ownV (36, 0) (edgR' (E ++ suf.map fun r => (g.key, r)))), (10, sl (l.map Seg.row)), (11, int l.length), (12, int i)], [((21, 0), .arr 1 KR 0)] ++ ownS (36, 0) 2 (edgR' (E ++ suf.map fun r => (g.key, r)))⟩
  | [], pre, E, h, hE => by
    have hp : pre.length = R.length := by rw [h]; simp
    simp only [List.map_nil, List.append_nil]
    cases E with
    | nil => exact EvCode.out [F, .same] [4, 5, 10, 11, 12] [(21, 0)] (.cons (vb (by simp; omega : decide ((↑pre.length : Int) < (↑R.length : Int)) = false)) .nil) (AE.ne_exit _) (by kernel_rfl)
    | cons b v =>
      simp only [ownS_consE, ownV_consE, List.cons_append, List.nil_append]
      exact EvCode.out [F, .same] [4, 5, 10, 11, 12] [(21, 0), (36, 0)] (.cons (vb (by simp; omega : decide ((↑pre.length : Int) < (↑R.length : Int)) = false)) .nil) (AE.ne_exit _) (by kernel_rfl)
  | x :: r, pre, E, h, hE => by
    have hlt : pre.length < R.length := by rw [h]; simp
    have hx : R[pre.length]? = some x := get_of_split h
    have ih := ord_inner l g i n KR R hR r (pre ++ [x]) (E ++ [(g.key, x)]) (by simp [h]) (by simp at hE ⊢; omega)
    rw [ownV_snocE, ownS_snocE] at ih
    simp only [List.length_append, List.length_singleton, List.append_assoc, List.singleton_append, List.cons_append, List.nil_append] at ih
    simp only [List.map_cons]
    cases E with
    | nil => exact EvCode.round [T, .same, .row ([pS x]), .same, .same, .v (.int .i64 ((pre.length + 1 : Nat) : Int))] [4, 5, 7, 10, 11, 12, 23, 24, 25] [(8, 0), (21, 0), (36, 0)] (.cons (vb (by simp; omega : decide ((↑pre.length : Int) < (↑R.length : Int)) = true)) (.cons (rowI_strs hx : rowI (strs R) (↑pre.length : Int) = some [pS x]) (.cons (⟨rfl, (by omega)⟩ : 1 = 1 ∧ 1 ≤ 1) (.cons (⟨(by simp), ⟨(by omega), (by omega)⟩⟩ : List.take 1 (List.drop 0 (List.map (fun (i : Nat) => List.take ti79.sz (List.drop (i * ti79.sz) [nrm (pS g.key), nrm (pS x)])) (List.range 1))) ≠ [] ∧ 32 ≤ 140737488355328 ∧ 1 ≤ 4611686018427387904) (.cons (natVi64 (by omega) (by omega) (by omega) : Value.int .i64 (IntKind.i64.wrap ((↑pre.length : Int) + (1 : Int))) = .int .i64 ((pre.length + 1 : Nat) : Int)) .nil))))) (by kernel_rfl) ih
    | cons b v =>
      have hsl : (edgR' (b :: v)).length = v.length + 1 := by rw [edgR_length]; simp
      simp only [List.length_cons] at hE
      simp only [ownS_consE, ownV_consE, List.cons_append, List.nil_append] at ih ⊢
      exact EvCode.round [T, .same, .row ([pS x]), .same, .same, .val, .v (.int .i64 ((pre.length + 1 : Nat) : Int))] [4, 5, 7, 10, 11, 12, 23, 24, 25] [(8, 0), (21, 0), (36, 0)] (.cons (vb (by simp; omega : decide ((↑pre.length : Int) < (↑R.length : Int)) = true)) (.cons (rowI_strs hx : rowI (strs R) (↑pre.length : Int) = some [pS x]) (.cons (⟨rfl, (by omega)⟩ : 1 = 1 ∧ 1 ≤ 1) (.cons (⟨hsl, ⟨rfl, ⟨rfl, ⟨rfl, ⟨(by simp), ⟨(by omega), (by omega)⟩⟩⟩⟩⟩⟩ : (edgR' (b :: v)).length = v.length + 1 ∧ 0 = 0 ∧ v.length + 1 = v.length + 1 ∧ 2 = 2 ∧ List.take 1 (List.drop 0 (List.map (fun (i : Nat) => List.take ti79.sz (List.drop (i * ti79.sz) [nrm (pS g.key), nrm (pS x)])) (List.range 1))) ≠ [] ∧ (v.length + 1 + 1) * 32 ≤ 140737488355328 ∧ v.length + 1 + 1 ≤ 4611686018427387904) (.cons (natVi64 (by omega) (by omega) (by omega) : Value.int .i64 (IntKind.i64.wrap ((↑pre.length : Int) + (1 : Int))) = .int .i64 ((pre.length + 1 : Nat) : Int)) .nil))))) (by kernel_rfl) ih
/-- The edges of segments. -/
def segEdges : List Seg → List (ByteArray × ByteArray)
  | [] => []
  | g :: r => (refersS g.when).map (fun x => (g.key, x)) ++ segEdges r
structure SegOk (g : Seg) : Prop where
  when : g.when.Ok
  nodes : g.when.nodes ≤ 2 ^ 30
  refs : (refsOf g.when).length ≤ 1000
  incl : g.incl.length ≤ 2 ^ 30
  excl : g.excl.length ≤ 2 ^ 30
theorem dedup_len : ∀ (r : List ByteArray) (y : ByteArray), (dedup y r).length ≤ r.length
  | [], y => by simp [dedup]
  | z :: r, y => by
    simp only [dedup]
    have := dedup_len r z
    cases z.toList == y.toList <;> simp <;> omega
theorem compactS_len (l : List ByteArray) : (compactS l).length ≤ l.length := by
  cases l with
  | nil => simp [compactS]
  | cons x r => simp only [compactS, List.length_cons]; have := dedup_len r x; omega
theorem refersS_len (e : Exp) : (refersS e).length ≤ (refsOf e).length := by
  unfold refersS; have := compactS_len (isort (refsOf e)); rw [isort_len] at this; exact this
theorem segEdges_len (l : List Seg) (h : ∀ g ∈ l, SegOk g) : (segEdges l).length ≤ 1000 * l.length := by
  induction l with
  | nil => simp [segEdges]
  | cons g r ih =>
    have h1 := refersS_len g.when
    have h2 := (h g (by simp)).refs
    have := ih fun g hg => h g (by simp [hg])
    simp only [segEdges, List.length_append, List.length_map, List.length_cons]
    omega

theorem ord_outer (l : List Seg) (hl : l.length ≤ 2 ^ 20) (hok : ∀ g ∈ l, SegOk g) : ∀ (suf pre : List Seg) (K : List ByteArray) (E : List (ByteArray × ByteArray)), l = pre ++ suf → K.length = pre.length → E.length ≤ 1000 * pre.length → (K = [] → E = []) →
    EvCode cx (EvCall cx) (.loop (loopBody Tryz.f15 0)) ⟨[(4, ownV (21, 0) (strs K)), (5, ownV (36, 0) (edgR' E)), (10, sl (l.map Seg.row)), (11, int l.length), (12, int pre.length)],
        ownS (21, 0) 1 (strs K) ++ ownS (36, 0) 2 (edgR' E)⟩
      (.exit 0) ⟨[(4, ownV (21, 0) (strs (K ++ suf.map Seg.key))), (5, ownV (36, 0) (edgR' (E ++ segEdges suf)))], ownS (21, 0) 1 (strs (K ++ suf.map Seg.key)) ++ ownS (36, 0) 2 (edgR' (E ++ segEdges suf))⟩
  | [], pre, K, E, h, hK, hE, hKE => by
    have hp : pre.length = l.length := by rw [h]; simp
    simp only [List.map_nil, segEdges, List.append_nil]
    cases K with
    | nil =>
      have := hKE rfl
      subst this
      exact EvCode.out [F, .same] [4, 5] [] (.cons (vb (by simp; omega : decide ((↑pre.length : Int) < (↑l.length : Int)) = false)) .nil) (AE.ne_exit _) (by kernel_rfl)
    | cons a u =>
      cases E with
      | nil =>
        simp only [ownS_cons, ownV_cons]
        exact EvCode.out [F, .same] [4, 5] [(21, 0)] (.cons (vb (by simp; omega : decide ((↑pre.length : Int) < (↑l.length : Int)) = false)) .nil) (AE.ne_exit _) (by kernel_rfl)
      | cons b v =>
        simp only [ownS_cons, ownV_cons, ownS_consE, ownV_consE, List.cons_append, List.nil_append]
        exact EvCode.out [F, .same] [4, 5] [(21, 0), (36, 0)] (.cons (vb (by simp; omega : decide ((↑pre.length : Int) < (↑l.length : Int)) = false)) .nil) (AE.ne_exit _) (by kernel_rfl)
  | g :: r, pre, K, E, h, hK, hE, hKE => by
    have hlt : pre.length < l.length := by rw [h]; simp
    have hx : l[pre.length]? = some g := get_of_split h
    have hg : g ∈ l := by rw [h]; simp
    have hgo := hok g hg
    have hc := refers13 g.when hgo.when hgo.nodes
    have hrl := refersS_len g.when
    have hgr := hgo.refs
    have ih := ord_outer l hl hok r (pre ++ [g]) (K ++ [g.key]) (E ++ (refersS g.when).map fun x => (g.key, x)) (by simp [h]) (by simp [hK]) (by simp; omega) (by simp)
    have e1 : K ++ [g.key] ++ r.map Seg.key = K ++ (g :: r).map Seg.key := by simp
    have e2 : E ++ (refersS g.when).map (fun x => (g.key, x)) ++ segEdges r = E ++ segEdges (g :: r) := by simp [segEdges]
    rw [e1, e2] at ih
    simp only [List.length_append, List.length_singleton] at ih
    have hi := ord_inner l g pre.length (K.length + 1) (strs K ++ [[pS g.key]]) (refersS g.when) (by omega) (refersS g.when) [] E rfl (by omega)
    rw [show ((refersS g.when).length : Int) = ((strs (refersS g.when)).length : Nat) by rw [strs_length]] at hi
    rw [ownV_snoc, ownS_snoc] at ih
    generalize hE2 : E ++ (refersS g.when).map (fun x => (g.key, x)) = E2 at *
    simp only [List.cons_append, List.nil_append, List.length_nil] at hi ih
    cases K with
    | nil =>
      have hE0 := hKE rfl
      subst hE0
      cases E2 with
      | nil => exact EvCode.round [T, .same, .row (g.row), .same, .same, .val, .call (sl (strs (refersS g.when))) ([]), .loop [4, 5, 7, 10, 11, 12, 23, 24, 25] [(8, 0), (21, 0)] (AE.exit 2) ({ e := [(4, AV.ms (21, 0) 0 1 1), (5, AV.p (PV.s (Value.slice none 0 0))), (10, AV.p (PV.sl (List.map Seg.row l))), (11, AV.p (PV.s (Value.int IntKind.i64 (↑l.length : Int)))), (12, AV.p (PV.s (Value.int IntKind.i64 (↑pre.length : Int))))], s := [((21, 0), AO.arr 1 (strs [] ++ [[pS g.key]]) 0)] }), .v (.int .i64 ((pre.length + 1 : Nat) : Int))] [4, 5, 10, 11, 12] [(21, 0)] (.cons (vb (by simp; omega : decide ((↑pre.length : Int) < (↑l.length : Int)) = true)) (.cons (rowI_at hx : rowI (List.map Seg.row l) (↑pre.length : Int) = some g.row) (.cons (⟨rfl, (by omega)⟩ : 1 = 1 ∧ 1 ≤ 1) (.cons (⟨(by simp), ⟨(by omega), (by omega)⟩⟩ : List.take 1 (List.drop 0 (List.map (fun (i : Nat) => List.take ti9.sz (List.drop (i * ti9.sz) [nrm (pS g.key)])) (List.range 1))) ≠ [] ∧ 16 ≤ 140737488355328 ∧ 1 ≤ 4611686018427387904) (.cons hc (.cons hi (.cons (natVi64 (by omega) (by omega) (by omega) : Value.int .i64 (IntKind.i64.wrap ((↑pre.length : Int) + (1 : Int))) = .int .i64 ((pre.length + 1 : Nat) : Int)) .nil))))))) (by kernel_rfl) ih
      | cons c w =>
        simp only [ownS_consE, ownV_consE] at hi ih
        exact EvCode.round [T, .same, .row (g.row), .same, .same, .val, .call (sl (strs (refersS g.when))) ([]), .loop [4, 5, 7, 10, 11, 12, 23, 24, 25] [(8, 0), (21, 0)] (AE.exit 2) ({ e := [(4, AV.ms (21, 0) 0 1 1), (5, AV.ms (36, 0) 0 (w.length + 1) (w.length + 1)), (10, AV.p (PV.sl (List.map Seg.row l))), (11, AV.p (PV.s (Value.int IntKind.i64 (↑l.length : Int)))), (12, AV.p (PV.s (Value.int IntKind.i64 (↑pre.length : Int))))], s := [((21, 0), AO.arr 1 (strs [] ++ [[pS g.key]]) 0), ((36, 0), AO.arr 2 (edgR' (c :: w)) 0)] }), .v (.int .i64 ((pre.length + 1 : Nat) : Int))] [4, 5, 10, 11, 12] [(21, 0), (36, 0)] (.cons (vb (by simp; omega : decide ((↑pre.length : Int) < (↑l.length : Int)) = true)) (.cons (rowI_at hx : rowI (List.map Seg.row l) (↑pre.length : Int) = some g.row) (.cons (⟨rfl, (by omega)⟩ : 1 = 1 ∧ 1 ≤ 1) (.cons (⟨(by simp), ⟨(by omega), (by omega)⟩⟩ : List.take 1 (List.drop 0 (List.map (fun (i : Nat) => List.take ti9.sz (List.drop (i * ti9.sz) [nrm (pS g.key)])) (List.range 1))) ≠ [] ∧ 16 ≤ 140737488355328 ∧ 1 ≤ 4611686018427387904) (.cons hc (.cons hi (.cons (natVi64 (by omega) (by omega) (by omega) : Value.int .i64 (IntKind.i64.wrap ((↑pre.length : Int) + (1 : Int))) = .int .i64 ((pre.length + 1 : Nat) : Int)) .nil))))))) (by kernel_rfl) ih
    | cons a u =>
      have hsl : (strs (a :: u)).length = u.length + 1 := by simp [strs]
      simp only [List.length_cons] at hK
      simp only [ownS_cons, ownV_cons]
      cases E with
      | nil =>
        cases E2 with
        | nil => exact EvCode.round [T, .same, .row (g.row), .same, .same, .val, .val, .call (sl (strs (refersS g.when))) ([]), .loop [4, 5, 7, 10, 11, 12, 23, 24, 25] [(8, 0), (21, 0)] (AE.exit 2) ({ e := [(4, AV.ms (21, 0) 0 ((a :: u).length + 1) ((a :: u).length + 1)), (5, AV.p (PV.s (Value.slice none 0 0))), (10, AV.p (PV.sl (List.map Seg.row l))), (11, AV.p (PV.s (Value.int IntKind.i64 (↑l.length : Int)))), (12, AV.p (PV.s (Value.int IntKind.i64 (↑pre.length : Int))))], s := [((21, 0), AO.arr 1 (strs (a :: u) ++ [[pS g.key]]) 0)] }), .v (.int .i64 ((pre.length + 1 : Nat) : Int))] [4, 5, 10, 11, 12] [(21, 0)] (.cons (vb (by simp; omega : decide ((↑pre.length : Int) < (↑l.length : Int)) = true)) (.cons (rowI_at hx : rowI (List.map Seg.row l) (↑pre.length : Int) = some g.row) (.cons (⟨rfl, (by omega)⟩ : 1 = 1 ∧ 1 ≤ 1) (.cons (⟨hsl, ⟨rfl, ⟨rfl, ⟨rfl, ⟨(by simp), ⟨(by omega), (by omega)⟩⟩⟩⟩⟩⟩ : (strs (a :: u)).length = u.length + 1 ∧ 0 = 0 ∧ u.length + 1 = u.length + 1 ∧ 1 = 1 ∧ List.take 1 (List.drop 0 (List.map (fun (i : Nat) => List.take ti9.sz (List.drop (i * ti9.sz) [nrm (pS g.key)])) (List.range 1))) ≠ [] ∧ (u.length + 1 + 1) * 16 ≤ 140737488355328 ∧ u.length + 1 + 1 ≤ 4611686018427387904) (.cons hc (.cons hi (.cons (natVi64 (by omega) (by omega) (by omega) : Value.int .i64 (IntKind.i64.wrap ((↑pre.length : Int) + (1 : Int))) = .int .i64 ((pre.length + 1 : Nat) : Int)) .nil))))))) (by kernel_rfl) ih
        | cons c w =>
          simp only [ownS_consE, ownV_consE] at hi ih
          exact EvCode.round [T, .same, .row (g.row), .same, .same, .val, .val, .call (sl (strs (refersS g.when))) ([]), .loop [4, 5, 7, 10, 11, 12, 23, 24, 25] [(8, 0), (21, 0)] (AE.exit 2) ({ e := [(4, AV.ms (21, 0) 0 ((a :: u).length + 1) ((a :: u).length + 1)), (5, AV.ms (36, 0) 0 (w.length + 1) (w.length + 1)), (10, AV.p (PV.sl (List.map Seg.row l))), (11, AV.p (PV.s (Value.int IntKind.i64 (↑l.length : Int)))), (12, AV.p (PV.s (Value.int IntKind.i64 (↑pre.length : Int))))], s := [((21, 0), AO.arr 1 (strs (a :: u) ++ [[pS g.key]]) 0), ((36, 0), AO.arr 2 (edgR' (c :: w)) 0)] }), .v (.int .i64 ((pre.length + 1 : Nat) : Int))] [4, 5, 10, 11, 12] [(21, 0), (36, 0)] (.cons (vb (by simp; omega : decide ((↑pre.length : Int) < (↑l.length : Int)) = true)) (.cons (rowI_at hx : rowI (List.map Seg.row l) (↑pre.length : Int) = some g.row) (.cons (⟨rfl, (by omega)⟩ : 1 = 1 ∧ 1 ≤ 1) (.cons (⟨hsl, ⟨rfl, ⟨rfl, ⟨rfl, ⟨(by simp), ⟨(by omega), (by omega)⟩⟩⟩⟩⟩⟩ : (strs (a :: u)).length = u.length + 1 ∧ 0 = 0 ∧ u.length + 1 = u.length + 1 ∧ 1 = 1 ∧ List.take 1 (List.drop 0 (List.map (fun (i : Nat) => List.take ti9.sz (List.drop (i * ti9.sz) [nrm (pS g.key)])) (List.range 1))) ≠ [] ∧ (u.length + 1 + 1) * 16 ≤ 140737488355328 ∧ u.length + 1 + 1 ≤ 4611686018427387904) (.cons hc (.cons hi (.cons (natVi64 (by omega) (by omega) (by omega) : Value.int .i64 (IntKind.i64.wrap ((↑pre.length : Int) + (1 : Int))) = .int .i64 ((pre.length + 1 : Nat) : Int)) .nil))))))) (by kernel_rfl) ih
      | cons b v =>
        cases E2 with
        | nil => simp at hE2
        | cons c w =>
          simp only [ownS_consE, ownV_consE, List.cons_append, List.nil_append] at hi ih ⊢
          exact EvCode.round [T, .same, .row (g.row), .same, .same, .val, .val, .call (sl (strs (refersS g.when))) ([]), .loop [4, 5, 7, 10, 11, 12, 23, 24, 25] [(8, 0), (21, 0), (36, 0)] (AE.exit 2) ({ e := [(4, AV.ms (21, 0) 0 ((a :: u).length + 1) ((a :: u).length + 1)), (5, AV.ms (36, 0) 0 (w.length + 1) (w.length + 1)), (10, AV.p (PV.sl (List.map Seg.row l))), (11, AV.p (PV.s (Value.int IntKind.i64 (↑l.length : Int)))), (12, AV.p (PV.s (Value.int IntKind.i64 (↑pre.length : Int))))], s := [((21, 0), AO.arr 1 (strs (a :: u) ++ [[pS g.key]]) 0), ((36, 0), AO.arr 2 (edgR' (c :: w)) 0)] }), .v (.int .i64 ((pre.length + 1 : Nat) : Int))] [4, 5, 10, 11, 12] [(21, 0), (36, 0)] (.cons (vb (by simp; omega : decide ((↑pre.length : Int) < (↑l.length : Int)) = true)) (.cons (rowI_at hx : rowI (List.map Seg.row l) (↑pre.length : Int) = some g.row) (.cons (⟨rfl, (by omega)⟩ : 1 = 1 ∧ 1 ≤ 1) (.cons (⟨hsl, ⟨rfl, ⟨rfl, ⟨rfl, ⟨(by simp), ⟨(by omega), (by omega)⟩⟩⟩⟩⟩⟩ : (strs (a :: u)).length = u.length + 1 ∧ 0 = 0 ∧ u.length + 1 = u.length + 1 ∧ 1 = 1 ∧ List.take 1 (List.drop 0 (List.map (fun (i : Nat) => List.take ti9.sz (List.drop (i * ti9.sz) [nrm (pS g.key)])) (List.range 1))) ≠ [] ∧ (u.length + 1 + 1) * 16 ≤ 140737488355328 ∧ u.length + 1 + 1 ≤ 4611686018427387904) (.cons hc (.cons hi (.cons (natVi64 (by omega) (by omega) (by omega) : Value.int .i64 (IntKind.i64.wrap ((↑pre.length : Int) + (1 : Int))) = .int .i64 ((pre.length + 1 : Nat) : Int)) .nil))))))) (by kernel_rfl) ih
end Go.Proofs.YtbdnigendhhndaaGreatDoor
end
section
/- segment.Order, contains, Members, Contains. -/
namespace Go.Proofs.YtbdnigendhhndaaGreatDoor
open Go Go.Ev
set_option maxRecDepth 100000

structure SegsOk (l : List Seg) : Prop where
  len : l.length ≤ 12
  ok : ∀ g ∈ l, SegOk g
def orderS (l : List Seg) : List ByteArray × Int := match l with
  | [] => ([], 0)
  | _ => orderG (l.map Seg.key) (segEdges l)

theorem order15 (l : List Seg) (h : SegsOk l) : EvCall cx 15 [sl (l.map Seg.row)] [] (.tup [sl (strs (orderS l).1), int (orderS l).2]) [] := by
  have hlen := h.len
  have hlp := ord_outer l (by omega) h.ok l [] [] [] rfl rfl (by simp) (by simp)
  rw [show (l.length : Int) = ((l.map Seg.row).length : Nat) by simp] at hlp
  have hel := segEdges_len l h.ok
  cases l with
  | nil =>
    have ho := orderNil
    exact EvCall.run Tryz.f15 Tryz.func15 Tryz.call15 [.loop [4, 5, 10, 11, 12] [] (AE.exit 0) ({ e := [(4, AV.p (PV.s (Value.slice none 0 0))), (5, AV.p (PV.s (Value.slice none 0 0)))], s := [] }), .val, .call (AV.tup [sl [], int (0 : Int)]) ([]), .val] (.cons hlp (.cons ho .nil)) (by kernel_rfl)
  | cons g r =>
    have ho := order33 g.key (r.map Seg.key) (by simpa using hlen) (segEdges (g :: r)) (by omega)
    simp only [List.nil_append] at hlp
    have hos : orderS (g :: r) = orderG (g.key :: r.map Seg.key) (segEdges (g :: r)) := rfl
    rw [hos]
    generalize orderG (g.key :: r.map Seg.key) (segEdges (g :: r)) = res at *
    simp only [List.map_cons] at hlp
    rw [ownV_cons, ownS_cons] at hlp
    have hsl : (strs (g.key :: r.map Seg.key)).length = (r.map Seg.key).length + 1 := by simp [strs]
    have htk : List.take ((r.map Seg.key).length + 1) (List.drop 0 (strs (g.key :: r.map Seg.key))) = strs (g.key :: r.map Seg.key) := by
      rw [List.drop_zero, List.take_of_length_le (Nat.le_of_eq hsl)]
    generalize segEdges (g :: r) = E at *
    cases E with
    | nil => exact EvCall.run Tryz.f15 Tryz.func15 Tryz.call15 [.loop [4, 5, 10, 11, 12] [] (AE.exit 0) ({ e := [(4, AV.ms (21, 0) 0 ((List.map Seg.key r).length + 1) ((List.map Seg.key r).length + 1)), (5, AV.p (PV.s (Value.slice none 0 0)))], s := [((21, 0), AO.arr 1 (strs (g.key :: List.map Seg.key r)) 0)] }), .val, .row [.sl (strs (g.key :: List.map Seg.key r))], .call (AV.tup [sl (strs res.fst), int res.snd]) ([]), .val] (.cons hlp (.cons (⟨hsl, (by omega)⟩ : (strs (g.key :: List.map Seg.key r)).length = (List.map Seg.key r).length + 1 ∧ 0 + ((List.map Seg.key r).length + 1) ≤ (List.map Seg.key r).length + 1) (.cons (congrArg (fun z => some [PV.sl z]) htk) (.cons ho .nil)))) (by kernel_rfl)
    | cons c w =>
      simp only [ownS_consE, ownV_consE] at hlp
      have htk2 : List.take (w.length + 1) (List.drop 0 (edgR' (c :: w))) = List.map edgR (c :: w) := by
        rw [List.drop_zero, List.take_of_length_le (by simp [edgR'])]; rfl
      have hsl2 : (edgR' (c :: w)).length = w.length + 1 := by rw [edgR_length]; simp
      exact EvCall.run Tryz.f15 Tryz.func15 Tryz.call15 [.loop [4, 5, 10, 11, 12] [] (AE.exit 0) ({ e := [(4, AV.ms (21, 0) 0 ((List.map Seg.key r).length + 1) ((List.map Seg.key r).length + 1)), (5, AV.ms (36, 0) 0 (w.length + 1) (w.length + 1))], s := [((21, 0), AO.arr 1 (strs (g.key :: List.map Seg.key r)) 0), ((36, 0), AO.arr 2 (edgR' (c :: w)) 0)] }), .val, .row [.sl (strs (g.key :: List.map Seg.key r))], .row [.sl (List.map edgR (c :: w))], .call (AV.tup [sl (strs res.fst), int res.snd]) ([]), .val] (.cons hlp (.cons (⟨hsl, (by omega)⟩ : (strs (g.key :: List.map Seg.key r)).length = (List.map Seg.key r).length + 1 ∧ 0 + ((List.map Seg.key r).length + 1) ≤ (List.map Seg.key r).length + 1) (.cons (congrArg (fun z => some [PV.sl z]) htk) (.cons (⟨hsl2, (by omega)⟩ : (edgR' (c :: w)).length = w.length + 1 ∧ 0 + (w.length + 1) ≤ w.length + 1) (.cons (congrArg (fun z => some [PV.sl z]) htk2) (.cons ho .nil)))))) (by kernel_rfl)
end Go.Proofs.YtbdnigendhhndaaGreatDoor
end
section
/- clause.Eval where 'in' is a slice of the caller's own. -/
namespace Go.Proofs.YtbdnigendhhndaaGreatDoor
open Go Go.Ev
set_option maxRecDepth 100000

abbrev HI (s0 : List (List PV)) (m : List ByteArray) (N : Nat) : List AO := [.cells [sl s0], .cells [.ms (0, 2) 0 N N], .arr 1 (strs m) 0]
abbrev SI (s0 : List (List PV)) (m : List ByteArray) (N : Nat) : List (Ev.Id × AO) := [((0, 0), .cells [sl s0]), ((0, 1), .cells [.ms (0, 2) 0 N N]), ((0, 2), .arr 1 (strs m) 0)]

theorem index129i_loop (g : FuncId) (p : Exp → Bool) (s0 : List (List PV)) (m : List ByteArray) (N : Nat) (l : List Exp) (hl : l.length ≤ 2 ^ 62)
    (hf : ∀ e ∈ l, EvCall cx g [ag e.row, .ref (0, 0) 0, .ref (0, 1) 0] (HI s0 m N) (bool (p e)) (HI s0 m N)) : ∀ (suf pre : List Exp), l = pre ++ suf →
    EvCode cx (EvCall cx) (.loop (loopBody Tryz.f129 0)) ⟨[(0, sl (l.map Exp.row)), (1, .fn g [.ref (0, 0) 0, .ref (0, 1) 0]), (7, int l.length), (8, int pre.length)], SI s0 m N⟩
      (idxOut (idxS p suf pre.length)).1 ⟨(idxOut (idxS p suf pre.length)).2.e, SI s0 m N⟩
  | [], pre, h => by
    have hp : pre.length = l.length := by rw [h]; simp
    simp only [idxS]
    exact EvCode.out [F, .same] [] [((0 : Nat), (0 : Nat)), ((0 : Nat), (1 : Nat)), ((0 : Nat), (2 : Nat))] (.cons (vb (by simp; omega : decide ((↑pre.length : Int) < (↑l.length : Int)) = false)) .nil) (AE.ne_exit _) (by kernel_rfl)
  | x :: r, pre, h => by
    have hlt : pre.length < l.length := by rw [h]; simp
    have hx : l[pre.length]? = some x := get_of_split h
    have hc := hf x (by rw [h]; simp)
    have ih := index129i_loop g p s0 m N l hl hf r (pre ++ [x]) (by simp [h])
    simp only [List.length_append, List.length_singleton] at ih
    simp only [idxS]
    cases hb : p x with
    | true =>
      rw [hb] at hc
      exact EvCode.out [T, .same, .row (x.row), .same, .val, .call (Ev.bool true) (HI s0 m N), .same] [(4 : Nat)] [((0 : Nat), (0 : Nat)), ((0 : Nat), (1 : Nat)), ((0 : Nat), (2 : Nat))] (.cons (vb (by simp; omega : decide ((↑pre.length : Int) < (↑l.length : Int)) = true)) (.cons (rowI_at hx : rowI (List.map Exp.row l) (↑pre.length : Int) = some x.row) (.cons hc .nil))) AE.ne_ret (by kernel_rfl)
    | false =>
      rw [hb] at hc
      exact EvCode.round [T, .same, .row (x.row), .same, .val, .call (Ev.bool false) (HI s0 m N), .same, .v (.int .i64 ((pre.length + (1 : Nat) : Nat) : Int))] [(0 : Nat), (1 : Nat), (7 : Nat), (8 : Nat)] [((0 : Nat), (0 : Nat)), ((0 : Nat), (1 : Nat)), ((0 : Nat), (2 : Nat))] (.cons (vb (by simp; omega : decide ((↑pre.length : Int) < (↑l.length : Int)) = true)) (.cons (rowI_at hx : rowI (List.map Exp.row l) (↑pre.length : Int) = some x.row) (.cons hc (.cons (natVi64 (by omega) (by omega) (by omega) : Value.int .i64 (IntKind.i64.wrap ((↑pre.length : Int) + (1 : Int))) = .int .i64 ((pre.length + (1 : Nat) : Nat) : Int)) .nil)))) (by kernel_rfl) ih
theorem any87i (g : FuncId) (p : Exp → Bool) (s0 : List (List PV)) (m : List ByteArray) (N : Nat) (l : List Exp) (hl : l.length ≤ 2 ^ 62)
    (hf : ∀ e ∈ l, EvCall cx g [ag e.row, .ref (0, 0) 0, .ref (0, 1) 0] (HI s0 m N) (bool (p e)) (HI s0 m N)) :
    EvCall cx 87 [sl (l.map Exp.row), .fn g [.ref (0, 0) 0, .ref (0, 1) 0]] (HI s0 m N) (bool (l.any p)) (HI s0 m N) := by
  have hi : EvCall cx 129 [sl (l.map Exp.row), .fn g [.ref (0, 0) 0, .ref (0, 1) 0]] (HI s0 m N) (int (idxI (idxS p l 0))) (HI s0 m N) := by
    have h := index129i_loop g p s0 m N l hl hf l [] rfl
    simp only [List.length_nil] at h
    rw [show (l.length : Int) = ((l.map Exp.row).length : Nat) by simp] at h
    cases hb : idxS p l 0 with
    | none =>
      rw [hb] at h
      exact EvCall.run Tryz.f129 Tryz.func129 Tryz.call129 [.loop [(0 : Nat), (1 : Nat), (7 : Nat), (8 : Nat)] [((0 : Nat), (0 : Nat)), ((0 : Nat), (1 : Nat)), ((0 : Nat), (2 : Nat))] (AE.exit (0 : Nat)) ({ e := [], s := [(((0 : Nat), (0 : Nat)), AO.cells [AV.p (PV.sl s0)]), (((0 : Nat), (1 : Nat)), AO.cells [AV.ms ((0 : Nat), (2 : Nat)) (0 : Nat) N N]), (((0 : Nat), (2 : Nat)), AO.arr (1 : Nat) (strs m) (0 : Nat))] }), .val] (.cons h .nil) (by kernel_rfl)
    | some j =>
      rw [hb] at h
      exact EvCall.run Tryz.f129 Tryz.func129 Tryz.call129 [.loop [(0 : Nat), (1 : Nat), (7 : Nat), (8 : Nat)] [((0 : Nat), (0 : Nat)), ((0 : Nat), (1 : Nat)), ((0 : Nat), (2 : Nat))] (AE.ret) ({ e := [((4 : Nat), AV.p (PV.s (Value.int IntKind.i64 (↑j : Int))))], s := [(((0 : Nat), (0 : Nat)), AO.cells [AV.p (PV.sl s0)]), (((0 : Nat), (1 : Nat)), AO.cells [AV.ms ((0 : Nat), (2 : Nat)) (0 : Nat) N N]), (((0 : Nat), (2 : Nat)), AO.arr (1 : Nat) (strs m) (0 : Nat))] }), .val] (.cons h .nil) (by kernel_rfl)
  have e := idxI_any p l
  exact EvCall.as (r := AV.p (PV.s (Value.bool (decide (idxI (idxS p l (0 : Nat)) ≥ (0 : Int)))))) (H' := [AO.cells [AV.p (PV.sl s0)], AO.cells [AV.ms ((0 : Nat), (2 : Nat)) (0 : Nat) N N], AO.arr (1 : Nat) (strs m) (0 : Nat)]) (EvCall.run Tryz.f87 Tryz.func87 Tryz.call87 [.val, .call (int (idxI (idxS p l (0 : Nat)))) (HI s0 m N), .same, .val] (.cons hi .nil) (by kernel_rfl)) (by simp [strs_length, rowsE_length]; omega) rfl

abbrev EvalAt (s0 : List (List PV)) (m : List ByteArray) (N : Nat) (x : Exp) (v : Bool) : Prop :=
  EvCall cx 77 [.agg [sl s0], .ms (0, 0) 0 N N, ag x.row] [.arr 1 (strs m) 0] (bool v) [.arr 1 (strs m) 0]
theorem eval123i (s0 : List (List PV)) (m : List ByteArray) (N : Nat) (x : Exp) (v : Bool) (h : EvalAt s0 m N x v) :
    EvCall cx 123 [ag x.row, .ref (0, 0) 0, .ref (0, 1) 0] (HI s0 m N) (bool (!v)) (HI s0 m N) := by
  unfold EvalAt at h
  exact EvCall.run Tryz.f123 Tryz.func123 Tryz.call123 [.ref, .call (Ev.bool v) ([AO.arr (1 : Nat) (strs m) (0 : Nat)]), .same, .val] (.cons h .nil) (by kernel_rfl)
theorem eval124i (s0 : List (List PV)) (m : List ByteArray) (N : Nat) (x : Exp) (v : Bool) (h : EvalAt s0 m N x v) :
    EvCall cx 124 [ag x.row, .ref (0, 0) 0, .ref (0, 1) 0] (HI s0 m N) (bool v) (HI s0 m N) := by
  unfold EvalAt at h
  exact EvCall.run Tryz.f124 Tryz.func124 Tryz.call124 [.ref, .call (Ev.bool v) ([AO.arr (1 : Nat) (strs m) (0 : Nat)]), .val] (.cons h .nil) (by kernel_rfl)

theorem eval77i (s0 : List (List PV)) (m : List ByteArray) (N : Nat) (hN : N = m.length) (h62 : N ≤ 2 ^ 62) (tb : Exp → Bool) {D : Exp → Prop} (htb : ∀ e : Exp, OkD D e → EvCall cx 125 [.agg [sl s0], ag e.row] [] (bool (tb e)) []) (e : Exp) (he : OkD D e) :
    EvalAt s0 m N e (evalE tb m e) := by
  induction he with
  | @mk e h1 h2 h3 h4 h0 ih =>
    have ht := htb e (.mk h1 h2 h3 h4 h0)
    obtain ⟨o, k, n, vs, ks⟩ := e
    simp only [Exp.kids] at h3 h4 ih
    have c2 : EvCall cx 87 [sl (rowsE ks), .fn 123 [.ref (0, 0) 0, .ref (0, 1) 0]] (HI s0 m N) (bool (anyNot tb m ks)) (HI s0 m N) := by
      rw [rowsE_map, anyNot_any]
      exact any87i _ (fun k => !evalE tb m k) s0 m N ks (by omega) fun x hx => eval123i s0 m N x _ (ih x hx)
    have c3 : EvCall cx 87 [sl (rowsE ks), .fn 124 [.ref (0, 0) 0, .ref (0, 1) 0]] (HI s0 m N) (bool (anyE tb m ks)) (HI s0 m N) := by
      rw [rowsE_map, anyE_any]
      exact any87i _ (fun k => evalE tb m k) s0 m N ks (by omega) fun x hx => eval124i s0 m N x _ (ih x hx)
    have c5 := contains50o m [] n N (by rw [List.append_nil, strs_length, hN]) h62
    rw [List.append_nil, ← hN] at c5
    unfold EvalAt
    simp only [evalE]
    cases e1 : o == 1 with
    | true => exact EvCall.run Tryz.f77 Tryz.func77 Tryz.call77 [T, .same, .val] (.cons (vb e1) .nil) (by kernel_rfl)
    | false =>
      cases e2 : o == 2 with
      | true =>
        simp only [cond_true, cond_false]
        cases e22 : anyNot tb m ks with
        | true =>
          rw [e22] at c2
          exact EvCall.run Tryz.f77 Tryz.func77 Tryz.call77 [F, .same, T, .same, .val, .call (Ev.bool true) (HI s0 m N), .same, .val] (.cons (vb e1) (.cons (vb e2) (.cons c2 .nil))) (by kernel_rfl)
        | false =>
          rw [e22] at c2
          exact EvCall.run Tryz.f77 Tryz.func77 Tryz.call77 [F, .same, T, .same, .val, .call (Ev.bool false) (HI s0 m N), .same, .val] (.cons (vb e1) (.cons (vb e2) (.cons c2 .nil))) (by kernel_rfl)
      | false =>
        cases e3 : o == 3 with
        | true => exact EvCall.run Tryz.f77 Tryz.func77 Tryz.call77 [F, .same, F, .same, T, .same, .val, .call (Ev.bool (anyE tb m ks)) (HI s0 m N), .val] (.cons (vb e1) (.cons (vb e2) (.cons (vb e3) (.cons c3 .nil)))) (by kernel_rfl)
        | false =>
          cases e4 : o == 4 with
          | true =>
            cases ks with
            | nil => exact EvCall.run Tryz.f77 Tryz.func77 Tryz.call77 [F, .same, F, .same, F, .same, T, .same, .same, .same, .same, .same, .same, .same, .same, .same, .val] (.cons (vb e1) (.cons (vb e2) (.cons (vb e3) (.cons (vb e4) .nil)))) (by kernel_rfl)
            | cons x r =>
              have hx := eval123i s0 m N x _ (ih x (by simp))
              have hr : rowI (rowsE (x :: r)) 0 = some x.row := by rw [rowsE_map]; rfl
              have hg : decide (((rowsE (x :: r)).length : Int) > 0) = true := by simp [rowsE]
              exact EvCall.run Tryz.f77 Tryz.func77 Tryz.call77 [F, .same, F, .same, F, .same, T, .same, T, .same, .same, .same, .same, .row (x.row), .same, .same, .same, .val, .call (Ev.bool !evalE tb m x) (HI s0 m N), .same, .val] (.cons (vb e1) (.cons (vb e2) (.cons (vb e3) (.cons (vb e4) (.cons (vb hg) (.cons hr (.cons hx .nil))))))) (by kernel_rfl)
          | false =>
            cases e5 : o == 5 with
            | true => exact EvCall.run Tryz.f77 Tryz.func77 Tryz.call77 [F, .same, F, .same, F, .same, F, .same, T, .same, .ref, .call (Ev.bool (m.any fun (u : ByteArray) => n.toList == u.toList)) ([AO.arr (1 : Nat) (strs m) (0 : Nat)]), .val] (.cons (vb e1) (.cons (vb e2) (.cons (vb e3) (.cons (vb e4) (.cons (vb e5) (.cons c5 .nil)))))) (by kernel_rfl)
            | false => exact EvCall.run Tryz.f77 Tryz.func77 Tryz.call77 [F, .same, F, .same, F, .same, F, .same, F, .same, .val, .call (Ev.bool (tb (Exp.mk o k n vs ks))) ([]), .val] (.cons (vb e1) (.cons (vb e2) (.cons (vb e3) (.cons (vb e4) (.cons (vb e5) (.cons ht .nil)))))) (by kernel_rfl)
end Go.Proofs.YtbdnigendhhndaaGreatDoor
end
section
/- segment.contains. -/
namespace Go.Proofs.YtbdnigendhhndaaGreatDoor
open Go Go.Ev
set_option maxRecDepth 100000

/-- What clause.Test says of a subject: any contract of it. -/
def TestOf (s : List Ctx) (D : Exp → Prop) (tb : Exp → Bool) : Prop := ∀ e : Exp, OkD D e → EvCall cx 125 [.agg [sl (s.map Ctx.row)], ag e.row] [] (bool (tb e)) []
structure SubjOk (s : List Ctx) : Prop where
  len : s.length ≤ 2 ^ 30
  ok : ∀ c ∈ s, c.Ok
def containsG (tb : Exp → Bool) (s : List Ctx) (g : Seg) (m : List ByteArray) : Bool :=
  bif (findC s g.kind).2 then (bif inL g.excl (findC s g.kind).1.key then false else bif inL g.incl (findC s g.kind).1.key then true else bif g.when.op != 0 then evalE tb m g.when else false) else false

theorem contains47 (s : List Ctx) (hs : SubjOk s) {D : Exp → Prop} (tb : Exp → Bool) (htb : TestOf s D tb) (g : Seg) (hg : SegOk g) (hd : OkD D g.when) (m : List ByteArray) (hm : m.length ≤ 2 ^ 30) :
    EvCall cx 47 [ag g.row, .agg [sl (s.map Ctx.row)], sl (strs m)] [] (bool (containsG tb s g m)) [] := by
  have hf := find76 s g.kind (by have := hs.len; omega) hs.ok
  have hI := hg.incl
  have hE := hg.excl
  have h1 := contains50 g.excl (findC s g.kind).1.key (by omega)
  have h2 := contains50 g.incl (findC s g.kind).1.key (by omega)
  have h3 := eval77 (s.map Ctx.row) m (by omega) tb htb g.when hd
  unfold containsG inL
  generalize findC s g.kind = f at *
  obtain ⟨c, fok⟩ := f
  simp only at *
  cases fok with
  | false => exact EvCall.run Tryz.f47 Tryz.func47 Tryz.call47 [.val, .call (AV.tup [ag c.row, Ev.bool false]) ([]), .same, .same, .same, .same, .same, .same, .same, .same, .val] (.cons hf .nil) (by kernel_rfl)
  | true =>
    cases b1 : g.excl.any (fun u => c.key.toList == u.toList) with
    | true =>
      rw [b1] at h1
      exact EvCall.run Tryz.f47 Tryz.func47 Tryz.call47 [.val, .call (AV.tup [ag c.row, Ev.bool true]) ([]), .same, .same, .same, .same, .same, .same, .val, .call (Ev.bool true) ([]), .same, .same, .val] (.cons hf (.cons h1 .nil)) (by kernel_rfl)
    | false =>
      rw [b1] at h1
      cases b2 : g.incl.any (fun u => c.key.toList == u.toList) with
      | true =>
        rw [b2] at h2
        exact EvCall.run Tryz.f47 Tryz.func47 Tryz.call47 [.val, .call (AV.tup [ag c.row, Ev.bool true]) ([]), .same, .same, .same, .same, .same, .same, .val, .call (Ev.bool false) ([]), .same, .same, .val, .call (Ev.bool true) ([]), .same, .same, .same, .same, .same, .same, .same, .val] (.cons hf (.cons h1 (.cons h2 .nil))) (by kernel_rfl)
      | false =>
        rw [b2] at h2
        cases b3 : g.when.op != 0 with
        | false => exact EvCall.run Tryz.f47 Tryz.func47 Tryz.call47 [.val, .call (AV.tup [ag c.row, Ev.bool true]) ([]), .same, .same, .same, .same, .same, .same, .val, .call (Ev.bool false) ([]), .same, .same, .val, .call (Ev.bool false) ([]), .same, .same, .same, .same, F, .same, .same, .same, .same, .same, .same, .same, .same, .same, .val] (.cons hf (.cons h1 (.cons h2 (.cons (vb b3) .nil)))) (by kernel_rfl)
        | true => exact EvCall.run Tryz.f47 Tryz.func47 Tryz.call47 [.val, .call (AV.tup [ag c.row, Ev.bool true]) ([]), .same, .same, .same, .same, .same, .same, .val, .call (Ev.bool false) ([]), .same, .same, .val, .call (Ev.bool false) ([]), .same, .same, .same, .same, T, .same, .same, .same, .same, .same, .same, .val, .call (Ev.bool (evalE tb m g.when)) ([]), .same, .same, .same, .val] (.cons hf (.cons h1 (.cons h2 (.cons (vb b3) (.cons h3 .nil))))) (by kernel_rfl)
theorem contains47i (s : List Ctx) (hs : SubjOk s) {D : Exp → Prop} (tb : Exp → Bool) (htb : TestOf s D tb) (g : Seg) (hg : SegOk g) (hd : OkD D g.when) (m : List ByteArray) (N : Nat) (hN : N = m.length) (hm : m.length ≤ 2 ^ 30) :
    EvCall cx 47 [ag g.row, .agg [sl (s.map Ctx.row)], .ms (0, 0) 0 N N] [.arr 1 (strs m) 0] (bool (containsG tb s g m)) [.arr 1 (strs m) 0] := by
  have hf := find76 s g.kind (by have := hs.len; omega) hs.ok
  have hI := hg.incl
  have hE := hg.excl
  have h1 := contains50 g.excl (findC s g.kind).1.key (by omega)
  have h2 := contains50 g.incl (findC s g.kind).1.key (by omega)
  have h3 := eval77i (s.map Ctx.row) m N hN (by omega) tb htb g.when hd
  unfold EvalAt at h3
  unfold containsG inL
  generalize findC s g.kind = f at *
  obtain ⟨c, fok⟩ := f
  simp only at *
  cases fok with
  | false => exact EvCall.run Tryz.f47 Tryz.func47 Tryz.call47 [.val, .call (AV.tup [ag c.row, Ev.bool false]) ([]), .same, .same, .same, .same, .same, .same, .same, .same, .val] (.cons hf .nil) (by kernel_rfl)
  | true =>
    cases b1 : g.excl.any (fun u => c.key.toList == u.toList) with
    | true =>
      rw [b1] at h1
      exact EvCall.run Tryz.f47 Tryz.func47 Tryz.call47 [.val, .call (AV.tup [ag c.row, Ev.bool true]) ([]), .same, .same, .same, .same, .same, .same, .val, .call (Ev.bool true) ([]), .same, .same, .val] (.cons hf (.cons h1 .nil)) (by kernel_rfl)
    | false =>
      rw [b1] at h1
      cases b2 : g.incl.any (fun u => c.key.toList == u.toList) with
      | true =>
        rw [b2] at h2
        exact EvCall.run Tryz.f47 Tryz.func47 Tryz.call47 [.val, .call (AV.tup [ag c.row, Ev.bool true]) ([]), .same, .same, .same, .same, .same, .same, .val, .call (Ev.bool false) ([]), .same, .same, .val, .call (Ev.bool true) ([]), .same, .same, .same, .same, .same, .same, .same, .val] (.cons hf (.cons h1 (.cons h2 .nil))) (by kernel_rfl)
      | false =>
        rw [b2] at h2
        cases b3 : g.when.op != 0 with
        | false => exact EvCall.run Tryz.f47 Tryz.func47 Tryz.call47 [.val, .call (AV.tup [ag c.row, Ev.bool true]) ([]), .same, .same, .same, .same, .same, .same, .val, .call (Ev.bool false) ([]), .same, .same, .val, .call (Ev.bool false) ([]), .same, .same, .same, .same, F, .same, .same, .same, .same, .same, .same, .same, .same, .same, .val] (.cons hf (.cons h1 (.cons h2 (.cons (vb b3) .nil)))) (by kernel_rfl)
        | true => exact EvCall.run Tryz.f47 Tryz.func47 Tryz.call47 [.val, .call (AV.tup [ag c.row, Ev.bool true]) ([]), .same, .same, .same, .same, .same, .same, .val, .call (Ev.bool false) ([]), .same, .same, .val, .call (Ev.bool false) ([]), .same, .same, .same, .same, T, .same, .same, .same, .same, .same, .same, .ref, .call (Ev.bool (evalE tb m g.when)) ([AO.arr (1 : Nat) (strs m) (0 : Nat)]), .same, .same, .same, .val] (.cons hf (.cons h1 (.cons h2 (.cons (vb b3) (.cons h3 .nil))))) (by kernel_rfl)
end Go.Proofs.YtbdnigendhhndaaGreatDoor
end
section
/- segment.Members. -/
namespace Go.Proofs.YtbdnigendhhndaaGreatDoor
open Go Go.Ev
set_option maxRecDepth 100000

theorem topo_from (M : List (ByteArray × List ByteArray)) : ∀ (f : Nat) (l o D r : List ByteArray), topo M f l o D = some r → ∀ x ∈ r, x ∈ l ∨ x ∈ o
  | 0, l, o, D, r, h => by simp only [topo, Option.some.injEq] at h; subst h; exact fun x hx => .inr hx
  | f + 1, [], o, D, r, h => by simp only [topo, Option.some.injEq] at h; subst h; exact fun x hx => .inr hx
  | f + 1, y :: t, o, D, r, h => by
    simp only [topo] at h
    cases hp : pick (ready M D) (y :: t) with
    | none => rw [hp] at h; cases h
    | some q =>
      obtain ⟨P, x, R⟩ := q
      rw [hp] at h
      obtain ⟨_, e⟩ := pick_some 0 hp
      intro z hz
      rw [e]
      rcases topo_from M f _ _ _ _ h z hz with h1 | h1
      · simp at h1 ⊢; rcases h1 with h1 | h1 <;> simp [h1]
      · simp at h1 ⊢; rcases h1 with h1 | h1 <;> simp [h1]
theorem topo_len (M : List (ByteArray × List ByteArray)) : ∀ (f : Nat) (l o D r : List ByteArray), l.length ≤ f → topo M f l o D = some r → r.length = l.length + o.length
  | 0, l, o, D, r, hf, h => by
    have : l = [] := List.eq_nil_of_length_eq_zero (by omega)
    subst this
    simp only [topo, Option.some.injEq] at h; subst h; simp
  | f + 1, [], o, D, r, hf, h => by simp only [topo, Option.some.injEq] at h; subst h; simp
  | f + 1, y :: t, o, D, r, hf, h => by
    simp only [topo] at h
    cases hp : pick (ready M D) (y :: t) with
    | none => rw [hp] at h; cases h
    | some q =>
      obtain ⟨P, x, R⟩ := q
      rw [hp] at h
      obtain ⟨_, e⟩ := pick_some 0 hp
      have hl := congrArg List.length e
      simp at hl hf
      have := topo_len M f _ _ _ _ (by simp; omega) h
      simp at this ⊢
      omega
theorem insRev_mem : ∀ (rp q : List ByteArray) (x z : ByteArray), z ∈ insRev rp x q → z ∈ rp ∨ z = x ∨ z ∈ q
  | [], q, x, z, h => by simp [insRev] at h ⊢; exact h
  | y :: r, q, x, z, h => by
    simp only [insRev] at h
    cases hb : ltS x y with
    | true =>
      rw [hb] at h
      rcases insRev_mem r (y :: q) x z h with h1 | h1 | h1
      · simp [h1]
      · simp [h1]
      · simp at h1 ⊢; rcases h1 with h1 | h1 <;> simp [h1]
    | false =>
      rw [hb] at h
      simp at h ⊢
      rcases h with h1 | h1 | h1 | h1 <;> simp [h1]
theorem isortFrom_mem : ∀ (s p : List ByteArray) (z : ByteArray), z ∈ isortFrom p s → z ∈ p ∨ z ∈ s
  | [], p, z, h => by simpa [isortFrom] using h
  | x :: s, p, z, h => by
    simp only [isortFrom] at h
    rcases isortFrom_mem s _ z h with h1 | h1
    · have := insRev_mem _ _ _ _ h1
      simp at this ⊢
      rcases this with h2 | h2 <;> simp [h2]
    · simp [h1]
theorem isort_mem {l : List ByteArray} {z : ByteArray} (h : z ∈ isort l) : z ∈ l := by
  cases l with
  | nil => simp [isort] at h
  | cons x r => have := isortFrom_mem _ _ _ h; simpa using this

theorem orderG_mem {ns : List ByteArray} {E : List (ByteArray × ByteArray)} {z : ByteArray} (h : z ∈ (orderG ns E).1) : z ∈ ns := by
  unfold orderG at h
  cases hb : (compactS (isort ns)).length != ns.length with
  | true => rw [hb] at h; simp at h
  | false =>
    rw [hb] at h
    cases ha : E.all (edgeOk (isort ns)) with
    | false => rw [ha] at h; simp at h
    | true =>
      rw [ha] at h
      simp only [cond_false, cond_true] at h
      cases ht : topo (needM E) (ns.length + 1) (isort ns) [] [] with
      | none => rw [ht] at h; simp at h
      | some o =>
        rw [ht] at h
        rcases topo_from _ _ _ _ _ _ ht z h with h1 | h1
        · exact isort_mem h1
        · simp at h1
theorem orderG_len (ns : List ByteArray) (E : List (ByteArray × ByteArray)) : (orderG ns E).1.length ≤ ns.length := by
  unfold orderG
  cases hb : (compactS (isort ns)).length != ns.length with
  | true => simp
  | false =>
    cases ha : E.all (edgeOk (isort ns)) with
    | false => simp
    | true =>
      simp only [cond_false, cond_true]
      cases ht : topo (needM E) (ns.length + 1) (isort ns) [] [] with
      | none => simp
      | some o =>
        have := topo_len _ _ _ _ _ _ (by rw [isort_len]; omega) ht
        rw [isort_len] at this
        simp at this ⊢
        omega
theorem orderS_mem {l : List Seg} {z : ByteArray} (h : z ∈ (orderS l).1) : z ∈ l.map Seg.key := by
  cases l with
  | nil => simp [orderS] at h
  | cons g r => exact orderG_mem h
theorem orderS_len (l : List Seg) : (orderS l).1.length ≤ l.length := by
  cases l with
  | nil => simp [orderS]
  | cons g r => have := orderG_len ((g :: r).map Seg.key) (segEdges (g :: r)); simpa [orderS] using this

def byAdd (M : List (ByteArray × Seg)) (l : List Seg) : List (ByteArray × Seg) := l.foldl (fun M g => mSet M g.key g) M
theorem byAdd_get : ∀ (l : List Seg) (M : List (ByteArray × Seg)) (k : ByteArray), (k ∈ l.map Seg.key ∨ ∃ g, mGet M k = some g ∧ eqS k g.key = true) → ∃ g, mGet (byAdd M l) k = some g ∧ eqS k g.key = true ∧ (g ∈ l ∨ mGet M k = some g)
  | [], M, k, h => by
    rcases h with h | ⟨g, h1, h2⟩
    · simp at h
    · exact ⟨g, h1, h2, .inr h1⟩
  | x :: r, M, k, h => by
    have hs := mGet_set M x.key k x
    cases hk : eqS k x.key with
    | true =>
      rw [hk] at hs
      obtain ⟨g, h1, h2, h3⟩ := byAdd_get r (mSet M x.key x) k (.inr ⟨x, hs, hk⟩)
      refine ⟨g, h1, h2, .inl ?_⟩
      rcases h3 with h3 | h3
      · simp [h3]
      · rw [hs] at h3; cases h3; simp
    | false =>
      rw [hk] at hs
      simp only [cond_false] at hs
      have hne : k ≠ x.key := fun he => by rw [he] at hk; simp [eqS] at hk
      obtain ⟨g, h1, h2, h3⟩ := byAdd_get r (mSet M x.key x) k (by
        rcases h with h | ⟨g, h1, h2⟩
        · simp only [List.map_cons, List.mem_cons] at h
          rcases h with h | h
          · exact absurd h hne
          · exact .inl h
        · exact .inr ⟨g, by rw [hs]; exact h1, h2⟩)
      refine ⟨g, h1, h2, ?_⟩
      rcases h3 with h3 | h3
      · exact .inl (by simp [h3])
      · rw [hs] at h3; exact .inr h3

theorem by_loop (l : List Seg) (hl : l.length ≤ 2 ^ 20) (s : List Ctx) (o : List ByteArray) : ∀ (suf pre : List Seg) (M : List (ByteArray × Seg)), l = pre ++ suf →
    EvCode cx (EvCall cx) (.loop (loopBody Tryz.f19 0)) ⟨[(3, .ref (4, 0) 0), (5, sl (strs o)), (7, .mp (21, 0)), (21, sl (l.map Seg.row)), (22, int l.length), (23, int pre.length)], [((4, 0), .cells [sl (s.map Ctx.row)]), ((21, 0), .map true (mR Seg.row M))]⟩
      (.exit 0) ⟨[(3, .ref (4, 0) 0), (5, sl (strs o)), (7, .mp (21, 0))], [((4, 0), .cells [sl (s.map Ctx.row)]), ((21, 0), .map true (mR Seg.row (byAdd M suf)))]⟩
  | [], pre, M, h => by
    have hp : pre.length = l.length := by rw [h]; simp
    exact EvCode.out [F, .same] [3, 5, 7] [(4, 0), (21, 0)] (.cons (vb (by simp; omega : decide ((↑pre.length : Int) < (↑l.length : Int)) = false)) .nil) (AE.ne_exit _) (by kernel_rfl)
  | g :: r, pre, M, h => by
    have hlt : pre.length < l.length := by rw [h]; simp
    have hx : l[pre.length]? = some g := get_of_split h
    have ih := by_loop l hl s o r (pre ++ [g]) (mSet M g.key g) (by simp [h])
    simp only [List.length_append, List.length_singleton] at ih
    rw [← mR_set] at ih
    have hk := mR_keys cx 9 ti9 rfl rfl Seg.row M g.key
    exact EvCode.round [T, .same, .row (g.row), .same, .v (.int .i64 ((pre.length + 1 : Nat) : Int))] [3, 5, 7, 21, 22, 23] [(4, 0), (21, 0)] (.cons (vb (by simp; omega : decide ((↑pre.length : Int) < (↑l.length : Int)) = true)) (.cons (rowI_at hx : rowI (List.map Seg.row l) (↑pre.length : Int) = some g.row) (.cons (hk : (∀ (y : Value × List PV), y ∈ mR Seg.row M → keyB cx.ty 9 y.fst = true) ∧ true = true) (.cons (natVi64 (by omega) (by omega) (by omega) : Value.int .i64 (IntKind.i64.wrap ((↑pre.length : Int) + (1 : Int))) = .int .i64 ((pre.length + 1 : Nat) : Int)) .nil)))) (by kernel_rfl) ih

/-- The members among the first of an order. -/
def memF (tb : Exp → Bool) (s : List Ctx) (M : List (ByteArray × Seg)) : List ByteArray → List ByteArray → List ByteArray
  | [], m => m
  | k :: r, m => memF tb s M r (bif (match mGet M k with | some g => containsG tb s g m | none => false) then m ++ [k] else m)
theorem memF_len (tb : Exp → Bool) (s : List Ctx) (M : List (ByteArray × Seg)) : ∀ (o m : List ByteArray), (memF tb s M o m).length ≤ m.length + o.length
  | [], m => by simp [memF]
  | k :: r, m => by
    simp only [memF]
    have := memF_len tb s M r (bif (match mGet M k with | some g => containsG tb s g m | none => false) then m ++ [k] else m)
    cases hb : (match mGet M k with | some g => containsG tb s g m | none => false) <;> rw [hb] at this <;> simp at this ⊢ <;> omega

theorem mem_loop (s : List Ctx) (hs : SubjOk s) {D : Exp → Prop} (tb : Exp → Bool) (htb : TestOf s D tb) (M : List (ByteArray × Seg)) (o : List ByteArray) (ho : o.length ≤ 2 ^ 20) (hM : ∀ k ∈ o, ∃ g, mGet M k = some g ∧ SegOk g ∧ OkD D g.when) : ∀ (suf pre m : List ByteArray), o = pre ++ suf → m.length ≤ pre.length →
    EvCode cx (EvCall cx) (.loop (loopBody Tryz.f19 1)) ⟨[(3, .ref (4, 0) 0), (7, .mp (21, 0)), (10, ownV (48, 0) (strs m)), (32, sl (strs o)), (33, int o.length), (34, int pre.length)], [((4, 0), .cells [sl (s.map Ctx.row)]), ((21, 0), .map true (mR Seg.row M))] ++ ownS (48, 0) 1 (strs m)⟩
      (.exit 2) ⟨[(10, ownV (48, 0) (strs (memF tb s M suf m)))], ownS (48, 0) 1 (strs (memF tb s M suf m))⟩
  | [], pre, m, h, hm => by
    have hp : pre.length = o.length := by rw [h]; simp
    simp only [memF]
    cases m with
    | nil => exact EvCode.out [F, .same] [10] [] (.cons (vb (by simp; omega : decide ((↑pre.length : Int) < (↑o.length : Int)) = false)) .nil) (AE.ne_exit _) (by kernel_rfl)
    | cons a u =>
      simp only [ownS_cons, ownV_cons, List.cons_append, List.nil_append]
      exact EvCode.out [F, .same] [10] [(48, 0)] (.cons (vb (by simp; omega : decide ((↑pre.length : Int) < (↑o.length : Int)) = false)) .nil) (AE.ne_exit _) (by kernel_rfl)
  | k :: r, pre, m, h, hm => by
    have hlt : pre.length < o.length := by rw [h]; simp
    have hx : o[pre.length]? = some k := get_of_split h
    obtain ⟨g, hg, hgo, hgd⟩ := hM k (by rw [h]; simp)
    have hk := mR_keys cx 9 ti9 rfl rfl Seg.row M k
    have hh : mapHas (mR Seg.row M) (.string k) = true := by rw [mR_has, hg]; rfl
    have hgt : mapGet (mR Seg.row M) (.string k) = some g.row := by rw [mR_get, hg]; rfl
    simp only [memF, hg]
    have c1 := contains47 s hs tb htb g hgo hgd m (by omega)
    have c2 := contains47i s hs tb htb g hgo hgd m m.length rfl (by omega)
    cases hb : containsG tb s g m with
    | true =>
      rw [hb] at c1 c2
      have ih := mem_loop s hs tb htb M o ho hM r (pre ++ [k]) (m ++ [k]) (by simp [h]) (by simp; omega)
      rw [ownV_snoc, ownS_snoc] at ih
      simp only [List.length_append, List.length_singleton, List.cons_append, List.nil_append] at ih
      simp only [cond_true]
      cases m with
      | nil => exact EvCode.round [T, .same, .row ([pS k]), .same, .b true, .row (g.row), .val, .call (Ev.bool true) ([]), .same, .same, .v (.int .i64 ((pre.length + 1 : Nat) : Int))] [3, 7, 10, 32, 33, 34] [(4, 0), (21, 0), (48, 0)] (.cons (vb (by simp; omega : decide ((↑pre.length : Int) < (↑o.length : Int)) = true)) (.cons (rowI_strs hx : rowI (strs o) (↑pre.length : Int) = some [pS k]) (.cons (hk : (∀ (y : Value × List PV), y ∈ mR Seg.row M → keyB cx.ty 9 y.fst = true) ∧ true = true) (.cons hh (.cons hgt (.cons c1 (.cons (⟨rfl, (by omega)⟩ : 1 = 1 ∧ 1 ≤ 1) (.cons (⟨(by simp), ⟨(by omega), (by omega)⟩⟩ : List.take 1 (List.drop 0 (List.map (fun (i : Nat) => List.take ti9.sz (List.drop (i * ti9.sz) [nrm (pS k)])) (List.range 1))) ≠ [] ∧ 16 ≤ 140737488355328 ∧ 1 ≤ 4611686018427387904) (.cons (natVi64 (by omega) (by omega) (by omega) : Value.int .i64 (IntKind.i64.wrap ((↑pre.length : Int) + (1 : Int))) = .int .i64 ((pre.length + 1 : Nat) : Int)) .nil))))))))) (by kernel_rfl) ih
      | cons a u =>
        have hsl : (strs (a :: u)).length = u.length + 1 := by simp [strs]
        simp only [List.length_cons] at hm c2
        simp only [ownS_cons, ownV_cons, List.cons_append, List.nil_append]
        exact EvCode.round [T, .same, .row ([pS k]), .same, .b true, .row (g.row), .ref, .call (Ev.bool true) ([AO.arr 1 (strs (a :: u)) 0]), .same, .same, .val, .v (.int .i64 ((pre.length + 1 : Nat) : Int))] [3, 7, 10, 32, 33, 34] [(4, 0), (21, 0), (48, 0)] (.cons (vb (by simp; omega : decide ((↑pre.length : Int) < (↑o.length : Int)) = true)) (.cons (rowI_strs hx : rowI (strs o) (↑pre.length : Int) = some [pS k]) (.cons (hk : (∀ (y : Value × List PV), y ∈ mR Seg.row M → keyB cx.ty 9 y.fst = true) ∧ true = true) (.cons hh (.cons hgt (.cons c2 (.cons (⟨rfl, (by omega)⟩ : 1 = 1 ∧ 1 ≤ 1) (.cons (⟨hsl, ⟨rfl, ⟨rfl, ⟨rfl, ⟨(by simp), ⟨(by omega), (by omega)⟩⟩⟩⟩⟩⟩ : (strs (a :: u)).length = u.length + 1 ∧ 0 = 0 ∧ u.length + 1 = u.length + 1 ∧ 1 = 1 ∧ List.take 1 (List.drop 0 (List.map (fun (i : Nat) => List.take ti9.sz (List.drop (i * ti9.sz) [nrm (pS k)])) (List.range 1))) ≠ [] ∧ (u.length + 1 + 1) * 16 ≤ 140737488355328 ∧ u.length + 1 + 1 ≤ 4611686018427387904) (.cons (natVi64 (by omega) (by omega) (by omega) : Value.int .i64 (IntKind.i64.wrap ((↑pre.length : Int) + (1 : Int))) = .int .i64 ((pre.length + 1 : Nat) : Int)) .nil))))))))) (by kernel_rfl) ih
    | false =>
      rw [hb] at c1 c2
      have ih := mem_loop s hs tb htb M o ho hM r (pre ++ [k]) m (by simp [h]) (by simp; omega)
      simp only [List.length_append, List.length_singleton, List.cons_append, List.nil_append] at ih
      simp only [cond_false]
      cases m with
      | nil => exact EvCode.round [T, .same, .row ([pS k]), .same, .b true, .row (g.row), .val, .call (Ev.bool false) ([]), .same, .v (.int .i64 ((pre.length + 1 : Nat) : Int))] [3, 7, 10, 32, 33, 34] [(4, 0), (21, 0)] (.cons (vb (by simp; omega : decide ((↑pre.length : Int) < (↑o.length : Int)) = true)) (.cons (rowI_strs hx : rowI (strs o) (↑pre.length : Int) = some [pS k]) (.cons (hk : (∀ (y : Value × List PV), y ∈ mR Seg.row M → keyB cx.ty 9 y.fst = true) ∧ true = true) (.cons hh (.cons hgt (.cons c1 (.cons (natVi64 (by omega) (by omega) (by omega) : Value.int .i64 (IntKind.i64.wrap ((↑pre.length : Int) + (1 : Int))) = .int .i64 ((pre.length + 1 : Nat) : Int)) .nil))))))) (by kernel_rfl) ih
      | cons a u =>
        simp only [List.length_cons] at hm c2
        simp only [ownS_cons, ownV_cons, List.cons_append, List.nil_append] at ih ⊢
        exact EvCode.round [T, .same, .row ([pS k]), .same, .b true, .row (g.row), .ref, .call (Ev.bool false) ([AO.arr 1 (strs (a :: u)) 0]), .same, .v (.int .i64 ((pre.length + 1 : Nat) : Int))] [3, 7, 10, 32, 33, 34] [(4, 0), (21, 0), (48, 0)] (.cons (vb (by simp; omega : decide ((↑pre.length : Int) < (↑o.length : Int)) = true)) (.cons (rowI_strs hx : rowI (strs o) (↑pre.length : Int) = some [pS k]) (.cons (hk : (∀ (y : Value × List PV), y ∈ mR Seg.row M → keyB cx.ty 9 y.fst = true) ∧ true = true) (.cons hh (.cons hgt (.cons c2 (.cons (natVi64 (by omega) (by omega) (by omega) : Value.int .i64 (IntKind.i64.wrap ((↑pre.length : Int) + (1 : Int))) = .int .i64 ((pre.length + 1 : Nat) : Int)) .nil))))))) (by kernel_rfl) ih

def membersS (tb : Exp → Bool) (s : List Ctx) (l : List Seg) : List ByteArray :=
  bif (orderS l).2 != 0 then [] else isort (memF tb s (byAdd [] l) (orderS l).1 [])
theorem members19 (s : List Ctx) (hs : SubjOk s) {D : Exp → Prop} (tb : Exp → Bool) (htb : TestOf s D tb) (l : List Seg) (hl : SegsOk l) (hd : ∀ g ∈ l, OkD D g.when) :
    EvCall cx 19 [sl (l.map Seg.row), .agg [sl (s.map Ctx.row)]] [] (sl (strs (membersS tb s l))) [] := by
  have ho := order15 l hl
  have hlen := hl.len
  have hmem : ∀ k ∈ (orderS l).1, ∃ g, mGet (byAdd [] l) k = some g ∧ SegOk g ∧ OkD D g.when := by
    intro k hk
    obtain ⟨g, h1, h2, h3⟩ := byAdd_get l [] k (.inl (orderS_mem hk))
    have hgm : g ∈ l := by
      rcases h3 with h3 | h3
      · exact h3
      · cases h3
    exact ⟨g, h1, hl.ok g hgm, hd g hgm⟩
  have hol := orderS_len l
  have hl1 := by_loop l (by omega) s (orderS l).1 l [] [] rfl
  rw [show (l.length : Int) = ((l.map Seg.row).length : Nat) by simp] at hl1
  have hl2 := mem_loop s hs tb htb (byAdd [] l) (orderS l).1 (by omega) hmem (orderS l).1 [] [] rfl (by simp)
  rw [show ((orderS l).1.length : Int) = ((strs (orderS l).1).length : Nat) by rw [strs_length]] at hl2
  have hml := memF_len tb s (byAdd [] l) (orderS l).1 []
  unfold membersS
  generalize orderS l = res at *
  obtain ⟨o, e⟩ := res
  simp only at *
  cases he : e != 0 with
  | true => exact EvCall.run Tryz.f19 Tryz.func19 Tryz.call19 [.val, .call (AV.tup [sl (strs o), int e]) ([]), T, .same, .val] (.cons ho (.cons (vb he) .nil)) (by kernel_rfl)
  | false =>
    simp only [cond_false]
    generalize memF tb s (byAdd [] l) o [] = m at *
    cases m with
    | nil =>
      have hsn := sortNil
      exact EvCall.run Tryz.f19 Tryz.func19 Tryz.call19 [.val, .call (AV.tup [sl (strs o), int e]) ([]), F, .same, .loop [3, 5, 7, 21, 22, 23] [(4, 0), (21, 0)] (AE.exit 0) ({ e := [(3, AV.ref (4, 0) 0), (5, AV.p (PV.sl (strs o))), (7, AV.mp (21, 0))], s := [((4, 0), AO.cells [AV.p (PV.sl (List.map Ctx.row s))]), ((21, 0), AO.map true (mR Seg.row (byAdd [] l)))] }), .loop [3, 7, 10, 32, 33, 34] [(4, 0), (21, 0)] (AE.exit 2) ({ e := [(10, AV.p (PV.s (Value.slice none 0 0)))], s := [] }), .ref, .call (AV.tup []) ([]), .val] (.cons ho (.cons (vb he) (.cons hl1 (.cons hl2 (.cons hsn .nil))))) (by kernel_rfl)
    | cons a u =>
      simp only [List.length_cons, List.length_nil] at hml
      have hso := sortAny a u (by simp; omega) (u.length + 1) (by simp)
      simp only [ownS_cons, ownV_cons] at hl2
      have hil : (strs (isort (a :: u))).length = u.length + 1 := by rw [strs_length, isort_len]; simp
      have htk : List.take (u.length + 1) (List.drop 0 (strs (isort (a :: u)))) = strs (isort (a :: u)) := by rw [List.drop_zero, List.take_of_length_le (Nat.le_of_eq hil)]
      exact EvCall.run Tryz.f19 Tryz.func19 Tryz.call19 [.val, .call (AV.tup [sl (strs o), int e]) ([]), F, .same, .loop [3, 5, 7, 21, 22, 23] [(4, 0), (21, 0)] (AE.exit 0) ({ e := [(3, AV.ref (4, 0) 0), (5, AV.p (PV.sl (strs o))), (7, AV.mp (21, 0))], s := [((4, 0), AO.cells [AV.p (PV.sl (List.map Ctx.row s))]), ((21, 0), AO.map true (mR Seg.row (byAdd [] l)))] }), .loop [3, 7, 10, 32, 33, 34] [(4, 0), (21, 0)] (AE.exit 2) ({ e := [(10, AV.ms (48, 0) 0 (u.length + 1) (u.length + 1))], s := [((48, 0), AO.arr 1 (strs (a :: u)) 0)] }), .ref, .call (AV.tup []) ([AO.arr 1 (strs (isort (a :: u))) 0]), .val, .row [.sl (strs (isort (a :: u)))]] (.cons ho (.cons (vb he) (.cons hl1 (.cons hl2 (.cons hso (.cons (⟨hil, (by omega)⟩ : (strs (isort (a :: u))).length = u.length + 1 ∧ 0 + (u.length + 1) ≤ u.length + 1) (.cons (congrArg (fun z => some [PV.sl z]) htk) .nil))))))) (by kernel_rfl)
theorem contains21 (s : List Ctx) (hs : SubjOk s) {D : Exp → Prop} (tb : Exp → Bool) (htb : TestOf s D tb) (l : List Seg) (hl : SegsOk l) (hd : ∀ g ∈ l, OkD D g.when) (k : ByteArray) (hm : (membersS tb s l).length ≤ 2 ^ 30) :
    EvCall cx 21 [sl (l.map Seg.row), .agg [sl (s.map Ctx.row)], str k] [] (bool (inL (membersS tb s l) k)) [] := by
  have h1 := members19 s hs tb htb l hl hd
  have h2 := contains50 (membersS tb s l) k (by omega)
  unfold inL
  exact EvCall.run Tryz.f21 Tryz.func21 Tryz.call21 [.val, .call (sl (strs (membersS tb s l))) ([]), .val, .call (Ev.bool ((membersS tb s l).any fun (u : ByteArray) => k.toList == u.toList)) ([]), .val] (.cons h1 (.cons h2 .nil)) (by kernel_rfl)
end Go.Proofs.YtbdnigendhhndaaGreatDoor
end
