/- A part of the proofs of this seat's laws (abstract interpretation of the translated program, and contracts of its functions); no statement of its own. -/
import Derived.Test.YtbdnigendhhndaaGreatDoorBg
import Derived.Test.YtbdnigendhhndaaGreatDoorBf
import Derived.Test.YtbdnigendhhndaaGreatDoorBc
set_option linter.unusedVariables false
set_option linter.unusedSimpArgs false
section
/- SegmentUnfolds: the plain law. -/
namespace Go.Proofs.YtbdnigendhhndaaGreatDoor
open Go Go.Ev
set_option maxRecDepth 100000

mutual
def subs : Exp → List Exp
  | .mk o k n vs ks => .mk o k n vs ks :: subsL ks
def subsL : List Exp → List Exp
  | [] => []
  | k :: r => subs k ++ subsL r
end
theorem subs_def (e : Exp) : subs e = e :: subsL e.kids := by cases e; simp [subs, Exp.kids]
theorem mem_subsL {x : Exp} : ∀ {l : List Exp}, x ∈ subsL l ↔ ∃ k ∈ l, x ∈ subs k
  | [] => by simp [subsL]
  | y :: r => by simp [subsL, mem_subsL (l := r)]
theorem addAtom_sub {e x : Exp} {l : List Exp} (h : x ∈ addAtom e l) : x ∈ l ∨ x = e := by
  unfold addAtom at h
  cases hb : wants e.op && !(l.any fun x => eqE x e) with
  | false => rw [hb] at h; exact .inl h
  | true => rw [hb] at h; simpa using h
mutual
theorem atomsL_sub : ∀ (e : Exp) (l : List Exp) (x : Exp), x ∈ atomsL e l → x ∈ l ∨ x ∈ subs e
  | .mk o k n vs ks, l, x, h => by
    simp only [atomsL] at h
    simp only [subs]
    rcases atomsLs_sub ks _ x h with h | h
    · rcases addAtom_sub h with h | h <;> simp [h]
    · simp [h]
theorem atomsLs_sub : ∀ (ks l : List Exp) (x : Exp), x ∈ atomsLs ks l → x ∈ l ∨ x ∈ subsL ks
  | [], l, x, h => by simp only [atomsLs] at h; exact .inl h
  | k :: r, l, x, h => by
    simp only [atomsLs] at h
    simp only [subsL]
    rcases atomsLs_sub r _ x h with h | h
    · rcases atomsL_sub k l x h with h | h <;> simp [h]
    · simp [h]
end
abbrev Diff (l : List Exp) : Prop := l.Pairwise fun x y => eqE x y = false
theorem addAtom_diff (e : Exp) {l : List Exp} (h : Diff l) : Diff (addAtom e l) := by
  unfold addAtom
  cases hb : wants e.op && !(l.any fun x => eqE x e) with
  | false => exact h
  | true =>
    simp only [cond_true]
    simp only [Bool.and_eq_true, Bool.not_eq_true', List.any_eq_false] at hb
    show List.Pairwise _ (l ++ [e])
    rw [List.pairwise_append]
    refine ⟨h, by simp, ?_⟩
    intro a ha b hb'
    simp at hb'
    subst hb'
    simpa using hb.2 a ha
mutual
theorem atomsL_diff : ∀ (e : Exp) (l : List Exp), Diff l → Diff (atomsL e l)
  | .mk o k n vs ks, l, h => by simp only [atomsL]; exact atomsLs_diff ks _ (addAtom_diff _ h)
theorem atomsLs_diff : ∀ (ks l : List Exp), Diff l → Diff (atomsLs ks l)
  | [], l, h => by simpa only [atomsLs] using h
  | k :: r, l, h => by simp only [atomsLs]; exact atomsLs_diff r _ (atomsL_diff k l h)
end

def no5 (e : Exp) : Prop := ∀ x ∈ subs e, (x.op == 5) = false
theorem refs_none {e : Exp} (h : no5 e) : refsOf e = [] := by
  unfold refsOf refsIn
  rw [List.map_eq_nil_iff, List.filter_eq_nil_iff]
  intro x hx
  rcases atomsL_sub e [] x hx with h1 | h1
  · cases h1
  · simp [h x h1]
theorem DrE.subs {names : List ByteArray} {e : Exp} (h : DrE names e) : ∀ x ∈ subs e, DrE names x := by
  induction h with
  | tt => intro x hx; simp [Go.Proofs.YtbdnigendhhndaaGreatDoor.subs, subsL] at hx; subst hx; exact .tt
  | seg n h => intro x hx; simp [Go.Proofs.YtbdnigendhhndaaGreatDoor.subs, subsL] at hx; subst hx; exact .seg n h
  | test e h =>
    intro x hx
    rw [subs_def, h.kids] at hx
    simp [subsL] at hx
    subst hx
    exact .test _ h
  | node o ks h1 h2 h3 h4 h5 ih =>
    intro x hx
    rw [subs_def] at hx
    rcases List.mem_cons.1 hx with hx | hx
    · subst hx; exact .node o ks h1 h2 h3 h4 h5
    · obtain ⟨k, hk, hx⟩ := mem_subsL.1 hx
      exact ih k hk x hx
theorem DrE.seg5 {names : List ByteArray} {e : Exp} (h : DrE names e) (h5 : (e.op == 5) = true) : ∃ n ∈ names, e = .mk 5 ⟨#[]⟩ n [] [] := by
  cases h with
  | tt => simp [Exp.op] at h5
  | seg n h => exact ⟨n, h, rfl⟩
  | test e h => have := h.lo; have := eq_of_beq h5; omega
  | node o ks h1 h2 h3 h4 h5' => have := eq_of_beq h5; simp only [Exp.op] at this; omega
theorem DrE.no5 {e : Exp} (h : DrE [] e) : no5 e := by
  intro x hx
  cases h5 : x.op == 5 with
  | false => rfl
  | true => obtain ⟨n, hn, _⟩ := (h.subs x hx).seg5 h5; cases hn
theorem eqE_seg (n : ByteArray) : eqE (.mk 5 ⟨#[]⟩ n [] []) (.mk 5 ⟨#[]⟩ n [] []) = true := by simp [eqE, eqS, eqEs, eqL]
theorem refs_one (a : ByteArray) {e : Exp} (h : DrE [a] e) : refsOf e = [] ∨ refsOf e = [a] := by
  have hd : Diff ((atomsL e []).filter fun x => x.op == 5) := (atomsL_diff e [] .nil).filter _
  have hall : ∀ x ∈ (atomsL e []).filter (fun x => x.op == 5), x = .mk 5 ⟨#[]⟩ a [] [] := by
    intro x hx
    obtain ⟨h1, h2⟩ := List.mem_filter.1 hx
    rcases atomsL_sub e [] x h1 with h3 | h3
    · cases h3
    · obtain ⟨n, hn, he⟩ := (h.subs x h3).seg5 h2
      simp at hn
      subst hn
      exact he
  unfold refsOf refsIn
  generalize (atomsL e []).filter (fun x => x.op == 5) = l at hd hall
  match l with
  | [] => exact .inl rfl
  | [x] => rw [hall x (by simp)]; exact .inr rfl
  | x :: y :: r =>
    have hx := hall x (by simp)
    have hy := hall y (by simp)
    have := (List.pairwise_cons.1 hd).1 y (by simp)
    rw [hx, hy, eqE_seg] at this
    cases this

theorem unfoldE_no5 {a : ByteArray} {b e : Exp} (hb : no5 b) (he : DrE [a] e) : no5 (unfoldE b e) := by
  induction he with
  | tt => intro x hx; simp [unfoldE, subs, unfoldEs, subsL] at hx; subst hx; rfl
  | seg n h =>
    intro x hx
    simp [unfoldE, subs, subsL] at hx
    rcases hx with hx | hx
    · subst hx; rfl
    · exact hb x hx
  | test e h =>
    intro x hx
    have h5 : (e.op == 5) = false := by have := h.lo; simp; omega
    rw [unfoldE_def, h5, h.kids] at hx
    simp [subs, unfoldEs, subsL] at hx
    subst hx
    exact h5
  | node o ks h1 h2 h3 h4 h5 ih =>
    intro x hx
    have h5' : (o == 5) = false := by simp; omega
    simp only [unfoldE, h5', cond_false, unfoldEs_map, subs, List.mem_cons] at hx
    rcases hx with hx | hx
    · subst hx; exact h5'
    · obtain ⟨k, hk, hx⟩ := mem_subsL.1 hx
      obtain ⟨k', hk', rfl⟩ := List.mem_map.1 hk
      exact ih k' hk' x hx

theorem any_congr {α : Type} {l : List α} {f g : α → Bool} (h : ∀ x ∈ l, f x = g x) : l.any f = l.any g := by
  induction l with
  | nil => rfl
  | cons x r ih => rw [List.any_cons, List.any_cons, h x (by simp), ih fun y hy => h y (by simp [hy])]
theorem evalE_test {tb : Exp → Bool} {m : List ByteArray} {e : Exp} (h : 6 ≤ e.op) : evalE tb m e = tb e := by
  obtain ⟨o, k, n, vs, ks⟩ := e
  simp only [Exp.op] at h
  have h1 : (o == 1) = false := by simp; omega
  have h2 : (o == 2) = false := by simp; omega
  have h3 : (o == 3) = false := by simp; omega
  have h4 : (o == 4) = false := by simp; omega
  have h5 : (o == 5) = false := by simp; omega
  simp only [evalE, h1, h2, h3, h4, h5, cond_false]
/-- Conditions whose kids answer alike. -/
theorem evalE_node {tb : Exp → Bool} {m m2 : List ByteArray} {o : Int} (h1 : 2 ≤ o) (h2 : o ≤ 4) {ks : List Exp} {f : Exp → Exp} (h : ∀ k ∈ ks, evalE tb m2 (f k) = evalE tb m k) :
    evalE tb m2 (.mk o ⟨#[]⟩ ⟨#[]⟩ [] (ks.map f)) = evalE tb m (.mk o ⟨#[]⟩ ⟨#[]⟩ [] ks) := by
  have e1 : (o == 1) = false := by simp; omega
  simp only [evalE, e1, cond_false]
  cases e2 : o == 2 with
  | true =>
    simp only [cond_true, anyNot_any, List.any_map]
    rw [any_congr (g := fun k => !evalE tb m k) fun k hk => by simp [h k hk]]
  | false =>
    cases e3 : o == 3 with
    | true =>
      simp only [cond_true, cond_false, anyE_any, List.any_map]
      rw [any_congr (g := fun k => evalE tb m k) fun k hk => by simp [h k hk]]
    | false =>
      have e4 : (o == 4) = true := by simp at e2 e3 ⊢; omega
      simp only [e4, cond_true, cond_false]
      cases ks with
      | nil => rfl
      | cons x r => simp only [List.map_cons, headNot, h x (by simp)]
theorem evalE_none {tb : Exp → Bool} {b : Exp} (h : DrE [] b) (m m2 : List ByteArray) : evalE tb m2 b = evalE tb m b := by
  induction h with
  | tt => simp [evalE]
  | seg n h => cases h
  | test e h => rw [evalE_test h.lo, evalE_test h.lo]
  | node o ks h1 h2 h3 h4 h5 ih =>
    have := evalE_node (f := id) h1 h2 ih
    simpa using this
theorem evalE_unfold {tb : Exp → Bool} {a : ByteArray} {b e : Exp} (hb : DrE [] b) (he : DrE [a] e) (m m2 : List ByteArray) (h : (m.any fun u => a.toList == u.toList) = evalE tb m2 b) : evalE tb m2 (unfoldE b e) = evalE tb m e := by
  induction he with
  | tt => simp [unfoldE, evalE]
  | seg n hn =>
    simp at hn
    subst hn
    have e1 : evalE tb m (.mk 5 ⟨#[]⟩ n [] []) = m.any fun u => n.toList == u.toList := by simp [evalE]
    rw [e1, h]
    simp [unfoldE, evalE, anyNot]
  | test e ht =>
    have h5 : (e.op == 5) = false := by have := ht.lo; simp; omega
    rw [unfoldE_def, h5, ht.kids]
    have : Exp.mk e.op e.kind e.name e.values (unfoldEs b []) = e := by
      have hk := ht.kids
      obtain ⟨o, k, n, vs, ks⟩ := e
      simp only [Exp.kids] at hk
      subst hk
      rfl
    simp only [cond_false]
    rw [this, evalE_test ht.lo, evalE_test ht.lo]
  | node o ks h1 h2 h3 h4 h5 ih =>
    have h5' : (o == 5) = false := by simp; omega
    simp only [unfoldE, h5', cond_false, unfoldEs_map]
    exact evalE_node h1 h2 ih

theorem DrE.okd {names : List ByteArray} {e : Exp} (h : DrE names e) : OkD DrawnV e := by
  induction h with
  | tt => exact .mk (by simp [Exp.values]) (by simp [Exp.values]) (by simp [Exp.kids]) (by simp [Exp.kids]) (by intro v hv; simp [Exp.values] at hv)
  | seg n h => exact .mk (by simp [Exp.values]) (by simp [Exp.values]) (by simp [Exp.kids]) (by simp [Exp.kids]) (by intro v hv; simp [Exp.values] at hv)
  | test e h => exact .mk (by have := h.len; omega) (fun v hv => by have := (dvals_small (h.vals v hv)).2; omega) (by rw [h.kids]; simp) (by rw [h.kids]; simp) h.vals
  | node o ks h1 h2 h3 h4 h5 ih => exact .mk (by simp [Exp.values]) (by simp [Exp.values]) (by simp only [Exp.kids]; omega) ih (by intro v hv; simp [Exp.values] at hv)
theorem unfoldE_okd {b e : Exp} (hb : OkD DrawnV b) (he : OkD DrawnV e) : OkD DrawnV (unfoldE b e) := by
  induction he with
  | @mk e h1 h2 h3 h4 h0 ih =>
    rw [unfoldE_def]
    cases h5 : e.op == 5 with
    | true => exact .mk (by simp [Exp.values]) (by simp [Exp.values]) (by simp [Exp.kids]) (by simp [Exp.kids, hb]) (by intro v hv; simp [Exp.values] at hv)
    | false =>
      refine .mk h1 h2 (by simp only [cond_false, Exp.kids, unfoldEs_map, List.length_map]; exact h3) ?_ h0
      simp only [cond_false, Exp.kids, unfoldEs_map]
      intro k hk
      obtain ⟨k', hk', rfl⟩ := List.mem_map.1 hk
      exact ih k' hk'
mutual
theorem unfoldE_nodes (b : Exp) : ∀ e : Exp, (unfoldE b e).nodes ≤ e.nodes * (1 + 2 * b.nodes)
  | .mk o k n vs ks => by
    simp only [unfoldE]
    cases h5 : o == 5 with
    | true =>
      simp only [cond_true, Exp.nodes, nodesL]
      rw [Nat.add_mul]
      omega
    | false =>
      have := unfoldEs_nodes b ks
      simp only [cond_false, Exp.nodes]
      rw [Nat.add_mul]
      omega
theorem unfoldEs_nodes (b : Exp) : ∀ l : List Exp, nodesL (unfoldEs b l) ≤ nodesL l * (1 + 2 * b.nodes)
  | [] => by simp [unfoldEs, nodesL]
  | k :: r => by
    have h1 := unfoldE_nodes b k
    have h2 := unfoldEs_nodes b r
    simp only [unfoldEs, nodesL]
    rw [Nat.add_mul]
    omega
end

abbrev kAlpha : ByteArray := ⟨#[97, 108, 112, 104, 97]⟩
abbrev kBeta : ByteArray := ⟨#[98, 101, 116, 97]⟩
abbrev kGamma : ByteArray := ⟨#[103, 97, 109, 109, 97]⟩
abbrev kUser : ByteArray := ⟨#[117, 115, 101, 114]⟩
def unfSegs (b e : Exp) : List Seg := [⟨kAlpha, kUser, [], [], b⟩, ⟨kBeta, kUser, [], [], e⟩, ⟨kGamma, kUser, [], [], unfoldE b e⟩]
theorem DrE.op_ne {names : List ByteArray} {e : Exp} (h : DrE names e) : 1 ≤ e.op := by
  cases h with
  | tt => simp [Exp.op]
  | seg n h => simp [Exp.op]
  | test e h => have := h.lo; omega
  | node o ks h1 h2 h3 h4 h5' => simp only [Exp.op]; omega
theorem containsG_bare (tb : Exp → Bool) (s : List Ctx) (k kd : ByteArray) (w : Exp) (m : List ByteArray) (hw : 1 ≤ w.op) : containsG tb s ⟨k, kd, [], [], w⟩ m = ((findC s kd).2 && evalE tb m w) := by
  have : (w.op != 0) = true := by simp; omega
  simp only [containsG, inL, List.any_nil, this, cond_true, cond_false]
  cases (findC s kd).2 <;> rfl
theorem unf_edges {b e : Exp} (hb : DrE [] b) (he : DrE [kAlpha] e) : segEdges (unfSegs b e) = [] ∨ segEdges (unfSegs b e) = [(kBeta, kAlpha)] := by
  have h1 : refersS b = [] := by unfold refersS; rw [refs_none hb.no5]; rfl
  have h3 : refersS (unfoldE b e) = [] := by unfold refersS; rw [refs_none (unfoldE_no5 hb.no5 he)]; rfl
  have h2 : refersS e = [] ∨ refersS e = [kAlpha] := by
    unfold refersS
    rcases refs_one kAlpha he with h | h <;> rw [h]
    · exact .inl rfl
    · exact .inr (by kernel_rfl)
  simp only [unfSegs, segEdges, h1, h3]
  rcases h2 with h | h <;> rw [h]
  · exact .inl rfl
  · exact .inr rfl
theorem unf_order {b e : Exp} (hb : DrE [] b) (he : DrE [kAlpha] e) : orderS (unfSegs b e) = ([kAlpha, kBeta, kGamma], 0) := by
  have : orderS (unfSegs b e) = orderG [kAlpha, kBeta, kGamma] (segEdges (unfSegs b e)) := rfl
  rw [this]
  rcases unf_edges hb he with h | h <;> rw [h] <;> (show _ = _; kernel_rfl)
theorem unf_ok {b e : Exp} (hb : DrE [] b) (he : DrE [kAlpha] e) (hbn : b.nodes ≤ 67) (hen : e.nodes ≤ 67) : SegsOk (unfSegs b e) := by
  refine ⟨by simp [unfSegs], ?_⟩
  · intro g hg
    simp only [unfSegs, List.mem_cons, List.not_mem_nil, or_false] at hg
    rcases hg with rfl | rfl | rfl
    · exact ⟨hb.okd.ok, by simp only; omega, by simp [refs_none hb.no5], by simp, by simp⟩
    · exact ⟨he.okd.ok, by simp only; omega, by rcases refs_one kAlpha he with h | h <;> simp [h], by simp, by simp⟩
    · refine ⟨(unfoldE_okd hb.okd he.okd).ok, ?_, by simp [refs_none (unfoldE_no5 hb.no5 he)], by simp, by simp⟩
      have h1 := unfoldE_nodes b e
      have h2 : e.nodes * (1 + 2 * b.nodes) ≤ 67 * 135 := Nat.mul_le_mul hen (by omega)
      simp only
      omega
theorem unf_okd {b e : Exp} (hb : DrE [] b) (he : DrE [kAlpha] e) : ∀ g ∈ unfSegs b e, OkD DrawnV g.when := by
  intro g hg
  simp only [unfSegs, List.mem_cons, List.not_mem_nil, or_false] at hg
  rcases hg with rfl | rfl | rfl
  · exact hb.okd
  · exact he.okd
  · exact unfoldE_okd hb.okd he.okd
theorem unf_len (tb : Exp → Bool) (s : List Ctx) {b e : Exp} (hb : DrE [] b) (he : DrE [kAlpha] e) : (membersS tb s (unfSegs b e)).length ≤ 2 ^ 30 := by
  unfold membersS
  rw [unf_order hb he]
  have : (([kAlpha, kBeta, kGamma], (0 : Int)).2 != 0) = false := rfl
  rw [this]
  simp only [cond_false]
  rw [isort_len]
  have := memF_len tb s (byAdd [] (unfSegs b e)) [kAlpha, kBeta, kGamma] []
  simp at this
  omega
theorem unf_law (tb : Exp → Bool) (s : List Ctx) {b e : Exp} (hb : DrE [] b) (he : DrE [kAlpha] e) : inL (membersS tb s (unfSegs b e)) kBeta = inL (membersS tb s (unfSegs b e)) kGamma := by
  unfold membersS
  rw [unf_order hb he]
  have : (([kAlpha, kBeta, kGamma], (0 : Int)).2 != 0) = false := rfl
  rw [this]
  simp only [cond_false]
  have g1 : mGet (byAdd [] (unfSegs b e)) kAlpha = some ⟨kAlpha, kUser, [], [], b⟩ := by kernel_rfl
  have g2 : mGet (byAdd [] (unfSegs b e)) kBeta = some ⟨kBeta, kUser, [], [], e⟩ := by kernel_rfl
  have g3 : mGet (byAdd [] (unfSegs b e)) kGamma = some ⟨kGamma, kUser, [], [], unfoldE b e⟩ := by kernel_rfl
  have hu : 1 ≤ (unfoldE b e).op := by
    rw [unfoldE_def]
    cases e.op == 5 with
    | true => simp [Exp.op]
    | false => exact he.op_ne
  simp only [memF, g1, g2, g3, containsG_bare _ _ _ _ _ _ hb.op_ne, containsG_bare _ _ _ _ _ _ he.op_ne, containsG_bare _ _ _ _ _ _ hu]
  cases hf : (findC s kUser).2 with
  | false => show _ = _; kernel_rfl
  | true =>
    simp only [Bool.true_and]
    have hun := fun m m2 h => evalE_unfold (tb := tb) hb he m m2 h
    cases hv : evalE tb [] b with
    | false =>
      simp only [cond_false]
      have e1 := hun [] [] (by simp [hv])
      have e2 := hun [] [kBeta] (by rw [evalE_none hb [] [kBeta], hv]; rfl)
      cases hw : evalE tb [] e with
      | false => rw [hw] at e1; simp only [cond_false, e1]; show _ = _; kernel_rfl
      | true => rw [hw] at e2; simp only [cond_true, List.nil_append, e2]; show _ = _; kernel_rfl
    | true =>
      simp only [cond_true, List.nil_append]
      have e1 := hun [kAlpha] [kAlpha] (by rw [evalE_none hb [] [kAlpha], hv]; kernel_rfl)
      have e2 := hun [kAlpha] [kAlpha, kBeta] (by rw [evalE_none hb [] [kAlpha, kBeta], hv]; kernel_rfl)
      cases hw : evalE tb [kAlpha] e with
      | false => rw [hw] at e1; simp only [cond_false, e1]; show _ = _; kernel_rfl
      | true => rw [hw] at e2; simp only [cond_true, List.cons_append, List.nil_append, e2]; show _ = _; kernel_rfl
end Go.Proofs.YtbdnigendhhndaaGreatDoor
end
section
/- SegmentUnfolds: the law's function returns true. -/
namespace Go.Proofs.YtbdnigendhhndaaGreatDoor
open Go Go.Ev
set_option maxRecDepth 100000

theorem test_zero (s : List Ctx) (hok : ∀ c ∈ s, c.Ok) (hl : s.length ≤ 2) (e : Exp) (h0 : e.op = 0) : TestAns s e := by
  generalize hlk : lookupS s e.kind e.name = r
  obtain ⟨v, b⟩ := r
  cases b with
  | false => exact test_no s hok hl e v hlk
  | true => exact test_op s hok hl e v hlk (by rw [h0]; rfl)
abbrev awSegs : List Seg := [⟨kBeta, kUser, [⟨#[97]⟩, ⟨#[98]⟩], [⟨#[98]⟩], .mk 0 ⟨#[]⟩ ⟨#[]⟩ [] []⟩]
abbrev awA : List Ctx := [⟨kUser, ⟨#[97]⟩, []⟩]
abbrev awB : List Ctx := [⟨kUser, ⟨#[98]⟩, []⟩]
theorem zero_okd : OkD (fun e => e.op = 0) (.mk 0 ⟨#[]⟩ ⟨#[]⟩ [] []) := .mk (by simp [Exp.values]) (by simp [Exp.values]) (by simp [Exp.kids]) (by simp [Exp.kids]) rfl
theorem aw_ok : SegsOk awSegs := by
  refine ⟨by simp, ?_⟩
  · intro g hg
    simp only [awSegs, List.mem_cons, List.not_mem_nil, or_false] at hg
    subst hg
    exact ⟨zero_okd.ok, by simp [Exp.nodes, nodesL], by simp [refsOf, atomsL, atomsLs, addAtom, refsIn, wants, isTest, Exp.op], by simp, by simp⟩
theorem aw_okd : ∀ g ∈ awSegs, OkD (fun e => e.op = 0) g.when := by
  intro g hg
  simp only [awSegs, List.mem_cons, List.not_mem_nil, or_false] at hg
  subst hg
  exact zero_okd
theorem aw_subj (k : ByteArray) : SubjOk [⟨kUser, k, []⟩] := ⟨by simp, fun c hc => by simp at hc; subst hc; exact ⟨by simp, by simp⟩⟩
theorem aw_test (k : ByteArray) : TestOf [⟨kUser, k, []⟩] (fun e => e.op = 0) (testF [⟨kUser, k, []⟩]) := fun e he => test_zero _ (aw_subj k).ok (by simp) e he.d
theorem awake8 : EvCall cx 8 [] [] (bool true) [] := by
  have h1 := contains21 awA (aw_subj _) _ (aw_test _) awSegs aw_ok aw_okd kBeta (by rw [show membersS (testF awA) awA awSegs = [kBeta] by kernel_rfl]; simp)
  have h2 := contains21 awB (aw_subj _) _ (aw_test _) awSegs aw_ok aw_okd kBeta (by rw [show membersS (testF awB) awB awSegs = [] by kernel_rfl]; simp)
  have h3 := members19 awA (aw_subj _) _ (aw_test _) awSegs aw_ok aw_okd
  rw [show membersS (testF awA) awA awSegs = [kBeta] by kernel_rfl] at h1 h3
  rw [show membersS (testF awB) awB awSegs = [] by kernel_rfl] at h2
  rw [show inL [kBeta] kBeta = true by kernel_rfl] at h1
  rw [show inL [] kBeta = false by rfl] at h2
  exact EvCall.run Tryz.f8 Tryz.func8 Tryz.call8 [.same, .row [.sl (List.map (fun (i : Nat) => List.take ti9.sz (List.drop (i * ti9.sz) [nrm (PV.s (Value.string (ByteArray.mk #[(98 : UInt8)])))])) (List.range 1))], .val, .row [.sl (List.map (fun (i : Nat) => List.take ti33.sz (List.drop (i * ti33.sz) [nrm (PV.s (Value.string (ByteArray.mk #[(98 : UInt8), (101 : UInt8), (116 : UInt8), (97 : UInt8)]))), nrm (PV.s (Value.string (ByteArray.mk #[(117 : UInt8), (115 : UInt8), (101 : UInt8), (114 : UInt8)]))), PV.sl (List.take 2 (List.drop 0 (List.map (fun (i : Nat) => List.take ti9.sz (List.drop (i * ti9.sz) [nrm (PV.s (Value.string (ByteArray.mk #[(97 : UInt8)]))), nrm (PV.s (Value.string (ByteArray.mk #[(98 : UInt8)])))])) (List.range 2)))), PV.sl (List.map (fun (i : Nat) => List.take ti9.sz (List.drop (i * ti9.sz) [nrm (PV.s (Value.string (ByteArray.mk #[(98 : UInt8)])))])) (List.range 1)), nrm (PV.s (Value.int IntKind.i64 (0 : Int))), nrm (PV.s (Value.string (ByteArray.mk #[]))), nrm (PV.s (Value.string (ByteArray.mk #[]))), nrm (PV.s (Value.slice none 0 0)), nrm (PV.s (Value.slice none 0 0))])) (List.range 1))], .row [.sl (List.map (fun (i : Nat) => List.take ti63.sz (List.drop (i * ti63.sz) [nrm (PV.s (Value.string (ByteArray.mk #[(117 : UInt8), (115 : UInt8), (101 : UInt8), (114 : UInt8)]))), nrm (PV.s (Value.string (ByteArray.mk #[(97 : UInt8)]))), nrm (PV.s (Value.slice none 0 0))])) (List.range 1))], .call (Ev.bool true) ([]), .same, .same, .same, .val, .row [.sl (List.map (fun (i : Nat) => List.take ti33.sz (List.drop (i * ti33.sz) [nrm (PV.s (Value.string (ByteArray.mk #[(98 : UInt8), (101 : UInt8), (116 : UInt8), (97 : UInt8)]))), nrm (PV.s (Value.string (ByteArray.mk #[(117 : UInt8), (115 : UInt8), (101 : UInt8), (114 : UInt8)]))), PV.sl (List.take 2 (List.drop 0 (List.map (fun (i : Nat) => List.take ti9.sz (List.drop (i * ti9.sz) [nrm (PV.s (Value.string (ByteArray.mk #[(97 : UInt8)]))), nrm (PV.s (Value.string (ByteArray.mk #[(98 : UInt8)])))])) (List.range 2)))), PV.sl (List.map (fun (i : Nat) => List.take ti9.sz (List.drop (i * ti9.sz) [nrm (PV.s (Value.string (ByteArray.mk #[(98 : UInt8)])))])) (List.range 1)), nrm (PV.s (Value.int IntKind.i64 (0 : Int))), nrm (PV.s (Value.string (ByteArray.mk #[]))), nrm (PV.s (Value.string (ByteArray.mk #[]))), nrm (PV.s (Value.slice none 0 0)), nrm (PV.s (Value.slice none 0 0))])) (List.range 1))], .row [.sl (List.map (fun (i : Nat) => List.take ti63.sz (List.drop (i * ti63.sz) [nrm (PV.s (Value.string (ByteArray.mk #[(117 : UInt8), (115 : UInt8), (101 : UInt8), (114 : UInt8)]))), nrm (PV.s (Value.string (ByteArray.mk #[(98 : UInt8)]))), nrm (PV.s (Value.slice none 0 0))])) (List.range 1))], .call (Ev.bool false) ([]), .same, .same, .same, .same, .same, .same, .val, .row [.sl (List.map (fun (i : Nat) => List.take ti33.sz (List.drop (i * ti33.sz) [nrm (PV.s (Value.string (ByteArray.mk #[(98 : UInt8), (101 : UInt8), (116 : UInt8), (97 : UInt8)]))), nrm (PV.s (Value.string (ByteArray.mk #[(117 : UInt8), (115 : UInt8), (101 : UInt8), (114 : UInt8)]))), PV.sl (List.take 2 (List.drop 0 (List.map (fun (i : Nat) => List.take ti9.sz (List.drop (i * ti9.sz) [nrm (PV.s (Value.string (ByteArray.mk #[(97 : UInt8)]))), nrm (PV.s (Value.string (ByteArray.mk #[(98 : UInt8)])))])) (List.range 2)))), PV.sl (List.map (fun (i : Nat) => List.take ti9.sz (List.drop (i * ti9.sz) [nrm (PV.s (Value.string (ByteArray.mk #[(98 : UInt8)])))])) (List.range 1)), nrm (PV.s (Value.int IntKind.i64 (0 : Int))), nrm (PV.s (Value.string (ByteArray.mk #[]))), nrm (PV.s (Value.string (ByteArray.mk #[]))), nrm (PV.s (Value.slice none 0 0)), nrm (PV.s (Value.slice none 0 0))])) (List.range 1))], .row [.sl (List.map (fun (i : Nat) => List.take ti63.sz (List.drop (i * ti63.sz) [nrm (PV.s (Value.string (ByteArray.mk #[(117 : UInt8), (115 : UInt8), (101 : UInt8), (114 : UInt8)]))), nrm (PV.s (Value.string (ByteArray.mk #[(97 : UInt8)]))), nrm (PV.s (Value.slice none 0 0))])) (List.range 1))], .call (sl (strs [kBeta])) ([]), .same, .same, .same, .same, .val] (.cons (⟨rfl, (by omega)⟩ : 2 = 2 ∧ 2 ≤ 2) (.cons (⟨rfl, (by omega)⟩ : 1 = 1 ∧ 1 ≤ 1) (.cons (by simp : some [PV.sl (List.take 1 (List.drop 0 (List.map (fun (i : Nat) => List.take ti9.sz (List.drop (i * ti9.sz) [nrm (PV.s (Value.string (ByteArray.mk #[(98 : UInt8)])))])) (List.range 1))))] = some [PV.sl (List.map (fun (i : Nat) => List.take ti9.sz (List.drop (i * ti9.sz) [nrm (PV.s (Value.string (ByteArray.mk #[(98 : UInt8)])))])) (List.range 1))]) (.cons (⟨rfl, (by omega)⟩ : 1 = 1 ∧ 1 ≤ 1) (.cons (by simp : some [PV.sl (List.take 1 (List.drop 0 (List.map (fun (i : Nat) => List.take ti33.sz (List.drop (i * ti33.sz) [nrm (PV.s (Value.string (ByteArray.mk #[(98 : UInt8), (101 : UInt8), (116 : UInt8), (97 : UInt8)]))), nrm (PV.s (Value.string (ByteArray.mk #[(117 : UInt8), (115 : UInt8), (101 : UInt8), (114 : UInt8)]))), PV.sl (List.take 2 (List.drop 0 (List.map (fun (i : Nat) => List.take ti9.sz (List.drop (i * ti9.sz) [nrm (PV.s (Value.string (ByteArray.mk #[(97 : UInt8)]))), nrm (PV.s (Value.string (ByteArray.mk #[(98 : UInt8)])))])) (List.range 2)))), PV.sl (List.map (fun (i : Nat) => List.take ti9.sz (List.drop (i * ti9.sz) [nrm (PV.s (Value.string (ByteArray.mk #[(98 : UInt8)])))])) (List.range 1)), nrm (PV.s (Value.int IntKind.i64 (0 : Int))), nrm (PV.s (Value.string (ByteArray.mk #[]))), nrm (PV.s (Value.string (ByteArray.mk #[]))), nrm (PV.s (Value.slice none 0 0)), nrm (PV.s (Value.slice none 0 0))])) (List.range 1))))] = some [PV.sl (List.map (fun (i : Nat) => List.take ti33.sz (List.drop (i * ti33.sz) [nrm (PV.s (Value.string (ByteArray.mk #[(98 : UInt8), (101 : UInt8), (116 : UInt8), (97 : UInt8)]))), nrm (PV.s (Value.string (ByteArray.mk #[(117 : UInt8), (115 : UInt8), (101 : UInt8), (114 : UInt8)]))), PV.sl (List.take 2 (List.drop 0 (List.map (fun (i : Nat) => List.take ti9.sz (List.drop (i * ti9.sz) [nrm (PV.s (Value.string (ByteArray.mk #[(97 : UInt8)]))), nrm (PV.s (Value.string (ByteArray.mk #[(98 : UInt8)])))])) (List.range 2)))), PV.sl (List.map (fun (i : Nat) => List.take ti9.sz (List.drop (i * ti9.sz) [nrm (PV.s (Value.string (ByteArray.mk #[(98 : UInt8)])))])) (List.range 1)), nrm (PV.s (Value.int IntKind.i64 (0 : Int))), nrm (PV.s (Value.string (ByteArray.mk #[]))), nrm (PV.s (Value.string (ByteArray.mk #[]))), nrm (PV.s (Value.slice none 0 0)), nrm (PV.s (Value.slice none 0 0))])) (List.range 1))]) (.cons (⟨rfl, (by omega)⟩ : 1 = 1 ∧ 1 ≤ 1) (.cons (by simp : some [PV.sl (List.take 1 (List.drop 0 (List.map (fun (i : Nat) => List.take ti63.sz (List.drop (i * ti63.sz) [nrm (PV.s (Value.string (ByteArray.mk #[(117 : UInt8), (115 : UInt8), (101 : UInt8), (114 : UInt8)]))), nrm (PV.s (Value.string (ByteArray.mk #[(97 : UInt8)]))), nrm (PV.s (Value.slice none 0 0))])) (List.range 1))))] = some [PV.sl (List.map (fun (i : Nat) => List.take ti63.sz (List.drop (i * ti63.sz) [nrm (PV.s (Value.string (ByteArray.mk #[(117 : UInt8), (115 : UInt8), (101 : UInt8), (114 : UInt8)]))), nrm (PV.s (Value.string (ByteArray.mk #[(97 : UInt8)]))), nrm (PV.s (Value.slice none 0 0))])) (List.range 1))]) (.cons h1 (.cons (⟨rfl, (by omega)⟩ : 1 = 1 ∧ 1 ≤ 1) (.cons (by simp : some [PV.sl (List.take 1 (List.drop 0 (List.map (fun (i : Nat) => List.take ti33.sz (List.drop (i * ti33.sz) [nrm (PV.s (Value.string (ByteArray.mk #[(98 : UInt8), (101 : UInt8), (116 : UInt8), (97 : UInt8)]))), nrm (PV.s (Value.string (ByteArray.mk #[(117 : UInt8), (115 : UInt8), (101 : UInt8), (114 : UInt8)]))), PV.sl (List.take 2 (List.drop 0 (List.map (fun (i : Nat) => List.take ti9.sz (List.drop (i * ti9.sz) [nrm (PV.s (Value.string (ByteArray.mk #[(97 : UInt8)]))), nrm (PV.s (Value.string (ByteArray.mk #[(98 : UInt8)])))])) (List.range 2)))), PV.sl (List.map (fun (i : Nat) => List.take ti9.sz (List.drop (i * ti9.sz) [nrm (PV.s (Value.string (ByteArray.mk #[(98 : UInt8)])))])) (List.range 1)), nrm (PV.s (Value.int IntKind.i64 (0 : Int))), nrm (PV.s (Value.string (ByteArray.mk #[]))), nrm (PV.s (Value.string (ByteArray.mk #[]))), nrm (PV.s (Value.slice none 0 0)), nrm (PV.s (Value.slice none 0 0))])) (List.range 1))))] = some [PV.sl (List.map (fun (i : Nat) => List.take ti33.sz (List.drop (i * ti33.sz) [nrm (PV.s (Value.string (ByteArray.mk #[(98 : UInt8), (101 : UInt8), (116 : UInt8), (97 : UInt8)]))), nrm (PV.s (Value.string (ByteArray.mk #[(117 : UInt8), (115 : UInt8), (101 : UInt8), (114 : UInt8)]))), PV.sl (List.take 2 (List.drop 0 (List.map (fun (i : Nat) => List.take ti9.sz (List.drop (i * ti9.sz) [nrm (PV.s (Value.string (ByteArray.mk #[(97 : UInt8)]))), nrm (PV.s (Value.string (ByteArray.mk #[(98 : UInt8)])))])) (List.range 2)))), PV.sl (List.map (fun (i : Nat) => List.take ti9.sz (List.drop (i * ti9.sz) [nrm (PV.s (Value.string (ByteArray.mk #[(98 : UInt8)])))])) (List.range 1)), nrm (PV.s (Value.int IntKind.i64 (0 : Int))), nrm (PV.s (Value.string (ByteArray.mk #[]))), nrm (PV.s (Value.string (ByteArray.mk #[]))), nrm (PV.s (Value.slice none 0 0)), nrm (PV.s (Value.slice none 0 0))])) (List.range 1))]) (.cons (⟨rfl, (by omega)⟩ : 1 = 1 ∧ 1 ≤ 1) (.cons (by simp : some [PV.sl (List.take 1 (List.drop 0 (List.map (fun (i : Nat) => List.take ti63.sz (List.drop (i * ti63.sz) [nrm (PV.s (Value.string (ByteArray.mk #[(117 : UInt8), (115 : UInt8), (101 : UInt8), (114 : UInt8)]))), nrm (PV.s (Value.string (ByteArray.mk #[(98 : UInt8)]))), nrm (PV.s (Value.slice none 0 0))])) (List.range 1))))] = some [PV.sl (List.map (fun (i : Nat) => List.take ti63.sz (List.drop (i * ti63.sz) [nrm (PV.s (Value.string (ByteArray.mk #[(117 : UInt8), (115 : UInt8), (101 : UInt8), (114 : UInt8)]))), nrm (PV.s (Value.string (ByteArray.mk #[(98 : UInt8)]))), nrm (PV.s (Value.slice none 0 0))])) (List.range 1))]) (.cons h2 (.cons (⟨rfl, (by omega)⟩ : 1 = 1 ∧ 1 ≤ 1) (.cons (by simp : some [PV.sl (List.take 1 (List.drop 0 (List.map (fun (i : Nat) => List.take ti33.sz (List.drop (i * ti33.sz) [nrm (PV.s (Value.string (ByteArray.mk #[(98 : UInt8), (101 : UInt8), (116 : UInt8), (97 : UInt8)]))), nrm (PV.s (Value.string (ByteArray.mk #[(117 : UInt8), (115 : UInt8), (101 : UInt8), (114 : UInt8)]))), PV.sl (List.take 2 (List.drop 0 (List.map (fun (i : Nat) => List.take ti9.sz (List.drop (i * ti9.sz) [nrm (PV.s (Value.string (ByteArray.mk #[(97 : UInt8)]))), nrm (PV.s (Value.string (ByteArray.mk #[(98 : UInt8)])))])) (List.range 2)))), PV.sl (List.map (fun (i : Nat) => List.take ti9.sz (List.drop (i * ti9.sz) [nrm (PV.s (Value.string (ByteArray.mk #[(98 : UInt8)])))])) (List.range 1)), nrm (PV.s (Value.int IntKind.i64 (0 : Int))), nrm (PV.s (Value.string (ByteArray.mk #[]))), nrm (PV.s (Value.string (ByteArray.mk #[]))), nrm (PV.s (Value.slice none 0 0)), nrm (PV.s (Value.slice none 0 0))])) (List.range 1))))] = some [PV.sl (List.map (fun (i : Nat) => List.take ti33.sz (List.drop (i * ti33.sz) [nrm (PV.s (Value.string (ByteArray.mk #[(98 : UInt8), (101 : UInt8), (116 : UInt8), (97 : UInt8)]))), nrm (PV.s (Value.string (ByteArray.mk #[(117 : UInt8), (115 : UInt8), (101 : UInt8), (114 : UInt8)]))), PV.sl (List.take 2 (List.drop 0 (List.map (fun (i : Nat) => List.take ti9.sz (List.drop (i * ti9.sz) [nrm (PV.s (Value.string (ByteArray.mk #[(97 : UInt8)]))), nrm (PV.s (Value.string (ByteArray.mk #[(98 : UInt8)])))])) (List.range 2)))), PV.sl (List.map (fun (i : Nat) => List.take ti9.sz (List.drop (i * ti9.sz) [nrm (PV.s (Value.string (ByteArray.mk #[(98 : UInt8)])))])) (List.range 1)), nrm (PV.s (Value.int IntKind.i64 (0 : Int))), nrm (PV.s (Value.string (ByteArray.mk #[]))), nrm (PV.s (Value.string (ByteArray.mk #[]))), nrm (PV.s (Value.slice none 0 0)), nrm (PV.s (Value.slice none 0 0))])) (List.range 1))]) (.cons (⟨rfl, (by omega)⟩ : 1 = 1 ∧ 1 ≤ 1) (.cons (by simp : some [PV.sl (List.take 1 (List.drop 0 (List.map (fun (i : Nat) => List.take ti63.sz (List.drop (i * ti63.sz) [nrm (PV.s (Value.string (ByteArray.mk #[(117 : UInt8), (115 : UInt8), (101 : UInt8), (114 : UInt8)]))), nrm (PV.s (Value.string (ByteArray.mk #[(97 : UInt8)]))), nrm (PV.s (Value.slice none 0 0))])) (List.range 1))))] = some [PV.sl (List.map (fun (i : Nat) => List.take ti63.sz (List.drop (i * ti63.sz) [nrm (PV.s (Value.string (ByteArray.mk #[(117 : UInt8), (115 : UInt8), (101 : UInt8), (114 : UInt8)]))), nrm (PV.s (Value.string (ByteArray.mk #[(97 : UInt8)]))), nrm (PV.s (Value.slice none 0 0))])) (List.range 1))]) (.cons h3 .nil)))))))))))))))))) (by kernel_rfl)
def unfG (k : ByteArray) (w : Exp) : Seg := ⟨k, kUser, [], [], w⟩
theorem law7 (cl wl : List Int) (hc : ∀ b ∈ cl, 0 ≤ b ∧ b ≤ 255) (hw : ∀ b ∈ wl, 0 ≤ b ∧ b ≤ 255) : EvCall cx 7 [sl (u8s cl), sl (u8s wl)] [] (bool true) [] := by
  have ha := awake8
  obtain ⟨c, hn, hcm, hcl⟩ := new9 cl 150
  obtain ⟨d, hn2, hdm, hdl⟩ := new9 wl 60
  have hC : Codes c := ⟨fun b hb => hc b (hcm b hb), by omega⟩
  have hD : Codes d := ⟨fun b hb => hw b (hdm b hb), by omega⟩
  obtain ⟨s, p1, hs, hsd, hsl, _⟩ := subject18 hD 0
  obtain ⟨b, p2, hb, hbd, hbn, _⟩ := expr11 hC [] (by simp) 0
  obtain ⟨e, p3, he, hed, hen, _⟩ := expr11 hC [kAlpha] (by simp) p2
  have hu := unfold26 b e hed.okd.ok
  have hT := testF_of s hsd hsl
  have hso : SubjOk s := ⟨by omega, fun c hc => (hsd c hc).ok⟩
  have h1 := contains21 s hso (testF s) hT (unfSegs b e) (unf_ok hbd hed hbn hen) (unf_okd hbd hed) kBeta (unf_len (testF s) s hbd hed)
  have h2 := contains21 s hso (testF s) hT (unfSegs b e) (unf_ok hbd hed hbn hen) (unf_okd hbd hed) kGamma (unf_len (testF s) s hbd hed)
  rw [unf_law (testF s) s hbd hed] at h1
  generalize inL (membersS (testF s) s (unfSegs b e)) kGamma = x at h1 h2
  have hsr : (unfSegs b e).map Seg.row = [(unfG kAlpha b).row, (unfG kBeta e).row, (unfG kGamma (unfoldE b e)).row] := rfl
  rw [hsr] at h1 h2
  cases x with
  | true => exact EvCall.run Tryz.f7 Tryz.func7 Tryz.call7 [.val, .call (Ev.bool true) ([]), .same, .same, .val, .call (AV.ref (0, 0) 0) ([cod c (0 : Int)]), .val, .call (AV.ref (0, 0) 0) ([cod d (0 : Int)]), .val, .call (AV.agg [sl (List.map Ctx.row s)]) ([cod d (↑p1 : Int)]), .val, .call (ag b.row) ([cod c (↑p2 : Int)]), .val, .row [.sl (List.map (fun (i : Nat) => List.take ti9.sz (List.drop (i * ti9.sz) [nrm (PV.s (Value.string (ByteArray.mk #[(97 : UInt8), (108 : UInt8), (112 : UInt8), (104 : UInt8), (97 : UInt8)])))])) (List.range 1))], .call (ag e.row) ([cod c (↑p3 : Int)]), .val, .call (ag (unfoldE b e).row) ([]), .val, .row [.sl ([(unfG kAlpha b).row, (unfG kBeta e).row, (unfG kGamma (unfoldE b e)).row])], .call (Ev.bool true) ([]), .val, .row [.sl ([(unfG kAlpha b).row, (unfG kBeta e).row, (unfG kGamma (unfoldE b e)).row])], .call (Ev.bool true) ([]), .val] (.cons ha (.cons hn (.cons hn2 (.cons hs (.cons hb (.cons (⟨rfl, (by omega)⟩ : 1 = 1 ∧ 1 ≤ 1) (.cons (by simp : some [PV.sl (List.take 1 (List.drop 0 (List.map (fun (i : Nat) => List.take ti9.sz (List.drop (i * ti9.sz) [nrm (PV.s (Value.string (ByteArray.mk #[(97 : UInt8), (108 : UInt8), (112 : UInt8), (104 : UInt8), (97 : UInt8)])))])) (List.range 1))))] = some [PV.sl (List.map (fun (i : Nat) => List.take ti9.sz (List.drop (i * ti9.sz) [nrm (PV.s (Value.string (ByteArray.mk #[(97 : UInt8), (108 : UInt8), (112 : UInt8), (104 : UInt8), (97 : UInt8)])))])) (List.range 1))]) (.cons he (.cons hu (.cons (⟨rfl, (by omega)⟩ : 3 = 3 ∧ 3 ≤ 3) (.cons (congrArg (fun z => some [PV.sl z]) hsr) (.cons h1 (.cons (⟨rfl, (by omega)⟩ : 3 = 3 ∧ 3 ≤ 3) (.cons (congrArg (fun z => some [PV.sl z]) hsr) (.cons h2 .nil))))))))))))))) (by kernel_rfl)
  | false => exact EvCall.run Tryz.f7 Tryz.func7 Tryz.call7 [.val, .call (Ev.bool true) ([]), .same, .same, .val, .call (AV.ref (0, 0) 0) ([cod c (0 : Int)]), .val, .call (AV.ref (0, 0) 0) ([cod d (0 : Int)]), .val, .call (AV.agg [sl (List.map Ctx.row s)]) ([cod d (↑p1 : Int)]), .val, .call (ag b.row) ([cod c (↑p2 : Int)]), .val, .row [.sl (List.map (fun (i : Nat) => List.take ti9.sz (List.drop (i * ti9.sz) [nrm (PV.s (Value.string (ByteArray.mk #[(97 : UInt8), (108 : UInt8), (112 : UInt8), (104 : UInt8), (97 : UInt8)])))])) (List.range 1))], .call (ag e.row) ([cod c (↑p3 : Int)]), .val, .call (ag (unfoldE b e).row) ([]), .val, .row [.sl ([(unfG kAlpha b).row, (unfG kBeta e).row, (unfG kGamma (unfoldE b e)).row])], .call (Ev.bool false) ([]), .val, .row [.sl ([(unfG kAlpha b).row, (unfG kBeta e).row, (unfG kGamma (unfoldE b e)).row])], .call (Ev.bool false) ([]), .val] (.cons ha (.cons hn (.cons hn2 (.cons hs (.cons hb (.cons (⟨rfl, (by omega)⟩ : 1 = 1 ∧ 1 ≤ 1) (.cons (by simp : some [PV.sl (List.take 1 (List.drop 0 (List.map (fun (i : Nat) => List.take ti9.sz (List.drop (i * ti9.sz) [nrm (PV.s (Value.string (ByteArray.mk #[(97 : UInt8), (108 : UInt8), (112 : UInt8), (104 : UInt8), (97 : UInt8)])))])) (List.range 1))))] = some [PV.sl (List.map (fun (i : Nat) => List.take ti9.sz (List.drop (i * ti9.sz) [nrm (PV.s (Value.string (ByteArray.mk #[(97 : UInt8), (108 : UInt8), (112 : UInt8), (104 : UInt8), (97 : UInt8)])))])) (List.range 1))]) (.cons he (.cons hu (.cons (⟨rfl, (by omega)⟩ : 3 = 3 ∧ 3 ≤ 3) (.cons (congrArg (fun z => some [PV.sl z]) hsr) (.cons h1 (.cons (⟨rfl, (by omega)⟩ : 3 = 3 ∧ 3 ≤ 3) (.cons (congrArg (fun z => some [PV.sl z]) hsr) (.cons h2 .nil))))))))))))))) (by kernel_rfl)
end Go.Proofs.YtbdnigendhhndaaGreatDoor
end
