/- A part of the proofs of this seat's laws (abstract interpretation of the translated program, and contracts of its functions); no statement of its own. -/
import Derived.RangeFuncBox
import Derived.RangeFuncLeaves
import Derived.Shelf.Abstract
import Derived.WalkKit
import Derived.OwnWalkIn
import Derived.TacticsInMore
import Derived.LoopNIn
import Derived.LoopIn
import Derived.RangeFuncGives
import Derived.RangeFuncBound
import Derived.RegionIn
import Derived.Laws.Bits
import Derived.Sort.KeysCollected
import Derived.Maps.AppendAt
import Derived.Maps.RangeWalk
import Derived.Below
import Derived.Test.YtbdnigendhhndaaGreatDoorProg
import Derived.Test.YtbdnigendhhndaaGreatDoorFb
import Derived.Test.YtbdnigendhhndaaGreatDoorFc
import Derived.Shelf.Strings.Search3
import Derived.Shelf.Strings.Split
import Derived.Shelf.Strconv.Atoi
import Derived.Shelf.Sort.Plain
import Derived.Sort.OwnSorted
import Derived.Test.YtbdnigendhhndaaGreatDoorTa
import Derived.Test.YtbdnigendhhndaaGreatDoorRows
set_option linter.unusedVariables false
set_option linter.unusedSimpArgs false
section
/- slices.AppendSeq(nil, slices.Values(l)) at the machine: turned from a worked proof. -/
namespace Go.Proofs.YtbdnigendhhndaaGreatDoor
open Go.RowKit Go.Maps Go.Shelf Go.Proofs
attribute [local go_sem] Oper.semAt_some
abbrev Sq.enc (x : List UInt8) : Value := .string ⟨x.toArray⟩
def Sq.apAssign : Code := (Code.region 2 #[{ dst := some 5, op := Op.assign (Operand.tmp 7), type := 9, pos := "iter.go:51", after := #[], guard := none }] false)
def Sq.apBody : Code := (Code.block 1 (Code.region 3 #[{ dst := some 8, op := Op.load 30 (Operand.tmp 2), type := 30, pos := "iter.go:52", after := #[], guard := none }, { dst := some 9, op := Op.move (Operand.tmp 5), type := 9, pos := "iter.go:52", after := #[], guard := none }, { dst := some 10, op := Op.buildSlice 30 1 #[(0, Operand.tmp 9)], type := 30, pos := "iter.go:52", after := #[{ on := 1, ground := Ground.data }], guard := none }, { dst := some 11, op := Op.call { callee := Callee.builtin Builtin.append, args := #[Operand.tmp 8, Operand.tmp 10], argTypes := #[30, 30] }, type := 30, pos := "iter.go:52", after := #[{ on := 0, ground := Ground.data }, { on := 2, ground := Ground.data }], guard := none }, { dst := none, op := Op.store 30 (Operand.tmp 2) (Operand.tmp 11), type := 0, pos := "iter.go:52", after := #[{ on := 3, ground := Ground.data }, { on := 3, ground := Ground.chain }, { on := 0, ground := Ground.phase }, { on := 1, ground := Ground.phase }, { on := 2, ground := Ground.phase }, { on := 3, ground := Ground.phase }], guard := none }] false))
/-- The loop's record: AppendSeq's temporaries as they stood at the entering: 's' boxed in block Bs; sv: the iterator's value. -/
def Sq.apRec (fn : FuncId) (sv : Value) (Bs D : Nat) (st : LoopState) (pend : Option Code) : Loop :=
  { state := st, pending := pend, fn, tmps := #[.slice none 0 0, sv, .pointer (some ⟨Bs, 0, none⟩), undef, .slice none 0 0, undef, sv, undef, undef, undef, undef, undef, undef], params := #[7], assign := Sq.apAssign, body := Sq.apBody, defers := D }

/-- BETWEEN TWO ROUNDS: the box holds a slice that owns, in a block of the call's own, what has come so far; IT IS nil JUST AS LONG AS NOTHING HAS COME; nothing that lay before the call has turned. -/
structure Sq.ApAt (w0 : World) (fn : FuncId) (sv : Value) (Bs l D : Nat) (ss : List (List UInt8)) (W : World) : Prop where
  box : ∃ v, W.heap[Bs]? = some (.cells #[v] 30 (0, 0)) ∧ W.ownsRow w0.heap.size 9 1 v ss.length (ss.map Sq.enc) ∧ (v = .slice none 0 0 ↔ ss = [])
  L : W.heap[l]? = some (.loop (Sq.apRec fn sv Bs D .ready none))
  K : W.heap[D]? = some (.deferred (some []))
  below : Below w0.heap.size w0 W

/-- A slice's own row is no walk's object: it abides an iterator's step. -/
theorem ownsRow_abides {W W' : World} {row : Option Nat} {base : Nat} {e : TypeId} {size : Nat} {v : Value} {k : Nat} {xs : List Value} (h : W.ownsRow base e size v k xs) (hg : W.grownBy W' row)
    (hrow : ∀ r, row = some r → ∃ o : Obj, W.heap[r]? = some o ∧ o.isWalk = true) : W'.ownsRow base e size v k xs := by
  refine h.kept hg ?_
  rcases h.2 with ⟨rfl, _⟩ | ⟨g, cap, cur, rfl, _, hgb, _⟩
  · exact .inl rfl
  · refine .inr fun e' => ?_
    obtain ⟨o, ho, hw⟩ := hrow g (by simpa [Value.ownBlock] using e'.symm)
    rw [hgb] at ho; cases ho; cases hw

theorem Sq.ap_abides (w0 : World) (fn : FuncId) (sv : Value) (Bs l D B : Nat) (hB : w0.heap.size ≤ B) : AbidesFrom B (Sq.ApAt w0 fn sv Bs l D) := fun s W W' row h hg hrow => by
  have hrow' : ∀ r, row = some r → ∃ o : Obj, W.heap[r]? = some o ∧ o.isWalk = true := fun r e => (hrow r e).2
  obtain ⟨v, hv, hr, hn⟩ := h.box
  exact ⟨⟨v, (grownBy_keeps hg hrow' hv rfl).trans hv, ownsRow_abides hr hg hrow', hn⟩, (grownBy_keeps hg hrow' h.L rfl).trans h.L, (grownBy_keeps hg hrow' h.K rfl).trans h.K,
    h.below.grown hg h.below.size (fun k e => Nat.le_trans hB (hrow k e).1)⟩

theorem grownBy_putObj (W : World) (l : Nat) (o : Obj) : W.grownBy (W.putObj l o) (some l) :=
  ⟨rfl, rfl, rfl, by simp, fun k _ hk => World.putObj_heap_other (fun e => hk (by rw [e]))⟩
theorem grownBy_setCell0 (W : World) (b : Nat) (v : Value) : W.grownBy (W.setCell ⟨b, 0, none⟩ v) (some b) :=
  ⟨rfl, rfl, rfl, (KeepsWalks.setCell W _ v).size, fun k _ hk => Below.heap_setCell _ _ _ k (fun e => hk (by rw [e]))⟩
/-- A slice's own row is not a block that holds something else than cells of its element's type. -/
theorem ownsRow_ne {W : World} {base : Nat} {e : TypeId} {size : Nat} {v : Value} {k : Nat} {xs : List Value} (h : W.ownsRow base e size v k xs) {j : Nat} {o : Obj} (hj : W.heap[j]? = some o) (hno : ∀ cur, o ≠ .cells cur e (0, 0)) :
    v.ownBlock = none ∨ v.ownBlock ≠ some j := by
  rcases h.2 with ⟨rfl, _⟩ | ⟨g, cap, cur, rfl, _, hgb, _⟩
  · exact .inl rfl
  · refine .inr fun e' => ?_
    have : g = j := by simpa [Value.ownBlock] using e'
    subst this; rw [hgb] at hj; cases hj; exact hno cur rfl
theorem cell_of_box {W : World} {B : Nat} {v : Value} {t : TypeId} (h : W.heap[B]? = some (.cells #[v] t (0, 0))) : W.cell? ⟨B, 0, none⟩ = some v ∧ W.frozen? ⟨B, 0, none⟩ = false := by
  constructor <;> simp [World.cell?, World.frozen?, h]

theorem heap_setCell_box {W : World} {B : Nat} {v : Value} {t : TypeId} (v' : Value) (h : W.heap[B]? = some (.cells #[v] t (0, 0))) : (W.setCell ⟨B, 0, none⟩ v').heap[B]? = some (.cells #[v'] t (0, 0)) := by
  obtain ⟨hlt, hk⟩ := Array.getElem?_eq_some_iff.1 h
  show (W.heap.modify B _)[B]? = _
  rw [Array.getElem?_eq_getElem (by rw [Array.size_modify]; exact hlt), Array.getElem_modify_self, hk]
  rfl
theorem ownsRow_not_walk {W : World} {base : Nat} {e : TypeId} {size : Nat} {v : Value} {k : Nat} {xs : List Value} (h : W.ownsRow base e size v k xs) : ∀ (j : Nat) (o : Obj), v.ownBlock = some j → W.heap[j]? = some o → o.isWalk = false := by
  intro j o hj ho
  rcases h.2 with ⟨rfl, _⟩ | ⟨g, cap, cur, rfl, _, hgb, _⟩
  · simp [Value.ownBlock] at hj
  · have : g = j := by simpa [Value.ownBlock] using hj
    subst this; rw [hgb] at ho; cases ho; rfl

theorem Sq.info9 : (Tryz.prog.info? 9).map (fun i => (i.zero, i.size, i.bytes)) = some (some (.string ⟨#[]⟩), 1, 16) := by kernel_rfl

set_option maxRecDepth 100000 in
set_option maxHeartbeats 2000000 in
theorem Sq.apYield (F : Fence) (m : Nat) (w0 : World) (fn : FuncId) (hfn : F.fn fn) (sv : Value) (Bs l D : Nat) (hBl : Bs ≠ l) (hDl : D ≠ l) (hDB : D ≠ Bs) (h0B : w0.heap.size ≤ Bs) (h0l : w0.heap.size ≤ l)
    (N : Nat) (hN : N ≤ maxLen) (hNb : N * 16 ≤ 140737488355328) (ss : List (List UInt8)) (x : List UInt8) (W : World) (h : Sq.ApAt w0 fn sv Bs l D ss W) (hlen : ss.length < N) :
    YieldAt F m Tryz.prog l #[Sq.enc x] W fun e W' => e = .returned (.bool true) ∧ Sq.ApAt w0 fn sv Bs l D (ss ++ [x]) W' ∧ KeepsWalks W W' := by
  obtain ⟨i0, hi, hz0, hz1, hz2⟩ := info_parts Sq.info9
  obtain ⟨v, hv, hrow, _⟩ := h.box
  refine ⟨fn, #[.slice none 0 0, sv, .pointer (some ⟨Bs, 0, none⟩), undef, .slice none 0 0, undef, sv, Sq.enc x, undef, undef, undef, undef, undef], Sq.apAssign, Sq.apBody, by simpa [Sq.apRec] using run_yield (P := Tryz.prog) (args := #[Sq.enc x]) h.L rfl, roundIn_of_wpIn hfn ?_⟩
  have hl : l < W.heap.size := (Array.getElem?_eq_some_iff.1 h.L).1
  have hbr := run_beginRound (P := Tryz.prog) h.L rfl
  obtain ⟨W2, hW2⟩ : ∃ W2, W.putObj l (.loop { Sq.apRec fn sv Bs D .ready none with state := .busy }) = W2 := ⟨_, rfl⟩
  rw [hW2] at hbr
  have hg2 : W.grownBy W2 (some l) := by rw [← hW2]; exact grownBy_putObj _ _ _
  have hk2 : KeepsWalks W W2 := by rw [← hW2]; exact KeepsWalks.putObj _ h.L rfl
  have hv2 : W2.heap[Bs]? = some (.cells #[v] 30 (0, 0)) := by rw [← hW2]; exact (World.putObj_heap_other hBl).trans hv
  have hK2 : W2.heap[D]? = some (.deferred (some [])) := by rw [← hW2]; exact (World.putObj_heap_other hDl).trans h.K
  have hL2 : W2.heap[l]? = some (.loop { Sq.apRec fn sv Bs D .ready none with state := .busy }) := by rw [← hW2]; exact World.putObj_heap_same hl
  have hrow2 : W2.ownsRow w0.heap.size 9 1 v ss.length (ss.map Sq.enc) := hrow.kept hg2 (ownsRow_ne hrow h.L (fun cur e => by cases e))
  have hb2 : Below w0.heap.size w0 W2 := h.below.grown hg2 h.below.size (fun k e => by cases e; exact h0l)
  obtain ⟨hc2, hf2⟩ := cell_of_box hv2
  have hBlt : Bs < W2.heap.size := (Array.getElem?_eq_some_iff.1 hv2).1
  have hl2 : l < W2.heap.size := (Array.getElem?_eq_some_iff.1 hL2).1
  have hDlt : D < W2.heap.size := (Array.getElem?_eq_some_iff.1 hK2).1
  have ne_of : ∀ {j : Nat} {o : Obj}, W2.heap[j]? = some o → (∀ cur, o ≠ .cells cur 9 (0, 0)) → some j ≠ v.ownBlock := fun hj hno => by
    rcases ownsRow_ne hrow2 hj hno with e | e
    · rw [e]; simp
    · exact fun e' => e e'.symm
  clear hW2
  unfold Sq.apAssign
  gi_wp2_with (rw [Oper.semAt_eq _ _ _ (fun c h => by cases h)]; go_simp; try go_bits)
  unfold Sq.apBody
  gi_wp2_with (first
    | (gi_at_builtin; refine wpListIn_append_own _ rfl _ _ 30 rfl w0.heap.size 9 i0 (.string ⟨#[]⟩) 1 16 Tryz.underlying30 hi hz0 hz1 hz2 rfl (by decide) _ _ _ rfl (hrow2.alloc _) ⟨W2.heap.size, 0, none⟩ 1 1 [Sq.enc x] rfl rfl (cell_one_new _ _ _) (by simp [Value.oneCell', Sq.enc]) (by omega) (by omega) (by have := hb2.size; simp; omega) ?_; intro v' w3 hown' hg3 hnil3
       have hv3 : w3.heap[Bs]? = some (.cells #[v] 30 (0, 0)) := (hg3.block Bs (by simp; omega) (ne_of hv2 (fun cur e => by cases e))).trans ((Below.heap_alloc _ _ Bs hBlt).trans hv2)
       obtain ⟨hc3, hf3⟩ := cell_of_box hv3
       obtain ⟨g', cap', cur', rfl, hbase', hgb', hr1, hr2, hr3, hr4⟩ : ∃ g' cap' cur', v' = .slice (some ⟨g', 0, none⟩) (ss.length + 1) cap' ∧ w0.heap.size ≤ g' ∧ w3.heap[g']? = some (.cells cur' 9 (0, 0)) ∧ ss.length + 1 ≤ cap' ∧ cap' ≤ maxLen ∧ cur'.size = cap' * 1 ∧ cur'.toList.take ((ss.length + 1) * 1) = ss.map Sq.enc ++ [Sq.enc x] := by
         rcases hown'.2 with ⟨_, h0⟩ | h'
         · exact absurd h0 (by omega)
         · exact h'
       go_frame)
    | (rw [Oper.semAt_eq _ _ _ (fun c h => by cases h)]; go_simp; try go_bits))
  have hg3' : (W2.alloc (.cells #[Sq.enc x] 9)).grownBy w3 v.ownBlock := hg3
  have hL3 : w3.heap[l]? = some (.loop { Sq.apRec fn sv Bs D .ready none with state := .busy }) := (hg3'.block l (by simp; omega) (ne_of hL2 (fun cur e => by cases e))).trans ((Below.heap_alloc _ _ l hl2).trans hL2)
  have hK3 : w3.heap[D]? = some (.deferred (some [])) := (hg3'.block D (by simp; omega) (ne_of hK2 (fun cur e => by cases e))).trans ((Below.heap_alloc _ _ D hDlt).trans hK2)
  obtain ⟨w4, hw4⟩ : ∃ w4, w3.setCell ⟨Bs, 0, none⟩ (.slice (some ⟨g', 0, none⟩) (ss.length + 1) cap') = w4 := ⟨_, rfl⟩
  rw [hw4]
  have hg4 : w3.grownBy w4 (some Bs) := by rw [← hw4]; exact grownBy_setCell0 _ _ _
  have hv4 : w4.heap[Bs]? = some (.cells #[.slice (some ⟨g', 0, none⟩) (ss.length + 1) cap'] 30 (0, 0)) := by rw [← hw4]; exact heap_setCell_box _ hv3
  have hL4 : w4.heap[l]? = some (.loop { Sq.apRec fn sv Bs D .ready none with state := .busy }) := (hg4.block l (Array.getElem?_eq_some_iff.1 hL3).1 (fun e => hBl (by cases e; rfl))).trans hL3
  have hK4 : w4.heap[D]? = some (.deferred (some [])) := (hg4.block D (Array.getElem?_eq_some_iff.1 hK3).1 (fun e => hDB (by cases e; rfl))).trans hK3
  have hrow4 := hown'.kept hg4 (ownsRow_ne hown' hv3 (fun cur e => by cases e))
  have hl4 : l < w4.heap.size := (Array.getElem?_eq_some_iff.1 hL4).1
  have hb3 : Below w0.heap.size w0 w3 := (hb2.alloc hb2.size _).grown hg3' (by have := hb2.size; simp; omega) (fun k e => (hrow2.lt k e).1)
  have hb4 : Below w0.heap.size w0 w4 := hb3.grown hg4 hb3.size (fun k e => by cases e; exact h0B)
  have hk4 : KeepsWalks W w4 := ((hk2.trans (KeepsWalks.alloc _ _)).trans (KeepsWalks.of_grownBy hg3' (ownsRow_not_walk (hrow2.alloc _)))).trans (by rw [← hw4]; exact KeepsWalks.setCell _ _ _)
  clear hw4
  refine ⟨_, _, run_endRound none hL4, rfl, ⟨⟨_, (World.putObj_heap_other hBl).trans hv4, ?_, by simp⟩, World.putObj_heap_same hl4, (World.putObj_heap_other hDl).trans hK4, hb4.grown (grownBy_putObj _ _ _) hb4.size (fun k e => by cases e; exact h0l)⟩, hk4.trans (KeepsWalks.putObj _ hL4 rfl)⟩
  have := hrow4.kept (grownBy_putObj w4 l (.loop { { Sq.apRec fn sv Bs D .ready none with state := .busy } with state := if (none : Option Code).isNone then .ready else .done, pending := none })) (ownsRow_ne hrow4 hL4 (fun cur e => by cases e))
  simpa using this



/-- What has come when k rounds are over. -/
def Sq.upto {α : Type} (f : Nat → α) (k : Nat) : List α := (List.range k).map f
theorem Sq.upto_succ {α : Type} (f : Nat → α) (k : Nat) : Sq.upto f (k + 1) = Sq.upto f k ++ [f k] := by simp [Sq.upto, List.range_succ]
theorem Sq.upto_length {α : Type} (f : Nat → α) (k : Nat) : (Sq.upto f k).length = k := by simp [Sq.upto]
theorem Sq.upto_all (zs : List (List UInt8)) : Sq.upto (fun j => zs[j]?.getD []) zs.length = zs := by
  apply List.ext_getElem
  · simp [Sq.upto]
  · intro i h1 h2
    simp [Sq.upto, h2]

set_option maxRecDepth 100000 in
set_option maxHeartbeats 2000000 in
theorem Sq.values1_in (F : Fence) (n : Nat) (h7 : F.fn 104) (hro : F.round = none) (hn : 1 ≤ n) (l Bs n₀ b off len cap : Nat) (zs : List (List UInt8)) (hreach : len * 16 ≤ 140737488351232) (hb : b < n₀) (w0 : World) (J : List (List UInt8) → World → Prop)
    (hJb : ∀ s W, J s W → Below n₀ w0 W)
    (hY : ∀ pre x W, J pre W → pre.length < len → YieldAt F (n - 1) Tryz.prog l #[Sq.enc x] W fun e W' => e = .returned (.bool true) ∧ J (pre ++ [x]) W')
    (W : World) (hBs : W.cell? ⟨Bs, 0, none⟩ = some (.slice (some ⟨b, off, none⟩) len cap)) (hc : ∀ j, j < len → w0.cell? ⟨b, off + j, none⟩ = some (Sq.enc (zs[j]?.getD []))) (h0 : J [] W) :
    CallsIn F n Tryz.prog 104 #[.func (.yield l) #[] #[], .pointer (some ⟨Bs, 0, none⟩)] W fun e W' => (∃ v, e = .returned v) ∧ J (Sq.upto (fun j => zs[j]?.getD []) len) W' := by
  refine callsIn_of_wp Tryz.func104 rfl h7 ?_ hro
  simp only [Tryz.ntmps104, List.size_toArray, List.length_cons, List.length_nil, Nat.reduceAdd, Nat.reduceSub, Array.replicate_succ, Array.replicate_zero, List.push_toArray, List.append_toArray, List.nil_append, List.cons_append]
  gi_wp2
  gi_loopw [7] (fun i wr => ∃ k : Nat, k ≤ len ∧ i = .int .i64 k ∧ J (Sq.upto (fun j => zs[j]?.getD []) k) wr)
    (fun i _ => len - (intOf i).toNat)
  case atStart => exact ⟨0, Nat.zero_le _, rfl, h0⟩
  case round =>
    obtain ⟨k, hk, rfl, hJs⟩ := hrel
    have hcx : k < len → wr.cell? ⟨b, off + k, none⟩ = some (Sq.enc (zs[k]?.getD [])) := fun h => ((hJb _ _ hJs).cell (p := ⟨b, off + k, none⟩) hb).trans (hc k h)
    by_cases hlt : k < len
    · obtain ⟨fn, tmps, assign, body, hy, hR⟩ := hY _ (zs[k]?.getD []) wr hJs (by rw [Sq.upto_length]; exact hlt)
      have hcx' := hcx hlt
      gi_wp2
      refine hR.mono ?_
      rintro e W3 ⟨rfl, hJ3⟩
      gi_wp2
      go_roundw
      case rel => exact ⟨k + 1, by omega, by simp, by rw [Sq.upto_succ]; exact hJ3⟩
      case measure => simp [intOf]; omega
    · obtain rfl : k = len := by omega
      gi_wp2
      go_end0
      exact ⟨⟨_, rfl⟩, hJs⟩

set_option maxRecDepth 100000 in
set_option maxHeartbeats 1000000 in
theorem Sq.values1_nil_in (F : Fence) (n : Nat) (h7 : F.fn 104) (hro : F.round = none) (l Bs : Nat) (J : List (List UInt8) → World → Prop) (W : World) (oa : Option Addr) (oc : Nat) (hBs : W.cell? ⟨Bs, 0, none⟩ = some (.slice oa 0 oc)) (h0 : J [] W) :
    CallsIn F n Tryz.prog 104 #[.func (.yield l) #[] #[], .pointer (some ⟨Bs, 0, none⟩)] W fun e W' => (∃ v, e = .returned v) ∧ J [] W' := by
  refine callsIn_of_wp Tryz.func104 rfl h7 ?_ hro
  simp only [Tryz.ntmps104, List.size_toArray, List.length_cons, List.length_nil, Nat.reduceAdd, Nat.reduceSub, Array.replicate_succ, Array.replicate_zero, List.push_toArray, List.append_toArray, List.nil_append, List.cons_append]
  gi_wp2
  gi_loopw [7] (fun i wr => i = .int .i64 0 ∧ J [] wr) (fun _ _ => 0)
  case atStart => exact ⟨rfl, h0⟩
  case round =>
    obtain ⟨rfl, hJs⟩ := hrel
    gi_wp2
    go_end0
    exact ⟨⟨_, rfl⟩, hJs⟩

/-- The value holds the texts zs in a block below n₀; or it is nil and there are none. -/
def Sq.Texts (n₀ : Nat) (W : World) (sv : Value) (zs : List (List UInt8)) : Prop :=
  ((∃ oa oc, sv = .slice oa 0 oc) ∧ zs = []) ∨ ∃ b off cap, sv = .slice (some ⟨b, off, none⟩) zs.length cap ∧ b < n₀ ∧ ∀ j, j < zs.length → W.cell? ⟨b, off + j, none⟩ = some (Sq.enc (zs[j]?.getD []))

theorem Sq.values1 (F : Fence) (n : Nat) (h7 : F.fn 104) (hro : F.round = none) (hn : 1 ≤ n) (l Bs n₀ : Nat) (sv : Value) (zs : List (List UInt8)) (hreach : zs.length * 16 ≤ 140737488351232) (w0 : World) (J : List (List UInt8) → World → Prop)
    (hJb : ∀ s W, J s W → Below n₀ w0 W)
    (hY : ∀ pre x W, J pre W → pre.length < zs.length → YieldAt F (n - 1) Tryz.prog l #[Sq.enc x] W fun e W' => e = .returned (.bool true) ∧ J (pre ++ [x]) W')
    (W : World) (hBs : W.cell? ⟨Bs, 0, none⟩ = some sv) (hc : Sq.Texts n₀ w0 sv zs) (h0 : J [] W) :
    CallsIn F n Tryz.prog 104 #[.func (.yield l) #[] #[], .pointer (some ⟨Bs, 0, none⟩)] W fun e W' => (∃ v, e = .returned v) ∧ J zs W' := by
  rcases hc with ⟨⟨oa, oc, rfl⟩, rfl⟩ | ⟨b, off, cap, rfl, hb, hcs⟩
  · exact Sq.values1_nil_in F n h7 hro l Bs J W oa oc hBs h0
  · have := Sq.values1_in F n h7 hro hn l Bs n₀ b off zs.length cap zs hreach hb w0 J hJb hY W hBs hcs h0
    rwa [Sq.upto_all] at this
set_option maxRecDepth 100000 in
set_option maxHeartbeats 2000000 in
/-- slices.AppendSeq(nil, slices.Values(zs)): a new slice that holds zs; nil where zs is empty. -/
theorem Sq.appendSeq_in (F : Fence) (n : Nat) (h11 : F.fn 139) (hro : F.round = none) (hn : 2 ≤ n) (h7 : F.fn 104) (Bv : Nat) (sv : Value) (zs : List (List UInt8))
    (hN : zs.length ≤ maxLen) (hNb : zs.length * 16 ≤ 140737488351232) (w : World) (hBv : w.cell? ⟨Bv, 0, none⟩ = some sv) (hBl : Bv < w.heap.size) (hc : Sq.Texts w.heap.size w sv zs) :
    CallsIn F n Tryz.prog 139 #[.slice none 0 0, .func (.func 104) #[] #[.pointer (some ⟨Bv, 0, none⟩)]] w fun e w' => ∃ (v : Value), e = .returned v ∧ w'.ownsRow w.heap.size 9 1 v zs.length (zs.map Sq.enc) ∧ (v = .slice none 0 0 ↔ zs = []) ∧ Below w.heap.size w w' := by
  have h1 : 1 ≤ n := by omega
  refine callsIn_of_wp_marks Tryz.func139 rfl h11 ?_ hro
  simp only [Tryz.ntmps139, List.size_toArray, List.length_cons, List.length_nil, Nat.reduceAdd, Nat.reduceSub, Array.replicate_succ, Array.replicate_zero, List.push_toArray, List.append_toArray, List.nil_append, List.cons_append]
  gi_wp2
  refine wpIn_rangeFunc ?_
  intro fn hfn
  rw [hro]
  obtain ⟨W0, hW0⟩ : ∃ W0, w.alloc (.cells #[.slice none 0 0] 30) = W0 := ⟨_, rfl⟩
  have hs0 : W0.heap.size = w.heap.size + 1 := by rw [← hW0]; simp
  have hv0 : W0.heap[w.heap.size]? = some (.cells #[.slice none 0 0] 30 (0, 0)) := by rw [← hW0]; exact World.alloc_heap_new w _
  have hb0 : Below w.heap.size w W0 := by rw [← hW0]; exact (Below.refl _ w).alloc (Nat.le_refl _) _
  rw [hW0]
  obtain ⟨W1, hW1⟩ : ∃ W1, (W0.alloc (.deferred (some []))).alloc (.loop (Sq.apRec fn (.func (.func 104) #[] #[.pointer (some ⟨Bv, 0, none⟩)]) w.heap.size W0.heap.size .ready none)) = W1 := ⟨_, rfl⟩
  have hold : ∀ k, k < W0.heap.size → W1.heap[k]? = W0.heap[k]? := fun k hk => by
    rw [← hW1]; exact (Below.heap_alloc _ _ k (by simp; omega)).trans (Below.heap_alloc _ _ k hk)
  have hb1 : Below w.heap.size w W1 := by rw [← hW1]; exact (hb0.alloc hb0.size _).alloc (by have := hb0.size; simp; omega) _
  have hs1 : W1.heap.size = W0.heap.size + 2 := by rw [← hW1]; simp
  have hM : Sq.ApAt w fn (.func (.func 104) #[] #[.pointer (some ⟨Bv, 0, none⟩)]) w.heap.size (W0.heap.size + 1) W0.heap.size [] W1 :=
    ⟨⟨_, (hold w.heap.size (by omega)).trans hv0, ⟨rfl, .inl ⟨rfl, rfl⟩⟩, by simp⟩,
     by rw [← hW1]; have := World.alloc_heap_new (W0.alloc (.deferred (some []))) (.loop (Sq.apRec fn (.func (.func 104) #[] #[.pointer (some ⟨Bv, 0, none⟩)]) w.heap.size W0.heap.size .ready none)); rwa [World.size_alloc] at this,
     by rw [← hW1]; exact (Below.heap_alloc _ _ _ (by simp)).trans (World.alloc_heap_new W0 _), hb1⟩
  refine ⟨W0.heap.size + 1, [{ target := .collected W0.heap.size, args := #[] }], W1, { target := .fn (.func 104) #[.pointer (some ⟨Bv, 0, none⟩)], args := #[.func (.yield (W0.heap.size + 1)) #[] #[]] }, W1, 104,
    #[.func (.yield (W0.heap.size + 1)) #[] #[]] ++ #[.pointer (some ⟨Bv, 0, none⟩)], W1, ?_, ?_, ?_, ?_, fun _ => h1, ?_⟩
  · rw [← hW1]; exact run_enterLoop_outer _ _ _ _ _
  · simp [resolve, go_sem]
  · intro f' hf'; simp [Target.leads] at hf'; subst hf'; exact h7
  · simp [invoke, go_sem, Tryz.call104]
  · refine (Sq.values1 F (n - 1) h7 hro (by omega) (W0.heap.size + 1) Bv w.heap.size sv zs hNb w (Sq.ApAt w fn (.func (.func 104) #[] #[.pointer (some ⟨Bv, 0, none⟩)]) w.heap.size (W0.heap.size + 1) W0.heap.size) (fun s W h => h.below)
      (fun pre x W hJ hl => (Sq.apYield F (n - 1 - 1) w fn hfn _ w.heap.size (W0.heap.size + 1) W0.heap.size (by omega) (by omega) (by omega) (Nat.le_refl _) (by omega) zs.length hN (by omega) pre x W hJ hl).mono fun e W' h => ⟨h.1, h.2.1⟩) W1 ((hb1.cell (p := ⟨Bv, 0, none⟩) hBl).trans hBv) hc hM).mono ?_
    rintro e W2 ⟨⟨v0, rfl⟩, h2⟩
    obtain ⟨v, hv, hrow, hnil⟩ := h2.box
    have hend := run_endLoop (P := Tryz.prog) h2.L (by simp [Sq.apRec])
    obtain ⟨W3, hW3⟩ : ∃ W3, W2.putObj (W0.heap.size + 1) (.loop { Sq.apRec fn (.func (.func 104) #[] #[.pointer (some ⟨Bv, 0, none⟩)]) w.heap.size W0.heap.size .ready none with state := .exhausted }) = W3 := ⟨_, rfl⟩
    rw [hW3] at hend
    have hg3 : W2.grownBy W3 (some (W0.heap.size + 1)) := by rw [← hW3]; exact grownBy_putObj _ _ _
    have hv3 : W3.heap[w.heap.size]? = some (.cells #[v] 30 (0, 0)) := by rw [← hW3]; exact (World.putObj_heap_other (by omega)).trans hv
    have hK3 : W3.heap[W0.heap.size]? = some (.deferred (some [])) := by rw [← hW3]; exact (World.putObj_heap_other (by omega)).trans h2.K
    have hrow3 := hrow.kept hg3 (ownsRow_ne hrow h2.L (fun cur e => by cases e))
    have hb3 : Below w.heap.size w W3 := h2.below.grown hg3 h2.below.size (fun k e => by cases e; omega)
    obtain ⟨hc3, hf3⟩ := cell_of_box hv3
    clear hW3
    refine ⟨none, W3, hend, ?_⟩
    gi_wp2
    rw [← hs0]
    refine ⟨by simp, .inl ⟨_, _, rfl, run_takeDeferred hK3, ?_⟩⟩
    exact ⟨_, results_tmp rfl _ _ _, v, rfl, hrow3.kept (grownBy_putObj _ _ _) (ownsRow_ne hrow3 hK3 (fun cur e => by cases e)), hnil, hb3.grown (grownBy_putObj _ _ _) hb3.size (fun k e => by cases e; omega)⟩
end Go.Proofs.YtbdnigendhhndaaGreatDoor
end
section
/- What slices.AppendSeq does, as a relation that tells the truth. -/
namespace Go.Proofs.YtbdnigendhhndaaGreatDoor
open Go Go.Ev Go.RowKit
set_option maxRecDepth 100000

/-- A list as a slice of the call's own, or nil. -/
def ownV (id : Ev.Id) (rows : List (List PV)) : AV := match rows with
  | [] => .p (.s nilS)
  | _ :: t => .ms id 0 (t.length + 1) (t.length + 1)
def ownO (sz : Nat) (rows : List (List PV)) : List AO := match rows with
  | [] => []
  | r :: t => [.arr sz (r :: t) 0]

/-- slices.AppendSeq(nil, slices.Values(l)). -/
inductive SeqPrim : Rel where
  | mk (l : List ByteArray) (h : l.length * 16 ≤ 140737488351232) : SeqPrim 139 [.p (.s nilS), .fn 104 [.ref (0, 0) 0]] [.cells [.p (.sl (strs l))]] (ownV ((0, 1) : Nat × Nat) (strs l)) (.cells [.p (.sl (strs l))] :: ownO 1 (strs l))

theorem enc_str (s : ByteArray) : Sq.enc s.data.toList = .string s := by
  cases s; simp [Sq.enc]

theorem seq_texts {I : Nat → Nat → Prop} {w : World} (hdom : ∀ b o, I b o → b < w.heap.size) {l : List ByteArray} {x : Value} (h : PR I w (.sl (strs l)) x) :
    Sq.Texts w.heap.size w x (l.map fun s => s.data.toList) := by
  cases l with
  | nil =>
    cases h with
    | nil => exact .inl ⟨⟨_, _, rfl⟩, rfl⟩
    | @sl _ a c sz vs h0 hc hsz hrow hI hcell hp => exact .inl ⟨⟨_, _, rfl⟩, rfl⟩
  | cons s r =>
    cases h with
    | @sl _ a c sz vs h0 hc hsz hrow hI hcell hp =>
      have ha := h0 (by simp [strs])
      have hs1 : sz = 1 := (hrow 0 _ rfl).symm
      subst hs1
      obtain ⟨b, off, sp⟩ := a
      simp only at ha
      subst ha
      refine .inr ⟨b, off, c, by simp [strs], hdom _ _ (hI 0 0 _ _ rfl rfl), fun j hj => ?_⟩
      have hj' : j < (s :: r).length := by simpa using hj
      have hr : (strs (s :: r))[j]? = some [pS (s :: r)[j]] := by
        simp only [strs, List.getElem?_map, List.getElem?_eq_getElem hj', Option.map_some]
      have h1 := hcell j 0 _ _ hr rfl
      have h2 := hp j 0 _ _ hr rfl
      have h3 : vs j 0 = .string (s :: r)[j] := by
        generalize vs j 0 = y at h2
        cases h2
        rfl
      simp only [Nat.mul_one, Nat.add_zero] at h1
      rw [h1, h3]
      have : ((s :: r).map fun s => s.data.toList)[j]?.getD [] = ((s :: r)[j]).data.toList := by
        rw [List.getElem?_map, List.getElem?_eq_getElem hj']; rfl
      rw [this, enc_str]
theorem HS_set (H : List AO) (o : AO) (i : Nat) (h : H[i]? = some o) : (HS H).setS (0, i) o = HS H := by
  have : ∀ j, ((HS H).setS (0, i) o).gs j = (HS H).gs j := by
    intro j
    simp only [FS.setS]
    cases hj : idEq (0, i) j with
    | false => rfl
    | true =>
      have := idEq_iff.1 hj
      subst this
      simp [HS_gs, h]
  exact congrArg (FS.mk (HS H).ge) (funext this)
theorem HS_snoc (H : List AO) (o : AO) : (HS H).setS (0, H.length) o = HS (H ++ [o]) := by
  have : ∀ j, ((HS H).setS (0, H.length) o).gs j = (HS (H ++ [o])).gs j := by
    intro j
    simp only [FS.setS]
    cases hj : idEq (0, H.length) j with
    | false =>
      obtain ⟨j0, j1⟩ := j
      cases h0 : j0 == 0 with
      | false => simp [HS, h0]
      | true =>
        have h0 : j0 = 0 := by simpa using h0
        subst h0
        have : j1 ≠ H.length := fun h => by subst h; simp [idEq] at hj
        simp only [HS_gs]
        rw [List.getElem?_append]
        split
        · rfl
        · rw [List.getElem?_eq_none (by omega), List.getElem?_eq_none (by simp; omega)]; rfl
    | true =>
      have := idEq_iff.1 hj
      subst this
      simp [HS_gs]
  exact congrArg (FS.mk (HS H).ge) (funext this)

theorem seq_sound {cx : Cx} (hP : cx.P = Tryz.prog) : CallSound cx SeqPrim := by
  intro f args H r H' h
  cases h with
  | mk l hl =>
    refine ⟨fun vs w => by rw [hP]; exact Tryz.call139 vs w, fun L I w vals hp hargs => ?_⟩
    obtain ⟨vs⟩ := vals
    cases hargs with
    | cons h1 hargs =>
    cases hargs with
    | cons h2 hargs =>
    cases hargs
    rename_i y1 y2
    have e1 := h1.scal.1
    subst e1
    cases h2 with
    | @fn _ _ xs hxl hx =>
    have hxs : xs = #[.pointer (some ⟨(L (0, 0)).b, 0, none⟩)] := by
      have h0 : xs.size = 1 := hxl
      have hg : xs[0]? = some xs[0] := by simp
      have := hx 0 _ _ rfl hg
      obtain ⟨xl⟩ := xs
      match xl, h0 with
      | [z], _ =>
        simp only [List.getElem_toArray, List.getElem_cons_zero] at this
        cases this
        rfl
    subst hxs
    obtain ⟨cs, e, hb, hcl, hcv, hcI⟩ := hp.obj (0, 0) _ rfl
    have h0 : cs.size = 1 := hcl
    have hg : cs[0]? = some cs[0] := by simp
    obtain ⟨_, hv0⟩ := hcv 0 _ _ rfl hg
    have hBv : w.cell? ⟨(L (0, 0)).b, 0, none⟩ = some cs[0] := by rw [cell_of hb]; exact hg
    have hBl : (L (0, 0)).b < w.heap.size := (Array.getElem?_eq_some_iff.1 hb).1
    generalize cs[0] = sv at hv0 hBv
    have hpr : PR I w (.sl (strs l)) sv := by cases hv0; assumption
    have ht := seq_texts hp.dom hpr
    have hml : maxLen = 140737488355328 ∨ (2 : Nat) ^ 44 ≤ maxLen := by first | (left; rfl) | (right; decide)
    have hc := Sq.appendSeq_in Fence.wide 2 trivial rfl (Nat.le_refl _) trivial (L (0, 0)).b sv (l.map fun s => s.data.toList) (by rw [List.length_map]; rcases hml with h | h <;> omega) (by simpa using hl) w hBv hBl ht
    have hc' := callsIn_wide.1 hc
    rw [hP]
    refine hc'.mono ?_
    rintro e' w' ⟨v, rfl, hrow, hnil, hbel⟩
    have hfr : ∀ b, b < w.heap.size → w'.heap[b]? = w.heap[b]? := hbel.block
    have hcell : ∀ b o, I b o → w'.cell? ⟨b, o, none⟩ = w.cell? ⟨b, o, none⟩ := fun b o hb => World.cell?_of_block (a := ⟨b, o, none⟩) (hfr b (hp.dom b o hb))
    cases l with
    | nil =>
      have hv : v = .slice none 0 0 := hnil.2 rfl
      subst hv
      have hob : OR L (HS [.cells [.p (.sl (strs []))]]).sh I w (L (0, 0)) (.cells [.p (.sl (strs []))]) := hp.obj (0, 0) _ rfl
      have hupd : updL L (0, 0) (L (0, 0)) = L := by
        funext j
        by_cases hj : ((0, 0) : Nat × Nat) = j
        · subst hj; exact updL_same ..
        · exact updL_other L _ hj
      obtain ⟨s1, s2⟩ := hp.set (w' := w') (0, 0) (.cells [.p (.sl (strs []))]) (L (0, 0)) (by exact ⟨.refl _ _, .inl rfl⟩) (fun b hb => ⟨rfl, hb⟩) hbel.os hbel.tape hbel.output hbel.size (fun b hb _ => hfr b hb) hcell (by
        rw [hupd, HS_set _ _ _ rfl]
        exact hob.mono hbel.size (fun b hb => hfr b (hp.ownlt (0, 0) rfl b hb)) hcell fun id s h => ⟨s, h, .refl _ _⟩)
      rw [hupd, HS_set _ _ _ rfl] at s1 s2
      exact ⟨_, L, I, rfl, s1, .p (.s rfl), s2⟩
    | cons s0 r0 =>
      rcases hrow.2 with ⟨hv, _⟩ | ⟨g, cap, cur, hv, hbase, hgb, hcap1, hcap2, hcsz, htake⟩
      · have := hnil.1 hv; simp at this
      · subst hv
        have hrows : ∀ (i : Nat) (row : List PV), (strs (s0 :: r0))[i]? = some row → row.length = 1 := by
          intro i row hi
          simp only [strs, List.getElem?_map, Option.map_eq_some_iff] at hi
          obtain ⟨x, _, rfl⟩ := hi
          rfl
        have hlen : (strs (s0 :: r0)).length = (s0 :: r0).length := by simp [strs]
        have hcl' : ((s0 :: r0).map fun s => s.data.toList).length = (s0 :: r0).length := by simp
        rw [hcl'] at hcap1 htake
        have hor : OR (updL L (0, 1) (mkLoc g cap)) ((HS [.cells [.p (.sl (strs (s0 :: r0)))]]).setS (0, 1) (.arr 1 (strs (s0 :: r0)) 0)).sh I w' (mkLoc g cap) (.arr 1 (strs (s0 :: r0)) 0) := by
          refine ⟨Nat.one_pos, hrows, Nat.zero_le _, cur, _, hgb, by simpa using hcsz, by rw [hlen]; simpa using hcap1, fun i j row d hi hj => ?_, fun o ho => absurd (hp.dom _ _ ho) (by simp only; omega)⟩
          simp only [strs, List.getElem?_map, Option.map_eq_some_iff] at hi
          obtain ⟨x, hx, rfl⟩ := hi
          match j, hj with
          | 0, hj =>
            simp only [List.getElem?_cons_zero, Option.some.injEq] at hj
            subst hj
            have hil : i < (s0 :: r0).length := (List.getElem?_eq_some_iff.1 hx).1
            refine ⟨.string x, ?_, .s rfl⟩
            have h1 : (cur.toList.take ((s0 :: r0).length * 1))[i]? = some (.string x) := by
              rw [htake]
              simp only [List.getElem?_map, hx, Option.map_some, enc_str]
            rw [List.getElem?_take, if_pos (by omega)] at h1
            simpa using h1
          | j + 1, hj => simp at hj
        obtain ⟨s1, s2⟩ := hp.set (w' := w') (0, 1) (.arr 1 (strs (s0 :: r0)) 0) (mkLoc g cap) (by exact hbase) (fun b hb => hb.elim) hbel.os hbel.tape hbel.output hbel.size (fun b hb _ => hfr b hb) hcell hor
        have hset := HS_snoc [.cells [.p (.sl (strs (s0 :: r0)))]] (.arr 1 (strs (s0 :: r0)) 0)
        simp only [List.length_singleton] at hset
        rw [hset] at s1 s2
        refine ⟨_, _, I, rfl, s1, ?_, s2⟩
        show VR _ _ I w' (.ms (0, 1) 0 ((strs r0).length + 1) ((strs r0).length + 1)) _
        have hl2 : ((s0 :: r0).map fun s => s.data.toList).length = (strs r0).length + 1 := by simp [strs]
        rw [hl2]
        refine .ms 1 ((strs r0).length + 1) rfl (Nat.le_refl _) fun _ => ⟨by omega, by rw [← hl2, hcl']; exact hcap1, rfl, fun _ => ?_, ?_, by rw [← hl2, hcl']; omega⟩
        · rw [updL_same]
        · rw [updL_same]; simp
end Go.Proofs.YtbdnigendhhndaaGreatDoor
end
section
/- What the kit's shelf lays at this seat, as plain text (written by laylog.py out of what the kit's command prints). -/
namespace Go.Proofs
open Go.Shelf
set_option maxRecDepth 100000
def Tryz.l144_ren : Go.Shelf.Ren := ⟨fun | 144 => 172 | 143 => 194 | 219 => 217 | 217 => 225 | 225 => 226 | 224 => 227 | 267 => 228 | 266 => 233 | 314 => 234 | n => n, fun | 9 => 9 | 4 => 4 | 3 => 3 | 5 => 5 | 46 => 121 | 146 => 291 | 51 => 185 | n => n, fun | 1 => 5 | n => n⟩
theorem Tryz.l144 : Go.Proofs.Lays.n144 Tryz.prog Tryz.l144_ren := {
  mixed := by kernel_rfl,
  f143 := Tryz.func194.trans (congrArg some (by kernel_rfl)),
  f144 := Tryz.func172.trans (congrArg some (by kernel_rfl)),
  f217 := Tryz.func225.trans (congrArg some (by kernel_rfl)),
  f219 := Tryz.func217.trans (congrArg some (by kernel_rfl)),
  f224 := Tryz.func227.trans (congrArg some (by kernel_rfl)),
  f225 := Tryz.func226.trans (congrArg some (by kernel_rfl)),
  f266 := Tryz.func233.trans (congrArg some (by kernel_rfl)),
  f267 := Tryz.func228.trans (congrArg some (by kernel_rfl)),
  f314 := Tryz.func234.trans (congrArg some (by kernel_rfl)),
  t3 := Tryz.underlying3,
  a3 := Tryz.isAgg3,
  z3 := Tryz.sizeOf3,
  v3 := Tryz.zeroValue3,
  t4 := Tryz.underlying4,
  a4 := Tryz.isAgg4,
  z4 := Tryz.sizeOf4,
  v4 := Tryz.zeroValue4,
  t5 := Tryz.underlying5,
  a5 := Tryz.isAgg5,
  z5 := Tryz.sizeOf5,
  v5 := Tryz.zeroValue5,
  t9 := Tryz.underlying9,
  a9 := Tryz.isAgg9,
  z9 := Tryz.sizeOf9,
  v9 := Tryz.zeroValue9,
  t46 := Tryz.underlying121,
  a46 := Tryz.isAgg121,
  z46 := Tryz.sizeOf121,
  v46 := Tryz.zeroValue121,
  t51 := Tryz.underlying185,
  a51 := Tryz.isAgg185,
  z51 := Tryz.sizeOf185,
  v51 := Tryz.zeroValue185,
  t146 := Tryz.underlying291,
  a146 := Tryz.isAgg291,
  z146 := Tryz.sizeOf291,
  v146 := Tryz.zeroValue291,
  g1 := by kernel_rfl }
def Tryz.l146_ren : Go.Shelf.Ren := ⟨fun | 146 => 221 | 221 => 229 | 268 => 235 | 138 => 236 | 143 => 194 | 195 => 241 | 197 => 242 | 218 => 243 | 219 => 217 | 260 => 249 | 217 => 225 | 225 => 226 | 224 => 227 | 267 => 228 | 266 => 233 | 314 => 234 | n => n, fun | 9 => 9 | 31 => 30 | 3 => 3 | 4 => 4 | 0 => 0 | 105 => 296 | 21 => 21 | 5 => 5 | 46 => 121 | 119 => 279 | 139 => 282 | 138 => 281 | 146 => 291 | 51 => 185 | n => n, fun | 1 => 5 | 3 => 3 | 4 => 4 | n => n⟩
theorem Tryz.l146 : Go.Proofs.Lays.n146 Tryz.prog Tryz.l146_ren := {
  mixed := by kernel_rfl,
  f138 := Tryz.func236.trans (congrArg some (by kernel_rfl)),
  f143 := Tryz.func194.trans (congrArg some (by kernel_rfl)),
  f146 := Tryz.func221.trans (congrArg some (by kernel_rfl)),
  f195 := Tryz.func241.trans (congrArg some (by kernel_rfl)),
  f197 := Tryz.func242.trans (congrArg some (by kernel_rfl)),
  f217 := Tryz.func225.trans (congrArg some (by kernel_rfl)),
  f218 := Tryz.func243.trans (congrArg some (by kernel_rfl)),
  f219 := Tryz.func217.trans (congrArg some (by kernel_rfl)),
  f221 := Tryz.func229.trans (congrArg some (by kernel_rfl)),
  f224 := Tryz.func227.trans (congrArg some (by kernel_rfl)),
  f225 := Tryz.func226.trans (congrArg some (by kernel_rfl)),
  f260 := Tryz.func249.trans (congrArg some (by kernel_rfl)),
  f266 := Tryz.func233.trans (congrArg some (by kernel_rfl)),
  f267 := Tryz.func228.trans (congrArg some (by kernel_rfl)),
  f268 := Tryz.func235.trans (congrArg some (by kernel_rfl)),
  f314 := Tryz.func234.trans (congrArg some (by kernel_rfl)),
  t0 := Tryz.underlying0,
  a0 := Tryz.isAgg0,
  z0 := Tryz.sizeOf0,
  v0 := Tryz.zeroValue0,
  t3 := Tryz.underlying3,
  a3 := Tryz.isAgg3,
  z3 := Tryz.sizeOf3,
  v3 := Tryz.zeroValue3,
  t4 := Tryz.underlying4,
  a4 := Tryz.isAgg4,
  z4 := Tryz.sizeOf4,
  v4 := Tryz.zeroValue4,
  t5 := Tryz.underlying5,
  a5 := Tryz.isAgg5,
  z5 := Tryz.sizeOf5,
  v5 := Tryz.zeroValue5,
  t9 := Tryz.underlying9,
  a9 := Tryz.isAgg9,
  z9 := Tryz.sizeOf9,
  v9 := Tryz.zeroValue9,
  t21 := Tryz.underlying21,
  a21 := Tryz.isAgg21,
  z21 := Tryz.sizeOf21,
  v21 := Tryz.zeroValue21,
  t31 := Tryz.underlying30,
  a31 := Tryz.isAgg30,
  z31 := Tryz.sizeOf30,
  v31 := Tryz.zeroValue30,
  t46 := Tryz.underlying121,
  a46 := Tryz.isAgg121,
  z46 := Tryz.sizeOf121,
  v46 := Tryz.zeroValue121,
  t51 := Tryz.underlying185,
  a51 := Tryz.isAgg185,
  z51 := Tryz.sizeOf185,
  v51 := Tryz.zeroValue185,
  t105 := Tryz.underlying296,
  a105 := Tryz.isAgg296,
  z105 := Tryz.sizeOf296,
  v105 := Tryz.zeroValue296,
  t119 := Tryz.underlying279,
  a119 := Tryz.isAgg279,
  z119 := Tryz.sizeOf279,
  t138 := Tryz.underlying281,
  a138 := Tryz.isAgg281,
  z138 := Tryz.sizeOf281,
  v138 := Tryz.zeroValue281,
  t139 := Tryz.underlying282,
  a139 := Tryz.isAgg282,
  z139 := Tryz.sizeOf282,
  v139 := Tryz.zeroValue282,
  t146 := Tryz.underlying291,
  a146 := Tryz.isAgg291,
  z146 := Tryz.sizeOf291,
  v146 := Tryz.zeroValue291,
  g1 := by kernel_rfl,
  g3 := by kernel_rfl,
  g4 := by kernel_rfl }
end Go.Proofs
end
section
/- strings.Contains, strings.Split: relations that tell the truth, by the shelf's contracts. -/
namespace Go.Proofs.YtbdnigendhhndaaGreatDoor
open Go Go.Ev Go.RowKit Go.Shelf
set_option maxRecDepth 100000

def splitS (s sep : ByteArray) : List ByteArray := Lib.splitB sep 0 (Lib.countB s sep) s
inductive StrPrim : Rel where
  | contains (s t : ByteArray) (hs : s.size < 4294967281) : StrPrim 172 [.p (.s (.string s)), .p (.s (.string t))] [] (.p (.s (.bool (Lib.contains s.data.toList t.data.toList)))) []
  | split (s t : ByteArray) (hs : s.size < 4294967281) (h1 : 1 ≤ t.size) (hl : (splitS s t).length = Lib.countB s t + 1) : StrPrim 221 [.p (.s (.string s)), .p (.s (.string t))] [] (.ms ((0, 0) : Nat × Nat) 0 (Lib.countB s t + 1) (Lib.countB s t + 1)) [.arr 1 (strs (splitS s t)) 0]

theorem two_strs {L : Ev.Id → Ev.Loc} {sh : Ev.Id → Option Sh} {I : Nat → Nat → Prop} {w : World} {s t : ByteArray} {vals : Array Value} (h : All2 (VR L sh I w) [.p (.s (.string s)), .p (.s (.string t))] vals.toList) : vals = #[.string s, .string t] := by
  obtain ⟨vs⟩ := vals
  cases h with
  | cons h1 h =>
  cases h with
  | cons h2 h =>
  cases h
  cases h1 with
  | p h1 => cases h2 with
    | p h2 => cases h1; cases h2; rfl

theorem str_sound {cx : Cx} (hP : cx.P = Tryz.prog) (h5 : 5 ∈ cx.ints) : CallSound cx StrPrim := by
  intro f args H r H' h
  cases h with
  | contains s t hs =>
    refine ⟨fun vs w => by rw [hP]; exact Tryz.call172 vs w, fun L I w vals hp hargs => ?_⟩
    rw [two_strs hargs, hP]
    obtain ⟨_, m, hm⟩ := hp.gi _ h5
    have hc := Any.strings_Contains Tryz.l144 s t m w hs hm
    refine hc.mono ?_
    rintro e w' ⟨rfl, rfl⟩
    exact ⟨_, L, I, rfl, hp, .p (.s rfl), .refl _ _ _ _⟩
  | split s t hs h1 hl =>
    refine ⟨fun vs w => by rw [hP]; exact Tryz.call221 vs w, fun L I w vals hp hargs => ?_⟩
    rw [two_strs hargs, hP]
    obtain ⟨_, m, hm⟩ := hp.gi _ h5
    have hc := Any.strings_Split Tryz.l146 (by kernel_rfl) s t m w hs hm h1
    refine hc.mono ?_
    rintro e w' ⟨rfl, rfl⟩
    have hfr : ∀ b, b < w.heap.size → (w.alloc (Obj.cells (List.map Value.string (Lib.splitB t 0 (Lib.countB s t) s)).toArray (Tryz.l146_ren.t 9))).heap[b]? = w.heap[b]? := fun b hb => (Go.MapKept.heap_alloc w _).2 b hb
    have hcell : ∀ b o, I b o → (w.alloc (Obj.cells (List.map Value.string (Lib.splitB t 0 (Lib.countB s t) s)).toArray (Tryz.l146_ren.t 9))).cell? ⟨b, o, none⟩ = w.cell? ⟨b, o, none⟩ := fun b o hb => World.cell?_of_block (a := ⟨b, o, none⟩) (hfr b (hp.dom b o hb))
    have hlen : (strs (splitS s t)).length = Lib.countB s t + 1 := by rw [strs_length, hl]
    have hor : OR (updL L (0, 0) (mkLoc w.heap.size (Lib.countB s t + 1))) ((HS []).setS (0, 0) (.arr 1 (strs (splitS s t)) 0)).sh I (w.alloc (Obj.cells (List.map Value.string (Lib.splitB t 0 (Lib.countB s t) s)).toArray (Tryz.l146_ren.t 9))) (mkLoc w.heap.size (Lib.countB s t + 1)) (.arr 1 (strs (splitS s t)) 0) := by
      refine ⟨Nat.one_pos, fun i row hi => ?_, Nat.zero_le _, _, _, (Go.MapKept.heap_alloc w _).1, ?_, by rw [hlen]; simp, fun i j row d hi hj => ?_, fun o ho => absurd (hp.dom _ _ ho) (Nat.lt_irrefl _)⟩
      · simp only [strs, List.getElem?_map, Option.map_eq_some_iff] at hi
        obtain ⟨x, _, rfl⟩ := hi
        rfl
      · have : (Lib.splitB t 0 (Lib.countB s t) s).length = Lib.countB s t + 1 := hl
        simpa using this
      · simp only [strs, List.getElem?_map, Option.map_eq_some_iff] at hi
        obtain ⟨x, hx, rfl⟩ := hi
        match j, hj with
        | 0, hj =>
          simp only [List.getElem?_cons_zero, Option.some.injEq] at hj
          subst hj
          refine ⟨.string x, ?_, .s rfl⟩
          have hx' : (Lib.splitB t 0 (Lib.countB s t) s)[i]? = some x := hx
          simp [hx']
        | j + 1, hj => simp at hj
    obtain ⟨s1, s2⟩ := hp.set (w' := w.alloc (Obj.cells (List.map Value.string (Lib.splitB t 0 (Lib.countB s t) s)).toArray (Tryz.l146_ren.t 9))) (0, 0) (.arr 1 (strs (splitS s t)) 0) (mkLoc w.heap.size (Lib.countB s t + 1)) (by exact Nat.le_refl _) (fun b hb => hb.elim) rfl rfl rfl (by simp) (fun b hb _ => hfr b hb) hcell hor
    have hset := HS_snoc [] (.arr 1 (strs (splitS s t)) 0)
    simp only [List.length_nil] at hset
    rw [hset] at s1 s2
    refine ⟨_, _, I, rfl, s1, ?_, s2⟩
    refine .ms 1 (Lib.countB s t + 1) (by show (some (Sh.arr 1 _)) = _; rw [hlen]) (Nat.le_refl _) fun _ => ⟨by omega, Nat.le_refl _, rfl, fun _ => ?_, ?_, by omega⟩
    · rw [updL_same]
    · rw [updL_same]; simp
end Go.Proofs.YtbdnigendhhndaaGreatDoor
end
section
/- What the kit's shelf lays at this seat, as plain text (written by laylog.py out of what the kit's command prints). -/
namespace Go.Proofs
open Go.Shelf
set_option maxRecDepth 100000
def Tryz.l172_ren : Go.Shelf.Ren := ⟨fun | 172 => 231 | 244 => 238 | 245 => 239 | 247 => 244 | 279 => 245 | 280 => 246 | 281 => 247 | 282 => 248 | 287 => 250 | 316 => 251 | 171 => 253 | 205 => 252 | 321 => 254 | 322 => 255 | 243 => 256 | 246 => 257 | 283 => 258 | 284 => 259 | 285 => 260 | 286 => 261 | 129 => 102 | 317 => 262 | 318 => 263 | 319 => 264 | 320 => 265 | 337 => 266 | 338 => 267 | n => n, fun | 9 => 9 | 3 => 3 | 75 => 288 | 76 => 289 | 4 => 4 | 5 => 5 | 167 => 298 | 37 => 22 | 0 => 0 | 85 => 299 | 2 => 2 | 168 => 301 | 53 => 187 | 175 => 304 | 46 => 121 | 210 => 308 | 127 => 312 | 145 => 315 | 143 => 313 | 21 => 21 | 171 => 317 | 173 => 319 | 212 => 322 | 51 => 185 | 20 => 20 | 213 => 323 | 232 => 324 | 233 => 325 | 80 => 84 | n => n, fun | 15 => 6 | 16 => 7 | 17 => 8 | 18 => 9 | 19 => 10 | n => n⟩
theorem Tryz.l172 : Go.Proofs.Lays.n172 Tryz.prog Tryz.l172_ren := {
  mixed := by kernel_rfl,
  f129 := Tryz.func102.trans (congrArg some (by kernel_rfl)),
  f171 := Tryz.func253.trans (congrArg some (by kernel_rfl)),
  f172 := Tryz.func231.trans (congrArg some (by kernel_rfl)),
  f205 := Tryz.func252.trans (congrArg some (by kernel_rfl)),
  f243 := Tryz.func256.trans (congrArg some (by kernel_rfl)),
  f244 := Tryz.func238.trans (congrArg some (by kernel_rfl)),
  f245 := Tryz.func239.trans (congrArg some (by kernel_rfl)),
  f246 := Tryz.func257.trans (congrArg some (by kernel_rfl)),
  f247 := Tryz.func244.trans (congrArg some (by kernel_rfl)),
  f279 := Tryz.func245.trans (congrArg some (by kernel_rfl)),
  f280 := Tryz.func246.trans (congrArg some (by kernel_rfl)),
  f281 := Tryz.func247.trans (congrArg some (by kernel_rfl)),
  f282 := Tryz.func248.trans (congrArg some (by kernel_rfl)),
  f283 := Tryz.func258.trans (congrArg some (by kernel_rfl)),
  f284 := Tryz.func259.trans (congrArg some (by kernel_rfl)),
  f285 := Tryz.func260.trans (congrArg some (by kernel_rfl)),
  f286 := Tryz.func261.trans (congrArg some (by kernel_rfl)),
  f287 := Tryz.func250.trans (congrArg some (by kernel_rfl)),
  f316 := Tryz.func251.trans (congrArg some (by kernel_rfl)),
  f317 := Tryz.func262.trans (congrArg some (by kernel_rfl)),
  f318 := Tryz.func263.trans (congrArg some (by kernel_rfl)),
  f319 := Tryz.func264.trans (congrArg some (by kernel_rfl)),
  f320 := Tryz.func265.trans (congrArg some (by kernel_rfl)),
  f321 := Tryz.func254.trans (congrArg some (by kernel_rfl)),
  f322 := Tryz.func255.trans (congrArg some (by kernel_rfl)),
  f337 := Tryz.func266.trans (congrArg some (by kernel_rfl)),
  f338 := Tryz.func267.trans (congrArg some (by kernel_rfl)),
  t0 := Tryz.underlying0,
  a0 := Tryz.isAgg0,
  z0 := Tryz.sizeOf0,
  v0 := Tryz.zeroValue0,
  t2 := Tryz.underlying2,
  a2 := Tryz.isAgg2,
  z2 := Tryz.sizeOf2,
  v2 := Tryz.zeroValue2,
  t3 := Tryz.underlying3,
  a3 := Tryz.isAgg3,
  z3 := Tryz.sizeOf3,
  v3 := Tryz.zeroValue3,
  t4 := Tryz.underlying4,
  a4 := Tryz.isAgg4,
  z4 := Tryz.sizeOf4,
  v4 := Tryz.zeroValue4,
  t5 := Tryz.underlying5,
  a5 := Tryz.isAgg5,
  z5 := Tryz.sizeOf5,
  v5 := Tryz.zeroValue5,
  t9 := Tryz.underlying9,
  a9 := Tryz.isAgg9,
  z9 := Tryz.sizeOf9,
  v9 := Tryz.zeroValue9,
  t20 := Tryz.underlying20,
  a20 := Tryz.isAgg20,
  z20 := Tryz.sizeOf20,
  v20 := Tryz.zeroValue20,
  t21 := Tryz.underlying21,
  a21 := Tryz.isAgg21,
  z21 := Tryz.sizeOf21,
  v21 := Tryz.zeroValue21,
  t37 := Tryz.underlying22,
  a37 := Tryz.isAgg22,
  z37 := Tryz.sizeOf22,
  v37 := Tryz.zeroValue22,
  t46 := Tryz.underlying121,
  a46 := Tryz.isAgg121,
  z46 := Tryz.sizeOf121,
  v46 := Tryz.zeroValue121,
  t51 := Tryz.underlying185,
  a51 := Tryz.isAgg185,
  z51 := Tryz.sizeOf185,
  v51 := Tryz.zeroValue185,
  t53 := Tryz.underlying187,
  a53 := Tryz.isAgg187,
  z53 := Tryz.sizeOf187,
  v53 := Tryz.zeroValue187,
  t75 := Tryz.underlying288,
  a75 := Tryz.isAgg288,
  z75 := Tryz.sizeOf288,
  v75 := Tryz.zeroValue288,
  t76 := Tryz.underlying289,
  a76 := Tryz.isAgg289,
  z76 := Tryz.sizeOf289,
  v76 := Tryz.zeroValue289,
  t85 := Tryz.underlying299,
  a85 := Tryz.isAgg299,
  z85 := Tryz.sizeOf299,
  v85 := Tryz.zeroValue299,
  t127 := Tryz.underlying312,
  a127 := Tryz.isAgg312,
  z127 := Tryz.sizeOf312,
  v127 := Tryz.zeroValue312,
  t143 := Tryz.underlying313,
  a143 := Tryz.isAgg313,
  z143 := Tryz.sizeOf313,
  v143 := Tryz.zeroValue313,
  t145 := Tryz.underlying315,
  a145 := Tryz.isAgg315,
  z145 := Tryz.sizeOf315,
  v145 := Tryz.zeroValue315,
  t167 := Tryz.underlying298,
  a167 := Tryz.isAgg298,
  z167 := Tryz.sizeOf298,
  v167 := Tryz.zeroValue298,
  t168 := Tryz.underlying301,
  a168 := Tryz.isAgg301,
  z168 := Tryz.sizeOf301,
  v168 := Tryz.zeroValue301,
  t171 := Tryz.underlying317,
  a171 := Tryz.isAgg317,
  z171 := Tryz.sizeOf317,
  v171 := Tryz.zeroValue317,
  t173 := Tryz.underlying319,
  a173 := Tryz.isAgg319,
  z173 := Tryz.sizeOf319,
  v173 := Tryz.zeroValue319,
  t175 := Tryz.underlying304,
  a175 := Tryz.isAgg304,
  z175 := Tryz.sizeOf304,
  v175 := Tryz.zeroValue304,
  t210 := Tryz.underlying308,
  a210 := Tryz.isAgg308,
  z210 := Tryz.sizeOf308,
  v210 := Tryz.zeroValue308,
  t212 := Tryz.underlying322,
  a212 := Tryz.isAgg322,
  z212 := Tryz.sizeOf322,
  v212 := Tryz.zeroValue322,
  t213 := Tryz.underlying323,
  a213 := Tryz.isAgg323,
  z213 := Tryz.sizeOf323,
  t232 := Tryz.underlying324,
  a232 := Tryz.isAgg324,
  z232 := Tryz.sizeOf324,
  v232 := Tryz.zeroValue324,
  t233 := Tryz.underlying325,
  a233 := Tryz.isAgg325,
  z233 := Tryz.sizeOf325,
  v233 := Tryz.zeroValue325,
  g15 := by kernel_rfl,
  g16 := by kernel_rfl,
  g17 := by kernel_rfl,
  g18 := by kernel_rfl,
  g19 := by kernel_rfl }
end Go.Proofs
end
section
/- strconv.Atoi at short numerals: a relation that tells the truth, by the shelf's contract. -/
namespace Go.Ev
theorem SR.grow {cx : Cx} {n : Nat} {L : Id → Loc} {I : Nat → Nat → Prop} {F : FS} {a : Act} {w w' : World} (hs : SR cx n L I F a w) (h : ∀ b, b < w.heap.size → w'.heap[b]? = w.heap[b]?) (hz : w.heap.size ≤ w'.heap.size) : SR cx n L I F a w' := by
  have hc : ∀ b o, I b o → w'.cell? ⟨b, o, none⟩ = w.cell? ⟨b, o, none⟩ := fun b o hb => World.cell?_of_block (a := ⟨b, o, none⟩) (h b (hs.dom b o hb))
  refine ⟨fun t => (hs.env t).mono (fun _ _ h => h) hc fun id _ s h => ⟨s, h, .refl _ _⟩, fun id o ho => ?_, hs.inj, fun i hi b hb => Nat.lt_of_lt_of_le (hs.ownlt i hi b hb) hz, fun b o hb => Nat.lt_of_lt_of_le (hs.dom b o hb) hz,
    fun g cs hg => (hs.glob g cs hg).mono (fun _ _ h => h) hc fun id _ s h => ⟨s, h, .refl _ _⟩, hs.defers, hs.tsz, hs.gi.mono (fun _ _ h => h) hc⟩
  exact (hs.obj id o ho).mono hz (fun b hb => h b (hs.ownlt id (by rw [ho]; rfl) b hb)) hc fun id s h => ⟨s, h, .refl _ _⟩
end Go.Ev
namespace Go.Proofs.YtbdnigendhhndaaGreatDoor
open Go Go.Ev Go.RowKit Go.Shelf
set_option maxRecDepth 100000

inductive AtoiPrim : Rel where
  | mk (s : ByteArray) (n : Int) (hl : s.size ≤ 18) (h : Lib.atoi s.data.toList = some n) : AtoiPrim 231 [.p (.s (.string s))] [] (.tup [.p (.s (.int .i64 n)), .p (.s .nilIface)]) []
theorem one_str {L : Ev.Id → Ev.Loc} {sh : Ev.Id → Option Sh} {I : Nat → Nat → Prop} {w : World} {s : ByteArray} {vals : Array Value} (h : All2 (VR L sh I w) [.p (.s (.string s))] vals.toList) : vals = #[.string s] := by
  obtain ⟨vs⟩ := vals
  cases h with
  | cons h1 h =>
  cases h
  cases h1 with
  | p h1 => cases h1; rfl
theorem atoi_sound {cx : Cx} (hP : cx.P = Tryz.prog) : CallSound cx AtoiPrim := by
  intro f args H r H' h
  cases h with
  | mk s n hl h =>
    refine ⟨fun vs w => by rw [hP]; exact Tryz.call231 vs w, fun L I w vals hp hargs => ?_⟩
    rw [one_str hargs, hP]
    have hc := Any.strconv_Atoi Tryz.l172 s n hl h w
    refine hc.mono ?_
    rintro e w' ⟨rfl, t, rfl⟩
    have hg := hp.grow (w' := Lib.bytesWorld w (Tryz.l172_ren.t 5) t) (fun b hb => Lib.bytesWorld_at_old w _ t b hb) (by rw [Lib.bytesWorld_size]; omega)
    refine ⟨_, L, I, rfl, hg, ?_, ?_⟩
    · refine .tup rfl fun i c x hi hx => ?_
      match i, hi, hx with
      | 0, hi, hx => cases hi; cases hx; exact .p (.s rfl)
      | 1, hi, hx => cases hi; cases hx; exact .p (.s rfl)
    · exact ⟨rfl, rfl, rfl, by rw [Lib.bytesWorld_size]; omega, fun b hb _ => Lib.bytesWorld_at_old w _ t b hb, fun _ _ h => h, fun b o hb => World.cell?_of_block (a := ⟨b, o, none⟩) (Lib.bytesWorld_at_old w _ t b (hp.dom b o hb)), fun _ _ h => .inl h, fun id h _ hb => .inr ⟨id, h, hb⟩, fun _ s h => ⟨s, h, .refl _ _⟩⟩
end Go.Proofs.YtbdnigendhhndaaGreatDoor
end
section
/- What the kit's shelf lays at this seat, as plain text (written by laylog.py out of what the kit's command prints). -/
namespace Go.Proofs
open Go.Shelf
set_option maxRecDepth 100000
def Tryz.l190_ren : Go.Shelf.Ren := ⟨fun | 190 => 30 | 125 => 58 | 258 => 57 | 128 => 101 | 129 => 102 | 302 => 92 | 303 => 93 | 304 => 94 | 305 => 95 | 306 => 96 | 307 => 97 | 308 => 98 | 309 => 99 | 310 => 100 | 333 => 133 | 329 => 134 | 330 => 135 | 334 => 136 | 335 => 137 | 336 => 138 | 344 => 179 | n => n, fun | 31 => 30 | 9 => 9 | 3 => 3 | 46 => 121 | 0 => 0 | 51 => 185 | 53 => 187 | 4 => 4 | 183 => 177 | 182 => 176 | 131 => 182 | 5 => 5 | 218 => 220 | 222 => 224 | 228 => 249 | 229 => 250 | n => n, fun | n => n⟩
theorem Tryz.l190 : Go.Proofs.Lays.n190 Tryz.prog Tryz.l190_ren := {
  mixed := by kernel_rfl,
  f125 := Tryz.func58.trans (congrArg some (by kernel_rfl)),
  f128 := Tryz.func101.trans (congrArg some (by kernel_rfl)),
  f129 := Tryz.func102.trans (congrArg some (by kernel_rfl)),
  f190 := Tryz.func30.trans (congrArg some (by kernel_rfl)),
  f258 := Tryz.func57.trans (congrArg some (by kernel_rfl)),
  f302 := Tryz.func92.trans (congrArg some (by kernel_rfl)),
  f303 := Tryz.func93.trans (congrArg some (by kernel_rfl)),
  f304 := Tryz.func94.trans (congrArg some (by kernel_rfl)),
  f305 := Tryz.func95.trans (congrArg some (by kernel_rfl)),
  f306 := Tryz.func96.trans (congrArg some (by kernel_rfl)),
  f307 := Tryz.func97.trans (congrArg some (by kernel_rfl)),
  f308 := Tryz.func98.trans (congrArg some (by kernel_rfl)),
  f309 := Tryz.func99.trans (congrArg some (by kernel_rfl)),
  f310 := Tryz.func100.trans (congrArg some (by kernel_rfl)),
  f329 := Tryz.func134.trans (congrArg some (by kernel_rfl)),
  f330 := Tryz.func135.trans (congrArg some (by kernel_rfl)),
  f333 := Tryz.func133.trans (congrArg some (by kernel_rfl)),
  f334 := Tryz.func136.trans (congrArg some (by kernel_rfl)),
  f335 := Tryz.func137.trans (congrArg some (by kernel_rfl)),
  f336 := Tryz.func138.trans (congrArg some (by kernel_rfl)),
  f344 := Tryz.func179.trans (congrArg some (by kernel_rfl)),
  t0 := Tryz.underlying0,
  a0 := Tryz.isAgg0,
  z0 := Tryz.sizeOf0,
  v0 := Tryz.zeroValue0,
  t3 := Tryz.underlying3,
  a3 := Tryz.isAgg3,
  z3 := Tryz.sizeOf3,
  v3 := Tryz.zeroValue3,
  t4 := Tryz.underlying4,
  a4 := Tryz.isAgg4,
  z4 := Tryz.sizeOf4,
  v4 := Tryz.zeroValue4,
  t5 := Tryz.underlying5,
  a5 := Tryz.isAgg5,
  z5 := Tryz.sizeOf5,
  v5 := Tryz.zeroValue5,
  t9 := Tryz.underlying9,
  a9 := Tryz.isAgg9,
  z9 := Tryz.sizeOf9,
  v9 := Tryz.zeroValue9,
  t31 := Tryz.underlying30,
  a31 := Tryz.isAgg30,
  z31 := Tryz.sizeOf30,
  v31 := Tryz.zeroValue30,
  t46 := Tryz.underlying121,
  a46 := Tryz.isAgg121,
  z46 := Tryz.sizeOf121,
  v46 := Tryz.zeroValue121,
  t51 := Tryz.underlying185,
  a51 := Tryz.isAgg185,
  z51 := Tryz.sizeOf185,
  v51 := Tryz.zeroValue185,
  t53 := Tryz.underlying187,
  a53 := Tryz.isAgg187,
  z53 := Tryz.sizeOf187,
  v53 := Tryz.zeroValue187,
  t131 := Tryz.underlying182,
  a131 := Tryz.isAgg182,
  z131 := Tryz.sizeOf182,
  v131 := Tryz.zeroValue182,
  t182 := Tryz.underlying176,
  a182 := Tryz.isAgg176,
  z182 := Tryz.sizeOf176,
  v182 := Tryz.zeroValue176,
  t183 := Tryz.underlying177,
  a183 := Tryz.isAgg177,
  z183 := Tryz.sizeOf177,
  v183 := Tryz.zeroValue177,
  t218 := Tryz.underlying220,
  a218 := Tryz.isAgg220,
  z218 := Tryz.sizeOf220,
  v218 := Tryz.zeroValue220,
  t222 := Tryz.underlying224,
  a222 := Tryz.isAgg224,
  z222 := Tryz.sizeOf224,
  v222 := Tryz.zeroValue224,
  t228 := Tryz.underlying249,
  a228 := Tryz.isAgg249,
  z228 := Tryz.sizeOf249,
  v228 := Tryz.zeroValue249,
  t229 := Tryz.underlying250,
  a229 := Tryz.isAgg250,
  z229 := Tryz.sizeOf250,
  v229 := Tryz.zeroValue250 }
end Go.Proofs
end
section
/- slices.Sort of texts: a relation that tells the truth, by the shelf's contract. -/
namespace Go.Proofs.YtbdnigendhhndaaGreatDoor
open Go Go.Ev Go.RowKit Go.Shelf
set_option maxRecDepth 100000

/-- slices.Sort of a slice of the caller's own. -/
inductive SortPrim : Rel where
  | mk (x : ByteArray) (r l' : List ByteArray) (h : (x :: r).length < 4611686018427387904) (hs : l'.map (fun s => s.data.toList) = ((x :: r).map fun s => s.data.toList).mergeSort fun a b => decide (a ≤ b)) :
    SortPrim 30 [.ms ((0, 0) : Nat × Nat) 0 (r.length + 1) (r.length + 1)] [.arr 1 (strs (x :: r)) 0] (.tup []) [.arr 1 (strs l') 0]

theorem sort_sound {cx : Cx} (hP : cx.P = Tryz.prog) : CallSound cx SortPrim := by
  intro f args H r0 H' h
  cases h with
  | mk x r l' h hs =>
    refine ⟨fun vs w => by rw [hP]; exact Tryz.call30 vs w, fun L I w vals hp hargs => ?_⟩
    obtain ⟨vs⟩ := vals
    cases hargs with
    | cons h1 hargs =>
    cases hargs
    obtain ⟨_, hrl, _, xs, e, hb, hsz, hle, hcells, hfrz⟩ := hp.obj (0, 0) _ rfl
    have hlen : (strs (x :: r)).length = (x :: r).length := by simp [strs]
    have hlb : (L (0, 0)).b < w.heap.size := (Array.getElem?_eq_some_iff.1 hb).1
    have hl' : l'.length = (x :: r).length := by
      have := congrArg List.length hs
      simpa [List.length_mergeSort] using this
    have hll : (strs l').length = (strs (x :: r)).length := by rw [hlen, ← hl']; simp [strs]
    cases h1 with
    | @ms _ _ _ _ a c sz N0 hsh hN ha =>
    have e0 : (HS [AO.arr 1 (strs (x :: r)) 0]).sh (0, 0) = some (Sh.arr 1 (strs (x :: r)).length) := rfl
    rw [e0] at hsh
    simp only [Option.some.injEq, Sh.arr.injEq] at hsh
    obtain ⟨rfl, rfl⟩ := hsh
    obtain ⟨a1, a2, a3, a4, a5, a6⟩ := ha (by rw [hlen]; simp)
    have hc : c ≠ 0 := by omega
    have ha' := a4 hc
    rw [Nat.zero_mul] at ha'
    subst ha'
    generalize hss : (x :: r).map (fun s => s.data.toList) = ss at hs
    have hsl : ss.length = r.length + 1 := by rw [← hss]; simp
    have hx : xs.toList.take ss.length = ss.map encStr := by
      apply List.ext_getElem?
      intro j
      by_cases hj : j < r.length + 1
      · rw [List.getElem?_take_of_lt (by omega), Array.getElem?_toList]
        have hj2 : j < (x :: r).length := by simpa using hj
        have hr : (strs (x :: r))[j]? = some [pS (x :: r)[j]] := by
          simp only [strs, List.getElem?_map, List.getElem?_eq_getElem hj2, Option.map_some]
        obtain ⟨y, hy1, hy2⟩ := hcells j 0 _ _ hr rfl
        have hy3 : y = .string (x :: r)[j] := by cases hy2; rfl
        rw [Nat.mul_one, Nat.add_zero] at hy1
        rw [hy1, hy3, ← hss]
        simp only [List.getElem?_map, List.getElem?_eq_getElem hj2, Option.map_some]
      · rw [List.getElem?_take_eq_none (by omega), List.getElem?_eq_none (by simp; omega)]
    have hH := Go.holds_of_block hb hx
    have hc' := Any.slices_Sort_string Tryz.l190 (L (0, 0)).b 0 c ss w hH hlb (by simp at h; omega)
    rw [hsl] at hc'
    rw [hP]
    refine hc'.mono ?_
    rintro e' w' ⟨rfl, n, os, rfl⟩
    have hbel := Go.grownBy_sorted (w := w) (g := (L (0, 0)).b) (n := n) (os := os) (ss.mergeSort fun x y => decide (x ≤ y)).toArray
    have hhp := Go.heap_sorted (w := w) (g := (L (0, 0)).b) (n := n) (os := os) (ss.mergeSort fun x y => decide (x ≤ y)).toArray hb
    have htk := Go.take_putCells xs (ss.mergeSort fun x y => decide (x ≤ y)) (by rw [List.length_mergeSort, hsz]; omega)
    generalize Go.Sort.grow (Go.Sort.putRow encStr (Go.Sort.ahead w n) (L (0, 0)).b 0 (ss.mergeSort fun x y => decide (x ≤ y)).toArray) os = w' at *
    obtain ⟨b1, b2, b3, b4, b5⟩ := hbel
    have hfr : ∀ b, b < w.heap.size → b ≠ (L (0, 0)).b → w'.heap[b]? = w.heap[b]? := fun b hb hn => b5 b hb fun e => hn (by cases e; rfl)
    have hcell : ∀ b o, I b o → w'.cell? ⟨b, o, none⟩ = w.cell? ⟨b, o, none⟩ := fun b o hbo => by
      refine World.cell?_of_block (a := ⟨b, o, none⟩) (hfr b (hp.dom b o hbo) fun e => ?_)
      subst e
      have := hfrz o hbo
      omega
    have hupd : updL L (0, 0) (L (0, 0)) = L := by
      funext j
      by_cases hj : ((0, 0) : Nat × Nat) = j
      · subst hj; exact updL_same ..
      · exact updL_other L _ hj
    have hset : (HS [AO.arr 1 (strs (x :: r)) 0]).setS (0, 0) (.arr 1 (strs l') 0) = HS [AO.arr 1 (strs l') 0] := by
      have : ∀ j, ((HS [AO.arr 1 (strs (x :: r)) 0]).setS (0, 0) (.arr 1 (strs l') 0)).gs j = (HS [AO.arr 1 (strs l') 0]).gs j := by
        intro j
        simp only [FS.setS]
        cases hj : idEq (0, 0) j with
        | true =>
          have := idEq_iff.1 hj
          subst this
          rfl
        | false =>
          obtain ⟨j0, j1⟩ := j
          cases h0 : j0 == 0 with
          | false => simp [HS, h0]
          | true =>
            have h0 : j0 = 0 := by simpa using h0
            subst h0
            have : j1 ≠ 0 := fun h => by subst h; simp [idEq] at hj
            simp only [HS_gs]
            rw [List.getElem?_eq_none (by simp; omega), List.getElem?_eq_none (by simp; omega)]
            rfl
      exact congrArg (FS.mk (HS [AO.arr 1 (strs (x :: r)) 0]).ge) (funext this)
    obtain ⟨s1, s2⟩ := hp.set (w' := w') (0, 0) (.arr 1 (strs l') 0) (L (0, 0)) (by exact ⟨⟨rfl, by rw [hll]; exact Nat.le_refl _, fun _ => rfl⟩, .inl rfl⟩) (fun b hb => ⟨rfl, hb⟩) b1 b2 b3 b4 hfr hcell (by
      rw [hupd]
      refine ⟨Nat.one_pos, fun i row hi => ?_, Nat.zero_le _, _, e, hhp, by simp [Go.Sort.putCells, hsz], by rw [hll]; exact hle, fun i j row d hi hj => ?_, fun o ho => by have := hfrz o ho; omega⟩
      · simp only [strs, List.getElem?_map, Option.map_eq_some_iff] at hi
        obtain ⟨x, _, rfl⟩ := hi
        rfl
      · simp only [strs, List.getElem?_map, Option.map_eq_some_iff] at hi
        obtain ⟨y, hy, rfl⟩ := hi
        match j, hj with
        | j + 1, hj => simp at hj
        | 0, hj =>
          simp only [List.getElem?_cons_zero, Option.some.injEq] at hj
          subst hj
          have hil : i < l'.length := (List.getElem?_eq_some_iff.1 hy).1
          refine ⟨.string y, ?_, .s rfl⟩
          have h1 : ((ss.mergeSort fun x y => decide (x ≤ y)).map encStr)[i]? = some (.string y) := by
            rw [← hs]
            simp only [List.getElem?_map, hy, Option.map_some]
          rw [← htk, List.getElem?_take_of_lt (by rw [← hs]; simpa using hil), Array.getElem?_toList] at h1
          simpa using h1)
    rw [hupd, hset] at s1 s2
    refine ⟨_, L, I, rfl, s1, ?_, s2⟩
    exact .tup rfl fun i c x hi => by simp at hi
end Go.Proofs.YtbdnigendhhndaaGreatDoor
end
section
/- The context of this program. -/
namespace Go.Proofs.YtbdnigendhhndaaGreatDoor
open Go Go.Ev
set_option maxRecDepth 100000
def gTexts : List PV := datRow (Rows.laid_flagstone_flagstonedraw_texts (H := Unit))
def gVersions : List PV := datRow (Rows.laid_flagstone_flagstonedraw_versions (H := Unit))
def gLists : List PV := datRow (Rows.laid_flagstone_flagstonedraw_lists (H := Unit))
def gFirst : List PV := datRow Rows.laid_unicode_utf8_first
def gAccept : List PV := datRow (Rows.laid_unicode_utf8_acceptRanges (H := Unit))
def globs (g : Nat) : Option (List PV) := bif Nat.beq g 0 then some gTexts else bif Nat.beq g 1 then some gVersions else bif Nat.beq g 2 then some gLists else bif Nat.beq g 3 then some gFirst else bif Nat.beq g 4 then some gAccept else none
noncomputable def cx : Cx := { P := Tryz.prog, ints := [5], ty := fun t => tab.get t, glob := globs, prim := fun f args H r H' => SeqPrim f args H r H' ∨ StrPrim f args H r H' ∨ AtoiPrim f args H r H' ∨ SortPrim f args H r H' }
theorem cx_ok : CxOk cx := CxOk.of rfl tab_ok
theorem cx_prim : CallSound cx cx.prim := fun f args H r H' h => h.elim (fun h => seq_sound rfl f args H r H' h) fun h => h.elim (fun h => str_sound rfl (by simp [cx]) f args H r H' h) fun h => h.elim (fun h => atoi_sound rfl f args H r H' h) fun h => sort_sound rfl f args H r H' h
theorem EvCall.prim {f : FuncId} {args : List AV} {H : List AO} {r : AV} {H' : List AO} (h : SeqPrim f args H r H') : EvCall cx f args H r H' := ⟨1, .inl (.inl h)⟩
theorem EvCall.prim2 {f : FuncId} {args : List AV} {H : List AO} {r : AV} {H' : List AO} (h : StrPrim f args H r H') : EvCall cx f args H r H' := ⟨1, .inl (.inr (.inl h))⟩
theorem EvCall.prim3 {f : FuncId} {args : List AV} {H : List AO} {r : AV} {H' : List AO} (h : AtoiPrim f args H r H') : EvCall cx f args H r H' := ⟨1, .inl (.inr (.inr (.inl h)))⟩
theorem EvCall.prim4 {f : FuncId} {args : List AV} {H : List AO} {r : AV} {H' : List AO} (h : SortPrim f args H r H') : EvCall cx f args H r H' := ⟨1, .inl (.inr (.inr (.inr h)))⟩
end Go.Proofs.YtbdnigendhhndaaGreatDoor
end
