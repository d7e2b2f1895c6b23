/- A part of the proofs of this seat's laws (abstract interpretation of the translated program, and contracts of its functions); no statement of its own. -/
import Derived.Test.YtbdnigendhhndaaGreatDoorFb
import Derived.ChangeArms
import Derived.Carry
import Derived.OpenShut
import Derived.Deep.DeepHandedRow
import Derived.FnData
import Derived.KernelRfl
set_option linter.unusedVariables false
set_option linter.unusedSimpArgs false
section
/- Arguments: what a reading of plain types gives: pure data. -/
namespace Go.Ev

/-- What every list of cells of a type is. -/
inductive Wf (P : Program) : TypeId → List PV → Prop
  | bool {t : TypeId} (h : P.underlying t = some .bool) (b : Bool) : Wf P t [.s (.bool b)]
  | int {t : TypeId} {k : IntKind} (h : P.underlying t = some (.int k)) (n : Int) (hw : (Lit.int k n).wf = true) : Wf P t [.s (.int k n)]
  | str {t : TypeId} (h : P.underlying t = some .string) (s : ByteArray) (hs : s.size ≤ maxLen) : Wf P t [.s (.string s)]
  | slice {t e : TypeId} (h : P.underlying t = some (.slice e)) (es : List (List PV)) (hl : es.length ≤ maxLen) (hz : ∀ r ∈ es, r.length = P.cellsOf e) (hr : ∀ r ∈ es, Wf P e r) : Wf P t [.sl es]
  | arr {t e : TypeId} {n : Nat} (h : P.underlying t = some (.array n e)) (ps : List (List PV)) (hl : ps.length = n) (hz : ∀ r ∈ ps, r.length = P.cellsOf e) (hr : ∀ r ∈ ps, Wf P e r) : Wf P t ps.flatten
  | struct {t : TypeId} {fs : Array Field} (h : P.underlying t = some (.struct fs)) (ps : List (List PV)) (hl : ps.length = fs.size) (hz : ∀ (i : Nat) (f : Field) (r : List PV), fs[i]? = some f → ps[i]? = some r → r.length = P.cellsOf f.type)
      (hr : ∀ (i : Nat) (f : Field) (r : List PV), fs[i]? = some f → ps[i]? = some r → Wf P f.type r) : Wf P t ps.flatten

def laidB (P : Program) : Nat → List Field → Nat → Bool
  | off, [], tot => Nat.beq off tot
  | off, f :: r, tot => Nat.beq f.offset off && laidB P (off + P.cellsOf f.type) r tot

/-- A list of types that is closed, of ints, bools, strings, slices and structs. -/
def plainB (P : Program) (S : List TypeId) : Bool := S.all fun t => match P.underlying t with
  | some .bool | some (.int _) | some .string => true
  | some (.slice e) => S.contains e && Nat.blt 0 (P.cellsOf e)
  | some (.struct fs) => (fs.toList.all fun f => S.contains f.type) && laidB P 0 fs.toList (P.cellsOf t)
  | some (.array n e) => S.contains e && Nat.beq (P.cellsOf t) (n * P.cellsOf e)
  | _ => false

/-- The pure data that a reading stands for. -/
def litV : Lit → Value
  | .string bs => .string ⟨bs.toArray⟩
  | .int k n => .int k n
  | .bool b => .bool b
  | _ => undef
mutual
def datRow {H : Type} : DataW H → List PV
  | .lit l => [.s (litV l)]
  | .nil => [.sl []]
  | .slice es _ => [.sl (datRows es)]
  | .agg ds => (datRows ds).flatten
  | _ => []
def datRows {H : Type} : List (DataW H) → List (List PV)
  | [] => []
  | d :: r => datRow d :: datRows r
end
theorem datRows_map {H : Type} (l : List (DataW H)) : datRows l = l.map datRow := by
  induction l with
  | nil => rfl
  | cons x r ih => simp [datRows, ih]

mutual
def PV.bulk : PV → Nat
  | .s (.string b) => b.size + 1
  | .s _ => 1
  | .sl es => rowsBulk es + 1
  | .ne => 1
def rowsBulk : List (List PV) → Nat
  | [] => 0
  | r :: q => rowBulk r + rowsBulk q
def rowBulk : List PV → Nat
  | [] => 0
  | d :: r => d.bulk + rowBulk r
end

theorem rowBulk_append (a b : List PV) : rowBulk (a ++ b) = rowBulk a + rowBulk b := by
  induction a with
  | nil => simp [rowBulk]
  | cons x r ih => simp [rowBulk, ih]; omega

theorem rowBulk_flatten (ps : List (List PV)) : rowBulk ps.flatten = rowsBulk ps := by
  induction ps with
  | nil => rfl
  | cons x r ih => simp [rowsBulk, rowBulk_append, ih]

theorem laidB_split {P : Program} (cs : List Value) : ∀ (fs : List Field) (off : Nat), laidB P off fs cs.length = true → off ≤ cs.length → 
    (fs.map fun f => (cs.drop f.offset).take (P.cellsOf f.type)).flatten = cs.drop off ∧ off ≤ cs.length ∧ ∀ f ∈ fs, ((cs.drop f.offset).take (P.cellsOf f.type)).length = P.cellsOf f.type
  | [], off, h, hle => by
    have := Nat.eq_of_beq_eq_true h
    subst this
    simp
  | f :: r, off, h, hle => by
    simp only [laidB, Bool.and_eq_true] at h
    obtain ⟨h1, h2⟩ := h
    have h1 := Nat.eq_of_beq_eq_true h1
    have hle2 : off + P.cellsOf f.type ≤ cs.length := by
      have aux : ∀ (fs : List Field) (off : Nat), laidB P off fs cs.length = true → off ≤ cs.length := by
        intro fs
        induction fs with
        | nil => intro off h; have := Nat.eq_of_beq_eq_true h; omega
        | cons g q ih =>
          intro off h
          simp only [laidB, Bool.and_eq_true] at h
          have := ih _ h.2
          omega
      exact aux r _ h2
    obtain ⟨g1, g2, g3⟩ := laidB_split cs r _ h2 hle2
    refine ⟨?_, hle, fun f' hf' => ?_⟩
    · simp only [List.map_cons, List.flatten_cons, g1, h1]
      rw [← List.drop_drop, List.take_append_drop]
    · rcases List.mem_cons.1 hf' with rfl | hf'
      · simp [h1]; omega
      · exact g3 f' hf'

variable {H : Type} {enc : TypeId × Value → H} {P : Program} {w : World}

/-- How a reading's weight is counted. -/
structure Bulk (B : DataW H → Nat) (BA : List (DataW H) → Nat) : Prop where
  str : ∀ bs, B (.lit (.string bs)) = bs.length + 1
  lit : ∀ l, 1 ≤ B (.lit l)
  nil : 1 ≤ B .nil
  slice : ∀ es sp, BA es + 1 ≤ B (.slice es sp)
  agg : ∀ ds, BA ds ≤ B (.agg ds)
  cons : ∀ d r, B d + BA r ≤ BA (d :: r)

theorem all2_flatten {α β : Type} {R : α → β → Prop} : ∀ {l : List (List α)} {m : List (List β)}, All2 (All2 R) l m → All2 R l.flatten m.flatten
  | _, _, .nil => .nil
  | _, _, .cons h k => by simp only [List.flatten_cons]; exact h.append (all2_flatten k)

theorem cells?_get {base : Nat} {a : Addr} {n : Nat} {cs : List Value} (h : w.cells? base a n = some cs) : cs.length = n ∧ ∀ j, j < n → w.cell? (a.add j) = cs[j]? := by
  unfold World.cells? at h
  split at h
  · exact ⟨by simpa using mapM_some_length h, fun j hj => mapM_some_get h j j (by simp [hj])⟩
  · cases h

theorem cell?_spot {a : Addr} {v : Value} (h : w.cell? a = some v) : a.spot = none ∧ a.block < w.heap.size := by
  unfold World.cell? at h
  split at h
  · rename_i hb
    split at h
    · cases h
    · rename_i hs
      exact ⟨by simpa using hs, (Array.getElem?_eq_some_iff.1 hb).1⟩
  · cases h

theorem split_rows {n z : Nat} : ∀ {cs : List Value}, cs.length = n * z → cs = ((List.range n).map fun i => (cs.drop (i * z)).take z).flatten ∧ ∀ i, i < n → ((cs.drop (i * z)).take z).length = z := by
  induction n with
  | zero => intro cs h; simp at h; subst h; simp
  | succ n ih =>
    intro cs h
    have h1 : (cs.drop z).length = n * z := by rw [List.length_drop, h, Nat.add_mul]; omega
    obtain ⟨g1, g2⟩ := ih h1
    have hle : (n + 1) * z = n * z + z := by rw [Nat.add_mul]; omega
    refine ⟨?_, fun i hi => ?_⟩
    · rw [List.range_succ_eq_map]
      simp only [List.map_cons, List.map_map, List.flatten_cons, Nat.zero_mul, List.drop_zero]
      have : ((List.range n).map ((fun i => (cs.drop (i * z)).take z) ∘ Nat.succ)) = (List.range n).map fun i => ((cs.drop z).drop (i * z)).take z := by
        refine List.map_congr_left fun i _ => ?_
        simp only [Function.comp, List.drop_drop]
        congr 2
        rw [Nat.succ_mul]; omega
      rw [this, ← g1, List.take_append_drop]
    · have : (i + 1) * z ≤ (n + 1) * z := Nat.mul_le_mul_right _ hi
      rw [Nat.add_mul] at this
      simp
      omega

theorem rows_of {k : Nat} (g : Nat → List PV → Prop) : (∀ i, i < k → ∃ r, g i r) → ∃ rs : List (List PV), rs.length = k ∧ ∀ (i : Nat) (r : List PV), rs[i]? = some r → g i r := by
  intro h
  induction k with
  | zero => exact ⟨[], rfl, by simp⟩
  | succ k ih =>
    obtain ⟨rs, h1, h2⟩ := ih fun i hi => h i (by omega)
    obtain ⟨r, hr⟩ := h k (by omega)
    refine ⟨rs ++ [r], by simp [h1], fun i r' hi => ?_⟩
    rw [List.getElem?_append] at hi
    split at hi
    · exact h2 i r' hi
    · have : i - rs.length = 0 := by
        have := (List.getElem?_eq_some_iff.1 hi).1
        simp at this
        omega
      rw [this] at hi
      simp at hi
      subst hi
      have : i = k := by omega
      rw [this]
      exact hr

theorem bulk_rows {B : DataW H → Nat} {BA : List (DataW H) → Nat} (hB : Bulk B BA) : ∀ (rs : List (List PV)) (ds : List (DataW H)), rs.length = ds.length → (∀ (i : Nat) (r : List PV) (d : DataW H), rs[i]? = some r → ds[i]? = some d → rowBulk r ≤ B d) → rowsBulk rs ≤ BA ds
  | [], [], _, _ => by simp [rowsBulk]
  | [], _ :: _, h, _ => by simp at h
  | _ :: _, [], h, _ => by simp at h
  | r :: rs, d :: ds, h, hg => by
    have h1 := hg 0 r d (by simp) (by simp)
    have h2 := bulk_rows hB rs ds (by simpa using h) fun i r d hr hd => hg (i + 1) r d (by simpa using hr) (by simpa using hd)
    have := hB.cons d ds
    simp only [rowsBulk]
    omega

theorem rows_eq {rs : List (List PV)} {xs : List (DataW H × List MemPlace)} (hl : rs.length = xs.length) (h : ∀ (i : Nat) (r : List PV) (y : DataW H × List MemPlace), rs[i]? = some r → xs[i]? = some y → r = datRow y.1) :
    datRows (xs.map (·.1)) = rs := by
  rw [datRows_map, List.map_map]
  apply List.ext_getElem?
  intro i
  cases hr : rs[i]? with
  | none =>
    have := List.getElem?_eq_none_iff.1 hr
    simp; omega
  | some r =>
    have hlt := (List.getElem?_eq_some_iff.1 hr).1
    have hx : xs[i]? = some (xs[i]'(by omega)) := List.getElem?_eq_getElem (by omega)
    rw [List.getElem?_map, hx, h i r _ hr hx]
    rfl

/-- A reading of a plain type is pure data. -/
theorem trod_plain {S : List TypeId} (hS : plainB P S = true) {B : DataW H → Nat} {BA : List (DataW H) → Nat} (hB : Bulk B BA) {held : Bool} : ∀ (fuel : Nat) (t : TypeId) (cs : List Value) (x : DataW H × List MemPlace), t ∈ S →
    DataW.trod enc P w 0 (fun _ => true) held fuel t cs = some x → ∃ ps, Wf P t ps ∧ All2 (PR (fun b _ => b < w.heap.size) w) ps cs ∧ rowBulk ps ≤ B x.1 ∧ ps = datRow x.1
  | 0, t, cs, x, _, h => by simp [DataW.trod] at h
  | fuel + 1, t, cs, x, ht, h => by
    have hS' := hS
    simp only [plainB, List.all_eq_true] at hS
    have hT := hS t ht
    split at hT
    · rename_i hu
      obtain ⟨b, rfl, rfl⟩ := DataW.trod_bool hu h
      exact ⟨_, .bool hu b, .cons (.s rfl) .nil, by simpa [rowBulk, PV.bulk] using hB.lit _, by simp [datRow, litV]⟩
    · rename_i k hu
      obtain ⟨n, rfl, rfl, hw⟩ := DataW.trod_int hu h
      exact ⟨_, .int hu n hw, .cons (.s rfl) .nil, by simpa [rowBulk, PV.bulk] using hB.lit _, by simp [datRow, litV]⟩
    · rename_i hu
      obtain ⟨s, rfl, rfl, hs⟩ := DataW.trod_string hu h
      exact ⟨_, .str hu s hs, .cons (.s rfl) .nil, by simp [rowBulk, PV.bulk, hB.str], by simp [datRow, litV]⟩
    · rename_i e hu
      simp only [Bool.and_eq_true, List.contains_iff_mem] at hT
      obtain ⟨he, hz⟩ := hT
      have hz : 0 < P.cellsOf e := by simpa [Nat.blt_eq] using hz
      rcases DataW.trod_slice hu h with ⟨rfl, rfl⟩ | ⟨a, len, cap, elems, rest, m, hm, rfl, rfl, _, hle, hcap, hlen, hel, _, _⟩
      · exact ⟨[.sl []], .slice hu [] (by simp) (by simp) (by simp), .cons .nil .nil, by simp [rowBulk, rowsBulk, PV.bulk, hB.nil], by simp [datRow]⟩
      · cases hm
        have hrow : ∀ i, i < len → ∃ r, Wf P e r ∧ (∃ cs', w.cells? 0 (a.add (i * P.cellsOf e)) (P.cellsOf e) = some cs' ∧ All2 (PR (fun b _ => b < w.heap.size) w) r cs') ∧ ∀ y, elems[i]? = some y → rowBulk r ≤ B y.1 ∧ r = datRow y.1 := by
          intro i hi
          have h1 := hel i hi
          rw [List.getElem?_eq_getElem (by omega)] at h1
          rw [Option.bind_eq_some_iff] at h1
          obtain ⟨cs', h2, h3⟩ := h1
          obtain ⟨r, g1, g2, g3, g4⟩ := trod_plain hS' hB fuel e cs' _ he h3
          refine ⟨r, g1, ⟨cs', h2, g2⟩, fun y hy => ?_⟩
          rw [List.getElem?_eq_getElem (by omega)] at hy
          obtain rfl := Option.some.inj hy
          exact ⟨g3, g4⟩
        obtain ⟨rs, hrl, hrs⟩ := rows_of _ hrow
        subst hlen
        have hzr : ∀ (i : Nat) (r : List PV), rs[i]? = some r → r.length = P.cellsOf e := by
          intro i r hi
          obtain ⟨_, ⟨cs', h2, h3⟩, _⟩ := hrs i r hi
          rw [h3.length, (cells?_get h2).1]
        have hcellAt : ∀ (i j : Nat) (r : List PV) (d : PV), rs[i]? = some r → r[j]? = some d → ∃ v, w.cell? ((a.add (i * P.cellsOf e)).add j) = some v ∧ PR (fun b _ => b < w.heap.size) w d v := by
          intro i j r d hi hj
          obtain ⟨_, ⟨cs', h2, h3⟩, _⟩ := hrs i r hi
          have hjl : j < P.cellsOf e := by rw [← hzr i r hi]; exact (List.getElem?_eq_some_iff.1 hj).1
          obtain ⟨h4, h5⟩ := cells?_get h2
          have h6 := h5 j hjl
          have h7 : cs'[j]? = some cs'[j] := List.getElem?_eq_getElem (by omega)
          rw [h7] at h6
          exact ⟨_, h6, h3.get j d _ hj h7⟩
        have hspot : rs ≠ [] → a.spot = none := by
          intro hne
          obtain ⟨r, q, rfl⟩ := List.exists_cons_of_ne_nil hne
          have hr0 : (r :: q)[0]? = some r := rfl
          have hl0 := hzr 0 r hr0
          obtain ⟨d, hd⟩ : ∃ d, r[0]? = some d := ⟨r[0], List.getElem?_eq_getElem (by omega)⟩
          obtain ⟨v, hv, _⟩ := hcellAt 0 0 r d hr0 hd
          simp only [Nat.zero_mul, Addr.add, if_true] at hv
          exact (cell?_spot hv).1
        have hadd : rs ≠ [] → ∀ i j, (a.add (i * P.cellsOf e)).add j = ⟨a.block, a.off + i * P.cellsOf e + j, none⟩ := by
          intro hne i j
          rw [addr_add' a (hspot hne), addr_add]
        have hne_of : ∀ (i : Nat) (r : List PV), rs[i]? = some r → rs ≠ [] := by rintro i r hi rfl; simp at hi
        refine ⟨[.sl rs], .slice hu rs (by rw [hrl]; omega) (fun r hr => ?_) (fun r hr => ?_), .cons ?_ .nil, ?_, ?_⟩
        · obtain ⟨i, hi⟩ := List.getElem?_of_mem hr
          exact hzr i r hi
        · obtain ⟨i, hi⟩ := List.getElem?_of_mem hr
          exact (hrs i r hi).1
        · rw [← hrl]
          refine .sl (P.cellsOf e) (fun i j => (w.cell? ((a.add (i * P.cellsOf e)).add j)).getD undef) hspot (by rw [hrl]; exact hle) hz hzr (fun i j r d hi hj => ?_) (fun i j r d hi hj => ?_) fun i j r d hi hj => ?_
          · obtain ⟨v, hv, _⟩ := hcellAt i j r d hi hj
            have := (cell?_spot hv).2
            rw [hadd (hne_of i r hi)] at this
            exact this
          · obtain ⟨v, hv, _⟩ := hcellAt i j r d hi hj
            rw [hv]
            rw [hadd (hne_of i r hi)] at hv
            exact hv
          · obtain ⟨v, hv, hp⟩ := hcellAt i j r d hi hj
            rw [hv]
            exact hp
        · simp only [rowBulk, PV.bulk]
          have h1 := hB.slice (elems.map (·.1)) (rest.map (·.1))
          have h2 := bulk_rows hB rs (elems.map (·.1)) (by simp [hrl]) fun i r d hr hd => by
            simp only [List.getElem?_map, Option.map_eq_some_iff] at hd
            obtain ⟨y, hy, rfl⟩ := hd
            exact ((hrs i r hr).2.2 y hy).1
          omega
        · simp only [datRow]
          rw [rows_eq hrl fun i r y hr hy => ((hrs i r hr).2.2 y hy).2]
    · rename_i fs hu
      simp only [Bool.and_eq_true, List.all_eq_true, List.contains_iff_mem] at hT
      obtain ⟨hfs, hlaid⟩ := hT
      obtain ⟨xs, m, hm, rfl, hcl, hxl, hf⟩ := DataW.trod_struct hu h
      cases hm
      rw [← hcl] at hlaid
      obtain ⟨k1, _, k3⟩ := laidB_split cs fs.toList 0 hlaid (Nat.zero_le _)
      have hrow : ∀ i, i < fs.size → ∃ r, ∀ f, fs[i]? = some f → Wf P f.type r ∧ All2 (PR (fun b _ => b < w.heap.size) w) r ((cs.drop f.offset).take (P.cellsOf f.type)) ∧ ∀ y, xs[i]? = some y → rowBulk r ≤ B y.1 ∧ r = datRow y.1 := by
        intro i hi
        have hfi : fs[i]? = some fs[i] := Array.getElem?_eq_getElem hi
        have h1 := hf i _ hfi
        rw [List.getElem?_eq_getElem (by omega)] at h1
        obtain ⟨r, g1, g2, g3, g4⟩ := trod_plain hS' hB fuel _ _ _ (hfs _ (Array.mem_toList_iff.2 (Array.mem_of_getElem? hfi))) h1
        refine ⟨r, fun f hf' => ?_⟩
        rw [hfi] at hf'
        cases hf'
        refine ⟨g1, g2, fun y hy => ?_⟩
        rw [List.getElem?_eq_getElem (by omega)] at hy
        obtain rfl := Option.some.inj hy
        exact ⟨g3, g4⟩
      obtain ⟨rs, hrl, hrs⟩ := rows_of _ hrow
      have hall : All2 (PR (fun b _ => b < w.heap.size) w) rs.flatten cs := by
        rw [List.drop_zero] at k1
        refine k1 ▸ ?_
        refine all2_flatten (All2.of_get (by simp [hrl]) fun i r c hr hc => ?_)
        simp only [List.getElem?_map, Option.map_eq_some_iff] at hc
        obtain ⟨f, hff, rfl⟩ := hc
        have hff' : fs[i]? = some f := by simpa using hff
        exact (hrs i r hr f hff').2.1
      refine ⟨rs.flatten, .struct hu rs hrl (fun i f r hfi hr => ?_) (fun i f r hfi hr => (hrs i r hr f hfi).1), hall, ?_, ?_⟩
      · rw [(hrs i r hr f hfi).2.1.length]
        exact k3 f (Array.mem_toList_iff.2 (Array.mem_of_getElem? hfi))
      · rw [rowBulk_flatten]
        refine Nat.le_trans (bulk_rows hB rs (xs.map (·.1)) (by simp [hrl, hxl]) fun i r d hr hd => ?_) (hB.agg _)
        simp only [List.getElem?_map, Option.map_eq_some_iff] at hd
        obtain ⟨y, hy, rfl⟩ := hd
        have hi : i < fs.size := by rw [← hrl]; exact (List.getElem?_eq_some_iff.1 hr).1
        exact ((hrs i r hr _ (Array.getElem?_eq_getElem hi)).2.2 y hy).1
      · simp only [datRow]
        rw [rows_eq (by rw [hrl, hxl]) fun i r y hr hy => ((hrs i r hr _ (Array.getElem?_eq_getElem (by rw [← hrl]; exact (List.getElem?_eq_some_iff.1 hr).1))).2.2 y hy).2]
    · rename_i n e hu
      simp only [Bool.and_eq_true, List.contains_iff_mem] at hT
      obtain ⟨he, hz⟩ := hT
      have hz := Nat.eq_of_beq_eq_true hz
      obtain ⟨xs, m, hm, rfl, hcl, hxl, hf⟩ := DataW.trod_array hu h
      cases hm
      obtain ⟨k1, k2⟩ := split_rows (hcl.trans hz)
      have hrow : ∀ i, i < n → ∃ r, Wf P e r ∧ All2 (PR (fun b _ => b < w.heap.size) w) r ((cs.drop (i * P.cellsOf e)).take (P.cellsOf e)) ∧ ∀ y, xs[i]? = some y → rowBulk r ≤ B y.1 ∧ r = datRow y.1 := by
        intro i hi
        have h1 := hf i hi
        rw [List.getElem?_eq_getElem (by omega)] at h1
        obtain ⟨r, g1, g2, g3, g4⟩ := trod_plain hS' hB fuel e _ _ he h1
        refine ⟨r, g1, g2, fun y hy => ?_⟩
        rw [List.getElem?_eq_getElem (by omega)] at hy
        obtain rfl := Option.some.inj hy
        exact ⟨g3, g4⟩
      obtain ⟨rs, hrl, hrs⟩ := rows_of _ hrow
      refine ⟨rs.flatten, .arr hu rs hrl (fun r hr => ?_) (fun r hr => ?_), ?_, ?_, ?_⟩
      · obtain ⟨i, hi⟩ := List.getElem?_of_mem hr
        rw [(hrs i r hi).2.1.length]
        exact k2 i (by rw [← hrl]; exact (List.getElem?_eq_some_iff.1 hi).1)
      · obtain ⟨i, hi⟩ := List.getElem?_of_mem hr
        exact (hrs i r hi).1
      · refine k1 ▸ ?_
        refine all2_flatten (All2.of_get (by simp [hrl]) fun i r c hr hc => ?_)
        simp only [List.getElem?_map, Option.map_eq_some_iff] at hc
        obtain ⟨j, hj, rfl⟩ := hc
        have hlt : i < n := by have := (List.getElem?_eq_some_iff.1 hj).1; simpa using this
        rw [List.getElem?_range hlt] at hj
        cases hj
        exact (hrs i r hr).2.1
      · rw [rowBulk_flatten]
        refine Nat.le_trans (bulk_rows hB rs (xs.map (·.1)) (by simp [hrl, hxl]) fun i r d hr hd => ?_) (hB.agg _)
        simp only [List.getElem?_map, Option.map_eq_some_iff] at hd
        obtain ⟨y, hy, rfl⟩ := hd
        exact ((hrs i r hr).2.2 y hy).1
      · simp only [datRow]
        rw [rows_eq (by rw [hrl, hxl]) fun i r y hr hy => ((hrs i r hr).2.2 y hy).2]
    · cases hT

end Go.Ev
end
section
/- From a row's reading to the law's call. -/
namespace Go.Ev
open Go.ChangeShapes Go.WideShapes Go.ChangeAt Go.RowKit

variable {H : Type} {enc : TypeId × Value → H} {P : Program} {W : World}

def aggOf (P : Program) (t : TypeId) : Bool := match P.underlying t with
  | some (.struct _) | some (.array _ _) => true
  | _ => false
def argAV (agg : Bool) (ps : List PV) : AV := bif agg then .agg (ps.map .p) else match ps with
  | [d] => .p d
  | _ => .junk
def argAVs (P : Program) (ts : List TypeId) (ds : List (List PV)) : List AV := List.zipWith (fun t d => argAV (aggOf P t) d) ts ds

def L0 : Id → Loc := fun _ => mkLoc 0 0
def I0 (W : World) : Nat → Nat → Prop := fun b _ => b < W.heap.size

theorem VR_cells {sh : Id → Option Sh} {I : Nat → Nat → Prop} {ps : List PV} {cs : Array Value} (h : All2 (PR I W) ps cs.toList) : VR L0 sh I W (.agg (ps.map .p)) (.agg cs) := by
  have hl := h.length
  refine .agg (by simpa using hl.symm) (fun i x hx => ?_) fun i c x hi hx => ?_
  · have hlt : i < ps.length := by have := (Array.getElem?_eq_some_iff.1 hx).1; simp at hl; omega
    exact (h.get i _ x (List.getElem?_eq_getElem hlt) (by simpa using hx)).one
  · simp only [List.getElem?_map, Option.map_eq_some_iff] at hi
    obtain ⟨d, hd, rfl⟩ := hi
    exact .p (h.get i d x hd (by simpa using hx))

theorem arg_rel {S : List TypeId} (hS : plainB P S = true) {B : DataW H → Nat} {BA : List (DataW H) → Nat} (hB : Bulk B BA) {t : TypeId} (ht : t ∈ S) {base : Nat} {v : Value} {d : DataW H} {p : List MemPlace} {sh : Id → Option Sh}
    (hok : Value.okWide P W .any base t v) (h : DataW.Trod enc P W 0 (fun _ => true) true t v d p) : Wf P t (datRow d) ∧ rowBulk (datRow d) ≤ B d ∧ VR L0 sh (I0 W) W (argAV (aggOf P t) (datRow d)) v := by
  obtain ⟨fuel, h⟩ := h
  obtain ⟨ps, h1, h2, h3, rfl⟩ := trod_plain hS hB fuel t _ _ ht h
  simp only at h1 h2 h3
  refine ⟨h1, h3, ?_⟩
  have hone : (aggOf P t = false → ∀ x, (∀ u, P.underlying t = some u → True) → v.cells.toList = [x] → v = x) := by
    intro ha x _ hx
    cases v with
    | agg cs =>
      exfalso
      unfold aggOf at ha
      unfold Value.okWide Cell.okWide Cell.ok at hok
      split at hok
      · rename_i hu; rw [hu] at ha; cases ha
      · rename_i hu; rw [hu] at ha; cases ha
      · split at hok <;> first | exact hok.elim | simp_all
    | _ => simp [Value.cells] at hx; exact hx
  cases ha : aggOf P t with
  | true =>
    have : ∃ cs, v = .agg cs := by
      unfold aggOf at ha
      unfold Value.okWide at hok
      split at ha
      · rename_i hu; rw [hu] at hok; obtain ⟨cs, h, _⟩ := hok; exact ⟨cs, h⟩
      · rename_i hu; rw [hu] at hok; obtain ⟨cs, h, _⟩ := hok; exact ⟨cs, h⟩
      · cases ha
    obtain ⟨cs, rfl⟩ := this
    exact VR_cells h2
  | false =>
    simp only [argAV, cond_false]
    have hl : ∃ d', datRow d = [d'] := by
      unfold aggOf at ha
      generalize datRow d = qs at h1
      cases h1 with
      | bool hu b => exact ⟨_, rfl⟩
      | int hu n hw => exact ⟨_, rfl⟩
      | str hu s hs => exact ⟨_, rfl⟩
      | slice hu es hl hz hr => exact ⟨_, rfl⟩
      | arr hu ps hl hz hr => rw [hu] at ha; cases ha
      | struct hu ps hl hz hr => rw [hu] at ha; cases ha
    obtain ⟨d', hd'⟩ := hl
    rw [hd'] at h2
    generalize hc : v.cells.toList = l at h2
    cases h2 with
    | cons g1 g2 => cases g2 with
      | nil =>
        obtain rfl := hone ha _ (fun _ _ => trivial) hc
        rw [hd']
        exact .p g1

theorem args_rel {S : List TypeId} (hS : plainB P S = true) {B : DataW H → Nat} {BA : List (DataW H) → Nat} (hB : Bulk B BA) {base : Nat} {sh : Id → Option Sh} : ∀ {ts : List TypeId} {vs : List Value} {ds : List (DataW H)} {p : List MemPlace}, (∀ t ∈ ts, t ∈ S) →
    (∀ (j : Nat) t v, ts[j]? = some t → vs[j]? = some v → Value.okWide P W .any base t v) → DataW.TrodAll enc P W 0 (fun _ => true) true ts vs ds p →
    All2 (Wf P) ts (ds.map datRow) ∧ rowsBulk (ds.map datRow) ≤ BA ds ∧ All2 (VR L0 sh (I0 W) W) (argAVs P ts (ds.map datRow)) vs
  | [], vs, ds, p, _, _, h => by
    obtain ⟨rfl, rfl, rfl⟩ := trodAll_nil h
    exact ⟨.nil, Nat.zero_le _, .nil⟩
  | t :: ts, vs, ds, p, ht, hok, h => by
    obtain ⟨v, vs1, d, ds1, a, b, rfl, rfl, rfl, h1, h2⟩ := trodAll_cons h
    obtain ⟨g1, g2, g3⟩ := arg_rel (sh := sh) hS hB (ht t (by simp)) (hok 0 t v rfl rfl) h1
    obtain ⟨k1, k2, k3⟩ := args_rel (sh := sh) hS hB (fun t h => ht t (by simp [h])) (fun j t v h1 h2 => hok (j + 1) t v (by simpa using h1) (by simpa using h2)) h2
    have := hB.cons d ds1
    exact ⟨.cons g1 k1, by simp only [List.map_cons, rowsBulk]; omega, .cons g3 k3⟩

/-- A package-level variable holds these cells. -/
def GlobIs (W : World) (g : Nat) (cs : List PV) : Prop := ∃ vs : Nat → Value, ∀ (j : Nat) (d : PV), cs[j]? = some d → W.cell? ⟨g, j, none⟩ = some (vs j) ∧ PR (I0 W) W d (vs j)

theorem laidVars_mem {laid : List (String × DataW Unit)} {n : String} {d : DataW Unit} (hm : (n, d) ∈ laid) : ∀ {ps : List MemPlace}, DataW.LaidVars P W laid ps →
    ∃ g t cs fuel p, P.globalNamed n = some g ∧ (P.globals[g]?).map (·.type) = some t ∧ W.var? P n = some cs ∧ DataW.trod (fun _ => ()) P W 0 (fun _ => true) false fuel t cs.toList = some (d, p) := by
  induction laid with
  | nil => cases hm
  | cons x r ih =>
    intro ps h
    obtain ⟨n', d'⟩ := x
    obtain ⟨g, t, cs, fuel, p, q, h1, h2, h3, h4, h5, _⟩ := h
    rcases List.mem_cons.1 hm with he | hm
    · cases he
      exact ⟨g, t, cs, fuel, p, h1, h2, h3, h4⟩
    · exact ih hm h5

mutual
def dBulk {H : Type} : DataW H → Nat
  | .lit (.string bs) => bs.length + 1
  | .lit _ => 1
  | .nil => 1
  | .slice es _ => dBulks es + 1
  | .agg ds => dBulks ds
  | _ => 0
def dBulks {H : Type} : List (DataW H) → Nat
  | [] => 0
  | d :: r => dBulk d + dBulks r
end
theorem dBulk_ok : Bulk (H := H) dBulk dBulks where
  str bs := by simp [dBulk]
  lit l := by cases l <;> simp [dBulk]
  nil := by simp [dBulk]
  slice es sp := by simp [dBulk]
  agg ds := by simp [dBulk]
  cons d r := by simp [dBulks]

theorem glob_of {S : List TypeId} (hS : plainB P S = true) {laid : List (String × DataW Unit)} (h : laidMet P laid W) {n : String} {d : DataW Unit} (hm : (n, d) ∈ laid) {g : Nat} {t : TypeId} (hg : P.globalNamed n = some g)
    (ht : (P.globals[g]?).map (·.type) = some t) (hts : t ∈ S) : GlobIs W g (datRow d) := by
  obtain ⟨ps, hv, _⟩ := h
  obtain ⟨g', t', cs, fuel, p, h1, h2, h3, h4⟩ := laidVars_mem hm hv
  obtain rfl := Option.some.inj (hg.symm.trans h1)
  obtain rfl := Option.some.inj (ht.symm.trans h2)
  obtain ⟨qs, g1, g2, _, rfl⟩ := trod_plain hS dBulk_ok fuel t _ _ hts h4
  refine ⟨fun j => (cs[j]?).getD undef, fun j d' hj => ?_⟩
  have hlt : j < cs.size := by have := (List.getElem?_eq_some_iff.1 hj).1; have := g2.length; simp at this; omega
  have hc : cs[j]? = some cs[j] := Array.getElem?_eq_getElem hlt
  rw [World.var?_cell hg h3 j]
  simp only [hc, Option.getD_some]
  exact ⟨trivial, g2.get j d' _ hj (by simp)⟩

variable {cx : Cx}

theorem law_calls (hcx : CxOk cx) (hP : CallSound cx cx.prim) (hm : cx.P.follows .mixedOrders = true) {S : List TypeId} (hS : plainB cx.P S = true) {B : DataW H → Nat} {BA : List (DataW H) → Nat} (hB : Bulk B BA)
    {f : FuncId} {base : Nat} {ts : List TypeId} {args : Array Value} {ds : List (DataW H)} {p : List MemPlace} (hts : ∀ t ∈ ts, t ∈ S) (hok : ∀ (j : Nat) t v, ts[j]? = some t → args[j]? = some v → Value.okWide cx.P W .any base t v)
    (hA : DataW.TrodAll enc cx.P W 0 (fun _ => true) true ts args.toList ds p) (hg : ∀ g cs, cx.glob g = some cs → GlobIs W g cs) (hgi : GI cx (I0 W) W)
    (hlaw : All2 (Wf cx.P) ts (ds.map datRow) → rowsBulk (ds.map datRow) ≤ BA ds → EvCall cx f (argAVs cx.P ts (ds.map datRow)) [] (.p (.s (.bool true))) []) :
    Calls cx.P f args W fun e W' => e = .returned (.bool true) ∧ Below W.heap.size W W' := by
  obtain ⟨h1, h2, h3⟩ := args_rel (sh := (HS []).sh) hS hB hts (fun j t v h1 h2 => hok j t v h1 (by simpa using h2)) hA
  have hp : HP cx L0 (I0 W) [] W := by
    refine ⟨fun t => .junk, fun id o ho => ?_, fun i j hi => ?_, fun i hi => ?_, fun b o h => h, fun g cs hgc => ?_, rfl, rfl, hgi⟩
    · obtain ⟨_, h⟩ := HS_some ho; simp at h
    · obtain ⟨o, ho⟩ := Option.isSome_iff_exists.1 hi
      obtain ⟨_, h⟩ := HS_some ho; simp at h
    · obtain ⟨o, ho⟩ := Option.isSome_iff_exists.1 hi
      obtain ⟨_, h⟩ := HS_some ho; simp at h
    · obtain ⟨vs, hvs⟩ := hg g cs hgc
      refine .rp vs rfl (fun j d hj => ?_) (fun j d hj => by simpa using (hvs j d hj).1) fun j d hj => (hvs j d hj).2
      have := (hvs j d hj).1
      exact (cell?_spot this).2
  refine ((call_sound hcx hP hm f _ _ _ _ (hlaw h1 h2)).2 L0 (I0 W) W args hp h3).mono fun e W' h => ?_
  obtain ⟨v, L', I', rfl, _, hv, st⟩ := h
  refine ⟨by rw [hv.scal.1], st.os, st.tape, st.output, st.size, fun k hk => st.frame k hk fun id hid => ?_⟩
  obtain ⟨o, ho⟩ := Option.isSome_iff_exists.1 hid
  obtain ⟨_, h⟩ := HS_some ho
  simp at h

theorem trodAll_below {ts : List TypeId} (hl : laidOutB P = true) (hr : ∀ t ∈ ts, P.readableRec t = true ∧ t < P.types.size) {W' : World} (hb : Below W.heap.size W W') : ∀ {us : List TypeId} {vs : List Value} {ds : List (DataW H)} {ps : List MemPlace}, (∀ t ∈ us, t ∈ ts) →
    DataW.TrodAll enc P W 0 (fun _ => true) true us vs ds ps → (∀ x ∈ ps, x.block < W.heap.size) → DataW.TrodAll enc P W' 0 (fun b => decide (b < W.heap.size)) true us vs ds ps
  | [], vs, ds, ps, _, h, _ => by
    obtain ⟨rfl, rfl, rfl⟩ := trodAll_nil h
    rfl
  | t :: us, vs, ds, ps, hu, h, hlt => by
    obtain ⟨v, vs1, d, ds1, a, b, rfl, rfl, rfl, h1, h2⟩ := trodAll_cons h
    exact ⟨a, b, Below.trod hl (hr t (hu t (by simp))).1 (hr t (hu t (by simp))).2 h1 hb fun x hx => hlt x (by simp [hx]),
      trodAll_below hl hr hb (fun t h => hu t (by simp [h])) h2 fun x hx => hlt x (by simp [hx]), rfl⟩

/-- What the row asks behind the call. -/
theorem law_post {f : Func} {s : ChangeSpec} {W' : World} {args : Array Value} {ds gs : List (DataW H)} {before : List MemPlace} (hW : DataW.Whole enc P f.params.toList s.vars false W args.toList ds gs before) (hb : Below W.heap.size W W') (hl : laidOutB P = true)
    (hr : ∀ t ∈ f.params.toList, P.readableRec t = true ∧ t < P.types.size) {tb : TypeId} (hres : f.resultTypes = #[tb]) (htb : P.underlying tb = some .bool) (hv : s.vars = []) (hfn : s.fn H (ds ++ gs) = { results := [.lit (.bool true)], args := ds }) :
    s.post enc P f false true false false W args (.bool true) W' := by
  have hW' := hW
  obtain ⟨p, q, hA, hV, rfl, hz, hn⟩ := hW
  rw [hv] at hV
  obtain ⟨rfl, rfl⟩ := trodVars_none hV
  refine ⟨ds, [], _, [], p, [], hW', ?_, ?_, ?_, hb.frame _, fun h => by cases h⟩
  · rw [hfn, hres]
    exact trodAll_cons_mk (shut_bool htb _) trodAll_mk0
  · rw [hfn]
    exact trodAll_below hl hr hb (fun t h => h) hA fun x hx => hW'.lt x (by simp [hx])
  · rw [hfn, hv]
    rfl

end Go.Ev
end
section
/- The table of types, checked by evaluation. -/
namespace Go.Ev

def cloEq : Value → Value → Bool
  | .bool a, .bool b => a == b
  | .int k a, .int l b => k == l && a == b
  | .string a, .string b => a.data.toList == b.data.toList
  | .pointer none, .pointer none => true
  | .slice none 0 0, .slice none 0 0 => true
  | .map none, .map none => true
  | .nilFunc, .nilFunc => true
  | .nilIface, .nilIface => true
  | _, _ => false

theorem cloEq_eq {a b : Value} (h : cloEq a b = true) : a = b := by
  unfold cloEq at h
  split at h <;> first | rfl | skip
  · simp at h; rw [h]
  · simp at h; rw [h.1, h.2]
  · rename_i x y
    simp at h
    congr 1
    cases x; cases y; simp at h; rw [h]
  · cases h

def allEq : List Value → List Value → Bool
  | [], [] => true
  | a :: r, b :: q => cloEq a b && allEq r q
  | _, _ => false
theorem allEq_eq : ∀ {a b : List Value}, allEq a b = true → a = b
  | [], [], _ => rfl
  | a :: r, b :: q, h => by
    simp only [allEq, Bool.and_eq_true] at h
    rw [cloEq_eq h.1, allEq_eq h.2]
  | [], _ :: _, h => by cases h
  | _ :: _, [], h => by cases h

def natPairs : List (Nat × Nat) → List (Nat × Nat) → Bool
  | [], [] => true
  | a :: r, b :: q => Nat.beq a.1 b.1 && Nat.beq a.2 b.2 && natPairs r q
  | _, _ => false
theorem natPairs_eq : ∀ {a b : List (Nat × Nat)}, natPairs a b = true → a = b
  | [], [], _ => rfl
  | a :: r, b :: q, h => by
    simp only [natPairs, Bool.and_eq_true] at h
    rw [natPairs_eq h.2]
    congr 1
    exact Prod.ext (Nat.eq_of_beq_eq_true h.1.1) (Nat.eq_of_beq_eq_true h.1.2)
  | [], _ :: _, h => by cases h
  | _ :: _, [], h => by cases h

def undB (d : TypeDesc) (k : TK) : Bool := match k, d with
  | .int k, .int l => k == l
  | .bool, .bool => true
  | .str, .string => true
  | .struct fs, .struct gs => natPairs (gs.toList.map fun g => (g.offset, g.type)) fs
  | .arr n e, .array m f => Nat.beq n m && Nat.beq e f
  | .slice e, .slice f => Nat.beq e f
  | .ptr e, .pointer f => Nat.beq e f
  | .map k e, .map l f => Nat.beq k l && Nat.beq e f
  | .iface, .interface _ => true
  | .other, _ => true
  | _, _ => false

def TIokB (P : Program) (t : TypeId) (ti : TI) : Bool :=
  (match P.info? t with
    | some i => Nat.beq i.size ti.sz && Nat.beq i.bytes ti.by' && (match i.zero with
      | some z => allEq z.cells.toList ti.zero && zform ti.agg z
      | none => false)
    | none => false) &&
  (match P.underlying t with
    | some d => undB d ti.k && (ti.agg == (match d with | .struct _ | .array _ _ => true | _ => false))
    | none => false) &&
  ti.zero.all clo && Nat.beq ti.zero.length ti.sz && (ti.agg || Nat.beq ti.sz 1)

theorem TIok.of {P : Program} {t : TypeId} {ti : TI} (h : TIokB P t ti = true) : TIok P t ti := by
  simp only [TIokB, Bool.and_eq_true, Bool.or_eq_true] at h
  obtain ⟨⟨⟨⟨h1, h2⟩, h3⟩, h4⟩, h5⟩ := h
  refine ⟨?_, ?_, ?_, h3, Nat.eq_of_beq_eq_true h4, fun ha => ?_, fun i z hi hz => ?_⟩
  · split at h1
    · rename_i i hi
      simp only [Bool.and_eq_true] at h1
      obtain ⟨⟨g1, g2⟩, g3⟩ := h1
      split at g3
      · rename_i z hz
        simp only [Bool.and_eq_true] at g3
        exact ⟨i, z, hi, Nat.eq_of_beq_eq_true g1, Nat.eq_of_beq_eq_true g2, hz, allEq_eq g3.1⟩
      · cases g3
    · cases h1
  · split at h2
    · rename_i d hd
      simp only [Bool.and_eq_true] at h2
      have hu := h2.1
      unfold undB at hu
      cases hk : ti.k <;> rw [hk] at hu <;> cases d <;> simp only [Bool.false_eq_true] at hu <;> simp only [hd]
      · simp at hu; rw [hu]
      · exact ⟨_, rfl, natPairs_eq hu⟩
      · simp only [Bool.and_eq_true] at hu; rw [Nat.eq_of_beq_eq_true hu.1, Nat.eq_of_beq_eq_true hu.2]
      · rw [Nat.eq_of_beq_eq_true hu]
      · rw [Nat.eq_of_beq_eq_true hu]
      · simp only [Bool.and_eq_true] at hu; rw [Nat.eq_of_beq_eq_true hu.1, Nat.eq_of_beq_eq_true hu.2]
      · exact ⟨_, rfl⟩
    · cases h2
  · split at h2
    · rename_i d hd
      simp only [Bool.and_eq_true, beq_iff_eq] at h2
      exact ⟨d, hd, h2.2⟩
    · cases h2
  · rcases h5 with h | h
    · rw [ha] at h; cases h
    · exact Nat.eq_of_beq_eq_true h
  · rw [hi] at h1
    simp only [hz, Bool.and_eq_true] at h1
    exact h1.2.2

/-- A table as a tree. -/
inductive Tab where
  | leaf (t : Nat) (ti : TI)
  | node (m : Nat) (a b : Tab)
def Tab.get (t : Nat) : Tab → Option TI
  | .leaf u ti => bif Nat.beq t u then some ti else none
  | .node m a b => bif Nat.blt t m then a.get t else b.get t
def Tab.allB (p : Nat → TI → Bool) : Tab → Bool
  | .leaf u ti => p u ti
  | .node _ a b => a.allB p && b.allB p
theorem Tab.get_ok {p : Nat → TI → Bool} {t : Nat} {ti : TI} : ∀ {T : Tab}, T.allB p = true → T.get t = some ti → p t ti = true
  | .leaf u ti', h, hg => by
    simp only [Tab.get] at hg
    cases hb : Nat.beq t u with
    | true =>
      rw [hb] at hg
      simp only [cond_true, Option.some.injEq] at hg
      have := Nat.eq_of_beq_eq_true hb
      subst this
      subst hg
      exact h
    | false => rw [hb] at hg; cases hg
  | .node m a b, h, hg => by
    simp only [Tab.allB, Bool.and_eq_true] at h
    simp only [Tab.get] at hg
    cases hb : Nat.blt t m with
    | true => rw [hb] at hg; exact Tab.get_ok h.1 hg
    | false => rw [hb] at hg; exact Tab.get_ok h.2 hg

theorem CxOk.of {cx : Cx} {T : Tab} (ht : cx.ty = fun t => T.get t) (h : T.allB (TIokB cx.P) = true) : CxOk cx :=
  ⟨fun t ti hti => TIok.of (Tab.get_ok h (by rw [ht] at hti; exact hti))⟩

end Go.Ev
end
section
/- Loops: a round, the way out. -/
namespace Go.Ev

/-- The loops' bodies of a piece of code, in the order of the text (outer ones first). -/
def loopsOf : Code → List Code
  | .seq a b | .cond _ a b => loopsOf a ++ loopsOf b
  | .block _ c => loopsOf c
  | .loop c => c :: loopsOf c
  | _ => []
def loopBody (fn : Func) (k : Nat) : Code := match fn.body with
  | some c => ((loopsOf c)[k]?).getD .skip
  | none => .skip

variable {cx : Cx} {C : Rel} {c : Code} {σ σ' τ : St} {e : AE}

/-- What a round comes to. -/
def runRound (cx : Cx) (C : Rel) (c : Code) (σ : St) (ds : List Dec) (ts : List Nat) (is : List Id) : Option (AE × St × List Prop) := match runCode cx C c σ ds with
  | some (e, τ, _, cs) => bif keepOk τ ts is then some (e, τ.keep ts is, cs) else none
  | none => none

theorem runRound_ev {ds : List Dec} {ts : List Nat} {is : List Id} {cs : List Prop} (hc : AllL cs) (h : runRound cx C c σ ds ts is = some (e, σ', cs)) : EvCode cx C c σ e σ' := by
  unfold runRound at h
  split at h
  · rename_i e1 τ1 ds1 cs1 hr
    cases hk : keepOk τ1 ts is <;> simp only [hk, cond_true, cond_false] at h
    · cases h
    · simp only [Option.some.injEq, Prod.mk.injEq] at h
      obtain ⟨rfl, rfl, rfl⟩ := h
      exact .weakR (runCode_ev cx C c _ _ _ _ _ _ hr hc.all) hk
  · cases h

theorem EvCode.round (ds : List Dec) (ts : List Nat) (is : List Id) {cs : List Prop} (hc : AllL cs) (h : runRound cx C c σ ds ts is = some (.normal, σ', cs)) (k : EvCode cx C (.loop c) σ' e τ) : EvCode cx C (.loop c) σ e τ :=
  .loop (runRound_ev hc h) k

theorem EvCode.out (ds : List Dec) (ts : List Nat) (is : List Id) {cs : List Prop} (hc : AllL cs) (he : e ≠ .normal) (h : runRound cx C c σ ds ts is = some (e, σ', cs)) : EvCode cx C (.loop c) σ e σ' :=
  .loopE (runRound_ev hc h) he

/-- A piece of code along given decisions. -/
theorem EvCode.tail (ds : List Dec) (ts : List Nat) (is : List Id) {cs : List Prop} (hc : AllL cs) (h : runRound cx C c σ ds ts is = some (e, σ', cs)) : EvCode cx C c σ e σ' := runRound_ev hc h

theorem EvCode.kept {ts : List Nat} {is : List Id} (hk : keepOk σ' ts is = true) (h : EvCode cx C c σ e σ') : EvCode cx C c σ e (σ'.keep ts is) := .weakR h hk

end Go.Ev
end
section
/- Closed runs: an executor for values that are written out. -/
namespace Go.Ev

abbrev XC := FuncId → List AV → List AO → Option (AV × List AO)

def RP.x {α : Type} (C : XC) : RP α → St → Option (α × List Res)
  | .ret a, _ => some (a, [])
  | .rdE t k, σ => match (k (σ.getE t)).x C σ with
    | some (a, rs) => some (a, .e t :: rs)
    | none => none
  | .rdS i k, σ => match (k (σ.getS i)).x C σ with
    | some (a, rs) => some (a, .s i :: rs)
    | none => none
  | .br b k, σ => match b with
    | true => (k true).x C σ
    | false => (k false).x C σ
  | .need o k, σ => match o with
    | some d => (k d).x C σ
    | none => none
  | .norm y k, σ => (k y).x C σ
  | @RP.assert _ p d k, σ => match d with
    | isTrue _ => k.x C σ
    | isFalse _ => none
  | .call f args H k, σ => match C f args H with
    | some (r, H') => (k r H').x C σ
    | none => none
  | .alt h k, σ => match h with
    | true => (k true).x C σ
    | false => (k false).x C σ
  | .fail, _ => none

def XSound (C : XC) (R : Rel) : Prop := ∀ f args H r H', C f args H = some (r, H') → R f args H r H'

theorem RP.x_ev {α : Type} {C : XC} {R : Rel} (hC : XSound C R) (q : RP α) : ∀ (σ : St) (a : α) (rs : List Res), q.x C σ = some (a, rs) → q.ev R σ.fs a rs := by
  induction q with
  | ret a => intro σ a' rs h; simp only [RP.x, Option.some.injEq, Prod.mk.injEq] at h; exact ⟨h.1.symm, h.2.symm⟩
  | rdE t k ih =>
    intro σ a rs h
    simp only [RP.x] at h
    split at h
    · rename_i a' rs' h'
      simp only [Option.some.injEq, Prod.mk.injEq] at h
      obtain ⟨rfl, rfl⟩ := h
      exact ⟨_, rfl, ih _ σ _ _ h'⟩
    · cases h
  | rdS t k ih =>
    intro σ a rs h
    simp only [RP.x] at h
    split at h
    · rename_i a' rs' h'
      simp only [Option.some.injEq, Prod.mk.injEq] at h
      obtain ⟨rfl, rfl⟩ := h
      exact ⟨_, rfl, ih _ σ _ _ h'⟩
    · cases h
  | br b k ih =>
    intro σ a rs h
    cases b <;> exact ih _ σ a rs h
  | need o k ih =>
    intro σ a rs h
    cases o with
    | none => cases h
    | some d => exact ⟨d, rfl, ih _ σ a rs h⟩
  | norm y k ih => intro σ a rs h; exact ih _ σ a rs h
  | @assert p d k ih =>
    intro σ a rs h
    cases d with
    | isTrue hp => exact ⟨hp, ih σ a rs h⟩
    | isFalse hp => cases h
  | call f args H k ih =>
    intro σ a rs h
    simp only [RP.x] at h
    split at h
    · rename_i r H' h'
      exact ⟨r, H', hC _ _ _ _ _ h', ih _ _ σ a rs h⟩
    · cases h
  | alt b k ih =>
    intro σ a rs h
    cases b with
    | true => exact ⟨true, ih _ σ a rs h⟩
    | false => exact ⟨false, ih _ σ a rs h⟩
  | fail => intro σ a rs h; cases h

def xOps (cx : Cx) (C : XC) (ops : Array Oper) : List Oper → St → Option (St × List FP)
  | [], σ => some (σ, [])
  | o :: os, σ => match (stepG cx ops o).x C σ with
    | none => none
    | some (w, rs) => match xOps cx C ops os (σ.app w) with
      | none => none
      | some (τ, fps) => some (τ, ⟨rs, w.res⟩ :: fps)
theorem xOps_ev {cx : Cx} {C : XC} {R : Rel} (hC : XSound C R) (ops : Array Oper) : ∀ (os : List Oper) (σ τ : St) (fps : List FP), xOps cx C ops os σ = some (τ, fps) → evOps cx R ops os σ fps τ
  | [], σ, τ, fps, h => by simp only [xOps, Option.some.injEq, Prod.mk.injEq] at h; exact ⟨h.2.symm, h.1.symm⟩
  | o :: os, σ, τ, fps, h => by
    simp only [xOps] at h
    split at h
    · cases h
    · rename_i w rs h1
      split at h
      · cases h
      · rename_i τ' fps' h2
        simp only [Option.some.injEq, Prod.mk.injEq] at h
        obtain ⟨rfl, rfl⟩ := h
        exact ⟨w, rs, fps', RP.x_ev hC _ _ _ _ h1, rfl, xOps_ev hC ops os _ _ _ h2⟩

/-- Temporaries that a round of a loop makes anew. -/
def fresh : Code → List Nat
  | .region _ ops _ => ops.toList.filterMap fun o => match o.op with
    | .assign _ | .move _ => none
    | _ => o.dst
  | .seq a b | .cond _ a b => fresh a ++ fresh b
  | .block _ c | .loop c => fresh c
  | _ => []
/-- Ids that others lead to. -/
def reachIds (σ : St) : Nat → List Id → List Id → List Id
  | 0, _, acc => acc
  | _ + 1, [], acc => acc
  | n + 1, i :: r, acc => bif memId i acc then reachIds σ n r acc else match σ.getS i with
    | some o => reachIds σ n (o.ids ++ r) (i :: acc)
    | none => reachIds σ n r acc
/-- What is left behind a round. -/
def sweep (fr : List Nat) (σ : St) : Option St :=
  let ts := (σ.e.map (·.1)).filter fun t => !fr.contains t
  let is := reachIds σ 1000 (idsL (ts.map σ.getE) ++ (σ.s.map (·.1)).filter fun i => i.1 == 0) []
  bif keepOk σ ts is then some (σ.keep ts is) else none
theorem sweep_ev {cx : Cx} {C : Rel} {c : Code} {fr : List Nat} {σ τ τ' : St} {e : AE} (h : EvCode cx C c σ e τ) (hs : sweep fr τ = some τ') : EvCode cx C c σ e τ' := by
  unfold sweep at hs
  dsimp only at hs
  generalize (List.filter (fun t => !fr.contains t) (List.map (fun x => x.1) τ.e)) = ts at hs
  generalize (reachIds τ 1000 (idsL (ts.map τ.getE) ++ (τ.s.map (·.1)).filter fun i => i.1 == 0) []) = is at hs
  cases hk : keepOk τ ts is with
  | false => rw [hk] at hs; cases hs
  | true =>
    rw [hk] at hs
    simp only [cond_true, Option.some.injEq] at hs
    subst hs
    exact .weakR h hk

def xLoop (fr : List Nat) (step : St → Option (AE × St)) : Nat → St → Option (AE × St)
  | 0, _ => none
  | n + 1, σ => match step σ with
    | some (.normal, τ) => match sweep fr τ with
      | some τ => xLoop fr step n τ
      | none => none
    | r => r
def xCode (cx : Cx) (C : XC) (fuel : Nat) : Code → St → Option (AE × St)
  | .skip, σ => some (.normal, σ)
  | .region _ ops dr, σ => match xOps cx C ops ops.toList σ with
    | some (τ, fps) => bif !dr || okDraw ops fps then some (.normal, τ) else none
    | none => none
  | .seq a b, σ => match xCode cx C fuel a σ with
    | some (.normal, τ) => xCode cx C fuel b τ
    | r => r
  | .cond c x y, σ => match evB σ c with
    | some true => xCode cx C fuel x σ
    | some false => xCode cx C fuel y σ
    | none => none
  | .block id c, σ => match xCode cx C fuel c σ with
    | some (e, τ) => some (e.unblock id, τ)
    | none => none
  | .loop c, σ => xLoop (fresh c) (xCode cx C fuel c) fuel σ
  | .exit id, σ => some (.exit id, σ)
  | .ret, σ => some (.ret, σ)
  | _, _ => none

theorem xLoop_ev {cx : Cx} {R : Rel} {c : Code} {fr : List Nat} {step : St → Option (AE × St)} (hs : ∀ σ e τ, step σ = some (e, τ) → EvCode cx R c σ e τ) : ∀ (n : Nat) (σ : St) (e : AE) (τ : St), xLoop fr step n σ = some (e, τ) → EvCode cx R (.loop c) σ e τ
  | 0, σ, e, τ, h => by cases h
  | n + 1, σ, e, τ, h => by
    simp only [xLoop] at h
    split at h
    · rename_i τ1 h1
      split at h
      · rename_i τ2 h2
        exact .loop (sweep_ev (hs _ _ _ h1) h2) (xLoop_ev hs n _ _ _ h)
      · cases h
    · rename_i hne
      refine .loopE (hs _ _ _ h) ?_
      intro he
      subst he
      exact hne _ h
theorem xCode_ev {cx : Cx} {C : XC} {R : Rel} (hC : XSound C R) (fuel : Nat) (c : Code) : ∀ (σ : St) (e : AE) (τ : St), xCode cx C fuel c σ = some (e, τ) → EvCode cx R c σ e τ := by
  induction c with
  | skip => intro σ e τ h; simp only [xCode, Option.some.injEq, Prod.mk.injEq] at h; obtain ⟨rfl, rfl⟩ := h; exact .skip
  | region id ops dr =>
    intro σ e τ h
    simp only [xCode] at h
    split at h
    · rename_i τ' fps h1
      cases hb : !dr || okDraw ops fps with
      | false => rw [hb] at h; cases h
      | true =>
        rw [hb] at h
        simp only [cond_true, Option.some.injEq, Prod.mk.injEq] at h
        obtain ⟨rfl, rfl⟩ := h
        cases dr with
        | false => exact .region (xOps_ev hC ops _ _ _ _ h1)
        | true => exact .draw (xOps_ev hC ops _ _ _ _ h1) (by simpa using hb)
    · cases h
  | seq a b iha ihb =>
    intro σ e τ h
    simp only [xCode] at h
    split at h
    · rename_i τ1 h1
      exact .seq (iha _ _ _ h1) (ihb _ _ _ h)
    · rename_i hne
      refine .seqE (iha _ _ _ h) ?_
      intro he
      subst he
      exact hne _ h
  | cond c x y ihx ihy =>
    intro σ e τ h
    simp only [xCode] at h
    split at h
    · rename_i hb; exact .cond hb (ihx _ _ _ h)
    · rename_i hb; exact .cond hb (ihy _ _ _ h)
    · cases h
  | block id c ih =>
    intro σ e τ h
    simp only [xCode] at h
    split at h
    · rename_i e' τ' h1
      simp only [Option.some.injEq, Prod.mk.injEq] at h
      obtain ⟨rfl, rfl⟩ := h
      exact .block (ih _ _ _ h1)
    · cases h
  | loop c ih => intro σ e τ h; exact xLoop_ev ih _ _ _ _ h
  | exit id => intro σ e τ h; simp only [xCode, Option.some.injEq, Prod.mk.injEq] at h; obtain ⟨rfl, rfl⟩ := h; exact .exit
  | ret => intro σ e τ h; simp only [xCode, Option.some.injEq, Prod.mk.injEq] at h; obtain ⟨rfl, rfl⟩ := h; exact .ret
  | _ => intro σ e τ h; simp only [xCode] at h; cases h

/-- The functions that are run, by number. -/
abbrev FnTab := List (Nat × Func)
def FnTab.at : FnTab → Nat → Option Func
  | [], _ => none
  | (k, f) :: r, n => bif Nat.beq k n then some f else FnTab.at r n
def FnOk (cx : Cx) (k : Nat) (fn : Func) : Prop := cx.P.funcs[k]? = some fn ∧ ∀ (vs : Array Value) (w : World), (callFunc k vs).run cx.P w = .ok (.enter k vs) w
def xCall (cx : Cx) (T : FnTab) (fuel : Nat) : Nat → XC
  | 0 => fun _ _ _ => none
  | n + 1 => fun f args H => match T.at f with
    | none => none
    | some fn => match fn.body with
      | none => none
      | some c => bif dstsOk fn.ntmps c && Nat.ble args.length fn.ntmps then
        (match xCode cx (xCall cx T fuel n) fuel c (St.init args H) with
        | some (.exit _, _) => none
        | some (_, σ) => (match (finish cx f fn.results.toList H.length).x (xCall cx T fuel n) σ with
          | some (r, _) => some r
          | none => none)
        | none => none) else none
theorem FnTab.at_mem : ∀ {T : FnTab} {n : Nat} {f : Func}, T.at n = some f → (n, f) ∈ T
  | (k, g) :: r, n, f, h => by
    simp only [FnTab.at] at h
    cases hk : Nat.beq k n with
    | true =>
      rw [hk] at h
      cases h
      rw [Nat.eq_of_beq_eq_true hk]
      simp
    | false =>
      rw [hk] at h
      exact List.mem_cons_of_mem _ (FnTab.at_mem h)
theorem xCall_sound {cx : Cx} {T : FnTab} (hT : ∀ p ∈ T, FnOk cx p.1 p.2) (fuel : Nat) : ∀ n, XSound (xCall cx T fuel n) (EvCallN cx n)
  | 0 => fun f args H r H' h => by cases h
  | n + 1 => fun f args H r H' h => by
    simp only [xCall] at h
    split at h
    · cases h
    · rename_i fn hf
      obtain ⟨h1, h2⟩ := hT _ (FnTab.at_mem hf)
      split at h
      · cases h
      · rename_i c hb
        cases hg : dstsOk fn.ntmps c && Nat.ble args.length fn.ntmps with
        | false => rw [hg] at h; cases h
        | true =>
          rw [hg] at h
          simp only [cond_true] at h
          simp only [Bool.and_eq_true] at hg
          split at h
          · cases h
          · rename_i e σ hne hc
            split at h
            · rename_i x rs hfin
              simp only [Option.some.injEq] at h
              subst h
              refine .inr (.inr ⟨fn, c, σ, e, rs, h1, hb, hg.1, Nat.le_of_ble_eq_true hg.2, h2, xCode_ev (xCall_sound hT fuel n) _ _ _ _ _ hc, ?_, RP.x_ev (xCall_sound hT fuel n) _ _ _ _ hfin⟩)
              cases e with
              | normal => exact .inr rfl
              | ret => exact .inl rfl
              | exit id => exact (hne id rfl).elim
            · cases h
          · cases h
theorem xCall_ev {cx : Cx} {T : FnTab} (hT : ∀ p ∈ T, FnOk cx p.1 p.2) {fuel n f : Nat} {args : List AV} {H : List AO} {r : AV} {H' : List AO} (h : xCall cx T fuel n f args H = some (r, H')) : EvCall cx f args H r H' :=
  ⟨n, xCall_sound hT fuel n _ _ _ _ _ h⟩
end Go.Ev
end
section
/- Closed runs over calls that are known. -/
namespace Go.Ev

def xCallK (cx : Cx) (T : FnTab) (K : XC) (fuel : Nat) : Nat → XC
  | 0 => fun _ _ _ => none
  | n + 1 => fun f args H => match K f args H with
    | some r => some r
    | none => match T.at f with
      | none => none
      | some fn => match fn.body with
        | none => none
        | some c => bif dstsOk fn.ntmps c && Nat.ble args.length fn.ntmps then
          (match xCode cx (xCallK cx T K fuel n) fuel c (St.init args H) with
          | some (.exit _, _) => none
          | some (_, σ) => (match (finish cx f fn.results.toList H.length).x (xCallK cx T K fuel n) σ with
            | some (r, _) => some r
            | none => none)
          | none => none) else none
theorem xCallK_sound {cx : Cx} {T : FnTab} {K : XC} (hT : ∀ p ∈ T, FnOk cx p.1 p.2) (hK : XSound K (EvCall cx)) (fuel : Nat) : ∀ n, XSound (xCallK cx T K fuel n) (EvCall cx)
  | 0 => fun f args H r H' h => by cases h
  | n + 1 => fun f args H r H' h => by
    simp only [xCallK] at h
    split at h
    · rename_i r0 hk
      cases h
      exact hK _ _ _ _ _ hk
    split at h
    · cases h
    · rename_i fn hf
      obtain ⟨h1, h2⟩ := hT _ (FnTab.at_mem hf)
      split at h
      · cases h
      · rename_i c hb
        cases hg : dstsOk fn.ntmps c && Nat.ble args.length fn.ntmps with
        | false => rw [hg] at h; cases h
        | true =>
          rw [hg] at h
          simp only [cond_true] at h
          simp only [Bool.and_eq_true] at hg
          split at h
          · cases h
          · rename_i e σ hne hc
            split at h
            · rename_i x rs hfin
              simp only [Option.some.injEq] at h
              subst h
              obtain ⟨n1, hn1⟩ := (xCode_ev (xCallK_sound hT hK fuel n) _ _ _ _ _ hc).fin
              obtain ⟨m1, hm1⟩ := RP.ev_fin cx _ _ _ _ (RP.x_ev (xCallK_sound hT hK fuel n) _ _ _ _ hfin)
              refine ⟨max n1 m1 + 1, .inr (.inr ⟨fn, c, σ, e, rs, h1, hb, hg.1, Nat.le_of_ble_eq_true hg.2, h2, hn1.mono (EvCallN.le cx (Nat.le_max_left n1 m1)), ?_, RP.ev_mono (EvCallN.le cx (Nat.le_max_right n1 m1)) _ _ _ _ hm1⟩)⟩
              cases e with
              | normal => exact .inr rfl
              | ret => exact .inl rfl
              | exit id => exact (hne id rfl).elim
            · cases h
          · cases h
end Go.Ev
end
section
/- Small laws that the functions' proofs use. -/
namespace Go.Ev

theorem wrap_id {x : Int} (h1 : -9223372036854775808 ≤ x) (h2 : x ≤ 9223372036854775807) : IntKind.i64.wrap x = x := by
  simp only [IntKind.wrap, IntKind.min, IntKind.max, IntKind.signed, IntKind.bits] 
  simp
  omega

theorem wrapV {x : Int} (h1 : -9223372036854775808 ≤ x) (h2 : x ≤ 9223372036854775807) : Value.int .i64 (IntKind.i64.wrap x) = .int .i64 x := by rw [wrap_id h1 h2]

theorem rowI_at {α : Type} {l : List α} {f : α → List PV} {i : Nat} {x : α} (h : l[i]? = some x) : rowI (l.map f) (i : Int) = some (f x) := by
  have : (0 : Int) ≤ (i : Int) := by omega
  simp [rowI, this, h]

theorem get_of_split {α : Type} {l pre : List α} {x : α} {r : List α} (h : l = pre ++ x :: r) : l[pre.length]? = some x := by subst h; simp

def strs (l : List ByteArray) : List (List PV) := l.map fun s => [.s (.string s)]
theorem strs_length (l : List ByteArray) : (strs l).length = l.length := by simp [strs]

/-- The place of the first that p holds of. -/
def idxS {α : Type} (p : α → Bool) : List α → Nat → Option Nat
  | [], _ => none
  | x :: r, n => bif p x then some n else idxS p r (n + 1)

theorem idxS_ge {α : Type} {p : α → Bool} : ∀ {l : List α} {n j : Nat}, idxS p l n = some j → n ≤ j
  | [], n, j, h => by cases h
  | x :: r, n, j, h => by
    simp only [idxS] at h
    cases hp : p x with
    | true => rw [hp] at h; simp at h; omega
    | false => rw [hp] at h; have := idxS_ge (l := r) (n := n + 1) h; omega

theorem idxS_any {α : Type} {p : α → Bool} : ∀ {l : List α} {n : Nat}, (idxS p l n).isSome = l.any p
  | [], n => rfl
  | x :: r, n => by
    simp only [idxS, List.any_cons]
    cases hp : p x with
    | true => simp
    | false => simp; exact idxS_any

end Go.Ev
namespace Go.Ev
abbrev T : Dec := .v (.bool true)
abbrev F : Dec := .v (.bool false)
abbrev S (n : Nat) : List Dec := List.replicate n .same
theorem vb {a b : Bool} (h : a = b) : Value.bool a = .bool b := by rw [h]
theorem succV {n : Nat} {m : Nat} (h : n < m) (hm : m ≤ 2 ^ 62) : Value.int .i64 (IntKind.i64.wrap ((n : Int) + 1)) = .int .i64 ((n + 1 : Nat) : Int) := by rw [wrap_id (by omega) (by omega)]; simp
theorem ltT {n m : Nat} (h : n < m) : Value.bool (decide ((n : Int) < (m : Int))) = .bool true := by simp [h]
theorem ltF {n m : Nat} (h : ¬ n < m) : Value.bool (decide ((n : Int) < (m : Int))) = .bool false := by simp; omega
theorem rowsAre_map {α : Type} {l : List α} {f : α → List PV} {z : Nat} (h : ∀ x, (f x).length = z) : RowsAre z (l.map f) := by
  intro r hr
  obtain ⟨x, _, rfl⟩ := List.mem_map.1 hr
  exact h x

/-- Two lists, pairwise. -/
def eqL {α : Type} (p : α → α → Bool) : List α → List α → Bool
  | [], [] => true
  | a :: r, b :: q => p a b && eqL p r q
  | _, _ => false
theorem eqL_length {α : Type} {p : α → α → Bool} : ∀ {l k : List α}, l.length ≠ k.length → eqL p l k = false
  | [], [], h => absurd rfl h
  | [], _ :: _, _ => rfl
  | _ :: _, [], _ => rfl
  | a :: r, b :: q, h => by
    simp only [eqL]
    rw [eqL_length (by simpa using h)]
    simp
end Go.Ev
end
section
/- The document's data as Lean structures, and as rows of cells. -/
namespace Go.Ev

abbrev int (n : Int) : AV := .p (.s (.int .i64 n))
abbrev bool (n : Bool) : AV := .p (.s (.bool n))
abbrev str (n : ByteArray) : AV := .p (.s (.string n))
abbrev sl (n : List (List PV)) : AV := .p (.sl n)
abbrev pI (n : Int) : PV := .s (.int .i64 n)
abbrev pS (n : ByteArray) : PV := .s (.string n)
/-- A struct. -/
abbrev ag (r : List PV) : AV := .agg (r.map .p)

def idxOut (o : Option Nat) : AE × St := match o with
  | some j => (.ret, ⟨[(4, int j)], []⟩)
  | none => (.exit 0, ⟨[], []⟩)
def idxI (o : Option Nat) : Int := match o with
  | some j => j
  | none => -1
theorem idxI_any {α : Type} (p : α → Bool) (l : List α) : decide (idxI (idxS p l 0) ≥ 0) = l.any p := by
  rw [← idxS_any (n := 0)]
  cases idxS p l 0 with
  | none => rfl
  | some j => simp [idxI]

structure Val where
  kind : Int
  number : Int
  text : ByteArray
  list : List ByteArray
def Val.row (v : Val) : List PV := [pI v.kind, pI v.number, pS v.text, .sl (strs v.list)]

inductive Exp where
  | mk (op : Int) (kind name : ByteArray) (values : List Val) (kids : List Exp)
def Exp.op : Exp → Int | .mk o _ _ _ _ => o
def Exp.kind : Exp → ByteArray | .mk _ k _ _ _ => k
def Exp.name : Exp → ByteArray | .mk _ _ n _ _ => n
def Exp.values : Exp → List Val | .mk _ _ _ v _ => v
def Exp.kids : Exp → List Exp | .mk _ _ _ _ k => k
mutual
def Exp.rowR : Exp → List PV
  | .mk o k n vs ks => [pI o, pS k, pS n, .sl (vs.map Val.row), .sl (rowsE ks)]
def rowsE : List Exp → List (List PV)
  | [] => []
  | e :: r => e.rowR :: rowsE r
end
def Exp.row (e : Exp) : List PV := [pI e.op, pS e.kind, pS e.name, .sl (e.values.map Val.row), .sl (rowsE e.kids)]
theorem Exp.rowR_eq (e : Exp) : e.rowR = e.row := by cases e; simp [Exp.row, Exp.rowR, Exp.op, Exp.kind, Exp.name, Exp.values, Exp.kids]
theorem rowsE_map (l : List Exp) : rowsE l = l.map Exp.row := by
  induction l with
  | nil => rfl
  | cons x r ih => simp [rowsE, ih, Exp.rowR_eq]

structure Att where
  name : ByteArray
  value : Val
def Att.row (a : Att) : List PV := [pS a.name, pI a.value.kind, pI a.value.number, pS a.value.text, .sl (strs a.value.list)]
structure Ctx where
  kind : ByteArray
  key : ByteArray
  atts : List Att
def Ctx.row (c : Ctx) : List PV := [pS c.kind, pS c.key, .sl (c.atts.map Att.row)]
structure Seg where
  key : ByteArray
  kind : ByteArray
  incl : List ByteArray
  excl : List ByteArray
  when : Exp
def Seg.row (g : Seg) : List PV := [pS g.key, pS g.kind, .sl (strs g.incl), .sl (strs g.excl), pI g.when.op, pS g.when.kind, pS g.when.name, .sl (g.when.values.map Val.row), .sl (rowsE g.when.kids)]

end Go.Ev
namespace Go.Ev
def eqS (a b : ByteArray) : Bool := a.toList == b.toList
abbrev eqSs : List ByteArray → List ByteArray → Bool := eqL eqS
def eqV (v w : Val) : Bool := v.kind == w.kind && (v.number == w.number && (eqS v.text w.text && eqSs v.list w.list))
mutual
def eqE : Exp → Exp → Bool
  | .mk o k n vs ks, .mk o' k' n' vs' ks' => o == o' && (eqS k k' && (eqS n n' && (eqL eqV vs vs' && eqEs ks ks')))
def eqEs : List Exp → List Exp → Bool
  | [], [] => true
  | a :: r, b :: q => eqE a b && eqEs r q
  | _, _ => false
end
theorem eqEs_eqL : ∀ (l k : List Exp), eqEs l k = eqL eqE l k
  | [], [] => by simp [eqEs, eqL]
  | a :: r, b :: q => by simp [eqEs, eqL, eqEs_eqL r q]
  | [], _ :: _ => by simp [eqEs, eqL]
  | _ :: _, [] => by simp [eqEs, eqL]
theorem eqE_def (e f : Exp) : eqE e f = (e.op == f.op && (eqS e.kind f.kind && (eqS e.name f.name && (eqL eqV e.values f.values && eqL eqE e.kids f.kids)))) := by
  cases e; cases f
  simp [eqE, Exp.op, Exp.kind, Exp.name, Exp.values, Exp.kids, eqEs_eqL]
/-- No list in a condition is too long. -/
inductive Exp.Ok : Exp → Prop where
  | mk {e : Exp} (h1 : e.values.length ≤ 2 ^ 30) (h2 : ∀ v ∈ e.values, v.list.length ≤ 2 ^ 30) (h3 : e.kids.length ≤ 2 ^ 30) (h4 : ∀ k ∈ e.kids, Exp.Ok k) : Exp.Ok e
theorem Exp.Ok.vals {e : Exp} (h : e.Ok) : e.values.length ≤ 2 ^ 30 := by cases h; assumption
theorem Exp.Ok.lists {e : Exp} (h : e.Ok) : ∀ v ∈ e.values, v.list.length ≤ 2 ^ 30 := by cases h; assumption
theorem Exp.Ok.len {e : Exp} (h : e.Ok) : e.kids.length ≤ 2 ^ 30 := by cases h; assumption
theorem Exp.Ok.sub {e : Exp} (h : e.Ok) : ∀ k ∈ e.kids, k.Ok := by cases h; assumption
structure Ctx.Ok (c : Ctx) : Prop where
  len : c.atts.length ≤ 2 ^ 30
  lists : ∀ a ∈ c.atts, a.value.list.length ≤ 2 ^ 30
end Go.Ev
end
section
/- More small laws. -/
namespace Go.Ev

theorem EvCall.as {cx : Cx} {f : FuncId} {args : List AV} {H : List AO} {r r2 : AV} {H' H2 : List AO} (h : EvCall cx f args H r H') (hr : r = r2) (hH : H' = H2) : EvCall cx f args H r2 H2 := by
  subst hr; subst hH; exact h

theorem rowI_strs {l : List ByteArray} {i : Nat} {x : ByteArray} (h : l[i]? = some x) : rowI (strs l) (i : Int) = some [pS x] := rowI_at h
theorem get_map {α : Type} {l : List α} {f : α → List PV} {i : Nat} {x : α} (h : l[i]? = some x) : (l.map f)[i]? = some (f x) := by simp [h]
theorem get_strs {l : List ByteArray} {i : Nat} {x : ByteArray} (h : l[i]? = some x) : (strs l)[i]? = some [pS x] := get_map h
theorem get_map0 {α : Type} {l : List α} {f : α → List PV} {i : Nat} {x : α} (h : l[i]? = some x) : (l.map f)[0 + ((i : Nat) : Int).toNat]? = some (f x) := by simp [h]
theorem get_strs0 {l : List ByteArray} {i : Nat} {x : ByteArray} (h : l[i]? = some x) : (strs l)[0 + ((i : Nat) : Int).toNat]? = some [pS x] := get_map0 h
theorem rowI_rowsE {l : List Exp} {i : Nat} {x : Exp} (h : l[i]? = some x) : rowI (rowsE l) (i : Int) = some x.row := by rw [rowsE_map]; exact rowI_at h
theorem rowI_pt {l : List (List PV)} {i : Nat} {x : List PV} (h : l[i]? = some x) : rowI l (i : Int) = some x := by
  have : (0 : Int) ≤ (i : Int) := by omega
  simp [rowI, h]
theorem rowsE_length (l : List Exp) : (rowsE l).length = l.length := by rw [rowsE_map]; simp
theorem get_drop {α : Type} {l : List α} {i : Nat} (h : i < l.length) : ∃ x, l[i]? = some x ∧ l.drop i = x :: l.drop (i + 1) := ⟨l[i], by simp [h], by simp⟩

theorem rowsAre_rowsE (l : List Exp) : RowsAre 5 (rowsE l) := by rw [rowsE_map]; exact rowsAre_map fun _ => rfl
theorem natVi64 {e : Int} {n : Nat} (h1 : -9223372036854775808 ≤ e) (h2 : e ≤ 9223372036854775807) (h3 : e = (n : Int)) : Value.int .i64 (IntKind.i64.wrap e) = .int .i64 (n : Int) := by rw [wrap_id h1 h2, h3]
theorem wrap_u64 {x : Int} (h1 : 0 ≤ x) (h2 : x ≤ 18446744073709551615) : IntKind.u64.wrap x = x := by
  simp only [IntKind.wrap, IntKind.min, IntKind.max, IntKind.signed, IntKind.bits]
  simp
  omega
theorem natVu64 {e : Int} {n : Nat} (h1 : 0 ≤ e) (h2 : e ≤ 18446744073709551615) (h3 : e = (n : Int)) : Value.int .u64 (IntKind.u64.wrap e) = .int .u64 (n : Int) := by rw [wrap_u64 h1 h2, h3]
theorem wrapVu64 {e : Int} (h1 : 0 ≤ e) (h2 : e ≤ 18446744073709551615) : Value.int .u64 (IntKind.u64.wrap e) = .int .u64 e := by rw [wrap_u64 h1 h2]
theorem wrap_u32 {x : Int} (h1 : 0 ≤ x) (h2 : x ≤ 4294967295) : IntKind.u32.wrap x = x := by
  simp only [IntKind.wrap, IntKind.min, IntKind.max, IntKind.signed, IntKind.bits]
  simp
  omega
theorem natVu32 {e : Int} {n : Nat} (h1 : 0 ≤ e) (h2 : e ≤ 4294967295) (h3 : e = (n : Int)) : Value.int .u32 (IntKind.u32.wrap e) = .int .u32 (n : Int) := by rw [wrap_u32 h1 h2, h3]
theorem wrapVu32 {e : Int} (h1 : 0 ≤ e) (h2 : e ≤ 4294967295) : Value.int .u32 (IntKind.u32.wrap e) = .int .u32 e := by rw [wrap_u32 h1 h2]
theorem wrap_u16 {x : Int} (h1 : 0 ≤ x) (h2 : x ≤ 65535) : IntKind.u16.wrap x = x := by
  simp only [IntKind.wrap, IntKind.min, IntKind.max, IntKind.signed, IntKind.bits]
  simp
  omega
theorem natVu16 {e : Int} {n : Nat} (h1 : 0 ≤ e) (h2 : e ≤ 65535) (h3 : e = (n : Int)) : Value.int .u16 (IntKind.u16.wrap e) = .int .u16 (n : Int) := by rw [wrap_u16 h1 h2, h3]
theorem wrapVu16 {e : Int} (h1 : 0 ≤ e) (h2 : e ≤ 65535) : Value.int .u16 (IntKind.u16.wrap e) = .int .u16 e := by rw [wrap_u16 h1 h2]
theorem wrap_u8 {x : Int} (h1 : 0 ≤ x) (h2 : x ≤ 255) : IntKind.u8.wrap x = x := by
  simp only [IntKind.wrap, IntKind.min, IntKind.max, IntKind.signed, IntKind.bits]
  simp
  omega
theorem natVu8 {e : Int} {n : Nat} (h1 : 0 ≤ e) (h2 : e ≤ 255) (h3 : e = (n : Int)) : Value.int .u8 (IntKind.u8.wrap e) = .int .u8 (n : Int) := by rw [wrap_u8 h1 h2, h3]
theorem wrapVu8 {e : Int} (h1 : 0 ≤ e) (h2 : e ≤ 255) : Value.int .u8 (IntKind.u8.wrap e) = .int .u8 e := by rw [wrap_u8 h1 h2]
theorem wrap_i32 {x : Int} (h1 : -2147483648 ≤ x) (h2 : x ≤ 2147483647) : IntKind.i32.wrap x = x := by
  simp only [IntKind.wrap, IntKind.min, IntKind.max, IntKind.signed, IntKind.bits]
  simp
  omega
theorem natVi32 {e : Int} {n : Nat} (h1 : -2147483648 ≤ e) (h2 : e ≤ 2147483647) (h3 : e = (n : Int)) : Value.int .i32 (IntKind.i32.wrap e) = .int .i32 (n : Int) := by rw [wrap_i32 h1 h2, h3]
theorem wrapVi32 {e : Int} (h1 : -2147483648 ≤ e) (h2 : e ≤ 2147483647) : Value.int .i32 (IntKind.i32.wrap e) = .int .i32 e := by rw [wrap_i32 h1 h2]
theorem wrapVi64 {e : Int} (h1 : -9223372036854775808 ≤ e) (h2 : e ≤ 9223372036854775807) : Value.int .i64 (IntKind.i64.wrap e) = .int .i64 e := by rw [wrap_id h1 h2]
theorem AE.ne_ret : AE.ret ≠ .normal := by simp
theorem AE.ne_exit (i : Nat) : AE.exit i ≠ .normal := by simp
end Go.Ev
end
section
/- clause.atoms as a function on conditions. -/
namespace Go.Ev
def isTest (o : Int) : Bool := decide (o ≥ 6) && decide (o ≤ 15)
def wants (o : Int) : Bool := isTest o || o == 5
def addAtom (e : Exp) (l : List Exp) : List Exp := bif wants e.op && !(l.any fun x => eqE x e) then l ++ [e] else l
mutual
def atomsL : Exp → List Exp → List Exp
  | .mk o k n vs ks, l => atomsLs ks (addAtom (.mk o k n vs ks) l)
def atomsLs : List Exp → List Exp → List Exp
  | [], l => l
  | k :: r, l => atomsLs r (atomsL k l)
end
theorem atomsL_def (e : Exp) (l : List Exp) : atomsL e l = atomsLs e.kids (addAtom e l) := by cases e; simp [atomsL, Exp.kids]
mutual
def Exp.nodes : Exp → Nat
  | .mk _ _ _ _ ks => 1 + nodesL ks
def nodesL : List Exp → Nat
  | [] => 0
  | k :: r => k.nodes + nodesL r
end
theorem Exp.nodes_def (e : Exp) : e.nodes = 1 + nodesL e.kids := by cases e; simp [Exp.nodes, Exp.kids]
theorem nodesL_append (a b : List Exp) : nodesL (a ++ b) = nodesL a + nodesL b := by
  induction a with
  | nil => simp [nodesL]
  | cons x r ih => simp [nodesL, ih]; omega
theorem addAtom_len (e : Exp) (l : List Exp) : (addAtom e l).length ≤ l.length + 1 := by unfold addAtom; cases (wants e.op && !(l.any fun x => eqE x e)) <;> simp
theorem addAtom_ne {e : Exp} {l : List Exp} (h : l ≠ []) : addAtom e l ≠ [] := by unfold addAtom; cases (wants e.op && !(l.any fun x => eqE x e)) <;> simp [h]
theorem addAtom_ok {e : Exp} {l : List Exp} (he : e.Ok) (h : ∀ x ∈ l, x.Ok) : ∀ x ∈ addAtom e l, x.Ok := by
  unfold addAtom
  cases (wants e.op && !(l.any fun x => eqE x e)) with
  | false => exact h
  | true => intro x hx; rcases List.mem_append.1 hx with hx | hx; exact h x hx; simp at hx; subst hx; exact he
mutual
theorem atomsL_len : ∀ (e : Exp) (l : List Exp), (atomsL e l).length ≤ l.length + e.nodes
  | .mk o k n vs ks, l => by
    have h1 := atomsLs_len ks (addAtom (.mk o k n vs ks) l)
    have h2 := addAtom_len (.mk o k n vs ks) l
    simp only [atomsL, Exp.nodes]
    omega
theorem atomsLs_len : ∀ (ks l : List Exp), (atomsLs ks l).length ≤ l.length + nodesL ks
  | [], l => by simp [atomsLs, nodesL]
  | k :: r, l => by
    have h1 := atomsLs_len r (atomsL k l)
    have h2 := atomsL_len k l
    simp only [atomsLs, nodesL]
    omega
end
mutual
theorem atomsL_ne : ∀ (e : Exp) {l : List Exp}, l ≠ [] → atomsL e l ≠ []
  | .mk o k n vs ks, l, h => by simp only [atomsL]; exact atomsLs_ne ks (addAtom_ne h)
theorem atomsLs_ne : ∀ (ks : List Exp) {l : List Exp}, l ≠ [] → atomsLs ks l ≠ []
  | [], l, h => by simpa [atomsLs] using h
  | k :: r, l, h => by simp only [atomsLs]; exact atomsLs_ne r (atomsL_ne k h)
end
theorem atomsLs_ok' : ∀ (ks : List Exp), (∀ k ∈ ks, ∀ l : List Exp, (∀ x ∈ l, x.Ok) → ∀ x ∈ atomsL k l, x.Ok) → ∀ l : List Exp, (∀ x ∈ l, x.Ok) → ∀ x ∈ atomsLs ks l, x.Ok
  | [], _, l, h => by simpa [atomsLs] using h
  | k :: r, hk, l, h => by simp only [atomsLs]; exact atomsLs_ok' r (fun k' h' => hk k' (by simp [h'])) _ (hk k (by simp) l h)
theorem atomsL_ok {e : Exp} (he : e.Ok) : ∀ l : List Exp, (∀ x ∈ l, x.Ok) → ∀ x ∈ atomsL e l, x.Ok := by
  induction he with
  | @mk e h1 h2 h3 h4 ih =>
    intro l h
    rw [atomsL_def]
    exact atomsLs_ok' e.kids ih _ (addAtom_ok (.mk h1 h2 h3 h4) h)
/-- A list of conditions handed over with its memory. -/
def lAV (l : List Exp) : AV := match l with
  | [] => .p (.s nilS)
  | _ => .ms (0, 0) 0 l.length l.length
def lH (l : List Exp) (fz : Nat) : List AO := match l with
  | [] => []
  | _ => [.arr 5 (l.map Exp.row) fz]
theorem lAV_ne {l : List Exp} (h : l ≠ []) : lAV l = .ms (0, 0) 0 l.length l.length := by cases l with | nil => exact absurd rfl h | cons _ _ => rfl
theorem lH_ne {l : List Exp} (h : l ≠ []) (fz : Nat) : lH l fz = [.arr 5 (l.map Exp.row) fz] := by cases l with | nil => exact absurd rfl h | cons _ _ => rfl
end Go.Ev
end
section
/- Maps keyed by texts, typed. -/
namespace Go.Ev

variable {α : Type}
/-- A map's entries. -/
def mR (row : α → List PV) (M : List (ByteArray × α)) : List (Value × List PV) := M.map fun p => (.string p.1, row p.2)
def mGet : List (ByteArray × α) → ByteArray → Option α
  | [], _ => none
  | (k, v) :: r, x => bif eqS x k then some v else mGet r x
def mSet : List (ByteArray × α) → ByteArray → α → List (ByteArray × α)
  | [], x, d => [(x, d)]
  | (k, v) :: r, x, d => bif eqS x k then (k, d) :: r else (k, v) :: mSet r x d
theorem mR_has (row : α → List PV) (M : List (ByteArray × α)) (x : ByteArray) : mapHas (mR row M) (.string x) = (mGet M x).isSome := by
  induction M with
  | nil => rfl
  | cons p r ih =>
    simp only [mR, List.map_cons, mapHas, keyEq, mGet, eqS]
    cases hk : x.toList == p.1.toList with
    | true => rfl
    | false => simp only [Bool.false_or, cond_false]; exact ih
theorem mR_get (row : α → List PV) (M : List (ByteArray × α)) (x : ByteArray) : mapGet (mR row M) (.string x) = (mGet M x).map row := by
  induction M with
  | nil => rfl
  | cons p r ih =>
    simp only [mR, List.map_cons, mapGet, keyEq, mGet, eqS]
    cases hk : x.toList == p.1.toList with
    | true => rfl
    | false => simp only [cond_false]; exact ih
theorem mR_set (row : α → List PV) (M : List (ByteArray × α)) (x : ByteArray) (v : α) : mapSet (mR row M) (.string x) (row v) = mR row (mSet M x v) := by
  induction M with
  | nil => rfl
  | cons p r ih =>
    simp only [mR, List.map_cons, mapSet, keyEq, mSet, eqS]
    cases hk : x.toList == p.1.toList with
    | true => rfl
    | false =>
      simp only [cond_false, List.map_cons]
      have := ih
      simp only [mR] at this
      rw [this]
theorem mR_keys (cx : Cx) (t : TypeId) (ti : TI) (h1 : cx.ty t = some ti) (h2 : ti.k = .str) (row : α → List PV) (M : List (ByteArray × α)) (x : ByteArray) : (∀ y ∈ mR row M, keyB cx.ty t y.1 = true) ∧ keyB cx.ty t (.string x) = true := by
  have hk : ∀ s, keyB cx.ty t (.string s) = true := fun s => by simp [keyB, h1, h2]
  refine ⟨fun y hy => ?_, hk x⟩
  simp only [mR, List.mem_map] at hy
  obtain ⟨p, _, rfl⟩ := hy
  exact hk p.1
theorem mGet_set (M : List (ByteArray × α)) (x y : ByteArray) (v : α) : mGet (mSet M x v) y = bif eqS y x then some v else mGet M y := by
  induction M with
  | nil => simp [mSet, mGet]
  | cons p r ih =>
    simp only [mSet]
    cases hk : eqS x p.1 with
    | true =>
      have : x.toList = p.1.toList := by simpa [eqS] using hk
      simp only [cond_true, mGet]
      cases h1 : eqS y p.1 with
      | true =>
        have h2 : eqS y x = true := by simp only [eqS, beq_iff_eq] at h1 ⊢; rw [h1, this]
        simp [h2]
      | false =>
        have h2 : eqS y x = false := by simp only [eqS] at h1 ⊢; rw [this]; exact h1
        simp [h2]
    | false =>
      simp only [cond_false, mGet]
      rw [ih]
      cases h1 : eqS y p.1 with
      | true =>
        have h2 : eqS y x = false := by
          cases h2 : eqS y x with
          | false => rfl
          | true =>
            simp only [eqS, beq_iff_eq] at h1 h2
            have : eqS x p.1 = true := by simp only [eqS, beq_iff_eq]; rw [← h2, h1]
            rw [hk] at this; cases this
        simp [h2]
      | false => rfl
end Go.Ev
end
