/- A part of the proofs of this seat's laws (abstract interpretation of the translated program, and contracts of its functions); no statement of its own. -/
import Derived.Orders
import Derived.Below
import Derived.Laws.AppendOwn
import Derived.Laws.MakeOwn
import Derived.Great.BuildSlice
import Derived.MapKept
import Derived.Laws.Small
set_option linter.unusedVariables false
set_option linter.unusedSimpArgs false
section
/- The abstract interpreter: values, states, operations as read/write programs, big-step relation. -/
namespace Go.Ev

/-- Pure data: a scalar that holds no address, or an immutable slice (rows of cells). -/
inductive PV where
  | s (x : Value)
  | sl (es : List (List PV))
  | ne

abbrev Id := Nat × Nat

/-- Abstract values. -/
inductive AV where
  | p (d : PV)
  | itr (id : Id)
  | ni
  | agg (cs : List AV)
  | rp (cs : List PV)
  | ref (id : Id) (off : Nat)
  | er (id : Id) (i j N : Nat)
  | ms (id : Id) (off n N : Nat)
  | mp (id : Id)
  | gv (id : Id) (k : Value) (ver : Nat)
  | gn (id : Id) (ver : Nat)
  | fn (f : FuncId) (caps : List AV)
  | tup (vs : List AV)
  | junk

/-- Tracked objects. -/
inductive AO where
  | cells (cs : List AV)
  | arr (sz : Nat) (es : List (List PV)) (fz : Nat)
  | map (agg : Bool) (es : List (Value × List PV))
  | gm (es : List (Value × List PV)) (pe : Option (Value × List (List PV))) (ver : Nat)
  | it (s : ByteArray) (pos : Nat)

structure St where
  e : List (Nat × AV)
  s : List (Id × AO)

def idEq (a b : Id) : Bool := a.1 == b.1 && a.2 == b.2

theorem idEq_iff {a b : Id} : idEq a b = true ↔ a = b := by
  cases a; cases b; simp [idEq]

def lkE : List (Nat × AV) → Nat → AV
  | [], _ => .junk
  | (u, v) :: r, t => bif u == t then v else lkE r t
def lkS : List (Id × AO) → Id → Option AO
  | [], _ => none
  | (u, v) :: r, i => bif idEq u i then some v else lkS r i
def St.getE (σ : St) (t : Nat) : AV := lkE σ.e t
def St.getS (σ : St) (i : Id) : Option AO := lkS σ.s i
def rmS : List (Id × AO) → Id → List (Id × AO)
  | [], _ => []
  | (u, v) :: r, i => bif idEq u i then rmS r i else (u, v) :: rmS r i
def rmE : List (Nat × AV) → Nat → List (Nat × AV)
  | [], _ => []
  | (u, v) :: r, t => bif u == t then rmE r t else (u, v) :: rmE r t
def St.setE (σ : St) (t : Nat) (v : AV) : St := { σ with e := (t, v) :: rmE σ.e t }
def St.setS (σ : St) (i : Id) (o : AO) : St := { σ with s := (i, o) :: rmS σ.s i }

structure Wr where
  e : List (Nat × AV) := []
  s : List (Id × AO) := []

def St.app (σ : St) (w : Wr) : St :=
  w.e.foldl (fun τ (tv : Nat × AV) => τ.setE tv.1 tv.2) (w.s.foldl (fun τ (io : Id × AO) => τ.setS io.1 io.2) σ)

/-- A state as two functions. -/
structure FS where
  ge : Nat → AV
  gs : Id → Option AO
def St.fs (σ : St) : FS := ⟨σ.getE, σ.getS⟩
def FS.setE (F : FS) (t : Nat) (v : AV) : FS := { F with ge := fun u => bif t == u then v else F.ge u }
def FS.setS (F : FS) (i : Id) (o : AO) : FS := { F with gs := fun j => bif idEq i j then some o else F.gs j }
def FS.app (F : FS) (w : Wr) : FS :=
  w.e.foldl (fun F (tv : Nat × AV) => F.setE tv.1 tv.2) (w.s.foldl (fun F (io : Id × AO) => F.setS io.1 io.2) F)

inductive Res where
  | e (t : Nat)
  | s (i : Id)
  deriving DecidableEq

/-- An operation as a program that reads the state and ends in a list of writes. -/
inductive RP (α : Type) where
  | ret (a : α)
  | rdE (t : Nat) (k : AV → RP α)
  | rdS (i : Id) (k : Option AO → RP α)
  | br (b : Bool) (k : Bool → RP α)
  | need (o : Option (List PV)) (k : List PV → RP α)
  | norm (x : Value) (k : Value → RP α)
  | assert (p : Prop) [d : Decidable p] (k : RP α)
  | call (f : FuncId) (args : List AV) (H : List AO) (k : AV → List AO → RP α)
  | alt (hint : Bool) (k : Bool → RP α)
  | fail

abbrev Rel := FuncId → List AV → List AO → AV → List AO → Prop

/-- What a program does: reads rs, result a. -/
def RP.ev {α : Type} (C : Rel) : RP α → FS → α → List Res → Prop
  | .ret a, _, a', rs => a' = a ∧ rs = []
  | .rdE t k, F, a', rs => ∃ r, rs = .e t :: r ∧ (k (F.ge t)).ev C F a' r
  | .rdS i k, F, a', rs => ∃ r, rs = .s i :: r ∧ (k (F.gs i)).ev C F a' r
  | .br b k, F, a', rs => (k b).ev C F a' rs
  | .need o k, F, a', rs => ∃ d, o = some d ∧ (k d).ev C F a' rs
  | .norm x k, F, a', rs => (k x).ev C F a' rs
  | @RP.assert _ p _ k, F, a', rs => p ∧ k.ev C F a' rs
  | .call f args H k, F, a', rs => ∃ r H', C f args H r H' ∧ (k r H').ev C F a' rs
  | .alt _ k, F, a', rs => ∃ b, (k b).ev C F a' rs
  | .fail, _, _, _ => False
def RP.chk {α : Type} (b : Bool) (k : RP α) : RP α := bif b then k else .fail

/- ---------------------------------------------------------------- the program's tables, as far as they are used -/
inductive TK where
  | int (k : IntKind)
  | bool
  | str
  | struct (fs : List (Nat × Nat))      -- offset, type
  | arr (n e : Nat)
  | slice (e : Nat)
  | ptr (e : Nat)
  | map (k e : Nat)
  | iface
  | other

structure TI where
  sz : Nat
  by' : Nat
  agg : Bool
  k : TK
  zero : List Value

structure Cx where
  P : Program
  ints : List Nat
  ty : TypeId → Option TI
  glob : Nat → Option (List PV)
  prim : Rel

def nilS : Value := .slice none 0 0

/-- A map's key. -/
def keyVal : AV → Option Value
  | .p (.s x) => some x
  | .agg cs => (cs.mapM fun (c : AV) => (match c with | .p (.s x) => some x | _ => none : Option Value)).map fun l => .agg l.toArray
  | _ => none
/-- A key of a type. -/
def keyB (ty : TypeId → Option TI) (t : TypeId) (v : Value) : Bool := match ty t with
  | some ti => match ti.k, v with
    | .str, .string _ => true
    | .int k, .int k' _ => k' == k
    | .bool, .bool _ => true
    | _, _ => false
  | none => false
def isStr : Value → Bool
  | .string _ => true
  | _ => false
def keyEq : Value → Value → Bool
  | .string a, .string b => a.toList == b.toList
  | .int _ a, .int _ b => a == b
  | .bool a, .bool b => a == b
  | _, _ => false
def mapGet : List (Value × List PV) → Value → Option (List PV)
  | [], _ => none
  | (k, v) :: r, x => bif keyEq x k then some v else mapGet r x
def mapHas : List (Value × List PV) → Value → Bool
  | [], _ => false
  | (k, _) :: r, x => keyEq x k || mapHas r x
def mapSet : List (Value × List PV) → Value → List PV → List (Value × List PV)
  | [], x, d => [(x, d)]
  | (k, v) :: r, x, d => bif keyEq x k then (k, d) :: r else (k, v) :: mapSet r x d
def mapDel : List (Value × List PV) → Value → List (Value × List PV)
  | [], _ => []
  | (k, v) :: r, x => bif keyEq x k then r else (k, v) :: mapDel r x
def foldI (f : Int → Int → Int) : List AV → Option Value
  | .p (.s (.int k n)) :: r => (r.mapM fun (c : AV) => (match c with | .p (.s (.int _ x)) => some x | _ => none : Option Int)).map fun l => .int k (l.foldl f n)
  | _ => none

/-- A scalar without an address. -/
def clo : Value → Bool
  | .bool _ | .int _ _ | .float _ _ | .string _ | .pointer none | .slice none 0 0 | .map none | .nilFunc | .nilIface => true
  | _ => false

def constAV (v : Value) : AV :=
  match v with
  | .agg cs => bif cs.toList.all clo then .agg (cs.toList.map fun c => .p (.s c)) else .junk
  | v => bif clo v then .p (.s v) else .junk

section
variable {α : Type} (cx : Cx)

def rdV (x : Operand) (k : AV → RP α) : RP α :=
  match x with
  | .tmp t => .rdE t k
  | .const v => k (constAV v)
  | .global g => match cx.glob g with
    | some cs => k (.rp cs)
    | none => .fail
  | .func f => k (.fn f [])

/-- Several operands. -/
def rdVs (xs : List Operand) (k : List AV → RP α) : RP α :=
  match xs with
  | [] => k []
  | x :: r => rdV cx x fun v => rdVs r fun vs => k (v :: vs)

def withTy (t : TypeId) (k : TI → RP α) : RP α :=
  match cx.ty t with
  | some ti => k ti
  | none => .fail

def scal (v : AV) (k : Value → RP α) : RP α :=
  match v with
  | .p (.s x) => k x
  | _ => .fail
def asI (v : AV) (k : IntKind → Int → RP α) : RP α :=
  match v with
  | .p (.s (.int kd n)) => k kd n
  | _ => .fail
def asB (v : AV) (k : Bool → RP α) : RP α :=
  match v with
  | .p (.s (.bool b)) => k b
  | _ => .fail

/-- The cells of a value. -/
def AV.cellsOf : AV → Option (List AV)
  | .agg cs => some cs
  | .tup _ | .junk => none
  | v => some [v]

def AV.isAgg : AV → Bool
  | .agg _ => true
  | _ => false

/-- A value read as one of its type out of cells. -/
def ofCells (ti : TI) (cs : List AV) : Option AV :=
  if ti.agg then (if cs.length = ti.sz then some (.agg cs) else none)
  else match cs with
    | [c] => some c
    | _ => none

/-- nil slices lose their being nil where they become pure data. -/
def nrm : PV → PV
  | .s (.slice none 0 0) => .sl []
  | .ne => .sl []
  | d => d

abbrev Ov := List (Id × AO)
/-- A slot, as an overlay has it. -/
def rdO (ov : Ov) (i : Id) (k : Option AO → RP α) : RP α :=
  match lkS ov i with
  | some o => k (some o)
  | none => .rdS i k

/-- One cell as pure data; a slice of the call's own is frozen. -/
def toPV (v : AV) (ov : Ov) (k : PV → Ov → RP α) : RP α :=
  match v with
  | .p d => k (nrm d) ov
  | .ms id off n N => rdO ov id fun
    | some (.arr sz es _) => .assert (es.length = N ∧ off + n ≤ N) <| .need (some [.sl ((es.drop off).take n)]) fun
      | [d] => k d ((id, .arr sz es es.length) :: rmS ov id)
      | _ => .fail
    | _ => .fail
  | _ => .fail
def toPVs (vs : List AV) (ov : Ov) (k : List PV → Ov → RP α) : RP α :=
  match vs with
  | [] => k [] ov
  | v :: r => toPV v ov fun d ov => toPVs r ov fun ds ov => k (d :: ds) ov

/-- Slices of the call's own in a value become pure data. -/
def snapCells (vs : List AV) (ov : Ov) (k : List AV → Ov → RP α) : RP α :=
  match vs with
  | [] => k [] ov
  | .ms id off n N :: r => toPV (.ms id off n N) ov fun d ov => snapCells r ov fun ds ov => k (.p d :: ds) ov
  | .p d :: r => snapCells r ov fun ds ov => k (.p (nrm d) :: ds) ov
  | v :: r => snapCells r ov fun ds ov => k (v :: ds) ov
def snap (v : AV) (ov : Ov) (k : AV → Ov → RP α) : RP α :=
  match v with
  | .agg cs => snapCells cs ov fun ds ov => k (.agg ds) ov
  | v => snapCells [v] ov fun ds ov => match ds with
    | [d] => k d ov
    | _ => .fail
def snaps (vs : List AV) (ov : Ov) (k : List AV → Ov → RP α) : RP α :=
  match vs with
  | [] => k [] ov
  | v :: r => snap v ov fun d ov => snaps r ov fun ds ov => k (d :: ds) ov

mutual
def AV.ids : AV → List Id
  | .ref i _ | .er i _ _ _ | .ms i _ _ _ | .mp i | .itr i | .gv i _ _ | .gn i _ => [i]
  | .agg cs | .fn _ cs | .tup cs => idsL cs
  | .p _ | .ni | .rp _ | .junk => []
def idsL : List AV → List Id
  | [] => []
  | v :: r => v.ids ++ idsL r
end
def AO.ids : AO → List Id
  | .cells cs => idsL cs
  | .arr _ _ _ | .map _ _ | .gm _ _ _ | .it _ _ => []

mutual
def AV.ren (ρ : Id → Id) : AV → AV
  | .ref i o => .ref (ρ i) o
  | .er i a b N => .er (ρ i) a b N
  | .ms i a b N => .ms (ρ i) a b N
  | .mp i => .mp (ρ i)
  | .gv i k v => .gv (ρ i) k v
  | .gn i v => .gn (ρ i) v
  | .itr i => .itr (ρ i)
  | .agg cs => .agg (renL ρ cs)
  | .fn f cs => .fn f (renL ρ cs)
  | .tup cs => .tup (renL ρ cs)
  | .p d => .p d
  | .ni => .ni
  | .rp cs => .rp cs
  | .junk => .junk
def renL (ρ : Id → Id) : List AV → List AV
  | [] => []
  | v :: r => v.ren ρ :: renL ρ r
end
def AO.ren (ρ : Id → Id) : AO → AO
  | .cells cs => .cells (renL ρ cs)
  | .arr sz es fz => .arr sz es fz
  | .map g es => .map g es
  | .gm es pe v => .gm es pe v
  | .it s p => .it s p

def memId (i : Id) : List Id → Bool
  | [] => false
  | j :: r => idEq j i || memId i r

/-- The objects to which ids lead, in the order in which they are met. -/
def reach (fuel : Nat) (todo : List Id) (acc : List (Id × AO)) (ov : Ov) (k : List (Id × AO) → RP α) : RP α :=
  match fuel with
  | 0 => .fail
  | fuel + 1 =>
    match todo with
    | [] => k acc
    | i :: r => if memId i (acc.map (·.1)) then reach fuel r acc ov k else rdO ov i fun
      | some o => reach fuel (r ++ o.ids) (acc ++ [(i, o)]) ov k
      | none => .fail

def idxOf (i : Id) : List Id → Nat → Option Nat
  | [], _ => none
  | j :: r, n => bif idEq j i then some n else idxOf i r (n + 1)
/-- From a caller's ids to a callee's. -/
def inRen (L : List Id) (i : Id) : Id := match idxOf i L 0 with
  | some n => (0, n)
  | none => (0, 0)
/-- From a callee's ids to a caller's; d: the tmp that takes the call's result. -/
def outRen (L : List Id) (d : Nat) (i : Id) : Id := (L[i.2]?).getD (d + 1, i.2 - L.length)

def newIds (d : Nat) : Nat → List Id
  | 0 => []
  | n + 1 => newIds d n ++ [(d + 1, n)]

/-- All of these slots are free. -/
def free (is : List Id) (k : RP α) : RP α :=
  match is with
  | [] => k
  | i :: r => .rdS i fun
    | none => free r k
    | some _ => .fail

def dstW (o : Oper) (v : AV) : List (Nat × AV) := match o.dst with
  | some d => [(d, v)]
  | none => []

def callP (o : Oper) (fv : AV) (args : List AV) : RP Wr :=
  match fv with
  | .fn f caps =>
    .alt false fun byRef => (if byRef then fun (k : List AV → Ov → RP Wr) => k args [] else snaps args []) fun args ov =>
    reach 40 (idsL (args ++ caps)) [] ov fun objs =>
    let L := objs.map (·.1)
    .call f (renL (inRen L) (args ++ caps)) (objs.map fun x => x.2.ren (inRen L)) fun r H' =>
    let d := o.dst.getD 0
    .chk (Nat.ble L.length H'.length && (Nat.beq H'.length L.length || o.dst.isSome)) <|
    free (newIds d (H'.length - L.length)) <|
    .ret { e := dstW o (r.ren (outRen L d)), s := ov ++ List.zip (L ++ newIds d (H'.length - L.length)) (H'.map fun x => x.ren (outRen L d)) }
  | _ => .fail

/-- A new object at the operation's own place. -/
def newO (o : Oper) (x : AO) (v : Id → AV) (ov : Ov := []) : RP Wr :=
  match o.dst with
  | some d => free [(d + 1, 0)] <| .ret { e := [(d, v (d + 1, 0))], s := ov ++ [((d + 1, 0), x)] }
  | none => .fail

def place (fs : List (Nat × Nat)) (zero : List AV) (parts : List (Nat × AV)) : Option (List AV) :=
  match parts with
  | [] => some zero
  | (i, v) :: r => match fs[i]? with
    | some (off, sz) =>
      match v.cellsOf with
      | some vs => if vs.length = sz ∧ off + sz ≤ zero.length then place fs (zero.take off ++ vs ++ zero.drop (off + sz)) r else none
      | none => none
    | none => none

/-- offset and size of a struct's fields -/
def fieldPlaces (fs : List (Nat × Nat)) : Option (List (Nat × Nat)) := fs.mapM fun f => (cx.ty f.2).map fun ti => (f.1, ti.sz)

def zeroAVs (ti : TI) : List AV := ti.zero.map fun c => .p (.s c)

def binS (op : BinOp) (x y : Value) : Option Value :=
  match x, y with
  | .int k a, .int k' b =>
    match op with
    | .shl => some (.int k (k.wrap (a * 2 ^ (min b.toNat k.bits))))
    | .shr => some (.int k (a.fdiv (2 ^ (min b.toNat k.bits))))
    | _ => if k = k' then
      match op with
      | .and => some (.int k (k.wrap ((BitVec.ofInt k.bits a) &&& (BitVec.ofInt k.bits b)).toNat))
      | .or => some (.int k (k.wrap ((BitVec.ofInt k.bits a) ||| (BitVec.ofInt k.bits b)).toNat))
      | .xor => some (.int k (k.wrap ((BitVec.ofInt k.bits a) ^^^ (BitVec.ofInt k.bits b)).toNat))
      | .andNot => some (.int k (k.wrap ((BitVec.ofInt k.bits a) &&& ~~~(BitVec.ofInt k.bits b)).toNat))
      | .add => some (.int k (k.wrap (a + b)))
      | .sub => some (.int k (k.wrap (a - b)))
      | .mul => some (.int k (k.wrap (a * b)))
      | .quo => some (.int k (k.wrap (a.tdiv b)))
      | .rem => some (.int k (a.tmod b))
      | .eql => some (.bool (a == b))
      | .neq => some (.bool (a != b))
      | .lss => some (.bool (a < b))
      | .leq => some (.bool (a ≤ b))
      | .gtr => some (.bool (a > b))
      | .geq => some (.bool (a ≥ b))
      | _ => none
    else none
  | .string a, .string b =>
    match op with
    | .add => some (.string (a ++ b))
    | .eql => some (.bool (a.toList == b.toList))
    | .neq => some (.bool !(a.toList == b.toList))
    | .lss => some (.bool (Op.bytesLess a.toList b.toList))
    | .leq => some (.bool (Op.bytesLess a.toList b.toList || a.toList == b.toList))
    | .gtr => some (.bool !(Op.bytesLess a.toList b.toList || a.toList == b.toList))
    | .geq => some (.bool !(Op.bytesLess a.toList b.toList))
    | _ => none
  | _, _ => none

/-- What a binary operation on scalars owes. -/
structure DProp where
  p : Prop
  d : Decidable p
def binOwes (op : BinOp) (x y : Value) : Option DProp :=
  match op, x, y with
  | .quo, _, .int _ b | .rem, _, .int _ b => some ⟨b ≠ 0, inferInstance⟩
  | .shl, _, .int _ b | .shr, _, .int _ b => some ⟨0 ≤ b, inferInstance⟩
  | .add, .string a, .string b => some ⟨a.size + b.size ≤ 2 ^ 62, inferInstance⟩
  | _, _, _ => none

def assertO (p : Option DProp) (k : RP α) : RP α := match p with
  | some q => @RP.assert α q.p q.d k
  | none => k

def unS (op : UnOp) (x : Value) : Option Value :=
  match op, x with
  | .not, .bool b => some (.bool !b)
  | .neg, .int k n => some (.int k (k.wrap (0 - n)))
  | _, _ => none

def rowI (es : List (List PV)) (i : Int) : Option (List PV) := if 0 ≤ i then es[i.toNat]? else none
def inBd (i : Int) (n : Nat) : Prop := 0 ≤ i ∧ i < n
instance (i : Int) (n : Nat) : Decidable (inBd i n) := inferInstanceAs (Decidable (0 ≤ i ∧ i < n))
def takeN (n : Nat) (cs : List PV) : Option (List PV) := if n ≤ cs.length then some (cs.take n) else none

def convS (src dst : TK) (x : Value) : Option Value :=
  match dst, x with
  | .int k, .int _ n => some (.int k (k.wrap n))
  | .str, .int _ n => some (.string (Utf8.encode n))
  | .str, .string s => some (.string s)
  | _, _ => none

/-- All rows have so many cells. -/
def RowsAre (z : Nat) (es : List (List PV)) : Prop := ∀ row ∈ es, row.length = z
instance (z : Nat) (es : List (List PV)) : Decidable (RowsAre z es) := inferInstanceAs (Decidable (∀ row ∈ es, row.length = z))
instance decNe (es : List (List PV)) : Decidable (es ≠ []) := match es with
  | [] => isFalse (fun h => h rfl)
  | _ :: _ => isTrue (fun h => nomatch h)

/-- A slice's content: its rows (of z cells each), read. -/
def rows (z : Nat) (v : AV) (k : List (List PV) → RP α) : RP α :=
  match v with
  | .p (.sl es) => .assert (RowsAre z es) <| k es
  | .p (.s (.slice none 0 0)) => k []
  | .p .ne => k []
  | .ms id off n N => .rdS id fun
    | some (.arr sz es _) => .chk (Nat.beq sz z) <| .assert (es.length = N ∧ off + n ≤ N) <| k ((es.drop off).take n)
    | _ => .fail
  | _ => .fail

def maxBytes : Nat := 2 ^ 47

def rdLo (lo : Option Operand) (k : Int → RP α) : RP α := match lo with
  | none => k 0
  | some x => rdV cx x fun v => asI v fun _ l => k l
def rdHi (hi : Option Operand) (k : Option Int → RP α) : RP α := match hi with
  | none => k none
  | some x => rdV cx x fun v => asI v fun _ l => k (some l)

def sliceP (o : Oper) (ti : TI) (xv : AV) (l : Int) (h : Option Int) : RP Wr :=
  match ti.k, xv with
  | .str, .p (.s (.string s)) =>
    .assert (0 ≤ l ∧ l ≤ h.getD s.size ∧ h.getD s.size ≤ s.size) <| .norm (.string (s.extract l.toNat (h.getD s.size).toNat)) fun r => .ret { e := dstW o (.p (.s r)) }
  | .slice e, .p (.sl es) => withTy cx e fun te =>
    .assert (RowsAre te.sz es ∧ 0 ≤ l ∧ l ≤ h.getD es.length ∧ h.getD es.length ≤ es.length) <| .need (some [.sl ((es.take (h.getD es.length).toNat).drop l.toNat)]) fun row => match row with
      | [d] => .ret { e := dstW o (.p d) }
      | _ => .fail
  | .arr m e, .er id i j N => withTy cx e fun te => .rdS id fun
    | some (.arr sz [row] _) => .chk (Nat.beq i 0 && (Nat.beq j 0 && (Nat.beq N 1 && (Nat.beq (m * te.sz) sz && (Nat.blt 0 m && (Nat.blt 0 te.sz && (decide (l = 0) && h.isNone))))))) <|
      .need (some [.sl ((List.range m).map fun i => (row.drop (i * te.sz)).take te.sz)]) fun d => match d with
        | [d] => .ret { e := dstW o (.p d), s := [(id, .arr sz [row] 1)] }
        | _ => .fail
    | _ => .fail
  | .slice e, .ms id off n N => withTy cx e fun te => .rdS id fun
    | some (.arr sz es _) =>
      .chk (Nat.beq sz te.sz) <| .assert (es.length = N ∧ 0 ≤ l ∧ l ≤ h.getD n ∧ off + h.getD n ≤ N) <| .ret { e := dstW o (.ms id (off + l.toNat) ((h.getD n).toNat - l.toNat) N) }
    | _ => .fail
  | _, _ => .fail

def stepOp (o : Oper) : RP Wr :=
  let put (v : AV) : RP Wr := .ret { e := dstW o v }
  match o.op with
  | .move x | .assign x => rdV cx x put
  | .pick c a b => rdV cx c fun cv => asB cv fun cb => .br cb fun cb => if cb then rdV cx a put else rdV cx b put
  | .alloc T => withTy cx T fun ti => match ti.k with
    | .arr _ _ => .chk (Nat.blt 0 ti.sz) <| newO o (.arr ti.sz [ti.zero.map .s] 0) fun i => .er i 0 0 1
    | _ => newO o (.cells (zeroAVs ti)) fun i => .ref i 0
  | .box T x => withTy cx T fun _ => rdV cx x fun v => match v.cellsOf with
    | some vs => newO o (.cells vs) fun i => .ref i 0
    | none => .fail
  | .build T parts => withTy cx T fun ti => rdVs cx (parts.toList.map (·.2)) fun vs =>
    match ti.k with
    | .struct fs => match fieldPlaces cx fs with
      | some pl => match place pl (zeroAVs ti) (List.zip (parts.toList.map (·.1)) vs) with
        | some cs => put (.agg cs)
        | none => .fail
      | none => .fail
    | .arr n e => withTy cx e fun te => match place ((List.range n).map fun i => (i * te.sz, te.sz)) (zeroAVs ti) (List.zip (parts.toList.map (·.1)) vs) with
      | some cs => put (.agg cs)
      | none => .fail
    | _ => .fail
  | .buildSlice T n parts => withTy cx T fun ti => match ti.k with
    | .slice e => withTy cx e fun te => rdVs cx (parts.toList.map (·.2)) fun vs =>
      if te.sz = 0 ∨ n * te.sz > 2 ^ 24 then .fail else
      match place ((List.range n).map fun i => (i * te.sz, te.sz)) ((List.replicate n (zeroAVs te)).flatten) (List.zip (parts.toList.map (·.1)) vs) with
      | some cs => toPVs cs [] fun ds ov => newO o (.arr te.sz ((List.range n).map fun i => (ds.drop (i * te.sz)).take te.sz) 0) (fun i => .ms i 0 n n) ov
      | none => .fail
    | _ => .fail
  | .load T a => withTy cx T fun ti => rdV cx a fun
    | .ref id off => .rdS id fun
      | some (.cells cs) => match ofCells ti ((cs.drop off).take ti.sz) with
        | some v => put v
        | none => .fail
      | _ => .fail
    | .rp cs => .need (takeN ti.sz cs) fun ds => match ofCells ti (ds.map .p) with
        | some v => put v
        | none => .fail
    | .er id i j N => .rdS id fun
      | some (.arr _ es _) => .assert (es.length = N) <| .need es[i]? fun row => match ofCells ti (((row.drop j).take ti.sz).map .p) with
        | some v => put v
        | none => .fail
      | _ => .fail
    | _ => .fail
  | .store T a x => withTy cx T fun ti => rdV cx a fun av => rdV cx x fun v =>
    match v.cellsOf with
    | none => .fail
    | some vs => if vs.length ≠ ti.sz then .fail else
    match av with
    | .ref id off => .rdS id fun
      | some (.cells cs) => if off + ti.sz ≤ cs.length then .ret { e := dstW o .junk, s := [(id, .cells (cs.take off ++ vs ++ cs.drop (off + ti.sz)))] } else .fail
      | _ => .fail
    | .er id i j N => toPVs vs [] fun ds ov => rdO ov id fun
      | some (.arr sz es fz) => .assert (es.length = N ∧ fz ≤ i) <| .need es[i]? fun row =>
        if j + ti.sz ≤ row.length then .ret { e := dstW o .junk, s := ov ++ [(id, .arr sz (es.set i (row.take j ++ ds ++ row.drop (j + ti.sz))) fz)] } else .fail
      | _ => .fail
    | _ => .fail
  | .nilCheck x => rdV cx x fun
    | .ref i off => put (.ref i off)
    | .rp cs => put (.rp cs)
    | .fn f cs => put (.fn f cs)
    | _ => .fail
  | .binOp op t x y _ => withTy cx t fun ti => rdV cx x fun xv => rdV cx y fun yv =>
    match xv, yv with
    | .p (.s (.bool a)), .p (.s (.bool b)) => match ti.k, op with
      | .bool, .eql => put (.p (.s (.bool (a == b))))
      | .bool, .neq => put (.p (.s (.bool !(a == b))))
      | _, _ => .fail
    | .p (.s .nilIface), .p (.s .nilIface) => match ti.k, op, y with
      | .iface, .eql, .const _ => put (.p (.s (.bool true)))
      | .iface, .neq, .const _ => put (.p (.s (.bool false)))
      | _, _, _ => .fail
    | .p (.s (.slice none 0 0)), .p (.s (.slice none 0 0)) => match ti.k, op, y with
      | .slice _, .eql, .const _ => put (.p (.s (.bool true)))
      | .slice _, .neq, .const _ => put (.p (.s (.bool false)))
      | _, _, _ => .fail
    | .p .ne, .p (.s (.slice none 0 0)) => match ti.k, op with
      | .slice _, .eql => put (.p (.s (.bool false)))
      | .slice _, .neq => put (.p (.s (.bool true)))
      | _, _ => .fail
    | .p (.sl es), .p (.s (.slice none 0 0)) => match ti.k, op with
      | .slice _, .eql => .assert (es ≠ []) <| put (.p (.s (.bool false)))
      | .slice _, .neq => .assert (es ≠ []) <| put (.p (.s (.bool true)))
      | _, _ => .fail
    | .p (.s a), .p (.s b) =>
      match binS op a b with
      | some r => assertO (binOwes op a b) <| .norm r fun r => put (.p (.s r))
      | none => .fail
    | .ni, .p (.s .nilIface) => match ti.k, op with
      | .iface, .eql => put (.p (.s (.bool false)))
      | .iface, .neq => put (.p (.s (.bool true)))
      | _, _ => .fail
    | .ms _ _ _ _, .p (.s (.slice none 0 0)) => match ti.k, op with
      | .slice _, .eql => put (.p (.s (.bool false)))
      | .slice _, .neq => put (.p (.s (.bool true)))
      | _, _ => .fail
    | _, _ => .fail
  | .unOp op _ x => rdV cx x fun xv => scal xv fun a => match unS op a with
    | some r => .norm r fun r => put (.p (.s r))
    | none => .fail
  | .convert src dst x => withTy cx src fun ts => withTy cx dst fun td => rdV cx x fun xv => scal xv fun a => match convS ts.k td.k a with
    | some r => .norm r fun r => put (.p (.s r))
    | none => .fail
  | .fieldAddr T x f => withTy cx T fun ti => match ti.k with
    | .struct fs => match fs[f]? with
      | some (off, ft) => withTy cx ft fun tf => if tf.sz = 0 then .fail else rdV cx x fun
        | .ref id o => put (.ref id (o + off))
        | .rp cs => put (.rp (cs.drop off))
        | .er id i j N => put (.er id i (j + off) N)
        | _ => .fail
      | none => .fail
    | _ => .fail
  | .field T x f => withTy cx T fun ti => match ti.k with
    | .struct fs => match fs[f]? with
      | some (off, ft) => withTy cx ft fun tf => rdV cx x fun
        | .agg cs => match ofCells tf ((cs.drop off).take tf.sz) with
          | some v => put v
          | none => .fail
        | _ => .fail
      | none => .fail
    | _ => .fail
  | .indexAddr T x i => withTy cx T fun ti => rdV cx x fun xv => rdV cx i fun iv => asI iv fun _ i => match ti.k with
    | .slice e => withTy cx e fun te => match xv with
      | .p (.sl es) => .need (rowI es i) fun row => .chk (Nat.beq row.length te.sz) <| put (.rp row)
      | .ms id off n N => .rdS id fun
        | some (.arr sz _ _) => .chk (Nat.beq sz te.sz) <| .assert (inBd i n) <| put (.er id (off + i.toNat) 0 N)
        | _ => .fail
      | _ => .fail
    | .arr n e => withTy cx e fun te => match xv with
      | .rp cs => .assert (inBd i n) <| .need (takeN te.sz (cs.drop (i.toNat * te.sz))) fun row => put (.rp row)
      | .ref id off => .assert (inBd i n) <| put (.ref id (off + i.toNat * te.sz))
      | .er id i0 j N => .assert (inBd i n) <| put (.er id i0 (j + i.toNat * te.sz) N)
      | _ => .fail
    | _ => .fail
  | .index T x i => withTy cx T fun ti => rdV cx x fun xv => rdV cx i fun iv => asI iv fun _ i => match ti.k, xv with
    | .str, .p (.s (.string s)) => .need (if 0 ≤ i then (s[i.toNat]?).map fun b => [.s (.int .u8 b.toNat)] else none) fun row => match row with
      | [d] => put (.p d)
      | _ => .fail
    | _, _ => .fail
  | .slice T x lo (some hi) (some mx) => withTy cx T fun ti => rdV cx x fun xv => rdLo cx lo fun l => rdHi cx (some hi) fun h => rdHi cx (some mx) fun m => match ti.k, xv, h, m with
    | .slice e, .ms id off n N, some h, some m => withTy cx e fun te => .rdS id fun
      | some (.arr sz es _) => .chk (Nat.beq sz te.sz) <| .assert (es.length = N ∧ 0 ≤ l ∧ l ≤ h ∧ h ≤ m ∧ off + m ≤ N) <| .ret { e := dstW o .junk }
      | _ => .fail
    | _, _, _, _ => .fail
  | .slice T x lo hi none => withTy cx T fun ti => rdV cx x fun xv => rdLo cx lo fun l => rdHi cx hi fun h => sliceP cx o ti xv l h
  | .makeFunc (.func f) first caps => match first.toList with
    | [] => rdVs cx caps.toList fun vs => put (.fn f vs)
    | _ => .fail
  | .makeSlice T l c => withTy cx T fun ti => match ti.k with
    | .slice e => withTy cx e fun te => rdV cx l fun lv => rdV cx c fun cv => asI lv fun _ n => asI cv fun _ m =>
      if te.sz = 0 then .fail else
      .assert (0 ≤ n ∧ n ≤ m ∧ m * te.by' ≤ maxBytes ∧ m ≤ 2 ^ 62) <| toPVs (zeroAVs te) [] fun row ov => newO o (.arr te.sz (List.replicate n.toNat row) 0) (fun i => .ms i 0 n.toNat n.toNat) ov
    | _ => .fail
  | .makeMap T none => withTy cx T fun ti => match ti.k with
    | .map _ e => withTy cx e fun te => match te.k with
      | .slice _ => .alt false fun g => if g then newO o (.gm [] none 0) (fun i => .mp i) else newO o (.map te.agg []) (fun i => .mp i)
      | _ => newO o (.map te.agg []) fun i => .mp i
    | _ => .fail
  | .lookup T x ix ok => withTy cx T fun ti => match ti.k with
    | .map kt e => withTy cx e fun te => rdV cx x fun xv => rdV cx ix fun kv => match keyVal kv with
      | some kv =>
        let fin (b : Bool) (v : AV) : RP Wr := put (if ok then .tup [v, .p (.s (.bool b))] else v)
        match xv with
        | .mp id => .rdS id fun
          | some (.map g es) => .chk (g == te.agg) <| .assert ((∀ y ∈ es, keyB cx.ty kt y.1 = true) ∧ keyB cx.ty kt kv = true) <|
            .br (mapHas es kv) fun b => if b then .need (mapGet es kv) fun row => match ofCells te (row.map .p) with
              | some v => fin true v
              | none => .fail
            else match ofCells te (zeroAVs te) with
              | some v => fin false v
              | none => .fail
          | some (.gm es _ ver) => .chk (!ok) <| match ofCells te (zeroAVs te) with
            | some (.p (.s (.slice none 0 0))) => .assert ((∀ y ∈ es, keyB cx.ty kt y.1 = true) ∧ keyB cx.ty kt kv = true) <| put (.gv id kv ver)
            | _ => .fail
          | _ => .fail
        | _ => .fail
      | none => .fail
    | _ => .fail
  | .mapUpdate T m ix x => withTy cx T fun ti => match ti.k with
    | .map kt e => withTy cx e fun te => rdV cx m fun mv => rdV cx ix fun kv => rdV cx x fun xv => match keyVal kv with
      | some kv =>
        match mv with
        | .mp id => match xv with
          | .gn id' ver => .chk (idEq id id') <| .rdS id fun
            | some (.gm es (some (k, rows)) v) => .chk (isStr k) <| .assert (v = ver ∧ (∀ y ∈ es, keyB cx.ty kt y.1 = true) ∧ keyB cx.ty kt kv = true ∧ keyEq kv k = true) <|
              .ret { e := dstW o .junk, s := [(id, .gm (mapSet es k [.sl rows]) none (v + 1))] }
            | _ => .fail
          | xv => match xv.cellsOf with
          | some vs => .chk (te.agg == xv.isAgg) <| if vs.length ≠ te.sz then .fail else toPVs vs [] fun ds ov => rdO ov id fun
            | some (.map g es) => .chk (g == te.agg) <| .assert ((∀ y ∈ es, keyB cx.ty kt y.1 = true) ∧ keyB cx.ty kt kv = true) <|
              .ret { e := dstW o .junk, s := ov ++ [(id, .map g (mapSet es kv ds))] }
            | _ => .fail
          | none => .fail
        | _ => .fail
      | none => .fail
    | _ => .fail
  | .range T x => withTy cx T fun ti => rdV cx x fun xv => match ti.k, xv with
    | .str, .p (.s (.string s)) => newO o (.it s 0) fun i => .itr i
    | _, _ => .fail
  | .next it true => rdV cx it fun
    | .itr id => .rdS id fun
      | some (.it s pos) => .br (decide (pos < s.size)) fun b => if b then
          .norm (.int .i32 (Utf8.decode s pos).1) fun c => .ret { e := dstW o (.tup [.p (.s (.bool true)), .p (.s (goInt pos)), .p (.s c)]), s := [(id, .it s (pos + (Utf8.decode s pos).2))] }
        else put (.tup [.p (.s (.bool false))])
      | _ => .fail
    | _ => .fail
  | .extract x i => rdV cx x fun
    | .tup vs => match vs[i]? with
      | some v => put v
      | none => .fail
    | _ => .fail
  | .call { callee := .value f, args, .. } => rdV cx f fun fv => rdVs cx args.toList fun vs => callP o fv vs
  | .call { callee := .builtin .len, args, argTypes } => match args.toList, argTypes.toList with
    | [x], [t] => withTy cx t fun ti => rdV cx x fun xv => match ti.k, xv with
      | .str, .p (.s (.string s)) => put (.p (.s (.int .i64 s.size)))
      | .slice _, .p (.sl es) => put (.p (.s (.int .i64 es.length)))
      | .slice _, .p (.s (.slice none 0 0)) => put (.p (.s (.int .i64 0)))
      | .slice _, .ms _ _ n _ => put (.p (.s (.int .i64 n)))
      | .map _ _, .mp id => .rdS id fun
        | some (.map _ es) => put (.p (.s (.int .i64 es.length)))
        | _ => .fail
      | _, _ => .fail
    | _, _ => .fail
  | .call { callee := .builtin .min, args, .. } => rdVs cx args.toList fun vs => match foldI (fun a b => if b < a then b else a) vs with
    | some r => .norm r fun r => put (.p (.s r))
    | none => .fail
  | .call { callee := .builtin .max, args, .. } => rdVs cx args.toList fun vs => match foldI (fun a b => if a < b then b else a) vs with
    | some r => .norm r fun r => put (.p (.s r))
    | none => .fail
  | .call { callee := .builtin .delete, args, argTypes } => match args.toList, argTypes.toList with
    | [m, ix], t :: _ => withTy cx t fun ti => match ti.k with
      | .map kt _ => rdV cx m fun mv => rdV cx ix fun kv => match mv, keyVal kv with
        | .mp id, some kv => .rdS id fun
          | some (.map g es) => .assert ((∀ y ∈ es, keyB cx.ty kt y.1 = true) ∧ keyB cx.ty kt kv = true) <| .ret { e := dstW o .junk, s := [(id, .map g (mapDel es kv))] }
          | _ => .fail
        | _, _ => .fail
      | _ => .fail
    | _, _ => .fail
  | .call { callee := .builtin .clear, args, argTypes } => match args.toList, argTypes.toList with
    | [x], [t] => withTy cx t fun ti => match ti.k with
      | .slice e => withTy cx e fun te => rdV cx x fun
        | .ms id off n N => .rdS id fun
          | some (.arr sz es fz) => .chk (Nat.beq sz te.sz) <| .assert (es.length = N ∧ off + n ≤ N ∧ fz ≤ off ∧ 0 < n) <| toPVs (zeroAVs te) [] fun row ov =>
            .chk (Nat.beq row.length te.sz && ov.isEmpty) <| .ret { e := dstW o .junk, s := [(id, .arr sz (es.take off ++ List.replicate n row ++ es.drop (off + n)) fz)] }
          | _ => .fail
        | _ => .fail
      | _ => .fail
    | _, _ => .fail
  | .call { callee := .builtin .append, args, argTypes } => match args.toList, argTypes.toList with
    | [x, y], [t, u] => if t ≠ u then .fail else withTy cx t fun ti => match ti.k with
      | .slice e => withTy cx e fun te => rdV cx x fun xv => rdV cx y fun yv => rows te.sz yv fun new =>
        if te.sz = 0 then .fail else
        .br new.isEmpty fun em => if em then
          (match xv with
          | .p (.s (.slice none 0 0)) => put xv
          | .p (.sl _) => put xv
          | .ms id _ n N => .rdS id fun
            | some (.arr _ es _) => .assert (es.length = N) <| put xv
            | _ => .fail
          | _ => .fail)
        else
        match xv with
        | .gv id k ver => .rdS id fun
          | some (.gm es none v) => .chk (Nat.beq te.sz 1 && Nat.beq new.length 1) <| .assert (v = ver) <|
            .br (mapHas es k) fun b => if b then .need (mapGet es k) fun row => match row with
              | [.sl old] => .assert ((old.length + 1) * te.by' ≤ maxBytes ∧ old.length + 1 ≤ 2 ^ 62) <| .ret { e := dstW o (.gn id ver), s := [(id, .gm es (some (k, old ++ new)) v)] }
              | _ => .fail
            else .assert (te.by' ≤ maxBytes) <| .ret { e := dstW o (.gn id ver), s := [(id, .gm es (some (k, new)) v)] }
          | _ => .fail
        | .p (.s (.slice none 0 0)) =>
          .assert (new ≠ [] ∧ new.length * te.by' ≤ maxBytes ∧ new.length ≤ 2 ^ 62) <| newO o (.arr te.sz new 0) fun i => .ms i 0 new.length new.length
        | .ms id off n N => .rdS id fun
          | some (.arr sz es fz) =>
            .alt (Nat.blt n N) fun inside => if inside then
              .alt (Nat.blt N (n + new.length)) fun over => if over then
                .assert (es.length = N ∧ off = 0 ∧ n ≤ N ∧ N < n + new.length ∧ fz ≤ n ∧ sz = te.sz ∧ new ≠ [] ∧ (n + new.length) * te.by' ≤ maxBytes ∧ n + new.length ≤ 2 ^ 62) <|
                .ret { e := dstW o (.ms id 0 (n + new.length) (n + new.length)), s := [(id, .arr sz (es.take n ++ new) fz)] }
              else
              .assert (es.length = N ∧ off = 0 ∧ sz = te.sz ∧ new ≠ [] ∧ fz ≤ n ∧ n + new.length ≤ N ∧ n + new.length ≤ 2 ^ 62) <|
              .ret { e := dstW o (.ms id 0 (n + new.length) N), s := [(id, .arr sz (es.take n ++ new ++ es.drop (n + new.length)) fz)] }
            else
            .assert (es.length = N ∧ off = 0 ∧ n = N ∧ sz = te.sz ∧ new ≠ [] ∧ (n + new.length) * te.by' ≤ maxBytes ∧ n + new.length ≤ 2 ^ 62) <|
            .ret { e := dstW o (.ms id 0 (n + new.length) (n + new.length)), s := [(id, .arr sz (es ++ new) fz)] }
          | _ => .fail
        | _ => .fail
      | _ => .fail
    | _, _ => .fail
  | _ => .fail

/-- An operation with its guard. -/
def stepG (ops : Array Oper) (o : Oper) : RP Wr :=
  match o.guard with
  | none => stepOp cx o
  | some (j, want) => match (ops[j]?).bind (·.dst) with
    | some d => .rdE d fun v => match v with
      | .tup _ => .ret { e := dstW o (.tup []) }
      | v => asB v fun b => .br b fun b => if b == want then stepOp cx o else .ret { e := dstW o (.tup []) }
    | none => .fail

end

/- ---------------------------------------------------------------- regions, code, calls -/
structure FP where
  rs : List Res
  ws : List Res

def Wr.res (w : Wr) : List Res := (w.e.map fun x => Res.e x.1) ++ (w.s.map fun x => Res.s x.1)

def evOps (cx : Cx) (C : Rel) (ops : Array Oper) : List Oper → St → List FP → St → Prop
  | [], σ, fps, σ' => fps = [] ∧ σ' = σ
  | o :: os, σ, fps, σ' => ∃ w rs r, (stepG cx ops o).ev C σ.fs w rs ∧ fps = ⟨rs, w.res⟩ :: r ∧ evOps cx C ops os (σ.app w) r σ'

/-- Which operations stand surely ahead of each one. -/
def ancs (os : List Oper) : List (List Nat) :=
  os.foldl (fun acc o => acc ++ [o.after.toList.foldl (fun l e => if Region.binds .any e then e.on :: ((acc[e.on]?).getD [] ++ l) else l) []]) []

def resEq : Res → Res → Bool
  | .e a, .e b => a == b
  | .s a, .s b => idEq a b
  | _, _ => false
def meets (a b : List Res) : Bool := a.any fun x => b.any fun y => resEq x y
def clash (a b : FP) : Bool := meets a.ws b.rs || meets a.ws b.ws || meets a.rs b.ws

/-- Operations that clash stand in an order. -/
def okDraw (ops : Array Oper) (fps : List FP) : Bool :=
  let an := ancs ops.toList
  (ops.toList.zipIdx.all fun oi => oi.1.after.toList.all fun e => !Region.binds .any e || Nat.blt e.on oi.2) &&
  (List.range fps.length).all fun j => (List.range j).all fun i =>
    ((an[j]?).getD []).contains i || match fps[i]?, fps[j]? with
      | some a, some b => !clash a b
      | _, _ => false

inductive AE where
  | normal
  | exit (id : Nat)
  | ret
  deriving DecidableEq

def AE.unblock (id : Nat) : AE → AE
  | .exit i => if i = id then .normal else .exit i
  | e => e

def evB (σ : St) : Operand → Option Bool
  | .tmp t => match σ.getE t with
    | .p (.s (.bool b)) => some b
    | _ => none
  | .const (.bool b) => some b
  | _ => none

/-- What is kept of a state: these temporaries, these slots. All that they lead to is kept, and what came in by pointer. -/
def St.keep (σ : St) (ts : List Nat) (is : List Id) : St :=
  { e := ts.map fun t => (t, σ.getE t), s := is.filterMap fun i => (σ.getS i).map fun o => (i, o) }
def keepOk (σ : St) (ts : List Nat) (is : List Id) : Bool :=
  (idsL (ts.map σ.getE)).all (memId · is) && (is.all fun i => match σ.getS i with
    | some o => o.ids.all (memId · is)
    | none => false) && (σ.s.all fun x => x.1.1 != 0 || memId x.1 is)

inductive EvCode (cx : Cx) (C : Rel) : Code → St → AE → St → Prop where
  | skip {σ} : EvCode cx C .skip σ .normal σ
  | region {id ops σ fps σ'} : evOps cx C ops ops.toList σ fps σ' → EvCode cx C (.region id ops false) σ .normal σ'
  | draw {id ops σ fps σ'} : evOps cx C ops ops.toList σ fps σ' → okDraw ops fps = true → EvCode cx C (.region id ops true) σ .normal σ'
  | seq {a b σ σ1 e σ2} : EvCode cx C a σ .normal σ1 → EvCode cx C b σ1 e σ2 → EvCode cx C (.seq a b) σ e σ2
  | seqE {a b σ e σ1} : EvCode cx C a σ e σ1 → e ≠ .normal → EvCode cx C (.seq a b) σ e σ1
  | cond {c x y σ b e σ'} : evB σ c = some b → EvCode cx C (if b then x else y) σ e σ' → EvCode cx C (.cond c x y) σ e σ'
  | block {id c σ e σ'} : EvCode cx C c σ e σ' → EvCode cx C (.block id c) σ (e.unblock id) σ'
  | loop {c σ σ1 e σ2} : EvCode cx C c σ .normal σ1 → EvCode cx C (.loop c) σ1 e σ2 → EvCode cx C (.loop c) σ e σ2
  | loopE {c σ e σ1} : EvCode cx C c σ e σ1 → e ≠ .normal → EvCode cx C (.loop c) σ e σ1
  | exit {id σ} : EvCode cx C (.exit id) σ (.exit id) σ
  | ret {σ} : EvCode cx C .ret σ .ret σ
  | weak {c σ ts is e σ'} : keepOk σ ts is = true → EvCode cx C c (σ.keep ts is) e σ' → EvCode cx C c σ e σ'
  | weakR {c σ ts is e σ'} : EvCode cx C c σ e σ' → keepOk σ' ts is = true → EvCode cx C c σ e (σ'.keep ts is)
  | frzR {c σ e σ' id es ver} : EvCode cx C c σ e σ' → σ'.getS id = some (.gm es none ver) → EvCode cx C c σ e (σ'.setS id (.map false es))
  | frzT {c σ e σ' t id off m N sz es fz} : EvCode cx C c σ e σ' → σ'.getE t = .ms id off m N → σ'.getS id = some (.arr sz es fz) → es.length = N → off + m ≤ N →
      EvCode cx C c σ e ((σ'.setS id (.arr sz es es.length)).setE t (.p (.sl ((es.drop off).take m))))

def initE : List AV → Nat → List (Nat × AV)
  | [], _ => []
  | v :: r, n => (n, v) :: initE r (n + 1)
def initS : List AO → Nat → List (Id × AO)
  | [], _ => []
  | o :: r, n => ((0, n), o) :: initS r (n + 1)
def St.init (args : List AV) (H : List AO) : St := { e := initE args 0, s := initS H 0 }

section
variable {α : Type} (cx : Cx)
def rdRes (rs : List ResultVar) (k : List AV → RP α) : RP α :=
  match rs with
  | [] => k []
  | .tmp t :: r => .rdE t fun v => rdRes r fun vs => k (v :: vs)
  | .cell a T :: r => withTy cx T fun ti => .rdE a fun
    | .ref id off => .rdS id fun
      | some (.cells cs) => match ofCells ti ((cs.drop off).take ti.sz) with
        | some v => rdRes r fun vs => k (v :: vs)
        | none => .fail
      | _ => .fail
    | .er id i j N => .rdS id fun
      | some (.arr _ es _) => .assert (es.length = N) <| .need es[i]? fun row => match ofCells ti (((row.drop j).take ti.sz).map .p) with
        | some v => rdRes r fun vs => k (v :: vs)
        | none => .fail
      | _ => .fail
    | _ => .fail

def eqIds : List Id → List Id → Bool
  | [], [] => true
  | a :: r, b :: q => idEq a b && eqIds r q
  | _, _ => false
def argIds (n : Nat) : List Id := (List.range n).map fun i => (0, i)

/-- The end of a call: its result, and what became of the objects that came in (and of new ones). -/
def finish (f : FuncId) (rs : List ResultVar) (n : Nat) : RP (AV × List AO) :=
  rdRes cx rs fun vs =>
  .alt false fun raw => (if raw then fun (k : List AV → Ov → RP (AV × List AO)) => k vs [] else snaps vs []) fun vs ov =>
  reach 40 (argIds n ++ idsL vs) [] ov fun objs =>
  let L := objs.map (·.1)
  .chk (eqIds (L.take n) (argIds n)) <|
  .ret ((match vs with | [v] => v | vs => .tup vs).ren (inRen L), objs.map fun x => x.2.ren (inRen L))
end

/-- All destinations are temporaries of the frame. -/
def dstsOk (n : Nat) : Code → Bool
  | .region _ ops _ => ops.toList.all fun o => match o.dst with
    | some d => Nat.blt d n
    | none => true
  | .seq a b | .cond _ a b => dstsOk n a && dstsOk n b
  | .block _ c | .loop c => dstsOk n c
  | _ => true

def EvCallN (cx : Cx) : Nat → Rel
  | 0 => fun _ _ _ _ _ => False
  | n + 1 => fun f args H r H' => cx.prim f args H r H' ∨ (∃ a b, args = a ++ .p (.sl []) :: b ∧ EvCallN cx n f (a ++ .p (.s nilS) :: b) H r H' ∧ EvCallN cx n f (a ++ .p .ne :: b) H r H') ∨ ∃ fn c σ' e rs, cx.P.funcs[f]? = some fn ∧ fn.body = some c ∧ dstsOk fn.ntmps c = true ∧ args.length ≤ fn.ntmps ∧
      (∀ (vs : Array Value) (w : World), (callFunc f vs).run cx.P w = .ok (.enter f vs) w) ∧ EvCode cx (EvCallN cx n) c (St.init args H) e σ' ∧ (e = .ret ∨ e = .normal) ∧ (finish cx f fn.results.toList H.length).ev (EvCallN cx n) σ'.fs (r, H') rs

def EvCall (cx : Cx) : Rel := fun f args H r H' => ∃ n, EvCallN cx n f args H r H'

end Go.Ev
end
section
/- Path evaluation: a run of the abstract interpreter along given decisions; what it owes is a list of propositions. -/
namespace Go.Ev

inductive Dec where
  | b (d : Bool)
  | row (d : List PV)
  | v (x : Value)
  | same
  | ref
  | val
  | call (r : AV) (H : List AO)
  | loop (ts : List Nat) (is : List Id) (e : AE) (σ : St)
  | piece (id : Nat) (ts : List Nat) (is : List Id) (e : AE) (σ : St)

def All : List Prop → Prop
  | [] => True
  | [p] => p
  | p :: r => p ∧ All r

/-- The same as a list of proofs: the propositions are read off the proofs. -/
inductive AllL : List Prop → Prop where
  | nil : AllL []
  | cons {p : Prop} {r : List Prop} (h : p) (k : AllL r) : AllL (p :: r)

theorem AllL.all {l : List Prop} (h : AllL l) : All l := by
  induction h with
  | nil => trivial
  | @cons p r h k ih => cases r with
    | nil => exact h
    | cons _ _ => exact ⟨h, ih⟩

structure Out (α : Type) where
  a : α
  rs : List Res
  ds : List Dec
  cs : List Prop

def Out.owe {α : Type} (p : Prop) (o : Out α) : Out α := { o with cs := p :: o.cs }
def Out.rd {α : Type} (r : Res) (o : Out α) : Out α := { o with rs := r :: o.rs }

def popB : List Dec → Option (Option Bool × List Dec)
  | .b d :: ds => some (some d, ds)
  | .same :: ds => some (none, ds)
  | [] => some (none, [])
  | _ => none
def popR : List Dec → Option (Option (List PV) × List Dec)
  | .row d :: ds => some (some d, ds)
  | .same :: ds => some (none, ds)
  | [] => some (none, [])
  | _ => none
def popV : List Dec → Option (Option Value × List Dec)
  | .v y :: ds => some (some y, ds)
  | .same :: ds => some (none, ds)
  | [] => some (none, [])
  | _ => none
def popC : List Dec → Option (AV × List AO × List Dec)
  | .call r H :: ds => some (r, H, ds)
  | _ => none

def RP.run {α : Type} (C : Rel) : RP α → St → List Dec → Option (Out α)
  | .ret a, _, ds => some ⟨a, [], ds, []⟩
  | .rdE t k, σ, ds => ((k (σ.getE t)).run C σ ds).map (Out.rd (.e t))
  | .rdS i k, σ, ds => ((k (σ.getS i)).run C σ ds).map (Out.rd (.s i))
  | .br b k, σ, ds => match popB ds with
    | some (some d, ds) => ((k d).run C σ ds).map (Out.owe (b = d))
    | some (none, ds) => (k b).run C σ ds
    | none => none
  | .need o k, σ, ds => match popR ds with
    | some (some d, ds) => ((k d).run C σ ds).map (Out.owe (o = some d))
    | some (none, ds) => match o with
      | some d => (k d).run C σ ds
      | none => none
    | none => none
  | .norm x k, σ, ds => match popV ds with
    | some (some y, ds) => ((k y).run C σ ds).map (Out.owe (x = y))
    | some (none, ds) => (k x).run C σ ds
    | none => none
  | @RP.assert _ p _ k, σ, ds => (k.run C σ ds).map (Out.owe p)
  | .call f args H k, σ, ds => match popC ds with
    | some (r, H', ds) => ((k r H').run C σ ds).map (Out.owe (C f args H r H'))
    | none => none
  | .alt _ k, σ, ds => match ds with
    | .ref :: ds => (k true).run C σ ds
    | .val :: ds => (k false).run C σ ds
    | ds => (k false).run C σ ds
  | .fail, _, _ => none

theorem All.cons {p : Prop} {r : List Prop} (h : All (p :: r)) : p ∧ All r := by
  cases r with
  | nil => exact ⟨h, trivial⟩
  | cons _ _ => exact h

theorem All.append {a b : List Prop} (h : All (a ++ b)) : All a ∧ All b := by
  induction a with
  | nil => exact ⟨trivial, h⟩
  | cons p r ih =>
    obtain ⟨hp, hr⟩ := All.cons h
    obtain ⟨h1, h2⟩ := ih hr
    refine ⟨?_, h2⟩
    cases r with
    | nil => exact hp
    | cons _ _ => exact ⟨hp, h1⟩

theorem RP.run_ev {α : Type} (C : Rel) (q : RP α) : ∀ (σ : St) (ds : List Dec) (o : Out α), q.run C σ ds = some o → All o.cs → q.ev C σ.fs o.a o.rs := by
  induction q with
  | ret a => intro σ ds o h _; simp only [RP.run, Option.some.injEq] at h; subst h; exact ⟨rfl, rfl⟩
  | rdE t k ih =>
    intro σ ds o h hc
    simp only [RP.run, Option.map_eq_some_iff] at h
    obtain ⟨o', h', rfl⟩ := h
    exact ⟨_, rfl, ih _ σ ds o' h' hc⟩
  | rdS t k ih =>
    intro σ ds o h hc
    simp only [RP.run, Option.map_eq_some_iff] at h
    obtain ⟨o', h', rfl⟩ := h
    exact ⟨_, rfl, ih _ σ ds o' h' hc⟩
  | br b k ih =>
    intro σ ds o h hc
    simp only [RP.run] at h
    split at h
    · simp only [Option.map_eq_some_iff] at h
      obtain ⟨o', h', rfl⟩ := h
      obtain ⟨hb, hr⟩ := All.cons hc
      subst hb
      exact ih _ σ _ o' h' hr
    · exact ih _ σ _ o h hc
    · cases h
  | need x k ih =>
    intro σ ds o h hc
    simp only [RP.run] at h
    split at h
    · simp only [Option.map_eq_some_iff] at h
      obtain ⟨o', h', rfl⟩ := h
      obtain ⟨hb, hr⟩ := All.cons hc
      exact ⟨_, hb, ih _ σ _ o' h' hr⟩
    · split at h
      · exact ⟨_, rfl, ih _ σ _ o h hc⟩
      · cases h
    · cases h
  | norm x k ih =>
    intro σ ds o h hc
    simp only [RP.run] at h
    split at h
    · simp only [Option.map_eq_some_iff] at h
      obtain ⟨o', h', rfl⟩ := h
      obtain ⟨hb, hr⟩ := All.cons hc
      subst hb
      exact ih _ σ _ o' h' hr
    · exact ih _ σ _ o h hc
    · cases h
  | assert p k ih =>
    intro σ ds o h hc
    simp only [RP.run, Option.map_eq_some_iff] at h
    obtain ⟨o', h', rfl⟩ := h
    obtain ⟨hb, hr⟩ := All.cons hc
    exact ⟨hb, ih σ ds o' h' hr⟩
  | call f args H k ih =>
    intro σ ds o h hc
    simp only [RP.run] at h
    split at h
    · simp only [Option.map_eq_some_iff] at h
      obtain ⟨o', h', rfl⟩ := h
      obtain ⟨hb, hr⟩ := All.cons hc
      exact ⟨_, _, hb, ih _ _ σ _ o' h' hr⟩
    · cases h
  | alt h k ih =>
    intro σ ds o h hc
    simp only [RP.run] at h
    split at h
    · exact ⟨true, ih _ σ _ o h hc⟩
    · exact ⟨false, ih _ σ _ o h hc⟩
    · exact ⟨false, ih _ σ _ o h hc⟩
  | fail => intro σ ds o h _; cases h

/-- The operations of a region. -/
def runOps (cx : Cx) (C : Rel) (ops : Array Oper) : List Oper → St → List Dec → Option (St × List FP × List Dec × List Prop)
  | [], σ, ds => some (σ, [], ds, [])
  | o :: os, σ, ds => match (stepG cx ops o).run C σ ds with
    | none => none
    | some x => match runOps cx C ops os (σ.app x.a) x.ds with
      | none => none
      | some (τ, fps, ds, cs) => some (τ, ⟨x.rs, x.a.res⟩ :: fps, ds, x.cs ++ cs)

theorem runOps_ev (cx : Cx) (C : Rel) (ops : Array Oper) (os : List Oper) : ∀ (σ : St) (ds : List Dec) (τ : St) (fps : List FP) (ds' : List Dec) (cs : List Prop),
    runOps cx C ops os σ ds = some (τ, fps, ds', cs) → All cs → evOps cx C ops os σ fps τ := by
  induction os with
  | nil => intro σ ds τ fps ds' cs h _; simp only [runOps, Option.some.injEq, Prod.mk.injEq] at h; obtain ⟨rfl, rfl, _, _⟩ := h; exact ⟨rfl, rfl⟩
  | cons o os ih =>
    intro σ ds τ fps ds' cs h hc
    simp only [runOps] at h
    split at h
    · cases h
    · rename_i x hx
      split at h
      · cases h
      · rename_i τ' fps' ds2 cs2 hr
        simp only [Option.some.injEq, Prod.mk.injEq] at h
        obtain ⟨rfl, rfl, rfl, rfl⟩ := h
        obtain ⟨h1, h2⟩ := All.append hc
        exact ⟨_, _, _, RP.run_ev C _ _ _ _ hx h1, rfl, ih _ _ _ _ _ _ hr h2⟩

/-- The first region of a piece of code. -/
def firstR : Code → Option Nat
  | .region i _ _ => some i
  | .seq a _ => firstR a
  | .block _ c | .loop c => firstR c
  | _ => none
def pieceAt (o : Option Nat) (ds : List Dec) : Option (List Nat × List Id × AE × St × List Dec) := match ds with
  | .piece id ts is e τ :: ds => match o with
    | some i => bif Nat.beq i id then some (ts, is, e, τ, ds) else none
    | none => none
  | _ => none
/-- The rest of a piece of code from a region on. -/
def tailFrom (id : Nat) : Code → Code
  | .seq a b => match firstR a with
    | some i => bif Nat.beq i id then .seq a b else tailFrom id b
    | none => tailFrom id b
  | c => c
def tailAt (fn : Func) (id : Nat) : Code := match fn.body with
  | some c => tailFrom id c
  | none => .skip

def runCode (cx : Cx) (C : Rel) : Code → St → List Dec → Option (AE × St × List Dec × List Prop)
  | .skip, σ, ds => some (.normal, σ, ds, [])
  | .region _ ops false, σ, ds => match runOps cx C ops ops.toList σ ds with
    | some (τ, _, ds, cs) => some (.normal, τ, ds, cs)
    | none => none
  | .region _ ops true, σ, ds => match runOps cx C ops ops.toList σ ds with
    | some (τ, fps, ds, cs) => bif okDraw ops fps then some (.normal, τ, ds, cs) else none
    | none => none
  | .seq a b, σ, ds => match pieceAt (firstR a) ds with
    | some (ts, is, e, τ, ds) => bif keepOk σ ts is then some (e, τ, ds, [EvCode cx C (.seq a b) (σ.keep ts is) e τ]) else none
    | none => match runCode cx C a σ ds with
      | some (.normal, τ, ds, cs) => match runCode cx C b τ ds with
        | some (e, τ, ds, cs') => some (e, τ, ds, cs ++ cs')
        | none => none
      | some x => some x
      | none => none
  | .cond c x y, σ, ds => match evB σ c, ds with
    | some b, .b true :: ds => match runCode cx C x σ ds with
      | some (e, τ, ds, cs) => some (e, τ, ds, (b = true) :: cs)
      | none => none
    | some b, .b false :: ds => match runCode cx C y σ ds with
      | some (e, τ, ds, cs) => some (e, τ, ds, (b = false) :: cs)
      | none => none
    | some true, .same :: ds => runCode cx C x σ ds
    | some false, .same :: ds => runCode cx C y σ ds
    | some true, [] => runCode cx C x σ []
    | some false, [] => runCode cx C y σ []
    | _, _ => none
  | .block id c, σ, ds => match runCode cx C c σ ds with
    | some (e, τ, ds, cs) => some (e.unblock id, τ, ds, cs)
    | none => none
  | .loop c, σ, ds => match ds with
    | .loop ts is e τ :: ds => bif keepOk σ ts is then some (e, τ, ds, [EvCode cx C (.loop c) (σ.keep ts is) e τ]) else none
    | _ => none
  | .exit id, σ, ds => some (.exit id, σ, ds, [])
  | .ret, σ, ds => some (.ret, σ, ds, [])
  | _, _, _ => none

theorem runCode_ev (cx : Cx) (C : Rel) (c : Code) : ∀ (σ : St) (ds : List Dec) (e : AE) (τ : St) (ds' : List Dec) (cs : List Prop),
    runCode cx C c σ ds = some (e, τ, ds', cs) → All cs → EvCode cx C c σ e τ := by
  induction c with
  | skip => intro σ ds e τ ds' cs h _; simp only [runCode, Option.some.injEq, Prod.mk.injEq] at h; obtain ⟨rfl, rfl, _, _⟩ := h; exact .skip
  | region id ops draw =>
    intro σ ds e τ ds' cs h hc
    cases draw <;> simp only [runCode] at h <;> split at h
    · rename_i hr
      simp only [Option.some.injEq, Prod.mk.injEq] at h
      obtain ⟨rfl, rfl, _, rfl⟩ := h
      exact .region (runOps_ev cx C ops _ _ _ _ _ _ _ hr hc)
    · cases h
    · rename_i fps _ _ hr
      cases ho : okDraw ops fps <;> simp only [ho, cond_true, cond_false] at h
      · cases h
      · simp only [Option.some.injEq, Prod.mk.injEq] at h
        obtain ⟨rfl, rfl, _, rfl⟩ := h
        exact .draw (runOps_ev cx C ops _ _ _ _ _ _ _ hr hc) ho
    · cases h
  | seq a b iha ihb =>
    intro σ ds e τ ds' cs h hc
    simp only [runCode] at h
    split at h
    · rename_i ts is e2 τ2 ds2 _
      cases hk : keepOk σ ts is <;> simp only [hk, cond_true, cond_false] at h
      · cases h
      · simp only [Option.some.injEq, Prod.mk.injEq] at h
        obtain ⟨rfl, rfl, _, rfl⟩ := h
        exact .weak hk hc
    · split at h
      · rename_i τ1 ds1 cs1 h1
        split at h
        · rename_i e2 τ2 ds2 cs2 h2
          simp only [Option.some.injEq, Prod.mk.injEq] at h
          obtain ⟨rfl, rfl, _, rfl⟩ := h
          obtain ⟨p, q⟩ := All.append hc
          exact .seq (iha _ _ _ _ _ _ h1 p) (ihb _ _ _ _ _ _ h2 q)
        · cases h
      · rename_i x hn hx
        simp only [Option.some.injEq] at h
        subst h
        refine .seqE (iha _ _ _ _ _ _ hx hc) ?_
        intro he
        subst he
        exact hn _ _ _ rfl
      · cases h
  | cond c x y ihx ihy =>
    intro σ ds e τ ds' cs h hc
    simp only [runCode] at h
    split at h
    · rename_i b ds1 hb
      split at h
      · rename_i e2 τ2 ds2 cs2 h2
        simp only [Option.some.injEq, Prod.mk.injEq] at h
        obtain ⟨rfl, rfl, _, rfl⟩ := h
        obtain ⟨p, q⟩ := All.cons hc
        subst p
        exact .cond hb (ihx _ _ _ _ _ _ h2 q)
      · cases h
    · rename_i b ds1 hb
      split at h
      · rename_i e2 τ2 ds2 cs2 h2
        simp only [Option.some.injEq, Prod.mk.injEq] at h
        obtain ⟨rfl, rfl, _, rfl⟩ := h
        obtain ⟨p, q⟩ := All.cons hc
        subst p
        exact .cond hb (ihy _ _ _ _ _ _ h2 q)
      · cases h
    · rename_i hb
      exact .cond hb (ihx _ _ _ _ _ _ h hc)
    · rename_i hb
      exact .cond hb (ihy _ _ _ _ _ _ h hc)
    · rename_i hb
      exact .cond hb (ihx _ _ _ _ _ _ h hc)
    · rename_i hb
      exact .cond hb (ihy _ _ _ _ _ _ h hc)
    · cases h
  | block id c ih =>
    intro σ ds e τ ds' cs h hc
    simp only [runCode] at h
    split at h
    · rename_i e2 τ2 ds2 cs2 h2
      simp only [Option.some.injEq, Prod.mk.injEq] at h
      obtain ⟨rfl, rfl, _, rfl⟩ := h
      exact .block (ih _ _ _ _ _ _ h2 hc)
    · cases h
  | loop c ih =>
    intro σ ds e τ ds' cs h hc
    simp only [runCode] at h
    split at h
    · rename_i ts is e2 τ2 ds2
      cases hk : keepOk σ ts is <;> simp only [hk, cond_true, cond_false] at h
      · cases h
      · simp only [Option.some.injEq, Prod.mk.injEq] at h
        obtain ⟨rfl, rfl, _, rfl⟩ := h
        exact .weak hk hc
    · cases h
  | exit id => intro σ ds e τ ds' cs h _; simp only [runCode, Option.some.injEq, Prod.mk.injEq] at h; obtain ⟨rfl, rfl, _, _⟩ := h; exact .exit
  | ret => intro σ ds e τ ds' cs h _; simp only [runCode, Option.some.injEq, Prod.mk.injEq] at h; obtain ⟨rfl, rfl, _, _⟩ := h; exact .ret
  | _ => intro σ ds e τ ds' cs h; simp only [runCode] at h; cases h

/-- A whole call along decisions. -/
def runFn (cx : Cx) (C : Rel) (f : FuncId) (fn : Func) (args : List AV) (H : List AO) (ds : List Dec) : Option (AV × List AO × List Prop) :=
  match fn.body with
  | none => none
  | some c => bif dstsOk fn.ntmps c && Nat.ble args.length fn.ntmps then
    (match runCode cx C c (St.init args H) ds with
    | some (.exit _, _, _, _) => none
    | some (_, σ, ds, cs) => match (finish cx f fn.results.toList H.length).run C σ ds with
      | some ⟨(r, H'), _, _, cs'⟩ => some (r, H', cs ++ cs')
      | none => none
    | none => none) else none

theorem runFn_ev {cx : Cx} {C : Rel} {f : FuncId} {fn : Func} {args : List AV} {H : List AO} {ds : List Dec} {r : AV} {H' : List AO} {cs : List Prop} (hc : All cs)
    (hr : runFn cx C f fn args H ds = some (r, H', cs)) :
    ∃ c σ' e rs, fn.body = some c ∧ dstsOk fn.ntmps c = true ∧ args.length ≤ fn.ntmps ∧ EvCode cx C c (St.init args H) e σ' ∧ (e = .ret ∨ e = .normal) ∧
      (finish cx f fn.results.toList H.length).ev C σ'.fs (r, H') rs := by
  unfold runFn at hr
  split at hr
  · cases hr
  · rename_i c hb
    cases hg : dstsOk fn.ntmps c && Nat.ble args.length fn.ntmps <;> simp only [hg, cond_true, cond_false] at hr
    · cases hr
    · simp only [Bool.and_eq_true] at hg
      split at hr
      · cases hr
      · rename_i e σ ds' cs1 hne hcode
        split at hr
        · rename_i r2 H2 rs2 ds2 cs2 hfin
          simp only [Option.some.injEq, Prod.mk.injEq] at hr
          obtain ⟨rfl, rfl, rfl⟩ := hr
          obtain ⟨h1, h2⟩ := All.append hc
          refine ⟨c, σ, e, rs2, hb, hg.1, Nat.le_of_ble_eq_true hg.2, runCode_ev cx C c _ _ _ _ _ _ hcode h1, ?_, RP.run_ev C _ _ _ _ hfin h2⟩
          cases e with
          | normal => exact .inr rfl
          | ret => exact .inl rfl
          | exit id => exact (hne id rfl).elim
        · cases hr
      · cases hr

/-- Code along decisions. -/
theorem EvCode.run {cx : Cx} {C : Rel} {c : Code} {σ : St} (ds : List Dec) {e : AE} {τ : St} {cs : List Prop} (hc : AllL cs) (h : (runCode cx C c σ ds).map (fun x => (x.1, x.2.1, x.2.2.2)) = some (e, τ, cs)) :
    EvCode cx C c σ e τ := by
  simp only [Option.map_eq_some_iff] at h
  obtain ⟨⟨e', τ', ds', cs'⟩, hr, h⟩ := h
  simp only [Prod.mk.injEq] at h
  obtain ⟨rfl, rfl, rfl⟩ := h
  exact runCode_ev cx C c _ _ _ _ _ _ hr hc.all

end Go.Ev
end
section
/- The number of nested calls: monotony, and the call relation closed under its own rule. -/
namespace Go.Ev

theorem RP.ev_mono {α : Type} {C C' : Rel} (h : ∀ f a H r H', C f a H r H' → C' f a H r H') (q : RP α) : ∀ (F : FS) (x : α) (rs : List Res), q.ev C F x rs → q.ev C' F x rs := by
  induction q with
  | ret a => intro F x rs hq; exact hq
  | rdE t k ih => rintro F x rs ⟨r, hr, hq⟩; exact ⟨r, hr, ih _ _ _ _ hq⟩
  | rdS t k ih => rintro F x rs ⟨r, hr, hq⟩; exact ⟨r, hr, ih _ _ _ _ hq⟩
  | br b k ih => intro F x rs hq; exact ih _ _ _ _ hq
  | need o k ih => rintro F x rs ⟨d, hd, hq⟩; exact ⟨d, hd, ih _ _ _ _ hq⟩
  | norm y k ih => intro F x rs hq; exact ih _ _ _ _ hq
  | assert p k ih => rintro F x rs ⟨hp, hq⟩; exact ⟨hp, ih _ _ _ hq⟩
  | call f args H k ih => rintro F x rs ⟨r, H', hc, hq⟩; exact ⟨r, H', h _ _ _ _ _ hc, ih _ _ _ _ _ hq⟩
  | alt h k ih => rintro F x rs ⟨b, hq⟩; exact ⟨b, ih _ _ _ _ hq⟩
  | fail => intro F x rs hq; exact hq

theorem evOps_mono {cx : Cx} {C C' : Rel} (h : ∀ f a H r H', C f a H r H' → C' f a H r H') (ops : Array Oper) (os : List Oper) :
    ∀ (σ : St) (fps : List FP) (σ' : St), evOps cx C ops os σ fps σ' → evOps cx C' ops os σ fps σ' := by
  induction os with
  | nil => intro σ fps σ' hq; exact hq
  | cons o os ih => rintro σ fps σ' ⟨w, rs, r, hq, hf, hr⟩; exact ⟨w, rs, r, RP.ev_mono h _ _ _ _ hq, hf, ih _ _ _ hr⟩

theorem EvCode.mono {cx : Cx} {C C' : Rel} (h : ∀ f a H r H', C f a H r H' → C' f a H r H') {c : Code} {σ : St} {e : AE} {τ : St}
    (hq : EvCode cx C c σ e τ) : EvCode cx C' c σ e τ := by
  induction hq with
  | skip => exact .skip
  | region hr => exact .region (evOps_mono h _ _ _ _ _ hr)
  | draw hr hd => exact .draw (evOps_mono h _ _ _ _ _ hr) hd
  | seq _ _ ih1 ih2 => exact .seq ih1 ih2
  | seqE _ hn ih => exact .seqE ih hn
  | cond hb _ ih => exact .cond hb ih
  | block _ ih => exact .block ih
  | loop _ _ ih1 ih2 => exact .loop ih1 ih2
  | loopE _ hn ih => exact .loopE ih hn
  | exit => exact .exit
  | ret => exact .ret
  | weak hk _ ih => exact .weak hk ih
  | weakR _ hk ih => exact .weakR ih hk
  | frzR _ hk ih => exact .frzR ih hk
  | frzT _ h1 h2 h3 h4 ih => exact .frzT ih h1 h2 h3 h4

theorem EvCallN.succ (cx : Cx) : ∀ (n : Nat) (f : FuncId) (a : List AV) (H : List AO) (r : AV) (H' : List AO), EvCallN cx n f a H r H' → EvCallN cx (n + 1) f a H r H'
  | 0, _, _, _, _, _, h => h.elim
  | n + 1, f, a, H, r, H', h => by
    rcases h with h | ⟨a1, b1, ha, h1, h2⟩ | ⟨fn, c, σ', e, rs, hf, hb, hd, hl, hcl, hc, he, hfin⟩
    · exact .inl h
    · exact .inr (.inl ⟨a1, b1, ha, EvCallN.succ cx n _ _ _ _ _ h1, EvCallN.succ cx n _ _ _ _ _ h2⟩)
    · have hm := fun f a H r H' => EvCallN.succ cx n f a H r H'
      exact .inr (.inr ⟨fn, c, σ', e, rs, hf, hb, hd, hl, hcl, hc.mono hm, he, RP.ev_mono hm _ _ _ _ hfin⟩)

theorem EvCallN.le (cx : Cx) {n m : Nat} (h : n ≤ m) : ∀ (f : FuncId) (a : List AV) (H : List AO) (r : AV) (H' : List AO), EvCallN cx n f a H r H' → EvCallN cx m f a H r H' := by
  induction h with
  | refl => exact fun _ _ _ _ _ h => h
  | step _ ih => exact fun f a H r H' h => EvCallN.succ cx _ _ _ _ _ _ (ih f a H r H' h)

theorem RP.ev_fin {α : Type} (cx : Cx) (q : RP α) : ∀ (F : FS) (x : α) (rs : List Res), q.ev (EvCall cx) F x rs → ∃ n, q.ev (EvCallN cx n) F x rs := by
  induction q with
  | ret a => intro F x rs hq; exact ⟨0, hq⟩
  | rdE t k ih => rintro F x rs ⟨r, hr, hq⟩; obtain ⟨n, hn⟩ := ih _ _ _ _ hq; exact ⟨n, r, hr, hn⟩
  | rdS t k ih => rintro F x rs ⟨r, hr, hq⟩; obtain ⟨n, hn⟩ := ih _ _ _ _ hq; exact ⟨n, r, hr, hn⟩
  | br b k ih => intro F x rs hq; exact ih _ _ _ _ hq
  | need o k ih => rintro F x rs ⟨d, hd, hq⟩; obtain ⟨n, hn⟩ := ih _ _ _ _ hq; exact ⟨n, d, hd, hn⟩
  | norm y k ih => intro F x rs hq; exact ih _ _ _ _ hq
  | assert p k ih => rintro F x rs ⟨hp, hq⟩; obtain ⟨n, hn⟩ := ih _ _ _ hq; exact ⟨n, hp, hn⟩
  | call f args H k ih =>
    rintro F x rs ⟨r, H', ⟨m, hc⟩, hq⟩
    obtain ⟨n, hn⟩ := ih _ _ _ _ _ hq
    exact ⟨max n m, r, H', EvCallN.le cx (Nat.le_max_right _ _) _ _ _ _ _ hc, RP.ev_mono (EvCallN.le cx (Nat.le_max_left n m)) _ _ _ _ hn⟩
  | alt h k ih => rintro F x rs ⟨b, hq⟩; obtain ⟨n, hn⟩ := ih _ _ _ _ hq; exact ⟨n, b, hn⟩
  | fail => intro F x rs hq; exact ⟨0, hq⟩

theorem evOps_fin (cx : Cx) (ops : Array Oper) (os : List Oper) :
    ∀ (σ : St) (fps : List FP) (σ' : St), evOps cx (EvCall cx) ops os σ fps σ' → ∃ n, evOps cx (EvCallN cx n) ops os σ fps σ' := by
  induction os with
  | nil => intro σ fps σ' hq; exact ⟨0, hq⟩
  | cons o os ih =>
    rintro σ fps σ' ⟨w, rs, r, hq, hf, hr⟩
    obtain ⟨n, hn⟩ := RP.ev_fin cx _ _ _ _ hq
    obtain ⟨m, hm⟩ := ih _ _ _ hr
    exact ⟨max n m, w, rs, r, RP.ev_mono (EvCallN.le cx (Nat.le_max_left n m)) _ _ _ _ hn, hf, evOps_mono (EvCallN.le cx (Nat.le_max_right n m)) _ _ _ _ _ hm⟩

theorem EvCode.fin {cx : Cx} {c : Code} {σ : St} {e : AE} {τ : St} (hq : EvCode cx (EvCall cx) c σ e τ) : ∃ n, EvCode cx (EvCallN cx n) c σ e τ := by
  induction hq with
  | skip => exact ⟨0, .skip⟩
  | region hr => obtain ⟨n, hn⟩ := evOps_fin cx _ _ _ _ _ hr; exact ⟨n, .region hn⟩
  | draw hr hd => obtain ⟨n, hn⟩ := evOps_fin cx _ _ _ _ _ hr; exact ⟨n, .draw hn hd⟩
  | seq _ _ ih1 ih2 =>
    obtain ⟨n, hn⟩ := ih1; obtain ⟨m, hm⟩ := ih2
    exact ⟨max n m, .seq (hn.mono (EvCallN.le cx (Nat.le_max_left n m))) (hm.mono (EvCallN.le cx (Nat.le_max_right n m)))⟩
  | seqE _ h ih => obtain ⟨n, hn⟩ := ih; exact ⟨n, .seqE hn h⟩
  | cond hb _ ih => obtain ⟨n, hn⟩ := ih; exact ⟨n, .cond hb hn⟩
  | block _ ih => obtain ⟨n, hn⟩ := ih; exact ⟨n, .block hn⟩
  | loop _ _ ih1 ih2 =>
    obtain ⟨n, hn⟩ := ih1; obtain ⟨m, hm⟩ := ih2
    exact ⟨max n m, .loop (hn.mono (EvCallN.le cx (Nat.le_max_left n m))) (hm.mono (EvCallN.le cx (Nat.le_max_right n m)))⟩
  | loopE _ h ih => obtain ⟨n, hn⟩ := ih; exact ⟨n, .loopE hn h⟩
  | exit => exact ⟨0, .exit⟩
  | ret => exact ⟨0, .ret⟩
  | weak hk _ ih => obtain ⟨n, hn⟩ := ih; exact ⟨n, .weak hk hn⟩
  | weakR _ hk ih => obtain ⟨n, hn⟩ := ih; exact ⟨n, .weakR hn hk⟩
  | frzR _ hk ih => obtain ⟨n, hn⟩ := ih; exact ⟨n, .frzR hn hk⟩
  | frzT _ h1 h2 h3 h4 ih => obtain ⟨n, hn⟩ := ih; exact ⟨n, .frzT hn h1 h2 h3 h4⟩

theorem EvCall.prim {cx : Cx} {f : FuncId} {a : List AV} {H : List AO} {r : AV} {H' : List AO} (h : cx.prim f a H r H') : EvCall cx f a H r H' := ⟨1, .inl h⟩

/-- An empty slice: nil or not. -/
theorem EvCall.split {cx : Cx} {f : FuncId} {a b : List AV} {H : List AO} {r : AV} {H' : List AO} (h1 : EvCall cx f (a ++ .p (.s nilS) :: b) H r H') (h2 : EvCall cx f (a ++ .p .ne :: b) H r H') : EvCall cx f (a ++ .p (.sl []) :: b) H r H' := by
  obtain ⟨n, h1⟩ := h1
  obtain ⟨m, h2⟩ := h2
  exact ⟨max n m + 1, .inr (.inl ⟨a, b, rfl, EvCallN.le cx (Nat.le_max_left n m) _ _ _ _ _ h1, EvCallN.le cx (Nat.le_max_right n m) _ _ _ _ _ h2⟩)⟩

/-- A call, along decisions. -/
theorem EvCall.run {cx : Cx} {f : FuncId} (fn : Func) (hf : cx.P.funcs[f]? = some fn) (hcl : ∀ (vs : Array Value) (w : World), (callFunc f vs).run cx.P w = .ok (.enter f vs) w) {args : List AV} {H : List AO} {r : AV} {H' : List AO} (ds : List Dec) {cs : List Prop}
    (hcs : AllL cs) (h : runFn cx (EvCall cx) f fn args H ds = some (r, H', cs)) : EvCall cx f args H r H' := by
  obtain ⟨c, σ', e, rs, hb, hd, hl, hc, he, hfin⟩ := runFn_ev hcs.all h
  obtain ⟨n, hn⟩ := hc.fin
  obtain ⟨m, hm⟩ := RP.ev_fin cx _ _ _ _ hfin
  exact ⟨max n m + 1, .inr (.inr ⟨fn, c, σ', e, rs, hf, hb, hd, hl, hcl, hn.mono (EvCallN.le cx (Nat.le_max_left n m)), he, RP.ev_mono (EvCallN.le cx (Nat.le_max_right n m)) _ _ _ _ hm⟩)⟩

end Go.Ev
end
section
/- What abstract values and states say of a machine's values and worlds. -/
namespace Go.Ev

/-- Where an object lies; of a map of slices: the blocks that it owns beside, its values by key, the slice that waits to be stored. -/
structure Loc where
  b : Nat
  size : Nat
  own : Nat → Prop := fun _ => False
  val : Value → Value := fun _ => nilS
  pend : Value := nilS
abbrev mkLoc (b size : Nat) : Loc := { b := b, size := size }
def Loc.has (l : Loc) (b : Nat) : Prop := l.b = b ∨ l.own b
theorem Loc.has_b (l : Loc) : l.has l.b := .inl rfl

inductive Sh where
  | cells
  | arr (sz N : Nat)
  | map
  | gm (ver : Nat) (p : Bool)
  | it

def AO.sh : AO → Sh
  | .cells _ => .cells
  | .arr sz es _ => .arr sz es.length
  | .map _ _ => .map
  | .gm _ pe ver => .gm ver pe.isSome
  | .it _ _ => .it
def FS.sh (F : FS) (i : Id) : Option Sh := (F.gs i).map AO.sh

def one : Value → Bool
  | .agg _ | .tuple _ => false
  | _ => true

/-- Pure data and a value: what it leads to lies in I. -/
inductive PR (I : Nat → Nat → Prop) (w : World) : PV → Value → Prop where
  | s {x : Value} (h : clo x = true) : PR I w (.s x) x
  | nil : PR I w (.sl []) (.slice none 0 0)
  | ne {a : Addr} {c : Nat} : PR I w .ne (.slice (some a) 0 c)
  | sl {es : List (List PV)} {a : Addr} {c : Nat} (sz : Nat) (vs : Nat → Nat → Value) (h0 : es ≠ [] → a.spot = none) (hc : es.length ≤ c) (hsz : 0 < sz)
      (hrow : ∀ (i : Nat) (row : List PV), es[i]? = some row → row.length = sz)
      (hI : ∀ (i j : Nat) (row : List PV) (d : PV), es[i]? = some row → row[j]? = some d → I a.block (a.off + i * sz + j))
      (hcell : ∀ (i j : Nat) (row : List PV) (d : PV), es[i]? = some row → row[j]? = some d → w.cell? ⟨a.block, a.off + i * sz + j, none⟩ = some (vs i j))
      (h : ∀ (i j : Nat) (row : List PV) (d : PV), es[i]? = some row → row[j]? = some d → PR I w d (vs i j)) : PR I w (.sl es) (.slice (some a) es.length c)

theorem clo_one {x : Value} (h : clo x = true) : one x = true := by cases x <;> first | rfl | simp [clo] at h

theorem PR.one {I : Nat → Nat → Prop} {w : World} {d : PV} {x : Value} (h : PR I w d x) : one x = true := by
  cases h with
  | s h => exact clo_one h
  | nil => rfl
  | ne => rfl
  | sl _ _ _ _ _ _ _ _ _ => rfl

theorem PR.mono {I I' : Nat → Nat → Prop} {w w' : World} (hI : ∀ b o, I b o → I' b o) (hc : ∀ b o, I b o → w'.cell? ⟨b, o, none⟩ = w.cell? ⟨b, o, none⟩) {d : PV} {x : Value}
    (h : PR I w d x) : PR I' w' d x := by
  induction h with
  | s h => exact .s h
  | nil => exact .nil
  | ne => exact .ne
  | sl sz vs h0 hc' hsz hrow hi hcell _ ih =>
    exact .sl sz vs h0 hc' hsz hrow (fun i j row d h1 h2 => hI _ _ (hi i j row d h1 h2))
      (fun i j row d h1 h2 => (hc _ _ (hi i j row d h1 h2)).trans (hcell i j row d h1 h2)) ih

theorem PR.nrm {I : Nat → Nat → Prop} {w : World} {d : PV} {x : Value} (h : PR I w d x) : PR I w (nrm d) x := by
  cases h with
  | s h =>
    unfold Ev.nrm
    split
    · rename_i hx; cases hx; exact .nil
    · rename_i hx; cases hx
    · exact .s h
  | nil => exact .nil
  | ne => exact .sl 1 (fun _ _ => undef) (fun h => absurd rfl h) (Nat.zero_le _) Nat.one_pos (by simp) (by simp) (by simp) (by simp)
  | sl sz vs h0 hc hsz hrow hi hcell h => exact .sl sz vs h0 hc hsz hrow hi hcell h

inductive VR (L : Id → Loc) (sh : Id → Option Sh) (I : Nat → Nat → Prop) (w : World) : AV → Value → Prop where
  | p {d : PV} {x : Value} (h : PR I w d x) : VR L sh I w (.p d) x
  | ni {t : TypeId} {v : Value} : VR L sh I w .ni (.iface t v)
  | agg {cs : List AV} {xs : Array Value} (hl : xs.size = cs.length) (h1 : ∀ (i : Nat) (x : Value), xs[i]? = some x → one x = true)
      (h : ∀ (i : Nat) (c : AV) (x : Value), cs[i]? = some c → xs[i]? = some x → VR L sh I w c x) : VR L sh I w (.agg cs) (.agg xs)
  | rp {cs : List PV} {a : Addr} (vs : Nat → Value) (h0 : a.spot = none) (hI : ∀ (j : Nat) (d : PV), cs[j]? = some d → I a.block (a.off + j))
      (hcell : ∀ (j : Nat) (d : PV), cs[j]? = some d → w.cell? ⟨a.block, a.off + j, none⟩ = some (vs j)) (h : ∀ (j : Nat) (d : PV), cs[j]? = some d → PR I w d (vs j)) : VR L sh I w (.rp cs) (.pointer (some a))
  | ref {id : Id} {off : Nat} (h : sh id = some .cells) : VR L sh I w (.ref id off) (.pointer (some ⟨(L id).b, off, none⟩))
  | er {id : Id} {i j N : Nat} {a : Addr} (sz N0 : Nat) (h : sh id = some (.arr sz N0)) (hN : N ≤ N0)
      (ha : N = N0 → a = ⟨(L id).b, i * sz + j, none⟩) : VR L sh I w (.er id i j N) (.pointer (some a))
  | ms {id : Id} {off n N : Nat} {a : Addr} {c : Nat} (sz N0 : Nat) (h : sh id = some (.arr sz N0)) (hN : N ≤ N0)
      (ha : N = N0 → off + n ≤ N ∧ n ≤ c ∧ a.spot = none ∧ (c ≠ 0 → a = ⟨(L id).b, off * sz, none⟩) ∧ (off + c) * sz ≤ (L id).size ∧ N ≤ off + c) :
      VR L sh I w (.ms id off n N) (.slice (some a) n c)
  | mp {id : Id} (h : sh id = some .map ∨ ∃ v p, sh id = some (.gm v p)) : VR L sh I w (.mp id) (.map (some (L id).b))
  | gv {id : Id} {k : Value} {ver : Nat} {x : Value} (h1 : one x = true) (h : sh id = some .map ∨ ∃ v p, sh id = some (.gm v p) ∧ ver ≤ v ∧ (v = ver → x = (L id).val k)) : VR L sh I w (.gv id k ver) x
  | gn {id : Id} {ver : Nat} {x : Value} (h1 : one x = true) (h : sh id = some .map ∨ ∃ v p, sh id = some (.gm v p) ∧ ver ≤ v ∧ (v = ver → p = true ∧ x = (L id).pend)) : VR L sh I w (.gn id ver) x
  | itr {id : Id} (h : sh id = some .it) : VR L sh I w (.itr id) (.pointer (some ⟨(L id).b, 0, none⟩))
  | fn {f : FuncId} {cs : List AV} {xs : Array Value} (hl : xs.size = cs.length) (h : ∀ (i : Nat) (c : AV) (x : Value), cs[i]? = some c → xs[i]? = some x → VR L sh I w c x) :
      VR L sh I w (.fn f cs) (.func (.func f) #[] xs)
  | tup {cs : List AV} {xs : Array Value} (hl : xs.size = cs.length) (h : ∀ (i : Nat) (c : AV) (x : Value), cs[i]? = some c → xs[i]? = some x → VR L sh I w c x) :
      VR L sh I w (.tup cs) (.tuple xs)
  | junk {x : Value} : VR L sh I w .junk x

/-- What became of a slot. -/
def Compat (l l' : Loc) (s s' : Sh) : Prop :=
  match s, s' with
  | .cells, .cells => l' = l
  | .arr sz N, .arr sz' N' => sz' = sz ∧ N ≤ N' ∧ (N' = N → l' = l)
  | .map, .map => l' = l
  | .gm v p, .gm v' p' => l'.b = l.b ∧ v ≤ v' ∧ (v' = v → l'.val = l.val ∧ (p = true → p' = true ∧ l'.pend = l.pend))
  | .gm _ _, .map => l'.b = l.b
  | .it, .it => l' = l
  | _, _ => False

theorem Compat.refl (l : Loc) (s : Sh) : Compat l l s s := by cases s <;> simp [Compat]
theorem Compat.trans {l l' l'' : Loc} {s s' s'' : Sh} (h : Compat l l' s s') (k : Compat l' l'' s' s'') : Compat l l'' s s'' := by
  cases s <;> cases s' <;> cases s'' <;> simp only [Compat] at * 
  · exact k.trans h
  · obtain ⟨h1, h2, h3⟩ := h
    obtain ⟨k1, k2, k3⟩ := k
    refine ⟨k1.trans h1, Nat.le_trans h2 k2, fun he => ?_⟩
    rw [k3 (by omega), h3 (by omega)]
  · exact k.trans h
  · rw [k, h]
  · exact k.trans h.1
  · obtain ⟨h1, h2, h3⟩ := h
    obtain ⟨k1, k2, k3⟩ := k
    refine ⟨k1.trans h1, Nat.le_trans h2 k2, fun he => ?_⟩
    obtain ⟨k4, k5⟩ := k3 (by omega)
    obtain ⟨h4, h5⟩ := h3 (by omega)
    refine ⟨k4.trans h4, fun hp => ?_⟩
    obtain ⟨h6, h7⟩ := h5 hp
    obtain ⟨k6, k7⟩ := k5 h6
    exact ⟨k6, k7.trans h7⟩
  · exact k.trans h

theorem idsL_get {cs : List AV} {i : Nat} {c : AV} (h : cs[i]? = some c) {id : Id} (hid : id ∈ c.ids) : id ∈ idsL cs := by
  induction cs generalizing i with
  | nil => simp at h
  | cons x r ih =>
    simp only [idsL, List.mem_append]
    cases i with
    | zero => simp at h; subst h; exact .inl hid
    | succ i => exact .inr (ih (by simpa using h))

theorem VR.mono {L L' : Id → Loc} {sh sh' : Id → Option Sh} {I I' : Nat → Nat → Prop} {w w' : World} (hI : ∀ b o, I b o → I' b o)
    (hc : ∀ b o, I b o → w'.cell? ⟨b, o, none⟩ = w.cell? ⟨b, o, none⟩) {v : AV} {x : Value} (h : VR L sh I w v x) :
    (∀ id ∈ v.ids, ∀ s, sh id = some s → ∃ s', sh' id = some s' ∧ Compat (L id) (L' id) s s') → VR L' sh' I' w' v x := by
  induction h with
  | p h => exact fun _ => .p (h.mono hI hc)
  | ni => exact fun _ => .ni
  | agg hl h1 _ ih => exact fun he => .agg hl h1 fun i c x hi hx => ih i c x hi hx fun id hid => he id (idsL_get hi hid)
  | rp vs h0 hi hcell h =>
    exact fun _ => .rp vs h0 (fun j d hd => hI _ _ (hi j d hd)) (fun j d hd => (hc _ _ (hi j d hd)).trans (hcell j d hd)) (fun j d hd => (h j d hd).mono hI hc)
  | @ref id off h =>
    intro he
    obtain ⟨s', hs', hcp⟩ := he id (by simp [AV.ids]) _ h
    cases s' <;> simp only [Compat] at hcp
    rw [← hcp]
    exact .ref hs'
  | @er id i j N a sz N0 h hN ha =>
    intro he
    obtain ⟨s', hs', hcp⟩ := he id (by simp [AV.ids]) _ h
    cases s' <;> simp only [Compat] at hcp
    obtain ⟨rfl, hle, hl⟩ := hcp
    refine .er _ _ hs' (Nat.le_trans hN hle) fun he => ?_
    rw [hl (by omega)]
    exact ha (by omega)
  | @ms id off n N a c sz N0 h hN ha =>
    intro he
    obtain ⟨s', hs', hcp⟩ := he id (by simp [AV.ids]) _ h
    cases s' <;> simp only [Compat] at hcp
    obtain ⟨rfl, hle, hl⟩ := hcp
    refine .ms _ _ hs' (Nat.le_trans hN hle) fun he => ?_
    rw [hl (by omega)]
    exact ha (by omega)
  | @mp id h =>
    intro he
    rcases h with h | ⟨v, p, h⟩
    · obtain ⟨s', hs', hcp⟩ := he id (by simp [AV.ids]) _ h
      cases s' <;> simp only [Compat] at hcp
      rw [← hcp]
      exact .mp (.inl hs')
    · obtain ⟨s', hs', hcp⟩ := he id (by simp [AV.ids]) _ h
      cases s' <;> simp only [Compat] at hcp
      · rw [← hcp]
        exact .mp (.inl hs')
      · rw [← hcp.1]
        exact .mp (.inr ⟨_, _, hs'⟩)
  | @gv id k ver x h1 h =>
    intro he
    refine .gv h1 ?_
    rcases h with h | ⟨v, p, h, hle, hx⟩
    · obtain ⟨s', hs', hcp⟩ := he id (by simp [AV.ids]) _ h
      cases s' <;> simp only [Compat] at hcp
      exact .inl hs'
    · obtain ⟨s', hs', hcp⟩ := he id (by simp [AV.ids]) _ h
      cases s' <;> simp only [Compat] at hcp
      · exact .inl hs'
      · obtain ⟨_, h2, h3⟩ := hcp
        exact .inr ⟨_, _, hs', Nat.le_trans hle h2, fun e => by rw [(h3 (by omega)).1]; exact hx (by omega)⟩
  | @gn id ver x h1 h =>
    intro he
    refine .gn h1 ?_
    rcases h with h | ⟨v, p, h, hle, hx⟩
    · obtain ⟨s', hs', hcp⟩ := he id (by simp [AV.ids]) _ h
      cases s' <;> simp only [Compat] at hcp
      exact .inl hs'
    · obtain ⟨s', hs', hcp⟩ := he id (by simp [AV.ids]) _ h
      cases s' <;> simp only [Compat] at hcp
      · exact .inl hs'
      · obtain ⟨_, h2, h3⟩ := hcp
        refine .inr ⟨_, _, hs', Nat.le_trans hle h2, fun e => ?_⟩
        obtain ⟨hp, hx⟩ := hx (by omega)
        obtain ⟨h4, h5⟩ := (h3 (by omega)).2 hp
        exact ⟨h4, by rw [h5]; exact hx⟩
  | @itr id h =>
    intro he
    obtain ⟨s', hs', hcp⟩ := he id (by simp [AV.ids]) _ h
    cases s' <;> simp only [Compat] at hcp
    rw [← hcp]
    exact .itr hs'
  | fn hl _ ih => exact fun he => .fn hl fun i c x hi hx => ih i c x hi hx fun id hid => he id (idsL_get hi hid)
  | tup hl _ ih => exact fun he => .tup hl fun i c x hi hx => ih i c x hi hx fun id hid => he id (idsL_get hi hid)
  | junk => exact fun _ => .junk

/-- Map entries. -/
def MR (I : Nat → Nat → Prop) (w : World) (g : Bool) (e : Value × List PV) (m : MapEntry) : Prop :=
  m.key = e.1 ∧ ((g = false ∧ ∃ d, e.2 = [d] ∧ PR I w d m.val) ∨
    g = true ∧ ∃ xs : Array Value, m.val = .agg xs ∧ xs.size = e.2.length ∧ ∀ (i : Nat) (d : PV) (x : Value), e.2[i]? = some d → xs[i]? = some x → PR I w d x)

/-- A slice of one-cell elements that lies alone in a block. -/
def GS (I : Nat → Nat → Prop) (w : World) (B : Nat) (rows : List (List PV)) (x : Value) : Prop :=
  ∃ (c : Nat) (xs : Array Value) (e : TypeId), x = .slice (some ⟨B, 0, none⟩) rows.length c ∧ w.heap[B]? = some (.cells xs e (0, 0)) ∧ rows.length ≤ c ∧ c ≤ xs.size ∧
    ∀ (j : Nat) (row : List PV), rows[j]? = some row → ∃ d y, row = [d] ∧ xs[j]? = some y ∧ PR I w d y
/-- A map of slices, each in a block of its own. -/
structure GM (I : Nat → Nat → Prop) (w : World) (l : Loc) (es : List (Value × List PV)) (pe : Option (Value × List (List PV))) (ms : Array MapEntry) (bs : Nat → Nat) : Prop where
  size : ms.size = es.length
  ent : ∀ (i : Nat) (e : Value × List PV) (m : MapEntry), es[i]? = some e → ms[i]? = some m → m.key = e.1 ∧ m.val = l.val e.1 ∧ ∃ rows, e.2 = [.sl rows] ∧ rows ≠ [] ∧ GS I w (bs i) rows m.val
  str : ∀ (i : Nat) (e : Value × List PV), es[i]? = some e → ∃ s, e.1 = .string s
  dist : ∀ (i j : Nat) (e f : Value × List PV), es[i]? = some e → es[j]? = some f → keyEq e.1 f.1 = true → i = j
  absent : ∀ k, mapHas es k = false → l.val k = nilS
  own : ∀ i, i < es.length → l.own (bs i)
  inj : ∀ i j, i < es.length → j < es.length → bs i = bs j → i = j
  free : ∀ b, l.own b → b ≠ l.b ∧ b < w.heap.size ∧ ∀ o, ¬ I b o
  pend : ∀ k rows, pe = some (k, rows) → rows ≠ [] ∧ ∃ B, l.own B ∧ GS I w B rows l.pend ∧ ∀ (i : Nat) (e : Value × List PV), es[i]? = some e → bs i = B → keyEq k e.1 = true

/-- A tracked object. -/
def OR (L : Id → Loc) (sh : Id → Option Sh) (I : Nat → Nat → Prop) (w : World) (l : Loc) : AO → Prop
  | .cells cs => ∃ (xs : Array Value) (e : TypeId), w.heap[l.b]? = some (.cells xs e (0, 0)) ∧ xs.size = cs.length ∧
      (∀ (i : Nat) (c : AV) (x : Value), cs[i]? = some c → xs[i]? = some x → one x = true ∧ VR L sh I w c x) ∧ ∀ o, ¬ I l.b o
  | .arr sz es fz => 0 < sz ∧ (∀ (i : Nat) (row : List PV), es[i]? = some row → row.length = sz) ∧ fz ≤ es.length ∧
      ∃ (xs : Array Value) (e : TypeId), w.heap[l.b]? = some (.cells xs e (0, 0)) ∧ xs.size = l.size ∧ es.length * sz ≤ l.size ∧
      (∀ (i j : Nat) (row : List PV) (d : PV), es[i]? = some row → row[j]? = some d → ∃ x, xs[i * sz + j]? = some x ∧ PR I w d x) ∧
      ∀ o, I l.b o → o < fz * sz
  | .map g es => ∃ (ms : Array MapEntry) (k : Nat), w.heap[l.b]? = some (.map ms k) ∧ ms.size = es.length ∧ ∀ (i : Nat) (e : Value × List PV) (m : MapEntry), es[i]? = some e → ms[i]? = some m → MR I w g e m
  | .gm es pe _ => ∃ (ms : Array MapEntry) (k : Nat) (bs : Nat → Nat), w.heap[l.b]? = some (.map ms k) ∧ GM I w l es pe ms bs
  | .it s pos => w.heap[l.b]? = some (.stringIter s pos)

/-- Variables that hold some integer. -/
def GI (cx : Cx) (I : Nat → Nat → Prop) (w : World) : Prop := ∀ g ∈ cx.ints, I g 0 ∧ ∃ m, w.cell? ⟨g, 0, none⟩ = some (.int .i64 m)
theorem GI.mono {cx : Cx} {I I' : Nat → Nat → Prop} {w w' : World} (h : GI cx I w) (hI : ∀ b o, I b o → I' b o) (hc : ∀ b o, I b o → w'.cell? ⟨b, o, none⟩ = w.cell? ⟨b, o, none⟩) : GI cx I' w' := fun g hg => by
  obtain ⟨h1, m, h2⟩ := h g hg
  exact ⟨hI _ _ h1, m, (hc _ _ h1).trans h2⟩

/-- A state and a frame's temporaries in a world. -/
structure SR (cx : Cx) (n : Nat) (L : Id → Loc) (I : Nat → Nat → Prop) (F : FS) (a : Act) (w : World) : Prop where
  env : ∀ t, VR L F.sh I w (F.ge t) (a.tmps.getD t undef)
  obj : ∀ id o, F.gs id = some o → OR L F.sh I w (L id) o
  inj : ∀ i j, (F.gs i).isSome = true → (F.gs j).isSome = true → ∀ b, (L i).has b → (L j).has b → i = j
  ownlt : ∀ i, (F.gs i).isSome = true → ∀ b, (L i).has b → b < w.heap.size
  dom : ∀ b o, I b o → b < w.heap.size
  glob : ∀ g cs, cx.glob g = some cs → VR L F.sh I w (.rp cs) (.pointer (some ⟨g, 0, none⟩))
  defers : a.defers = []
  tsz : a.tmps.size = n
  gi : GI cx I w

/-- What a piece of a run may turn. -/
structure Stp (L : Id → Loc) (I : Nat → Nat → Prop) (F : FS) (w : World) (L' : Id → Loc) (I' : Nat → Nat → Prop) (F' : FS) (w' : World) : Prop where
  os : w'.os = w.os
  tape : w'.tape = w.tape
  output : w'.output = w.output
  size : w.heap.size ≤ w'.heap.size
  frame : ∀ b, b < w.heap.size → (∀ id, (F.gs id).isSome = true → ¬ (L id).has b) → w'.heap[b]? = w.heap[b]?
  sub : ∀ b o, I b o → I' b o
  cell : ∀ b o, I b o → w'.cell? ⟨b, o, none⟩ = w.cell? ⟨b, o, none⟩
  new : ∀ b o, I' b o → I b o ∨ w.heap.size ≤ b ∨ ∃ id, (F.gs id).isSome = true ∧ (L id).has b
  trk : ∀ id, (F'.gs id).isSome = true → ∀ b, (L' id).has b → w.heap.size ≤ b ∨ ∃ id', (F.gs id').isSome = true ∧ (L id').has b
  arg : ∀ i s, F.sh (0, i) = some s → ∃ s', F'.sh (0, i) = some s' ∧ Compat (L (0, i)) (L' (0, i)) s s'

theorem Stp.refl (L : Id → Loc) (I : Nat → Nat → Prop) (F : FS) (w : World) : Stp L I F w L I F w :=
  ⟨rfl, rfl, rfl, Nat.le_refl _, fun _ _ _ => rfl, fun _ _ h => h, fun _ _ _ => rfl, fun _ _ h => .inl h, fun id h _ hb => .inr ⟨id, h, hb⟩, fun _ s h => ⟨s, h, .refl _ _⟩⟩

theorem Stp.trans {L L1 L2 : Id → Loc} {I I1 I2 : Nat → Nat → Prop} {F F1 F2 : FS} {w w1 w2 : World} (h : Stp L I F w L1 I1 F1 w1) (k : Stp L1 I1 F1 w1 L2 I2 F2 w2) :
    Stp L I F w L2 I2 F2 w2 where
  os := k.os.trans h.os
  tape := k.tape.trans h.tape
  output := k.output.trans h.output
  size := Nat.le_trans h.size k.size
  frame b hb hn := by
    refine (k.frame b (Nat.lt_of_lt_of_le hb h.size) fun id hid he => ?_).trans (h.frame b hb hn)
    rcases h.trk id hid b he with h1 | ⟨id', h1, h2⟩
    · omega
    · exact hn id' h1 h2
  sub b o hi := k.sub b o (h.sub b o hi)
  cell b o hi := (k.cell b o (h.sub b o hi)).trans (h.cell b o hi)
  new b o hi := by
    rcases k.new b o hi with h1 | h1 | ⟨id, h1, h2⟩
    · exact h.new b o h1
    · exact .inr (.inl (Nat.le_trans h.size h1))
    · rcases h.trk id h1 b h2 with h3 | ⟨id', h3, h4⟩
      · exact .inr (.inl h3)
      · exact .inr (.inr ⟨id', h3, h4⟩)
  trk id hid b hb := by
    rcases k.trk id hid b hb with h1 | ⟨id', h1, h2⟩
    · exact .inl (Nat.le_trans h.size h1)
    · exact h.trk id' h1 b h2
  arg i s hs := by
    obtain ⟨s1, h1, c1⟩ := h.arg i s hs
    obtain ⟨s2, h2, c2⟩ := k.arg i s1 h1
    exact ⟨s2, h2, c1.trans c2⟩

end Go.Ev
end
section
/- Reading: what the pieces of an operation's program say of the machine. -/
namespace Go.Ev

inductive All2 {α β : Type} (R : α → β → Prop) : List α → List β → Prop where
  | nil : All2 R [] []
  | cons {x : α} {y : β} {l : List α} {m : List β} (h : R x y) (k : All2 R l m) : All2 R (x :: l) (y :: m)

theorem All2.length {α β : Type} {R : α → β → Prop} {l : List α} {m : List β} (h : All2 R l m) : l.length = m.length := by
  induction h with
  | nil => rfl
  | cons _ _ ih => simp [ih]

theorem All2.get {α β : Type} {R : α → β → Prop} {l : List α} {m : List β} (h : All2 R l m) : ∀ (i : Nat) (x : α) (y : β), l[i]? = some x → m[i]? = some y → R x y := by
  induction h with
  | nil => intro i x y hx; simp at hx
  | cons h _ ih =>
    intro i x y hx hy
    cases i with
    | zero => simp at hx hy; subst hx; subst hy; exact h
    | succ i => exact ih i x y (by simpa using hx) (by simpa using hy)

theorem All2.mono {α β : Type} {R S : α → β → Prop} (hs : ∀ x y, R x y → S x y) {l : List α} {m : List β} (h : All2 R l m) : All2 S l m := by
  induction h with
  | nil => exact .nil
  | cons h _ ih => exact .cons (hs _ _ h) ih

theorem All2.of_get {α β : Type} {R : α → β → Prop} : ∀ {l : List α} {m : List β}, l.length = m.length → (∀ (i : Nat) (x : α) (y : β), l[i]? = some x → m[i]? = some y → R x y) → All2 R l m
  | [], [], _, _ => .nil
  | [], _ :: _, h, _ => by simp at h
  | _ :: _, [], h, _ => by simp at h
  | _ :: _, _ :: _, h, hg => .cons (hg 0 _ _ (by simp) (by simp)) (All2.of_get (by simpa using h) fun i x y hx hy => hg (i + 1) x y (by simpa using hx) (by simpa using hy))

theorem All2.append {α β : Type} {R : α → β → Prop} {l l' : List α} {m m' : List β} (h : All2 R l m) (k : All2 R l' m') : All2 R (l ++ l') (m ++ m') := by
  induction h with
  | nil => exact k
  | cons h _ ih => exact .cons h ih

theorem All2.take {α β : Type} {R : α → β → Prop} (n : Nat) {l : List α} {m : List β} (h : All2 R l m) : All2 R (l.take n) (m.take n) := by
  induction h generalizing n with
  | nil => simp; exact .nil
  | cons h _ ih => cases n with
    | zero => simp; exact .nil
    | succ n => simp; exact .cons h (ih n)

theorem All2.drop {α β : Type} {R : α → β → Prop} (n : Nat) {l : List α} {m : List β} (h : All2 R l m) : All2 R (l.drop n) (m.drop n) := by
  induction h generalizing n with
  | nil => simp; exact .nil
  | cons h k ih => cases n with
    | zero => simp; exact .cons h k
    | succ n => simp; exact ih n

variable {cx : Cx} {n : Nat} {L : Id → Loc} {I : Nat → Nat → Prop} {F : FS} {a : Act} {w : World}

theorem VR_const (v : Value) : VR L F.sh I w (constAV v) v := by
  unfold constAV
  split
  · rename_i cs
    cases h : cs.toList.all clo with
    | false => exact .junk
    | true =>
      simp only [cond_true]
      have hall : ∀ (i : Nat) (x : Value), cs[i]? = some x → clo x = true := fun i x hx => by
        rw [List.all_eq_true] at h
        exact h x (by rw [Array.mem_toList_iff]; exact Array.mem_of_getElem? hx)
      refine .agg (by simp) (fun i x hx => clo_one (hall i x hx)) fun i c x hc hx => ?_
      simp only [List.getElem?_map, Option.map_eq_some_iff] at hc
      obtain ⟨y, hy, rfl⟩ := hc
      have : y = x := by
        have h2 : cs.toList[i]? = cs[i]? := by simp
        rw [h2, hx] at hy
        exact (Option.some.inj hy).symm
      subst this
      exact .p (.s (hall i _ hx))
  · cases h : clo v with
    | false => exact .junk
    | true => exact .p (.s h)

theorem rdV_ev {α : Type} {C : Rel} {x : Operand} {k : AV → RP α} {r : α} {rs : List Res} (hs : SR cx n L I F a w) (h : (rdV cx x k).ev C F r rs) :
    ∃ v rs', VR L F.sh I w v (a.eval x) ∧ (k v).ev C F r rs' := by
  cases x with
  | tmp t => obtain ⟨rs', _, h⟩ := h; exact ⟨_, _, hs.env t, h⟩
  | const v => exact ⟨_, _, VR_const v, h⟩
  | global g =>
    simp only [rdV] at h
    split at h
    · rename_i cs hg; exact ⟨_, _, hs.glob g cs hg, h⟩
    · exact h.elim
  | func f => exact ⟨_, _, .fn rfl (by simp), h⟩

theorem rdVs_ev {α : Type} {C : Rel} (hs : SR cx n L I F a w) : ∀ {xs : List Operand} {k : List AV → RP α} {r : α} {rs : List Res}, (rdVs cx xs k).ev C F r rs →
    ∃ vs rs', All2 (VR L F.sh I w) vs (xs.map a.eval) ∧ (k vs).ev C F r rs'
  | [], k, r, rs, h => ⟨[], rs, .nil, h⟩
  | x :: xs, k, r, rs, h => by
    obtain ⟨v, rs1, hv, h⟩ := rdV_ev hs h
    obtain ⟨vs, rs2, hvs, h⟩ := rdVs_ev hs h
    exact ⟨v :: vs, rs2, .cons hv hvs, h⟩

theorem withTy_ev {α : Type} {C : Rel} {t : TypeId} {k : TI → RP α} {r : α} {rs : List Res} (h : (withTy cx t k).ev C F r rs) : ∃ ti, cx.ty t = some ti ∧ (k ti).ev C F r rs := by
  unfold withTy at h
  split at h
  · rename_i ti hti; exact ⟨ti, hti, h⟩
  · exact h.elim

theorem VR.scal {x : Value} {y : Value} (h : VR L F.sh I w (.p (.s x)) y) : y = x ∧ clo x = true := by
  cases h with
  | p h => cases h with
    | s h => exact ⟨rfl, h⟩

theorem asI_ev {α : Type} {C : Rel} {v : AV} {y : Value} {k : IntKind → Int → RP α} {r : α} {rs : List Res} (hv : VR L F.sh I w v y) (h : (asI v k).ev C F r rs) :
    ∃ kd m, v = .p (.s (.int kd m)) ∧ y = .int kd m ∧ (k kd m).ev C F r rs := by
  unfold asI at h
  split at h
  · exact ⟨_, _, rfl, hv.scal.1, h⟩
  · exact h.elim
theorem asB_ev {α : Type} {C : Rel} {v : AV} {y : Value} {k : Bool → RP α} {r : α} {rs : List Res} (hv : VR L F.sh I w v y) (h : (asB v k).ev C F r rs) :
    ∃ b, v = .p (.s (.bool b)) ∧ y = .bool b ∧ (k b).ev C F r rs := by
  unfold asB at h
  split at h
  · exact ⟨_, rfl, hv.scal.1, h⟩
  · exact h.elim
theorem scal_ev {α : Type} {C : Rel} {v : AV} {y : Value} {k : Value → RP α} {r : α} {rs : List Res} (hv : VR L F.sh I w v y) (h : (scal v k).ev C F r rs) :
    ∃ x, v = .p (.s x) ∧ y = x ∧ clo x = true ∧ (k x).ev C F r rs := by
  unfold Ev.scal at h
  split at h
  · exact ⟨_, rfl, hv.scal.1, hv.scal.2, h⟩
  · exact h.elim

/- ---------------------------------------------------------------- the table of types fits the program -/
/-- A zero value's form. -/
def zform (g : Bool) : Value → Bool
  | .agg _ => g
  | .tuple _ => false
  | _ => !g

structure TIok (P : Program) (t : TypeId) (ti : TI) : Prop where
  ex : ∃ (i : TypeInfo) (z : Value), P.info? t = some i ∧ i.size = ti.sz ∧ i.bytes = ti.by' ∧ i.zero = some z ∧ z.cells.toList = ti.zero
  und : match ti.k with
    | .int k => P.underlying t = some (.int k)
    | .bool => P.underlying t = some .bool
    | .str => P.underlying t = some .string
    | .struct fs => ∃ gs : Array Field, P.underlying t = some (.struct gs) ∧ gs.toList.map (fun g => (g.offset, g.type)) = fs
    | .arr n e => P.underlying t = some (.array n e)
    | .slice e => P.underlying t = some (.slice e)
    | .ptr e => P.underlying t = some (.pointer e)
    | .map k e => P.underlying t = some (.map k e)
    | .iface => ∃ ms, P.underlying t = some (.interface ms)
    | .other => True
  agg : ∃ d, P.underlying t = some d ∧ ti.agg = (match d with | .struct _ | .array _ _ => true | _ => false)
  clos : ti.zero.all clo = true
  zsz : ti.zero.length = ti.sz
  one : ti.agg = false → ti.sz = 1
  zf : ∀ i z, P.info? t = some i → i.zero = some z → zform ti.agg z = true

theorem TIok.zero {P : Program} {t : TypeId} {ti : TI} (h : TIok P t ti) : ∃ z, z.cells.toList = ti.zero ∧ zform ti.agg z = true ∧ ∀ w, (Go.zeroValue t).run P w = .ok z w := by
  obtain ⟨i, z, hi, hs, hb, hz, hc⟩ := h.ex
  exact ⟨z, hc, h.zf i z hi hz, fun w => by simp [Go.zeroValue, typeInfo, hi, hz]⟩

structure CxOk (cx : Cx) : Prop where
  ty : ∀ t ti, cx.ty t = some ti → TIok cx.P t ti

theorem TIok.sizeOf {P : Program} {t : TypeId} {ti : TI} (h : TIok P t ti) (w : World) : (sizeOf t).run P w = .ok ti.sz w := by
  obtain ⟨i, z, hi, hs, _⟩ := h.ex
  simp [Go.sizeOf, typeInfo, hi, hs]
theorem TIok.zeroValue {P : Program} {t : TypeId} {ti : TI} (h : TIok P t ti) : ∃ z, z.cells.toList = ti.zero ∧ ∀ w, (zeroValue t).run P w = .ok z w := by
  obtain ⟨i, z, hi, hs, hb, hz, hc⟩ := h.ex
  exact ⟨z, hc, fun w => by simp [Go.zeroValue, typeInfo, hi, hz]⟩
theorem TIok.isAgg {P : Program} {t : TypeId} {ti : TI} (h : TIok P t ti) (w : World) : (isAgg t).run P w = .ok ti.agg w := by
  obtain ⟨d, hd, ha⟩ := h.agg
  unfold Go.isAgg
  rw [Sem.run_bind, run_underlying hd w, ha]
  cases d <;> rfl

end Go.Ev
end
section
/- The three ways in which a state is turned: a temporary is put, an object is set, slices are frozen. -/
namespace Go.Ev

variable {cx : Cx} {n : Nat} {L L' : Id → Loc} {I I' : Nat → Nat → Prop} {F F' : FS} {a : Act} {w w' : World}

theorem FS.app_split (F : FS) (w : Wr) : F.app w = (F.app { s := w.s }).app { e := w.e } := rfl

theorem St.fs_setE (σ : St) (t : Nat) (v : AV) : (σ.setE t v).fs = σ.fs.setE t v := by
  have hrm : ∀ (l : List (Nat × AV)) (u : Nat), t ≠ u → lkE (rmE l t) u = lkE l u := by
    intro l u hne
    induction l with
    | nil => rfl
    | cons x r ih =>
      obtain ⟨k, y⟩ := x
      simp only [rmE]
      cases hk : k == t with
      | true =>
        simp only [cond_true, ih, lkE]
        have : (k == u) = false := by simp at hk ⊢; omega
        simp [this]
      | false =>
        simp only [cond_false, lkE, ih]
  have key : ∀ u, (σ.setE t v).getE u = bif t == u then v else σ.getE u := by
    intro u
    show lkE ((t, v) :: rmE σ.e t) u = _
    simp only [lkE]
    cases h : t == u with
    | true => rfl
    | false => simp only [cond_false]; exact hrm _ _ (by simpa using h)
  exact congrArg (fun f => FS.mk f σ.getS) (funext key)

theorem idEq_refl (i : Id) : idEq i i = true := idEq_iff.2 rfl
theorem idEq_false {i j : Id} : idEq i j = false ↔ i ≠ j := by
  rw [← Bool.not_eq_true, idEq_iff]

theorem lkS_rmS (l : List (Id × AO)) (i j : Id) (hne : i ≠ j) : lkS (rmS l i) j = lkS l j := by
  induction l with
  | nil => rfl
  | cons x r ih =>
    obtain ⟨k, y⟩ := x
    simp only [rmS]
    cases hk : idEq k i with
    | true =>
      have : idEq k j = false := by rw [idEq_false]; rw [idEq_iff] at hk; rw [hk]; exact hne
      simp [lkS, ih, this]
    | false => simp only [cond_false, lkS, ih]

theorem St.fs_setS (σ : St) (i : Id) (o : AO) : (σ.setS i o).fs = σ.fs.setS i o := by
  have key : ∀ j, (σ.setS i o).getS j = bif idEq i j then some o else σ.getS j := by
    intro j
    show lkS ((i, o) :: rmS σ.s i) j = _
    simp only [lkS]
    cases h : idEq i j with
    | true => rfl
    | false => simp only [cond_false]; exact lkS_rmS _ _ _ (idEq_false.1 h)
  exact congrArg (fun f => FS.mk σ.getE f) (funext key)

theorem St.fs_app (σ : St) (w : Wr) : (σ.app w).fs = σ.fs.app w := by
  have h1 : ∀ (l : List (Id × AO)) (σ : St), (l.foldl (fun τ (io : Id × AO) => τ.setS io.1 io.2) σ).fs = l.foldl (fun F (io : Id × AO) => F.setS io.1 io.2) σ.fs := by
    intro l
    induction l with
    | nil => intro σ; rfl
    | cons x r ih => intro σ; simp only [List.foldl_cons, ih, St.fs_setS]
  have h2 : ∀ (l : List (Nat × AV)) (σ : St), (l.foldl (fun τ (tv : Nat × AV) => τ.setE tv.1 tv.2) σ).fs = l.foldl (fun F (tv : Nat × AV) => F.setE tv.1 tv.2) σ.fs := by
    intro l
    induction l with
    | nil => intro σ; rfl
    | cons x r ih => intro σ; simp only [List.foldl_cons, ih, St.fs_setE]
  simp only [St.app, FS.app, h2, h1]

theorem FS.app_e_gs (F : FS) (l : List (Nat × AV)) : (F.app { e := l }).gs = F.gs := by
  simp only [FS.app, List.foldl_nil]
  induction l generalizing F with
  | nil => rfl
  | cons x r ih => simp only [List.foldl_cons, ih]; rfl
theorem FS.app_e_sh (F : FS) (l : List (Nat × AV)) : (F.app { e := l }).sh = F.sh := by
  funext i; simp only [FS.sh, FS.app_e_gs]
theorem FS.app_s_ge (F : FS) (l : List (Id × AO)) : (F.app { s := l }).ge = F.ge := by
  simp only [FS.app, List.foldl_nil]
  induction l generalizing F with
  | nil => rfl
  | cons x r ih => simp only [List.foldl_cons, ih]; rfl

/-- A result is put into its temporary. -/
theorem SR.put (hs : SR cx n L I F a w) {o : Oper} {v : AV} {x : Value} (hv : VR L F.sh I w v x) (hd : ∀ d, o.dst = some d → d < n) :
    SR cx n L I (F.app { e := dstW o v }) (a.put o.dst x) w := by
  cases ho : o.dst with
  | none =>
    have : F.app { e := dstW o v } = F := by simp [dstW, ho, FS.app]
    rw [this]
    exact hs
  | some d =>
    have hlt := hd d ho
    have hF : F.app { e := dstW o v } = F.setE d v := by simp [dstW, ho, FS.app]
    rw [hF]
    refine ⟨fun t => ?_, hs.obj, hs.inj, hs.ownlt, hs.dom, hs.glob, hs.defers, by simp [Act.put, hs.tsz], hs.gi⟩
    simp only [FS.setE, Act.put]
    cases h : d == t with
    | true =>
      have : d = t := by simpa using h
      subst this
      simp only [cond_true]
      have : (a.tmps.setIfInBounds d x).getD d undef = x := by simp [hs.tsz, hlt]
      rw [this]
      exact hv
    | false =>
      have hne : d ≠ t := by simpa using h
      simp only [cond_false]
      have : (a.tmps.setIfInBounds d x).getD t undef = a.tmps.getD t undef := by simp [Array.getElem?_setIfInBounds_ne hne]
      rw [this]
      exact hs.env t

theorem Stp.put (h : Stp L I F w L' I' F' w') (l : List (Nat × AV)) : Stp L I F w L' I' (F'.app { e := l }) w' :=
  ⟨h.os, h.tape, h.output, h.size, h.frame, h.sub, h.cell, h.new, by rw [FS.app_e_gs]; exact h.trk, by rw [FS.app_e_sh]; exact h.arg⟩

theorem MR.mono (hI : ∀ b o, I b o → I' b o) (hc : ∀ b o, I b o → w'.cell? ⟨b, o, none⟩ = w.cell? ⟨b, o, none⟩) {g : Bool} {e : Value × List PV} {m : MapEntry} (h : MR I w g e m) : MR I' w' g e m := by
  obtain ⟨h1, h2⟩ := h
  refine ⟨h1, ?_⟩
  rcases h2 with ⟨hg, d, hd, hp⟩ | ⟨hg, xs, hx, hl, hp⟩
  · exact .inl ⟨hg, d, hd, hp.mono hI hc⟩
  · exact .inr ⟨hg, xs, hx, hl, fun i d x h1 h2 => (hp i d x h1 h2).mono hI hc⟩

theorem GS.mono (hI : ∀ b o, I b o → I' b o) (hc : ∀ b o, I b o → w'.cell? ⟨b, o, none⟩ = w.cell? ⟨b, o, none⟩) {B : Nat} {rows : List (List PV)} {x : Value} (hb : w'.heap[B]? = w.heap[B]?) (h : GS I w B rows x) : GS I' w' B rows x := by
  obtain ⟨c, xs, e, h1, h2, h3, h4, h5⟩ := h
  refine ⟨c, xs, e, h1, hb.trans h2, h3, h4, fun j row hj => ?_⟩
  obtain ⟨d, y, k1, k2, k3⟩ := h5 j row hj
  exact ⟨d, y, k1, k2, k3.mono hI hc⟩
theorem GM.mono (hI : ∀ b o, I b o → I' b o) (hc : ∀ b o, I b o → w'.cell? ⟨b, o, none⟩ = w.cell? ⟨b, o, none⟩) {l : Loc} (hsz : w.heap.size ≤ w'.heap.size) (hb : ∀ b, l.own b → w'.heap[b]? = w.heap[b]? ∧ ∀ o, ¬ I' b o) {es : List (Value × List PV)} {pe : Option (Value × List (List PV))} {ms : Array MapEntry} {bs : Nat → Nat}
    (h : GM I w l es pe ms bs) : GM I' w' l es pe ms bs where
  size := h.size
  ent i e m he hm := by
    obtain ⟨h1, h2, rows, h3, h4, h5⟩ := h.ent i e m he hm
    exact ⟨h1, h2, rows, h3, h4, h5.mono hI hc (hb _ (h.own i (List.getElem?_eq_some_iff.1 he).1)).1⟩
  str := h.str
  dist := h.dist
  absent := h.absent
  own := h.own
  inj := h.inj
  free b hb' := by
    obtain ⟨h1, h2, _⟩ := h.free b hb'
    exact ⟨h1, Nat.lt_of_lt_of_le h2 hsz, (hb b hb').2⟩
  pend k rows hp := by
    obtain ⟨h1, B, h2, h3, h4⟩ := h.pend k rows hp
    exact ⟨h1, B, h2, h3.mono hI hc (hb _ h2).1, h4⟩

/-- An object of which nothing is turned. -/
theorem OR.mono {sh sh' : Id → Option Sh} {l : Loc} {o : AO} (h : OR L sh I w l o) (hsz : w.heap.size ≤ w'.heap.size) (hbs : ∀ b, l.has b → w'.heap[b]? = w.heap[b]?)
    (hc : ∀ b o, I b o → w'.cell? ⟨b, o, none⟩ = w.cell? ⟨b, o, none⟩)
    (he : ∀ id s, sh id = some s → ∃ s', sh' id = some s' ∧ Compat (L id) (L' id) s s') : OR L' sh' I w' l o := by
  have hb := hbs _ l.has_b
  cases o with
  | gm es pe ver =>
    obtain ⟨ms, k, bs, h1, h2⟩ := h
    exact ⟨ms, k, bs, hb.trans h1, h2.mono (fun _ _ h => h) hc hsz fun b hb => ⟨hbs b (.inr hb), (h2.free b hb).2.2⟩⟩
  | cells cs =>
    obtain ⟨xs, e, h1, h2, h3, h4⟩ := h
    exact ⟨xs, e, hb.trans h1, h2, fun i c x hi hx => ⟨(h3 i c x hi hx).1, (h3 i c x hi hx).2.mono (fun _ _ h => h) hc fun id _ s hs => he id s hs⟩, h4⟩
  | arr sz es fz =>
    obtain ⟨h0, h1, h2, xs, e, h3, h4, h5, h6, h7⟩ := h
    refine ⟨h0, h1, h2, xs, e, hb.trans h3, h4, h5, fun i j row d hi hj => ?_, h7⟩
    obtain ⟨x, hx, hp⟩ := h6 i j row d hi hj
    exact ⟨x, hx, hp.mono (fun _ _ h => h) hc⟩
  | map g es =>
    obtain ⟨ms, k, h1, h2, h3⟩ := h
    exact ⟨ms, k, hb.trans h1, h2, fun i e m hi hm => (h3 i e m hi hm).mono (fun _ _ h => h) hc⟩
  | it s pos => exact hb.trans h

theorem OR.lt {sh : Id → Option Sh} {l : Loc} {o : AO} (h : OR L sh I w l o) : l.b < w.heap.size := by
  cases o with
  | cells cs => obtain ⟨xs, e, h1, _⟩ := h; exact (Array.getElem?_eq_some_iff.1 h1).1
  | arr sz es fz => obtain ⟨_, _, _, xs, e, h1, _⟩ := h; exact (Array.getElem?_eq_some_iff.1 h1).1
  | map g es => obtain ⟨ms, k, h1, _⟩ := h; exact (Array.getElem?_eq_some_iff.1 h1).1
  | gm es pe ver => obtain ⟨ms, k, bs, h1, _⟩ := h; exact (Array.getElem?_eq_some_iff.1 h1).1
  | it s pos => exact (Array.getElem?_eq_some_iff.1 h).1

theorem SR.lt (hs : SR cx n L I F a w) {id : Id} (h : (F.gs id).isSome = true) : (L id).b < w.heap.size := by
  obtain ⟨o, ho⟩ := Option.isSome_iff_exists.1 h
  exact (hs.obj id o ho).lt

def updL (L : Id → Loc) (id : Id) (l : Loc) : Id → Loc := fun j => bif idEq id j then l else L j
theorem updL_same (L : Id → Loc) (id : Id) (l : Loc) : updL L id l id = l := by simp [updL, idEq_refl]
theorem updL_other (L : Id → Loc) {id j : Id} (l : Loc) (h : id ≠ j) : updL L id l j = L j := by simp [updL, idEq_false.2 h]

/-- An object is made or turned. -/
theorem SR.setG (hs : SR cx n L I F a w) (id : Id) (o' : AO) (l : Loc)
    (hid : match F.gs id with
      | none => True
      | some o => Compat (L id) l o.sh o'.sh)
    (hown : ∀ b, l.has b → b < w'.heap.size ∧ (w.heap.size ≤ b ∨ ((F.gs id).isSome = true ∧ (L id).has b)))
    (hos : w'.os = w.os) (htp : w'.tape = w.tape) (hou : w'.output = w.output) (hsz : w.heap.size ≤ w'.heap.size)
    (hfr : ∀ b, b < w.heap.size → ¬ l.has b → w'.heap[b]? = w.heap[b]?)
    (hcell : ∀ b o, I b o → w'.cell? ⟨b, o, none⟩ = w.cell? ⟨b, o, none⟩)
    (hor : OR (updL L id l) (F.setS id o').sh I w' l o') :
    SR cx n (updL L id l) I (F.setS id o') a w' ∧ Stp L I F w (updL L id l) I (F.setS id o') w' := by
  have hgs : ∀ j, id ≠ j → (F.setS id o').gs j = F.gs j := fun j hj => by simp [FS.setS, idEq_false.2 hj]
  have hgi : (F.setS id o').gs id = some o' := by simp [FS.setS, idEq_refl]
  have hext : ∀ j s, F.sh j = some s → ∃ s', (F.setS id o').sh j = some s' ∧ Compat (L j) (updL L id l j) s s' := by
    intro j s hj
    by_cases hji : id = j
    · subst hji
      simp only [FS.sh, hgi, Option.map_some, updL_same]
      simp only [FS.sh, Option.map_eq_some_iff] at hj
      obtain ⟨o, ho, rfl⟩ := hj
      rw [ho] at hid
      exact ⟨_, rfl, hid⟩
    · simp only [FS.sh, hgs j hji, updL_other L l hji]
      exact ⟨s, hj, .refl _ _⟩
  have hne : ∀ j, id ≠ j → (F.gs j).isSome = true → ∀ b, (L j).has b → ¬ l.has b := by
    intro j hj hsome b hjb hlb
    have hlt := hs.ownlt j hsome b hjb
    rcases (hown b hlb).2 with h | ⟨h1, h2⟩
    · omega
    · exact hj (hs.inj id j h1 hsome b h2 hjb)
  refine ⟨⟨fun t => (hs.env t).mono (fun _ _ h => h) hcell fun id _ s h => hext id s h, fun j o ho => ?_, fun i j hi hj b hbi hbj => ?_, fun j hj b hb => ?_, fun b o h => Nat.lt_of_lt_of_le (hs.dom b o h) hsz,
    fun g cs hg => (hs.glob g cs hg).mono (fun _ _ h => h) hcell fun id hid => by simp [AV.ids] at hid, hs.defers, hs.tsz, hs.gi.mono (fun _ _ h => h) hcell⟩, ⟨hos, htp, hou, hsz, fun b hb hn => ?_, fun _ _ h => h, hcell, fun _ _ h => .inl h, fun j hj b hb => ?_, fun i s h => hext _ s h⟩⟩
  · by_cases hji : id = j
    · subst hji
      rw [hgi] at ho
      cases ho
      rw [updL_same]
      exact hor
    · rw [hgs j hji] at ho
      rw [updL_other L l hji]
      have hsome : (F.gs j).isSome = true := by simp [ho]
      exact (hs.obj j o ho).mono hsz (fun b hb => hfr b (hs.ownlt j hsome b hb) (hne j hji hsome b hb)) hcell hext
  · by_cases h1 : id = i <;> by_cases h2 : id = j
    · exact h1.symm.trans h2
    · subst h1
      rw [updL_same] at hbi
      rw [updL_other L l h2] at hbj
      rw [hgs j h2] at hj
      exact absurd hbi (hne j h2 hj b hbj)
    · subst h2
      rw [updL_same] at hbj
      rw [updL_other L l h1] at hbi
      rw [hgs i h1] at hi
      exact absurd hbj (hne i h1 hi b hbi)
    · rw [updL_other L l h1] at hbi
      rw [updL_other L l h2] at hbj
      rw [hgs i h1] at hi
      rw [hgs j h2] at hj
      exact hs.inj i j hi hj b hbi hbj
  · by_cases hji : id = j
    · subst hji
      rw [updL_same] at hb
      exact (hown b hb).1
    · rw [updL_other L l hji] at hb
      rw [hgs j hji] at hj
      exact Nat.lt_of_lt_of_le (hs.ownlt j hj b hb) hsz
  · refine hfr b hb fun hl => ?_
    rcases (hown b hl).2 with h | ⟨h1, h2⟩
    · omega
    · exact hn id h1 h2
  · by_cases hji : id = j
    · subst hji
      rw [updL_same] at hb
      rcases (hown b hb).2 with h | ⟨h1, h2⟩
      · exact .inl h
      · exact .inr ⟨id, h1, h2⟩
    · rw [updL_other L l hji] at hb
      rw [hgs j hji] at hj
      exact .inr ⟨j, hj, hb⟩

/-- .. one that owns no further block. -/
theorem SR.set (hs : SR cx n L I F a w) (id : Id) (o' : AO) (l : Loc)
    (hid : match F.gs id with
      | none => w.heap.size ≤ l.b
      | some o => Compat (L id) l o.sh o'.sh ∧ (l.b = (L id).b ∨ w.heap.size ≤ l.b))
    (hl : ∀ b, l.own b → (F.gs id).isSome = true ∧ (L id).own b)
    (hos : w'.os = w.os) (htp : w'.tape = w.tape) (hou : w'.output = w.output) (hsz : w.heap.size ≤ w'.heap.size)
    (hfr : ∀ b, b < w.heap.size → b ≠ l.b → w'.heap[b]? = w.heap[b]?)
    (hcell : ∀ b o, I b o → w'.cell? ⟨b, o, none⟩ = w.cell? ⟨b, o, none⟩)
    (hor : OR (updL L id l) (F.setS id o').sh I w' l o') :
    SR cx n (updL L id l) I (F.setS id o') a w' ∧ Stp L I F w (updL L id l) I (F.setS id o') w' := by
  refine hs.setG id o' l ?_ (fun b hb => ?_) hos htp hou hsz (fun b hb hn => hfr b hb fun e => hn (e ▸ l.has_b)) hcell hor
  · cases hg : F.gs id with
    | none => trivial
    | some o => rw [hg] at hid; exact hid.1
  · rcases hb with hb | hb
    · subst hb
      refine ⟨hor.lt, ?_⟩
      cases hg : F.gs id with
      | none => rw [hg] at hid; exact .inl hid
      | some o =>
        rw [hg] at hid
        rcases hid.2 with h | h
        · exact .inr ⟨rfl, h ▸ (L id).has_b⟩
        · exact .inl h
    · obtain ⟨h1, h2⟩ := hl b hb
      exact ⟨Nat.lt_of_lt_of_le (hs.ownlt id h1 b (.inr h2)) hsz, .inr ⟨h1, .inr h2⟩⟩

/- ---------------------------------------------------------------- freezing -/
def OvOk (F : FS) (ov : Ov) : Prop := ∀ x ∈ ov, ∃ sz es fz, F.gs x.1 = some (.arr sz es fz) ∧ x.2 = .arr sz es es.length

/-- What is immutable behind a freeze. -/
def frz (L : Id → Loc) (I : Nat → Nat → Prop) (ov : Ov) : Nat → Nat → Prop := fun b o =>
  I b o ∨ ∃ x ∈ ov, ∃ sz es fz, x.2 = .arr sz es fz ∧ b = (L x.1).b ∧ o < es.length * sz

theorem frz_sub (L : Id → Loc) (I : Nat → Nat → Prop) (ov : Ov) : ∀ b o, I b o → frz L I ov b o := fun _ _ h => .inl h

theorem SR.freeze : ∀ {ov : Ov} {I : Nat → Nat → Prop} {F : FS}, SR cx n L I F a w → OvOk F ov →
    SR cx n L (frz L I ov) (F.app { s := ov }) a w ∧ Stp L I F w L (frz L I ov) (F.app { s := ov }) w
  | [], I, F, hs, _ => by
    have h1 : F.app { s := ([] : Ov) } = F := rfl
    have h2 : frz L I [] = I := by funext b o; simp [frz]
    rw [h1, h2]
    exact ⟨hs, .refl _ _ _ _⟩
  | (id, ob) :: ov, I, F, hs, hok => by
    obtain ⟨sz, es, fz, hg, hob⟩ := hok (id, ob) (by simp)
    simp only at hg hob
    subst hob
    let F1 := F.setS id (.arr sz es es.length)
    let I1 := frz L I [(id, .arr sz es es.length)]
    have hgs : ∀ j, id ≠ j → F1.gs j = F.gs j := fun j hj => by simp [F1, FS.setS, idEq_false.2 hj]
    have hgi : F1.gs id = some (.arr sz es es.length) := by simp [F1, FS.setS, idEq_refl]
    have hsh : F1.sh = F.sh := by
      funext j
      by_cases hj : id = j
      · subst hj; simp [FS.sh, hgi, hg, AO.sh]
      · simp [FS.sh, hgs j hj]
    have hI1 : ∀ b o, I1 b o ↔ I b o ∨ (b = (L id).b ∧ o < es.length * sz) := by
      intro b o
      simp only [I1, frz, List.mem_singleton, exists_eq_left]
      constructor
      · rintro (h | ⟨sz', es', fz', he, h1, h2⟩)
        · exact .inl h
        · cases he; exact .inr ⟨h1, h2⟩
      · rintro (h | ⟨h1, h2⟩)
        · exact .inl h
        · exact .inr ⟨_, _, _, rfl, h1, h2⟩
    have hsub : ∀ b o, I b o → I1 b o := fun b o h => (hI1 b o).2 (.inl h)
    have hs1 : SR cx n L I1 F1 a w := by
      refine ⟨fun t => ?_, fun j o ho => ?_, fun i j hi hj b hbi hbj => ?_, fun j hj b hb => ?_, fun b o h => ?_, fun g cs hg => ?_, hs.defers, hs.tsz, hs.gi.mono hsub (fun _ _ _ => rfl)⟩
      · rw [hsh]; exact (hs.env t).mono hsub (fun _ _ _ => rfl) fun id _ s h => ⟨s, h, .refl _ _⟩
      · rw [hsh]
        by_cases hj : id = j
        · subst hj
          rw [hgi] at ho
          cases ho
          obtain ⟨h0, h1, h2, xs, e, h3, h4, h5, h6, h7⟩ := hs.obj id _ hg
          refine ⟨h0, h1, Nat.le_refl _, xs, e, h3, h4, h5, fun i j row d hi hj => ?_, fun o ho => ?_⟩
          · obtain ⟨x, hx, hp⟩ := h6 i j row d hi hj
            exact ⟨x, hx, hp.mono hsub (fun _ _ _ => rfl)⟩
          · rcases (hI1 _ _).1 ho with h | ⟨_, h⟩
            · exact Nat.lt_of_lt_of_le (h7 o h) (Nat.mul_le_mul_right _ h2)
            · exact h
        · rw [hgs j hj] at ho
          have hob := hs.obj j o ho
          have hnb : ∀ b, (L j).has b → b ≠ (L id).b := fun b hb he => hj (hs.inj id j (by simp [hg]) (by simp [ho]) b (he ▸ (L id).has_b) hb)
          have hne : (L j).b ≠ (L id).b := hnb _ (L j).has_b
          cases o with
          | cells cs =>
            obtain ⟨xs, e, h1, h2, h3, h4⟩ := hob
            refine ⟨xs, e, h1, h2, fun i c x hi hx => ⟨(h3 i c x hi hx).1, (h3 i c x hi hx).2.mono hsub (fun _ _ _ => rfl) fun id _ s h => ⟨s, h, .refl _ _⟩⟩, fun o hio => ?_⟩
            rcases (hI1 _ _).1 hio with h | ⟨h, _⟩
            · exact h4 o h
            · exact hne h
          | arr sz2 es2 fz2 =>
            obtain ⟨h0, h1, h2, xs, e, h3, h4, h5, h6, h7⟩ := hob
            refine ⟨h0, h1, h2, xs, e, h3, h4, h5, fun i j row d hi hj => ?_, fun o ho => ?_⟩
            · obtain ⟨x, hx, hp⟩ := h6 i j row d hi hj
              exact ⟨x, hx, hp.mono hsub (fun _ _ _ => rfl)⟩
            · rcases (hI1 _ _).1 ho with h | ⟨h, _⟩
              · exact h7 o h
              · exact absurd h hne
          | map g es2 =>
            obtain ⟨ms, k, h1, h2, h3⟩ := hob
            exact ⟨ms, k, h1, h2, fun i e m hi hm => (h3 i e m hi hm).mono hsub (fun _ _ _ => rfl)⟩
          | gm es2 pe ver =>
            obtain ⟨ms, k, bs, h1, h2⟩ := hob
            refine ⟨ms, k, bs, h1, h2.mono hsub (fun _ _ _ => rfl) (Nat.le_refl _) fun b hb => ⟨rfl, fun o ho => ?_⟩⟩
            rcases (hI1 _ _).1 ho with h | ⟨h, _⟩
            · exact (h2.free b hb).2.2 o h
            · exact hnb b (.inr hb) h
          | it s pos => exact hob
      · refine hs.inj i j ?_ ?_ b hbi hbj
        · by_cases h : id = i
          · subst h; simp [hg]
          · rw [← hgs i h]; exact hi
        · by_cases h : id = j
          · subst h; simp [hg]
          · rw [← hgs j h]; exact hj
      · refine hs.ownlt j ?_ b hb
        by_cases h : id = j
        · subst h; simp [hg]
        · rw [← hgs j h]; exact hj
      · rcases (hI1 _ _).1 h with h | ⟨h, _⟩
        · exact hs.dom b o h
        · rw [h]; exact hs.lt (by simp [hg])
      · rw [hsh]; exact (hs.glob g cs hg).mono hsub (fun _ _ _ => rfl) fun id hid => by simp [AV.ids] at hid
    have st1 : Stp L I F w L I1 F1 w := by
      refine ⟨rfl, rfl, rfl, Nat.le_refl _, fun _ _ _ => rfl, hsub, fun _ _ _ => rfl, fun b o h => ?_, fun j hj b hb => ?_, fun i s h => ⟨s, by rw [hsh]; exact h, .refl _ _⟩⟩
      · rcases (hI1 _ _).1 h with h | ⟨h, _⟩
        · exact .inl h
        · exact .inr (.inr ⟨id, by simp [hg], .inl h.symm⟩)
      · refine .inr ⟨j, ?_, hb⟩
        by_cases h : id = j
        · subst h; simp [hg]
        · rw [← hgs j h]; exact hj
    have hok1 : OvOk F1 ov := by
      intro x hx
      obtain ⟨sz', es', fz', h1, h2⟩ := hok x (by simp [hx])
      by_cases h : id = x.1
      · rw [← h] at h1 ⊢
        rw [hg] at h1
        cases h1
        exact ⟨_, _, _, hgi, h2⟩
      · exact ⟨_, _, _, (hgs _ h).trans h1, h2⟩
    obtain ⟨hs2, st2⟩ := SR.freeze (ov := ov) hs1 hok1
    have hI2 : frz L I1 ov = frz L I ((id, .arr sz es es.length) :: ov) := by
      funext b o
      apply propext
      constructor
      · rintro (h | ⟨x, hx, h⟩)
        · rcases (hI1 _ _).1 h with h | ⟨h1, h2⟩
          · exact .inl h
          · exact .inr ⟨(id, .arr sz es es.length), by simp, _, _, _, rfl, h1, h2⟩
        · exact .inr ⟨x, by simp [hx], h⟩
      · rintro (h | ⟨x, hx, h⟩)
        · exact .inl (hsub _ _ h)
        · rcases List.mem_cons.1 hx with rfl | hx
          · obtain ⟨_, _, _, he, h1, h2⟩ := h
            cases he
            exact .inl ((hI1 _ _).2 (.inr ⟨h1, h2⟩))
          · exact .inr ⟨x, hx, h⟩
    have hF2 : F1.app { s := ov } = F.app { s := (id, .arr sz es es.length) :: ov } := rfl
    rw [hI2, hF2] at hs2 st2
    exact ⟨hs2, st1.trans st2⟩

end Go.Ev
end
section
/- Simulation of the operations that make no call: helpers, values, cells. -/
namespace Go.Ev

variable {cx : Cx} {n : Nat} {L L' : Id → Loc} {I I' : Nat → Nat → Prop} {F F' : FS} {a : Act} {w w' : World} {C : Rel}

/-- Where an operation may come to. -/
def Ok1 (cx : Cx) (n : Nat) (L : Id → Loc) (I : Nat → Nat → Prop) (F : FS) (a : Act) (w : World) (o : Oper) (wr : Wr) : Prop :=
  ∃ x nx w', (execOp a.eval o).run cx.P w = .ok nx w' ∧ (nx = .value x ∨ (nx = .skip ∧ x = undef)) ∧
    ∃ L' I', SR cx n L' I' (F.app wr) (a.put o.dst x) w' ∧ Stp L I F w L' I' (F.app wr) w'

theorem Ok1.wp {o : Oper} {wr : Wr} (h : Ok1 cx n L I F a w o wr) {K : Act → World → Prop} {Q : Exit → Act → World → Prop}
    (hk : ∀ a' w', (∃ L' I', SR cx n L' I' (F.app wr) a' w' ∧ Stp L I F w L' I' (F.app wr) w') → K a' w') : o.wp cx.P a w K Q := by
  obtain ⟨x, nx, w', hr, hn, h⟩ := h
  unfold Oper.wp
  rw [hr]
  rcases hn with rfl | ⟨rfl, rfl⟩
  · exact hk _ _ h
  · exact hk _ _ h

theorem put_inv {α : Type} {x y : α} {F : FS} {rs : List Res} (h : (RP.ret x).ev C F y rs) : y = x := h.1

theorem Ok1.put (hs : SR cx n L I F a w) {o : Oper} (hd : ∀ d, o.dst = some d → d < n) {v : AV} {x : Value} (hr : (execOp a.eval o).run cx.P w = .ok (.value x) w)
    (hv : VR L F.sh I w v x) {wr : Wr} {rs : List Res} (h : (RP.ret { e := dstW o v }).ev C F wr rs) : Ok1 cx n L I F a w o wr := by
  have := put_inv h
  subst this
  exact ⟨x, _, w, hr, .inl rfl, L, I, hs.put hv hd, (Stp.refl _ _ _ _).put _⟩

/-- The same where the world has moved on (a draw). -/
theorem SR.worldEq (hs : SR cx n L I F a w) (h : w'.heap = w.heap) : SR cx n L I F a w' := by
  have hc : ∀ p, w'.cell? p = w.cell? p := fun p => by simp [World.cell?, h]
  refine ⟨fun t => (hs.env t).mono (fun _ _ h => h) (fun _ _ _ => hc _) fun id _ s h => ⟨s, h, .refl _ _⟩, fun id o ho => (hs.obj id o ho).mono (Nat.le_of_eq (by rw [h])) (fun _ _ => by rw [h]) (fun _ _ _ => hc _) fun id s h => ⟨s, h, .refl _ _⟩,
    hs.inj, fun i hi b hb => by rw [h]; exact hs.ownlt i hi b hb, fun b o hb => by rw [h]; exact hs.dom b o hb, fun g cs hg => (hs.glob g cs hg).mono (fun _ _ h => h) (fun _ _ _ => hc _) fun id _ s h => ⟨s, h, .refl _ _⟩, hs.defers, hs.tsz, hs.gi.mono (fun _ _ h => h) (fun _ _ _ => hc _)⟩

/-- A new object at the operation's own place. -/
theorem Ok1.new (hs : SR cx n L I F a w) {o : Oper} {d : Nat} (hod : o.dst = some d) (hdn : d < n) {ob : AO} {v : Id → AV} {x : Value} (l : Loc)
    (hr : (execOp a.eval o).run cx.P w = .ok (.value x) w') (hlb : l.b = w.heap.size)
    (hfree : F.gs (d + 1, 0) = none) (hos : w'.os = w.os) (htp : w'.tape = w.tape) (hou : w'.output = w.output) (hsz : w.heap.size ≤ w'.heap.size)
    (hfr : ∀ b, b < w.heap.size → w'.heap[b]? = w.heap[b]?)
    (hor : OR (updL L (d + 1, 0) l) (F.setS (d + 1, 0) ob).sh I w' l ob)
    (hv : VR (updL L (d + 1, 0) l) (F.setS (d + 1, 0) ob).sh I w' (v (d + 1, 0)) x) (hl : ∀ b, ¬ l.own b := by exact fun _ h => h) :
    Ok1 cx n L I F a w o { e := [(d, v (d + 1, 0))], s := [((d + 1, 0), ob)] } := by
  obtain ⟨h1, h2⟩ := hs.set (d + 1, 0) ob l (by rw [hfree]; exact Nat.le_of_eq hlb.symm) (fun b hb => absurd hb (hl b)) hos htp hou hsz (fun b hb _ => hfr b hb)
    (fun b o hb => World.cell?_of_block (a := ⟨b, o, none⟩) (hfr b (hs.dom b o hb))) hor
  have hde : [(d, v (d + 1, 0))] = dstW o (v (d + 1, 0)) := by simp [dstW, hod]
  refine ⟨x, _, w', hr, .inl rfl, updL L (d + 1, 0) l, I, ?_, ?_⟩
  · rw [FS.app_split]
    simp only [hde]
    exact h1.put hv fun d' hd' => by rw [hod] at hd'; cases hd'; exact hdn
  · rw [FS.app_split]
    exact h2.put _

theorem free_ev {α : Type} : ∀ {is : List Id} {k : RP α} {r : α} {rs : List Res}, (free is k).ev C F r rs → (∀ i ∈ is, F.gs i = none) ∧ ∃ rs', k.ev C F r rs'
  | [], k, r, rs, h => ⟨by simp, rs, h⟩
  | i :: is, k, r, rs, h => by
    obtain ⟨rs1, _, h⟩ := h
    dsimp only at h
    split at h
    · rename_i hi
      obtain ⟨h1, h2⟩ := free_ev h
      exact ⟨fun j hj => by rcases List.mem_cons.1 hj with rfl | hj; exact hi; exact h1 j hj, h2⟩
    · exact h.elim

theorem newO_ev {o : Oper} {x : AO} {v : Id → AV} {ov : Ov} {wr : Wr} {rs : List Res} (h : (newO o x v ov).ev C F wr rs) :
    ∃ d, o.dst = some d ∧ F.gs (d + 1, 0) = none ∧ wr = { e := [(d, v (d + 1, 0))], s := ov ++ [((d + 1, 0), x)] } := by
  unfold newO at h
  split at h
  · rename_i d hd
    obtain ⟨h1, rs', h2⟩ := free_ev h
    exact ⟨d, hd, h1 _ (by simp), h2.1⟩
  · exact h.elim

/- ---------------------------------------------------------------- cells of values -/
theorem cellsOf_rel {v : AV} {x : Value} (h : VR L F.sh I w v x) {vs : List AV} (hv : v.cellsOf = some vs) :
    All2 (fun c y => one y = true ∧ VR L F.sh I w c y) vs x.cells.toList := by
  have h1 : ∀ {c : AV} {y : Value}, VR L F.sh I w c y → one y = true → All2 (fun c y => one y = true ∧ VR L F.sh I w c y) [c] y.cells.toList := by
    intro c y hc hy
    have : y.cells.toList = [y] := by cases y <;> first | rfl | simp [one] at hy
    rw [this]
    exact .cons ⟨hy, hc⟩ .nil
  cases h with
  | p h => cases hv; exact h1 (.p h) h.one
  | ni => cases hv; exact h1 .ni rfl
  | @agg cs xs hl ho hc =>
    cases hv
    refine All2.of_get (by simp [Value.cells, hl]) fun i c y hi hy => ?_
    have hy' : xs[i]? = some y := by simpa [Value.cells] using hy
    exact ⟨ho i y hy', hc i c y hi hy'⟩
  | rp vs h0 hI hcell h => cases hv; exact h1 (.rp vs h0 hI hcell h) rfl
  | ref h => cases hv; exact h1 (.ref h) rfl
  | er sz N0 h hN ha => cases hv; exact h1 (.er sz N0 h hN ha) rfl
  | ms sz N0 h hN ha => cases hv; exact h1 (.ms sz N0 h hN ha) rfl
  | mp h => cases hv; exact h1 (.mp h) rfl
  | gv ho h => cases hv; exact h1 (.gv ho h) ho
  | gn ho h => cases hv; exact h1 (.gn ho h) ho
  | itr h => cases hv; exact h1 (.itr h) rfl
  | fn hl h => cases hv; exact h1 (.fn hl h) rfl
  | tup _ _ => cases hv
  | junk => cases hv

theorem one_cell' {x : Value} (h : one x = true) : x.oneCell' = true := by cases x <;> first | rfl | simp [one] at h

/-- A new block of cells read as an object. -/
theorem OR_cells_new {sh : Id → Option Sh} {cs : List AV} {xs : Array Value} {e : TypeId} {b : Nat} (hb : w.heap[b]? = some (.cells xs e (0, 0)))
    (h : All2 (fun c y => one y = true ∧ VR L sh I w c y) cs xs.toList) (hI : ∀ o, ¬ I b o) (sz : Nat) : OR L sh I w (mkLoc b sz) (.cells cs) := by
  refine ⟨xs, e, hb, by simpa using h.length.symm, fun i c x hi hx => h.get i c x hi (by simpa using hx), hI⟩

theorem sh_set_new {id : Id} {ob : AO} (h : F.gs id = none) : ∀ j s, F.sh j = some s → (F.setS id ob).sh j = some s := by
  intro j s hj
  have hne : id ≠ j := by
    intro he
    subst he
    simp [FS.sh, h] at hj
  simpa [FS.sh, FS.setS, idEq_false.2 hne] using hj

/-- A value's meaning behind the making of a new object. -/
theorem VR.new {id : Id} {ob : AO} {l : Loc} (hfree : F.gs id = none) {v : AV} {x : Value} (h : VR L F.sh I w v x)
    (hcell : ∀ b o, I b o → w'.cell? ⟨b, o, none⟩ = w.cell? ⟨b, o, none⟩) : VR (updL L id l) (F.setS id ob).sh I w' v x := by
  refine h.mono (fun _ _ h => h) hcell fun j _ s hj => ⟨s, sh_set_new hfree j s hj, ?_⟩
  have hne : id ≠ j := by
    intro he
    subst he
    simp [FS.sh, hfree] at hj
  rw [updL_other L l hne]
  exact .refl _ _

theorem sh_set_same {id : Id} {ob : AO} : (F.setS id ob).sh id = some ob.sh := by simp [FS.sh, FS.setS, idEq_refl]

theorem cell_alloc (hs : SR cx n L I F a w) (o : Obj) : ∀ b k, I b k → (w.alloc o).cell? ⟨b, k, none⟩ = w.cell? ⟨b, k, none⟩ :=
  fun b k h => World.cell?_alloc_lt (a := ⟨b, k, none⟩) w o (hs.dom b k h)

/-- Allocation of a variable that holds given cells. -/
theorem Ok1.cells (hs : SR cx n L I F a w) {o : Oper} {d : Nat} (hod : o.dst = some d) (hdn : d < n) {vs : List AV} {xs : Array Value} {T : TypeId}
    (hr : (execOp a.eval o).run cx.P w = .ok (.value (.pointer (some ⟨w.heap.size, 0, none⟩))) (w.alloc (.cells xs T)))
    (hfree : F.gs (d + 1, 0) = none) (h : All2 (fun c y => one y = true ∧ VR L F.sh I w c y) vs xs.toList) :
    Ok1 cx n L I F a w o { e := [(d, .ref (d + 1, 0) 0)], s := [((d + 1, 0), .cells vs)] } := by
  refine Ok1.new (v := fun i => .ref i 0) hs hod hdn (mkLoc w.heap.size (xs.size)) hr rfl hfree rfl rfl rfl (by simp) (fun b hb => heap_alloc_old w _ b hb) ?_ ?_
  · exact OR_cells_new (heap_alloc_new w _) (h.mono fun c y hc => ⟨hc.1, hc.2.new hfree (cell_alloc hs _)⟩) (fun k hk => absurd (hs.dom _ _ hk) (Nat.lt_irrefl _)) _
  · have hl : ⟨w.heap.size, 0, none⟩ = (⟨(updL L (d + 1, 0) (mkLoc w.heap.size (xs.size)) (d + 1, 0)).b, 0, none⟩ : Addr) := by rw [updL_same]
    rw [hl]
    exact .ref sh_set_same

theorem sim_alloc (hcx : CxOk cx) (hs : SR cx n L I F a w) {o : Oper} {T : TypeId} (ho : o.op = .alloc T) (hd : ∀ d, o.dst = some d → d < n) {wr : Wr} {rs : List Res}
    (h : (stepOp cx o).ev C F wr rs) : Ok1 cx n L I F a w o wr := by
  simp only [stepOp, ho] at h
  obtain ⟨ti, hti, h⟩ := withTy_ev h
  have hok := hcx.ty _ _ hti
  obtain ⟨z, hz, hzr⟩ := hok.zeroValue
  split at h
  · have hblt : ∃ rs, 0 < ti.sz ∧ (newO o (.arr ti.sz [ti.zero.map .s] 0) fun i => .er i 0 0 1).ev C F wr rs := by
      unfold RP.chk at h
      cases hb : Nat.blt 0 ti.sz with
      | false => rw [hb] at h; exact h.elim
      | true => rw [hb] at h; exact ⟨_, by have := hb; simp [Nat.blt] at this; omega, h⟩
    obtain ⟨rs', hpos, h⟩ := hblt
    obtain ⟨d, hod, hfree, rfl⟩ := newO_ev h
    have hzl : z.cells.size = ti.sz := by rw [← hok.zsz, ← hz]; simp
    refine Ok1.new (v := fun i => .er i 0 0 1) hs hod (hd d hod) (mkLoc w.heap.size (ti.sz)) (x := .pointer (some ⟨w.heap.size, 0, none⟩)) (w' := w.alloc (.cells z.cells T)) ?_ rfl hfree rfl rfl rfl (by simp) (fun b hb => heap_alloc_old w _ b hb) ?_ ?_
    · simp [execOp, ho, Instr.alloc, hzr, newVar, newRow]
    · refine ⟨hpos, fun i row hi => ?_, Nat.zero_le _, z.cells, T, heap_alloc_new w _, hzl, by simp, fun i j row d hi hj => ?_, fun k hk => absurd (hs.dom _ _ hk) (Nat.lt_irrefl _)⟩
      · cases i with
        | zero => simp at hi; subst hi; simpa using hok.zsz
        | succ i => simp at hi
      · cases i with
        | succ i => simp at hi
        | zero =>
          simp only [List.getElem?_cons_zero, Option.some.injEq] at hi
          subst hi
          simp only [List.getElem?_map, Option.map_eq_some_iff] at hj
          obtain ⟨y, hy, rfl⟩ := hj
          have hc := hok.clos
          rw [List.all_eq_true] at hc
          refine ⟨y, ?_, .s (hc y (List.mem_of_getElem? hy))⟩
          rw [← hz] at hy
          simpa using hy
    · refine .er ti.sz 1 sh_set_same (Nat.le_refl _) fun _ => ?_
      rw [updL_same]
      simp
  obtain ⟨d, hod, hfree, rfl⟩ := newO_ev h
  refine Ok1.cells hs hod (hd d hod) (xs := z.cells) (T := T) ?_ hfree ?_
  · simp [execOp, ho, Instr.alloc, hzr, newVar, newRow]
  · rw [hz]
    have hc := hok.clos
    rw [List.all_eq_true] at hc
    refine All2.of_get (by simp [zeroAVs]) fun i c y hi hy => ?_
    simp only [zeroAVs, List.getElem?_map, Option.map_eq_some_iff] at hi
    obtain ⟨y', hy', rfl⟩ := hi
    rw [hy] at hy'
    cases hy'
    have := hc y (List.mem_of_getElem? hy)
    exact ⟨clo_one this, .p (.s this)⟩

theorem sim_box (hs : SR cx n L I F a w) {o : Oper} {T : TypeId} {x : Operand} (ho : o.op = .box T x) (hd : ∀ d, o.dst = some d → d < n) {wr : Wr} {rs : List Res}
    (h : (stepOp cx o).ev C F wr rs) : Ok1 cx n L I F a w o wr := by
  simp only [stepOp, ho] at h
  obtain ⟨ti, hti, h⟩ := withTy_ev h
  obtain ⟨v, rs1, hv, h⟩ := rdV_ev hs h
  split at h
  · rename_i vs hvs
    obtain ⟨d, hod, hfree, rfl⟩ := newO_ev h
    refine Ok1.cells hs hod (hd d hod) (xs := (a.eval x).cells) (T := T) ?_ hfree (cellsOf_rel hv hvs)
    simp [execOp, ho, Instr.box, newVar, newRow]
  · exact h.elim

theorem sim_move (hs : SR cx n L I F a w) {o : Oper} {x : Operand} (ho : o.op = .move x ∨ o.op = .assign x) (hd : ∀ d, o.dst = some d → d < n) {wr : Wr} {rs : List Res}
    (h : (stepOp cx o).ev C F wr rs) : Ok1 cx n L I F a w o wr := by
  have h' : ∃ rs, (rdV cx x fun v => RP.ret { e := dstW o v }).ev C F wr rs := by rcases ho with ho | ho <;> (simp only [stepOp, ho] at h; exact ⟨_, h⟩)
  obtain ⟨rs, h⟩ := h'
  obtain ⟨v, rs1, hv, h⟩ := rdV_ev hs h
  refine Ok1.put hs hd ?_ hv h
  rcases ho with ho | ho <;> simp [execOp, ho]

theorem sim_pick (hs : SR cx n L I F a w) {o : Oper} {c x y : Operand} (ho : o.op = .pick c x y) (hd : ∀ d, o.dst = some d → d < n) {wr : Wr} {rs : List Res}
    (h : (stepOp cx o).ev C F wr rs) : Ok1 cx n L I F a w o wr := by
  simp only [stepOp, ho] at h
  obtain ⟨v, rs1, hv, h⟩ := rdV_ev hs h
  obtain ⟨b, rfl, hb, h⟩ := asB_ev hv h
  change ((if b then _ else _ : RP Wr)).ev C F wr _ at h
  cases b
  · obtain ⟨v, rs1, hv, h⟩ := rdV_ev hs h
    refine Ok1.put hs hd ?_ hv h
    simp [execOp, ho, hb, asBool]
  · obtain ⟨v, rs1, hv, h⟩ := rdV_ev hs h
    refine Ok1.put hs hd ?_ hv h
    simp [execOp, ho, hb, asBool]

end Go.Ev
end
section
/- Simulation: loads, stores, addresses. -/
namespace Go.Ev

variable {cx : Cx} {n : Nat} {L L' : Id → Loc} {I I' : Nat → Nat → Prop} {F F' : FS} {a : Act} {w w' : World} {C : Rel}

/-- Loading a variable: the cells at its address stand for these abstract cells. -/
theorem run_load_rel {P : Program} {T : TypeId} {ti : TI} (ht : TIok P T ti) {ad : Addr} {cs : List AV} {ys : List Value}
    (h : All2 (fun c y => one y = true ∧ VR L F.sh I w c y) cs ys) (hlen : cs.length = ti.sz) (hcell : ∀ (j : Nat) (y : Value), ys[j]? = some y → w.cell? (ad.add j) = some y)
    {v : AV} (hv : ofCells ti cs = some v) : ∃ x, (loadVar T ad).run P w = .ok x w ∧ VR L F.sh I w v x := by
  unfold ofCells at hv
  cases hg : ti.agg with
  | true =>
    rw [hg] at hv
    simp only [if_true] at hv
    rw [if_pos hlen] at hv
    cases hv
    have hl := run_loadCells_list (P := P) w ad ys hcell
    rw [← h.length, hlen] at hl
    refine ⟨.agg ys.toArray, ?_, .agg (by simp [h.length]) (fun i y hy => ?_) fun i c y hc hy => (h.get i c y hc (by simpa using hy)).2⟩
    · simp [loadVar, ht.isAgg, hg, ht.sizeOf, hl]
    · have hlt : i < cs.length := by
        have h2 := (List.getElem?_eq_some_iff.1 (by simpa using hy : ys[i]? = some y)).1
        rw [h.length]; exact h2
      exact (h.get i cs[i] y (List.getElem?_eq_getElem hlt) (by simpa using hy)).1
  | false =>
    rw [hg] at hv
    simp only [Bool.false_eq_true, if_false] at hv
    split at hv
    · rename_i c
      cases hv
      cases h with
      | cons h k =>
        cases k
        rename_i y
        refine ⟨y, ?_, h.2⟩
        have := hcell 0 y (by simp)
        have hz : ad.add 0 = ad := by simp [Addr.add]
        rw [hz] at this
        simp [loadVar, ht.isAgg, hg, this]
    · cases hv

theorem addr_add (b o j : Nat) : (⟨b, o, none⟩ : Addr).add j = ⟨b, o + j, none⟩ := by
  unfold Addr.add
  split
  · rename_i h; subst h; rfl
  · rfl

theorem addr_add' (ad : Addr) (h : ad.spot = none) (j : Nat) : ad.add j = ⟨ad.block, ad.off + j, none⟩ := by
  obtain ⟨b, o, s⟩ := ad
  simp only at h
  subst h
  exact addr_add b o j

theorem cell_of {b j : Nat} {xs : Array Value} {e : TypeId} {fr : Nat × Nat} (h : w.heap[b]? = some (.cells xs e fr)) : w.cell? ⟨b, j, none⟩ = xs[j]? := by
  simp [World.cell?, h]

theorem all2_cells {cs : List AV} {xs : Array Value} (hl : xs.size = cs.length) (h : ∀ (i : Nat) (c : AV) (x : Value), cs[i]? = some c → xs[i]? = some x → one x = true ∧ VR L F.sh I w c x) :
    All2 (fun c y => one y = true ∧ VR L F.sh I w c y) cs xs.toList :=
  All2.of_get (by simpa using hl.symm) fun i c x hi hx => h i c x hi (by simpa using hx)

/-- A row of pure data in memory. -/
theorem row_rel {row : List PV} {ad : Addr} {vs : Nat → Value} (hc : ∀ (j : Nat) (d : PV), row[j]? = some d → w.cell? ⟨ad.block, ad.off + j, none⟩ = some (vs j))
    (h : ∀ (j : Nat) (d : PV), row[j]? = some d → PR I w d (vs j)) (h0 : ad.spot = none) :
    All2 (fun c y => one y = true ∧ VR L F.sh I w c y) (row.map .p) ((List.range row.length).map vs) ∧
      ∀ (j : Nat) (y : Value), ((List.range row.length).map vs)[j]? = some y → w.cell? (ad.add j) = some y := by
  constructor
  · refine All2.of_get (by simp) fun i c x hi hx => ?_
    simp only [List.getElem?_map, Option.map_eq_some_iff] at hi hx
    obtain ⟨d, hd, rfl⟩ := hi
    obtain ⟨k, hk, rfl⟩ := hx
    have : k = i := by
      rw [List.getElem?_range (by exact (List.getElem?_eq_some_iff.1 hd).1)] at hk
      exact (Option.some.inj hk).symm
    subst this
    exact ⟨(h k d hd).one, .p (h k d hd)⟩
  · intro j y hy
    simp only [List.getElem?_map, Option.map_eq_some_iff] at hy
    obtain ⟨k, hk, rfl⟩ := hy
    have hlt : j < row.length := by
      have := (List.getElem?_eq_some_iff.1 hk).1
      simpa using this
    have : k = j := by
      rw [List.getElem?_range hlt] at hk
      exact (Option.some.inj hk).symm
    subst this
    rw [addr_add' ad h0]
    exact hc k row[k] (List.getElem?_eq_getElem hlt)

theorem takeN_some {m : Nat} {cs ds : List PV} (h : takeN m cs = some ds) : m ≤ cs.length ∧ ds = cs.take m := by
  unfold takeN at h
  try dsimp only at h
  split at h
  · rename_i hm; cases h; exact ⟨hm, rfl⟩
  · cases h

theorem ofCells_len {ti : TI} {cs : List AV} {v : AV} (h1 : ti.agg = false → ti.sz = 1) (h : ofCells ti cs = some v) : cs.length = ti.sz := by
  unfold ofCells at h
  cases hg : ti.agg with
  | true =>
    rw [hg] at h
    simp only [if_true] at h
    try dsimp only at h
    split at h
    · assumption
    · cases h
  | false =>
    rw [hg] at h
    simp only [Bool.false_eq_true, if_false] at h
    try dsimp only at h
    split at h
    · simp [h1 hg]
    · cases h

theorem sim_load (hcx : CxOk cx) (hs : SR cx n L I F a w) {o : Oper} {T : TypeId} {x : Operand} (ho : o.op = .load T x) (hd : ∀ d, o.dst = some d → d < n) {wr : Wr} {rs : List Res}
    (h : (stepOp cx o).ev C F wr rs) : Ok1 cx n L I F a w o wr := by
  simp only [stepOp, ho] at h
  obtain ⟨ti, hti, h⟩ := withTy_ev h
  have ht := hcx.ty _ _ hti
  obtain ⟨av, rs1, hav, h⟩ := rdV_ev hs h
  have fin : ∀ (ad : Addr) (x' : Value) (v : AV), a.eval x = .pointer (some ad) → (loadVar T ad).run cx.P w = .ok x' w → VR L F.sh I w v x' → ∀ {rs}, (RP.ret { e := dstW o v }).ev C F wr rs → Ok1 cx n L I F a w o wr := by
    intro ad x' v hx hr hv rs hput
    refine Ok1.put hs hd (x := x') ?_ hv hput
    simp [execOp, ho, hx, Instr.loadAt, Instr.sureAddr, hr]
  try dsimp only at h
  try dsimp only at h
  split at h
  · rename_i id off
    obtain ⟨rs2, _, h⟩ := h
    try dsimp only at h
    try dsimp only at h
    split at h
    · rename_i cs hcs
      try dsimp only at h
      split at h
      · rename_i v hv
        generalize hax : a.eval x = y at hav
        cases hav with
        | ref hsh =>
          obtain ⟨xs, e, hb, hl, hall, hI⟩ := hs.obj id _ hcs
          have hA := ((all2_cells hl hall).drop off).take ti.sz
          obtain ⟨x', hr, hvr⟩ := run_load_rel (ad := ⟨(L id).b, off, none⟩) ht hA (ofCells_len ht.one hv) (fun j y hy => by
            rw [addr_add, cell_of hb]
            simp only [List.getElem?_take, List.getElem?_drop] at hy
            split at hy
            · simpa using hy
            · cases hy) hv
          exact fin _ x' v hax hr hvr h
      · exact h.elim
    · exact h.elim
  · rename_i cs
    obtain ⟨ds, hds, h⟩ := h
    obtain ⟨hle, rfl⟩ := takeN_some hds
    try dsimp only at h
    split at h
    · rename_i v hv
      generalize hax : a.eval x = y at hav
      cases hav with
      | @rp _ ad vs h0 hI hcell hp =>
        have hget : ∀ (j : Nat) (d : PV), (cs.take ti.sz)[j]? = some d → cs[j]? = some d := by
          intro j d hj
          rw [List.getElem?_take] at hj
          split at hj
          · exact hj
          · cases hj
        obtain ⟨hA, hB⟩ := row_rel (L := L) (F := F) (row := cs.take ti.sz) (ad := ad) (vs := vs) (fun j d hj => hcell j d (hget j d hj)) (fun j d hj => hp j d (hget j d hj)) h0
        obtain ⟨x', hr, hvr⟩ := run_load_rel ht hA (ofCells_len ht.one hv) hB hv
        exact fin _ x' v hax hr hvr h
    · exact h.elim
  · rename_i id i j N
    obtain ⟨rs2, _, h⟩ := h
    try dsimp only at h
    try dsimp only at h
    split at h
    · rename_i sz es fz hes
      obtain ⟨hN, row, hrow, h⟩ := h
      try dsimp only at h
      split at h
      · rename_i v hv
        generalize hax : a.eval x = y at hav
        cases hav with
        | @er _ _ _ _ ad sz' N0 hsh hNN ha =>
          have hs0 : F.sh id = some (.arr sz es.length) := by simp [FS.sh, hes, AO.sh]
          rw [hs0] at hsh
          cases hsh
          have had := ha hN.symm
          obtain ⟨h0, hrl, h2, xs, e, hb, hl, hfit, hall, _⟩ := hs.obj id _ hes
          have hget : ∀ (k : Nat) (d : PV), ((row.drop j).take ti.sz)[k]? = some d → row[j + k]? = some d := by
            intro k d hk
            rw [List.getElem?_take] at hk
            split at hk
            · rw [List.getElem?_drop] at hk; exact hk
            · cases hk
          obtain ⟨hA, hB⟩ := row_rel (L := L) (F := F) (row := (row.drop j).take ti.sz) (ad := ad) (vs := fun k => (xs[i * sz + j + k]?).getD undef) (fun k d hk => by
              obtain ⟨x, hx, hp⟩ := hall i (j + k) row d hrow (hget k d hk)
              rw [had, cell_of hb]
              have : i * sz + j + k = i * sz + (j + k) := by omega
              simp [this, hx]) (fun k d hk => by
              obtain ⟨x, hx, hp⟩ := hall i (j + k) row d hrow (hget k d hk)
              have : i * sz + j + k = i * sz + (j + k) := by omega
              simp only [this, hx, Option.getD_some]
              exact hp) (by rw [had])
          obtain ⟨x', hr, hvr⟩ := run_load_rel ht hA (ofCells_len ht.one hv) hB hv
          exact fin _ x' v hax hr hvr h
      · exact h.elim
    · exact h.elim
  · exact h.elim

theorem sim_nilCheck (hs : SR cx n L I F a w) {o : Oper} {x : Operand} (ho : o.op = .nilCheck x) (hd : ∀ d, o.dst = some d → d < n) {wr : Wr} {rs : List Res}
    (h : (stepOp cx o).ev C F wr rs) : Ok1 cx n L I F a w o wr := by
  simp only [stepOp, ho] at h
  obtain ⟨v, rs1, hv, h⟩ := rdV_ev hs h
  try dsimp only at h
  try dsimp only at h
  split at h
  · refine Ok1.put hs hd (x := a.eval x) ?_ hv h
    generalize hax : a.eval x = y at hv
    cases hv
    simp [execOp, ho, hax]
  · refine Ok1.put hs hd (x := a.eval x) ?_ hv h
    generalize hax : a.eval x = y at hv
    cases hv
    simp [execOp, ho, hax]
  · refine Ok1.put hs hd (x := a.eval x) ?_ hv h
    generalize hax : a.eval x = y at hv
    cases hv
    simp [execOp, ho, hax]
  · exact h.elim

theorem fieldAt_run {P : Program} {T ft : TypeId} {ti tf : TI} {fs : List (Nat × Nat)} {f off : Nat} (ht : TIok P T ti) (hk : ti.k = .struct fs) (hf : fs[f]? = some (off, ft)) (htf : TIok P ft tf) (hz : tf.sz ≠ 0) (ad : Addr) :
    (Instr.fieldAt T (.pointer (some ad)) f).run P w = .ok (.pointer (some (ad.add off))) w := by
  have hu := ht.und
  rw [hk] at hu
  obtain ⟨gs, hg, hm⟩ := hu
  have : ∃ g : Field, gs[f]? = some g ∧ g.offset = off ∧ g.type = ft := by
    rw [← hm] at hf
    simp only [List.getElem?_map, Option.map_eq_some_iff] at hf
    obtain ⟨g, hg, he⟩ := hf
    cases he
    exact ⟨g, by simpa using hg, rfl, rfl⟩
  obtain ⟨g, hgf, rfl, rfl⟩ := this
  simp [Instr.fieldAt, run_underlying hg, hgf, Instr.sureAddr, fieldPlace, htf.sizeOf, hz]

theorem sim_fieldAddr (hcx : CxOk cx) (hs : SR cx n L I F a w) {o : Oper} {T : TypeId} {x : Operand} {f : Nat} (ho : o.op = .fieldAddr T x f) (hd : ∀ d, o.dst = some d → d < n) {wr : Wr} {rs : List Res}
    (h : (stepOp cx o).ev C F wr rs) : Ok1 cx n L I F a w o wr := by
  simp only [stepOp, ho] at h
  obtain ⟨ti, hti, h⟩ := withTy_ev h
  have ht := hcx.ty _ _ hti
  try dsimp only at h
  split at h
  · rename_i fs hk
    try dsimp only at h
    split at h
    · rename_i off ft hf
      obtain ⟨tf, htf, h⟩ := withTy_ev h
      try dsimp only at h
      split at h
      · exact h.elim
      · rename_i hz
        have hrun := fun ad => fieldAt_run (w := w) ht hk hf (hcx.ty _ _ htf) hz ad
        obtain ⟨v, rs1, hv, h⟩ := rdV_ev hs h
        try dsimp only at h
        try dsimp only at h
        split at h
        · rename_i id o'
          generalize hax : a.eval x = y at hv
          cases hv with
          | ref hsh =>
            refine Ok1.put hs hd (x := .pointer (some ⟨(L id).b, o' + off, none⟩)) ?_ (.ref hsh) h
            simp [execOp, ho, hax, hrun, addr_add]
        · rename_i cs
          generalize hax : a.eval x = y at hv
          cases hv with
          | @rp _ ad vs h0 hI hcell hp =>
            refine Ok1.put hs hd (x := .pointer (some (ad.add off))) ?_ ?_ h
            · simp [execOp, ho, hax, hrun]
            · rw [addr_add' ad h0]
              refine .rp (fun j => vs (off + j)) rfl (fun j d hj => ?_) (fun j d hj => ?_) (fun j d hj => ?_) <;> rw [List.getElem?_drop] at hj
              · have := hI (off + j) d hj
                simp only [Nat.add_assoc] at this ⊢
                exact this
              · have := hcell (off + j) d hj
                simp only [Nat.add_assoc] at this ⊢
                exact this
              · exact hp (off + j) d hj
        · rename_i id i j N
          generalize hax : a.eval x = y at hv
          cases hv with
          | @er _ _ _ _ ad sz N0 hsh hN ha =>
            refine Ok1.put hs hd (x := .pointer (some (ad.add off))) ?_ (.er sz N0 hsh hN fun he => ?_) h
            · simp [execOp, ho, hax, hrun]
            · rw [ha he, addr_add]
              simp [Nat.add_assoc]
        · exact h.elim
    · exact h.elim
  · exact h.elim

end Go.Ev
end
section
/- Simulation: indexes, scalars, slices, functions. -/
namespace Go.Ev

variable {cx : Cx} {n : Nat} {L L' : Id → Loc} {I I' : Nat → Nat → Prop} {F F' : FS} {a : Act} {w w' : World} {C : Rel}

theorem rowI_some {es : List (List PV)} {i : Int} {row : List PV} (h : rowI es i = some row) : 0 ≤ i ∧ i.toNat < es.length ∧ es[i.toNat]? = some row := by
  unfold rowI at h
  split at h
  · rename_i hi
    exact ⟨hi, (List.getElem?_eq_some_iff.1 h).1, h⟩
  · cases h

theorem chk_ev {α : Type} {b : Bool} {k : RP α} {r : α} {rs : List Res} (h : (RP.chk b k).ev C F r rs) : b = true ∧ k.ev C F r rs := by
  unfold RP.chk at h
  cases b
  · exact h.elim
  · exact ⟨rfl, h⟩

theorem sim_indexAddr (hcx : CxOk cx) (hs : SR cx n L I F a w) {o : Oper} {T : TypeId} {x ix : Operand} (ho : o.op = .indexAddr T x ix) (hd : ∀ d, o.dst = some d → d < n) {wr : Wr} {rs : List Res}
    (h : (stepOp cx o).ev C F wr rs) : Ok1 cx n L I F a w o wr := by
  simp only [stepOp, ho] at h
  (replace h := withTy_ev h); obtain ⟨ti, hti, h⟩ := h
  have ht := hcx.ty _ _ hti
  (replace h := rdV_ev hs h); obtain ⟨v, rs1, hv, h⟩ := h
  (replace h := rdV_ev hs h); obtain ⟨iv, rs2, hiv, h⟩ := h
  (replace h := asI_ev hiv h); obtain ⟨kd, i, rfl, hi, h⟩ := h
  have hund := ht.und
  split at h
  · rename_i e hk
    rw [hk] at hund
    simp only at hund
    (replace h := withTy_ev h); obtain ⟨te, hte, h⟩ := h
    have hsz := (hcx.ty _ _ hte).sizeOf
    have hrun : ∀ ad m c, 0 ≤ i → i < (m : Nat) → (Instr.indexAt T (.slice (some ad) m c) (.int kd i)).run cx.P w = .ok (.pointer (some (ad.add (i.toNat * te.sz)))) w := by
      intro ad m c h0 h1
      simp [Instr.indexAt, asIntOf, run_underlying hund, h0, h1, hsz]
    split at h
    · rename_i es
      obtain ⟨row, hrow, h⟩ := h
      (replace h := chk_ev h); obtain ⟨hc1, h⟩ := h
      obtain ⟨h0, hlt, hget⟩ := rowI_some hrow
      generalize hax : a.eval x = y at hv
      cases hv with
      | p hv => cases hv with
        | nil => simp at hlt
        | @sl _ ad c sz vs hsp hc hszp hrl hI hcell hp =>
          have hse : sz = te.sz := by rw [← hrl _ _ hget]; exact Nat.eq_of_beq_eq_true hc1
          subst hse
          refine Ok1.put hs hd (x := .pointer (some (ad.add (i.toNat * te.sz)))) ?_ ?_ h
          · simp [execOp, ho, hax, hi, hrun ad es.length c h0 (by omega)]
          · rw [addr_add' ad (hsp (by rintro rfl; simp at hlt))]
            exact .rp (vs i.toNat) rfl (fun j d hj => hI _ _ _ _ hget hj) (fun j d hj => hcell _ _ _ _ hget hj) fun j d hj => hp _ _ _ _ hget hj
    · rename_i id off m N
      obtain ⟨rs3, _, h⟩ := h
      try dsimp only at h
      split at h
      · rename_i sz es fz hes
        (replace h := chk_ev h); obtain ⟨hc1, h⟩ := h
        obtain ⟨⟨h0, h1⟩, h⟩ := h
        have hse := Nat.eq_of_beq_eq_true hc1
        subst hse
        generalize hax : a.eval x = y at hv
        cases hv with
        | @ms _ _ _ _ ad c sz' N0 hsh hN ha =>
          have hs0 : F.sh id = some (.arr te.sz es.length) := by simp [FS.sh, hes, AO.sh]
          rw [hs0] at hsh
          cases hsh
          refine Ok1.put hs hd (x := .pointer (some (ad.add (i.toNat * te.sz)))) ?_ (.er te.sz es.length hs0 hN fun he => ?_) h
          · simp [execOp, ho, hax, hi, hrun ad m c h0 h1]
          · obtain ⟨g1, g2, g3, g4, g5⟩ := ha he
            rw [g4 (by omega), addr_add]
            simp [Nat.add_mul]
      · exact h.elim
    · exact h.elim
  · rename_i m e hk
    rw [hk] at hund
    simp only at hund
    (replace h := withTy_ev h); obtain ⟨te, hte, h⟩ := h
    have hsz := (hcx.ty _ _ hte).sizeOf
    have hrun : ∀ ad, 0 ≤ i → i < (m : Nat) → (Instr.indexAt T (.pointer (some ad)) (.int kd i)).run cx.P w = .ok (.pointer (some (ad.add (i.toNat * te.sz)))) w := by
      intro ad h0 h1
      simp [Instr.indexAt, asIntOf, run_underlying hund, h0, h1, hsz, Instr.sureAddr]
    split at h
    · rename_i cs
      obtain ⟨⟨h0, h1⟩, row, hrow, h⟩ := h
      obtain ⟨hle, rfl⟩ := takeN_some hrow
      generalize hax : a.eval x = y at hv
      cases hv with
      | @rp _ ad vs hsp hI hcell hp =>
        refine Ok1.put hs hd (x := .pointer (some (ad.add (i.toNat * te.sz)))) ?_ ?_ h
        · simp [execOp, ho, hax, hi, hrun ad h0 h1]
        · rw [addr_add' ad hsp]
          have hg : ∀ (j : Nat) (d : PV), ((cs.drop (i.toNat * te.sz)).take te.sz)[j]? = some d → cs[i.toNat * te.sz + j]? = some d := by
            intro j d hj
            rw [List.getElem?_take] at hj
            split at hj
            · rw [List.getElem?_drop] at hj; exact hj
            · cases hj
          refine .rp (fun j => vs (i.toNat * te.sz + j)) rfl (fun j d hj => ?_) (fun j d hj => ?_) fun j d hj => hp _ _ (hg j d hj)
          · have := hI _ _ (hg j d hj); simp only [Nat.add_assoc] at this ⊢; exact this
          · have := hcell _ _ (hg j d hj); simp only [Nat.add_assoc] at this ⊢; exact this
    · rename_i id off
      obtain ⟨⟨h0, h1⟩, h⟩ := h
      generalize hax : a.eval x = y at hv
      cases hv with
      | ref hsh =>
        refine Ok1.put hs hd (x := .pointer (some ⟨(L id).b, off + i.toNat * te.sz, none⟩)) ?_ (.ref hsh) h
        simp [execOp, ho, hax, hi, hrun _ h0 h1, addr_add]
    · rename_i id i0 j N
      obtain ⟨⟨h0, h1⟩, h⟩ := h
      generalize hax : a.eval x = y at hv
      cases hv with
      | @er _ _ _ _ ad sz N0 hsh hN ha =>
        refine Ok1.put hs hd (x := .pointer (some (ad.add (i.toNat * te.sz)))) ?_ (.er sz N0 hsh hN fun he => ?_) h
        · simp [execOp, ho, hax, hi, hrun _ h0 h1]
        · rw [ha he, addr_add, Nat.add_assoc]
    · exact h.elim
  · exact h.elim

theorem sim_index (hcx : CxOk cx) (hs : SR cx n L I F a w) {o : Oper} {T : TypeId} {x ix : Operand} (ho : o.op = .index T x ix) (hd : ∀ d, o.dst = some d → d < n) {wr : Wr} {rs : List Res}
    (h : (stepOp cx o).ev C F wr rs) : Ok1 cx n L I F a w o wr := by
  simp only [stepOp, ho] at h
  (replace h := withTy_ev h); obtain ⟨ti, hti, h⟩ := h
  have ht := hcx.ty _ _ hti
  (replace h := rdV_ev hs h); obtain ⟨v, rs1, hv, h⟩ := h
  (replace h := rdV_ev hs h); obtain ⟨iv, rs2, hiv, h⟩ := h
  (replace h := asI_ev hiv h); obtain ⟨kd, i, rfl, hi, h⟩ := h
  have hund := ht.und
  split at h
  · rename_i s hk
    rw [hk] at hund
    simp only at hund
    obtain ⟨row, hrow, h⟩ := h
    split at hrow
    · rename_i h0
      simp only [Option.map_eq_some_iff] at hrow
      obtain ⟨b, hb, rfl⟩ := hrow
      try dsimp only at h
      refine Ok1.put hs hd (x := .int .u8 b.toNat) ?_ (.p (.s rfl)) h
      simp [execOp, ho, hv.scal.1, hi, Instr.index, asIntOf, run_underlying hund, h0, hb]
    · cases hrow
  · exact h.elim

theorem binS_run {P : Program} {op : BinOp} {t : TypeId} {x y : Operand} {p q r : Value} (h : binS op p q = some r) (ho : ∀ P', binOwes op p q = some P' → P'.p) (w : World) :
    (do eqGuard op t x y p q; binOp op t p q).run P w = .ok r w ∧ clo r = true := by
  unfold binS at h
  split at h
  · rename_i k m k' m'
    split at h
    · have hz : 0 ≤ m' := ho _ rfl
      have hz' : ¬ m' < 0 := by omega
      cases h
      refine ⟨?_, rfl⟩
      simp [eqGuard, binOp, Op.shift, hz']
    · have hz : 0 ≤ m' := ho _ rfl
      have hz' : ¬ m' < 0 := by omega
      cases h
      refine ⟨?_, rfl⟩
      simp [eqGuard, binOp, Op.shift, hz']
    split at h
    · rename_i hk
      subst hk
      cases op <;> simp only [Option.some.injEq, reduceCtorEq] at h <;> subst h <;>
        first
          | (refine ⟨?_, rfl⟩; simp [eqGuard, binOp, Op.intArith, Op.intCmp]; done)
          | (refine ⟨?_, rfl⟩; simp [eqGuard, binOp, Op.intBits]; done)
          | (have hz : m' ≠ 0 := ho _ rfl; refine ⟨?_, rfl⟩; simp [eqGuard, binOp, Op.intDiv, hz]; done)
    · cases h
  · cases op <;> simp only [Option.some.injEq, reduceCtorEq] at h <;> subst h <;>
      first
        | (refine ⟨?_, rfl⟩; simp [eqGuard, binOp, Op.stringOp]; done)
        | (have hz := ho _ rfl
           refine ⟨?_, rfl⟩
           simp [eqGuard, binOp, Op.stringOp]
           omega)
  · cases h

theorem assertO_ev {α : Type} {p : Option DProp} {k : RP α} {r : α} {rs : List Res} (h : (assertO p k).ev C F r rs) : (∀ q, p = some q → q.p) ∧ k.ev C F r rs := by
  unfold assertO at h
  split at h
  · exact ⟨fun q hq => (by cases hq; exact h.1), h.2⟩
  · exact ⟨fun q hq => (nomatch hq), h⟩

theorem run_equal_nilIface {P : Program} (w : World) (t : TypeId) {ms : Array (String × TypeId)} (h : P.underlying t = some (.interface ms)) :
    (Op.equal t .nilIface .nilIface).run P w = .ok true w := by
  have : ∀ d, (Op.equalIn (d + 1) t .nilIface .nilIface).run P w = .ok true w := fun d => by simp [Op.equalIn, run_underlying h]
  exact this 9999
theorem run_equal_iface_nil {P : Program} (w : World) (t u : TypeId) (v : Value) {ms : Array (String × TypeId)} (h : P.underlying t = some (.interface ms)) :
    (Op.equal t (.iface u v) .nilIface).run P w = .ok false w := by
  have : ∀ d, (Op.equalIn (d + 1) t (.iface u v) .nilIface).run P w = .ok false w := fun d => by simp [Op.equalIn, run_underlying h]
  exact this 9999

theorem run_equal_nilSlice {P : Program} (w : World) (t : TypeId) {e : TypeId} (h : P.underlying t = some (.slice e)) :
    (Op.equal t (.slice none 0 0) (.slice none 0 0)).run P w = .ok true w := by
  have : ∀ d, (Op.equalIn (d + 1) t (.slice none 0 0) (.slice none 0 0)).run P w = .ok true w := fun d => by simp [Op.equalIn, run_underlying h]
  exact this 9999
theorem run_equal_slice_nil {P : Program} (w : World) (t : TypeId) {e : TypeId} (a : Addr) (n c : Nat) (h : P.underlying t = some (.slice e)) :
    (Op.equal t (.slice (some a) n c) (.slice none 0 0)).run P w = .ok false w := by
  have : ∀ d, (Op.equalIn (d + 1) t (.slice (some a) n c) (.slice none 0 0)).run P w = .ok false w := fun d => by simp [Op.equalIn, run_underlying h]
  exact this 9999

theorem sim_binOp (hcx : CxOk cx) (hs : SR cx n L I F a w) {o : Oper} {op : BinOp} {t u : TypeId} {x y : Operand} (ho : o.op = .binOp op t x y u) (hd : ∀ d, o.dst = some d → d < n) {wr : Wr} {rs : List Res}
    (h : (stepOp cx o).ev C F wr rs) : Ok1 cx n L I F a w o wr := by
  simp only [stepOp, ho] at h
  (replace h := withTy_ev h); obtain ⟨ti, hti, h⟩ := h
  have ht := hcx.ty _ _ hti
  have hund := ht.und
  (replace h := rdV_ev hs h); obtain ⟨xv, rs1, hxv, h⟩ := h
  (replace h := rdV_ev hs h); obtain ⟨yv, rs2, hyv, h⟩ := h
  split at h
  · rename_i p q
    have hx := hxv.scal.1
    have hy := hyv.scal.1
    split at h
    · rename_i hk
      rw [hk] at hund
      refine Ok1.put hs hd ?_ (.p (.s rfl)) h
      have h2 := run_eql_bool (P := cx.P) w t p q hund
      simp [execOp, ho, hx, hy, eqGuard, h2]
    · rename_i hk
      rw [hk] at hund
      refine Ok1.put hs hd ?_ (.p (.s rfl)) h
      have h2 := run_neq_bool (P := cx.P) w t p q hund
      simp [execOp, ho, hx, hy, eqGuard, h2]
    · exact h.elim
  · have hx := hxv.scal.1
    have hy := hyv.scal.1
    split at h
    · rename_i hk
      rw [hk] at hund
      obtain ⟨ms, hms⟩ := hund
      refine Ok1.put hs hd (x := .bool true) ?_ (.p (.s rfl)) h
      have hy' : a.eval (.const _) = _ := hy
      simp only [Act.eval] at hy'
      subst hy'
      have hy2 : a.eval (.const Value.nilIface) = Value.nilIface := rfl
      simp [execOp, ho, hx, hy2, eqGuard, binOp, run_equal_nilIface w t hms]
    · rename_i hk
      rw [hk] at hund
      obtain ⟨ms, hms⟩ := hund
      refine Ok1.put hs hd (x := .bool false) ?_ (.p (.s rfl)) h
      have hy' : a.eval (.const _) = _ := hy
      simp only [Act.eval] at hy'
      subst hy'
      have hy2 : a.eval (.const Value.nilIface) = Value.nilIface := rfl
      simp [execOp, ho, hx, hy2, eqGuard, binOp, run_equal_nilIface w t hms]
    · exact h.elim
  · have hx := hxv.scal.1
    have hy := hyv.scal.1
    split at h
    · rename_i e hk
      rw [hk] at hund
      refine Ok1.put hs hd (x := .bool true) ?_ (.p (.s rfl)) h
      have hy' : a.eval (.const _) = _ := hy
      simp only [Act.eval] at hy'
      subst hy'
      have hy2 : a.eval (.const (Value.slice none 0 0)) = Value.slice none 0 0 := rfl
      simp [execOp, ho, hx, hy2, eqGuard, binOp, run_equal_nilSlice w t hund]
    · rename_i e hk
      rw [hk] at hund
      refine Ok1.put hs hd (x := .bool false) ?_ (.p (.s rfl)) h
      have hy' : a.eval (.const _) = _ := hy
      simp only [Act.eval] at hy'
      subst hy'
      have hy2 : a.eval (.const (Value.slice none 0 0)) = Value.slice none 0 0 := rfl
      simp [execOp, ho, hx, hy2, eqGuard, binOp, run_equal_nilSlice w t hund]
    · exact h.elim
  · have hy := hyv.scal.1
    have hx : ∃ ad n c, a.eval x = .slice (some ad) n c := by
      generalize hax : a.eval x = z at hxv
      cases hxv with
      | p hp => cases hp with
        | ne => exact ⟨_, _, _, rfl⟩
    obtain ⟨ad, n', c', hx⟩ := hx
    split at h
    · rename_i e hk
      rw [hk] at hund
      refine Ok1.put hs hd (x := .bool false) ?_ (.p (.s rfl)) h
      simp [execOp, ho, hx, hy, eqGuard, binOp, run_equal_slice_nil w t ad n' c' hund]
    · rename_i e hk
      rw [hk] at hund
      refine Ok1.put hs hd (x := .bool true) ?_ (.p (.s rfl)) h
      simp [execOp, ho, hx, hy, eqGuard, binOp, run_equal_slice_nil w t ad n' c' hund]
    · exact h.elim
  · rename_i es
    have hy := hyv.scal.1
    have hx : es ≠ [] → ∃ ad n c, a.eval x = .slice (some ad) n c := by
      intro hne
      generalize hax : a.eval x = z at hxv
      cases hxv with
      | p hp => cases hp with
        | nil => exact absurd rfl hne
        | sl _ _ _ _ _ _ _ _ _ => exact ⟨_, _, _, rfl⟩
    split at h
    · rename_i e hk
      rw [hk] at hund
      obtain ⟨hne, h⟩ := h
      obtain ⟨ad, n', c', hx⟩ := hx hne
      refine Ok1.put hs hd (x := .bool false) ?_ (.p (.s rfl)) h
      simp [execOp, ho, hx, hy, eqGuard, binOp, run_equal_slice_nil w t ad n' c' hund]
    · rename_i e hk
      rw [hk] at hund
      obtain ⟨hne, h⟩ := h
      obtain ⟨ad, n', c', hx⟩ := hx hne
      refine Ok1.put hs hd (x := .bool true) ?_ (.p (.s rfl)) h
      simp [execOp, ho, hx, hy, eqGuard, binOp, run_equal_slice_nil w t ad n' c' hund]
    · exact h.elim
  · have hx := hxv.scal.1
    have hy := hyv.scal.1
    split at h
    · rename_i r hr
      (replace h := assertO_ev h); obtain ⟨hq, h⟩ := h
      change (RP.ret _).ev C F wr _ at h
      obtain ⟨h1, h2⟩ := binS_run (P := cx.P) (t := t) (x := x) (y := y) hr hq w
      refine Ok1.put hs hd ?_ (.p (.s h2)) h
      simp only [execOp, ho, hx, hy, Sem.run_bind]
      simp only [Sem.run_bind] at h1
      rw [h1]
      rfl
    · exact h.elim
  · have hy := hyv.scal.1
    have hx : ∃ t v, a.eval x = .iface t v := by
      generalize hax : a.eval x = z at hxv
      cases hxv
      exact ⟨_, _, rfl⟩
    obtain ⟨t', v', hx⟩ := hx
    split at h
    · rename_i hk
      rw [hk] at hund
      obtain ⟨ms, hms⟩ := hund
      refine Ok1.put hs hd (x := .bool false) ?_ (.p (.s rfl)) h
      simp [execOp, ho, hx, hy, eqGuard, binOp, run_equal_iface_nil w t _ _ hms]
    · rename_i hk
      rw [hk] at hund
      obtain ⟨ms, hms⟩ := hund
      refine Ok1.put hs hd (x := .bool true) ?_ (.p (.s rfl)) h
      simp [execOp, ho, hx, hy, eqGuard, binOp, run_equal_iface_nil w t _ _ hms]
    · exact h.elim
  · have hy := hyv.scal.1
    have hx : ∃ ad n' c', a.eval x = .slice (some ad) n' c' := by
      generalize hax : a.eval x = z at hxv
      cases hxv
      exact ⟨_, _, _, rfl⟩
    obtain ⟨ad, n', c', hx⟩ := hx
    split at h
    · rename_i e hk
      rw [hk] at hund
      refine Ok1.put hs hd (x := .bool false) ?_ (.p (.s rfl)) h
      simp [execOp, ho, hx, hy, eqGuard, binOp, run_equal_slice_nil w t ad n' c' hund]
    · rename_i e hk
      rw [hk] at hund
      refine Ok1.put hs hd (x := .bool true) ?_ (.p (.s rfl)) h
      simp [execOp, ho, hx, hy, eqGuard, binOp, run_equal_slice_nil w t ad n' c' hund]
    · exact h.elim
  · exact h.elim

theorem sim_unOp (hs : SR cx n L I F a w) {o : Oper} {op : UnOp} {t : TypeId} {x : Operand} (ho : o.op = .unOp op t x) (hd : ∀ d, o.dst = some d → d < n) {wr : Wr} {rs : List Res}
    (h : (stepOp cx o).ev C F wr rs) : Ok1 cx n L I F a w o wr := by
  simp only [stepOp, ho] at h
  (replace h := rdV_ev hs h); obtain ⟨xv, rs1, hxv, h⟩ := h
  (replace h := scal_ev hxv h); obtain ⟨y, rfl, hy, hc, h⟩ := h
  split at h
  · rename_i r hr
    change (RP.ret _).ev C F wr _ at h
    unfold unS at hr
    split at hr
    · cases hr
      refine Ok1.put hs hd ?_ (.p (.s rfl)) h
      simp [execOp, ho, hy, Op.unary]
    · cases hr
      refine Ok1.put hs hd ?_ (.p (.s rfl)) h
      simp [execOp, ho, hy, Op.unary, Op.intArith]
    · cases hr
  · exact h.elim

theorem sim_convert (hcx : CxOk cx) (hs : SR cx n L I F a w) {o : Oper} {src dst : TypeId} {x : Operand} (ho : o.op = .convert src dst x) (hd : ∀ d, o.dst = some d → d < n) {wr : Wr} {rs : List Res}
    (h : (stepOp cx o).ev C F wr rs) : Ok1 cx n L I F a w o wr := by
  simp only [stepOp, ho] at h
  (replace h := withTy_ev h); obtain ⟨ts, hts, h⟩ := h
  (replace h := withTy_ev h); obtain ⟨td, htd, h⟩ := h
  obtain ⟨sd, hsd, _⟩ := (hcx.ty _ _ hts).agg
  have hund := (hcx.ty _ _ htd).und
  (replace h := rdV_ev hs h); obtain ⟨xv, rs1, hxv, h⟩ := h
  (replace h := scal_ev hxv h); obtain ⟨y, rfl, hy, hc, h⟩ := h
  split at h
  · rename_i r hr
    change (RP.ret _).ev C F wr _ at h
    unfold convS at hr
    split at hr
    · rename_i hk
      rw [hk] at hund
      cases hr
      refine Ok1.put hs hd ?_ (.p (.s rfl)) h
      simp [execOp, ho, hy, convert, run_underlying hsd, run_underlying hund, Conv.intToInt]
    · rename_i hk
      rw [hk] at hund
      cases hr
      refine Ok1.put hs hd ?_ (.p (.s rfl)) h
      simp [execOp, ho, hy, convert, run_underlying hsd, run_underlying hund, Conv.intToString]
    · rename_i hk
      rw [hk] at hund
      cases hr
      refine Ok1.put hs hd ?_ (.p (.s rfl)) h
      simp [execOp, ho, hy, convert, run_underlying hsd, run_underlying hund]
    · cases hr
  · exact h.elim

theorem sim_makeFunc (hs : SR cx n L I F a w) {o : Oper} {f : FuncId} {first caps : Array Operand} (ho : o.op = .makeFunc (.func f) first caps) (hd : ∀ d, o.dst = some d → d < n) {wr : Wr} {rs : List Res}
    (h : (stepOp cx o).ev C F wr rs) : Ok1 cx n L I F a w o wr := by
  simp only [stepOp, ho] at h
  split at h
  · rename_i hf
    (replace h := rdVs_ev hs h); obtain ⟨vs, rs1, hvs, h⟩ := h
    have hfe : first = #[] := by simpa using hf
    refine Ok1.put hs hd (x := .func (.func f) #[] (caps.map a.eval)) ?_ (.fn ?_ fun i c x hc hx => ?_) h
    · simp [execOp, ho, Instr.makeFunc, hfe]
    · simpa using hvs.length.symm
    · exact hvs.get i c x hc (by simpa using hx)
  · exact h.elim

theorem sim_makeMap (hcx : CxOk cx) (hs : SR cx n L I F a w) {o : Oper} {t : TypeId} (ho : o.op = .makeMap t none) (hd : ∀ d, o.dst = some d → d < n) {wr : Wr} {rs : List Res}
    (h : (stepOp cx o).ev C F wr rs) : Ok1 cx n L I F a w o wr := by
  simp only [stepOp, ho] at h
  (replace h := withTy_ev h); obtain ⟨ti, hti, h⟩ := h
  split at h
  · rename_i hk
    (replace h := withTy_ev h); obtain ⟨te, hte, h⟩ := h
    have keyM : ∀ {rs : List Res}, (newO o (.map te.agg []) fun i => .mp i).ev C F wr rs → Ok1 cx n L I F a w o wr := by
      intro rs h
      obtain ⟨d, hod, hfree, rfl⟩ := newO_ev h
      refine Ok1.new (v := fun i => .mp i) (w' := w.alloc (.map #[] 0)) hs hod (hd d hod) (mkLoc w.heap.size (0)) (x := .map (some w.heap.size)) ?_ rfl hfree rfl rfl rfl (by simp) (fun b hb => heap_alloc_old w _ b hb) ?_ ?_
      · simp [execOp, ho, Instr.makeMap]
      · exact ⟨#[], 0, heap_alloc_new w _, rfl, fun i e m hi => by simp at hi⟩
      · have h2 : VR (updL L (d + 1, 0) (mkLoc w.heap.size (0))) (F.setS (d + 1, 0) (.map te.agg [])).sh I (w.alloc (.map #[] 0)) (.mp (d + 1, 0)) (.map (some (updL L (d + 1, 0) (mkLoc w.heap.size (0)) (d + 1, 0)).b)) := .mp (.inl sh_set_same)
        rw [updL_same] at h2
        exact h2
    have keyG : ∀ {rs : List Res}, (newO o (.gm [] none 0) fun i => .mp i).ev C F wr rs → Ok1 cx n L I F a w o wr := by
      intro rs h
      obtain ⟨d, hod, hfree, rfl⟩ := newO_ev h
      refine Ok1.new (v := fun i => .mp i) (w' := w.alloc (.map #[] 0)) hs hod (hd d hod) (mkLoc w.heap.size (0)) (x := .map (some w.heap.size)) ?_ rfl hfree rfl rfl rfl (by simp) (fun b hb => heap_alloc_old w _ b hb) ?_ ?_
      · simp [execOp, ho, Instr.makeMap]
      · exact ⟨#[], 0, fun _ => 0, heap_alloc_new w _, ⟨rfl, fun i e m hi => by simp at hi, fun i e hi => by simp at hi, fun i j e f hi => by simp at hi, fun _ _ => rfl, fun i hi => by simp at hi, fun i j hi => by simp at hi, fun b hb => hb.elim, fun k rows hp => by cases hp⟩⟩
      · have h2 : VR (updL L (d + 1, 0) (mkLoc w.heap.size (0))) (F.setS (d + 1, 0) (.gm [] none 0)).sh I (w.alloc (.map #[] 0)) (.mp (d + 1, 0)) (.map (some (updL L (d + 1, 0) (mkLoc w.heap.size (0)) (d + 1, 0)).b)) := .mp (.inr ⟨_, _, sh_set_same⟩)
        rw [updL_same] at h2
        exact h2
    split at h
    · obtain ⟨b, h⟩ := h
      cases b with
      | true => exact keyG h
      | false => exact keyM h
    · exact keyM h
  · exact h.elim

theorem sim_extract (hs : SR cx n L I F a w) {o : Oper} {x : Operand} {i : Nat} (ho : o.op = .extract x i) (hd : ∀ d, o.dst = some d → d < n) {wr : Wr} {rs : List Res}
    (h : (stepOp cx o).ev C F wr rs) : Ok1 cx n L I F a w o wr := by
  simp only [stepOp, ho] at h
  (replace h := rdV_ev hs h); obtain ⟨v, rs1, hv, h⟩ := h
  try dsimp only at h
  split at h
  · rename_i vs
    split at h
    · rename_i c hc
      generalize hax : a.eval x = y at hv
      cases hv with
      | @tup _ xs hl hall =>
        have hlt : i < xs.size := by rw [hl]; exact (List.getElem?_eq_some_iff.1 hc).1
        refine Ok1.put hs hd (x := xs[i]) ?_ (hall i c _ hc (Array.getElem?_eq_getElem hlt)) h
        simp [execOp, ho, hax, Instr.extract, hlt]
    · exact h.elim
  · exact h.elim

theorem sim_len (hcx : CxOk cx) (hs : SR cx n L I F a w) {o : Oper} {args : Array Operand} {tys : Array TypeId} (ho : o.op = .call { callee := .builtin .len, args := args, argTypes := tys })
    (hd : ∀ d, o.dst = some d → d < n) {wr : Wr} {rs : List Res} (h : (stepOp cx o).ev C F wr rs) : Ok1 cx n L I F a w o wr := by
  simp only [stepOp, ho] at h
  split at h
  · rename_i x t hx1 ht1
    have hxa : args = #[x] := by rw [← Array.toList_inj, hx1]
    have hta : tys = #[t] := by rw [← Array.toList_inj, ht1]
    subst hxa
    subst hta
    (replace h := withTy_ev h); obtain ⟨ti, hti, h⟩ := h
    have hund := (hcx.ty _ _ hti).und
    (replace h := rdV_ev hs h); obtain ⟨v, rs1, hv, h⟩ := h
    split at h
    · rename_i s hk
      rw [hk] at hund
      refine Ok1.put hs hd (x := .int .i64 s.size) ?_ (.p (.s rfl)) h
      simp [execOp, ho, resolve, invoke, builtin, Builtin.len_, run_underlying hund, hv.scal.1, goInt]
    · rename_i e es hk
      rw [hk] at hund
      refine Ok1.put hs hd (x := .int .i64 es.length) ?_ (.p (.s rfl)) h
      generalize hax : a.eval x = y at hv
      cases hv with
      | p hv => cases hv with
        | nil => simp [execOp, ho, resolve, invoke, builtin, Builtin.len_, run_underlying hund, hax, goInt]
        | sl sz vs h0 hc hsz hrow hI hcell hp => simp [execOp, ho, resolve, invoke, builtin, Builtin.len_, run_underlying hund, hax, goInt]
    · rename_i e hk
      rw [hk] at hund
      refine Ok1.put hs hd (x := .int .i64 0) ?_ (.p (.s rfl)) h
      simp [execOp, ho, resolve, invoke, builtin, Builtin.len_, run_underlying hund, hv.scal.1, goInt]
    · rename_i e id off m N hk
      rw [hk] at hund
      refine Ok1.put hs hd (x := .int .i64 m) ?_ (.p (.s rfl)) h
      generalize hax : a.eval x = y at hv
      cases hv
      simp [execOp, ho, resolve, invoke, builtin, Builtin.len_, run_underlying hund, hax, goInt]
    · rename_i kk ee id hk
      rw [hk] at hund
      obtain ⟨rs2, _, h⟩ := h
      dsimp only at h
      split at h
      · rename_i g es hes
        obtain ⟨ms, k, hb, hl, _⟩ := hs.obj id _ hes
        refine Ok1.put hs hd (x := .int .i64 es.length) ?_ (.p (.s rfl)) h
        generalize hax : a.eval x = y at hv
        cases hv
        simp [execOp, ho, resolve, invoke, builtin, Builtin.len_, run_underlying hund, hax, goInt, MapKept.run_getObj_map hb, hl]
      · exact h.elim
    · exact h.elim
  · exact h.elim

end Go.Ev
end
section
/- Simulation: slices, fields, stores. -/
namespace Go.Ev

variable {cx : Cx} {n : Nat} {L L' : Id → Loc} {I I' : Nat → Nat → Prop} {F F' : FS} {a : Act} {w w' : World} {C : Rel}

def LowOk (low : Option Value) (l : Int) : Prop := (low = none ∧ l = 0) ∨ ∃ k, low = some (.int k l)
def HighOk (high : Option Value) (h : Option Int) : Prop := (high = none ∧ h = none) ∨ ∃ k m, high = some (.int k m) ∧ h = some m

theorem run_sliceBounds {P : Program} (b : Bool) {len cap : Nat} {low high : Option Value} {l : Int} {h : Option Int} (hl : LowOk low l) (hh : HighOk high h)
    (h0 : 0 ≤ l) (h1 : l ≤ h.getD len) (h2 : h.getD len ≤ cap) :
    (Instr.sliceBounds b len cap low high none).run P w = .ok (l.toNat, (h.getD len).toNat, cap) w := by
  rcases hl with ⟨rfl, rfl⟩ | ⟨k, rfl⟩ <;> rcases hh with ⟨rfl, rfl⟩ | ⟨k', m, rfl, rfl⟩ <;> simp only [Option.getD_none, Option.getD_some] at h1 h2
  · simp [Instr.sliceBounds]
  · have : 0 ≤ m ∧ m ≤ cap := ⟨by omega, by omega⟩
    simp [Instr.sliceBounds, Instr.sliceBound, asIntOf, this]
  · have : 0 ≤ l ∧ l ≤ len := ⟨by omega, by omega⟩
    simp [Instr.sliceBounds, Instr.sliceBound, asIntOf, this]
  · have t1 : 0 ≤ m ∧ m ≤ cap := ⟨by omega, by omega⟩
    have t2 : 0 ≤ l ∧ l ≤ (m.toNat : Int) := ⟨by omega, by omega⟩
    simp [Instr.sliceBounds, Instr.sliceBound, asIntOf, t1]
    omega

theorem rdLo_ev {α : Type} (hs : SR cx n L I F a w) {lo : Option Operand} {k : Int → RP α} {r : α} {rs : List Res} (h : (rdLo cx lo k).ev C F r rs) :
    ∃ l, LowOk (lo.map a.eval) l ∧ ∃ rs, (k l).ev C F r rs := by
  cases lo with
  | none => exact ⟨0, .inl ⟨rfl, rfl⟩, _, h⟩
  | some lx =>
    (replace h := rdV_ev hs h); obtain ⟨lv, rs2, hlv, h⟩ := h
    (replace h := asI_ev hlv h); obtain ⟨kd, l, rfl, hl, h⟩ := h
    exact ⟨l, .inr ⟨kd, by simp [hl]⟩, _, h⟩

theorem rdHi_ev {α : Type} (hs : SR cx n L I F a w) {hi : Option Operand} {k : Option Int → RP α} {r : α} {rs : List Res} (h : (rdHi cx hi k).ev C F r rs) :
    ∃ m, HighOk (hi.map a.eval) m ∧ ∃ rs, (k m).ev C F r rs := by
  cases hi with
  | none => exact ⟨none, .inl ⟨rfl, rfl⟩, _, h⟩
  | some lx =>
    (replace h := rdV_ev hs h); obtain ⟨lv, rs2, hlv, h⟩ := h
    (replace h := asI_ev hlv h); obtain ⟨kd, l, rfl, hl, h⟩ := h
    exact ⟨some l, .inr ⟨kd, l, by simp [hl], rfl⟩, _, h⟩

end Go.Ev
end
section
/- Simulation: data out of the call's own slices; literals; make. -/
namespace Go.Ev

variable {cx : Cx} {n : Nat} {L L' : Id → Loc} {I I' : Nat → Nat → Prop} {F F' : FS} {a : Act} {w w' : World} {C : Rel}

theorem lkS_mem {l : List (Id × AO)} {i : Id} {o : AO} (h : lkS l i = some o) : (i, o) ∈ l := by
  induction l with
  | nil => cases h
  | cons x r ih =>
    obtain ⟨k, y⟩ := x
    simp only [lkS] at h
    cases hk : idEq k i with
    | true =>
      rw [hk] at h
      simp only [cond_true, Option.some.injEq] at h
      rw [idEq_iff] at hk
      subst hk
      subst h
      simp
    | false =>
      rw [hk] at h
      simp only [cond_false] at h
      exact List.mem_cons_of_mem _ (ih h)

theorem mem_rmS {l : List (Id × AO)} {i : Id} {x : Id × AO} (h : x ∈ l) (hne : x.1 ≠ i) : x ∈ rmS l i := by
  induction l with
  | nil => cases h
  | cons y r ih =>
    obtain ⟨k, z⟩ := y
    simp only [rmS]
    cases hk : idEq k i with
    | true =>
      simp only [cond_true]
      rcases List.mem_cons.1 h with rfl | h
      · rw [idEq_iff] at hk; exact absurd hk hne
      · exact ih h
    | false =>
      simp only [cond_false]
      rcases List.mem_cons.1 h with rfl | h
      · simp
      · exact List.mem_cons_of_mem _ (ih h)
theorem of_mem_rmS {l : List (Id × AO)} {i : Id} {x : Id × AO} (h : x ∈ rmS l i) : x ∈ l := by
  induction l with
  | nil => cases h
  | cons y r ih =>
    obtain ⟨k, z⟩ := y
    simp only [rmS] at h
    cases hk : idEq k i with
    | true => rw [hk] at h; exact List.mem_cons_of_mem _ (ih h)
    | false =>
      rw [hk] at h
      simp only [cond_false] at h
      rcases List.mem_cons.1 h with rfl | h
      · simp
      · exact List.mem_cons_of_mem _ (ih h)

theorem rdO_ev {α : Type} {ov : Ov} {id : Id} {k : Option AO → RP α} {r : α} {rs : List Res} (h : (rdO ov id k).ev C F r rs) (hok : OvOk F ov) :
    ∃ ob rs', (k ob).ev C F r rs' ∧ (ob = F.gs id ∨ ∃ sz es fz, F.gs id = some (.arr sz es fz) ∧ ob = some (.arr sz es es.length)) := by
  unfold rdO at h
  split at h
  · rename_i o ho
    obtain ⟨sz, es, fz, h1, h2⟩ := hok _ (lkS_mem ho)
    simp only at h1 h2
    exact ⟨_, _, h, .inr ⟨sz, es, fz, h1, by rw [h2]⟩⟩
  · obtain ⟨rs', _, h⟩ := h
    exact ⟨_, _, h, .inl rfl⟩

/-- What a slice of the call's own holds. -/
theorem ms_pure (hs : SR cx n L I F a w) {id : Id} {off m N : Nat} {x : Value} (hv : VR L F.sh I w (.ms id off m N) x) {sz fz : Nat} {es : List (List PV)} (hg : F.gs id = some (.arr sz es fz))
    (hN : es.length = N) (hle : off + m ≤ N) {J : Nat → Nat → Prop} (hJ : ∀ b o, I b o → J b o) (hJ2 : ∀ o, o < es.length * sz → J (L id).b o) : PR J w (.sl ((es.drop off).take m)) x := by
  cases hv with
  | @ms _ _ _ _ ad c sz' N0 hsh hNN ha =>
    have hs0 : F.sh id = some (.arr sz es.length) := by simp [FS.sh, hg, AO.sh]
    rw [hs0] at hsh
    cases hsh
    obtain ⟨g1, g2, g3, g4, g5, g6⟩ := ha hN.symm
    obtain ⟨h0, hrl, hf, xs, e, hb, hsz, hfit, hall, _⟩ := hs.obj id _ hg
    have hlen : ((es.drop off).take m).length = m := by simp; omega
    have hget : ∀ (i : Nat) (row : List PV), ((es.drop off).take m)[i]? = some row → i < m ∧ es[off + i]? = some row := by
      intro i row hi
      rw [List.getElem?_take] at hi
      split at hi
      · rw [List.getElem?_drop] at hi; exact ⟨by assumption, hi⟩
      · cases hi
    have hmain : PR J w (.sl ((es.drop off).take m)) (.slice (some ad) ((es.drop off).take m).length c) := by
      refine .sl sz (fun i j => (xs[(off + i) * sz + j]?).getD undef) (fun _ => g3) (by omega) h0 (fun i row hi => hrl _ _ (hget i row hi).2) (fun i j row d hi hj => ?_) (fun i j row d hi hj => ?_) fun i j row d hi hj => ?_
      · obtain ⟨hi1, hi2⟩ := hget i row hi
        have hc0 : c ≠ 0 := by omega
        rw [g4 hc0]
        have hj1 : j < sz := by rw [← hrl _ _ hi2]; exact (List.getElem?_eq_some_iff.1 hj).1
        have hlt : off + i < es.length := (List.getElem?_eq_some_iff.1 hi2).1
        have : off * sz + i * sz + j < es.length * sz := by
          have h1 : (off + i + 1) * sz ≤ es.length * sz := Nat.mul_le_mul_right _ hlt
          have h2 : (off + i + 1) * sz = off * sz + i * sz + sz := by rw [Nat.add_mul, Nat.add_mul]; omega
          omega
        exact hJ2 _ this
      · obtain ⟨hi1, hi2⟩ := hget i row hi
        have hc0 : c ≠ 0 := by omega
        obtain ⟨y, hy, hp⟩ := hall _ j row d hi2 hj
        rw [g4 hc0, cell_of hb, hy]
        simp only [Option.getD_some]
        rw [← hy]
        congr 1
        rw [Nat.add_mul]
      · obtain ⟨hi1, hi2⟩ := hget i row hi
        obtain ⟨y, hy, hp⟩ := hall _ j row d hi2 hj
        simp only [hy, Option.getD_some]
        exact hp.mono hJ (fun _ _ _ => rfl)
    rw [hlen] at hmain
    exact hmain

theorem toPV_ev {α : Type} (hs : SR cx n L I F a w) {v : AV} {x : Value} (hv : VR L F.sh I w v x) {ov : Ov} {k : PV → Ov → RP α} {r : α} {rs : List Res} (h : (toPV v ov k).ev C F r rs) (hok : OvOk F ov) :
    ∃ d ov' rs', OvOk F ov' ∧ (∀ b o, frz L I ov b o → frz L I ov' b o) ∧ PR (frz L I ov') w d x ∧ (k d ov').ev C F r rs' := by
  unfold toPV at h
  split at h
  · rename_i d
    cases hv with
    | p hp => exact ⟨_, _, _, hok, fun _ _ h => h, (hp.mono (frz_sub L I ov) (fun _ _ _ => rfl)).nrm, h⟩
  · rename_i id off m N
    (replace h := rdO_ev h hok); obtain ⟨ob, rs1, h, hob⟩ := h
    split at h
    · rename_i sz es fz
      obtain ⟨⟨hN, hle⟩, row, hrow, h⟩ := h
      obtain rfl := (Option.some.inj hrow).symm
      dsimp only at h
      have hg : ∃ fz', F.gs id = some (.arr sz es fz') := by
        rcases hob with hob | ⟨sz', es', fz', h1, h2⟩
        · exact ⟨fz, hob.symm⟩
        · cases h2; exact ⟨fz', h1⟩
      obtain ⟨fz', hg⟩ := hg
      refine ⟨_, _, _, ?_, ?_, ?_, h⟩
      · intro y hy
        rcases List.mem_cons.1 hy with rfl | hy
        · exact ⟨sz, es, fz', hg, rfl⟩
        · exact hok y (of_mem_rmS hy)
      · rintro b o' (hb | ⟨y, hy, sz2, es2, fz2, h1, h2, h3⟩)
        · exact .inl hb
        · by_cases he : y.1 = id
          · obtain ⟨sz3, es3, fz3, g1, g2⟩ := hok y hy
            rw [he, hg] at g1
            cases g1
            rw [g2] at h1
            cases h1
            exact .inr ⟨_, List.mem_cons_self, _, _, _, rfl, by rw [h2, he], h3⟩
          · exact .inr ⟨y, List.mem_cons_of_mem _ (mem_rmS hy he), _, _, _, h1, h2, h3⟩
      · exact ms_pure hs hv hg hN hle (frz_sub L I _) fun o ho => .inr ⟨_, List.mem_cons_self, _, _, _, rfl, rfl, ho⟩
    · exact h.elim
  · exact h.elim

theorem toPVs_ev {α : Type} (hs : SR cx n L I F a w) : ∀ {vs : List AV} {xs : List Value} {ov : Ov} {k : List PV → Ov → RP α} {r : α} {rs : List Res},
    All2 (fun c y => one y = true ∧ VR L F.sh I w c y) vs xs → (toPVs vs ov k).ev C F r rs → OvOk F ov →
    ∃ ds ov' rs', OvOk F ov' ∧ (∀ b o, frz L I ov b o → frz L I ov' b o) ∧ All2 (PR (frz L I ov') w) ds xs ∧ (k ds ov').ev C F r rs'
  | [], xs, ov, k, r, rs, hv, h, hok => by
    cases hv
    exact ⟨[], ov, rs, hok, fun _ _ h => h, .nil, h⟩
  | v :: vs, xs, ov, k, r, rs, hv, h, hok => by
    cases hv with
    | cons h1 h2 =>
      obtain ⟨d, ov1, rs1, hok1, hm1, hp1, h⟩ := toPV_ev hs h1.2 h hok
      obtain ⟨ds, ov2, rs2, hok2, hm2, hp2, h⟩ := toPVs_ev hs h2 h hok1
      exact ⟨d :: ds, ov2, rs2, hok2, fun b o h => hm2 b o (hm1 b o h), .cons (hp1.mono hm2 (fun _ _ _ => rfl)) hp2, h⟩

/- ---------------------------------------------------------------- filling -/
theorem foldl_set_splice (vs : List Value) : ∀ (cs : Array Value) (off k : Nat), off + k + vs.length ≤ cs.size →
    ((vs.zipIdx k).foldl (fun cs (c, j) => cs.setIfInBounds (off + j) c) cs).toList = cs.toList.take (off + k) ++ vs ++ cs.toList.drop (off + k + vs.length) := by
  induction vs with
  | nil => intro cs off k h; simp
  | cons v r ih =>
    intro cs off k h
    simp only [List.length_cons] at h
    simp only [List.zipIdx_cons, List.foldl_cons]
    rw [ih _ _ _ (by simp; omega)]
    have hlt : off + k < cs.toList.length := by simp; omega
    apply List.ext_getElem?
    intro i
    simp only [Array.toList_setIfInBounds, List.getElem?_append, List.getElem?_take, List.getElem?_drop, List.getElem?_set, List.length_append, List.length_take, List.length_set, List.length_cons, Array.length_toList]
    by_cases h1 : i < off + k
    · have e1 : i < off + (k + 1) := by omega
      have e2 : ¬ off + k = i := by omega
      have m1 : min (off + (k + 1)) cs.size = off + (k + 1) := by omega
      have m2 : min (off + k) cs.size = off + k := by omega
      have e3 : i < off + (k + 1) + r.length := by omega
      have e4 : i < off + k + (r.length + 1) := by omega
      simp [e1, e2, m1, m2, h1, e3, e4]
    · by_cases h2 : i = off + k
      · subst h2
        have m1 : min (off + (k + 1)) cs.size = off + (k + 1) := by omega
        have m2 : min (off + k) cs.size = off + k := by omega
        have e1 : off + k < off + (k + 1) := by omega
        have e2 : off + k < cs.size := by omega
        simp [m1, m2, e1, e2]
        omega
      · have m1 : min (off + (k + 1)) cs.size = off + (k + 1) := by omega
        have m2 : min (off + k) cs.size = off + k := by omega
        have e1 : ¬ i < off + (k + 1) := by omega
        simp only [m1, m2, e1, h1, if_false]
        by_cases h3 : i < off + (k + 1) + r.length
        · have e3 : i - (off + k) = (i - (off + (k + 1))) + 1 := by omega
          have e4 : i < off + k + (r.length + 1) := by omega
          simp [h3, e4, e3]
        · have e4 : ¬ i < off + k + (r.length + 1) := by omega
          have e5 : off + (k + 1) + r.length = off + k + (r.length + 1) := by omega
          have e6 : ¬ off + k = off + k + (r.length + 1) + (i - (off + k + (r.length + 1))) := by omega
          simp [h3, e4, e5, e6]

theorem fill_rel {fs : List (Nat × Nat)} {pl : Nat → Option (Nat × Nat)} (hpl : ∀ (i : Nat) (y : Nat × Nat), fs[i]? = some y → pl i = some y) : ∀ {parts : List (Nat × AV)} {ps : List (Nat × Value)} {zs : List AV} {cells : Array Value} {cs : List AV},
    All2 (fun p q => p.1 = q.1 ∧ VR L F.sh I w p.2 q.2) parts ps → All2 (fun c y => one y = true ∧ VR L F.sh I w c y) zs cells.toList →
    place fs zs parts = some cs → ∃ out : Array Value, Instr.fill pl cells ps = some out ∧ All2 (fun c y => one y = true ∧ VR L F.sh I w c y) cs out.toList
  | [], ps, zs, cells, cs, hp, hz, h => by
    cases hp
    cases h
    exact ⟨cells, rfl, hz⟩
  | (i, v) :: parts, ps, zs, cells, cs, hp, hz, h => by
    cases hp with
    | @cons _ q _ ps' h1 h2 =>
      obtain ⟨j, x⟩ := q
      obtain ⟨he, hv⟩ := h1
      simp only at he hv
      subst he
      simp only [place] at h
      split at h
      · rename_i off sz hi
        split at h
        · rename_i vs hvs
          split at h
          · rename_i hc
            have hrel := cellsOf_rel hv hvs
            have hl := hrel.length
            have hzl := hz.length
            simp only [Array.length_toList] at hl hzl
            have hcs : ¬ (x.cells.size ≠ sz ∨ off + x.cells.size > cells.size) := by omega
            have hcs' : (decide (x.cells.size ≠ sz) || decide (off + x.cells.size > cells.size)) = false := by simp; omega
            have hsp := foldl_set_splice x.cells.toList cells off 0 (by simp; omega)
            have hnew : All2 (fun c y => one y = true ∧ VR L F.sh I w c y) (zs.take off ++ vs ++ zs.drop (off + sz))
                ((x.cells.zipIdx.foldl (fun cs (c, j) => cs.setIfInBounds (off + j) c) cells)).toList := by
              have : (x.cells.zipIdx.foldl (fun cs (c, j) => cs.setIfInBounds (off + j) c) cells) = (x.cells.toList.zipIdx.foldl (fun cs (c, j) => cs.setIfInBounds (off + j) c) cells) := by
                rw [← Array.foldl_toList, Array.toList_zipIdx]
              rw [this, hsp]
              have hsz : x.cells.toList.length = sz := by simp; omega
              simp only [Nat.add_zero, hsz]
              exact ((hz.take off).append hrel).append (hz.drop (off + sz))
            obtain ⟨out, ho, hr⟩ := fill_rel hpl h2 hnew h
            refine ⟨out, ?_, hr⟩
            simp only [Instr.fill, hpl _ _ hi]
            rw [if_neg (by simpa using hcs)]
            exact ho
          · cases h
        · cases h
      · cases h

/- ---------------------------------------------------------------- a freeze ahead of an operation -/
theorem ov_gs : ∀ {ov : Ov} {F : FS}, OvOk F ov → ∀ id, (F.app { s := ov }).gs id = F.gs id ∨ ∃ sz es fz, F.gs id = some (.arr sz es fz) ∧ (F.app { s := ov }).gs id = some (.arr sz es es.length)
  | [], F, _, id => .inl rfl
  | (i, ob) :: ov, F, hok, id => by
    obtain ⟨sz, es, fz, hg, hob⟩ := hok (i, ob) (by simp)
    simp only at hg hob
    subst hob
    have hgs : ∀ j, i ≠ j → (F.setS i (.arr sz es es.length)).gs j = F.gs j := fun j hj => by simp [FS.setS, idEq_false.2 hj]
    have hgi : (F.setS i (.arr sz es es.length)).gs i = some (.arr sz es es.length) := by simp [FS.setS, idEq_refl]
    have hok1 : OvOk (F.setS i (.arr sz es es.length)) ov := by
      intro x hx
      obtain ⟨sz', es', fz', h1, h2⟩ := hok x (by simp [hx])
      by_cases h : i = x.1
      · rw [← h] at h1 ⊢
        rw [hg] at h1
        cases h1
        exact ⟨_, _, _, hgi, h2⟩
      · exact ⟨_, _, _, (hgs _ h).trans h1, h2⟩
    have he : F.app { s := (i, .arr sz es es.length) :: ov } = (F.setS i (.arr sz es es.length)).app { s := ov } := rfl
    rw [he]
    rcases ov_gs hok1 id with h | ⟨sz', es', fz', h1, h2⟩
    · by_cases hi : i = id
      · subst hi
        rw [hgi] at h
        exact .inr ⟨sz, es, fz, hg, h⟩
      · exact .inl (h.trans (hgs id hi))
    · by_cases hi : i = id
      · subst hi
        rw [hgi] at h1
        cases h1
        exact .inr ⟨sz, es, fz, hg, h2⟩
      · exact .inr ⟨sz', es', fz', (hgs id hi).symm.trans h1, h2⟩

theorem ov_sh {ov : Ov} (hok : OvOk F ov) : (F.app { s := ov }).sh = F.sh := by
  funext id
  rcases ov_gs hok id with h | ⟨sz, es, fz, h1, h2⟩
  · simp [FS.sh, h]
  · simp [FS.sh, h1, h2, AO.sh]

theorem ov_none {ov : Ov} (hok : OvOk F ov) {id : Id} (h : F.gs id = none) : (F.app { s := ov }).gs id = none := by
  rcases ov_gs hok id with h1 | ⟨sz, es, fz, h1, h2⟩
  · rw [h1, h]
  · rw [h] at h1; cases h1

theorem app_ov (F : FS) (ov : Ov) (s : Ov) (e : List (Nat × AV)) : F.app { e := e, s := ov ++ s } = (F.app { s := ov }).app { e := e, s := s } := by
  simp [FS.app, List.foldl_append]

theorem Ok1.frz (hs : SR cx n L I F a w) {ov : Ov} (hok : OvOk F ov) {o : Oper} {e : List (Nat × AV)} {s : Ov}
    (h : Ok1 cx n L (frz L I ov) (F.app { s := ov }) a w o { e := e, s := s }) : Ok1 cx n L I F a w o { e := e, s := ov ++ s } := by
  obtain ⟨x, nx, w', hr, hn, L', I', h1, h2⟩ := h
  rw [← app_ov] at h1 h2
  exact ⟨x, nx, w', hr, hn, L', I', h1, (hs.freeze hok).2.trans h2⟩

theorem VR.frz {ov : Ov} (hok : OvOk F ov) {v : AV} {x : Value} (h : VR L F.sh I w v x) : VR L (F.app { s := ov }).sh (frz L I ov) w v x := by
  rw [ov_sh hok]
  exact h.mono (frz_sub L I ov) (fun _ _ _ => rfl) fun id _ s h => ⟨s, h, .refl _ _⟩

/- ---------------------------------------------------------------- a new array -/
/-- A new block as a slice of the call's own. -/
theorem Ok1.arr (hs : SR cx n L I F a w) {o : Oper} {d : Nat} (hod : o.dst = some d) (hdn : d < n) {sz m c : Nat} {es : List (List PV)} {xs : Array Value} {T : TypeId} {w0 : World}
    (hr : (execOp a.eval o).run cx.P w = .ok (.value (.slice (some ⟨w.heap.size, 0, none⟩) m c)) (w0.alloc (.cells xs T)))
    (hw0 : w0.heap = w.heap) (hos : w0.os = w.os) (htp : w0.tape = w.tape) (hou : w0.output = w.output)
    (hfree : F.gs (d + 1, 0) = none) (hsz : 0 < sz) (hrl : ∀ (i : Nat) (row : List PV), es[i]? = some row → row.length = sz)
    (hm : es.length = m) (hmc : m ≤ c) (hxs : xs.size = c * sz)
    (hall : ∀ (i j : Nat) (row : List PV) (q : PV), es[i]? = some row → row[j]? = some q → ∃ x, xs[i * sz + j]? = some x ∧ PR I w q x) :
    Ok1 cx n L I F a w o { e := [(d, .ms (d + 1, 0) 0 m m)], s := [((d + 1, 0), .arr sz es 0)] } := by
  have hb : (w0.alloc (.cells xs T)).heap[w.heap.size]? = some (.cells xs T (0, 0)) := by rw [← hw0]; exact heap_alloc_new w0 _
  have hold : ∀ b, b < w.heap.size → (w0.alloc (.cells xs T)).heap[b]? = w.heap[b]? := fun b h => by
    rw [← hw0] at h ⊢
    exact heap_alloc_old w0 _ b h
  have hcell : ∀ b o, I b o → (w0.alloc (.cells xs T)).cell? ⟨b, o, none⟩ = w.cell? ⟨b, o, none⟩ := fun b k h => World.cell?_of_block (a := ⟨b, k, none⟩) (hold b (hs.dom b k h))
  refine Ok1.new (v := fun i => .ms i 0 m m) hs hod hdn (mkLoc w.heap.size (c * sz)) hr rfl hfree hos htp hou (by simp [hw0]) hold ?_ ?_
  · refine ⟨hsz, hrl, Nat.zero_le _, xs, T, hb, hxs, Nat.mul_le_mul_right _ (by omega), fun i j row q hi hj => ?_, fun k hk => ?_⟩
    · obtain ⟨x, hx, hp⟩ := hall i j row q hi hj
      exact ⟨x, hx, hp.mono (fun _ _ h => h) hcell⟩
    · exact absurd (hs.dom _ _ hk) (Nat.lt_irrefl _)
  · refine .ms sz m ?_ (Nat.le_refl _) fun _ => ⟨by omega, hmc, rfl, fun _ => ?_, ?_, by omega⟩
    · rw [sh_set_same]; simp [AO.sh, hm]
    · rw [updL_same]; simp
    · rw [updL_same]; simp

theorem flat_get {α : Type} (l : List α) : ∀ (m k : Nat), ((List.replicate m l).flatten)[k]? = if k < m * l.length then l[k % l.length]? else none
  | 0, k => by simp
  | m + 1, k => by
    rw [List.replicate_succ, List.flatten_cons, List.getElem?_append]
    split
    · rename_i h
      rw [Nat.mod_eq_of_lt h, if_pos]
      rw [Nat.add_mul]; omega
    · rename_i h
      rw [flat_get l m]
      have h1 : (k - l.length) % l.length = k % l.length := by
        rw [← Nat.mod_eq_sub_mod (by omega)]
      rw [h1]
      by_cases h2 : k - l.length < m * l.length
      · rw [if_pos h2, if_pos (by rw [Nat.add_mul]; omega)]
      · rw [if_neg h2, if_neg (by rw [Nat.add_mul]; omega)]

theorem chunk_get {ds : List PV} {m sz : Nat} {i : Nat} {row : List PV} (h : ((List.range m).map fun i => (ds.drop (i * sz)).take sz)[i]? = some row) :
    i < m ∧ row = (ds.drop (i * sz)).take sz := by
  simp only [List.getElem?_map, Option.map_eq_some_iff] at h
  obtain ⟨k, hk, rfl⟩ := h
  have hlt : i < m := by have := (List.getElem?_eq_some_iff.1 hk).1; simpa using this
  rw [List.getElem?_range hlt] at hk
  cases hk
  exact ⟨hlt, rfl⟩

theorem all2_zip {vs : List AV} {xs : List Value} (h : All2 (VR L F.sh I w) vs xs) : ∀ (is : List Nat), is.length = vs.length →
    All2 (fun p q => p.1 = q.1 ∧ VR L F.sh I w p.2 q.2) (List.zip is vs) (List.zip is xs) := by
  induction h with
  | nil => intro is h; cases is <;> simp at h ⊢; exact .nil
  | cons h _ ih =>
    intro is hl
    cases is with
    | nil => simp at hl
    | cons i is => exact .cons ⟨rfl, h⟩ (ih is (by simpa using hl))

theorem zip_map (parts : List (Nat × Operand)) : (parts.map fun p => (p.1, a.eval p.2)) = List.zip (parts.map (·.1)) ((parts.map (·.2)).map a.eval) := by
  induction parts with
  | nil => rfl
  | cons p r ih => simp [ih]

theorem zeros_rel {P : Program} {ti : TI} {T : TypeId} (ht : TIok P T ti) {z : Value} (hz : z.cells.toList = ti.zero) :
    All2 (fun c y => one y = true ∧ VR L F.sh I w c y) (zeroAVs ti) z.cells.toList := by
  rw [hz]
  have hc := ht.clos
  rw [List.all_eq_true] at hc
  refine All2.of_get (by simp [zeroAVs]) fun i c y hi hy => ?_
  simp only [zeroAVs, List.getElem?_map, Option.map_eq_some_iff] at hi
  obtain ⟨y', hy', rfl⟩ := hi
  rw [hy] at hy'
  cases hy'
  have := hc y (List.mem_of_getElem? hy)
  exact ⟨clo_one this, .p (.s this)⟩

theorem places_ok (hcx : CxOk cx) : ∀ (gs : List Field) (pl : List (Nat × Nat)), fieldPlaces cx (gs.map fun g => (g.offset, g.type)) = some pl →
    gs.mapM (fun f => (cx.P.info? f.type).map fun i => (f.offset, i.size)) = some pl
  | [], pl, h => by simpa [fieldPlaces] using h
  | g :: gs, pl, h => by
    simp only [fieldPlaces, List.map_cons, List.mapM_cons, Option.bind_eq_bind, Option.pure_def] at h
    cases ht : cx.ty g.type with
    | none => simp [ht] at h
    | some ti =>
      cases hr : fieldPlaces cx (gs.map fun g => (g.offset, g.type)) with
      | none => simp only [fieldPlaces] at hr; simp [ht, hr] at h
      | some rest =>
        have ih := places_ok hcx gs rest hr
        simp only [fieldPlaces] at hr
        simp [ht, hr] at h
        subst h
        obtain ⟨i, z, hi, hs, _⟩ := (hcx.ty _ _ ht).ex
        simp [List.mapM_cons, hi, hs, ih]

theorem sim_build (hcx : CxOk cx) (hs : SR cx n L I F a w) {o : Oper} {T : TypeId} {parts : Array (Nat × Operand)} (ho : o.op = .build T parts) (hd : ∀ d, o.dst = some d → d < n) {wr : Wr} {rs : List Res}
    (h : (stepOp cx o).ev C F wr rs) : Ok1 cx n L I F a w o wr := by
  simp only [stepOp, ho] at h
  (replace h := withTy_ev h); obtain ⟨ti, hti, h⟩ := h
  have ht := hcx.ty _ _ hti
  have hund := ht.und
  (replace h := rdVs_ev hs h); obtain ⟨vs, rs1, hvs, h⟩ := h
  obtain ⟨it, z, hit, _, _, hz, hzc⟩ := ht.ex
  have hlen : (parts.toList.map (·.1)).length = vs.length := by rw [hvs.length]; simp
  have hp := all2_zip hvs (parts.toList.map (·.1)) hlen
  rw [← zip_map] at hp
  have hzr := zeros_rel (L := L) (F := F) (I := I) (w := w) ht hzc
  split at h
  · rename_i fs hk
    rw [hk] at hund
    obtain ⟨gs, hu, rfl⟩ := hund
    split at h
    · rename_i pl hpl
      split at h
      · rename_i cs hcs
        obtain ⟨out, hf, hrel⟩ := fill_rel (pl := fun x => pl.toArray[x]?) (fun i y hy => by simpa using hy) hp hzr hcs
        have hb := run_build (P := cx.P) w T (parts.map fun p => (p.1, a.eval p.2)) out (by simp only [Program.built, hit, hu, hz, places_ok hcx _ _ hpl]; simpa using hf)
        refine Ok1.put hs hd (x := .agg out) ?_ (.agg (by simpa using hrel.length.symm) (fun i x hx => ?_) fun i c x hi hx => (hrel.get i c x hi (by simpa using hx)).2) h
        · simp [execOp, ho, hb]
        · have hlt : i < cs.length := by rw [hrel.length]; simpa using (Array.getElem?_eq_some_iff.1 hx).1
          exact (hrel.get i cs[i] x (List.getElem?_eq_getElem hlt) (by simpa using hx)).1
      · exact h.elim
    · exact h.elim
  · rename_i m e hk
    rw [hk] at hund
    (replace h := withTy_ev h); obtain ⟨te, hte, h⟩ := h
    obtain ⟨ie, ze, hie, hse, _⟩ := (hcx.ty _ _ hte).ex
    split at h
    · rename_i cs hcs
      obtain ⟨out, hf, hrel⟩ := fill_rel (pl := fun i => some (i * ie.size, ie.size)) (fun i y hy => by
        simp only [List.getElem?_map, Option.map_eq_some_iff] at hy
        obtain ⟨k, hk, rfl⟩ := hy
        have hlt : i < m := by have := (List.getElem?_eq_some_iff.1 hk).1; simpa using this
        rw [List.getElem?_range hlt] at hk
        cases hk
        rw [hse]) hp hzr hcs
      have hb := run_build (P := cx.P) w T (parts.map fun p => (p.1, a.eval p.2)) out (by simp only [Program.built, hit, hund, hz, hie]; simpa using hf)
      refine Ok1.put hs hd (x := .agg out) ?_ (.agg (by simpa using hrel.length.symm) (fun i x hx => ?_) fun i c x hi hx => (hrel.get i c x hi (by simpa using hx)).2) h
      · simp [execOp, ho, hb]
      · have hlt : i < cs.length := by rw [hrel.length]; simpa using (Array.getElem?_eq_some_iff.1 hx).1
        exact (hrel.get i cs[i] x (List.getElem?_eq_getElem hlt) (by simpa using hx)).1
    · exact h.elim
  · exact h.elim

end Go.Ev
end
