import Derived.Control
import Derived.Calls
import Derived.LoopN
import Derived.Below
import Derived.KernelRfl
import Derived.Laws.Entries
import Derived.Laws.World
/-! The evaluator: abstract values, typed contents, one run of a function's code in continuation form. -/
universe u
namespace Go.Ev

structure Univ where
  C : Type
  El : C → Type

inductive AV (U : Univ) where
  | undef
  | flat (v : Value)
  | ptr (id off : Nat)
  | el (id idx off : Nat)
  | rp (cs : List (AV U)) (off : Nat)
  | tip (id : Nat) (c : U.C) (l : List (U.El c))
  | row (c : U.C) (l : List (U.El c))
  | agg (xs : List (AV U))
  | tup (xs : List (AV U))
  | fn (f : FuncId) (caps : List (AV U))

structure Codec (U : Univ) where
  size : U.C → Nat
  enc : (c : U.C) → U.El c → List (AV U)
  dec : (c : U.C) → List (AV U) → Option (U.El c)
  dflt : (c : U.C) → U.El c
  deq : DecidableEq U.C

inductive Obj (U : Univ) where
  | dead
  | lit (cs : List (AV U))
  | arr (n : Nat) (c : U.C) (l : List (U.El c))
  | tip (sz : Nat)

variable {U : Univ}

def lk {α : Type u} : List (Nat × α) → Nat → Option α
  | [], _ => none
  | (k, v) :: r, n => bif Nat.beq k n then some v else lk r n

structure St (U : Univ) where
  t : List (Nat × AV U)
  o : List (Nat × Obj U)

def St.get (s : St U) (n : Nat) : AV U := (lk s.t n).getD .undef
def St.set (s : St U) (n : Nat) (v : AV U) : St U := { s with t := (n, v) :: s.t }
def St.put (s : St U) (d : Option Tmp) (v : AV U) : St U := match d with | some n => s.set n v | none => s
def St.setO (s : St U) (n : Nat) (v : Obj U) : St U := { s with o := (n, v) :: s.o }

def St.op (s : St U) : Operand → AV U
  | .tmp t => s.get t
  | .const v => .flat v
  | .func f => .fn f []
  | .global _ => .undef

inductive Out (U : Univ) where
  | norm (s : St U)
  | exit (id : Nat) (s : St U)
  | ret (v : AV U)

structure FDen (U : Univ) where
  X : Type
  Y : Type
  un : List (AV U) → Option X
  f : X → Option Y
  fin : Y → AV U

structure LDen (U : Univ) where
  X : Type
  Y : Type
  un : St U → Option X
  f : X → Option Y
  fin : Y → Out U
  /-- 'fin', its cases told apart ahead of what goes on. -/
  finK : {ρ : Type} → Y → (Out U → Option ρ) → Option ρ
  finK_eq : ∀ {ρ : Type} (y : Y) (K : Out U → Option ρ), finK y K = K (fin y)

structure Env (U : Univ) where
  P : Program
  D : Codec U
  fd : FuncId → Option (FDen U)
  ld : Nat → Option (LDen U)
  mode : TypeId → Option (Nat × U.C)   -- array types whose variables are told as rows: how many elements, of which code
  elc : TypeId → Option U.C   -- slice types: the code of their elements
  results : List ResultVar

/-- An own slice, seen as a row alone. -/
def AV.drop : AV U → AV U
  | .tip _ c l => .row c l
  | v => v

def inb (i : Int) (n : Nat) : Bool := decide (0 ≤ i) && decide (i < n)

variable {ρ : Type}

/-- Kinds of cells: 0: a number, 1: a bool, 2: a text. -/
def eqV : Nat → AV U → AV U → Option Bool
  | 0, .flat (.int k a), .flat (.int k' b) => bif k == k' then some (a == b) else none
  | 1, .flat (.bool a), .flat (.bool b) => some (a == b)
  | 2, .flat (.string a), .flat (.string b) => some (a.toList == b.toList)
  | _, _, _ => none

def eqF : List Nat → List (AV U) → List (AV U) → Option Bool
  | [], [], [] => some true
  | [k], [x], [y] => eqV k x y
  | k :: ks, x :: xs, y :: ys => match eqV k x y, eqF ks xs ys with
    | some a, some b => some (a && b)
    | _, _ => none
  | _, _, _ => none

def binI (op : BinOp) (k : IntKind) (a b : Int) (K : AV U → Option ρ) : Option ρ :=
  match op with
  | .add => K (.flat (.int k (k.wrap (a + b))))
  | .sub => K (.flat (.int k (k.wrap (a - b))))
  | .mul => K (.flat (.int k (k.wrap (a * b))))
  | .quo => cond (b == 0) none (K (.flat (.int k (k.wrap (a.tdiv b)))))
  | .rem => cond (b == 0) none (K (.flat (.int k (a.tmod b))))
  | .and => K (.flat (.int k (bits .and k a b)))
  | .or => K (.flat (.int k (bits .or k a b)))
  | .xor => K (.flat (.int k (bits .xor k a b)))
  | .andNot => K (.flat (.int k (bits .andNot k a b)))
  | .eql => K (.flat (.bool (a == b)))
  | .neq => K (.flat (.bool (a != b)))
  | .lss => K (.flat (.bool (decide (a < b))))
  | .leq => K (.flat (.bool (decide (a ≤ b))))
  | .gtr => K (.flat (.bool (decide (a > b))))
  | .geq => K (.flat (.bool (decide (a ≥ b))))
  | _ => none

def isAggB (P : Program) (t : TypeId) : Bool :=
  match P.underlying t with
  | some (.struct _) => true
  | some (.array _ _) => true
  | _ => false

def plainFs (P : Program) (g : TypeId → Option (List Nat)) : List Field → Nat → Option (List Nat)
  | [], _ => some []
  | f :: fs, off => match g f.type with
    | some ks => bif Nat.beq f.offset off && !(f.name == "_") && ((P.info? f.type).map (·.size)) == some ks.length then (plainFs P g fs (off + ks.length)).map (ks ++ ·) else none
    | none => none

/-- Types whose values are equal where their cells are: the cells' kinds. -/
def plainEq (P : Program) : Nat → TypeId → Option (List Nat)
  | 0, _ => none
  | d + 1, t => match P.underlying t with
    | some .bool => some [1]
    | some (.int _) => some [0]
    | some .string => some [2]
    | some (.struct fs) => bif P.stoodInHeld t then none else plainFs P (plainEq P d) fs.toList 0
    | some (.array len e) => match plainEq P d e with
      | some ks => bif ((P.info? e).map (·.size)) == some ks.length then some (List.replicate len ks).flatten else none
      | none => none
    | _ => none

def binC (P : Program) (t : TypeId) (op : BinOp) (x y : AV U) (K : AV U → Option ρ) : Option ρ :=
  match x, y with
  | .flat (.int k a), .flat (.int k' b) =>
    match op with
    | .shl => cond (decide (b < 0)) none (K (.flat (.int k (k.wrap (a * 2 ^ min b.toNat k.bits)))))
    | .shr => cond (decide (b < 0)) none (K (.flat (.int k (a.fdiv (2 ^ min b.toNat k.bits)))))
    | _ => bif k == k' then binI op k a b K else none
  | .flat (.bool a), .flat (.bool b) =>
    match op, P.underlying t with
    | .eql, some .bool => K (.flat (.bool (a == b)))
    | .neq, some .bool => K (.flat (.bool (!(a == b))))
    | _, _ => none
  | .agg xs, .agg ys =>
    match plainEq P 8 t with
    | none => none
    | some ks =>
      bif isAggB P t && !(P.eqGuardType P.depth t) then
        match op, eqF ks xs ys with
        | .eql, some b => K (.flat (.bool b))
        | .neq, some b => K (.flat (.bool (!b)))
        | _, _ => none
      else none
  | _, _ => none

def unC (op : UnOp) (x : AV U) : Option (AV U) :=
  match op, x with
  | .neg, .flat (.int k n) => some (.flat (.int k (k.wrap (0 - n))))
  | .xor, .flat (.int k n) => some (.flat (.int k (bits .xor k (if k.signed then -1 else k.max) n)))
  | .not, .flat (.bool b) => some (.flat (.bool !b))
  | _, _ => none

def AV.cells : AV U → List (AV U)
  | .agg xs => xs
  | v => [v]

/-- xs with ys from place i on. -/
def over (xs : List (AV U)) (i : Nat) (ys : List (AV U)) : List (AV U) := xs.take i ++ ys ++ xs.drop (i + ys.length)

def szOf (P : Program) (t : TypeId) : Option Nat := (P.info? t).map (·.size)

def cut (P : Program) (t : TypeId) (cs : List (AV U)) (off : Nat) : Option (AV U) :=
  match szOf P t, (P.underlying t).isSome with
  | none, _ => none
  | _, false => none
  | some n, true =>
    match isAggB P t with
    | true => bif Nat.ble (off + n) cs.length then some (.agg ((cs.drop off).take n)) else none
    | false => cs[off]?

def codesFs (g : TypeId → Option (List (Option U.C))) : List Field → Option (List (Option U.C))
  | [] => some []
  | f :: r => match g f.type, codesFs g r with
    | some a, some b => some (a ++ b)
    | _, _ => none

/-- The cells of a type: of those that are slices, the code. -/
def codesOf (E : Env U) : Nat → TypeId → Option (List (Option U.C))
  | 0, _ => none
  | d + 1, t => match E.elc t with
    | some c => some [some c]
    | none => match E.P.underlying t with
      | some (.struct fs) => codesFs (codesOf E d) fs.toList
      | some (.array n e) => (codesOf E d e).map fun l => (List.replicate n l).flatten
      | some _ => some [none]
      | none => none

def nilC (v : Value) (c : Option U.C) : AV U := match v, c with
  | .slice none 0 0, some c => .row c []
  | v, _ => .flat v

/-- A zero's cells: a nil slice is told as a row of none. -/
def zeroCells (E : Env U) (t : TypeId) : Option (List (AV U)) :=
  match E.P.info? t with
  | some i => match i.zero with
    | some v => match codesOf E 8 t with
      | some cs => bif Nat.beq cs.length v.cells.size then some (List.zipWith nilC v.cells.toList cs) else some (v.cells.toList.map .flat)
      | none => some (v.cells.toList.map .flat)
    | none => none
  | none => none

/-- A value that is moved: nil becomes an own slice of none, where its type has a code. -/
def moveC (E : Env U) (ob : Nat → Option (Obj U)) (t : TypeId) (d : Option Tmp) (v : AV U) (K : AV U → List (Nat × Obj U) → Option ρ) : Option ρ :=
  match v with
  | .flat (.slice none 0 0) => match E.elc t, d with
    | some c, some d => match ob d with
      | none => K (.tip d c []) [(d, .tip (E.D.size c))]
      | some _ => K (.row c []) []
    | _, _ => K v []
  | v => K v []

def decs (D : Codec U) (c : U.C) : Nat → List (AV U) → Option (List (U.El c))
  | 0, cs => match cs with | [] => some [] | _ => none
  | n + 1, cs => match D.dec c (cs.take (D.size c)), decs D c n (cs.drop (D.size c)) with
    | some x, some r => some (x :: r)
    | _, _ => none

def encs (D : Codec U) (c : U.C) (l : List (U.El c)) : Nat → List (AV U)
  | 0 => []
  | n + 1 => encs D c l n ++ D.enc c (l.getD n (D.dflt c))

def newObj (E : Env U) (t : TypeId) (cs : List (AV U)) : Option (Obj U) :=
  match E.mode t with
  | none => some (.lit cs)
  | some (n, c) => match decs E.D c n cs with
    | some l => some (.arr n c l)
    | none => none

/-- May it be one cell's value? -/
def okCell : AV U → Bool
  | .undef | .agg _ | .tup _ => false
  | .flat (.agg _) | .flat (.tuple _) => false
  | _ => true

def loadAt (E : Env U) (ob : Nat → Option (Obj U)) (t : TypeId) : AV U → Option (AV U)
  | .ptr id off => match ob id with
    | some (.lit cs) => cut E.P t cs off
    | some (.arr n c l) => match off with
      | 0 => cut E.P t (encs E.D c l n) 0
      | _ => none
    | _ => none
  | .el id i off => match ob id with
    | some (.arr m c l) => bif Nat.blt i m then cut E.P t (E.D.enc c (l.getD i (E.D.dflt c))) off else none
    | _ => none
  | .rp cs off => cut E.P t cs off
  | _ => none

def storeAt (E : Env U) (ob : Nat → Option (Obj U)) (t : TypeId) (a v : AV U) : Option (Nat × Obj U) :=
  match szOf E.P t with
  | none => none
  | some n =>
    bif Nat.beq n v.cells.length && v.cells.all okCell then
      match a with
      | .ptr id off => match ob id with
        | some (.lit cs) => bif Nat.ble (off + n) cs.length then some (id, .lit (over cs off v.cells)) else none
        | some (.arr m c _) => match off with
          | 0 => match decs E.D c m v.cells with
            | some l => some (id, .arr m c l)
            | none => none
          | _ => none
        | _ => none
      | .el id i off => match ob id with
        | some (.arr m c l) => bif Nat.blt i m && Nat.ble (off + n) (E.D.size c) then
            match E.D.dec c (over (E.D.enc c (l.getD i (E.D.dflt c))) off v.cells) with
            | some x => some (id, .arr m c (l.set i x))
            | none => none
          else none
        | _ => none
      | _ => none
    else none

/-- Is the row's index below the row's length? -/
def elOk (ob : Nat → Option (Obj U)) : AV U → Bool
  | .el id i _ => match ob id with
    | some (.arr m _ _) => Nat.blt i m
    | _ => true
  | _ => true

def loadAt0 (E : Env U) (ob : Nat → Option (Obj U)) (t : TypeId) : AV U → Option (AV U)
  | .ptr id off => match ob id with
    | some (.lit cs) => cut E.P t cs off
    | some (.arr n c l) => match off with
      | 0 => cut E.P t (encs E.D c l n) 0
      | _ => none
    | _ => none
  | .el id i off => match ob id with
    | some (.arr _ c l) => cut E.P t (E.D.enc c (l.getD i (E.D.dflt c))) off
    | _ => none
  | .rp cs off => cut E.P t cs off
  | _ => none

def storeAt0 (E : Env U) (ob : Nat → Option (Obj U)) (t : TypeId) (a v : AV U) : Option (Nat × Obj U) :=
  match szOf E.P t with
  | none => none
  | some n =>
    bif Nat.beq n v.cells.length && v.cells.all okCell then
      match a with
      | .ptr id off => match ob id with
        | some (.lit cs) => bif Nat.ble (off + n) cs.length then some (id, .lit (over cs off v.cells)) else none
        | some (.arr m c _) => match off with
          | 0 => match decs E.D c m v.cells with
            | some l => some (id, .arr m c l)
            | none => none
          | _ => none
        | _ => none
      | .el id i off => match ob id with
        | some (.arr m c l) => bif Nat.ble (off + n) (E.D.size c) then
            match E.D.dec c (over (E.D.enc c (l.getD i (E.D.dflt c))) off v.cells) with
            | some x => some (id, .arr m c (l.set i x))
            | none => none
          else none
        | _ => none
      | _ => none
    else none

theorem loadAt_of {E : Env U} {ob : Nat → Option (Obj U)} {t : TypeId} {a v : AV U} (h : elOk ob a = true) (hv : loadAt0 E ob t a = some v) : loadAt E ob t a = some v := by
  cases a with
  | el id i off =>
    simp only [elOk, loadAt0, loadAt] at *
    cases hb : ob id with
    | none => simp only [hb] at hv; cases hv
    | some b => cases b with
      | arr m c l => simp only [hb] at h hv ⊢; rw [h]; exact hv
      | _ => simp only [hb] at hv; cases hv
  | _ => exact hv

theorem storeAt_of {E : Env U} {ob : Nat → Option (Obj U)} {t : TypeId} {a v : AV U} {r : Nat × Obj U} (h : elOk ob a = true) (hv : storeAt0 E ob t a v = some r) : storeAt E ob t a v = some r := by
  cases a with
  | el id i off =>
    simp only [elOk, storeAt0, storeAt] at *
    cases hn : szOf E.P t with
    | none => simp only [hn] at hv; cases hv
    | some n =>
      simp only [hn] at hv ⊢
      cases hb : ob id with
      | none => simp only [hb] at hv ⊢; exact hv
      | some b => cases b with
        | arr m c l => simp only [hb] at h hv ⊢; rw [h]; exact hv
        | _ => simp only [hb] at hv ⊢; exact hv
  | _ => exact hv

def fieldOff (P : Program) (t : TypeId) (f : Nat) : Option Field :=
  match P.underlying t with
  | some (.struct fs) => match fs[f]? with
    | some fl => match szOf P fl.type with
      | some (_ + 1) => some fl
      | _ => none
    | none => none
  | _ => none

/-- May a value be handed to a call: no address of an object in it? -/
def c0 : AV U → Bool
  | .undef | .flat _ | .row .. => true
  | _ => false

def cA : AV U → Bool
  | .agg xs => xs.all c0
  | v => c0 v

def c1 : AV U → Bool
  | .agg xs | .fn _ xs => xs.all c0
  | .tup xs => xs.all cA
  | v => c0 v

def addOff (n : Nat) : AV U → Option (AV U)
  | .ptr id off => some (.ptr id (off + n))
  | .el id i off => some (.el id i (off + n))
  | .rp cs off => some (.rp cs (off + n))
  | _ => none

def fillA (place : Nat → Option (Nat × Nat)) (cs : List (AV U)) : List (Nat × AV U) → Option (List (AV U))
  | [] => some cs
  | (i, v) :: r =>
    match place i with
    | none => none
    | some (off, size) => bif Nat.beq v.cells.length size && Nat.ble (off + size) cs.length then fillA place (over cs off v.cells) r else none

def placesA (P : Program) (fs : List Field) : Option (List (Nat × Nat)) := fs.mapM fun f => (szOf P f.type).map fun n => (f.offset, n)

def buildA (E : Env U) (t : TypeId) (parts : List (Nat × AV U)) : Option (AV U) :=
  match zeroCells E t with
  | none => none
  | some z =>
    bif parts.all fun p => p.2.cells.all okCell then
      match E.P.underlying t with
      | some (.struct fs) => match placesA E.P fs.toList with
        | some ps => (fillA (fun i => ps[i]?) z parts).map .agg
        | none => none
      | some (.array _ e) => match szOf E.P e with
        | some s => (fillA (fun i => some (i * s, s)) z parts).map .agg
        | none => none
      | _ => none
    else none

/-- As many cells, zeros of an element's type in turn. -/
def zerosA (z : List (AV U)) (m : Nat) : List (AV U) := (List.range m).map fun k => (z[k % z.length]?).getD .undef

/-- A slice type's element: its code, its cells, its bytes. -/
def elemOf (E : Env U) (t : TypeId) : Option (TypeId × U.C × Nat × Nat) :=
  match E.P.underlying t, E.elc t with
  | some (.slice e), some c => match E.P.info? e with
    | some i => match i.zero with
      | some v => bif Nat.beq i.size (E.D.size c) && Nat.blt 0 i.size && Nat.blt 0 i.bytes && Nat.beq v.cells.size i.size then some (e, c, i.size, i.bytes) else none
      | none => none
    | none => none
  | _, _ => none

def buildSliceA (E : Env U) (t : TypeId) (n : Nat) (parts : List (Nat × AV U)) : Option ((c : U.C) × List (U.El c)) :=
  match elemOf E t with
  | none => none
  | some (e, c, sz, _) =>
    match zeroCells E e with
    | none => none
    | some z =>
      bif (parts.all fun p => p.2.cells.all okCell) && Nat.ble (n * sz) 16777216 then
        match fillA (fun i => some (i * sz, sz)) (zerosA z (n * sz)) parts with
        | some cs => match decs E.D c n cs with
          | some l => some ⟨c, l⟩
          | none => none
        | none => none
      else none

def castL (D : Codec U) (c c' : U.C) (l : List (U.El c')) : Option (List (U.El c)) :=
  match D.deq c' c with
  | isTrue h => some (h ▸ l)
  | isFalse _ => none

/-- As many bytes as any memory bears. -/
def okLen (n bytes : Nat) : Bool := decide (n * bytes ≤ 140737488355328)

/-- Where a slice is cut: from, to. -/
def inS (lo hi : Int) (n : Nat) : Bool := decide (0 ≤ lo) && decide (lo ≤ hi) && decide (hi ≤ n)

def appendC (E : Env U) (ob : Nat → Option (Obj U)) (ts : Array TypeId) (args : List (AV U)) (dst : Option Tmp) (K : AV U → List (Nat × Obj U) → Option ρ) : Option ρ :=
  match ts[0]?, ts[1]?, args, dst with
  | some t, some t', [x, y], some d =>
    match elemOf E t, E.P.underlying t' with
    | some (_, c, sz, by_), some (.slice _) =>
      match y.drop with
      | .row c2 l2 => match castL E.D c c2 l2 with
        | none => none
        | some l2 => match ob d with
          | some _ => none
          | none => match x with
            | .tip id c1 l1 => match castL E.D c c1 l1 with
              | none => none
              | some l1 => match ob id with
                | some (.tip sz') => bif Nat.beq sz' sz then cond (okLen (l1.length + l2.length) by_) (K (.tip d c (l1 ++ l2)) [(id, .dead), (d, .tip sz)]) none else none
                | _ => none
            | .flat (.slice none 0 0) => cond (okLen l2.length by_) (K (.tip d c l2) [(d, .tip sz)]) none
            | _ => none
      | _ => none
    | _, _ => none
  | _, _, _, _ => none

def sliceC (E : Env U) (t : TypeId) (x : AV U) (lo hi : Option (AV U)) (mx : Option Operand) (K : AV U → Option ρ) : Option ρ :=
  match elemOf E t, mx with
  | some (_, _, sz, _), none =>
    match x with
    | .row c l => bif Nat.beq sz (E.D.size c) then
        match lo, hi with
        | none, none => K (.row c l)
        | some (.flat (.int _ i)), none => cond (inS i l.length l.length) (K (.row c (l.drop i.toNat))) none
        | none, some (.flat (.int _ j)) => cond (inS 0 j l.length) (K (.row c (l.take j.toNat))) none
        | some (.flat (.int _ i)), some (.flat (.int _ j)) => cond (inS i j l.length) (K (.row c ((l.take j.toNat).drop i.toNat))) none
        | _, _ => none
      else none
    | _ => none
  | _, _ => none

def indexAddrC (E : Env U) (ob : Nat → Option (Obj U)) (t : TypeId) (x i : AV U) (K : AV U → Option ρ) : Option ρ :=
  match i with
  | .flat (.int _ n) =>
    match E.P.underlying t with
    | some (.array len e) =>
      match szOf E.P e with
      | none => none
      | some sz =>
        match x with
        | .ptr id off => match ob id with
          | some (.arr m c _) => bif Nat.beq off 0 && Nat.beq sz (E.D.size c) && Nat.beq len m then cond (inb n len) (K (.el id n.toNat 0)) none else none
          | some (.lit _) => cond (inb n len) (K (.ptr id (off + n.toNat * sz))) none
          | _ => none
        | .rp cs off => cond (inb n len) (K (.rp cs (off + n.toNat * sz))) none
        | .el id j off => cond (inb n len) (K (.el id j (off + n.toNat * sz))) none
        | _ => none
    | some (.slice e) =>
      match x with
      | .row c l => bif szOf E.P e == some (E.D.size c) then cond (inb n l.length) (K (.rp (E.D.enc c (l.getD n.toNat (E.D.dflt c))) 0)) none else none
      | _ => none
    | _ => none
  | _ => none

/-- The n-th part of an array's value; of one whose type is boxed as a row: by the row. -/
def pickA (E : Env U) (t e : TypeId) (len sz : Nat) (cs : List (AV U)) (n : Nat) : Option (AV U) :=
  match E.mode t with
  | none => cut E.P e cs (n * sz)
  | some (m, c) => match decs E.D c m cs with
    | some l => bif Nat.beq m len && Nat.beq sz (E.D.size c) then cut E.P e (E.D.enc c (l.getD n (E.D.dflt c))) 0 else none
    | none => none

def indexC (E : Env U) (t : TypeId) (x i : AV U) (K : AV U → Option ρ) : Option ρ :=
  match i, x with
  | .flat (.int _ n), .agg cs =>
    match E.P.underlying t with
    | some (.array len e) =>
      match szOf E.P e with
      | none => none
      | some sz => cond (inb n len) (match pickA E t e len sz cs n.toNat with | some v => K v | none => none) none
    | _ => none
  | _, _ => none

def best (op : Builtin) (k : IntKind) : Int → List (AV U) → Option (AV U)
  | x, [] => some (.flat (.int k x))
  | x, .flat (.int _ y) :: r => match op with
    | .max => best op k (if y > x then y else x) r
    | .min => best op k (if y < x then y else x) r
    | _ => none
  | _, _ => none

def builtinA (E : Env U) (b : Builtin) (ts : Array TypeId) (args : List (AV U)) : Option (AV U) :=
  match b with
  | .len => match ts[0]? with
    | some t => match E.P.underlying t, args with
      | some (.slice _), [.row _ l] => some (.flat (.int .i64 (l.length : Int)))
      | some (.array n _), [_] => some (.flat (.int .i64 (n : Int)))
      | _, _ => none
    | none => none
  | .max | .min => match args with
    | .flat (.int k x) :: r => best b k x r
    | _ => none
  | _ => none

def kont {α : Type u} (x : Option α) (K : α → Option ρ) : Option ρ := match x with | some v => K v | none => none

abbrev Eff (U : Univ) := List (Nat × Obj U)

def okCells (x : AV U) : Option (List (AV U)) := bif x.cells.all okCell then some x.cells else none

/-- One operation, given what its operands and the objects are: its value, what it does to the objects. -/
def opK (E : Env U) (o : Oper) (ev : Operand → AV U) (ob : Nat → Option (Obj U)) (K : AV U → Eff U → Option ρ) : Option ρ :=
  let put (v : AV U) : Option ρ := K v []
  match o.op with
  | .move x | .assign x => moveC E ob o.type o.dst (ev x) K
  | .pick c a b => match ev c with
    | .flat (.bool t) => cond t (put (ev a)) (put (ev b))
    | _ => none
  | .alloc t => match o.dst with
    | some d => kont (zeroCells E t) fun z => kont (newObj E t z) fun n => match ob d with
      | none => K (.ptr d 0) [(d, n)]
      | some _ => none
    | none => none
  | .box t x => match o.dst with
    | some d => kont (okCells (ev x).drop) fun z => kont (newObj E t z) fun n => match ob d with
      | none => K (.ptr d 0) [(d, n)]
      | some _ => none
    | none => none
  | .build t parts => kont (buildA E t (parts.toList.map fun p => (p.1, (ev p.2).drop))) put
  | .buildSlice t n parts => match o.dst with
    | some d => kont (buildSliceA E t n (parts.toList.map fun p => (p.1, (ev p.2).drop))) fun r => match ob d with
      | none => K (.tip d r.1 r.2) [(d, .tip (E.D.size r.1))]
      | some _ => none
    | none => none
  | .slice t x lo hi mx => sliceC E t (ev x).drop (lo.map ev) (hi.map ev) mx put
  | .load t a => cond (elOk ob (ev a)) (kont (loadAt0 E ob t (ev a)) put) none
  | .store t a v => cond (elOk ob (ev a)) (kont (storeAt0 E ob t (ev a) (ev v).drop) fun u => K .undef [u]) none
  | .binOp op t x y _ => binC E.P t op (ev x) (ev y) put
  | .unOp op _ x => kont (unC op (ev x)) put
  | .convert src dst x => match E.P.underlying dst, (E.P.underlying src).isSome, ev x with
    | some (.int k), true, .flat (.int _ n) => put (.flat (.int k (k.wrap n)))
    | _, _, _ => none
  | .fieldAddr t x f => kont (fieldOff E.P t f) fun fl => kont (addOff fl.offset (ev x)) put
  | .field t x f => kont (fieldOff E.P t f) fun fl => match ev x with
    | .agg cs => kont (cut E.P fl.type cs fl.offset) put
    | _ => none
  | .indexAddr t x i => indexAddrC E ob t (ev x).drop (ev i) put
  | .index t x i => indexC E t (ev x) (ev i) put
  | .extract x i => match ev x with
    | .tup vs => kont vs[i]? put
    | _ => none
  | .call c => match c.callee with
    | .builtin .append => appendC E ob c.argTypes (c.args.toList.map ev) o.dst K
    | .builtin b => kont (builtinA E b c.argTypes (c.args.toList.map fun x => (ev x).drop)) put
    | .value g => match ev g with
      | .fn f caps => kont (E.fd f) fun d => bif ((c.args.toList.map fun x => (ev x).drop) ++ caps).all c1 then kont (d.un ((c.args.toList.map fun x => (ev x).drop) ++ caps)) fun x => (d.f x).bind fun y => put (d.fin y) else none
      | _ => none
    | _ => none
  | _ => none

def St.upd (s : St U) : Eff U → St U
  | [] => s
  | (n, v) :: r => (s.setO n v).upd r

def opC (E : Env U) (o : Oper) (s : St U) (K : St U → Option ρ) : Option ρ :=
  opK E o s.op (lk s.o) fun v u => K ((s.upd u).put o.dst v)

/-- The operations in the text's order. 'ck': what must hold ahead of each (a region that draws its order asks more). -/
def regC (E : Env U) (ck : Nat → Oper → St U → Bool) (all : Array Oper) : Nat → List Oper → St U → (St U → Option ρ) → Option ρ
  | _, [], s, K => K s
  | i, o :: r, s, K =>
    match o.guard with
    | none => bif ck i o s then opC E o s fun s' => regC E ck all (i + 1) r s' K else none
    | some (j, want) =>
      kont ((all[j]?).bind (·.dst)) fun g => match s.get g with
        | .flat (.bool b) =>
          cond b
            (match want with
              | true => bif ck i o s then opC E o (s.set g (.flat (.bool true))) fun s' => regC E ck all (i + 1) r s' K else none
              | false => regC E ck all (i + 1) r ((s.set g (.flat (.bool true))).put o.dst (.flat undef)) K)
            (match want with
              | true => regC E ck all (i + 1) r ((s.set g (.flat (.bool false))).put o.dst (.flat undef)) K
              | false => bif ck i o s then opC E o (s.set g (.flat (.bool false))) fun s' => regC E ck all (i + 1) r s' K else none)
        | .flat (.tuple _) => regC E ck all (i + 1) r (s.put o.dst (.flat undef)) K
        | _ => none

def keyOf : Code → Option Nat
  | .region id _ _ => some id
  | .seq a b => match keyOf a with | some k => some k | none => keyOf b
  | .block _ c => keyOf c
  | .loop c => keyOf c
  | .scope c => keyOf c
  | .cond _ a b => match keyOf a with | some k => some k | none => keyOf b
  | _ => none

def resA (E : Env U) (s : St U) : List ResultVar → Option (List (AV U))
  | [] => some []
  | .tmp t :: r => (resA E s r).map ((s.get t).drop :: ·)
  | .cell a t :: r => match loadAt E (lk s.o) t (s.get a), resA E s r with
    | some v, some vs => some (v :: vs)
    | _, _ => none

def resV (E : Env U) (s : St U) : Option (AV U) := match resA E s E.results with
  | some [v] => some v
  | some vs => some (.tup vs)
  | none => none

/-- Which operations stand ahead of each, whatever the order: bits. -/
def ahead (ops : List Oper) : List Nat :=
  go ops []
where
  go : List Oper → List Nat → List Nat
    | [], acc => acc
    | o :: r, acc => go r (acc ++ [o.after.toList.foldl (fun s e => bif Region.binds .any e then s ||| 2 ^ e.on ||| acc.getD e.on 0 else s) 0])

def names (all : Array Oper) (o : Oper) : List Tmp :=
  (o.op.operands.toList.filterMap fun | .tmp t => some t | _ => none) ++
  (match o.guard with | some (j, _) => ((all[j]?).bind (·.dst)).toList | none => [])

/-- The slice that an 'append' makes longer. -/
def appArg (c : Call) : Option Operand := match c.callee with
  | .builtin .append => c.args[0]?
  | _ => none

def stores : Op → Bool
  | .store .. => true
  | .call c => (appArg c).isSome
  | _ => false

def loads : Op → Bool
  | .store .. | .load .. | .indexAddr .. => true
  | .call c => (appArg c).isSome
  | _ => false

def opOk : Op → Bool
  | .select .. => false
  | _ => true

/-- May two operations meet at an object? -/
def meetB (a b : Oper) : Bool := (stores a.op && loads b.op) || (loads a.op && stores b.op)

def addrOf : Op → Option Operand
  | .load _ a => some a
  | .store _ a _ => some a
  | .indexAddr _ a _ => some a
  | .call c => appArg c
  | _ => none

/-- Its address is made by none of them. -/
def steady (all : List Oper) (o : Oper) : Bool := match addrOf o.op with
  | some (.tmp n) => all.all fun p => !(p.dst == some n)
  | _ => false

/-- Two operations, the one ahead of the other in the text: may they come in either order? -/
def apartB (all : Array Oper) (a b : Oper) : Bool :=
  (match a.dst with | some d => !((names all b).contains d) && !(b.dst == some d) | none => true) &&
  (match b.dst with | some d => !((names all a).contains d) | none => true) &&
  (!(meetB a b) || (steady all.toList a && steady all.toList b))

def drawOkB (all : Array Oper) (bits : List Nat) : Bool :=
  (all.toList.zipIdx.all fun (b, j) => (all.toList.zipIdx.all fun (a, i) => !(Nat.blt i j) || (bits.getD j 0).testBit i || apartB all a b) &&
    b.after.all (fun e => !Region.binds .any e || Nat.blt e.on j) &&
    (match b.guard with | some (g, _) => (bits.getD j 0).testBit g | none => true))

def tipId : AV U → Option Nat
  | .tip id _ _ => some id
  | _ => none

def touchId : AV U → Option Nat
  | .ptr id _ => some id
  | .el id _ _ => some id
  | _ => none

def touched (o : Oper) (s : St U) : Option Nat :=
  match o.op with
  | .load _ a => touchId (s.op a)
  | .store _ a _ => touchId (s.op a)
  | .indexAddr _ a _ => touchId (s.op a)
  | .call c => match appArg c with
    | some a => tipId (s.op a)
    | none => none
  | _ => none

def ownerOk (ops : List Oper) (mask : Nat) (id : Nat) : Bool :=
  ops.zipIdx.all fun (o, i) => !(o.dst == some id) || mask.testBit i

/-- What an operation reaches was there ahead of the region, or was made by one that stands ahead of it in every order. -/
def ownCk (ops : List Oper) (bits : List Nat) (j : Nat) (o : Oper) (s : St U) : Bool :=
  match touched o s with
  | none => true
  | some id => ownerOk ops (bits.getD j 0) id

/-- Two that may come in either order reach two objects. -/
def twoCk (ops : List Oper) (bits : List Nat) (j : Nat) (o : Oper) (s : St U) : Bool :=
  ops.zipIdx.all fun (a, i) => !(Nat.blt i j) || (bits.getD j 0).testBit i || !(meetB a o) || (match touched a s, touched o s with | some x, some y => !(Nat.beq x y) | _, _ => true)

def drawCk (ops : List Oper) (bits : List Nat) (j : Nat) (o : Oper) (s : St U) : Bool := ownCk ops bits j o s && twoCk ops bits j o s

def evC (E : Env U) : Code → St U → (Out U → Option ρ) → Option ρ
  | .skip, s, K => K (.norm s)
  | .region _ ops draw, s, K => match draw with
    | false => regC E (fun _ _ _ => true) ops 0 ops.toList s fun s' => K (.norm s')
    | true => bif drawOkB ops (ahead ops.toList) then regC E (drawCk ops.toList (ahead ops.toList)) ops 0 ops.toList s fun s' => K (.norm s') else none
  | .seq a b, s, K => evC E a s fun
    | .norm s' => evC E b s' K
    | r => K r
  | .cond c a b, s, K => match s.op c with
    | .flat (.bool t) => cond t (evC E a s K) (evC E b s K)
    | _ => none
  | .block id c, s, K => evC E c s fun
    | .exit id' s' => bif Nat.beq id' id then K (.norm s') else K (.exit id' s')
    | r => K r
  | .loop c, s, K => match keyOf c with
    | none => none
    | some k => match E.ld k with
      | none => none
      | some d => match d.un s with
        | none => none
        | some x => (d.f x).bind fun y => d.finK y K
  | .exit id, s, K => K (.exit id s)
  | .scope _, _, _ => none
  | .label _, s, K => K (.norm s)
  | .ret, s, K => match resV E s with
    | some v => K (.ret v)
    | none => none
  | _, _, _ => none

def startT (args : List (AV U)) : Nat → List (Nat × AV U)
  | i => match args with
    | [] => []
    | v :: r => (i, v) :: startT r (i + 1)

def bodyOf (P : Program) (f : FuncId) : Code := match P.funcs[f]? with
  | some fn => fn.body.getD (.refuse "")
  | none => .refuse ""

def resOf (P : Program) (f : FuncId) : List ResultVar := match P.funcs[f]? with
  | some fn => fn.results.toList
  | none => []

/-- A function's run: its result, in the answer's own form. -/
def runF (E : Env U) (body : Code) (args : List (AV U)) (K : AV U → Option ρ) : Option ρ :=
  evC E body ⟨startT args 0, []⟩ fun
    | .ret v => K v
    | .norm s => match resV E s with
      | some v => K v
      | none => none
    | _ => none

end Go.Ev
