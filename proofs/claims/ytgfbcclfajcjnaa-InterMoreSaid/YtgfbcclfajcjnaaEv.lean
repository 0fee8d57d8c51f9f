import Derived.Control
import Derived.Calls
import Derived.LoopN
import Derived.Below
import Derived.KernelRfl
import Derived.Laws.Entries
import Derived.Laws.World
universe u
namespace Go.Ev
set_option linter.unusedVariables false
set_option linter.unusedSimpArgs false
structure Univ where
  C : Type
  El : C → Type
inductive AV (U : Univ) where
  | undef
  | flat (v : Value)
  | ptr (id off : Nat)
  | el (id idx off : Nat)
  | pe (id base sz n i off : Nat)
  | rp (cs : List (AV U)) (off : Nat)
  | tip (id : Nat) (c : U.C) (l : List (U.El c))
  | vs (id : Nat)
  | mp (id : Nat)
  | sm (A : Nat) (j : Option Nat)
  | row (c : U.C) (l : List (U.El c))
  | nrow (g : Bool) (c : U.C) (l : List (U.El c))
  | fm (ka va : Bool) (ck cv : U.C) (l : List (U.El ck × U.El cv))
  | agg (xs : List (AV U))
  | tup (xs : List (AV U))
  | fn (f : FuncId) (caps : List (AV U))
structure Codec (U : Univ) where
  size : U.C → Nat
  enc : (c : U.C) → U.El c → List (AV U)
  dec : (c : U.C) → List (AV U) → Option (U.El c)
  dflt : (c : U.C) → U.El c
  deq : DecidableEq U.C
  kinds : U.C → Option (List Nat)
  keq : (c : U.C) → U.El c → U.El c → Bool
  nst : (c ck cv : U.C) → Bool → Bool → Option (List (U.El ck × U.El cv) → U.El c) := fun _ _ _ _ _ => none
inductive Obj (U : Univ) where
  | dead
  | lit (cs : List (AV U))
  | arr (n : Nat) (c : U.C) (l : List (U.El c))
  | tip (sz : Nat)
  | vec (c : U.C) (l : List (U.El c))
  | map (w ka va : Bool) (ck cv : U.C) (l : List (U.El ck × U.El cv))
  | ar (ka va : Bool) (ck cv : U.C) (L : List (List (U.El ck × U.El cv)))
  | om (A : Nat) (ka : Bool) (ck : U.C) (l : List (U.El ck × Nat))
def packV {U : Univ} (g : Bool) (cs : List (AV U)) : AV U := match g with
  | true => .agg cs
  | false => match cs with
    | [v] => v
    | _ => .undef
variable {U : Univ}
def lk {α : Type u} : List (Nat × α) → Nat → Option α
  | [], _ => none
  | (k, v) :: r, n => bif Nat.beq k n then some v else lk r n
structure St (U : Univ) where
  t : List (Nat × AV U)
  o : List (Nat × Obj U)
def St.get (s : St U) (n : Nat) : AV U := (lk s.t n).getD .undef
def St.set (s : St U) (n : Nat) (v : AV U) : St U := { s with t := (n, v) :: s.t }
def St.put (s : St U) (d : Option Tmp) (v : AV U) : St U := match d with | some n => s.set n v | none => s
def St.setO (s : St U) (n : Nat) (v : Obj U) : St U := { s with o := (n, v) :: s.o }
def gb : Nat := 1000000000000000
def St.op (s : St U) : Operand → AV U
  | .tmp t => bif Nat.blt t gb then s.get t else .undef
  | .const v => .flat v
  | .func f => .fn f []
  | .global _ => .undef
inductive Out (U : Univ) where
  | norm (s : St U)
  | exit (id : Nat) (s : St U)
  | ret (s : St U)
def c0 : AV U → Bool
  | .undef | .flat _ | .row .. | .fm .. => true
  | _ => false
def cA : AV U → Bool
  | .agg xs => xs.all c0
  | v => c0 v
def cF : AV U → Bool
  | .rp cs _ => cs.all c0
  | v => c0 v
def c1 : AV U → Bool
  | .agg xs => xs.all c0
  | .fn _ xs => xs.all cF
  | .rp cs _ => cs.all c0
  | .tup xs => xs.all cA
  | v => c0 v
structure FDen (U : Univ) where
  X : Type
  Y : Type
  nt : Nat
  gh : List Nat
  un : St U → Option X
  f : X → Option Y
  fin : Y → St U
  cl : Bool
  clo : cl = true → ∀ y, c1 ((fin y).get 0) = true
structure LDen (U : Univ) where
  X : Type
  Y : Type
  un : St U → Option X
  f : X → Option Y
  fin : Y → Out U
  finK : {ρ : Type} → Y → (Out U → Option ρ) → Option ρ
  finK_eq : ∀ {ρ : Type} (y : Y) (K : Out U → Option ρ), finK y K = K (fin y)
structure JDen (U : Univ) where
  Y : Type
  re : Out U → Option Y
  fin : Y → Out U
  finK : {ρ : Type} → Y → (Out U → Option ρ) → Option ρ
  finK_eq : ∀ {ρ : Type} (y : Y) (K : Out U → Option ρ), finK y K = K (fin y)
inductive SDen (U : Univ) where
  | del (kt : TypeId) (nk nv : Nat)
  | eq (kt vt : TypeId) (nk nv : Nat)
  | keys (g : FuncId)
  | sort (g : FuncId) (cmp : List FuncId) (c : U.C) (ka : Bool) (b : Nat) (srt : List (U.El c) → List (U.El c))
structure Env (U : Univ) where
  P : Program
  D : Codec U
  fd : FuncId → Option (FDen U)
  sf : FuncId → Option (SDen U)
  ld : Nat → Option (LDen U)
  jd : Nat → Option (JDen U)
  mode : TypeId → Option (Nat × U.C)
  elc : TypeId → Option U.C
  mpc : TypeId → Option (U.C × U.C)
  dyn : TypeId → Bool
  vecs : Nat → Bool
  results : List ResultVar
  rts : List TypeId
  gh : List Nat
  own : Bool
  io : FuncId → Nat → Bool
  lds : Nat → List Nat
  fn : FuncId → Option (FDen U)
  lit : Nat → Option (List (Nat × List Nat)) := fun _ => none
  fz : TypeId → Option (U.C × U.C) := fun _ => none
  lz : Bool := false
  ars : TypeId → Option (Nat × U.C × U.C) := fun _ => none
  spl : TypeId → Bool := fun _ => false
  oms : TypeId → Option (Nat × U.C × TypeId) := fun _ => none
def isNilP : AV U → Bool
  | .flat (.pointer none) => true
  | _ => false
def Env.fa (E : Env U) (f : FuncId) (args : List (AV U)) : Option (FDen U) := bif args.any isNilP then E.fn f else E.fd f
def AV.drop : AV U → AV U
  | .tip _ c l => .row c l
  | .nrow _ c l => .row c l
  | v => v
def inb (i : Int) (n : Nat) : Bool := decide (0 ≤ i) && decide (i < n)
variable {ρ : Type}
def eqV : Nat → AV U → AV U → Option Bool
  | 0, .flat (.int k a), .flat (.int k' b) => bif k == k' then some (a == b) else none
  | 1, .flat (.bool a), .flat (.bool b) => some (a == b)
  | 2, .flat (.string a), .flat (.string b) => some (a.toList == b.toList)
  | _, _, _ => none
def eqF : List Nat → List (AV U) → List (AV U) → Option Bool
  | [], [], [] => some true
  | [k], [x], [y] => eqV k x y
  | k :: ks, x :: xs, y :: ys => match eqV k x y, eqF ks xs ys with
    | some a, some b => some (a && b)
    | _, _ => none
  | _, _, _ => none
def binI (op : BinOp) (k : IntKind) (a b : Int) (K : AV U → Option ρ) : Option ρ :=
  match op with
  | .add => K (.flat (.int k (k.wrap (a + b))))
  | .sub => K (.flat (.int k (k.wrap (a - b))))
  | .mul => K (.flat (.int k (k.wrap (a * b))))
  | .quo => cond (b == 0) none (K (.flat (.int k (k.wrap (a.tdiv b)))))
  | .rem => cond (b == 0) none (K (.flat (.int k (a.tmod b))))
  | .and => K (.flat (.int k (bits .and k a b)))
  | .or => K (.flat (.int k (bits .or k a b)))
  | .xor => K (.flat (.int k (bits .xor k a b)))
  | .andNot => K (.flat (.int k (bits .andNot k a b)))
  | .eql => K (.flat (.bool (a == b)))
  | .neq => K (.flat (.bool (a != b)))
  | .lss => K (.flat (.bool (decide (a < b))))
  | .leq => K (.flat (.bool (decide (a ≤ b))))
  | .gtr => K (.flat (.bool (decide (a > b))))
  | .geq => K (.flat (.bool (decide (a ≥ b))))
  | _ => none
def isAggB (P : Program) (t : TypeId) : Bool :=
  match P.underlying t with
  | some (.struct _) => true
  | some (.array _ _) => true
  | _ => false
def plainFs (P : Program) (g : TypeId → Option (List Nat)) : List Field → Nat → Option (List Nat)
  | [], _ => some []
  | f :: fs, off => match g f.type with
    | some ks => bif Nat.beq f.offset off && !(f.name == "_") && ((P.info? f.type).map (·.size)) == some ks.length then (plainFs P g fs (off + ks.length)).map (ks ++ ·) else none
    | none => none
def plainEq (P : Program) : Nat → TypeId → Option (List Nat)
  | 0, _ => none
  | d + 1, t => match P.underlying t with
    | some .bool => some [1]
    | some (.int _) => some [0]
    | some .string => some [2]
    | some (.struct fs) => bif P.stoodInHeld t then none else plainFs P (plainEq P d) fs.toList 0
    | some (.array len e) => match plainEq P d e with
      | some ks => bif ((P.info? e).map (·.size)) == some ks.length then some (List.replicate len ks).flatten else none
      | none => none
    | _ => none
def binC (P : Program) (t : TypeId) (op : BinOp) (x y : AV U) (K : AV U → Option ρ) : Option ρ :=
  match x, y with
  | .flat (.int k a), .flat (.int k' b) =>
    match op with
    | .shl => cond (decide (b < 0)) none (K (.flat (.int k (k.wrap (a * 2 ^ min b.toNat k.bits)))))
    | .shr => cond (decide (b < 0)) none (K (.flat (.int k (a.fdiv (2 ^ min b.toNat k.bits)))))
    | _ => bif k == k' then binI op k a b K else none
  | .flat (.bool a), .flat (.bool b) =>
    match op, P.underlying t with
    | .eql, some .bool => K (.flat (.bool (a == b)))
    | .neq, some .bool => K (.flat (.bool (!(a == b))))
    | _, _ => none
  | .nrow g _ _, .flat (.slice none 0 0) => match op, P.underlying t with
    | .eql, some (.slice _) => K (.flat (.bool (!g)))
    | .neq, some (.slice _) => K (.flat (.bool g))
    | _, _ => none
  | .flat (.pointer none), .flat (.pointer none) => match op, P.underlying t with
    | .eql, some (.pointer _) => K (.flat (.bool true))
    | .neq, some (.pointer _) => K (.flat (.bool false))
    | _, _ => none
  | .ptr _ _, .flat (.pointer none) => match op, P.underlying t with
    | .eql, some (.pointer _) => K (.flat (.bool false))
    | .neq, some (.pointer _) => K (.flat (.bool true))
    | _, _ => none
  | .agg xs, .agg ys =>
    match plainEq P 8 t with
    | none => none
    | some ks =>
      bif isAggB P t && !(P.eqGuardType P.depth t) then
        match op, eqF ks xs ys with
        | .eql, some b => K (.flat (.bool b))
        | .neq, some b => K (.flat (.bool (!b)))
        | _, _ => none
      else none
  | _, _ => none
def unC (op : UnOp) (x : AV U) : Option (AV U) :=
  match op, x with
  | .neg, .flat (.int k n) => some (.flat (.int k (k.wrap (0 - n))))
  | .xor, .flat (.int k n) => some (.flat (.int k (bits .xor k (if k.signed then -1 else k.max) n)))
  | .not, .flat (.bool b) => some (.flat (.bool !b))
  | _, _ => none
def AV.cells : AV U → List (AV U)
  | .agg xs => xs
  | v => [v]
def over (xs : List (AV U)) (i : Nat) (ys : List (AV U)) : List (AV U) := xs.take i ++ ys ++ xs.drop (i + ys.length)
def szOf (P : Program) (t : TypeId) : Option Nat := (P.info? t).map (·.size)
def cut (P : Program) (t : TypeId) (cs : List (AV U)) (off : Nat) : Option (AV U) :=
  match szOf P t, (P.underlying t).isSome with
  | none, _ => none
  | _, false => none
  | some n, true =>
    match isAggB P t with
    | true => bif Nat.ble (off + n) cs.length then some (.agg ((cs.drop off).take n)) else none
    | false => cs[off]?
def codesFs (g : TypeId → Option (List (Option U.C))) : List Field → Option (List (Option U.C))
  | [] => some []
  | f :: r => match g f.type, codesFs g r with
    | some a, some b => some (a ++ b)
    | _, _ => none
def codesOf (E : Env U) : Nat → TypeId → Option (List (Option U.C))
  | 0, _ => none
  | d + 1, t => match E.elc t with
    | some c => some [some c]
    | none => match E.P.underlying t with
      | some (.struct fs) => codesFs (codesOf E d) fs.toList
      | some (.array n e) => (codesOf E d e).map fun l => (List.replicate n l).flatten
      | some _ => some [none]
      | none => none
def nilC (v : Value) (c : Option U.C) : AV U := match v, c with
  | .slice none 0 0, some c => .row c []
  | v, _ => .flat v
def nilF (E : Env U) (t : TypeId) : Option (AV U) := match E.fz t, E.P.underlying t with
  | some (ck, cv), some (.map kt et) => some (.fm (isAggB E.P kt) (isAggB E.P et) ck cv [])
  | _, _ => none
def zeroCells (E : Env U) (t : TypeId) : Option (List (AV U)) :=
  match E.P.info? t with
  | some i => match i.zero with
    | some (.map none) => match nilF E t with
      | some v => some [v]
      | none => some [.flat (.map none)]
    | some v => match codesOf E 8 t with
      | some cs => bif Nat.beq cs.length v.cells.size then some (List.zipWith nilC v.cells.toList cs) else some (v.cells.toList.map .flat)
      | none => some (v.cells.toList.map .flat)
    | none => none
  | none => none
def moveC (E : Env U) (ob : Nat → Option (Obj U)) (t : TypeId) (d : Option Tmp) (v : AV U) (K : AV U → List (Nat × Obj U) → Option ρ) : Option ρ :=
  match v with
  | .flat (.slice none 0 0) => match E.elc t, d with
    | some c, some d => match ob d with
      | none => bif E.vecs d then K (.vs d) [(d, .vec c [])] else K (.tip d c []) [(d, .tip (E.D.size c))]
      | some _ => bif E.own then K v [] else K (.row c []) []
    | _, _ => K v []
  | v => K v []
def decs (D : Codec U) (c : U.C) : Nat → List (AV U) → Option (List (U.El c))
  | 0, cs => match cs with | [] => some [] | _ => none
  | n + 1, cs => match D.dec c (cs.take (D.size c)), decs D c n (cs.drop (D.size c)) with
    | some x, some r => some (x :: r)
    | _, _ => none
def encs (D : Codec U) (c : U.C) (l : List (U.El c)) : Nat → List (AV U)
  | 0 => []
  | n + 1 => encs D c l n ++ D.enc c (l.getD n (D.dflt c))
def newObj (E : Env U) (t : TypeId) (cs : List (AV U)) : Option (Obj U) :=
  match E.mode t with
  | none => some (.lit cs)
  | some (n, c) => match decs E.D c n cs with
    | some l => some (.arr n c l)
    | none => none
def okCell : AV U → Bool
  | .undef | .agg _ | .tup _ => false
  | .flat (.agg _) | .flat (.tuple _) => false
  | _ => true
def loadAt (E : Env U) (ob : Nat → Option (Obj U)) (t : TypeId) : AV U → Option (AV U)
  | .ptr id off => match ob id with
    | some (.lit cs) => cut E.P t cs off
    | some (.arr n c l) => match off with
      | 0 => cut E.P t (encs E.D c l n) 0
      | _ => none
    | _ => none
  | .el id i off => match ob id with
    | some (.arr m c l) => bif Nat.blt i m then cut E.P t (E.D.enc c (l.getD i (E.D.dflt c))) off else none
    | some (.vec c l) => bif Nat.blt i l.length then cut E.P t (E.D.enc c (l.getD i (E.D.dflt c))) off else none
    | _ => none
  | .rp cs off => cut E.P t cs off
  | _ => none
def storeAt (E : Env U) (ob : Nat → Option (Obj U)) (t : TypeId) (a v : AV U) : Option (Nat × Obj U) :=
  match szOf E.P t with
  | none => none
  | some n =>
    bif Nat.beq n v.cells.length && v.cells.all okCell then
      match a with
      | .ptr id off => match ob id with
        | some (.lit cs) => bif Nat.ble (off + n) cs.length then some (id, .lit (over cs off v.cells)) else none
        | some (.arr m c _) => match off with
          | 0 => match decs E.D c m v.cells with
            | some l => some (id, .arr m c l)
            | none => none
          | _ => none
        | _ => none
      | .el id i off => match ob id with
        | some (.arr m c l) => bif Nat.blt i m && Nat.ble (off + n) (E.D.size c) then
            match E.D.dec c (over (E.D.enc c (l.getD i (E.D.dflt c))) off v.cells) with
            | some x => some (id, .arr m c (l.set i x))
            | none => none
          else none
        | some (.vec c l) => bif Nat.blt i l.length && Nat.ble (off + n) (E.D.size c) then
            match E.D.dec c (over (E.D.enc c (l.getD i (E.D.dflt c))) off v.cells) with
            | some x => some (id, .vec c (l.set i x))
            | none => none
          else none
        | _ => none
      | _ => none
    else none
def AV.plainAt : AV U → AV U
  | .pe id b sz _ i off => .ptr id (b + i * sz + off)
  | v => v
def intsA (k : IntKind) : List (AV U) → Option (List Int)
  | [] => some []
  | .flat (.int k' x) :: r => bif k == k' then (intsA k r).map (x :: ·) else none
  | _ => none
def boolsA : List (AV U) → Option (List Bool)
  | [] => some []
  | .flat (.bool x) :: r => (boolsA r).map (x :: ·)
  | _ => none
def selC (i : Nat) : List (AV U) → Option (AV U)
  | .flat (.int k x) :: r => (intsA k r).map fun l => .flat (.int k (List.getD (x :: l) i 0))
  | .flat (.bool x) :: r => (boolsA r).map fun l => .flat (.bool (List.getD (x :: l) i false))
  | _ => none
def colA (cs : List (AV U)) (sz : Nat) : Nat → Nat → Option (List (AV U))
  | 0, _ => some []
  | n + 1, p => match cs[p]?, colA cs sz n (p + sz) with
    | some v, some r => some (v :: r)
    | _, _ => none
def selB (cs : List (AV U)) (sz n i : Nat) : Nat → Nat → Option (List (AV U))
  | 0, _ => some []
  | m + 1, p => match colA cs sz n p with
    | some l => match selC i l, selB cs sz n i m (p + 1) with
      | some v, some r => some (v :: r)
      | _, _ => none
    | none => none
def selAt (P : Program) (t : TypeId) (cs : List (AV U)) (b sz n i off : Nat) : Option (AV U) :=
  match szOf P t, (P.underlying t).isSome with
  | some (m + 1), true => match selB cs sz n i (m + 1) (b + off) with
    | none => none
    | some l => match isAggB P t with
      | true => some (.agg l)
      | false => match l with
        | [v] => some v
        | _ => none
  | _, _ => none
def updC (b : Bool) : AV U → AV U → Option (AV U)
  | .flat (.int k x), .flat (.int k' y) => bif k == k' then some (.flat (.int k (cond b x y))) else none
  | .flat (.bool x), .flat (.bool y) => some (.flat (.bool (cond b x y)))
  | _, _ => none
def updB (b : Bool) : List (AV U) → List (AV U) → Nat → Option (List (AV U))
  | [], cs, _ => some cs
  | v :: vs, cs, p => match cs[p]? with
    | some u => match updC b v u with
      | some w => updB b vs (cs.set p w) (p + 1)
      | none => none
    | none => none
def updAt (vs : List (AV U)) (sz i : Nat) : Nat → Nat → List (AV U) → Nat → Option (List (AV U))
  | 0, _, cs, _ => some cs
  | n + 1, j, cs, p => match updB (Nat.beq i j) vs cs p with
    | some cs' => updAt vs sz i n (j + 1) cs' (p + sz)
    | none => none
def elOk (ob : Nat → Option (Obj U)) : AV U → Bool
  | .el id i _ => match ob id with
    | some (.arr m _ _) => Nat.blt i m
    | some (.vec _ l) => Nat.blt i l.length
    | _ => true
  | .pe _ _ _ n i _ => Nat.blt i n
  | _ => true
def loadAt0 (E : Env U) (ob : Nat → Option (Obj U)) (t : TypeId) : AV U → Option (AV U)
  | .ptr id off => match ob id with
    | some (.lit cs) => cut E.P t cs off
    | some (.arr n c l) => match off with
      | 0 => cut E.P t (encs E.D c l n) 0
      | _ => none
    | _ => none
  | .el id i off => match ob id with
    | some (.arr _ c l) => cut E.P t (E.D.enc c (l.getD i (E.D.dflt c))) off
    | some (.vec c l) => cut E.P t (E.D.enc c (l.getD i (E.D.dflt c))) off
    | _ => none
  | .rp cs off => cut E.P t cs off
  | .pe id b sz n i off => match ob id with
    | some (.lit cs) => selAt E.P t cs b sz n i off
    | _ => none
  | _ => none
def storeAt0 (E : Env U) (ob : Nat → Option (Obj U)) (t : TypeId) (a v : AV U) : Option (Nat × Obj U) :=
  match szOf E.P t with
  | none => none
  | some n =>
    bif Nat.beq n v.cells.length && v.cells.all okCell then
      match a with
      | .ptr id off => match ob id with
        | some (.lit cs) => bif Nat.ble (off + n) cs.length then some (id, .lit (over cs off v.cells)) else none
        | some (.arr m c _) => match off with
          | 0 => match decs E.D c m v.cells with
            | some l => some (id, .arr m c l)
            | none => none
          | _ => none
        | _ => none
      | .el id i off => match ob id with
        | some (.arr m c l) => bif Nat.ble (off + n) (E.D.size c) then
            match E.D.dec c (over (E.D.enc c (l.getD i (E.D.dflt c))) off v.cells) with
            | some x => some (id, .arr m c (l.set i x))
            | none => none
          else none
        | some (.vec c l) => bif Nat.ble (off + n) (E.D.size c) then
            match E.D.dec c (over (E.D.enc c (l.getD i (E.D.dflt c))) off v.cells) with
            | some x => some (id, .vec c (l.set i x))
            | none => none
          else none
        | _ => none
      | .pe id b sz m i off => match ob id with
        | some (.lit cs) => match v.cells with
          | [] => none
          | u :: us => match updAt (u :: us) sz i m 0 cs (b + off) with
            | some cs' => some (id, .lit cs')
            | none => none
        | _ => none
      | _ => none
    else none
theorem intsA_get {k : IntKind} : ∀ {vs : List (AV U)} {l : List Int}, intsA k vs = some l → ∀ i : Nat, vs[i]? = (l[i]?).map fun x => (AV.flat (.int k x) : AV U)
  | [], l, h, i => by cases h; simp
  | v :: r, l, h, i => by
    unfold intsA at h
    split at h
    · rename_i e; cases e
    · rename_i k' x r' e
      cases e
      cases hk : k == k' with
      | false => rw [hk] at h; cases h
      | true =>
        have : k = k' := by simpa using hk
        subst this
        rw [hk, cond_true, Option.map_eq_some_iff] at h
        obtain ⟨l', hl, rfl⟩ := h
        cases i with
        | zero => simp
        | succ i => simpa using intsA_get hl i
    · cases h
theorem boolsA_get : ∀ {vs : List (AV U)} {l : List Bool}, boolsA vs = some l → ∀ i : Nat, vs[i]? = (l[i]?).map fun x => (AV.flat (.bool x) : AV U)
  | [], l, h, i => by cases h; simp
  | v :: r, l, h, i => by
    unfold boolsA at h
    split at h
    · rename_i e; cases e
    · rename_i x r' e
      cases e
      rw [Option.map_eq_some_iff] at h
      obtain ⟨l', hl, rfl⟩ := h
      cases i with
      | zero => simp
      | succ i => simpa using boolsA_get hl i
    · cases h
theorem selC_get {i : Nat} {vs : List (AV U)} {v u : AV U} (h : selC i vs = some v) (hu : vs[i]? = some u) : v = u := by
  unfold selC at h
  split at h
  · rename_i k x r
    rw [Option.map_eq_some_iff] at h
    obtain ⟨l, hl, rfl⟩ := h
    cases i with
    | zero => simp at hu; rw [← hu]; rfl
    | succ i =>
      rw [List.getElem?_cons_succ, intsA_get hl i] at hu
      rw [Option.map_eq_some_iff] at hu
      obtain ⟨z, hz, rfl⟩ := hu
      simp [List.getD_eq_getElem?_getD, hz]
  · rename_i x r
    rw [Option.map_eq_some_iff] at h
    obtain ⟨l, hl, rfl⟩ := h
    cases i with
    | zero => simp at hu; rw [← hu]; rfl
    | succ i =>
      rw [List.getElem?_cons_succ, boolsA_get hl i] at hu
      rw [Option.map_eq_some_iff] at hu
      obtain ⟨z, hz, rfl⟩ := hu
      simp [List.getD_eq_getElem?_getD, hz]
  · cases h
theorem colA_get {cs : List (AV U)} {sz : Nat} : ∀ {n p : Nat} {l : List (AV U)}, colA cs sz n p = some l → ∀ i, i < n → ∃ v, l[i]? = some v ∧ cs[p + i * sz]? = some v
  | 0, p, l, h, i, hi => by omega
  | n + 1, p, l, h, i, hi => by
    unfold colA at h
    split at h
    · rename_i v r hv hr
      cases h
      cases i with
      | zero => exact ⟨v, rfl, by simpa using hv⟩
      | succ i =>
        obtain ⟨u, h1, h2⟩ := colA_get hr i (by omega)
        exact ⟨u, by simpa using h1, by rw [← h2]; congr 1; rw [Nat.succ_mul]; omega⟩
    · cases h
theorem selB_get {cs : List (AV U)} {sz n i : Nat} (hi : i < n) : ∀ {m p : Nat} {l : List (AV U)}, selB cs sz n i m p = some l → l = (cs.drop (p + i * sz)).take m ∧ (0 < m → p + i * sz + m ≤ cs.length)
  | 0, p, l, h => by cases h; simp
  | m + 1, p, l, h => by
    unfold selB at h
    split at h
    · rename_i q hq
      split at h
      · rename_i v r hv hr
        cases h
        obtain ⟨u, h1, h2⟩ := colA_get hq i hi
        obtain ⟨h3, h4⟩ := selB_get hi hr
        have := selC_get hv h1
        subst this
        have hlt := (List.getElem?_eq_some_iff.1 h2).1
        have e : cs[p + i * sz] = v := (List.getElem?_eq_some_iff.1 h2).2
        refine ⟨?_, fun _ => ?_⟩
        · rw [List.drop_eq_getElem_cons hlt, List.take_succ_cons, e, h3, show p + 1 + i * sz = p + i * sz + 1 by omega]
        · cases m with
          | zero => omega
          | succ m => have := h4 (by omega); omega
      · cases h
    · cases h
theorem selAt_cut {P : Program} {t : TypeId} {cs : List (AV U)} {b sz n i off : Nat} {v : AV U} (hi : i < n) (h : selAt P t cs b sz n i off = some v) : cut P t cs (b + i * sz + off) = some v := by
  unfold selAt at h
  unfold cut
  split at h
  · rename_i m hm hu
    simp only [hm, hu]
    split at h
    · cases h
    · rename_i l hl
      obtain ⟨h1, h2⟩ := selB_get hi hl
      rw [show b + off + i * sz = b + i * sz + off by omega] at h1 h2
      split at h
      · rename_i ha
        try simp only [ha]
        cases h
        rw [show Nat.ble (b + i * sz + off + (m + 1)) cs.length = true from Nat.ble_eq_true_of_le (h2 (by omega))]
        simp only [cond_true, h1]
      · rename_i ha
        try simp only [ha]
        split at h
        · rename_i u
          cases h
          have := congrArg (fun l => l[0]?) h1
          simp only [List.getElem?_cons_zero, List.getElem?_take, List.getElem?_drop] at this
          split at this
          · simpa using this.symm
          · cases this
        · cases h
  · cases h
theorem updC_get {b : Bool} {v u w : AV U} (h : updC b v u = some w) : w = cond b v u := by
  unfold updC at h
  split at h
  · rename_i k x k' y
    cases hk : k == k' with
    | false => rw [hk] at h; cases h
    | true =>
      have : k = k' := by simpa using hk
      subst this
      rw [hk] at h
      cases h
      cases b <;> rfl
  · cases h
    cases b <;> rfl
  · cases h
theorem updB_false : ∀ {vs cs cs' : List (AV U)} {p : Nat}, updB false vs cs p = some cs' → cs' = cs
  | [], cs, cs', p, h => by cases h; rfl
  | v :: vs, cs, cs', p, h => by
    unfold updB at h
    split at h
    · rename_i u hu
      split at h
      · rename_i w hw
        have := updC_get hw
        simp only [cond_false] at this
        subst this
        have e : cs.set p w = cs := by
          apply List.ext_getElem?
          intro k
          rw [List.getElem?_set]
          split
          · rename_i e; subst e
            split
            · exact hu.symm
            · rename_i h2; exact (h2 (List.getElem?_eq_some_iff.1 hu).1).elim
          · rfl
        rw [e] at h
        exact updB_false h
      · cases h
    · cases h
theorem updB_true : ∀ {vs cs cs' : List (AV U)} {p : Nat}, updB true vs cs p = some cs' → cs' = over cs p vs ∧ (0 < vs.length → p + vs.length ≤ cs.length)
  | [], cs, cs', p, h => by cases h; simp [over]
  | v :: vs, cs, cs', p, h => by
    unfold updB at h
    split at h
    · rename_i u hu
      have hlt := (List.getElem?_eq_some_iff.1 hu).1
      split at h
      · rename_i w hw
        have := updC_get hw
        simp only [cond_true] at this
        subst this
        obtain ⟨h1, h2⟩ := updB_true h
        simp only [List.length_set] at h2
        refine ⟨?_, fun _ => ?_⟩
        · rw [h1]
          unfold over
          apply List.ext_getElem?
          intro k
          have l1 : ((cs.set p w).take (p + 1)).length = p + 1 := by simp; omega
          have l2 : (cs.take p).length = p := by simp; omega
          simp only [List.append_assoc, List.getElem?_append, l1, l2]
          by_cases hk : k < p
          · rw [if_pos (by omega), if_pos hk, List.getElem?_take_of_lt (by omega), List.getElem?_take_of_lt hk, List.getElem?_set_ne (by omega)]
          · by_cases hk2 : k = p
            · subst hk2
              rw [if_pos (by omega), if_neg hk, if_pos (by simp), List.getElem?_take_of_lt (by omega), List.getElem?_set_self hlt]
              simp
            · rw [if_neg (by omega), if_neg hk]
              have : k - p = k - (p + 1) + 1 := by omega
              rw [this, List.getElem?_cons_succ]
              simp only [List.length_cons]
              by_cases hk3 : k - (p + 1) < vs.length
              · rw [if_pos hk3, if_pos (by omega)]
              · rw [if_neg hk3, if_neg (by omega), List.getElem?_drop, List.getElem?_drop, List.getElem?_set_ne (by omega)]
                congr 1; omega
        · cases vs with
          | nil => simp; omega
          | cons _ _ => have := h2 (by simp); simp only [List.length_cons] at this ⊢; omega
      · cases h
    · cases h
theorem updAt_lt {vs : List (AV U)} {sz i : Nat} : ∀ {n j p : Nat} {cs cs' : List (AV U)}, updAt vs sz i n j cs p = some cs' → i < j → cs' = cs
  | 0, j, p, cs, cs', h, _ => by cases h; rfl
  | n + 1, j, p, cs, cs', h, hj => by
    unfold updAt at h
    split at h
    · rename_i c1 h1
      have hb : Nat.beq i j = false := by
        cases hh : Nat.beq i j with
        | false => rfl
        | true => have := Nat.eq_of_beq_eq_true hh; omega
      rw [hb] at h1
      have := updB_false h1
      subst this
      exact updAt_lt h (by omega)
    · cases h
theorem updAt_get {vs : List (AV U)} {sz i : Nat} : ∀ {n j p : Nat} {cs cs' : List (AV U)}, updAt vs sz i n j cs p = some cs' → j ≤ i → i < j + n →
    cs' = over cs (p + (i - j) * sz) vs ∧ (0 < vs.length → p + (i - j) * sz + vs.length ≤ cs.length)
  | 0, j, p, cs, cs', h, h1, h2 => by omega
  | n + 1, j, p, cs, cs', h, h1, h2 => by
    unfold updAt at h
    split at h
    · rename_i c1 hc
      by_cases e : i = j
      · subst e
        rw [Nat.beq_refl] at hc
        obtain ⟨q1, q2⟩ := updB_true hc
        rw [updAt_lt h (by omega), Nat.sub_self, Nat.zero_mul, Nat.add_zero]
        exact ⟨q1, q2⟩
      · have hb : Nat.beq i j = false := by
          cases hh : Nat.beq i j with
          | false => rfl
          | true => exact (e (Nat.eq_of_beq_eq_true hh)).elim
        rw [hb] at hc
        have := updB_false hc
        subst this
        obtain ⟨q1, q2⟩ := updAt_get h (by omega) (by omega)
        have : p + sz + (i - (j + 1)) * sz = p + (i - j) * sz := by
          rw [show i - j = (i - (j + 1)) + 1 by omega, Nat.succ_mul]; omega
        rw [this] at q1 q2
        exact ⟨q1, q2⟩
    · cases h
theorem cond_none0 {ρ : Type} {b : Bool} {x : Option ρ} {r : ρ} (h : cond b x none = some r) : b = true ∧ x = some r := by
  cases b
  · cases h
  · exact ⟨rfl, h⟩
theorem loadAt_of {E : Env U} {ob : Nat → Option (Obj U)} {t : TypeId} {a v : AV U} (h : elOk ob a = true) (hv : loadAt0 E ob t a = some v) : loadAt E ob t a.plainAt = some v := by
  cases a with
  | el id i off =>
    simp only [elOk, loadAt0, loadAt, AV.plainAt] at *
    cases hb : ob id with
    | none => simp only [hb] at hv; cases hv
    | some b => cases b with
      | arr m c l => simp only [hb] at h hv ⊢; rw [h]; exact hv
      | vec c l => simp only [hb] at h hv ⊢; rw [h]; exact hv
      | _ => simp only [hb] at hv; cases hv
  | pe id b sz n i off =>
    simp only [elOk, loadAt0, loadAt, AV.plainAt] at *
    cases hb : ob id with
    | none => simp only [hb] at hv; cases hv
    | some o => cases o with
      | lit cs => simp only [hb] at hv ⊢; exact selAt_cut (Nat.lt_of_lt_of_le (Nat.lt_succ_self _) (Nat.le_of_ble_eq_true h)) hv
      | _ => simp only [hb] at hv; cases hv
  | _ => exact hv
theorem storeAt_of {E : Env U} {ob : Nat → Option (Obj U)} {t : TypeId} {a v : AV U} {r : Nat × Obj U} (h : elOk ob a = true) (hv : storeAt0 E ob t a v = some r) : storeAt E ob t a.plainAt v = some r := by
  cases a with
  | el id i off =>
    simp only [elOk, storeAt0, storeAt, AV.plainAt] at *
    cases hn : szOf E.P t with
    | none => simp only [hn] at hv; cases hv
    | some n =>
      simp only [hn] at hv ⊢
      cases hb : ob id with
      | none => simp only [hb] at hv ⊢; exact hv
      | some b => cases b with
        | arr m c l => simp only [hb] at h hv ⊢; rw [h]; exact hv
        | vec c l => simp only [hb] at h hv ⊢; rw [h]; exact hv
        | _ => simp only [hb] at hv ⊢; exact hv
  | pe id b sz m i off =>
    simp only [elOk, storeAt0, storeAt, AV.plainAt] at *
    cases hn : szOf E.P t with
    | none => simp only [hn] at hv; cases hv
    | some n =>
      simp only [hn] at hv ⊢
      cases hb : ob id with
      | none => simp only [hb] at hv ⊢; exact hv
      | some o => cases o with
        | lit cs =>
          simp only [hb] at hv ⊢
          obtain ⟨hc, hv⟩ := cond_none0 hv
          rw [hc, cond_true]
          simp only [Bool.and_eq_true] at hc
          have hl := Nat.eq_of_beq_eq_true hc.1
          cases hvc : v.cells with
          | nil => simp only [hvc] at hv; cases hv
          | cons u us =>
            simp only [hvc] at hv
            cases hu : updAt (u :: us) sz i m 0 cs (b + off) with
            | none => simp only [hu] at hv; cases hv
            | some cs' =>
              simp only [hu] at hv
              cases hv
              have hi : i < m := Nat.lt_of_lt_of_le (Nat.lt_succ_self _) (Nat.le_of_ble_eq_true h)
              obtain ⟨q1, q2⟩ := updAt_get hu (Nat.zero_le _) (by omega)
              rw [Nat.sub_zero, show b + off + i * sz = b + i * sz + off by omega] at q1 q2
              have := q2 (by simp)
              rw [hl, hvc, show Nat.ble (b + i * sz + off + (u :: us).length) cs.length = true from Nat.ble_eq_true_of_le this, cond_true, q1]
        | _ => simp only [hb] at hv; cases hv2 : (Nat.beq n v.cells.length && v.cells.all okCell) <;> (rw [hv2] at hv; cases hv)
  | _ => exact hv
def fieldOff (P : Program) (t : TypeId) (f : Nat) : Option Field :=
  match P.underlying t with
  | some (.struct fs) => match fs[f]? with
    | some fl => match szOf P fl.type with
      | some (_ + 1) => some fl
      | _ => none
    | none => none
  | _ => none
def addOff (n : Nat) : AV U → Option (AV U)
  | .ptr id off => some (.ptr id (off + n))
  | .el id i off => some (.el id i (off + n))
  | .rp cs off => some (.rp cs (off + n))
  | .pe id b sz m i off => some (.pe id b sz m i (off + n))
  | _ => none
def fillA (place : Nat → Option (Nat × Nat)) (cs : List (AV U)) : List (Nat × AV U) → Option (List (AV U))
  | [] => some cs
  | (i, v) :: r =>
    match place i with
    | none => none
    | some (off, size) => bif Nat.beq v.cells.length size && Nat.ble (off + size) cs.length then fillA place (over cs off v.cells) r else none
def nilCA (v : AV U) (c : Option U.C) : AV U := match v, c with
  | .flat (.slice none 0 0), some c => .row c []
  | v, _ => v
def sleek : AV U → Bool
  | .tip .. => false
  | .flat (.slice none 0 0) => false
  | _ => true
def tidy (E : Env U) (t : TypeId) (v : AV U) : AV U := match v with
  | .agg xs => bif xs.all sleek then .agg xs else match codesOf E 8 t with
    | some cs => bif Nat.beq cs.length xs.length then .agg (List.zipWith nilCA (xs.map AV.drop) cs) else .agg (xs.map AV.drop)
    | none => .agg (xs.map AV.drop)
  | v => v
def rawCells (E : Env U) (t : TypeId) : Option (List (AV U)) := match E.mode t with
  | some _ => zeroCells E t
  | none => match E.P.info? t with
    | some i => match i.zero with
      | some v => some (v.cells.toList.map .flat)
      | none => none
    | none => none
def nilA (E : Env U) (t : TypeId) (v : AV U) : AV U := match v with
  | .flat (.slice none 0 0) => match E.elc t with
    | some c => .row c []
    | none => v
  | .flat (.map none) => match nilF E t with
    | some u => u
    | none => v
  | .agg xs => tidy E t (.agg xs)
  | v => v
def placesA (P : Program) (fs : List Field) : Option (List (Nat × Nat)) := fs.mapM fun f => (szOf P f.type).map fun n => (f.offset, n)
def buildA (E : Env U) (t : TypeId) (parts : List (Nat × AV U)) : Option (AV U) :=
  match rawCells E t with
  | none => none
  | some z =>
    bif parts.all fun p => p.2.cells.all okCell then
      match E.P.underlying t with
      | some (.struct fs) => match placesA E.P fs.toList with
        | some ps => (fillA (fun i => ps[i]?) z parts).map .agg
        | none => none
      | some (.array _ e) => match szOf E.P e with
        | some s => (fillA (fun i => some (i * s, s)) z parts).map .agg
        | none => none
      | _ => none
    else none
def zerosA (z : List (AV U)) (m : Nat) : List (AV U) := (List.range m).map fun k => (z[k % z.length]?).getD .undef
def elemOf (E : Env U) (t : TypeId) : Option (TypeId × U.C × Nat × Nat) :=
  match E.P.underlying t, E.elc t with
  | some (.slice e), some c => match E.P.info? e with
    | some i => match i.zero with
      | some v => bif Nat.beq i.size (E.D.size c) && Nat.blt 0 i.size && Nat.blt 0 i.bytes && Nat.beq v.cells.size i.size then some (e, c, i.size, i.bytes) else none
      | none => none
    | none => none
  | _, _ => none
def nilE (E : Env U) (t : TypeId) (v : AV U) : AV U := match elemOf E t with
  | some (e, _) => nilA E e v
  | none => v
def buildSliceA (E : Env U) (t : TypeId) (n : Nat) (parts : List (Nat × AV U)) : Option ((c : U.C) × List (U.El c)) :=
  match elemOf E t with
  | none => none
  | some (e, c, sz, _) =>
    match zeroCells E e with
    | none => none
    | some z =>
      bif (parts.all fun p => p.2.cells.all okCell) && Nat.ble (n * sz) 16777216 then
        match fillA (fun i => some (i * sz, sz)) (zerosA z (n * sz)) parts with
        | some cs => match decs E.D c n cs with
          | some l => some ⟨c, l⟩
          | none => none
        | none => none
      else none
def makeSliceC (E : Env U) (ob : Nat → Option (Obj U)) (t : TypeId) (d : Option Tmp) (x y : AV U) (K : AV U → List (Nat × Obj U) → Option ρ) : Option ρ :=
  match elemOf E t, d, x, y with
  | some (e, c, sz, by_), some d, .flat (.int .i64 n), .flat (.int .i64 m) =>
    match zeroCells E e with
    | none => none
    | some z => match decs E.D c 1 z with
      | some [q] => match ob d with
        | none => cond (decide (0 ≤ n) && decide (n = m) && decide (n * by_ ≤ 140737488355328)) (bif E.vecs d then K (.vs d) [(d, .vec c (List.replicate n.toNat q))] else K (.tip d c (List.replicate n.toNat q)) [(d, .tip sz)]) none
        | some _ => none
      | _ => none
  | _, _, _, _ => none
def castL (D : Codec U) (c c' : U.C) (l : List (U.El c')) : Option (List (U.El c)) :=
  match D.deq c' c with
  | isTrue h => some (h ▸ l)
  | isFalse _ => none
def okLen (n bytes : Nat) : Bool := decide (n * bytes ≤ 140737488355328)
def inS (lo hi : Int) (n : Nat) : Bool := decide (0 ≤ lo) && decide (lo ≤ hi) && decide (hi ≤ n)
def appendC (E : Env U) (ob : Nat → Option (Obj U)) (ts : Array TypeId) (args : List (AV U)) (dst : Option Tmp) (K : AV U → List (Nat × Obj U) → Option ρ) : Option ρ :=
  match ts[0]?, ts[1]?, args, dst with
  | some t, some t', [x, y], some d =>
    match elemOf E t, E.P.underlying t' with
    | some (_, c, sz, by_), some (.slice _) =>
      match y.drop with
      | .row c2 l2 => match castL E.D c c2 l2 with
        | none => none
        | some l2 => match ob d with
          | some _ => none
          | none => match x with
            | .tip id c1 l1 => match castL E.D c c1 l1 with
              | none => none
              | some l1 => match ob id with
                | some (.tip sz') => bif Nat.beq sz' sz then cond (okLen (l1.length + l2.length) by_) (K (.tip d c (l1 ++ l2)) [(id, .dead), (d, .tip sz)]) none else none
                | _ => none
            | .vs id => match ob id with
              | some (.vec c1 l1) => match castL E.D c c1 l1 with
                | none => none
                | some l1 => cond (okLen (l1.length + l2.length) by_) (K (.vs d) [(id, .dead), (d, .vec c (l1 ++ l2))]) none
              | _ => none
            | .flat (.slice none 0 0) => cond (okLen l2.length by_) (K (.tip d c l2) [(d, .tip sz)]) none
            | _ => none
      | _ => none
    | _, _ => none
  | _, _, _, _ => none
def sliceC (E : Env U) (t : TypeId) (x : AV U) (lo hi : Option (AV U)) (mx : Option Operand) (K : AV U → Option ρ) : Option ρ :=
  match elemOf E t, mx with
  | some (_, _, sz, _), none =>
    match x with
    | .row c l => bif Nat.beq sz (E.D.size c) then
        match lo, hi with
        | none, none => K (.row c l)
        | some (.flat (.int _ i)), none => cond (inS i l.length l.length) (K (.row c (l.drop i.toNat))) none
        | none, some (.flat (.int _ j)) => cond (inS 0 j l.length) (K (.row c (l.take j.toNat))) none
        | some (.flat (.int _ i)), some (.flat (.int _ j)) => cond (inS i j l.length) (K (.row c ((l.take j.toNat).drop i.toNat))) none
        | _, _ => none
      else none
    | _ => none
  | _, _ => none
def splitK (n : Int) (f : Nat → Option ρ) : Nat → Nat → Option ρ
  | 0, _ => none
  | m + 1, j => cond (n == (j : Int)) (f j) (splitK n f m (j + 1))
theorem splitK_some {n : Int} {f : Nat → Option ρ} {r : ρ} : ∀ {m j : Nat}, splitK n f m j = some r → ∃ k, j ≤ k ∧ k < j + m ∧ n = (k : Int) ∧ f k = some r
  | 0, j, h => by cases h
  | m + 1, j, h => by
    unfold splitK at h
    cases hb : n == (j : Int) with
    | true =>
      rw [hb] at h
      exact ⟨j, Nat.le_refl _, by omega, by simpa using hb, h⟩
    | false =>
      rw [hb] at h
      obtain ⟨k, h1, h2, h3, h4⟩ := splitK_some (m := m) (j := j + 1) h
      exact ⟨k, by omega, by omega, h3, h4⟩
theorem splitK_at {f : Nat → Option ρ} {k : Nat} : ∀ {m j : Nat}, j ≤ k → k < j + m → splitK (k : Int) f m j = f k
  | 0, j, h1, h2 => by omega
  | m + 1, j, h1, h2 => by
    unfold splitK
    by_cases e : k = j
    · subst e; simp
    · rw [show ((k : Int) == (j : Int)) = false by simp; omega]
      exact splitK_at (by omega) (by omega)
def indexAddrC (E : Env U) (ob : Nat → Option (Obj U)) (t : TypeId) (x i : AV U) (K : AV U → Option ρ) : Option ρ :=
  match i with
  | .flat (.int _ n) =>
    match E.P.underlying t with
    | some (.array len e) =>
      match szOf E.P e with
      | none => none
      | some sz =>
        match x with
        | .ptr id off => match ob id with
          | some (.arr m c _) => bif Nat.beq off 0 && Nat.beq sz (E.D.size c) && Nat.beq len m then cond (inb n len) (K (.el id n.toNat 0)) none else none
          | some (.lit _) => match E.spl t with
            | true => cond (inb n len) (splitK n (fun j => K (.ptr id (off + j * sz))) len 0) none
            | false => cond (inb n len) (K (bif E.dyn t then .pe id off sz len n.toNat 0 else .ptr id (off + n.toNat * sz))) none
          | _ => none
        | .rp cs off => cond (inb n len) (K (.rp cs (off + n.toNat * sz))) none
        | .el id j off => cond (inb n len) (K (.el id j (off + n.toNat * sz))) none
        | .pe id b z m i off => bif Nat.beq off 0 && Nat.beq z (len * sz) then cond (inb n len) (K (.pe id b sz (m * len) (i * len + n.toNat) 0)) none else none
        | _ => none
    | some (.slice e) =>
      match x with
      | .row c l => bif szOf E.P e == some (E.D.size c) then cond (inb n l.length) (K (.rp (E.D.enc c (l.getD n.toNat (E.D.dflt c))) 0)) none else none
      | .vs id => match ob id with
        | some (.vec c l) => bif szOf E.P e == some (E.D.size c) then cond (inb n l.length) (K (.el id n.toNat 0)) none else none
        | _ => none
      | _ => none
    | _ => none
  | _ => none
def pickA (E : Env U) (t e : TypeId) (len sz : Nat) (cs : List (AV U)) (n : Nat) : Option (AV U) :=
  match E.mode t with
  | none => cut E.P e cs (n * sz)
  | some (m, c) => match decs E.D c m cs with
    | some l => bif Nat.beq m len && Nat.beq sz (E.D.size c) then cut E.P e (E.D.enc c (l.getD n (E.D.dflt c))) 0 else none
    | none => none
def indexC (E : Env U) (t : TypeId) (x i : AV U) (K : AV U → Option ρ) : Option ρ :=
  match i, x with
  | .flat (.int _ n), .agg cs =>
    match E.P.underlying t with
    | some (.array len e) =>
      match szOf E.P e with
      | none => none
      | some sz => cond (inb n len) (match pickA E t e len sz cs n.toNat with | some v => K v | none => none) none
    | _ => none
  | _, _ => none
def best (op : Builtin) (k : IntKind) : Int → List (AV U) → Option (AV U)
  | x, [] => some (.flat (.int k x))
  | x, .flat (.int _ y) :: r => match op with
    | .max => best op k (if y > x then y else x) r
    | .min => best op k (if y < x then y else x) r
    | _ => none
  | _, _ => none
def builtinA (E : Env U) (b : Builtin) (ts : Array TypeId) (args : List (AV U)) : Option (AV U) :=
  match b with
  | .len => match ts[0]? with
    | some t => match E.P.underlying t, args with
      | some (.slice _), [.row _ l] => some (.flat (.int .i64 (l.length : Int)))
      | some (.array n _), [_] => some (.flat (.int .i64 (n : Int)))
      | _, _ => none
    | none => none
  | .max | .min => match args with
    | .flat (.int k x) :: r => best b k x r
    | _ => none
  | _ => none
def lenC (E : Env U) (ob : Nat → Option (Obj U)) (ts : Array TypeId) (args : List (AV U)) (K : AV U → Option ρ) : Option ρ :=
  match args with
  | [.vs id] => match ts[0]? with
    | some t => match E.P.underlying t, ob id with
      | some (.slice _), some (.vec _ l) => K (.flat (.int .i64 (l.length : Int)))
      | _, _ => none
    | none => none
  | [.mp id] => match ts[0]? with
    | some t => match E.P.underlying t, ob id with
      | some (.map _ _), some (.map _ _ _ _ _ l) => K (.flat (.int .i64 (l.length : Int)))
      | _, _ => none
    | none => none
  | [.fm _ _ _ _ l] => match ts[0]? with
    | some t => match E.P.underlying t with
      | some (.map _ _) => K (.flat (.int .i64 (l.length : Int)))
      | _ => none
    | none => none
  | _ => match builtinA E .len ts (args.map fun v => nilA E (ts.getD 0 0) v.drop) with
    | some v => K v
    | none => none
def kont {α : Type u} (x : Option α) (K : α → Option ρ) : Option ρ := match x with | some v => K v | none => none
def startT (args : List (AV U)) : Nat → List (Nat × AV U)
  | i => match args with
    | [] => []
    | v :: r => (i, v) :: startT r (i + 1)
abbrev Eff (U : Univ) := List (Nat × Obj U)
def okCells (x : AV U) : Option (List (AV U)) := bif x.cells.all okCell then some x.cells else none
def argsFrom (E : Env U) (ev : Operand → AV U) (ts : Array TypeId) : List Operand → Nat → List (AV U)
  | [], _ => []
  | x :: r, i => nilA E (ts.getD i 0) (ev x).drop :: argsFrom E ev ts r (i + 1)
def argsA (E : Env U) (c : Call) (ev : Operand → AV U) : List (AV U) := argsFrom E ev c.argTypes c.args.toList 0
theorem argsFrom_len (E : Env U) (ev : Operand → AV U) (ts : Array TypeId) : ∀ (l : List Operand) (i : Nat), (argsFrom E ev ts l i).length = l.length
  | [], _ => rfl
  | _ :: r, i => by simp [argsFrom, argsFrom_len E ev ts r (i + 1)]
theorem argsFrom_get (E : Env U) (ev : Operand → AV U) (ts : Array TypeId) : ∀ (l : List Operand) (i j : Nat), (argsFrom E ev ts l i)[j]? = (l[j]?).map fun x => nilA E (ts.getD (i + j) 0) (ev x).drop
  | [], _, j => by simp [argsFrom]
  | x :: r, i, 0 => by simp [argsFrom]
  | x :: r, i, j + 1 => by
    simp only [argsFrom, List.getElem?_cons_succ]
    rw [argsFrom_get E ev ts r (i + 1) j, show i + 1 + j = i + (j + 1) by omega]
theorem argsFrom_congr (E : Env U) {ev ev' : Operand → AV U} (ts : Array TypeId) : ∀ (l : List Operand) (i : Nat), (∀ x ∈ l, ev x = ev' x) → argsFrom E ev ts l i = argsFrom E ev' ts l i
  | [], _, _ => rfl
  | x :: r, i, h => by
    simp only [argsFrom]
    rw [h x (by simp), argsFrom_congr E ts r (i + 1) (fun y hy => h y (by simp [hy]))]
def mget {α β : Type} (eq : α → Bool) : List (α × β) → Option β
  | [] => none
  | p :: r => cond (eq p.1) (some p.2) (mget eq r)
def mput {α β : Type} (eq : α → Bool) (k : α) (v : β) : List (α × β) → List (α × β)
  | [] => [(k, v)]
  | p :: r => cond (eq p.1) ((p.1, v) :: r) (p :: mput eq k v r)
def leafB (P : Program) (t : TypeId) : Bool := match P.underlying t with
  | some (.int _) => true
  | _ => false
def keyOkB (P : Program) (t : TypeId) : Bool := match P.underlying t with
  | some (.int _) => true
  | some (.struct fs) => fs.toList.all fun f => leafB P f.type
  | some (.array _ e) => leafB P e
  | _ => false
def datum (D : Codec U) (c : U.C) (g : Bool) (v : AV U) : Option (U.El c) := match v, g with
  | .agg xs, true => D.dec c xs
  | .agg _, false => none
  | .tup _, _ => none
  | v, false => D.dec c [v]
  | _, true => none
def keyC (E : Env U) (kt : TypeId) (c : U.C) (g : Bool) (v : AV U) : Option (U.El c) := match E.D.kinds c, plainEq E.P 8 kt with
  | some ks, some ks' => bif ks == ks' && ks.all (Nat.beq 0) && keyOkB E.P kt && g == isAggB E.P kt then datum E.D c g v else none
  | _, _ => none
def zeroShape (P : Program) (t : TypeId) (g : Bool) : Bool := match P.info? t with
  | some i => match i.zero, g with
    | some (.agg _), b => b
    | some (.tuple _), _ => false
    | some _, b => !b
    | none, _ => false
  | none => false
def nodK {α β : Type} (eq : α → α → Bool) : List (α × β) → Bool
  | [] => true
  | p :: r => (r.all fun q => !(eq p.1 q.1)) && nodK eq r
def lookK (E : Env U) (t : TypeId) (x ix : AV U) (ok : Bool) (K : AV U → Option ρ) : Option ρ :=
  match E.P.underlying t, x with
  | some (.map kt et), .fm ka va ck cv l => match keyC E kt ck ka ix, zeroCells E et with
    | some k, some z => match decs E.D cv 1 z with
      | some [q] => bif zeroShape E.P et va then
          K (match ok with | true => .tup [packV va (E.D.enc cv ((mget (E.D.keq ck k) l).getD q)), .flat (.bool (mget (E.D.keq ck k) l).isSome)] | false => packV va (E.D.enc cv ((mget (E.D.keq ck k) l).getD q)))
        else none
      | _ => none
    | _, _ => none
  | _, _ => none
def stV (E : Env U) (ob : Nat → Option (Obj U)) (t : TypeId) (a v : AV U) : AV U := match a with
  | .ptr id _ => match ob id with
    | some (.lit _) => v
    | _ => nilA E t v.drop
  | _ => nilA E t v.drop
def opK (E : Env U) (o : Oper) (ev : Operand → AV U) (ob : Nat → Option (Obj U)) (K : AV U → Eff U → Option ρ) : Option ρ :=
  let put (v : AV U) : Option ρ := K v []
  match o.op with
  | .move x | .assign x => moveC E ob o.type o.dst (ev x) K
  | .pick c a b => match ev c with
    | .flat (.bool t) => cond t (put (ev a)) (put (ev b))
    | _ => none
  | .alloc t => match o.dst with
    | some d => kont (rawCells E t) fun z => kont (newObj E t z) fun n => match ob d with
      | none => K (.ptr d 0) [(d, n)]
      | some _ => none
    | none => none
  | .box t x => match o.dst with
    | some d => kont (okCells (ev x).drop) fun z => kont (newObj E t z) fun n => match ob d with
      | none => K (.ptr d 0) [(d, n)]
      | some _ => none
    | none => none
  | .build t parts => kont (buildA E t (parts.toList.map fun p => (p.1, (ev p.2).drop))) put
  | .buildSlice t n parts => match o.dst with
    | some d => kont (buildSliceA E t n (parts.toList.map fun p => (p.1, nilE E t (ev p.2).drop))) fun r => match ob d with
      | none => bif E.vecs d then K (.vs d) [(d, .vec r.1 r.2)] else K (.tip d r.1 r.2) [(d, .tip (E.D.size r.1))]
      | some _ => none
    | none => none
  | .makeSlice t x y => makeSliceC E ob t o.dst (ev x) (ev y) K
  | .slice t x lo hi mx => sliceC E t (nilA E t (ev x).drop) (lo.map ev) (hi.map ev) mx put
  | .load t a => cond (elOk ob (ev a)) (kont (loadAt0 E ob t (ev a)) fun v => put (tidy E t v)) none
  | .store t a v => cond (elOk ob (ev a)) (kont (storeAt0 E ob t (ev a) (stV E ob t (ev a) (ev v))) fun u => K .undef [u]) none
  | .binOp op t x y _ => binC E.P t op (ev x) (ev y) put
  | .unOp op _ x => kont (unC op (ev x)) put
  | .nilCheck x => match ev x with
    | .ptr id off => put (.ptr id off)
    | .fn f caps => put (.fn f caps)
    | _ => none
  | .convert src dst x => match E.P.underlying dst, (E.P.underlying src).isSome, ev x with
    | some (.int k), true, .flat (.int _ n) => put (.flat (.int k (k.wrap n)))
    | _, _, _ => none
  | .fieldAddr t x f => kont (fieldOff E.P t f) fun fl => kont (addOff fl.offset (ev x)) put
  | .field t x f => kont (fieldOff E.P t f) fun fl => match ev x with
    | .agg cs => kont (cut E.P fl.type cs fl.offset) put
    | _ => none
  | .indexAddr t x i => indexAddrC E ob t (nilA E t (ev x).drop) (ev i) put
  | .index t x i => indexC E t (ev x) (ev i) put
  | .makeFunc fn first caps => match fn, first.toList with
    | .func g, [] => put (.fn g (caps.toList.map ev))
    | _, _ => none
  | .extract x i => match ev x with
    | .tup vs => kont vs[i]? put
    | _ => none
  | .lookup t x ix ok => lookK E t (ev x) (ev ix).drop ok put
  | .call c => match c.callee with
    | .builtin .append => appendC E ob c.argTypes (c.args.toList.map ev) o.dst K
    | .builtin .len => lenC E ob c.argTypes (c.args.toList.map ev) put
    | .builtin b => kont (builtinA E b c.argTypes (c.args.toList.map fun x => (ev x).drop)) put
    | .value g => match ev g with
      | .fn f caps => kont (E.fa f (argsA E c ev ++ caps)) fun d => bif (argsA E c ev ++ caps).all c1 && d.cl && Nat.ble (argsA E c ev ++ caps).length d.nt then kont (d.un ⟨startT (argsA E c ev ++ caps) 0, []⟩) fun x => (d.f x).bind fun y => put ((d.fin y).get 0) else none
      | _ => none
    | _ => none
  | _ => none
def St.upd (s : St U) : Eff U → St U
  | [] => s
  | (n, v) :: r => (s.setO n v).upd r
def gid (i j : Nat) : Nat := 7000000000000 + 1000 * i + j
def nid (d c : Nat) : Nat := c + 10000000000000 * (d + 1)
def ownId : AV U → Option Nat
  | .tip id _ _ => some id
  | .vs id => some id
  | .mp id => some id
  | _ => none
def subIds (i : Nat) : List (AV U) → Nat → List (Nat × Nat)
  | [], _ => []
  | v :: r, j => match ownId v with
    | some t => (t, gid i (j + 1)) :: subIds i r (j + 1)
    | none => subIds i r (j + 1)
def givenOne (ob : Nat → Option (Obj U)) (i : Nat) : AV U → List (Nat × Nat)
  | .ptr id _ => (id, gid i 0) :: (match ob id with | some (.lit cs) => subIds i cs 0 | _ => [])
  | .vs id => [(id, gid i 0)]
  | .mp id => [(id, gid i 0)]
  | _ => []
def given (ob : Nat → Option (Obj U)) : List (AV U) → Nat → List (Nat × Nat)
  | [], _ => []
  | v :: r, i => givenOne ob i v ++ given ob r (i + 1)
def rn (q : List (Nat × Nat)) (n : Nat) : Nat := (lk q n).getD n
def ren0 (q : List (Nat × Nat)) : AV U → AV U
  | .ptr id off => .ptr (rn q id) off
  | .tip id c l => .tip (rn q id) c l
  | .vs id => .vs (rn q id)
  | .mp id => .mp (rn q id)
  | v => v
def renA (q : List (Nat × Nat)) : AV U → AV U
  | .agg xs => .agg (xs.map (ren0 q))
  | v => ren0 q v
def renV (q : List (Nat × Nat)) : AV U → AV U
  | .tup xs => .tup (xs.map (renA q))
  | v => renA q v
def renO (q : List (Nat × Nat)) : Obj U → Obj U
  | .lit cs => .lit (cs.map (ren0 q))
  | o => o
def inQ (q : List (Nat × Nat)) (n : Nat) : Bool := match lk q n with | some _ => true | none => false
def hasHdr (ob : Nat → Option (Obj U)) (id : Nat) : Bool := match ob id with
  | some (.tip _) => true
  | some (.vec ..) => true
  | some (.map ..) => true
  | _ => false
def cov0 (ob : Nat → Option (Obj U)) (q : List (Nat × Nat)) : AV U → Bool
  | .ptr id _ => inQ q id
  | .tip id _ _ => inQ q id && hasHdr ob id
  | .vs id => inQ q id && hasHdr ob id
  | .mp id => inQ q id && hasHdr ob id
  | v => c0 v
def covA (ob : Nat → Option (Obj U)) (q : List (Nat × Nat)) : AV U → Bool
  | .agg xs => xs.all (cov0 ob q)
  | .fn f xs => xs.all cF
  | .rp cs _ => cs.all c0
  | v => cov0 ob q v
def covV (ob : Nat → Option (Obj U)) (q : List (Nat × Nat)) : AV U → Bool
  | .tup xs => xs.all (covA ob q)
  | v => covA ob q v
def covO (ob : Nat → Option (Obj U)) (q : List (Nat × Nat)) : Obj U → Bool
  | .lit cs => cs.all (cov0 ob q)
  | .dead => false
  | .ar .. => false
  | .om .. => false
  | _ => true
def kept2 : Option (Obj U) → Option (Obj U) → Bool
  | some (.lit _), some (.lit _) => true
  | some (.map ..), some (.map ..) => true
  | _, _ => false
def swap (q : List (Nat × Nat)) : List (Nat × Nat) := q.map fun p => (p.2, p.1)
def nodupB : List Nat → Bool
  | [] => true
  | n :: r => !(r.any (Nat.beq n)) && nodupB r
def ghosts (args : List (AV U)) : List Nat → List (Nat × AV U)
  | [] => []
  | i :: r => match args[i]? with
    | some v => (gb + i, v) :: ghosts args r
    | none => ghosts args r
def objsAt (ob : Nat → Option (Obj U)) (q : List (Nat × Nat)) : List (Nat × Obj U) := q.map fun p => (p.2, renO q ((ob p.1).getD .dead))
def entry (d : FDen U) (ob : Nat → Option (Obj U)) (q : List (Nat × Nat)) (args : List (AV U)) : St U :=
  ⟨startT (args.map (renV q)) 0 ++ ghosts (args.map (renV q)) d.gh, objsAt ob q⟩
def entryOk (ob : Nat → Option (Obj U)) (q : List (Nat × Nat)) (args : List (AV U)) : Bool :=
  args.all (covV ob q) && nodupB (q.map (·.1)) && nodupB (q.map (·.2)) && q.all (fun p => match ob p.1 with | some o => covO ob q o | none => false)
def backs (m : St U) (args : List (AV U)) : List Nat → List (Nat × Nat)
  | [] => []
  | i :: r => match args[i]?, m.get (gb + i) with
    | some (.ptr a 0), .ptr c 0 => match lk m.o c with
      | some (.lit _) => (c, a) :: backs m args r
      | _ => backs m args r
    | some (.mp a), .mp c => match lk m.o c with
      | some (.map ..) => (c, a) :: backs m args r
      | _ => backs m args r
    | _, _ => backs m args r
def backQ (d : Nat) (m : St U) (args : List (AV U)) (gh : List Nat) : List (Nat × Nat) := let b := backs m args gh
  m.o.map fun p => (p.1, match lk b p.1 with | some a => a | none => nid d p.1)
def exitOk (ob : Nat → Option (Obj U)) (q b : List (Nat × Nat)) (m : St U) (keep : List (Nat × Nat)) : Bool :=
  covV (lk m.o) b (m.get 0) && nodupB (b.map (·.1)) && nodupB (b.map (·.2)) && m.o.all (fun p => covO (lk m.o) b p.2) &&
  b.all (fun p => match lk keep p.1 with | some a => Nat.beq a p.2 && inQ q a && kept2 (ob a) (lk m.o p.1) | none => match ob p.2 with | some _ => false | none => true)
def callX (d : FDen U) (ob : Nat → Option (Obj U)) (dst : Option Tmp) (args : List (AV U)) (K : AV U → Eff U → Option ρ) : Option ρ :=
  let q := given ob args 0
  bif entryOk ob q args && Nat.ble args.length d.nt then
    kont (d.un (entry d ob q args)) fun x => (d.f x).bind fun y =>
      let m := d.fin y
      let b := backQ (dst.getD 0) m args d.gh
      bif exitOk ob q b m (backs m args d.gh) then
        K (renV b (m.get 0)) (q.map (fun p => (p.1, .dead)) ++ m.o.map fun p => (rn b p.1, renO b p.2))
      else none
  else none
def isX (E : Env U) (o : Oper) (ev : Operand → AV U) : Bool := match o.op with
  | .call c => match c.callee with
    | .value g => match ev g with
      | .fn f caps => match E.sf f with
        | some _ => true
        | none => match E.fa f (argsA E c ev ++ caps) with
          | some d => !(d.cl && (argsA E c ev ++ caps).all c1)
          | none => false
      | _ => false
    | _ => false
  | .slice _ _ _ _ (some _) => true
  | .lookup _ x _ _ => match ev x with
    | .fm .. => false
    | _ => true
  | .mapUpdate .. | .insert .. | .makeMap .. => true
  | _ => false
def sliceZ (E : Env U) (ob : Nat → Option (Obj U)) (t : TypeId) (d : Option Tmp) (x : AV U) (K : AV U → Eff U → Option ρ) : Option ρ :=
  match elemOf E t, d, x with
  | some (_, c', sz, _), some d, .row c l => match castL E.D c' c l, ob d with
    | some _, none => bif Nat.beq sz (E.D.size c') then (bif E.vecs d then K (.vs d) [(d, .vec c' [])] else K (.tip d c' []) [(d, .tip sz)]) else none
    | _, _ => none
  | _, _, _ => none
def sliceX (E : Env U) (ob : Nat → Option (Obj U)) (t : TypeId) (d : Option Tmp) (x hi mx : AV U) (K : AV U → Eff U → Option ρ) : Option ρ :=
  match elemOf E t, hi, mx with
  | some (_, _, sz, _), .flat (.int _ j), .flat (.int _ m) => match x with
    | .row c l => bif Nat.beq sz (E.D.size c) then cond (decide (j = m) && inS 0 j l.length) (K (.row c (l.take j.toNat)) []) none else none
    | .vs id => match ob id, d with
      | some (.vec c l), some d => match ob d with
        | none => bif Nat.beq sz (E.D.size c) then cond (decide (j = m) && decide (j = l.length)) (K (.vs d) [(id, .dead), (d, .vec c l)]) none else none
        | some _ => none
      | _, _ => none
    | _ => none
  | _, _, _ => none
def lookupX (E : Env U) (ob : Nat → Option (Obj U)) (t : TypeId) (x ix : AV U) (ok : Bool) (K : AV U → Eff U → Option ρ) : Option ρ :=
  match E.P.underlying t, x with
  | some (.map kt et), .mp id => match ob id with
    | some (.map w ka va ck cv l) => match keyC E kt ck ka ix, zeroCells E et with
      | some k, some z => match decs E.D cv 1 z with
        | some [q] => bif zeroShape E.P et va then
            K (match ok with | true => .tup [packV va (E.D.enc cv ((mget (E.D.keq ck k) l).getD q)), .flat (.bool (mget (E.D.keq ck k) l).isSome)] | false => packV va (E.D.enc cv ((mget (E.D.keq ck k) l).getD q))) []
          else none
        | _ => none
      | _, _ => none
    | _ => none
  | _, _ => none
def updateX (E : Env U) (ob : Nat → Option (Obj U)) (t : TypeId) (m k v : AV U) (K : AV U → Eff U → Option ρ) : Option ρ :=
  match E.P.underlying t, m with
  | some (.map kt et), .mp id => match ob id with
    | some (.map true ka va ck cv l) => match keyC E kt ck ka k, datum E.D cv va v with
      | some k, some x => K .undef [(id, .map true ka va ck cv (mput (E.D.keq ck k) k x l))]
      | _, _ => none
    | _ => none
  | _, _ => none
def makeMapX (E : Env U) (ob : Nat → Option (Obj U)) (t : TypeId) (d : Option Tmp) (K : AV U → Eff U → Option ρ) : Option ρ :=
  match E.P.underlying t, E.mpc t, d with
  | some (.map kt et), some (ck, cv), some d => match ob d with
    | none => K (.mp d) [(d, .map true (isAggB E.P kt) (isAggB E.P et) ck cv [])]
    | some _ => none
  | _, _, _ => none
def zeroMap (P : Program) (t : TypeId) : Bool := match P.info? t with
  | some i => match i.zero with
    | some (.map none) => true
    | _ => false
  | none => false
def arAt {α : Type} (L : List (List α)) : Option Nat → List α
  | some j => L.getD j []
  | none => []
def arLook (E : Env U) (ob : Nat → Option (Obj U)) (t : TypeId) (x ix : AV U) (ok : Bool) (K : AV U → Eff U → Option ρ) : Option ρ :=
  match E.P.underlying t, x with
  | some (.map kt et), .mp id => match ob id with
    | some (.om A ka ck l) => match keyC E kt ck ka ix with
      | some k => bif zeroMap E.P et then
          K (match ok with | true => .tup [.sm A (mget (E.D.keq ck k) l), .flat (.bool (mget (E.D.keq ck k) l).isSome)] | false => .sm A (mget (E.D.keq ck k) l)) []
        else none
      | none => none
    | _ => none
  | some (.map kt et), .sm A j => match ob A with
    | some (.ar ka va ck cv L) => match keyC E kt ck ka ix, zeroCells E et with
      | some k, some z => match decs E.D cv 1 z with
        | some [q] => bif zeroShape E.P et va then
            K (match ok with | true => .tup [packV va (E.D.enc cv ((mget (E.D.keq ck k) (arAt L j)).getD q)), .flat (.bool (mget (E.D.keq ck k) (arAt L j)).isSome)] | false => packV va (E.D.enc cv ((mget (E.D.keq ck k) (arAt L j)).getD q))) []
          else none
        | _ => none
      | _, _ => none
    | _ => none
  | _, _ => none
def arUpd (E : Env U) (ob : Nat → Option (Obj U)) (t : TypeId) (m k v : AV U) (K : AV U → Eff U → Option ρ) : Option ρ :=
  match E.P.underlying t, m with
  | some (.map kt et), .mp id => match ob id, v with
    | some (.om A ka ck l), .sm A' j => match keyC E kt ck ka k with
      | some k => bif Nat.beq A' A then kont j fun j => K .undef [(id, .om A ka ck (mput (E.D.keq ck k) k j l))] else none
      | none => none
    | _, _ => none
  | some (.map kt et), .sm A j => match ob A with
    | some (.ar ka va ck cv L) => match keyC E kt ck ka k, datum E.D cv va v with
      | some k, some x => kont j fun j => K .undef [(A, .ar ka va ck cv (L.set j (mput (E.D.keq ck k) k x (L.getD j []))))]
      | _, _ => none
    | _ => none
  | _, _ => none
def arMake (E : Env U) (ob : Nat → Option (Obj U)) (t : TypeId) (d : Option Tmp) (K : AV U → Eff U → Option ρ) : Option ρ :=
  match E.P.underlying t, d with
  | some (.map kt et), some d => match E.ars t with
    | some (A, _, _) => match ob A with
      | some (.ar ka va ck cv L) => K (.sm A (some L.length)) [(A, .ar ka va ck cv (L ++ [[]]))]
      | _ => none
    | none => match E.oms t with
      | some (A, ck, et) => match ob d with
        | some _ => none
        | none => match ob A with
          | some (.ar ..) => K (.mp d) [(d, .om A (isAggB E.P kt) ck [])]
          | none => match E.ars et, E.P.underlying et with
            | some (_, ck', cv'), some (.map kt' et') => bif Nat.beq A d then none else K (.mp d) [(d, .om A (isAggB E.P kt) ck []), (A, .ar (isAggB E.P kt') (isAggB E.P et') ck' cv' [])]
            | _, _ => none
          | _ => none
      | none => none
  | _, _ => none
def viewA (E : Env U) (ob : Nat → Option (Obj U)) (t : TypeId) (v : AV U) : AV U := match v with
  | .mp id => match ob id with
    | some (.om A ka ck l) => match ob A, E.fz t with
      | some (.ar ka' va' ck' cv' L), some (_, cF) => match E.D.nst cF ck' cv' ka' va' with
        | some g => .fm ka false ck cF (l.map fun p => (p.1, g (L.getD p.2 [])))
        | none => v
      | _, _ => v
    | _ => v
  | v => v
def viewL (E : Env U) (ob : Nat → Option (Obj U)) (ts : Array TypeId) : List (AV U) → Nat → List (AV U)
  | [], _ => []
  | v :: r, i => viewA E ob (ts.getD i 0) v :: viewL E ob ts r (i + 1)
def c2 (D : Codec U) : AV U → Bool
  | .undef | .flat _ => true
  | .row c _ => (D.kinds c).isSome
  | _ => false
def callB (E : Env U) (ob : Nat → Option (Obj U)) (c : Call) (ev : Operand → AV U) (K : AV U → Eff U → Option ρ) : Option ρ := match c.callee with
  | .value g => match ev g with
    | .fn f caps => kont (E.fa f (viewL E ob c.argTypes (argsA E c ev) 0 ++ caps)) fun d => bif (viewL E ob c.argTypes (argsA E c ev) 0 ++ caps).all c1 && Nat.ble (viewL E ob c.argTypes (argsA E c ev) 0 ++ caps).length d.nt then
        kont (d.un ⟨startT (viewL E ob c.argTypes (argsA E c ev) 0 ++ caps) 0, []⟩) fun x => (d.f x).bind fun y => bif c2 E.D ((d.fin y).get 0) then K ((d.fin y).get 0) [] else none else none
    | _ => none
  | _ => none
def omAt (ob : Nat → Option (Obj U)) : AV U → Bool
  | .mp id => match ob id with
    | some (.om ..) => true
    | _ => false
  | .sm _ _ => true
  | _ => false
def arOp (E : Env U) (o : Oper) (ev : Operand → AV U) (ob : Nat → Option (Obj U)) : Bool := match o.op with
  | .lookup _ x _ _ => omAt ob (ev x)
  | .mapUpdate _ m _ _ => omAt ob (ev m)
  | .makeMap t none => (E.ars t).isSome || (E.oms t).isSome
  | .call c => match c.callee with
    | .value _ => c.argTypes.any fun t => (E.oms t).isSome
    | _ => false
  | _ => false
def arK (E : Env U) (o : Oper) (ev : Operand → AV U) (ob : Nat → Option (Obj U)) (K : AV U → Eff U → Option ρ) : Option ρ := match o.op with
  | .lookup t x ix ok => arLook E ob t (ev x) (ev ix).drop ok K
  | .mapUpdate t m k v => arUpd E ob t (ev m) (ev k).drop (ev v).drop K
  | .makeMap t none => arMake E ob t o.dst K
  | .call c => callB E ob c ev K
  | _ => none
def nilM (E : Env U) (t : TypeId) (v : AV U) : AV U := match E.P.underlying t with
  | some (.map _ et) => nilA E et v
  | _ => v
def bare (f : FuncId) : AV U → Bool
  | .fn g [] => Nat.beq g f
  | _ => false
def bares : List FuncId → List (AV U) → Bool
  | [], [] => true
  | f :: fs, v :: vs => bare f v && bares fs vs
  | _, _ => false
def saysX (E : Env U) (g : FuncId) (a b : AV U) : Option Bool := match E.fd g with
  | some d => bif [a, b].all c1 && d.cl && Nat.ble 2 d.nt then (d.un ⟨startT [a, b] 0, []⟩).bind fun x => (d.f x).bind fun y => match (d.fin y).get 0 with
      | .flat (.bool r) => some r
      | _ => none
    else none
  | none => none
def keepL {α : Type} (p : α → Option Bool) : List α → Option (List α)
  | [] => some []
  | x :: r => (p x).bind fun b => (keepL p r).bind fun r' => some (cond b r' (x :: r'))
def mapEq {α β : Type} (ke : α → α → Bool) (ve : β → β → Bool) (l m : List (α × β)) : Bool := l.length == m.length && l.all fun p => match mget (ke p.1) m with
  | some v => ve p.2 v
  | none => false
def keyT (E : Env U) (kt : TypeId) (c : U.C) (g : Bool) : Bool := match E.D.kinds c, plainEq E.P 8 kt with
  | some ks, some ks' => ks == ks' && ks.all (Nat.beq 0) && keyOkB E.P kt && g == isAggB E.P kt
  | _, _ => false
def valT (E : Env U) (vt : TypeId) (c : U.C) (g : Bool) : Bool := match E.D.kinds c, plainEq E.P 8 vt with
  | some ks, some ks' => ks == ks' && g && isAggB E.P vt && !(E.P.eqGuardType E.P.depth vt) && (match E.P.info? vt with | some i => i.zero.isSome | none => false)
  | _, _ => false
def castM (D : Codec U) (c c' v v' : U.C) (l : List (U.El c' × U.El v')) : Option (List (U.El c × U.El v)) :=
  match D.deq c' c, D.deq v' v with
  | isTrue h, isTrue h' => some (h ▸ h' ▸ l)
  | _, _ => none
structure MV (U : Univ) where
  ka : Bool
  va : Bool
  ck : U.C
  cv : U.C
  l : List (U.El ck × U.El cv)
def MV.av (c : MV U) : AV U := .fm c.ka c.va c.ck c.cv c.l
def mapL (ob : Nat → Option (Obj U)) (x : AV U) : Option (MV U) := match x with
  | .mp id => match ob id with
    | some (.map _ ka va ck cv l) => some ⟨ka, va, ck, cv, l⟩
    | _ => none
  | .fm ka va ck cv l => some ⟨ka, va, ck, cv, l⟩
  | _ => none
def sfX (d : SDen U) (E : Env U) (ob : Nat → Option (Obj U)) (args : List (AV U)) (K : AV U → Eff U → Option ρ) : Option ρ := let D := E.D; match d with
  | .del kt nk nv => match args with
    | [.mp id, .fn g []] => match ob id with
      | some (.map true ka va ck cv l) => bif keyT E kt ck ka && (ka && va && Nat.beq (D.size ck) nk && Nat.beq (D.size cv) nv) then (keepL (fun p => saysX E g (packV ka (D.enc ck p.1)) (packV va (D.enc cv p.2))) l).bind fun l' => K .undef [(id, .map true ka va ck cv l')] else none
      | _ => none
    | _ => none
  | .eq kt vt nk nv => match args with
    | [.flat (.map none), .mp id'] => match ob id' with
      | some (.map _ ka va ck cv l) => bif valT E vt cv va && (ka && va && Nat.beq (D.size ck) nk && Nat.beq (D.size cv) nv) then K (.flat (.bool (mapEq (D.keq ck) (D.keq cv) [] l))) [] else none
      | _ => none
    | [.mp id, .mp id'] => match ob id, ob id' with
      | some (.map _ ka va ck cv l), some (.map _ ka' va' ck' cv' l') => match castM D ck ck' cv cv' l' with
        | some m => bif keyT E kt ck ka && valT E vt cv va && (ka' == ka && va' == va) && (ka && va && Nat.beq (D.size ck) nk && Nat.beq (D.size cv) nv) then K (.flat (.bool (mapEq (D.keq ck) (D.keq cv) l m))) [] else none
        | none => none
      | _, _ => none
    | _ => none
  | .keys g => match args with
    | [.mp id] => K (.fn g [.rp [.mp id] 0]) []
    | [.fm ka va ck cv l] => K (.fn g [.rp [.fm ka va ck cv l] 0]) []
    | _ => none
  | .sort g cmp c ka b srt => match args with
    | .fn g' [.rp [x] 0] :: rest => match mapL ob x with
      | some ⟨ka', _, ck, _, l⟩ => match castL D c ck (l.map fun p => p.1) with
        | some l' => match D.kinds c with
          | some ks => bif Nat.beq g' g && ((ka' == ka && (ks.all (Nat.beq 0) && (ka || Nat.beq (D.size c) 1))) && bares cmp rest) then cond (okLen l'.length b) (K (.row c (srt l')) []) none else none
          | none => none
        | none => none
      | _ => none
    | _ => none
def opX0 (E : Env U) (o : Oper) (ev : Operand → AV U) (ob : Nat → Option (Obj U)) (K : AV U → Eff U → Option ρ) : Option ρ := match o.op with
  | .call c => match c.callee with
    | .value g => match ev g with
      | .fn f caps => match E.sf f with
        | some d => sfX d E ob (argsA E c ev ++ caps) K
        | none => match E.fa f (argsA E c ev ++ caps) with
          | some d => callX d ob o.dst (argsA E c ev ++ caps) K
          | none => none
      | _ => none
    | _ => none
  | .slice t x none (some (.const (.int _ 0))) (some (.const (.int _ 0))) => sliceZ E ob t o.dst (nilA E t (ev x).drop) K
  | .slice t x none (some hi) (some mx) => sliceX E ob t o.dst (match ev x with | .vs id => .vs id | v => nilA E t v.drop) (ev hi) (ev mx) K
  | .lookup t x ix ok => lookupX E ob t (ev x) (ev ix).drop ok K
  | .mapUpdate t m k v => updateX E ob t (ev m) (ev k).drop (nilM E t (ev v).drop) K
  | .insert t m k v => bif E.lz then K .undef [] else updateX E ob t (ev m) (ev k).drop (nilM E t (ev v).drop) K
  | .makeMap t none => makeMapX E ob t o.dst K
  | _ => none
def opX (E : Env U) (o : Oper) (ev : Operand → AV U) (ob : Nat → Option (Obj U)) (K : AV U → Eff U → Option ρ) : Option ρ := bif arOp E o ev ob then arK E o ev ob K else opX0 E o ev ob K
def opA (E : Env U) (o : Oper) (ev : Operand → AV U) (ob : Nat → Option (Obj U)) (K : AV U → Eff U → Option ρ) : Option ρ := bif isX E o ev then opX E o ev ob K else opK E o ev ob K
def opC (E : Env U) (o : Oper) (s : St U) (K : St U → Option ρ) : Option ρ :=
  opA E o s.op (lk s.o) fun v u => K ((s.upd u).put o.dst v)
def regC (E : Env U) (ck : Nat → Oper → St U → Bool) (all : Array Oper) : Nat → List Oper → St U → (St U → Option ρ) → Option ρ
  | _, [], s, K => K s
  | i, o :: r, s, K =>
    match o.guard with
    | none => bif ck i o s then opC E o s fun s' => regC E ck all (i + 1) r s' K else none
    | some (j, want) =>
      kont ((all[j]?).bind (·.dst)) fun g => match s.op (.tmp g) with
        | .flat (.bool b) =>
          cond b
            (match want with
              | true => bif ck i o s then opC E o (s.set g (.flat (.bool true))) fun s' => regC E ck all (i + 1) r s' K else none
              | false => regC E ck all (i + 1) r ((s.set g (.flat (.bool true))).put o.dst (.flat undef)) K)
            (match want with
              | true => regC E ck all (i + 1) r ((s.set g (.flat (.bool false))).put o.dst (.flat undef)) K
              | false => bif ck i o s then opC E o (s.set g (.flat (.bool false))) fun s' => regC E ck all (i + 1) r s' K else none)
        | .flat (.tuple _) => regC E ck all (i + 1) r (s.put o.dst (.flat undef)) K
        | _ => none
def keyOf : Code → Option Nat
  | .region id _ _ => some id
  | .seq a b => match keyOf a with | some k => some k | none => keyOf b
  | .block _ c => keyOf c
  | .loop c => keyOf c
  | .scope c => keyOf c
  | .cond _ a b => match keyOf a with | some k => some k | none => keyOf b
  | _ => none
def resA (E : Env U) (s : St U) : List ResultVar → Option (List (AV U))
  | [] => some []
  | .tmp t :: r => (resA E s r).map ((s.op (.tmp t)).drop :: ·)
  | .cell a t :: r => match loadAt E (lk s.o) t (s.op (.tmp a)), resA E s r with
    | some v, some vs => some ((tidy E t v).drop :: vs)
    | _, _ => none
def tidys (E : Env U) : List TypeId → List (AV U) → List (AV U)
  | t :: ts, v :: vs => tidy E t v :: tidys E ts vs
  | _, vs => vs
def resV (E : Env U) (s : St U) : Option (AV U) := match (resA E s E.results).map (tidys E E.rts) with
  | some [v] => some v
  | some vs => some (.tup vs)
  | none => none
def ahead (ops : List Oper) : List Nat :=
  go ops []
where
  go : List Oper → List Nat → List Nat
    | [], acc => acc
    | o :: r, acc => go r (acc ++ [o.after.toList.foldl (fun s e => bif Region.binds .any e then s ||| 2 ^ e.on ||| acc.getD e.on 0 else s) 0])
def names (all : Array Oper) (o : Oper) : List Tmp :=
  (o.op.operands.toList.filterMap fun | .tmp t => some t | _ => none) ++
  (match o.guard with | some (j, _) => ((all[j]?).bind (·.dst)).toList | none => [])
def appArg (c : Call) : Option Operand := match c.callee with
  | .builtin .append => c.args[0]?
  | _ => none
def lenArg (c : Call) : Option Operand := match c.callee with
  | .builtin .len => c.args[0]?
  | _ => none
def seeArg (c : Call) : Option Operand := match appArg c with
  | some a => some a
  | none => lenArg c
def stores : Op → Bool
  | .store .. => true
  | .call c => (appArg c).isSome
  | _ => false
def loads : Op → Bool
  | .store .. | .load .. | .indexAddr .. => true
  | .call c => (seeArg c).isSome
  | _ => false
def meetB (a b : Oper) : Bool := (stores a.op && loads b.op) || (loads a.op && stores b.op)
def addrOf : Op → Option Operand
  | .load _ a => some a
  | .store _ a _ => some a
  | .indexAddr _ a _ => some a
  | .call c => seeArg c
  | _ => none
def steady (all : List Oper) (i : Nat) (o : Oper) : Bool := match addrOf o.op with
  | some (.tmp n) => (all.drop i).all fun p => !(p.dst == some n)
  | _ => false
def apartB (all : Array Oper) (i : Nat) (a b : Oper) : Bool :=
  (match a.dst with | some d => !((names all b).contains d) && !(b.dst == some d) | none => true) &&
  (match b.dst with | some d => !((names all a).contains d) | none => true) &&
  (!(meetB a b) || steady all.toList i a)
def drawOkB (all : Array Oper) (bits : List Nat) : Bool :=
  (all.toList.zipIdx.all fun (b, j) => (all.toList.zipIdx.all fun (a, i) => !(Nat.blt i j) || (bits.getD j 0).testBit i || apartB all i a b) &&
    b.after.all (fun e => !Region.binds .any e || Nat.blt e.on j) &&
    (match b.guard with | some (g, _) => (bits.getD j 0).testBit g | none => true))
def tipId : AV U → Option Nat
  | .tip id _ _ => some id
  | .vs id => some id
  | .mp id => some id
  | _ => none
def seeId : AV U → Option Nat
  | .ptr id _ => some id
  | .el id _ _ => some id
  | .pe id _ _ _ _ _ => some id
  | .vs id => some id
  | _ => none
def touchId : AV U → Option Nat
  | .ptr id _ => some id
  | .el id _ _ => some id
  | .pe id _ _ _ _ _ => some id
  | _ => none
theorem touchId_plainAt (v : AV U) : touchId v.plainAt = touchId v := by cases v <;> rfl
def touched (o : Oper) (s : St U) : Option Nat :=
  match o.op with
  | .load _ a => touchId (s.op a)
  | .store _ a _ => touchId (s.op a)
  | .indexAddr _ a _ => seeId (s.op a)
  | .call c => match seeArg c with
    | some a => tipId (s.op a)
    | none => none
  | _ => none
def ownerOk (ops : List Oper) (mask : Nat) (id : Nat) : Bool :=
  ops.zipIdx.all fun (o, i) => !(o.dst == some id) || mask.testBit i
def ownCk (ops : List Oper) (bits : List Nat) (j : Nat) (o : Oper) (s : St U) : Bool :=
  match touched o s with
  | none => true
  | some id => ownerOk ops (bits.getD j 0) id
def twoCk (ops : List Oper) (bits : List Nat) (j : Nat) (o : Oper) (s : St U) : Bool :=
  ops.zipIdx.all fun (a, i) => !(Nat.blt i j) || (bits.getD j 0).testBit i || !(meetB a o) || (match touched a s, touched o s with | some x, some y => !(Nat.beq x y) | _, _ => true)
def isNew : Op → Bool
  | .alloc _ | .box _ _ | .buildSlice .. | .makeSlice .. | .move _ | .assign _ => true
  | .call c => (seeArg c).isSome
  | _ => false
def canX : Op → Bool
  | .call c => match c.callee with
    | .value _ => true
    | _ => false
  | .slice _ _ _ _ (some _) => true
  | .lookup .. | .mapUpdate .. | .insert .. | .makeMap .. => true
  | _ => false
def argsX (E : Env U) (o : Oper) (s : St U) : Option (List (AV U)) := match o.op with
  | .call c => match c.callee with
    | .value g => bif c.argTypes.any (fun t => (E.oms t).isSome) then none else match s.op g with
      | .fn f caps => match E.sf f with
        | some _ => none
        | none => some (argsA E c s.op ++ caps)
      | _ => none
    | _ => none
  | _ => none
def directId : AV U → Option Nat
  | .ptr id _ => some id
  | .vs id => some id
  | .mp id => some id
  | _ => none
def isNil : AV U → Bool
  | .flat (.slice none 0 0) => true
  | _ => false
def harmless (E : Env U) (o : Oper) (s : St U) : Bool := match o.op with
  | .move x | .assign x => !(isNil (s.op x))
  | op => !(loads op || isNew op) && !(isX E o s.op)
def steadyOps (all : List Oper) (i : Nat) (o : Oper) : Bool := o.op.operands.toList.all fun x => match x with
  | .tmp n => (all.drop i).all fun p => !(p.dst == some n)
  | _ => true
def steadyTo (all : List Oper) (i j : Nat) (o : Oper) : Bool := o.op.operands.toList.all fun x => match x with
  | .tmp n => ((all.drop i).take (j - i)).all fun p => !(p.dst == some n)
  | _ => true
def loadId (o : Oper) (s : St U) : Option Nat := match o.op with
  | .load _ (.tmp n) => touchId (s.op (.tmp n))
  | _ => none
def loadFirst (E : Env U) (a b : Oper) (s : St U) : Bool := match loadId a s, argsX E b s with
  | some id, some args => Nat.blt id (10000000000000 * (b.dst.getD 0 + 1)) && !((given (lk s.o) args 0).any fun q => Nat.beq q.1 id)
  | _, _ => false
def loadLast (E : Env U) (ops : List Oper) (i j : Nat) (a b : Oper) (s : St U) : Bool := match loadId b s, argsX E a s with
  | some id, some args => Nat.blt id (10000000000000 * (a.dst.getD 0 + 1)) && !(args.any fun v => match directId v with | some d => Nat.beq d id | none => false) && ops.all (fun p => !(p.dst == some id)) &&
      ops.zipIdx.all (fun (p, k) => !(Nat.blt i k && Nat.blt k j) || (!(stores p.op) && !(canX p.op)))
  | _, _ => false
def readB (E : Env U) (o : Oper) : Bool := match o.op with
  | .load .. | .lookup .. | .indexAddr .. => true
  | .call c => match c.callee with
    | .value _ => c.argTypes.any fun t => (E.oms t).isSome
    | .builtin .len => true
    | _ => false
  | _ => false
def newId (o : Oper) : Option Nat := match o.op with
  | .alloc _ => o.dst
  | _ => none
def newFirst (E : Env U) (a b : Oper) (s : St U) : Bool := match newId a, argsX E b s with
  | some id, some args => Nat.blt id (10000000000000 * (b.dst.getD 0 + 1)) && !((given (lk s.o) args 0).any fun q => Nat.beq q.1 id)
  | _, _ => false
def notDead : Option (Obj U) → Bool
  | some .dead => false
  | _ => true
def newLast (E : Env U) (ops : List Oper) (i j : Nat) (a b : Oper) (s : St U) : Bool := match newId b, argsX E a s with
  | some id, some args => Nat.blt id (10000000000000 * (a.dst.getD 0 + 1)) && !(args.any fun v => match directId v with | some d => Nat.beq d id | none => false) && notDead (lk s.o id) &&
      ops.zipIdx.all (fun (p, k) => !(Nat.blt i k && Nat.blt k j) || (!(p.dst == some id) && !(stores p.op) && !(canX p.op)))
  | _, _ => false
def lookNew (a b : Oper) (s : St U) : Bool := match a.op, newId b with
  | .lookup _ x _ _, some d => match s.op x with
    | .mp m => !(Nat.beq m d)
    | .sm A _ => !(Nat.beq A d)
    | _ => false
  | _, _ => false
def newBare (E : Env U) (a b : Oper) (s : St U) : Bool := match newId b, argsX E a s with
  | some id, some args => Nat.blt id (10000000000000 * (a.dst.getD 0 + 1)) && args.all fun v => match directId v with | some _ => false | none => true
  | _, _ => false
def isIns : Op → Bool
  | .insert .. => true
  | _ => false
def plainMk (E : Env U) (t : TypeId) : Bool := !((E.ars t).isSome || (E.oms t).isSome)
def apartM (E : Env U) (a b : Oper) (s : St U) : Bool := match a.op, b.op with
  | .makeMap t none, .makeMap t' none => (plainMk E t && plainMk E t') && match a.dst, b.dst with
    | some d, some d' => !(Nat.beq d' d)
    | _, _ => false
  | .makeMap t none, .insert _ x _ _ => (E.lz && plainMk E t) && (match a.dst, s.op x with
    | some d, .mp m => !(Nat.beq m d)
    | _, _ => false)
  | .insert _ x _ _, .makeMap t none => (E.lz && plainMk E t) && (match b.dst, s.op x with
    | some d, .mp m => !(Nat.beq m d)
    | _, _ => false)
  | _, _ => false
def pairOk (E : Env U) (ops : List Oper) (i j : Nat) (a b : Oper) (s : St U) : Bool :=
  (harmless E a s && steadyTo ops i j a) || harmless E b s || (!(isX E a s.op) && steadyTo ops i j a && !(isX E b s.op)) ||
    (loadFirst E a b s && steadyTo ops i j a) || (loadLast E ops i j a b s && steadyTo ops i j a) || newFirst E a b s || (newLast E ops i j a b s && steadyTo ops i j a) || (readB E a && readB E b) || (lookNew a b s && steadyTo ops i j a) || lookNew b a s || (E.lz && (isIns a.op && isIns b.op)) || (newBare E a b s && steadyTo ops i j a) || (apartM E a b s && steadyTo ops i j a)
def xCk (E : Env U) (ops : List Oper) (bits : List Nat) (j : Nat) (o : Oper) (s : St U) : Bool :=
  ops.zipIdx.all fun (a, i) => !(Nat.blt i j) || (bits.getD j 0).testBit i || pairOk E ops i j a o s
def drawCk (E : Env U) (ops : List Oper) (bits : List Nat) (j : Nat) (o : Oper) (s : St U) : Bool := (ownCk ops bits j o s && twoCk ops bits j o s) && xCk E ops bits j o s
def frzV (id : Nat) (r : AV U) : AV U → AV U
  | .vs i => bif Nat.beq i id then r else .vs i
  | v => v
def St.freeze (s : St U) (id : Nat) : St U := match lk s.o id with
  | some (.vec c l) => { t := s.t.map fun p => (p.1, frzV id (.row c l) p.2), o := (id, .dead) :: s.o }
  | _ => s
def frzT (s : St U) (x : Operand) : St U := match x with
  | .tmp t => match s.get t with
    | .vs id => s.freeze id
    | _ => s
  | _ => s
def frzB (id : Nat) (cs : List (AV U)) : AV U → AV U
  | .ptr i off => bif Nat.beq i id then .rp cs off else .ptr i off
  | v => v
def St.freezeB (s : St U) (id : Nat) : St U := match lk s.o id with
  | some (.lit cs) => { t := s.t.map fun p => (p.1, frzB id (cs.map AV.drop) p.2), o := (id, .dead) :: s.o }
  | _ => s
def frzW (id : Nat) (r : AV U) : AV U → AV U
  | .mp i => bif Nat.beq i id then r else .mp i
  | v => v
def St.freezeM (s : St U) (id : Nat) : St U := match lk s.o id with
  | some (.map _ ka va ck cv l) => { t := s.t.map fun p => (p.1, frzW id (.fm ka va ck cv l) p.2), o := (id, .dead) :: s.o }
  | _ => s
def frzU (s : St U) (x : Operand) : St U := match x with
  | .tmp t => match s.get t with
    | .ptr id _ => s.freezeB id
    | .mp id => s.freezeM id
    | _ => s
  | _ => s
def capsOf (E : Env U) (ops : List Oper) : List Operand :=
  let e := ops.flatMap fun o => match o.op with
    | .makeFunc _ _ caps => caps.toList
    | .call c => match c.callee with
      | .value _ => (c.args.toList.zipIdx.filter fun p => (E.fz (c.argTypes.getD p.2 0)).isSome).map (·.1)
      | _ => []
    | .mapUpdate t _ _ v => match E.P.underlying t with
      | some (.map _ et) => match E.fz et with
        | some _ => [v]
        | none => []
      | _ => []
    | _ => []
  e ++ ops.flatMap fun o => match o.op, o.dst with
    | .move x, some d => bif (E.fz o.type).isSome && e.any (fun y => match y with | .tmp t => Nat.beq t d | _ => false) then [x] else []
    | .assign x, some d => bif (E.fz o.type).isSome && e.any (fun y => match y with | .tmp t => Nat.beq t d | _ => false) then [x] else []
    | _, _ => []
def escapes (E : Env U) (o : Op) : List Operand := match o with
  | .box _ x => [x]
  | .store _ _ v => [v]
  | .build _ ps => ps.toList.map (·.2)
  | .buildSlice _ _ ps => ps.toList.map (·.2)
  | .slice _ x _ _ none => [x]
  | .call c => match c.callee with
    | .value (.func g) => (c.args.toList.zipIdx.filter fun p => !(E.io g p.2)).map (·.1)
    | .value _ => c.args.toList
    | .builtin .append => c.args.toList.drop 1
    | _ => []
  | _ => []
def frzAll (s : St U) (l : List Operand) : St U := l.foldl frzT s
def frzCaps (s : St U) (l : List Operand) : St U := l.foldl frzU s
def frzO (id : Nat) (r : AV U) : Obj U → Obj U
  | .lit cs => .lit (cs.map (frzV id r))
  | o => o
def St.freezeC (s : St U) (id : Nat) : St U := match lk s.o id with
  | some (.vec c l) => { t := (s.freeze id).t, o := (s.freeze id).o.map fun p => (p.1, frzO id (.row c l) p.2) }
  | _ => s
def frzCs (s : St U) (cs : List (AV U)) : St U := match cs with
  | [] => s
  | .vs id :: r => frzCs (s.freezeC id) r
  | _ :: r => frzCs s r
def frzL (s : St U) (n : Nat) : St U := match s.get n with
  | .ptr i _ => match lk s.o i with
    | some (.lit cs) => frzCs s cs
    | _ => s
  | _ => s
def frzLds (s : St U) (l : List Nat) : St U := match l with
  | [] => s
  | n :: r => frzLds (frzL s n) r
def frzRes (s : St U) (rs : List ResultVar) : St U := rs.foldl (fun s r => match r with | .tmp t => frzT s (.tmp t) | _ => s) s
def St.freezeN (E : Env U) (t : TypeId) (s : St U) (id : Nat) : St U := match lk s.o id with
  | some (.om A _ _ _) => match viewA E (lk s.o) t (.mp id) with
    | .mp _ => s
    | v => { t := s.t.map fun p => (p.1, frzW id v p.2), o := (A, .dead) :: (id, .dead) :: s.o }
  | _ => s
def frzN (E : Env U) (t : TypeId) (s : St U) (x : Operand) : St U := match x with
  | .tmp n => match s.get n with
    | .mp id => s.freezeN E t id
    | _ => s
  | _ => s
def fzRes (E : Env U) : List ResultVar → List TypeId → St U → St U
  | .tmp t :: r, ty :: ts, s => match E.fz ty with
    | some _ => fzRes E r ts ((frzU (frzN E ty s (.tmp t)) (.tmp t)).set t (nilA E ty ((frzU (frzN E ty s (.tmp t)) (.tmp t)).get t)))
    | none => fzRes E r ts s
  | _ :: r, _ :: ts, s => fzRes E r ts s
  | _, _, s => s
def puts {α β : Type} (eq : α → α → Bool) (es l : List (α × β)) : List (α × β) := es.foldl (fun l p => mput (eq p.1) p.1 p.2 l) l
def litV (env : List (Nat × MV U)) : AV U → AV U
  | .mp i => match lk env i with
    | some c => c.av
    | none => .mp i
  | v => v
def litE (E : Env U) (env : List (Nat × MV U)) (s : St U) (ck cv : U.C) (ka va : Bool) (o : Oper) : Option (U.El ck × U.El cv) := match o.op with
  | .insert t _ k v => match E.P.underlying t with
    | some (.map kt _) => match keyC E kt ck ka (s.op k).drop, datum E.D cv va (nilM E t (litV env (s.op v)).drop) with
      | some k, some x => some (k, x)
      | _, _ => none
    | _ => none
  | _ => none
def litEs (E : Env U) (env : List (Nat × MV U)) (s : St U) (ck cv : U.C) (ka va : Bool) (all : Array Oper) : List Nat → Option (List (U.El ck × U.El cv))
  | [] => some []
  | i :: r => match all[i]? with
    | some o => match litE E env s ck cv ka va o, litEs E env s ck cv ka va all r with
      | some e, some l => some (e :: l)
      | _, _ => none
    | none => none
def litM (E : Env U) (all : Array Oper) (env : List (Nat × MV U)) (s : St U) (m : Nat) (ins : List Nat) : Option (MV U) := match s.op (.tmp m) with
  | .mp m' => match lk s.o m' with
    | some (.map true ka va ck cv []) => bif Nat.beq m' m then (litEs E env s ck cv ka va all ins).bind fun es => bif nodK (E.D.keq ck) es then some ⟨ka, va, ck, cv, es⟩ else none else none
    | _ => none
  | _ => none
def litN (E : Env U) (all : Array Oper) (s : St U) : List (Nat × List Nat) → List (Nat × MV U) → Option (List (Nat × MV U))
  | [], env => some env
  | (m, ins) :: r, env => (litM E all env s m ins).bind fun c => litN E all s r ((m, c) :: env)
def litUse (s : St U) (all : Array Oper) (j : Nat) : Option Nat := match all[j]? with
  | some o => match o.op with
    | .insert _ _ _ v => match s.op v with
      | .mp i => some i
      | _ => none
    | _ => none
  | none => none
def litUseOk (all : Array Oper) (spec : List (Nat × List Nat)) (root : Nat) (s : St U) : Bool :=
  nodupB ((spec.flatMap (·.2)).filterMap (litUse s all)) && !(((spec.flatMap (·.2)).filterMap (litUse s all)).contains root) && (spec.all fun p => Nat.beq p.1 root || ((spec.flatMap (·.2)).filterMap (litUse s all)).contains p.1) && (spec.flatMap (·.2)).all fun j => match litUse s all j with
    | some m => match lk spec m with
      | some is => is.all fun i => ((ahead all.toList).getD j 0).testBit i
      | none => false
    | none => true
def Env.lazy (E : Env U) : Env U := { E with lz := true }
def litB (spec : List (Nat × List Nat)) (i : Nat) (o : Oper) : Bool := match o.op with
  | .insert _ x _ _ => (match x with
    | .tmp n => match lk spec n with
      | some is => is.contains i
      | none => false
    | _ => false) && o.guard.isNone && o.dst.isNone
  | .makeMap _ none => (match o.dst with
    | some d => (lk spec d).isSome
    | none => false) && o.guard.isNone
  | _ => !((spec.flatMap (·.2)).contains i)
def litOkB (all : Array Oper) (spec : List (Nat × List Nat)) : Bool :=
  (all.toList.zipIdx.all fun (o, i) => litB spec i o) && nodupB (spec.flatMap (·.2)) && nodupB (spec.map (·.1)) && spec.all fun p => (match p.2 with | [] => false | _ => true) && p.2.all fun i => match all[i]? with
    | some o => isIns o.op && steadyOps all.toList i o && (match o.op with | .insert _ (.tmp n) _ _ => Nat.beq n p.1 | _ => false)
    | none => false
def litFree (E : Env U) (ms : List Nat) (o : Oper) (s : St U) : Bool := match o.op with
  | .insert .. => true
  | .makeMap t _ => plainMk E t
  | _ => !(isX E o s.op) && !((relL o s.op).any fun n => ms.any (Nat.beq n))
where
  relL (o : Oper) (ev : Operand → AV U) : List Nat := match o.op with
    | .load _ x | .store _ x _ => (touchId (ev x)).toList
    | .indexAddr _ x _ => (seeId (ev x)).toList
    | .alloc _ | .box _ _ | .buildSlice .. | .makeSlice .. => o.dst.toList
    | .move x | .assign x => bif isNil (ev x) then o.dst.toList else []
    | .call c => match seeArg c with
      | some a => (tipId (ev a)).toList ++ o.dst.toList
      | none => []
    | _ => []
def litCk (E : Env U) (all : Array Oper) (ms : List Nat) (j : Nat) (o : Oper) (s : St U) : Bool := drawCk E all.toList (ahead all.toList) j o s && litFree E ms o s
def litK (E : Env U) (all : Array Oper) (spec : List (Nat × List Nat)) (s : St U) (K : St U → Option ρ) : Option ρ := match litN E all s spec [] with
  | some ((root, c) :: _) => bif litUseOk all spec root s then K { t := s.t.map fun p => (p.1, frzW root c.av p.2), o := (spec.map fun p => (p.1, .dead)) ++ s.o } else none
  | _ => none
def lw : Code → Nat
  | .seq a b => match keyOf a with | some _ => lw a | none => lw b
  | .block _ c => lw c + 1
  | .loop c => lw c
  | .scope c => lw c
  | .cond _ a b => (match keyOf a with | some _ => lw a | none => lw b) + 1
  | _ => 0
def jkey (c : Code) : Nat := match keyOf c with
  | some k => 1000 * k + lw c
  | none => 0
def joinK {ρ : Type} (j : Option (JDen U)) (run : {σ : Type} → (Out U → Option σ) → Option σ) (K : Out U → Option ρ) : Option ρ := match j with
  | none => run K
  | some j => (run j.re).bind fun y => j.finK y K
def escOf (E : Env U) (ops : List Oper) : List Operand :=
  let e := ops.flatMap fun o => escapes E o.op
  e ++ ops.flatMap fun o => match o.op, o.dst with
    | .move x, some d => bif e.any (fun y => match y with | .tmp t => Nat.beq t d | _ => false) then [x] else []
    | .assign x, some d => bif e.any (fun y => match y with | .tmp t => Nat.beq t d | _ => false) then [x] else []
    | _, _ => []
def resS (E : Env U) (s : St U) : Option (St U) := match resV E s with
  | some v => some ⟨(0, v) :: E.gh.map fun i => (gb + i, s.get (gb + i)), s.o⟩
  | none => none
def ukey : Code → Code → Option Nat
  | .region id ops _, .block _ (.loop _) => match ops.back? with
    | some o => match o.op with
      | .range .. => some (id + 1000000000)
      | _ => none
    | none => none
  | _, _ => none
def lkey : Code → Option Nat
  | .seq a b => ukey a b
  | c => keyOf c
noncomputable def evC (E : Env U) (c : Code) {ρ : Type} (s : St U) (K : Out U → Option ρ) : Option ρ := match c with
  | .skip => K (.norm s)
  | .region id ops draw => joinK (E.jd (1000 * id)) (fun {_} K => match draw with
    | false => regC E (fun _ _ _ => true) ops 0 ops.toList (frzLds (frzCaps (frzAll s (escOf E ops.toList)) (capsOf E ops.toList)) (E.lds id)) fun s' => K (.norm s')
    | true => bif drawOkB ops (ahead ops.toList) then (match E.lit id with
      | none => regC E (drawCk E ops.toList (ahead ops.toList)) ops 0 ops.toList (frzLds (frzCaps (frzAll s (escOf E ops.toList)) (capsOf E ops.toList)) (E.lds id)) fun s' => K (.norm s')
      | some spec => bif litOkB ops spec then regC E.lazy (litCk E.lazy ops (spec.map (·.1))) ops 0 ops.toList (frzLds (frzCaps (frzAll s (escOf E ops.toList)) (capsOf E ops.toList)) (E.lds id)) fun s' => litK E ops spec s' fun s'' => K (.norm s'') else none) else none) K
  | .seq a b => match (ukey a b).bind E.ld with
    | some d => match d.un s with
      | none => none
      | some x => (d.f x).bind fun y => d.finK y K
    | none => evC E a s fun
      | .norm s' => evC E b s' K
      | r => K r
  | .cond c a b => match s.op c with
    | .flat (.bool t) => joinK (E.jd (jkey (.cond c a b))) (fun {_} K => cond t (evC E a s K) (evC E b s K)) K
    | _ => none
  | .block id c => joinK (E.jd (jkey (.block id c))) (fun {_} K => evC E c s fun
    | .exit id' s' => bif Nat.beq id' id then K (.norm s') else K (.exit id' s')
    | r => K r) K
  | .loop c => match keyOf c with
    | none => none
    | some k => match E.ld k with
      | none => none
      | some d => match d.un s with
        | none => none
        | some x => (d.f x).bind fun y => d.finK y K
  | .exit id => K (.exit id s)
  | .scope _ => none
  | .label _ => K (.norm s)
  | .ret => match resS E (fzRes E E.results E.rts (bif E.own then s else frzRes s E.results)) with
    | some m => K (.ret m)
    | none => none
  | _ => none
noncomputable def runF (E : Env U) (body : Code) (m : St U) (K : St U → Option ρ) : Option ρ :=
  evC E body m fun
    | .ret v => K v
    | .norm s => match resS E s with
      | some v => K v
      | none => none
    | _ => none
end Go.Ev
