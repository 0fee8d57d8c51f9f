import Derived.Test.YtbchcjlllddlpaaGreatEvC
import Derived.Test.YtbchcjlllddlpaaGreatProg
/-! This seat's types, told as plain data. Written by gen.py. -/
namespace Go.Proofs.YtbchcjlllddlpaaGreat
open Go Go.Ev
noncomputable section
set_option linter.unusedVariables false
structure Zz where
  Zey : Int
  f_Who : Int
  f_A : Int
  f_B : Int
  f_C : Int
  f_N : Int
  f_Bend : Int
  f_L : List Int
noncomputable def Zz.zero : Zz := ⟨0, 0, 0, 0, 0, 0, 0, []⟩
structure Zg where
  f_Neg : Bool
  f_C : (Int × Int)
  Zn : Int
noncomputable def Zg.zero : Zg := ⟨false, (0, 0), 0⟩
structure Zb where
  Zdu : Int
  Zo : Zg
  Zeq : Int
noncomputable def Zb.zero : Zb := ⟨0, Zg.zero, 0⟩
structure Zc where
  Zdf : Int
  Zdc : List Zb
  f_Of : Int
noncomputable def Zc.zero : Zc := ⟨0, [], 0⟩
structure Zd where
  Zk : List Bool
  Zi : List Int
noncomputable def Zd.zero : Zd := ⟨[], []⟩
structure Ze where
  Zbd : Int
  f_l : List Zc
  f_t : Zd
noncomputable def Ze.zero : Ze := ⟨0, [], Zd.zero⟩
structure Zl where
  Zk : List Bool
  Zi : List Int
noncomputable def Zl.zero : Zl := ⟨[], []⟩
structure Zac where
  Zn : Int
  f_L : List Zc
  f_T : Zl
noncomputable def Zac.zero : Zac := ⟨0, [], Zl.zero⟩
inductive C where
  | Zc
  | i64
  | Zb
  | Zz
  | u32
  | u64
  | a2_i64
  | Zg
  | bool
abbrev El : C → Type
  | .Zc => Zc
  | .i64 => Int
  | .Zb => Zb
  | .Zz => Zz
  | .u32 => Int
  | .u64 => Int
  | .a2_i64 => (Int × Int)
  | .Zg => Zg
  | .bool => Bool
abbrev U : Univ := ⟨C, El⟩
noncomputable def deqC : DecidableEq U.C := fun a b => by cases a <;> cases b <;> first | exact isTrue rfl | exact isFalse (fun h => by cases h)
noncomputable def cd_Spyxhand_Act : Cd U Zz := Cd.iso (Cd.pair (Cd.int .i64) (Cd.pair (Cd.int .i64) (Cd.pair (Cd.int .i64) (Cd.pair (Cd.int .i64) (Cd.pair (Cd.int .i64) (Cd.pair (Cd.int .i64) (Cd.pair (Cd.int .i64) (Cd.pair (Cd.row deqC C.i64) Cd.unit)))))))) (fun x => ⟨x.1, x.2.1, x.2.2.1, x.2.2.2.1, x.2.2.2.2.1, x.2.2.2.2.2.1, x.2.2.2.2.2.2.1, x.2.2.2.2.2.2.2.1⟩) (fun x => (x.Zey, x.f_Who, x.f_A, x.f_B, x.f_C, x.f_N, x.f_Bend, x.f_L, ())) (fun _ => rfl)
noncomputable def Zcy : Cd U Zg := Cd.iso (Cd.pair Cd.bool (Cd.pair (Cd.pair (Cd.int .u64) (Cd.int .u64)) (Cd.pair (Cd.int .i64) Cd.unit))) (fun x => ⟨x.1, x.2.1, x.2.2.1⟩) (fun x => (x.f_Neg, x.f_C, x.Zn, ())) (fun _ => rfl)
noncomputable def cd_Sapi_Line : Cd U Zb := Cd.iso (Cd.pair (Cd.int .i64) (Cd.pair Zcy (Cd.pair (Cd.int .i64) Cd.unit))) (fun x => ⟨x.1, x.2.1, x.2.2.1⟩) (fun x => (x.Zdu, x.Zo, x.Zeq, ())) (fun _ => rfl)
noncomputable def cd_Sapi_Entry : Cd U Zc := Cd.iso (Cd.pair (Cd.int .i64) (Cd.pair (Cd.row deqC C.Zb) (Cd.pair (Cd.int .i64) Cd.unit))) (fun x => ⟨x.1, x.2.1, x.2.2.1⟩) (fun x => (x.Zdf, x.Zdc, x.f_Of, ())) (fun _ => rfl)
noncomputable def Zae : Cd U Zd := Cd.iso (Cd.pair (Cd.arr 12 false Cd.bool) (Cd.pair (Cd.arr 12 0 (Cd.int .i64)) Cd.unit)) (fun x => ⟨x.1, x.2.1⟩) (fun x => (x.Zk, x.Zi, ())) (fun _ => rfl)
noncomputable def Zbw : Cd U Zl := Cd.iso (Cd.pair (Cd.arr 12 false Cd.bool) (Cd.pair (Cd.arr 12 0 (Cd.int .i64)) Cd.unit)) (fun x => ⟨x.1, x.2.1⟩) (fun x => (x.Zk, x.Zi, ())) (fun _ => rfl)
noncomputable def enc_Sapi_Entry (x : Zc) : List (AV U) := [.flat (.int .i64 x.Zdf), .row C.Zb x.Zdc, .flat (.int .i64 x.f_Of)]
noncomputable def dec_Sapi_Entry : List (AV U) → Option Zc | [.flat (.int .i64 x1), .row C.Zb x2, .flat (.int .i64 x3)] => some (⟨x1, x2, x3⟩ : Zc) | _ => none
theorem dec_enc_Sapi_Entry (cs : List (AV U)) (x : Zc) (h : dec_Sapi_Entry cs = some x) : cs = enc_Sapi_Entry x := by
  unfold dec_Sapi_Entry at h
  split at h
  · cases h; rfl
  · cases h
noncomputable def enc_i64 (x : Int) : List (AV U) := [.flat (.int .i64 x)]
noncomputable def dec_i64 : List (AV U) → Option Int | [.flat (.int .i64 x1)] => some x1 | _ => none
theorem dec_enc_i64 (cs : List (AV U)) (x : Int) (h : dec_i64 cs = some x) : cs = enc_i64 x := by
  unfold dec_i64 at h
  split at h
  · cases h; rfl
  · cases h
noncomputable def enc_Sapi_Line (x : Zb) : List (AV U) := [.flat (.int .i64 x.Zdu), .flat (.bool x.Zo.f_Neg), .flat (.int .u64 x.Zo.f_C.1), .flat (.int .u64 x.Zo.f_C.2), .flat (.int .i64 x.Zo.Zn), .flat (.int .i64 x.Zeq)]
noncomputable def dec_Sapi_Line : List (AV U) → Option Zb | [.flat (.int .i64 x1), .flat (.bool x2), .flat (.int .u64 x3), .flat (.int .u64 x4), .flat (.int .i64 x5), .flat (.int .i64 x6)] => some (⟨x1, (⟨x2, (x3, x4), x5⟩ : Zg), x6⟩ : Zb) | _ => none
theorem dec_enc_Sapi_Line (cs : List (AV U)) (x : Zb) (h : dec_Sapi_Line cs = some x) : cs = enc_Sapi_Line x := by
  unfold dec_Sapi_Line at h
  split at h
  · cases h; rfl
  · cases h
noncomputable def enc_Spyxhand_Act (x : Zz) : List (AV U) := cd_Spyxhand_Act.enc x
noncomputable def dec_Spyxhand_Act (cs : List (AV U)) : Option Zz := cd_Spyxhand_Act.full cs
theorem dec_enc_Spyxhand_Act (cs : List (AV U)) (x : Zz) (h : dec_Spyxhand_Act cs = some x) : cs = enc_Spyxhand_Act x := Cd.full_ok h
noncomputable def enc_u32 (x : Int) : List (AV U) := [.flat (.int .u32 x)]
noncomputable def dec_u32 : List (AV U) → Option Int | [.flat (.int .u32 x1)] => some x1 | _ => none
theorem dec_enc_u32 (cs : List (AV U)) (x : Int) (h : dec_u32 cs = some x) : cs = enc_u32 x := by
  unfold dec_u32 at h
  split at h
  · cases h; rfl
  · cases h
noncomputable def enc_u64 (x : Int) : List (AV U) := [.flat (.int .u64 x)]
noncomputable def dec_u64 : List (AV U) → Option Int | [.flat (.int .u64 x1)] => some x1 | _ => none
theorem dec_enc_u64 (cs : List (AV U)) (x : Int) (h : dec_u64 cs = some x) : cs = enc_u64 x := by
  unfold dec_u64 at h
  split at h
  · cases h; rfl
  · cases h
noncomputable def enc_a2_i64 (x : (Int × Int)) : List (AV U) := [.flat (.int .i64 x.1), .flat (.int .i64 x.2)]
noncomputable def dec_a2_i64 : List (AV U) → Option (Int × Int) | [.flat (.int .i64 x1), .flat (.int .i64 x2)] => some (x1, x2) | _ => none
theorem dec_enc_a2_i64 (cs : List (AV U)) (x : (Int × Int)) (h : dec_a2_i64 cs = some x) : cs = enc_a2_i64 x := by
  unfold dec_a2_i64 at h
  split at h
  · cases h; rfl
  · cases h
noncomputable def enc_Sapi_Dec (x : Zg) : List (AV U) := [.flat (.bool x.f_Neg), .flat (.int .u64 x.f_C.1), .flat (.int .u64 x.f_C.2), .flat (.int .i64 x.Zn)]
noncomputable def dec_Sapi_Dec : List (AV U) → Option Zg | [.flat (.bool x1), .flat (.int .u64 x2), .flat (.int .u64 x3), .flat (.int .i64 x4)] => some (⟨x1, (x2, x3), x4⟩ : Zg) | _ => none
theorem dec_enc_Sapi_Dec (cs : List (AV U)) (x : Zg) (h : dec_Sapi_Dec cs = some x) : cs = enc_Sapi_Dec x := by
  unfold dec_Sapi_Dec at h
  split at h
  · cases h; rfl
  · cases h
noncomputable def enc_bool (x : Bool) : List (AV U) := [.flat (.bool x)]
noncomputable def dec_bool : List (AV U) → Option Bool | [.flat (.bool x1)] => some x1 | _ => none
theorem dec_enc_bool (cs : List (AV U)) (x : Bool) (h : dec_bool cs = some x) : cs = enc_bool x := by
  unfold dec_bool at h
  split at h
  · cases h; rfl
  · cases h
noncomputable def Zee (x y : (Int × Int)) : Bool := (x.1 == y.1) && (x.2 == y.2)
noncomputable def keq_Sapi_Dec (x y : Zg) : Bool := (x.f_Neg == y.f_Neg) && ((x.f_C.1 == y.f_C.1) && ((x.f_C.2 == y.f_C.2) && (x.Zn == y.Zn)))
noncomputable def DD : Codec U where
  size := fun c => match c with | .Zc => 3 | .i64 => 1 | .Zb => 6 | .Zz => 8 | .u32 => 1 | .u64 => 1 | .a2_i64 => 2 | .Zg => 4 | .bool => 1
  enc := fun c => match c with | .Zc => enc_Sapi_Entry | .i64 => enc_i64 | .Zb => enc_Sapi_Line | .Zz => enc_Spyxhand_Act | .u32 => enc_u32 | .u64 => enc_u64 | .a2_i64 => enc_a2_i64 | .Zg => enc_Sapi_Dec | .bool => enc_bool
  dec := fun c => match c with | .Zc => dec_Sapi_Entry | .i64 => dec_i64 | .Zb => dec_Sapi_Line | .Zz => dec_Spyxhand_Act | .u32 => dec_u32 | .u64 => dec_u64 | .a2_i64 => dec_a2_i64 | .Zg => dec_Sapi_Dec | .bool => dec_bool
  dflt := fun c => match c with | .Zc => (Zc.zero : Zc) | .i64 => (0 : Int) | .Zb => (Zb.zero : Zb) | .Zz => (Zz.zero : Zz) | .u32 => (0 : Int) | .u64 => (0 : Int) | .a2_i64 => ((0, 0) : (Int × Int)) | .Zg => (Zg.zero : Zg) | .bool => (false : Bool)
  deq := deqC
  kinds := fun c => match c with | .Zc => none | .i64 => none | .Zb => none | .Zz => none | .u32 => none | .u64 => none | .a2_i64 => some [0, 0] | .Zg => some [1, 0, 0, 0] | .bool => none
  keq := fun c => match c with | .Zc => fun _ _ => false | .i64 => fun _ _ => false | .Zb => fun _ _ => false | .Zz => fun _ _ => false | .u32 => fun _ _ => false | .u64 => fun _ _ => false | .a2_i64 => Zee | .Zg => keq_Sapi_Dec | .bool => fun _ _ => false
theorem lawful : Lawful DD where
  enc_len := fun c x => by cases c <;> rfl
  dec_enc := fun c cs x h => by
    cases c with
    | Zc => exact dec_enc_Sapi_Entry cs x h
    | i64 => exact dec_enc_i64 cs x h
    | Zb => exact dec_enc_Sapi_Line cs x h
    | Zz => exact dec_enc_Spyxhand_Act cs x h
    | u32 => exact dec_enc_u32 cs x h
    | u64 => exact dec_enc_u64 cs x h
    | a2_i64 => exact dec_enc_a2_i64 cs x h
    | Zg => exact dec_enc_Sapi_Dec cs x h
    | bool => exact dec_enc_bool cs x h
  enc_ok := fun c x v hv => List.all_eq_true.mp (show (DD.enc c x).all okCell = true by cases c <;> rfl) v hv
  keq_ok := fun c ks x y h => by
    cases c with
    | Zc => cases h
    | i64 => cases h
    | Zb => cases h
    | Zz => cases h
    | u32 => cases h
    | u64 => cases h
    | a2_i64 => cases h; rfl
    | Zg => cases h; rfl
    | bool => cases h
  enc_c0 := fun c x v hv => List.all_eq_true.mp (show (DD.enc c x).all c0 = true by cases c <;> rfl) v hv
noncomputable def row_Sapi_Entry : AV U → Option (List Zc) | .row C.Zc x => some x | .tip _ C.Zc x => some x | .flat (.slice none 0 0) => some [] | _ => none
theorem row_Sapi_Entry_fit {ren : List (Nat × Option Nat)} {v : AV U} {x : List Zc} (h : row_Sapi_Entry v = some x) : FV0 ren v (.row C.Zc x) := by
  unfold row_Sapi_Entry at h
  split at h
  · cases h; exact FV.row rfl rfl
  · cases h; exact FV.row rfl rfl
  · cases h; exact FV.nilRow rfl
  · cases h
noncomputable def Zfg (o : List (Nat × Ev.Obj U)) (sz : Nat) : AV U → Option (Option Nat × List Zc) | .tip i C.Zc x => (match lk o i with | some (.tip z) => cond (Nat.beq z sz) (some (some i, x)) none | _ => none) | .flat (.slice none 0 0) => some (none, []) | _ => none
theorem Zel {ren : List (Nat × Option Nat)} {s : St U} {sz cid : Nat} {v : AV U} {q : Option Nat × List Zc} (h : Zfg s.o sz v = some q) (hr : lk ren cid = some q.1) : FV0 ren v (.tip cid C.Zc q.2) ∧ FO ren s cid (.tip sz) := by
  unfold Zfg at h
  split at h
  · split at h
    · rename_i hz
      obtain ⟨hb, h2⟩ := Zx h
      cases h2
      have hb := Nat.eq_of_beq_eq_true hb
      subst hb
      exact ⟨FV.tip rfl hr, _, hr, fun aid ha => by cases ha; exact hz⟩
    · cases h
  · cases h
    exact ⟨FV.nilTip rfl hr, _, hr, fun aid ha => by cases ha⟩
  · cases h
noncomputable def vec_Sapi_Entry (o : List (Nat × Ev.Obj U)) : AV U → Option (Option Nat × List Zc) | .vs i => (match lk o i with | some (.vec C.Zc x) => some (some i, x) | _ => none) | .flat (.slice none 0 0) => some (none, []) | _ => none
theorem vec_Sapi_Entry_fit {ren : List (Nat × Option Nat)} {s : St U} {cid : Nat} {v : AV U} {q : Option Nat × List Zc} (h : vec_Sapi_Entry s.o v = some q) (hr : lk ren cid = some q.1) : FV0 ren v (.vs cid) ∧ FO ren s cid (.vec C.Zc q.2) := by
  unfold vec_Sapi_Entry at h
  split at h
  · split at h
    · rename_i hz
      cases h
      exact ⟨FV.vs rfl hr, _, hr, fun aid ha => (by cases ha; exact hz), fun ha => (by cases ha)⟩
    · cases h
  · cases h
    exact ⟨FV.nilVs rfl hr, _, hr, fun aid ha => (by cases ha), fun _ => rfl⟩
  · cases h
noncomputable def mc : List (Nat × (U.C × U.C)) := [(32, (C.a2_i64, C.Zg)), (33, (C.a2_i64, C.Zg))]
noncomputable def ec : List (Nat × U.C) := [(22, C.i64), (24, C.Zb), (51, C.a2_i64), (54, C.Zz), (99, C.Zc), (118, C.i64), (190, C.Zg)]
theorem mixed : Tryz.prog.follows .mixedOrders = true := by kernel_rfl
noncomputable def sl0 : List (Nat × SDen U) := []
theorem sl0_ok : ∀ p ∈ sl0, SfOk Tryz.prog DD p.1 p.2 ∧ ∀ args w, (callFunc p.1 args).run Tryz.prog w = .ok (.enter p.1 args) w := fun p hp => (List.not_mem_nil hp).elim
noncomputable def Zbv (i b : Nat) : Tp U Ze := tIo i (bLitT i [vInt .i64, vTip DD (b + 2) C.Zc 3] Zae) (fun x => (x.Zbd, x.f_l, x.f_t, ())) (fun h => (⟨h.1, h.2.1, h.2.2.1⟩ : Ze)) (fun _ => rfl)
noncomputable def Zde (i b : Nat) : Tp U Zac := tIo i (bLitT i [vInt .i64, vTip DD (b + 2) C.Zc 3] Zbw) (fun x => (x.Zn, x.f_L, x.f_T, ())) (fun h => (⟨h.1, h.2.1, h.2.2.1⟩ : Zac)) (fun _ => rfl)
noncomputable def n0 : Nat → Bool := fun _ => false
noncomputable def n00 : FuncId → Nat → Bool := fun _ _ => false
noncomputable def nl0 : Nat → List Nat := fun _ => []
noncomputable def mkE (fn : Func) (fl : List (Pk Tryz.prog DD)) (jl : List (Nat × Jk U)) (ll : List (Nat × LDen U)) (md : List (Nat × (Nat × U.C))) (dy : TypeId → Bool) (vc : Nat → Bool) (gh : List Nat) (ow : Bool) (io : FuncId → Nat → Bool) (ld : Nat → List Nat) (nl : List (Pk Tryz.prog DD)) : Env U := { P := Tryz.prog, D := DD, fd := lk (fds fl), sf := lk sl0, ld := lk ll, jd := lk (jds jl), mode := lk md, elc := lk ec, mpc := lk mc, rts := fn.resultTypes.toList, dyn := dy, vecs := vc, results := fn.results.toList, gh := gh, own := ow, io := io, lds := ld, fn := lk (fds nl) }
theorem Zbq (fn : Func) (fl : List (Pk Tryz.prog DD)) (jl : List (Nat × Jk U)) (ll : List (Nat × LDen U)) (md : List (Nat × (Nat × U.C))) (dy : TypeId → Bool) (vc : Nat → Bool) (gh : List Nat) (ow : Bool) (io : FuncId → Nat → Bool) (ld : Nat → List Nat) (nl : List (Pk Tryz.prog DD)) : EnvOk (mkE fn fl jl ll md dy vc gh ow io ld nl) := envOk lawful (fds fl) sl0 ll (jds jl) _ _ _ _ _ _ _ _ _ _ _ (fds nl) (fds_ok fl) sl0_ok (jds_ok jl) (fds_ok nl)
end
end Go.Proofs.YtbchcjlllddlpaaGreat
