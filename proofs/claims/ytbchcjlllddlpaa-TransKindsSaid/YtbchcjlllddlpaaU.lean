import Derived.Test.YtbchcjlllddlpaaEvN
import Derived.Test.YtbchcjlllddlpaaProg
/-! This seat's types, told as plain data. Written by gen.py. -/
namespace Go.Proofs.Ytbchcjlllddlpaa
open Go Go.Ev
noncomputable section
set_option linter.unusedVariables false
structure Sapi_Dec where
  f_Neg : Bool
  f_C : (Int × Int)
  f_Scale : Int
noncomputable def Sapi_Dec.zero : Sapi_Dec := ⟨false, (0, 0), 0⟩
structure Srate_Key where
  f_Period : Int
  f_Kind : Int
noncomputable def Srate_Key.zero : Srate_Key := ⟨0, 0⟩
structure Srate_Table where
  f_l : List (Srate_Key × Sapi_Dec)
noncomputable def Srate_Table.zero : Srate_Table := ⟨[]⟩
inductive C where
  | i64
  | a2_i64
  | Sapi_Dec
  | u32
  | u64
  | Srate_Key
abbrev El : C → Type
  | .i64 => Int
  | .a2_i64 => (Int × Int)
  | .Sapi_Dec => Sapi_Dec
  | .u32 => Int
  | .u64 => Int
  | .Srate_Key => Srate_Key
abbrev U : Univ := ⟨C, El⟩
noncomputable def deqC : DecidableEq U.C := fun a b => by cases a <;> cases b <;> first | exact isTrue rfl | exact isFalse (fun h => by cases h)
noncomputable def cd_Sapi_Dec : Cd U Sapi_Dec := Cd.iso (Cd.pair Cd.bool (Cd.pair (Cd.pair (Cd.int .u64) (Cd.int .u64)) (Cd.pair (Cd.int .i64) Cd.unit))) (fun x => ⟨x.1, x.2.1, x.2.2.1⟩) (fun x => (x.f_Neg, x.f_C, x.f_Scale, ())) (fun _ => rfl)
noncomputable def cd_Srate_Key : Cd U Srate_Key := Cd.iso (Cd.pair (Cd.int .i64) (Cd.pair (Cd.int .i64) Cd.unit)) (fun x => ⟨x.1, x.2.1⟩) (fun x => (x.f_Period, x.f_Kind, ())) (fun _ => rfl)
noncomputable def enc_i64 (x : Int) : List (AV U) := [.flat (.int .i64 x)]
noncomputable def dec_i64 : List (AV U) → Option Int | [.flat (.int .i64 x1)] => some x1 | _ => none
theorem dec_enc_i64 (cs : List (AV U)) (x : Int) (h : dec_i64 cs = some x) : cs = enc_i64 x := by
  unfold dec_i64 at h
  split at h
  · cases h; rfl
  · cases h
noncomputable def enc_a2_i64 (x : (Int × Int)) : List (AV U) := [.flat (.int .i64 x.1), .flat (.int .i64 x.2)]
noncomputable def dec_a2_i64 : List (AV U) → Option (Int × Int) | [.flat (.int .i64 x1), .flat (.int .i64 x2)] => some (x1, x2) | _ => none
theorem dec_enc_a2_i64 (cs : List (AV U)) (x : (Int × Int)) (h : dec_a2_i64 cs = some x) : cs = enc_a2_i64 x := by
  unfold dec_a2_i64 at h
  split at h
  · cases h; rfl
  · cases h
noncomputable def enc_Sapi_Dec (x : Sapi_Dec) : List (AV U) := [.flat (.bool x.f_Neg), .flat (.int .u64 x.f_C.1), .flat (.int .u64 x.f_C.2), .flat (.int .i64 x.f_Scale)]
noncomputable def dec_Sapi_Dec : List (AV U) → Option Sapi_Dec | [.flat (.bool x1), .flat (.int .u64 x2), .flat (.int .u64 x3), .flat (.int .i64 x4)] => some (⟨x1, (x2, x3), x4⟩ : Sapi_Dec) | _ => none
theorem dec_enc_Sapi_Dec (cs : List (AV U)) (x : Sapi_Dec) (h : dec_Sapi_Dec cs = some x) : cs = enc_Sapi_Dec x := by
  unfold dec_Sapi_Dec at h
  split at h
  · cases h; rfl
  · cases h
noncomputable def enc_u32 (x : Int) : List (AV U) := [.flat (.int .u32 x)]
noncomputable def dec_u32 : List (AV U) → Option Int | [.flat (.int .u32 x1)] => some x1 | _ => none
theorem dec_enc_u32 (cs : List (AV U)) (x : Int) (h : dec_u32 cs = some x) : cs = enc_u32 x := by
  unfold dec_u32 at h
  split at h
  · cases h; rfl
  · cases h
noncomputable def enc_u64 (x : Int) : List (AV U) := [.flat (.int .u64 x)]
noncomputable def dec_u64 : List (AV U) → Option Int | [.flat (.int .u64 x1)] => some x1 | _ => none
theorem dec_enc_u64 (cs : List (AV U)) (x : Int) (h : dec_u64 cs = some x) : cs = enc_u64 x := by
  unfold dec_u64 at h
  split at h
  · cases h; rfl
  · cases h
noncomputable def enc_Srate_Key (x : Srate_Key) : List (AV U) := [.flat (.int .i64 x.f_Period), .flat (.int .i64 x.f_Kind)]
noncomputable def dec_Srate_Key : List (AV U) → Option Srate_Key | [.flat (.int .i64 x1), .flat (.int .i64 x2)] => some (⟨x1, x2⟩ : Srate_Key) | _ => none
theorem dec_enc_Srate_Key (cs : List (AV U)) (x : Srate_Key) (h : dec_Srate_Key cs = some x) : cs = enc_Srate_Key x := by
  unfold dec_Srate_Key at h
  split at h
  · cases h; rfl
  · cases h
noncomputable def keq_a2_i64 (x y : (Int × Int)) : Bool := (x.1 == y.1) && (x.2 == y.2)
noncomputable def keq_Srate_Key (x y : Srate_Key) : Bool := (x.f_Period == y.f_Period) && (x.f_Kind == y.f_Kind)
noncomputable def DD : Codec U where
  size := fun c => match c with | .i64 => 1 | .a2_i64 => 2 | .Sapi_Dec => 4 | .u32 => 1 | .u64 => 1 | .Srate_Key => 2
  enc := fun c => match c with | .i64 => enc_i64 | .a2_i64 => enc_a2_i64 | .Sapi_Dec => enc_Sapi_Dec | .u32 => enc_u32 | .u64 => enc_u64 | .Srate_Key => enc_Srate_Key
  dec := fun c => match c with | .i64 => dec_i64 | .a2_i64 => dec_a2_i64 | .Sapi_Dec => dec_Sapi_Dec | .u32 => dec_u32 | .u64 => dec_u64 | .Srate_Key => dec_Srate_Key
  dflt := fun c => match c with | .i64 => (0 : Int) | .a2_i64 => ((0, 0) : (Int × Int)) | .Sapi_Dec => (Sapi_Dec.zero : Sapi_Dec) | .u32 => (0 : Int) | .u64 => (0 : Int) | .Srate_Key => (Srate_Key.zero : Srate_Key)
  deq := deqC
  kinds := fun c => match c with | .i64 => none | .a2_i64 => some [0, 0] | .Sapi_Dec => none | .u32 => none | .u64 => none | .Srate_Key => some [0, 0]
  keq := fun c => match c with | .i64 => fun _ _ => false | .a2_i64 => keq_a2_i64 | .Sapi_Dec => fun _ _ => false | .u32 => fun _ _ => false | .u64 => fun _ _ => false | .Srate_Key => keq_Srate_Key
theorem lawful : Lawful DD where
  enc_len := fun c x => by cases c <;> rfl
  dec_enc := fun c cs x h => by
    cases c with
    | i64 => exact dec_enc_i64 cs x h
    | a2_i64 => exact dec_enc_a2_i64 cs x h
    | Sapi_Dec => exact dec_enc_Sapi_Dec cs x h
    | u32 => exact dec_enc_u32 cs x h
    | u64 => exact dec_enc_u64 cs x h
    | Srate_Key => exact dec_enc_Srate_Key cs x h
  enc_ok := fun c x v hv => List.all_eq_true.mp (show (DD.enc c x).all okCell = true by cases c <;> rfl) v hv
  keq_ok := fun c ks x y h => by
    cases c with
    | i64 => cases h
    | a2_i64 => cases h; rfl
    | Sapi_Dec => cases h
    | u32 => cases h
    | u64 => cases h
    | Srate_Key => cases h; rfl
  enc_c0 := fun c x v hv => List.all_eq_true.mp (show (DD.enc c x).all c0 = true by cases c <;> rfl) v hv
noncomputable def mc : List (Nat × (U.C × U.C)) := [(29, (C.a2_i64, C.Sapi_Dec)), (30, (C.a2_i64, C.Sapi_Dec)), (101, (C.Srate_Key, C.Sapi_Dec))]
noncomputable def ec : List (Nat × U.C) := [(68, C.i64), (106, C.i64), (112, C.a2_i64), (165, C.Sapi_Dec), (213, C.Srate_Key)]
theorem mixed : Try.prog.follows .mixedOrders = true := by kernel_rfl
noncomputable def sl0 : List (Nat × SDen U) := []
theorem sl0_ok : ∀ p ∈ sl0, SfOk Try.prog DD p.1 p.2 ∧ ∀ args w, (callFunc p.1 args).run Try.prog w = .ok (.enter p.1 args) w := fun p hp => (List.not_mem_nil hp).elim
noncomputable def io_Srate_Table_m (i b : Nat) : Tp U Srate_Table := tIo i (bLit i [vMap DD (b + 1) true true true C.Srate_Key C.Sapi_Dec]) (fun x => (x.f_l, ())) (fun h => (⟨h.1⟩ : Srate_Table)) (fun _ => rfl)
noncomputable def n0 : Nat → Bool := fun _ => false
noncomputable def n00 : FuncId → Nat → Bool := fun _ _ => false
noncomputable def nl0 : Nat → List Nat := fun _ => []
noncomputable def nli : Nat → Option (Nat × List Nat) := fun _ => none
noncomputable def mkE (fn : Func) (fl : List (Pk Try.prog DD)) (jl : List (Nat × Jk U)) (ll : List (Nat × LDen U)) (md : List (Nat × (Nat × U.C))) (dy : TypeId → Bool) (vc : Nat → Bool) (gh : List Nat) (ow : Bool) (io : FuncId → Nat → Bool) (ld : Nat → List Nat) (nl : List (Pk Try.prog DD)) (li : Nat → Option (Nat × List Nat)) : Env U := { P := Try.prog, D := DD, fd := lk (fds fl), sf := lk sl0, ld := lk ll, jd := lk (jds jl), mode := lk md, elc := lk ec, mpc := lk mc, rts := fn.resultTypes.toList, dyn := dy, vecs := vc, results := fn.results.toList, gh := gh, own := ow, io := io, lds := ld, fn := lk (fds nl), lit := li }
theorem mkE_ok (fn : Func) (fl : List (Pk Try.prog DD)) (jl : List (Nat × Jk U)) (ll : List (Nat × LDen U)) (md : List (Nat × (Nat × U.C))) (dy : TypeId → Bool) (vc : Nat → Bool) (gh : List Nat) (ow : Bool) (io : FuncId → Nat → Bool) (ld : Nat → List Nat) (nl : List (Pk Try.prog DD)) (li : Nat → Option (Nat × List Nat)) : EnvOk (mkE fn fl jl ll md dy vc gh ow io ld nl li) := envOk lawful (fds fl) sl0 ll (jds jl) _ _ _ _ _ _ _ _ _ _ _ (fds nl) li (fds_ok fl) sl0_ok (jds_ok jl) (fds_ok nl)
end
end Go.Proofs.Ytbchcjlllddlpaa
