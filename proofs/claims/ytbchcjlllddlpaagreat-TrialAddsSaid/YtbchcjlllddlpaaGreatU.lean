import Derived.Test.YtbchcjlllddlpaaGreatEvC
import Derived.Test.YtbchcjlllddlpaaGreatProg
/-! This seat's types, told as plain data. Written by gen.py. -/
namespace Go.Proofs.YtbchcjlllddlpaaGreat
open Go Go.Ev
noncomputable section
set_option linter.unusedVariables false
structure Sapi_Dec where
  f_Neg : Bool
  f_C : (Int × Int)
  f_Scale : Int
noncomputable def Sapi_Dec.zero : Sapi_Dec := ⟨false, (0, 0), 0⟩
structure Sapi_Line where
  f_Acct : Int
  f_Amount : Sapi_Dec
  f_With : Int
noncomputable def Sapi_Line.zero : Sapi_Line := ⟨0, Sapi_Dec.zero, 0⟩
structure Sapi_Entry where
  f_Period : Int
  f_Lines : List Sapi_Line
  f_Of : Int
noncomputable def Sapi_Entry.zero : Sapi_Entry := ⟨0, [], 0⟩
structure Speriod_Table where
  f_Closed : List Bool
  f_Version : List Int
noncomputable def Speriod_Table.zero : Speriod_Table := ⟨[], []⟩
structure Sledger_Book where
  f_scale : Int
  f_l : List Sapi_Entry
  f_t : Speriod_Table
noncomputable def Sledger_Book.zero : Sledger_Book := ⟨0, [], Speriod_Table.zero⟩
inductive C where
  | Sapi_Line
  | i64
  | Sapi_Entry
  | a2_i64
  | Sapi_Dec
  | u32
  | u64
abbrev El : C → Type
  | .Sapi_Line => Sapi_Line
  | .i64 => Int
  | .Sapi_Entry => Sapi_Entry
  | .a2_i64 => (Int × Int)
  | .Sapi_Dec => Sapi_Dec
  | .u32 => Int
  | .u64 => Int
abbrev U : Univ := ⟨C, El⟩
noncomputable def deqC : DecidableEq U.C := fun a b => by cases a <;> cases b <;> first | exact isTrue rfl | exact isFalse (fun h => by cases h)
noncomputable def cd_Sapi_Dec : Cd U Sapi_Dec := Cd.iso (Cd.pair Cd.bool (Cd.pair (Cd.pair (Cd.int .u64) (Cd.int .u64)) (Cd.pair (Cd.int .i64) Cd.unit))) (fun x => ⟨x.1, x.2.1, x.2.2.1⟩) (fun x => (x.f_Neg, x.f_C, x.f_Scale, ())) (fun _ => rfl)
noncomputable def cd_Sapi_Line : Cd U Sapi_Line := Cd.iso (Cd.pair (Cd.int .i64) (Cd.pair cd_Sapi_Dec (Cd.pair (Cd.int .i64) Cd.unit))) (fun x => ⟨x.1, x.2.1, x.2.2.1⟩) (fun x => (x.f_Acct, x.f_Amount, x.f_With, ())) (fun _ => rfl)
noncomputable def cd_Sapi_Entry : Cd U Sapi_Entry := Cd.iso (Cd.pair (Cd.int .i64) (Cd.pair (Cd.row deqC C.Sapi_Line) (Cd.pair (Cd.int .i64) Cd.unit))) (fun x => ⟨x.1, x.2.1, x.2.2.1⟩) (fun x => (x.f_Period, x.f_Lines, x.f_Of, ())) (fun _ => rfl)
noncomputable def cd_Speriod_Table : Cd U Speriod_Table := Cd.iso (Cd.pair (Cd.arr 12 false Cd.bool) (Cd.pair (Cd.arr 12 0 (Cd.int .i64)) Cd.unit)) (fun x => ⟨x.1, x.2.1⟩) (fun x => (x.f_Closed, x.f_Version, ())) (fun _ => rfl)
noncomputable def enc_Sapi_Line (x : Sapi_Line) : List (AV U) := [.flat (.int .i64 x.f_Acct), .flat (.bool x.f_Amount.f_Neg), .flat (.int .u64 x.f_Amount.f_C.1), .flat (.int .u64 x.f_Amount.f_C.2), .flat (.int .i64 x.f_Amount.f_Scale), .flat (.int .i64 x.f_With)]
noncomputable def dec_Sapi_Line : List (AV U) → Option Sapi_Line | [.flat (.int .i64 x1), .flat (.bool x2), .flat (.int .u64 x3), .flat (.int .u64 x4), .flat (.int .i64 x5), .flat (.int .i64 x6)] => some (⟨x1, (⟨x2, (x3, x4), x5⟩ : Sapi_Dec), x6⟩ : Sapi_Line) | _ => none
theorem dec_enc_Sapi_Line (cs : List (AV U)) (x : Sapi_Line) (h : dec_Sapi_Line cs = some x) : cs = enc_Sapi_Line x := by
  unfold dec_Sapi_Line at h
  split at h
  · cases h; rfl
  · cases h
noncomputable def enc_i64 (x : Int) : List (AV U) := [.flat (.int .i64 x)]
noncomputable def dec_i64 : List (AV U) → Option Int | [.flat (.int .i64 x1)] => some x1 | _ => none
theorem dec_enc_i64 (cs : List (AV U)) (x : Int) (h : dec_i64 cs = some x) : cs = enc_i64 x := by
  unfold dec_i64 at h
  split at h
  · cases h; rfl
  · cases h
noncomputable def enc_Sapi_Entry (x : Sapi_Entry) : List (AV U) := [.flat (.int .i64 x.f_Period), .row C.Sapi_Line x.f_Lines, .flat (.int .i64 x.f_Of)]
noncomputable def dec_Sapi_Entry : List (AV U) → Option Sapi_Entry | [.flat (.int .i64 x1), .row C.Sapi_Line x2, .flat (.int .i64 x3)] => some (⟨x1, x2, x3⟩ : Sapi_Entry) | _ => none
theorem dec_enc_Sapi_Entry (cs : List (AV U)) (x : Sapi_Entry) (h : dec_Sapi_Entry cs = some x) : cs = enc_Sapi_Entry x := by
  unfold dec_Sapi_Entry at h
  split at h
  · cases h; rfl
  · cases h
noncomputable def enc_a2_i64 (x : (Int × Int)) : List (AV U) := [.flat (.int .i64 x.1), .flat (.int .i64 x.2)]
noncomputable def dec_a2_i64 : List (AV U) → Option (Int × Int) | [.flat (.int .i64 x1), .flat (.int .i64 x2)] => some (x1, x2) | _ => none
theorem dec_enc_a2_i64 (cs : List (AV U)) (x : (Int × Int)) (h : dec_a2_i64 cs = some x) : cs = enc_a2_i64 x := by
  unfold dec_a2_i64 at h
  split at h
  · cases h; rfl
  · cases h
noncomputable def enc_Sapi_Dec (x : Sapi_Dec) : List (AV U) := [.flat (.bool x.f_Neg), .flat (.int .u64 x.f_C.1), .flat (.int .u64 x.f_C.2), .flat (.int .i64 x.f_Scale)]
noncomputable def dec_Sapi_Dec : List (AV U) → Option Sapi_Dec | [.flat (.bool x1), .flat (.int .u64 x2), .flat (.int .u64 x3), .flat (.int .i64 x4)] => some (⟨x1, (x2, x3), x4⟩ : Sapi_Dec) | _ => none
theorem dec_enc_Sapi_Dec (cs : List (AV U)) (x : Sapi_Dec) (h : dec_Sapi_Dec cs = some x) : cs = enc_Sapi_Dec x := by
  unfold dec_Sapi_Dec at h
  split at h
  · cases h; rfl
  · cases h
noncomputable def enc_u32 (x : Int) : List (AV U) := [.flat (.int .u32 x)]
noncomputable def dec_u32 : List (AV U) → Option Int | [.flat (.int .u32 x1)] => some x1 | _ => none
theorem dec_enc_u32 (cs : List (AV U)) (x : Int) (h : dec_u32 cs = some x) : cs = enc_u32 x := by
  unfold dec_u32 at h
  split at h
  · cases h; rfl
  · cases h
noncomputable def enc_u64 (x : Int) : List (AV U) := [.flat (.int .u64 x)]
noncomputable def dec_u64 : List (AV U) → Option Int | [.flat (.int .u64 x1)] => some x1 | _ => none
theorem dec_enc_u64 (cs : List (AV U)) (x : Int) (h : dec_u64 cs = some x) : cs = enc_u64 x := by
  unfold dec_u64 at h
  split at h
  · cases h; rfl
  · cases h
noncomputable def keq_a2_i64 (x y : (Int × Int)) : Bool := (x.1 == y.1) && (x.2 == y.2)
noncomputable def keq_Sapi_Dec (x y : Sapi_Dec) : Bool := (x.f_Neg == y.f_Neg) && ((x.f_C.1 == y.f_C.1) && ((x.f_C.2 == y.f_C.2) && (x.f_Scale == y.f_Scale)))
noncomputable def DD : Codec U where
  size := fun c => match c with | .Sapi_Line => 6 | .i64 => 1 | .Sapi_Entry => 3 | .a2_i64 => 2 | .Sapi_Dec => 4 | .u32 => 1 | .u64 => 1
  enc := fun c => match c with | .Sapi_Line => enc_Sapi_Line | .i64 => enc_i64 | .Sapi_Entry => enc_Sapi_Entry | .a2_i64 => enc_a2_i64 | .Sapi_Dec => enc_Sapi_Dec | .u32 => enc_u32 | .u64 => enc_u64
  dec := fun c => match c with | .Sapi_Line => dec_Sapi_Line | .i64 => dec_i64 | .Sapi_Entry => dec_Sapi_Entry | .a2_i64 => dec_a2_i64 | .Sapi_Dec => dec_Sapi_Dec | .u32 => dec_u32 | .u64 => dec_u64
  dflt := fun c => match c with | .Sapi_Line => (Sapi_Line.zero : Sapi_Line) | .i64 => (0 : Int) | .Sapi_Entry => (Sapi_Entry.zero : Sapi_Entry) | .a2_i64 => ((0, 0) : (Int × Int)) | .Sapi_Dec => (Sapi_Dec.zero : Sapi_Dec) | .u32 => (0 : Int) | .u64 => (0 : Int)
  deq := deqC
  kinds := fun c => match c with | .Sapi_Line => none | .i64 => none | .Sapi_Entry => none | .a2_i64 => some [0, 0] | .Sapi_Dec => some [1, 0, 0, 0] | .u32 => none | .u64 => none
  keq := fun c => match c with | .Sapi_Line => fun _ _ => false | .i64 => fun _ _ => false | .Sapi_Entry => fun _ _ => false | .a2_i64 => keq_a2_i64 | .Sapi_Dec => keq_Sapi_Dec | .u32 => fun _ _ => false | .u64 => fun _ _ => false
theorem lawful : Lawful DD where
  enc_len := fun c x => by cases c <;> rfl
  dec_enc := fun c cs x h => by
    cases c with
    | Sapi_Line => exact dec_enc_Sapi_Line cs x h
    | i64 => exact dec_enc_i64 cs x h
    | Sapi_Entry => exact dec_enc_Sapi_Entry cs x h
    | a2_i64 => exact dec_enc_a2_i64 cs x h
    | Sapi_Dec => exact dec_enc_Sapi_Dec cs x h
    | u32 => exact dec_enc_u32 cs x h
    | u64 => exact dec_enc_u64 cs x h
  enc_ok := fun c x v hv => List.all_eq_true.mp (show (DD.enc c x).all okCell = true by cases c <;> rfl) v hv
  keq_ok := fun c ks x y h => by
    cases c with
    | Sapi_Line => cases h
    | i64 => cases h
    | Sapi_Entry => cases h
    | a2_i64 => cases h; rfl
    | Sapi_Dec => cases h; rfl
    | u32 => cases h
    | u64 => cases h
  enc_c0 := fun c x v hv => List.all_eq_true.mp (show (DD.enc c x).all c0 = true by cases c <;> rfl) v hv
noncomputable def vec_Sapi_Entry (o : List (Nat × Ev.Obj U)) : AV U → Option (Option Nat × List Sapi_Entry) | .vs i => (match lk o i with | some (.vec C.Sapi_Entry x) => some (some i, x) | _ => none) | .flat (.slice none 0 0) => some (none, []) | _ => none
theorem vec_Sapi_Entry_fit {ren : List (Nat × Option Nat)} {s : St U} {cid : Nat} {v : AV U} {q : Option Nat × List Sapi_Entry} (h : vec_Sapi_Entry s.o v = some q) (hr : lk ren cid = some q.1) : FV0 ren v (.vs cid) ∧ FO ren s cid (.vec C.Sapi_Entry q.2) := by
  unfold vec_Sapi_Entry at h
  split at h
  · split at h
    · rename_i hz
      cases h
      exact ⟨FV.vs rfl hr, _, hr, fun aid ha => (by cases ha; exact hz), fun ha => (by cases ha)⟩
    · cases h
  · cases h
    exact ⟨FV.nilVs rfl hr, _, hr, fun aid ha => (by cases ha), fun _ => rfl⟩
  · cases h
noncomputable def mc : List (Nat × (U.C × U.C)) := [(32, (C.a2_i64, C.Sapi_Dec)), (33, (C.a2_i64, C.Sapi_Dec))]
noncomputable def ec : List (Nat × U.C) := [(22, C.i64), (24, C.Sapi_Line), (51, C.a2_i64), (99, C.Sapi_Entry), (118, C.i64), (190, C.Sapi_Dec)]
theorem mixed : Tryz.prog.follows .mixedOrders = true := by kernel_rfl
noncomputable def sl0 : List (Nat × SDen U) := []
theorem sl0_ok : ∀ p ∈ sl0, SfOk Tryz.prog DD p.1 p.2 ∧ ∀ args w, (callFunc p.1 args).run Tryz.prog w = .ok (.enter p.1 args) w := fun p hp => (List.not_mem_nil hp).elim
noncomputable def io_Sledger_Book_rt (i b : Nat) : Tp U Sledger_Book := tIo i (bLitT i [vInt .i64, vTip DD (b + 2) C.Sapi_Entry 3] cd_Speriod_Table) (fun x => (x.f_scale, x.f_l, x.f_t, ())) (fun h => (⟨h.1, h.2.1, h.2.2.1⟩ : Sledger_Book)) (fun _ => rfl)
noncomputable def n0 : Nat → Bool := fun _ => false
noncomputable def n00 : FuncId → Nat → Bool := fun _ _ => false
noncomputable def nl0 : Nat → List Nat := fun _ => []
noncomputable def mkE (fn : Func) (fl : List (Pk Tryz.prog DD)) (jl : List (Nat × Jk U)) (ll : List (Nat × LDen U)) (md : List (Nat × (Nat × U.C))) (dy : TypeId → Bool) (vc : Nat → Bool) (gh : List Nat) (ow : Bool) (io : FuncId → Nat → Bool) (ld : Nat → List Nat) (nl : List (Pk Tryz.prog DD)) : Env U := { P := Tryz.prog, D := DD, fd := lk (fds fl), sf := lk sl0, ld := lk ll, jd := lk (jds jl), mode := lk md, elc := lk ec, mpc := lk mc, rts := fn.resultTypes.toList, dyn := dy, vecs := vc, results := fn.results.toList, gh := gh, own := ow, io := io, lds := ld, fn := lk (fds nl) }
theorem mkE_ok (fn : Func) (fl : List (Pk Tryz.prog DD)) (jl : List (Nat × Jk U)) (ll : List (Nat × LDen U)) (md : List (Nat × (Nat × U.C))) (dy : TypeId → Bool) (vc : Nat → Bool) (gh : List Nat) (ow : Bool) (io : FuncId → Nat → Bool) (ld : Nat → List Nat) (nl : List (Pk Tryz.prog DD)) : EnvOk (mkE fn fl jl ll md dy vc gh ow io ld nl) := envOk lawful (fds fl) sl0 ll (jds jl) _ _ _ _ _ _ _ _ _ _ _ (fds nl) (fds_ok fl) sl0_ok (jds_ok jl) (fds_ok nl)
end
end Go.Proofs.YtbchcjlllddlpaaGreat
