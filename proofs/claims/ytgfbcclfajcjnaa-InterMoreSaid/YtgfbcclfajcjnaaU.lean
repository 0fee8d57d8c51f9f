import Derived.Test.YtgfbcclfajcjnaaEvN
import Derived.Test.YtgfbcclfajcjnaaProg
namespace Go.Proofs.Ytgfbcclfajcjnaa
open Go Go.Ev
noncomputable section
set_option linter.unusedVariables false
structure Sapi_Dec where
  f_Neg : Bool
  f_C : (Int × Int)
  f_Scale : Int
noncomputable def Sapi_Dec.zero : Sapi_Dec := ⟨false, (0, 0), 0⟩
structure Spyxref11_Cell where
  f_K : (Int × Int)
  f_D : Sapi_Dec
noncomputable def Spyxref11_Cell.zero : Spyxref11_Cell := ⟨(0, 0), Sapi_Dec.zero⟩
structure Spyxref11_Group where
  f_In : List Bool
  f_T : List (List Spyxref11_Cell)
noncomputable def Spyxref11_Group.zero : Spyxref11_Group := ⟨[], []⟩
structure Sinter_Pair where
  f_From : Int
  f_To : Int
noncomputable def Sinter_Pair.zero : Sinter_Pair := ⟨0, 0⟩
inductive C where
  | Spyxref11_Cell
  | i64
  | a2_i64
  | Sapi_Dec
  | m_a2_i64_Sapi_Dec
  | Sinter_Pair
  | u32
  | u64
abbrev El : C → Type
  | .Spyxref11_Cell => Spyxref11_Cell
  | .i64 => Int
  | .a2_i64 => (Int × Int)
  | .Sapi_Dec => Sapi_Dec
  | .m_a2_i64_Sapi_Dec => List ((Int × Int) × Sapi_Dec)
  | .Sinter_Pair => Sinter_Pair
  | .u32 => Int
  | .u64 => Int
abbrev U : Univ := ⟨C, El⟩
noncomputable def deqC : DecidableEq U.C := fun a b => by cases a <;> cases b <;> first | exact isTrue rfl | exact isFalse (fun h => by cases h)
noncomputable def cd_Sapi_Dec : Cd U Sapi_Dec := Cd.iso (Cd.pair Cd.bool (Cd.pair (Cd.pair (Cd.int .u64) (Cd.int .u64)) (Cd.pair (Cd.int .i64) Cd.unit))) (fun x => ⟨x.1, x.2.1, x.2.2.1⟩) (fun x => (x.f_Neg, x.f_C, x.f_Scale, ())) (fun _ => rfl)
noncomputable def cd_Spyxref11_Group : Cd U Spyxref11_Group := Cd.iso (Cd.pair (Cd.arr 8 false Cd.bool) (Cd.pair (Cd.arr 8 [] (Cd.row deqC C.Spyxref11_Cell)) Cd.unit)) (fun x => ⟨x.1, x.2.1⟩) (fun x => (x.f_In, x.f_T, ())) (fun _ => rfl)
noncomputable def cd_Sinter_Pair : Cd U Sinter_Pair := Cd.iso (Cd.pair (Cd.int .i64) (Cd.pair (Cd.int .i64) Cd.unit)) (fun x => ⟨x.1, x.2.1⟩) (fun x => (x.f_From, x.f_To, ())) (fun _ => rfl)
noncomputable def enc_Spyxref11_Cell (x : Spyxref11_Cell) : List (AV U) := [.flat (.int .i64 x.f_K.1), .flat (.int .i64 x.f_K.2), .flat (.bool x.f_D.f_Neg), .flat (.int .u64 x.f_D.f_C.1), .flat (.int .u64 x.f_D.f_C.2), .flat (.int .i64 x.f_D.f_Scale)]
noncomputable def dec_Spyxref11_Cell : List (AV U) → Option Spyxref11_Cell | [.flat (.int .i64 x1), .flat (.int .i64 x2), .flat (.bool x3), .flat (.int .u64 x4), .flat (.int .u64 x5), .flat (.int .i64 x6)] => some (⟨(x1, x2), (⟨x3, (x4, x5), x6⟩ : Sapi_Dec)⟩ : Spyxref11_Cell) | _ => none
theorem dec_enc_Spyxref11_Cell (cs : List (AV U)) (x : Spyxref11_Cell) (h : dec_Spyxref11_Cell cs = some x) : cs = enc_Spyxref11_Cell x := by
  unfold dec_Spyxref11_Cell at h
  split at h
  · cases h; rfl
  · cases h
noncomputable def enc_i64 (x : Int) : List (AV U) := [.flat (.int .i64 x)]
noncomputable def dec_i64 : List (AV U) → Option Int | [.flat (.int .i64 x1)] => some x1 | _ => none
theorem dec_enc_i64 (cs : List (AV U)) (x : Int) (h : dec_i64 cs = some x) : cs = enc_i64 x := by
  unfold dec_i64 at h
  split at h
  · cases h; rfl
  · cases h
noncomputable def enc_a2_i64 (x : (Int × Int)) : List (AV U) := [.flat (.int .i64 x.1), .flat (.int .i64 x.2)]
noncomputable def dec_a2_i64 : List (AV U) → Option (Int × Int) | [.flat (.int .i64 x1), .flat (.int .i64 x2)] => some (x1, x2) | _ => none
theorem dec_enc_a2_i64 (cs : List (AV U)) (x : (Int × Int)) (h : dec_a2_i64 cs = some x) : cs = enc_a2_i64 x := by
  unfold dec_a2_i64 at h
  split at h
  · cases h; rfl
  · cases h
noncomputable def enc_Sapi_Dec (x : Sapi_Dec) : List (AV U) := [.flat (.bool x.f_Neg), .flat (.int .u64 x.f_C.1), .flat (.int .u64 x.f_C.2), .flat (.int .i64 x.f_Scale)]
noncomputable def dec_Sapi_Dec : List (AV U) → Option Sapi_Dec | [.flat (.bool x1), .flat (.int .u64 x2), .flat (.int .u64 x3), .flat (.int .i64 x4)] => some (⟨x1, (x2, x3), x4⟩ : Sapi_Dec) | _ => none
theorem dec_enc_Sapi_Dec (cs : List (AV U)) (x : Sapi_Dec) (h : dec_Sapi_Dec cs = some x) : cs = enc_Sapi_Dec x := by
  unfold dec_Sapi_Dec at h
  split at h
  · cases h; rfl
  · cases h
noncomputable def enc_m_a2_i64_Sapi_Dec (x : List ((Int × Int) × Sapi_Dec)) : List (AV U) := [.fm true true C.a2_i64 C.Sapi_Dec x]
noncomputable def dec_m_a2_i64_Sapi_Dec : List (AV U) → Option (List ((Int × Int) × Sapi_Dec)) | [.fm true true C.a2_i64 C.Sapi_Dec x1] => some x1 | _ => none
theorem dec_enc_m_a2_i64_Sapi_Dec (cs : List (AV U)) (x : List ((Int × Int) × Sapi_Dec)) (h : dec_m_a2_i64_Sapi_Dec cs = some x) : cs = enc_m_a2_i64_Sapi_Dec x := by
  unfold dec_m_a2_i64_Sapi_Dec at h
  split at h
  · cases h; rfl
  · cases h
noncomputable def enc_Sinter_Pair (x : Sinter_Pair) : List (AV U) := [.flat (.int .i64 x.f_From), .flat (.int .i64 x.f_To)]
noncomputable def dec_Sinter_Pair : List (AV U) → Option Sinter_Pair | [.flat (.int .i64 x1), .flat (.int .i64 x2)] => some (⟨x1, x2⟩ : Sinter_Pair) | _ => none
theorem dec_enc_Sinter_Pair (cs : List (AV U)) (x : Sinter_Pair) (h : dec_Sinter_Pair cs = some x) : cs = enc_Sinter_Pair x := by
  unfold dec_Sinter_Pair at h
  split at h
  · cases h; rfl
  · cases h
noncomputable def enc_u32 (x : Int) : List (AV U) := [.flat (.int .u32 x)]
noncomputable def dec_u32 : List (AV U) → Option Int | [.flat (.int .u32 x1)] => some x1 | _ => none
theorem dec_enc_u32 (cs : List (AV U)) (x : Int) (h : dec_u32 cs = some x) : cs = enc_u32 x := by
  unfold dec_u32 at h
  split at h
  · cases h; rfl
  · cases h
noncomputable def enc_u64 (x : Int) : List (AV U) := [.flat (.int .u64 x)]
noncomputable def dec_u64 : List (AV U) → Option Int | [.flat (.int .u64 x1)] => some x1 | _ => none
theorem dec_enc_u64 (cs : List (AV U)) (x : Int) (h : dec_u64 cs = some x) : cs = enc_u64 x := by
  unfold dec_u64 at h
  split at h
  · cases h; rfl
  · cases h
noncomputable def keq_i64 (x y : Int) : Bool := x == y
noncomputable def keq_a2_i64 (x y : (Int × Int)) : Bool := (x.1 == y.1) && (x.2 == y.2)
noncomputable def DD : Codec U where
  size := fun c => match c with | .Spyxref11_Cell => 6 | .i64 => 1 | .a2_i64 => 2 | .Sapi_Dec => 4 | .m_a2_i64_Sapi_Dec => 1 | .Sinter_Pair => 2 | .u32 => 1 | .u64 => 1
  enc := fun c => match c with | .Spyxref11_Cell => enc_Spyxref11_Cell | .i64 => enc_i64 | .a2_i64 => enc_a2_i64 | .Sapi_Dec => enc_Sapi_Dec | .m_a2_i64_Sapi_Dec => enc_m_a2_i64_Sapi_Dec | .Sinter_Pair => enc_Sinter_Pair | .u32 => enc_u32 | .u64 => enc_u64
  dec := fun c => match c with | .Spyxref11_Cell => dec_Spyxref11_Cell | .i64 => dec_i64 | .a2_i64 => dec_a2_i64 | .Sapi_Dec => dec_Sapi_Dec | .m_a2_i64_Sapi_Dec => dec_m_a2_i64_Sapi_Dec | .Sinter_Pair => dec_Sinter_Pair | .u32 => dec_u32 | .u64 => dec_u64
  dflt := fun c => match c with | .Spyxref11_Cell => (Spyxref11_Cell.zero : Spyxref11_Cell) | .i64 => (0 : Int) | .a2_i64 => ((0, 0) : (Int × Int)) | .Sapi_Dec => (Sapi_Dec.zero : Sapi_Dec) | .m_a2_i64_Sapi_Dec => ([] : List ((Int × Int) × Sapi_Dec)) | .Sinter_Pair => (Sinter_Pair.zero : Sinter_Pair) | .u32 => (0 : Int) | .u64 => (0 : Int)
  deq := deqC
  kinds := fun c => match c with | .Spyxref11_Cell => none | .i64 => some [0] | .a2_i64 => some [0, 0] | .Sapi_Dec => none | .m_a2_i64_Sapi_Dec => none | .Sinter_Pair => none | .u32 => none | .u64 => none
  keq := fun c => match c with | .Spyxref11_Cell => fun _ _ => false | .i64 => keq_i64 | .a2_i64 => keq_a2_i64 | .Sapi_Dec => fun _ _ => false | .m_a2_i64_Sapi_Dec => fun _ _ => false | .Sinter_Pair => fun _ _ => false | .u32 => fun _ _ => false | .u64 => fun _ _ => false
  nst := fun c ck cv ka va => match c with | .m_a2_i64_Sapi_Dec => (match ck with | .a2_i64 => (match cv with | .Sapi_Dec => (match ka, va with | true, true => some fun l => l | _, _ => none) | _ => none) | _ => none) | _ => none
theorem lawful : Lawful DD where
  nst_ok := fun c ck cv ka va g h l => by
    cases c with
    | m_a2_i64_Sapi_Dec => cases ck with
      | a2_i64 => cases cv with
        | Sapi_Dec => cases ka <;> cases va <;> first | (cases h; rfl) | (cases h)
        | _ => cases h
      | _ => cases h
    | _ => cases h
  enc_len := fun c x => by cases c <;> rfl
  dec_enc := fun c cs x h => by
    cases c with
    | Spyxref11_Cell => exact dec_enc_Spyxref11_Cell cs x h
    | i64 => exact dec_enc_i64 cs x h
    | a2_i64 => exact dec_enc_a2_i64 cs x h
    | Sapi_Dec => exact dec_enc_Sapi_Dec cs x h
    | m_a2_i64_Sapi_Dec => exact dec_enc_m_a2_i64_Sapi_Dec cs x h
    | Sinter_Pair => exact dec_enc_Sinter_Pair cs x h
    | u32 => exact dec_enc_u32 cs x h
    | u64 => exact dec_enc_u64 cs x h
  enc_ok := fun c x v hv => List.all_eq_true.mp (show (DD.enc c x).all okCell = true by cases c <;> rfl) v hv
  keq_ok := fun c ks x y h => by
    cases c with
    | Spyxref11_Cell => cases h
    | i64 => cases h; rfl
    | a2_i64 => cases h; rfl
    | Sapi_Dec => cases h
    | m_a2_i64_Sapi_Dec => cases h
    | Sinter_Pair => cases h
    | u32 => cases h
    | u64 => cases h
  enc_c0 := fun c x v hv => List.all_eq_true.mp (show (DD.enc c x).all c0 = true by cases c <;> rfl) v hv
noncomputable def row_i64 : AV U → Option (List Int) | .row C.i64 x => some x | .tip _ C.i64 x => some x | .flat (.slice none 0 0) => some [] | _ => none
theorem row_i64_fit {ren : List (Nat × Option Nat)} {v : AV U} {x : List Int} (h : row_i64 v = some x) : FV0 ren v (.row C.i64 x) := by
  unfold row_i64 at h
  split at h
  · cases h; exact FV.row rfl rfl
  · cases h; exact FV.row rfl rfl
  · cases h; exact FV.nilRow rfl
  · cases h
noncomputable def tip_Sinter_Pair (o : List (Nat × Ev.Obj U)) (sz : Nat) : AV U → Option (Option Nat × List Sinter_Pair) | .tip i C.Sinter_Pair x => (match lk o i with | some (.tip z) => cond (Nat.beq z sz) (some (some i, x)) none | _ => none) | .flat (.slice none 0 0) => some (none, []) | _ => none
theorem tip_Sinter_Pair_fit {ren : List (Nat × Option Nat)} {s : St U} {sz cid : Nat} {v : AV U} {q : Option Nat × List Sinter_Pair} (h : tip_Sinter_Pair s.o sz v = some q) (hr : lk ren cid = some q.1) : FV0 ren v (.tip cid C.Sinter_Pair q.2) ∧ FO ren s cid (.tip sz) := by
  unfold tip_Sinter_Pair at h
  split at h
  · split at h
    · rename_i hz
      obtain ⟨hb, h2⟩ := cond_none h
      cases h2
      have hb := Nat.eq_of_beq_eq_true hb
      subst hb
      exact ⟨FV.tip rfl hr, _, hr, fun aid ha => by cases ha; exact hz⟩
    · cases h
  · cases h
    exact ⟨FV.nilTip rfl hr, _, hr, fun aid ha => by cases ha⟩
  · cases h
noncomputable def mc : List (Nat × (U.C × U.C)) := [(28, (C.a2_i64, C.Sapi_Dec)), (29, (C.a2_i64, C.Sapi_Dec)), (30, (C.i64, C.m_a2_i64_Sapi_Dec))]
noncomputable def fzl : List (Nat × (U.C × U.C)) := [(28, (C.a2_i64, C.Sapi_Dec)), (29, (C.a2_i64, C.Sapi_Dec)), (30, (C.i64, C.m_a2_i64_Sapi_Dec))]
noncomputable def ec : List (Nat × U.C) := [(31, C.Sinter_Pair), (38, C.i64), (40, C.Spyxref11_Cell), (41, C.Spyxref11_Cell), (65, C.i64)]
theorem mixed : Try.prog.follows .mixedOrders = true := by kernel_rfl
noncomputable def sl0 : List (Nat × SDen U) := []
theorem sl0_ok : ∀ p ∈ sl0, SfOk Try.prog DD p.1 p.2 ∧ ∀ args w, (callFunc p.1 args).run Try.prog w = .ok (.enter p.1 args) w := fun p hp => (List.not_mem_nil hp).elim
noncomputable def n0 : Nat → Bool := fun _ => false
noncomputable def n00 : FuncId → Nat → Bool := fun _ _ => false
noncomputable def nl0 : Nat → List Nat := fun _ => []
noncomputable def nli : Nat → Option (List (Nat × List Nat)) := fun _ => none
noncomputable def mkE (fn : Func) (fl : List (Pk Try.prog DD)) (jl : List (Nat × Jk U)) (ll : List (Nat × LDen U)) (md : List (Nat × (Nat × U.C))) (dy : TypeId → Bool) (vc : Nat → Bool) (gh : List Nat) (ow : Bool) (io : FuncId → Nat → Bool) (ld : Nat → List Nat) (nl : List (Pk Try.prog DD)) (li : Nat → Option (List (Nat × List Nat))) : Env U := { P := Try.prog, D := DD, fd := lk (fds fl), sf := lk sl0, ld := lk ll, jd := lk (jds jl), mode := lk md, elc := lk ec, mpc := lk mc, rts := fn.resultTypes.toList, dyn := dy, vecs := vc, results := fn.results.toList, gh := gh, own := ow, io := io, lds := ld, fn := lk (fds nl), lit := li, fz := lk fzl }
theorem mkE_ok (fn : Func) (fl : List (Pk Try.prog DD)) (jl : List (Nat × Jk U)) (ll : List (Nat × LDen U)) (md : List (Nat × (Nat × U.C))) (dy : TypeId → Bool) (vc : Nat → Bool) (gh : List Nat) (ow : Bool) (io : FuncId → Nat → Bool) (ld : Nat → List Nat) (nl : List (Pk Try.prog DD)) (li : Nat → Option (List (Nat × List Nat))) : EnvOk (mkE fn fl jl ll md dy vc gh ow io ld nl li) := envOk lawful (fds fl) sl0 ll (jds jl) _ _ _ _ _ _ _ _ _ _ _ (fds nl) li fzl (fds_ok fl) sl0_ok (jds_ok jl) (fds_ok nl)
end
end Go.Proofs.Ytgfbcclfajcjnaa
