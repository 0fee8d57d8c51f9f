import Derived.Test.YtbchcjlllddlpaaGreatEvC
import Derived.Test.YtbchcjlllddlpaaGreatProg
/-! This seat's types, told as plain data. Written by gen.py. -/
namespace Go.Proofs.YtbchcjlllddlpaaGreat
open Go Go.Ev
noncomputable section
set_option linter.unusedVariables false
structure Zag where
  Zfq : Int
  f_Who : Int
  f_A : Int
  f_B : Int
  f_C : Int
  f_N : Int
  f_Bend : Int
  f_L : List Int
noncomputable def Zag.zero : Zag := ⟨0, 0, 0, 0, 0, 0, 0, []⟩
structure Zg where
  f_Neg : Bool
  f_C : (Int × Int)
  Zo : Int
noncomputable def Zg.zero : Zg := ⟨false, (0, 0), 0⟩
structure Za where
  Zdx : Int
  Zp : Zg
  Zet : Int
noncomputable def Za.zero : Za := ⟨0, Zg.zero, 0⟩
structure Zc where
  Zdi : Int
  Zdm : List Za
  f_Of : Int
noncomputable def Zc.zero : Zc := ⟨0, [], 0⟩
structure Ze where
  Zk : List Bool
  Zh : List Int
noncomputable def Ze.zero : Ze := ⟨[], []⟩
structure Zi where
  Zbw : Int
  f_l : List Zc
  f_t : Ze
noncomputable def Zi.zero : Zi := ⟨0, [], Ze.zero⟩
structure Zd where
  Zk : List Bool
  Zh : List Int
noncomputable def Zd.zero : Zd := ⟨[], []⟩
structure Zr where
  Zo : Int
  f_L : List Zc
  f_T : Zd
noncomputable def Zr.zero : Zr := ⟨0, [], Zd.zero⟩
structure Zf where
  f_K : (Int × Int)
  f_D : Zg
noncomputable def Zf.zero : Zf := ⟨(0, 0), Zg.zero⟩
inductive C where
  | Zc
  | i64
  | Za
  | Zag
  | u32
  | u64
  | a2_i64
  | Zg
  | Zf
abbrev El : C → Type
  | .Zc => Zc
  | .i64 => Int
  | .Za => Za
  | .Zag => Zag
  | .u32 => Int
  | .u64 => Int
  | .a2_i64 => (Int × Int)
  | .Zg => Zg
  | .Zf => Zf
abbrev U : Univ := ⟨C, El⟩
noncomputable def deqC : DecidableEq U.C := fun a b => by cases a <;> cases b <;> first | exact isTrue rfl | exact isFalse (fun h => by cases h)
noncomputable def cd_Spyxhand_Act : Cd U Zag := Cd.iso (Cd.pair (Cd.int .i64) (Cd.pair (Cd.int .i64) (Cd.pair (Cd.int .i64) (Cd.pair (Cd.int .i64) (Cd.pair (Cd.int .i64) (Cd.pair (Cd.int .i64) (Cd.pair (Cd.int .i64) (Cd.pair (Cd.row deqC C.i64) Cd.unit)))))))) (fun x => ⟨x.1, x.2.1, x.2.2.1, x.2.2.2.1, x.2.2.2.2.1, x.2.2.2.2.2.1, x.2.2.2.2.2.2.1, x.2.2.2.2.2.2.2.1⟩) (fun x => (x.Zfq, x.f_Who, x.f_A, x.f_B, x.f_C, x.f_N, x.f_Bend, x.f_L, ())) (fun _ => rfl)
noncomputable def Zdo : Cd U Zg := Cd.iso (Cd.pair Cd.bool (Cd.pair (Cd.pair (Cd.int .u64) (Cd.int .u64)) (Cd.pair (Cd.int .i64) Cd.unit))) (fun x => ⟨x.1, x.2.1, x.2.2.1⟩) (fun x => (x.f_Neg, x.f_C, x.Zo, ())) (fun _ => rfl)
noncomputable def cd_Sapi_Line : Cd U Za := Cd.iso (Cd.pair (Cd.int .i64) (Cd.pair Zdo (Cd.pair (Cd.int .i64) Cd.unit))) (fun x => ⟨x.1, x.2.1, x.2.2.1⟩) (fun x => (x.Zdx, x.Zp, x.Zet, ())) (fun _ => rfl)
noncomputable def cd_Sapi_Entry : Cd U Zc := Cd.iso (Cd.pair (Cd.int .i64) (Cd.pair (Cd.row deqC C.Za) (Cd.pair (Cd.int .i64) Cd.unit))) (fun x => ⟨x.1, x.2.1, x.2.2.1⟩) (fun x => (x.Zdi, x.Zdm, x.f_Of, ())) (fun _ => rfl)
noncomputable def Zat : Cd U Ze := Cd.iso (Cd.pair (Cd.arr 12 false Cd.bool) (Cd.pair (Cd.arr 12 0 (Cd.int .i64)) Cd.unit)) (fun x => ⟨x.1, x.2.1⟩) (fun x => (x.Zk, x.Zh, ())) (fun _ => rfl)
noncomputable def Zaw : Cd U Zd := Cd.iso (Cd.pair (Cd.arr 12 false Cd.bool) (Cd.pair (Cd.arr 12 0 (Cd.int .i64)) Cd.unit)) (fun x => ⟨x.1, x.2.1⟩) (fun x => (x.Zk, x.Zh, ())) (fun _ => rfl)
noncomputable def enc_Sapi_Entry (x : Zc) : List (AV U) := [.flat (.int .i64 x.Zdi), .row C.Za x.Zdm, .flat (.int .i64 x.f_Of)]
noncomputable def dec_Sapi_Entry : List (AV U) → Option Zc | [.flat (.int .i64 x1), .row C.Za x2, .flat (.int .i64 x3)] => some (⟨x1, x2, x3⟩ : Zc) | _ => none
theorem dec_enc_Sapi_Entry (cs : List (AV U)) (x : Zc) (h : dec_Sapi_Entry cs = some x) : cs = enc_Sapi_Entry x := by
  unfold dec_Sapi_Entry at h
  split at h
  · cases h; rfl
  · cases h
noncomputable def enc_i64 (x : Int) : List (AV U) := [.flat (.int .i64 x)]
noncomputable def dec_i64 : List (AV U) → Option Int | [.flat (.int .i64 x1)] => some x1 | _ => none
theorem dec_enc_i64 (cs : List (AV U)) (x : Int) (h : dec_i64 cs = some x) : cs = enc_i64 x := by
  unfold dec_i64 at h
  split at h
  · cases h; rfl
  · cases h
noncomputable def enc_Sapi_Line (x : Za) : List (AV U) := [.flat (.int .i64 x.Zdx), .flat (.bool x.Zp.f_Neg), .flat (.int .u64 x.Zp.f_C.1), .flat (.int .u64 x.Zp.f_C.2), .flat (.int .i64 x.Zp.Zo), .flat (.int .i64 x.Zet)]
noncomputable def dec_Sapi_Line : List (AV U) → Option Za | [.flat (.int .i64 x1), .flat (.bool x2), .flat (.int .u64 x3), .flat (.int .u64 x4), .flat (.int .i64 x5), .flat (.int .i64 x6)] => some (⟨x1, (⟨x2, (x3, x4), x5⟩ : Zg), x6⟩ : Za) | _ => none
theorem dec_enc_Sapi_Line (cs : List (AV U)) (x : Za) (h : dec_Sapi_Line cs = some x) : cs = enc_Sapi_Line x := by
  unfold dec_Sapi_Line at h
  split at h
  · cases h; rfl
  · cases h
noncomputable def enc_Spyxhand_Act (x : Zag) : List (AV U) := cd_Spyxhand_Act.enc x
noncomputable def dec_Spyxhand_Act (cs : List (AV U)) : Option Zag := cd_Spyxhand_Act.full cs
theorem dec_enc_Spyxhand_Act (cs : List (AV U)) (x : Zag) (h : dec_Spyxhand_Act cs = some x) : cs = enc_Spyxhand_Act x := Cd.full_ok h
noncomputable def enc_u32 (x : Int) : List (AV U) := [.flat (.int .u32 x)]
noncomputable def dec_u32 : List (AV U) → Option Int | [.flat (.int .u32 x1)] => some x1 | _ => none
theorem dec_enc_u32 (cs : List (AV U)) (x : Int) (h : dec_u32 cs = some x) : cs = enc_u32 x := by
  unfold dec_u32 at h
  split at h
  · cases h; rfl
  · cases h
noncomputable def enc_u64 (x : Int) : List (AV U) := [.flat (.int .u64 x)]
noncomputable def dec_u64 : List (AV U) → Option Int | [.flat (.int .u64 x1)] => some x1 | _ => none
theorem dec_enc_u64 (cs : List (AV U)) (x : Int) (h : dec_u64 cs = some x) : cs = enc_u64 x := by
  unfold dec_u64 at h
  split at h
  · cases h; rfl
  · cases h
noncomputable def enc_a2_i64 (x : (Int × Int)) : List (AV U) := [.flat (.int .i64 x.1), .flat (.int .i64 x.2)]
noncomputable def dec_a2_i64 : List (AV U) → Option (Int × Int) | [.flat (.int .i64 x1), .flat (.int .i64 x2)] => some (x1, x2) | _ => none
theorem dec_enc_a2_i64 (cs : List (AV U)) (x : (Int × Int)) (h : dec_a2_i64 cs = some x) : cs = enc_a2_i64 x := by
  unfold dec_a2_i64 at h
  split at h
  · cases h; rfl
  · cases h
noncomputable def enc_Sapi_Dec (x : Zg) : List (AV U) := [.flat (.bool x.f_Neg), .flat (.int .u64 x.f_C.1), .flat (.int .u64 x.f_C.2), .flat (.int .i64 x.Zo)]
noncomputable def dec_Sapi_Dec : List (AV U) → Option Zg | [.flat (.bool x1), .flat (.int .u64 x2), .flat (.int .u64 x3), .flat (.int .i64 x4)] => some (⟨x1, (x2, x3), x4⟩ : Zg) | _ => none
theorem dec_enc_Sapi_Dec (cs : List (AV U)) (x : Zg) (h : dec_Sapi_Dec cs = some x) : cs = enc_Sapi_Dec x := by
  unfold dec_Sapi_Dec at h
  split at h
  · cases h; rfl
  · cases h
noncomputable def enc_Spyxref11_Cell (x : Zf) : List (AV U) := [.flat (.int .i64 x.f_K.1), .flat (.int .i64 x.f_K.2), .flat (.bool x.f_D.f_Neg), .flat (.int .u64 x.f_D.f_C.1), .flat (.int .u64 x.f_D.f_C.2), .flat (.int .i64 x.f_D.Zo)]
noncomputable def dec_Spyxref11_Cell : List (AV U) → Option Zf | [.flat (.int .i64 x1), .flat (.int .i64 x2), .flat (.bool x3), .flat (.int .u64 x4), .flat (.int .u64 x5), .flat (.int .i64 x6)] => some (⟨(x1, x2), (⟨x3, (x4, x5), x6⟩ : Zg)⟩ : Zf) | _ => none
theorem dec_enc_Spyxref11_Cell (cs : List (AV U)) (x : Zf) (h : dec_Spyxref11_Cell cs = some x) : cs = enc_Spyxref11_Cell x := by
  unfold dec_Spyxref11_Cell at h
  split at h
  · cases h; rfl
  · cases h
noncomputable def Zef (x y : (Int × Int)) : Bool := (x.1 == y.1) && (x.2 == y.2)
noncomputable def Zfp (x y : Zg) : Bool := (x.f_Neg == y.f_Neg) && ((x.f_C.1 == y.f_C.1) && ((x.f_C.2 == y.f_C.2) && (x.Zo == y.Zo)))
noncomputable def DD : Codec U where
  size := fun c => match c with | .Zc => 3 | .i64 => 1 | .Za => 6 | .Zag => 8 | .u32 => 1 | .u64 => 1 | .a2_i64 => 2 | .Zg => 4 | .Zf => 6
  enc := fun c => match c with | .Zc => enc_Sapi_Entry | .i64 => enc_i64 | .Za => enc_Sapi_Line | .Zag => enc_Spyxhand_Act | .u32 => enc_u32 | .u64 => enc_u64 | .a2_i64 => enc_a2_i64 | .Zg => enc_Sapi_Dec | .Zf => enc_Spyxref11_Cell
  dec := fun c => match c with | .Zc => dec_Sapi_Entry | .i64 => dec_i64 | .Za => dec_Sapi_Line | .Zag => dec_Spyxhand_Act | .u32 => dec_u32 | .u64 => dec_u64 | .a2_i64 => dec_a2_i64 | .Zg => dec_Sapi_Dec | .Zf => dec_Spyxref11_Cell
  dflt := fun c => match c with | .Zc => (Zc.zero : Zc) | .i64 => (0 : Int) | .Za => (Za.zero : Za) | .Zag => (Zag.zero : Zag) | .u32 => (0 : Int) | .u64 => (0 : Int) | .a2_i64 => ((0, 0) : (Int × Int)) | .Zg => (Zg.zero : Zg) | .Zf => (Zf.zero : Zf)
  deq := deqC
  kinds := fun c => match c with | .Zc => none | .i64 => none | .Za => none | .Zag => none | .u32 => none | .u64 => none | .a2_i64 => some [0, 0] | .Zg => some [1, 0, 0, 0] | .Zf => none
  keq := fun c => match c with | .Zc => fun _ _ => false | .i64 => fun _ _ => false | .Za => fun _ _ => false | .Zag => fun _ _ => false | .u32 => fun _ _ => false | .u64 => fun _ _ => false | .a2_i64 => Zef | .Zg => Zfp | .Zf => fun _ _ => false
theorem lawful : Lawful DD where
  enc_len := fun c x => by cases c <;> rfl
  dec_enc := fun c cs x h => by
    cases c with
    | Zc => exact dec_enc_Sapi_Entry cs x h
    | i64 => exact dec_enc_i64 cs x h
    | Za => exact dec_enc_Sapi_Line cs x h
    | Zag => exact dec_enc_Spyxhand_Act cs x h
    | u32 => exact dec_enc_u32 cs x h
    | u64 => exact dec_enc_u64 cs x h
    | a2_i64 => exact dec_enc_a2_i64 cs x h
    | Zg => exact dec_enc_Sapi_Dec cs x h
    | Zf => exact dec_enc_Spyxref11_Cell cs x h
  enc_ok := fun c x v hv => List.all_eq_true.mp (show (DD.enc c x).all okCell = true by cases c <;> rfl) v hv
  keq_ok := fun c ks x y h => by
    cases c with
    | Zc => cases h
    | i64 => cases h
    | Za => cases h
    | Zag => cases h
    | u32 => cases h
    | u64 => cases h
    | a2_i64 => cases h; rfl
    | Zg => cases h; rfl
    | Zf => cases h
  enc_c0 := fun c x v hv => List.all_eq_true.mp (show (DD.enc c x).all c0 = true by cases c <;> rfl) v hv
noncomputable def row_Sapi_Entry : AV U → Option (List Zc) | .row C.Zc x => some x | .tip _ C.Zc x => some x | .flat (.slice none 0 0) => some [] | _ => none
theorem row_Sapi_Entry_fit {ren : List (Nat × Option Nat)} {v : AV U} {x : List Zc} (h : row_Sapi_Entry v = some x) : FV0 ren v (.row C.Zc x) := by
  unfold row_Sapi_Entry at h
  split at h
  · cases h; exact FV.row rfl rfl
  · cases h; exact FV.row rfl rfl
  · cases h; exact FV.nilRow rfl
  · cases h
noncomputable def Zfn (o : List (Nat × Ev.Obj U)) (sz : Nat) : AV U → Option (Option Nat × List Zc) | .tip i C.Zc x => (match lk o i with | some (.tip z) => cond (Nat.beq z sz) (some (some i, x)) none | _ => none) | .flat (.slice none 0 0) => some (none, []) | _ => none
theorem Zes {ren : List (Nat × Option Nat)} {s : St U} {sz cid : Nat} {v : AV U} {q : Option Nat × List Zc} (h : Zfn s.o sz v = some q) (hr : lk ren cid = some q.1) : FV0 ren v (.tip cid C.Zc q.2) ∧ FO ren s cid (.tip sz) := by
  unfold Zfn at h
  split at h
  · split at h
    · rename_i hz
      obtain ⟨hb, h2⟩ := Zad h
      cases h2
      have hb := Nat.eq_of_beq_eq_true hb
      subst hb
      exact ⟨FV.tip rfl hr, _, hr, fun aid ha => by cases ha; exact hz⟩
    · cases h
  · cases h
    exact ⟨FV.nilTip rfl hr, _, hr, fun aid ha => by cases ha⟩
  · cases h
noncomputable def vec_Sapi_Entry (o : List (Nat × Ev.Obj U)) : AV U → Option (Option Nat × List Zc) | .vs i => (match lk o i with | some (.vec C.Zc x) => some (some i, x) | _ => none) | .flat (.slice none 0 0) => some (none, []) | _ => none
theorem vec_Sapi_Entry_fit {ren : List (Nat × Option Nat)} {s : St U} {cid : Nat} {v : AV U} {q : Option Nat × List Zc} (h : vec_Sapi_Entry s.o v = some q) (hr : lk ren cid = some q.1) : FV0 ren v (.vs cid) ∧ FO ren s cid (.vec C.Zc q.2) := by
  unfold vec_Sapi_Entry at h
  split at h
  · split at h
    · rename_i hz
      cases h
      exact ⟨FV.vs rfl hr, _, hr, fun aid ha => (by cases ha; exact hz), fun ha => (by cases ha)⟩
    · cases h
  · cases h
    exact ⟨FV.nilVs rfl hr, _, hr, fun aid ha => (by cases ha), fun _ => rfl⟩
  · cases h
noncomputable def mc : List (Nat × (U.C × U.C)) := [(32, (C.a2_i64, C.Zg)), (33, (C.a2_i64, C.Zg))]
noncomputable def ec : List (Nat × U.C) := [(22, C.i64), (24, C.Za), (51, C.a2_i64), (54, C.Zag), (58, C.Zf), (59, C.Zf), (99, C.Zc), (118, C.i64), (190, C.Zg)]
theorem mixed : Tryz.prog.follows .mixedOrders = true := by kernel_rfl
noncomputable def sl0 : List (Nat × SDen U) := []
theorem sl0_ok : ∀ p ∈ sl0, SfOk Tryz.prog DD p.1 p.2 ∧ ∀ args w, (callFunc p.1 args).run Tryz.prog w = .ok (.enter p.1 args) w := fun p hp => (List.not_mem_nil hp).elim
noncomputable def Zcg (i b : Nat) : Tp U Zi := tIo i (bLitT i [vInt .i64, vTip DD (b + 2) C.Zc 3] Zat) (fun x => (x.Zbw, x.f_l, x.f_t, ())) (fun h => (⟨h.1, h.2.1, h.2.2.1⟩ : Zi)) (fun _ => rfl)
noncomputable def Zcq (i b : Nat) : Tp U Zr := tIo i (bLitT i [vInt .i64, vTip DD (b + 2) C.Zc 3] Zaw) (fun x => (x.Zo, x.f_L, x.f_T, ())) (fun h => (⟨h.1, h.2.1, h.2.2.1⟩ : Zr)) (fun _ => rfl)
noncomputable def n0 : Nat → Bool := fun _ => false
noncomputable def n00 : FuncId → Nat → Bool := fun _ _ => false
noncomputable def nl0 : Nat → List Nat := fun _ => []
noncomputable def mkE (fn : Func) (fl : List (Pk Tryz.prog DD)) (jl : List (Nat × Jk U)) (ll : List (Nat × LDen U)) (md : List (Nat × (Nat × U.C))) (dy : TypeId → Bool) (vc : Nat → Bool) (gh : List Nat) (ow : Bool) (io : FuncId → Nat → Bool) (ld : Nat → List Nat) (nl : List (Pk Tryz.prog DD)) : Env U := { P := Tryz.prog, D := DD, fd := lk (fds fl), sf := lk sl0, ld := lk ll, jd := lk (jds jl), mode := lk md, elc := lk ec, mpc := lk mc, rts := fn.resultTypes.toList, dyn := dy, vecs := vc, results := fn.results.toList, gh := gh, own := ow, io := io, lds := ld, fn := lk (fds nl) }
theorem Zbq (fn : Func) (fl : List (Pk Tryz.prog DD)) (jl : List (Nat × Jk U)) (ll : List (Nat × LDen U)) (md : List (Nat × (Nat × U.C))) (dy : TypeId → Bool) (vc : Nat → Bool) (gh : List Nat) (ow : Bool) (io : FuncId → Nat → Bool) (ld : Nat → List Nat) (nl : List (Pk Tryz.prog DD)) : EnvOk (mkE fn fl jl ll md dy vc gh ow io ld nl) := envOk lawful (fds fl) sl0 ll (jds jl) _ _ _ _ _ _ _ _ _ _ _ (fds nl) (fds_ok fl) sl0_ok (jds_ok jl) (fds_ok nl)
end
end Go.Proofs.YtbchcjlllddlpaaGreat
