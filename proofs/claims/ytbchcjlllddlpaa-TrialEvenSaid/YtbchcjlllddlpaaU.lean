import Derived.Test.YtbchcjlllddlpaaEvN
import Derived.Test.YtbchcjlllddlpaaProg
namespace Go.Proofs.Ytbchcjlllddlpaa
open Go Go.Ev
noncomputable section
set_option linter.unusedVariables false
structure Zp where
  Zdr : Int
  f_Who : Int
  f_A : Int
  f_B : Int
  f_C : Int
  f_N : Int
  Qmn : Int
  f_L : List Int
noncomputable def Zp.zero : Zp := ⟨0, 0, 0, 0, 0, 0, 0, []⟩
structure Zi where
  Wbe : Bool
  f_C : (Int × Int)
  Zu : Int
noncomputable def Zi.zero : Zi := ⟨false, (0, 0), 0⟩
structure Zd where
  Zde : Int
  Zq : Zi
  Zdo : Int
noncomputable def Zd.zero : Zd := ⟨0, Zi.zero, 0⟩
structure Za where
  Zad : Int
  Zay : List Zd
  Wbm : Int
noncomputable def Za.zero : Za := ⟨0, [], 0⟩
structure Ze where
  Zk : List Bool
  Zj : List Int
noncomputable def Ze.zero : Ze := ⟨[], []⟩
structure Zf where
  Zac : Int
  f_l : List Za
  f_t : Ze
noncomputable def Zf.zero : Zf := ⟨0, [], Ze.zero⟩
structure Zh where
  Zk : List Bool
  Zj : List Int
noncomputable def Zh.zero : Zh := ⟨[], []⟩
structure Zx where
  Zu : Int
  f_L : List Za
  f_T : Zh
noncomputable def Zx.zero : Zx := ⟨0, [], Zh.zero⟩
inductive C where
  | Za
  | i64
  | Zd
  | Zp
  | u32
  | u64
  | Wcp
  | Zi
  | bool
abbrev El : C → Type
  | .Za => Za
  | .i64 => Int
  | .Zd => Zd
  | .Zp => Zp
  | .u32 => Int
  | .u64 => Int
  | .Wcp => (Int × Int)
  | .Zi => Zi
  | .bool => Bool
abbrev U : Wdr := ⟨C, El⟩
noncomputable def deqC : DecidableEq U.C := fun a b => by cases a <;> cases b <;> first | exact isTrue rfl | exact isFalse (fun h => by cases h)
noncomputable def Wjn : Cd U Zp := Cd.iso (Cd.pair (Cd.int .i64) (Cd.pair (Cd.int .i64) (Cd.pair (Cd.int .i64) (Cd.pair (Cd.int .i64) (Cd.pair (Cd.int .i64) (Cd.pair (Cd.int .i64) (Cd.pair (Cd.int .i64) (Cd.pair (Cd.row deqC C.i64) Cd.unit)))))))) (fun x => ⟨x.1, x.2.1, x.2.2.1, x.2.2.2.1, x.2.2.2.2.1, x.2.2.2.2.2.1, x.2.2.2.2.2.2.1, x.2.2.2.2.2.2.2.1⟩) (fun x => (x.Zdr, x.f_Who, x.f_A, x.f_B, x.f_C, x.f_N, x.Qmn, x.f_L, ())) (fun _ => rfl)
noncomputable def Zbn : Cd U Zi := Cd.iso (Cd.pair Cd.bool (Cd.pair (Cd.pair (Cd.int .u64) (Cd.int .u64)) (Cd.pair (Cd.int .i64) Cd.unit))) (fun x => ⟨x.1, x.2.1, x.2.2.1⟩) (fun x => (x.Wbe, x.f_C, x.Zu, ())) (fun _ => rfl)
noncomputable def Wyb : Cd U Zd := Cd.iso (Cd.pair (Cd.int .i64) (Cd.pair Zbn (Cd.pair (Cd.int .i64) Cd.unit))) (fun x => ⟨x.1, x.2.1, x.2.2.1⟩) (fun x => (x.Zde, x.Zq, x.Zdo, ())) (fun _ => rfl)
noncomputable def Wmb : Cd U Za := Cd.iso (Cd.pair (Cd.int .i64) (Cd.pair (Cd.row deqC C.Zd) (Cd.pair (Cd.int .i64) Cd.unit))) (fun x => ⟨x.1, x.2.1, x.2.2.1⟩) (fun x => (x.Zad, x.Zay, x.Wbm, ())) (fun _ => rfl)
noncomputable def Zw : Cd U Ze := Cd.iso (Cd.pair (Cd.arr 12 false Cd.bool) (Cd.pair (Cd.arr 12 0 (Cd.int .i64)) Cd.unit)) (fun x => ⟨x.1, x.2.1⟩) (fun x => (x.Zk, x.Zj, ())) (fun _ => rfl)
noncomputable def Zas : Cd U Zh := Cd.iso (Cd.pair (Cd.arr 12 false Cd.bool) (Cd.pair (Cd.arr 12 0 (Cd.int .i64)) Cd.unit)) (fun x => ⟨x.1, x.2.1⟩) (fun x => (x.Zk, x.Zj, ())) (fun _ => rfl)
noncomputable def Wqm (x : Za) : List (AV U) := [.flat (.int .i64 x.Zad), .row C.Zd x.Zay, .flat (.int .i64 x.Wbm)]
noncomputable def Wkx : List (AV U) → Option Za | [.flat (.int .i64 x1), .row C.Zd x2, .flat (.int .i64 x3)] => some (⟨x1, x2, x3⟩ : Za) | _ => none
theorem Wvb (cs : List (AV U)) (x : Za) (h : Wkx cs = some x) : cs = Wqm x := by
  unfold Wkx at h
  split at h
  · cases h; rfl
  · cases h
noncomputable def enc_i64 (x : Int) : List (AV U) := [.flat (.int .i64 x)]
noncomputable def Qmz : List (AV U) → Option Int | [.flat (.int .i64 x1)] => some x1 | _ => none
theorem Qqx (cs : List (AV U)) (x : Int) (h : Qmz cs = some x) : cs = enc_i64 x := by
  unfold Qmz at h
  split at h
  · cases h; rfl
  · cases h
noncomputable def Wsv (x : Zd) : List (AV U) := [.flat (.int .i64 x.Zde), .flat (.bool x.Zq.Wbe), .flat (.int .u64 x.Zq.f_C.1), .flat (.int .u64 x.Zq.f_C.2), .flat (.int .i64 x.Zq.Zu), .flat (.int .i64 x.Zdo)]
noncomputable def Wma : List (AV U) → Option Zd | [.flat (.int .i64 x1), .flat (.bool x2), .flat (.int .u64 x3), .flat (.int .u64 x4), .flat (.int .i64 x5), .flat (.int .i64 x6)] => some (⟨x1, (⟨x2, (x3, x4), x5⟩ : Zi), x6⟩ : Zd) | _ => none
theorem Wxx (cs : List (AV U)) (x : Zd) (h : Wma cs = some x) : cs = Wsv x := by
  unfold Wma at h
  split at h
  · cases h; rfl
  · cases h
noncomputable def Wnn (x : Zp) : List (AV U) := Wjn.enc x
noncomputable def Wnr (cs : List (AV U)) : Option Zp := Wjn.full cs
theorem Wqo (cs : List (AV U)) (x : Zp) (h : Wnr cs = some x) : cs = Wnn x := Cd.Wjc h
noncomputable def enc_u32 (x : Int) : List (AV U) := [.flat (.int .u32 x)]
noncomputable def Qmx : List (AV U) → Option Int | [.flat (.int .u32 x1)] => some x1 | _ => none
theorem Qqv (cs : List (AV U)) (x : Int) (h : Qmx cs = some x) : cs = enc_u32 x := by
  unfold Qmx at h
  split at h
  · cases h; rfl
  · cases h
noncomputable def enc_u64 (x : Int) : List (AV U) := [.flat (.int .u64 x)]
noncomputable def Qmw : List (AV U) → Option Int | [.flat (.int .u64 x1)] => some x1 | _ => none
theorem Qqu (cs : List (AV U)) (x : Int) (h : Qmw cs = some x) : cs = enc_u64 x := by
  unfold Qmw at h
  split at h
  · cases h; rfl
  · cases h
noncomputable def Qhl (x : (Int × Int)) : List (AV U) := [.flat (.int .i64 x.1), .flat (.int .i64 x.2)]
noncomputable def Wvd : List (AV U) → Option (Int × Int) | [.flat (.int .i64 x1), .flat (.int .i64 x2)] => some (x1, x2) | _ => none
theorem Qhn (cs : List (AV U)) (x : (Int × Int)) (h : Wvd cs = some x) : cs = Qhl x := by
  unfold Wvd at h
  split at h
  · cases h; rfl
  · cases h
noncomputable def Wxr (x : Zi) : List (AV U) := [.flat (.bool x.Wbe), .flat (.int .u64 x.f_C.1), .flat (.int .u64 x.f_C.2), .flat (.int .i64 x.Zu)]
noncomputable def Wpd : List (AV U) → Option Zi | [.flat (.bool x1), .flat (.int .u64 x2), .flat (.int .u64 x3), .flat (.int .i64 x4)] => some (⟨x1, (x2, x3), x4⟩ : Zi) | _ => none
theorem Qay (cs : List (AV U)) (x : Zi) (h : Wpd cs = some x) : cs = Wxr x := by
  unfold Wpd at h
  split at h
  · cases h; rfl
  · cases h
noncomputable def Qqs (x : Bool) : List (AV U) := [.flat (.bool x)]
noncomputable def Qho : List (AV U) → Option Bool | [.flat (.bool x1)] => some x1 | _ => none
theorem Qnh (cs : List (AV U)) (x : Bool) (h : Qho cs = some x) : cs = Qqs x := by
  unfold Qho at h
  split at h
  · cases h; rfl
  · cases h
noncomputable def Zcx (x y : (Int × Int)) : Bool := (x.1 == y.1) && (x.2 == y.2)
noncomputable def DD : Wbf U where
  size := fun c => match c with | .Za => 3 | .i64 => 1 | .Zd => 6 | .Zp => 8 | .u32 => 1 | .u64 => 1 | .Wcp => 2 | .Zi => 4 | .bool => 1
  enc := fun c => match c with | .Za => Wqm | .i64 => enc_i64 | .Zd => Wsv | .Zp => Wnn | .u32 => enc_u32 | .u64 => enc_u64 | .Wcp => Qhl | .Zi => Wxr | .bool => Qqs
  dec := fun c => match c with | .Za => Wkx | .i64 => Qmz | .Zd => Wma | .Zp => Wnr | .u32 => Qmx | .u64 => Qmw | .Wcp => Wvd | .Zi => Wpd | .bool => Qho
  dflt := fun c => match c with | .Za => (Za.zero : Za) | .i64 => (0 : Int) | .Zd => (Zd.zero : Zd) | .Zp => (Zp.zero : Zp) | .u32 => (0 : Int) | .u64 => (0 : Int) | .Wcp => ((0, 0) : (Int × Int)) | .Zi => (Zi.zero : Zi) | .bool => (false : Bool)
  deq := deqC
  kinds := fun c => match c with | .Za => none | .i64 => none | .Zd => none | .Zp => none | .u32 => none | .u64 => none | .Wcp => some [0, 0] | .Zi => none | .bool => none
  keq := fun c => match c with | .Za => fun _ _ => false | .i64 => fun _ _ => false | .Zd => fun _ _ => false | .Zp => fun _ _ => false | .u32 => fun _ _ => false | .u64 => fun _ _ => false | .Wcp => Zcx | .Zi => fun _ _ => false | .bool => fun _ _ => false
theorem lawful : Lawful DD where
  Wcu := fun c x => by cases c <;> rfl
  Wpc := fun c cs x h => by
    cases c with
    | Za => exact Wvb cs x h
    | i64 => exact Qqx cs x h
    | Zd => exact Wxx cs x h
    | Zp => exact Wqo cs x h
    | u32 => exact Qqv cs x h
    | u64 => exact Qqu cs x h
    | Wcp => exact Qhn cs x h
    | Zi => exact Qay cs x h
    | bool => exact Qnh cs x h
  enc_ok := fun c x v hv => List.all_eq_true.mp (show (DD.enc c x).all Wfi = true by cases c <;> rfl) v hv
  Wzy := fun c ks x y h => by
    cases c with
    | Za => cases h
    | i64 => cases h
    | Zd => cases h
    | Zp => cases h
    | u32 => cases h
    | u64 => cases h
    | Wcp => cases h; rfl
    | Zi => cases h
    | bool => cases h
  Wpb := fun c x v hv => List.all_eq_true.mp (show (DD.enc c x).all c0 = true by cases c <;> rfl) v hv
noncomputable def Wkn : AV U → Option (List Za) | .row C.Za x => some x | .tip _ C.Za x => some x | .flat (.slice none 0 0) => some [] | _ => none
theorem Wud {ren : List (Nat × Option Nat)} {v : AV U} {x : List Za} (h : Wkn v = some x) : FV0 ren v (.row C.Za x) := by
  unfold Wkn at h
  split at h
  · cases h; exact FV.row rfl rfl
  · cases h; exact FV.row rfl rfl
  · cases h; exact FV.nilRow rfl
  · cases h
noncomputable def Zer (o : List (Nat × Ev.Obj U)) (sz : Nat) : AV U → Option (Option Nat × List Za) | .tip i C.Za x => (match lk o i with | some (.tip z) => cond (Nat.beq z sz) (some (some i, x)) none | _ => none) | .flat (.slice none 0 0) => some (none, []) | _ => none
theorem Zcv {ren : List (Nat × Option Nat)} {s : St U} {sz cid : Nat} {v : AV U} {q : Option Nat × List Za} (h : Zer s.o sz v = some q) (hr : lk ren cid = some q.1) : FV0 ren v (.tip cid C.Za q.2) ∧ FO ren s cid (.tip sz) := by
  unfold Zer at h
  split at h
  · split at h
    · rename_i hz
      obtain ⟨hb, h2⟩ := Zr h
      cases h2
      have hb := Z2 hb
      subst hb
      exact ⟨FV.tip rfl hr, _, hr, fun aid ha => by cases ha; exact hz⟩
    · cases h
  · cases h
    exact ⟨FV.Wuj rfl hr, _, hr, fun aid ha => by cases ha⟩
  · cases h
noncomputable def Wkl (o : List (Nat × Ev.Obj U)) : AV U → Option (Option Nat × List Za) | .vs i => (match lk o i with | some (.vec C.Za x) => some (some i, x) | _ => none) | .flat (.slice none 0 0) => some (none, []) | _ => none
theorem Wkk {ren : List (Nat × Option Nat)} {s : St U} {cid : Nat} {v : AV U} {q : Option Nat × List Za} (h : Wkl s.o v = some q) (hr : lk ren cid = some q.1) : FV0 ren v (.vs cid) ∧ FO ren s cid (.vec C.Za q.2) := by
  unfold Wkl at h
  split at h
  · split at h
    · rename_i hz
      cases h
      exact ⟨FV.vs rfl hr, _, hr, fun aid ha => (by cases ha; exact hz), fun ha => (by cases ha)⟩
    · cases h
  · cases h
    exact ⟨FV.nilVs rfl hr, _, hr, fun aid ha => (by cases ha), fun _ => rfl⟩
  · cases h
noncomputable def mc : List (Nat × (U.C × U.C)) := [(29, (C.Wcp, C.Zi)), (30, (C.Wcp, C.Zi))]
noncomputable def ec : List (Nat × U.C) := [(22, C.Zp), (50, C.Za), (52, C.Zd), (57, C.bool), (68, C.i64), (106, C.i64), (112, C.Wcp), (165, C.Zi)]
theorem mixed : Try.prog.follows .mixedOrders = true := by kernel_rfl
noncomputable def sl0 : List (Nat × SDen U) := []
theorem Wqd : ∀ p ∈ sl0, SfOk Try.prog DD p.1 p.2 ∧ ∀ args w, (callFunc p.1 args).run Try.prog w = .ok (.enter p.1 args) w := fun p hp => (List.not_mem_nil hp).elim
noncomputable def Zaw (i b : Nat) : Tp U Zf := tIo i (Wcq i [Waz .i64, Wde DD (b + 2) C.Za 3] Zw) (fun x => (x.Zac, x.f_l, x.f_t, ())) (fun h => (⟨h.1, h.2.1, h.2.2.1⟩ : Zf)) (fun _ => rfl)
noncomputable def Zbf (i b : Nat) : Tp U Zx := tIo i (Wcq i [Waz .i64, Wde DD (b + 2) C.Za 3] Zas) (fun x => (x.Zu, x.f_L, x.f_T, ())) (fun h => (⟨h.1, h.2.1, h.2.2.1⟩ : Zx)) (fun _ => rfl)
noncomputable def n0 : Nat → Bool := fun _ => false
noncomputable def n00 : FuncId → Nat → Bool := fun _ _ => false
noncomputable def nl0 : Nat → List Nat := fun _ => []
noncomputable def nli : Nat → Option (Nat × List Nat) := fun _ => none
noncomputable def mkE (fn : Func) (fl : List (Pk Try.prog DD)) (jl : List (Nat × Jk U)) (ll : List (Nat × Wrb U)) (md : List (Nat × (Nat × U.C))) (dy : TypeId → Bool) (vc : Nat → Bool) (gh : List Nat) (ow : Bool) (io : FuncId → Nat → Bool) (ld : Nat → List Nat) (nl : List (Pk Try.prog DD)) (li : Nat → Option (Nat × List Nat)) : Env U := { P := Try.prog, D := DD, fd := lk (fds fl), sf := lk sl0, ld := lk ll, jd := lk (jds jl), mode := lk md, elc := lk ec, mpc := lk mc, rts := fn.resultTypes.toList, dyn := dy, Wpm := vc, results := fn.results.toList, gh := gh, own := ow, io := io, lds := ld, fn := lk (fds nl), lit := li }
theorem Zap (fn : Func) (fl : List (Pk Try.prog DD)) (jl : List (Nat × Jk U)) (ll : List (Nat × Wrb U)) (md : List (Nat × (Nat × U.C))) (dy : TypeId → Bool) (vc : Nat → Bool) (gh : List Nat) (ow : Bool) (io : FuncId → Nat → Bool) (ld : Nat → List Nat) (nl : List (Pk Try.prog DD)) (li : Nat → Option (Nat × List Nat)) : Wbx (mkE fn fl jl ll md dy vc gh ow io ld nl li) := Wxq lawful (fds fl) sl0 ll (jds jl) _ _ _ _ _ _ _ _ _ _ _ (fds nl) li (Qhd fl) Wqd (jds_ok jl) (Qhd nl)
end
end Go.Proofs.Ytbchcjlllddlpaa
