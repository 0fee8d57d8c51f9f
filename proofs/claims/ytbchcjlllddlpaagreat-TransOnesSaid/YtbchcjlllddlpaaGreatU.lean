import Derived.Test.YtbchcjlllddlpaaGreatEvN
import Derived.Test.YtbchcjlllddlpaaGreatProg
namespace Go.Proofs.YtbchcjlllddlpaaGreat
open Go Go.Ev
noncomputable section
set_option linter.unusedVariables false
structure Zb where
  Zgv : Bool
  f_C : (Int × Int)
  Zp : Int
noncomputable def Zb.zero : Zb := ⟨false, (0, 0), 0⟩
structure Zq where
  Zeo : Int
  f_Who : Int
  f_A : Int
  f_B : Int
  f_C : Int
  f_N : Int
  Ysr : Int
  f_L : List Int
noncomputable def Zq.zero : Zq := ⟨0, 0, 0, 0, 0, 0, 0, []⟩
structure Zc where
  Zdt : Int
  Zu : Zb
  Zeg : Int
noncomputable def Zc.zero : Zc := ⟨0, Zb.zero, 0⟩
structure Zd where
  Zbj : Int
  Zby : List Zc
  Zje : Int
noncomputable def Zd.zero : Zd := ⟨0, [], 0⟩
structure Ze where
  Zm : List Bool
  Zi : List Int
noncomputable def Ze.zero : Ze := ⟨[], []⟩
structure Zg where
  Zbb : Int
  f_l : List Zd
  f_t : Ze
noncomputable def Zg.zero : Zg := ⟨0, [], Ze.zero⟩
structure Zh where
  Zm : List Bool
  Zi : List Int
noncomputable def Zh.zero : Zh := ⟨[], []⟩
structure Zw where
  Zp : Int
  f_L : List Zd
  f_T : Zh
noncomputable def Zw.zero : Zw := ⟨0, [], Zh.zero⟩
structure Zz where
  Zbj : Int
  Zlm : Int
noncomputable def Zz.zero : Zz := ⟨0, 0⟩
structure Zaq where
  f_l : List (Zz × Zb)
noncomputable def Zaq.zero : Zaq := ⟨[]⟩
inductive C where
  | u32
  | u64
  | Zd
  | i64
  | Zc
  | Zq
  | Zhp
  | Zb
  | Zz
abbrev El : C → Type
  | .u32 => Int
  | .u64 => Int
  | .Zd => Zd
  | .i64 => Int
  | .Zc => Zc
  | .Zq => Zq
  | .Zhp => (Int × Int)
  | .Zb => Zb
  | .Zz => Zz
abbrev U : Zit := ⟨C, El⟩
noncomputable def deqC : DecidableEq U.C := fun a b => by cases a <;> cases b <;> first | exact isTrue rfl | exact isFalse (fun h => by cases h)
noncomputable def Zap : Cd U Zb := Cd.iso (Cd.pair Cd.bool (Cd.pair (Cd.pair (Cd.int .u64) (Cd.int .u64)) (Cd.pair (Cd.int .i64) Cd.unit))) (fun x => ⟨x.1, x.2.1, x.2.2.1⟩) (fun x => (x.Zgv, x.f_C, x.Zp, ())) (fun _ => rfl)
noncomputable def Zok : Cd U Zq := Cd.iso (Cd.pair (Cd.int .i64) (Cd.pair (Cd.int .i64) (Cd.pair (Cd.int .i64) (Cd.pair (Cd.int .i64) (Cd.pair (Cd.int .i64) (Cd.pair (Cd.int .i64) (Cd.pair (Cd.int .i64) (Cd.pair (Cd.row deqC C.i64) Cd.unit)))))))) (fun x => ⟨x.1, x.2.1, x.2.2.1, x.2.2.2.1, x.2.2.2.2.1, x.2.2.2.2.2.1, x.2.2.2.2.2.2.1, x.2.2.2.2.2.2.2.1⟩) (fun x => (x.Zeo, x.f_Who, x.f_A, x.f_B, x.f_C, x.f_N, x.Ysr, x.f_L, ())) (fun _ => rfl)
noncomputable def Ycu : Cd U Zc := Cd.iso (Cd.pair (Cd.int .i64) (Cd.pair Zap (Cd.pair (Cd.int .i64) Cd.unit))) (fun x => ⟨x.1, x.2.1, x.2.2.1⟩) (fun x => (x.Zdt, x.Zu, x.Zeg, ())) (fun _ => rfl)
noncomputable def Zra : Cd U Zd := Cd.iso (Cd.pair (Cd.int .i64) (Cd.pair (Cd.row deqC C.Zc) (Cd.pair (Cd.int .i64) Cd.unit))) (fun x => ⟨x.1, x.2.1, x.2.2.1⟩) (fun x => (x.Zbj, x.Zby, x.Zje, ())) (fun _ => rfl)
noncomputable def Zac : Cd U Ze := Cd.iso (Cd.pair (Cd.arr 12 false Cd.bool) (Cd.pair (Cd.arr 12 0 (Cd.int .i64)) Cd.unit)) (fun x => ⟨x.1, x.2.1⟩) (fun x => (x.Zm, x.Zi, ())) (fun _ => rfl)
noncomputable def Zau : Cd U Zh := Cd.iso (Cd.pair (Cd.arr 12 false Cd.bool) (Cd.pair (Cd.arr 12 0 (Cd.int .i64)) Cd.unit)) (fun x => ⟨x.1, x.2.1⟩) (fun x => (x.Zm, x.Zi, ())) (fun _ => rfl)
noncomputable def Yct : Cd U Zz := Cd.iso (Cd.pair (Cd.int .i64) (Cd.pair (Cd.int .i64) Cd.unit)) (fun x => ⟨x.1, x.2.1⟩) (fun x => (x.Zbj, x.Zlm, ())) (fun _ => rfl)
noncomputable def enc_u32 (x : Int) : List (AV U) := [.flat (.int .u32 x)]
noncomputable def Ysy : List (AV U) → Option Int | [.flat (.int .u32 x1)] => some x1 | _ => none
theorem Ywr (cs : List (AV U)) (x : Int) (h : Ysy cs = some x) : cs = enc_u32 x := by
  unfold Ysy at h
  split at h
  · cases h; rfl
  · cases h
noncomputable def enc_u64 (x : Int) : List (AV U) := [.flat (.int .u64 x)]
noncomputable def Ysw : List (AV U) → Option Int | [.flat (.int .u64 x1)] => some x1 | _ => none
theorem Ywo (cs : List (AV U)) (x : Int) (h : Ysw cs = some x) : cs = enc_u64 x := by
  unfold Ysw at h
  split at h
  · cases h; rfl
  · cases h
noncomputable def Zuy (x : Zd) : List (AV U) := [.flat (.int .i64 x.Zbj), .row C.Zc x.Zby, .flat (.int .i64 x.Zje)]
noncomputable def Zqa : List (AV U) → Option Zd | [.flat (.int .i64 x1), .row C.Zc x2, .flat (.int .i64 x3)] => some (⟨x1, x2, x3⟩ : Zd) | _ => none
theorem Zzk (cs : List (AV U)) (x : Zd) (h : Zqa cs = some x) : cs = Zuy x := by
  unfold Zqa at h
  split at h
  · cases h; rfl
  · cases h
noncomputable def enc_i64 (x : Int) : List (AV U) := [.flat (.int .i64 x)]
noncomputable def Ysz : List (AV U) → Option Int | [.flat (.int .i64 x1)] => some x1 | _ => none
theorem Yws (cs : List (AV U)) (x : Int) (h : Ysz cs = some x) : cs = enc_i64 x := by
  unfold Ysz at h
  split at h
  · cases h; rfl
  · cases h
noncomputable def Zxp (x : Zc) : List (AV U) := [.flat (.int .i64 x.Zdt), .flat (.bool x.Zu.Zgv), .flat (.int .u64 x.Zu.f_C.1), .flat (.int .u64 x.Zu.f_C.2), .flat (.int .i64 x.Zu.Zp), .flat (.int .i64 x.Zeg)]
noncomputable def Zqz : List (AV U) → Option Zc | [.flat (.int .i64 x1), .flat (.bool x2), .flat (.int .u64 x3), .flat (.int .u64 x4), .flat (.int .i64 x5), .flat (.int .i64 x6)] => some (⟨x1, (⟨x2, (x3, x4), x5⟩ : Zb), x6⟩ : Zc) | _ => none
theorem Yco (cs : List (AV U)) (x : Zc) (h : Zqz cs = some x) : cs = Zxp x := by
  unfold Zqz at h
  split at h
  · cases h; rfl
  · cases h
noncomputable def Zrx (x : Zq) : List (AV U) := Zok.enc x
noncomputable def Zrz (cs : List (AV U)) : Option Zq := Zok.full cs
theorem Zva (cs : List (AV U)) (x : Zq) (h : Zrz cs = some x) : cs = Zrx x := Cd.Znp h
noncomputable def Yls (x : (Int × Int)) : List (AV U) := [.flat (.int .i64 x.1), .flat (.int .i64 x.2)]
noncomputable def Zzl : List (AV U) → Option (Int × Int) | [.flat (.int .i64 x1), .flat (.int .i64 x2)] => some (x1, x2) | _ => none
theorem Ylu (cs : List (AV U)) (x : (Int × Int)) (h : Zzl cs = some x) : cs = Yls x := by
  unfold Zzl at h
  split at h
  · cases h; rfl
  · cases h
noncomputable def Yci (x : Zb) : List (AV U) := [.flat (.bool x.Zgv), .flat (.int .u64 x.f_C.1), .flat (.int .u64 x.f_C.2), .flat (.int .i64 x.Zp)]
noncomputable def Zto : List (AV U) → Option Zb | [.flat (.bool x1), .flat (.int .u64 x2), .flat (.int .u64 x3), .flat (.int .i64 x4)] => some (⟨x1, (x2, x3), x4⟩ : Zb) | _ => none
theorem Yfp (cs : List (AV U)) (x : Zb) (h : Zto cs = some x) : cs = Yci x := by
  unfold Zto at h
  split at h
  · cases h; rfl
  · cases h
noncomputable def Zxm (x : Zz) : List (AV U) := [.flat (.int .i64 x.Zbj), .flat (.int .i64 x.Zlm)]
noncomputable def Zqy : List (AV U) → Option Zz | [.flat (.int .i64 x1), .flat (.int .i64 x2)] => some (⟨x1, x2⟩ : Zz) | _ => none
theorem Ycm (cs : List (AV U)) (x : Zz) (h : Zqy cs = some x) : cs = Zxm x := by
  unfold Zqy at h
  split at h
  · cases h; rfl
  · cases h
noncomputable def Zcb (x y : (Int × Int)) : Bool := (x.1 == y.1) && (x.2 == y.2)
noncomputable def Zav (x y : Zz) : Bool := (x.Zbj == y.Zbj) && (x.Zlm == y.Zlm)
noncomputable def DD : Zgx U where
  size := fun c => match c with | .u32 => 1 | .u64 => 1 | .Zd => 3 | .i64 => 1 | .Zc => 6 | .Zq => 8 | .Zhp => 2 | .Zb => 4 | .Zz => 2
  enc := fun c => match c with | .u32 => enc_u32 | .u64 => enc_u64 | .Zd => Zuy | .i64 => enc_i64 | .Zc => Zxp | .Zq => Zrx | .Zhp => Yls | .Zb => Yci | .Zz => Zxm
  dec := fun c => match c with | .u32 => Ysy | .u64 => Ysw | .Zd => Zqa | .i64 => Ysz | .Zc => Zqz | .Zq => Zrz | .Zhp => Zzl | .Zb => Zto | .Zz => Zqy
  dflt := fun c => match c with | .u32 => (0 : Int) | .u64 => (0 : Int) | .Zd => (Zd.zero : Zd) | .i64 => (0 : Int) | .Zc => (Zc.zero : Zc) | .Zq => (Zq.zero : Zq) | .Zhp => ((0, 0) : (Int × Int)) | .Zb => (Zb.zero : Zb) | .Zz => (Zz.zero : Zz)
  deq := deqC
  kinds := fun c => match c with | .u32 => none | .u64 => none | .Zd => none | .i64 => none | .Zc => none | .Zq => none | .Zhp => some [0, 0] | .Zb => none | .Zz => some [0, 0]
  keq := fun c => match c with | .u32 => fun _ _ => false | .u64 => fun _ _ => false | .Zd => fun _ _ => false | .i64 => fun _ _ => false | .Zc => fun _ _ => false | .Zq => fun _ _ => false | .Zhp => Zcb | .Zb => fun _ _ => false | .Zz => Zav
theorem lawful : Lawful DD where
  Zie := fun c x => by cases c <;> rfl
  Ztl := fun c cs x h => by
    cases c with
    | u32 => exact Ywr cs x h
    | u64 => exact Ywo cs x h
    | Zd => exact Zzk cs x h
    | i64 => exact Yws cs x h
    | Zc => exact Yco cs x h
    | Zq => exact Zva cs x h
    | Zhp => exact Ylu cs x h
    | Zb => exact Yfp cs x h
    | Zz => exact Ycm cs x h
  enc_ok := fun c x v hv => List.all_eq_true.mp (show (DD.enc c x).all Zkb = true by cases c <;> rfl) v hv
  Yex := fun c ks x y h => by
    cases c with
    | u32 => cases h
    | u64 => cases h
    | Zd => cases h
    | i64 => cases h
    | Zc => cases h
    | Zq => cases h
    | Zhp => cases h; rfl
    | Zb => cases h
    | Zz => cases h; rfl
  Ztk := fun c x v hv => List.all_eq_true.mp (show (DD.enc c x).all c0 = true by cases c <;> rfl) v hv
noncomputable def Zpr : AV U → Option (List Zd) | .row C.Zd x => some x | .tip _ C.Zd x => some x | .flat (.slice none 0 0) => some [] | _ => none
theorem Zyq {ren : List (Nat × Option Nat)} {v : AV U} {x : List Zd} (h : Zpr v = some x) : FV0 ren v (.row C.Zd x) := by
  unfold Zpr at h
  split at h
  · cases h; exact FV.row rfl rfl
  · cases h; exact FV.row rfl rfl
  · cases h; exact FV.nilRow rfl
  · cases h
noncomputable def Zfs (o : List (Nat × Ev.Obj U)) (sz : Nat) : AV U → Option (Option Nat × List Zd) | .tip i C.Zd x => (match lk o i with | some (.tip z) => cond (Nat.beq z sz) (some (some i, x)) none | _ => none) | .flat (.slice none 0 0) => some (none, []) | _ => none
theorem Zdm {ren : List (Nat × Option Nat)} {s : St U} {sz cid : Nat} {v : AV U} {q : Option Nat × List Zd} (h : Zfs s.o sz v = some q) (hr : lk ren cid = some q.1) : FV0 ren v (.tip cid C.Zd q.2) ∧ FO ren s cid (.tip sz) := by
  unfold Zfs at h
  split at h
  · split at h
    · rename_i hz
      obtain ⟨hb, h2⟩ := Zr h
      cases h2
      have hb := Nat.eq_of_beq_eq_true hb
      subst hb
      exact ⟨FV.tip rfl hr, _, hr, fun aid ha => by cases ha; exact hz⟩
    · cases h
  · cases h
    exact ⟨FV.Zyw rfl hr, _, hr, fun aid ha => by cases ha⟩
  · cases h
noncomputable def Zpp (o : List (Nat × Ev.Obj U)) : AV U → Option (Option Nat × List Zd) | .vs i => (match lk o i with | some (.vec C.Zd x) => some (some i, x) | _ => none) | .flat (.slice none 0 0) => some (none, []) | _ => none
theorem Zpo {ren : List (Nat × Option Nat)} {s : St U} {cid : Nat} {v : AV U} {q : Option Nat × List Zd} (h : Zpp s.o v = some q) (hr : lk ren cid = some q.1) : FV0 ren v (.vs cid) ∧ FO ren s cid (.vec C.Zd q.2) := by
  unfold Zpp at h
  split at h
  · split at h
    · rename_i hz
      cases h
      exact ⟨FV.vs rfl hr, _, hr, fun aid ha => (by cases ha; exact hz), fun ha => (by cases ha)⟩
    · cases h
  · cases h
    exact ⟨FV.nilVs rfl hr, _, hr, fun aid ha => (by cases ha), fun _ => rfl⟩
  · cases h
noncomputable def mc : List (Nat × (U.C × U.C)) := [(32, (C.Zhp, C.Zb)), (33, (C.Zhp, C.Zb)), (151, (C.Zz, C.Zb))]
noncomputable def ec : List (Nat × U.C) := [(22, C.i64), (24, C.Zc), (51, C.Zhp), (54, C.Zq), (99, C.Zd), (118, C.i64), (190, C.Zb), (246, C.Zz)]
theorem mixed : Tryz.prog.follows .mixedOrders = true := by kernel_rfl
noncomputable def sl0 : List (Nat × SDen U) := []
theorem Zup : ∀ p ∈ sl0, SfOk Tryz.prog DD p.1 p.2 ∧ ∀ args w, (callFunc p.1 args).run Tryz.prog w = .ok (.enter p.1 args) w := fun p hp => (List.not_mem_nil hp).elim
noncomputable def Zba (i b : Nat) : Tp U Zg := tIo i (Zjg i [Zgo .i64, Zjm DD (b + 2) C.Zd 3] Zac) (fun x => (x.Zbb, x.f_l, x.f_t, ())) (fun h => (⟨h.1, h.2.1, h.2.2.1⟩ : Zg)) (fun _ => rfl)
noncomputable def Zbm (i b : Nat) : Tp U Zw := tIo i (Zjg i [Zgo .i64, Zjm DD (b + 2) C.Zd 3] Zau) (fun x => (x.Zp, x.f_L, x.f_T, ())) (fun h => (⟨h.1, h.2.1, h.2.2.1⟩ : Zw)) (fun _ => rfl)
noncomputable def Zcr (i b : Nat) : Tp U Zaq := tIo i (Zhn i [Zme DD (b + 1) true true true C.Zz C.Zb]) (fun x => (x.f_l, ())) (fun h => (⟨h.1⟩ : Zaq)) (fun _ => rfl)
noncomputable def n0 : Nat → Bool := fun _ => false
noncomputable def n00 : FuncId → Nat → Bool := fun _ _ => false
noncomputable def nl0 : Nat → List Nat := fun _ => []
noncomputable def nli : Nat → Option (Nat × List Nat) := fun _ => none
noncomputable def mkE (fn : Func) (fl : List (Pk Tryz.prog DD)) (jl : List (Nat × Jk U)) (ll : List (Nat × Zvm U)) (md : List (Nat × (Nat × U.C))) (dy : TypeId → Bool) (vc : Nat → Bool) (gh : List Nat) (ow : Bool) (io : FuncId → Nat → Bool) (ld : Nat → List Nat) (nl : List (Pk Tryz.prog DD)) (li : Nat → Option (Nat × List Nat)) : Env U := { P := Tryz.prog, D := DD, fd := lk (fds fl), sf := lk sl0, ld := lk ll, jd := lk (jds jl), mode := lk md, elc := lk ec, mpc := lk mc, rts := fn.resultTypes.toList, dyn := dy, Zug := vc, results := fn.results.toList, gh := gh, own := ow, io := io, lds := ld, fn := lk (fds nl), lit := li }
theorem Zae (fn : Func) (fl : List (Pk Tryz.prog DD)) (jl : List (Nat × Jk U)) (ll : List (Nat × Zvm U)) (md : List (Nat × (Nat × U.C))) (dy : TypeId → Bool) (vc : Nat → Bool) (gh : List Nat) (ow : Bool) (io : FuncId → Nat → Bool) (ld : Nat → List Nat) (nl : List (Pk Tryz.prog DD)) (li : Nat → Option (Nat × List Nat)) : Zhj (mkE fn fl jl ll md dy vc gh ow io ld nl li) := Ycg lawful (fds fl) sl0 ll (jds jl) _ _ _ _ _ _ _ _ _ _ _ (fds nl) li (Ylk fl) Zup (jds_ok jl) (Ylk nl)
end
end Go.Proofs.YtbchcjlllddlpaaGreat
