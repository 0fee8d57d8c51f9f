import Derived.Test.YtbchcjlllddlpaaGreatEvC
import Derived.Test.YtbchcjlllddlpaaGreatProg
namespace Go.Proofs.YtbchcjlllddlpaaGreat
open Go Go.Ev
noncomputable section
set_option linter.unusedVariables false
structure Za where
  Zhd : Bool
  f_C : (Int × Int)
  Zm : Int
noncomputable def Za.zero : Za := ⟨false, (0, 0), 0⟩
structure Zd where
  Zdu : Int
  Zv : Za
  Zeg : Int
noncomputable def Zd.zero : Zd := ⟨0, Za.zero, 0⟩
structure Ze where
  Zbi : Int
  Zcr : List Zd
  Zjn : Int
noncomputable def Ze.zero : Ze := ⟨0, [], 0⟩
structure Zg where
  Zl : List Bool
  Zj : List Int
noncomputable def Zg.zero : Zg := ⟨[], []⟩
structure Zk where
  Zbk : Int
  f_l : List Ze
  f_t : Zg
noncomputable def Zk.zero : Zk := ⟨0, [], Zg.zero⟩
structure Zw where
  Zgn : Int
  f_Who : Int
  f_A : Int
  f_B : Int
  f_C : Int
  f_N : Int
  Ysr : Int
  f_L : List Int
noncomputable def Zw.zero : Zw := ⟨0, 0, 0, 0, 0, 0, 0, []⟩
structure Zf where
  Zl : List Bool
  Zj : List Int
noncomputable def Zf.zero : Zf := ⟨[], []⟩
structure Zt where
  Zm : Int
  f_L : List Ze
  f_T : Zf
noncomputable def Zt.zero : Zt := ⟨0, [], Zf.zero⟩
structure Zu where
  Zbi : Int
  Zge : Int
noncomputable def Zu.zero : Zu := ⟨0, 0⟩
structure Zax where
  f_l : List (Zu × Za)
noncomputable def Zax.zero : Zax := ⟨[]⟩
structure Zh where
  Zhv : List Bool
  f_D : List Za
noncomputable def Zh.zero : Zh := ⟨[], []⟩
structure Zc where
  f_K : (Int × Int)
  f_D : Za
noncomputable def Zc.zero : Zc := ⟨(0, 0), Za.zero⟩
noncomputable def Zgr (i : Nat) (v : Za) : Nat → List Za → List Za
  | _, [] => []
  | j, y :: r => (⟨cond (Nat.beq i j) v.Zhd y.Zhd, (cond (Nat.beq i j) v.f_C.1 y.f_C.1, cond (Nat.beq i j) v.f_C.2 y.f_C.2), cond (Nat.beq i j) v.Zm y.Zm⟩ : Za) :: Zgr i v (j + 1) r
inductive C where
  | Zd
  | i64
  | Ze
  | u32
  | u64
  | Zih
  | Zw
  | Zu
  | Za
  | Zc
abbrev El : C → Type
  | .Zd => Zd
  | .i64 => Int
  | .Ze => Ze
  | .u32 => Int
  | .u64 => Int
  | .Zih => (Int × Int)
  | .Zw => Zw
  | .Zu => Zu
  | .Za => Za
  | .Zc => Zc
abbrev U : Zjm := ⟨C, El⟩
noncomputable def deqC : DecidableEq U.C := fun a b => by cases a <;> cases b <;> first | exact isTrue rfl | exact isFalse (fun h => by cases h)
noncomputable def Zau : Cd U Za := Cd.iso (Cd.pair Cd.bool (Cd.pair (Cd.pair (Cd.int .u64) (Cd.int .u64)) (Cd.pair (Cd.int .i64) Cd.unit))) (fun x => ⟨x.1, x.2.1, x.2.2.1⟩) (fun x => (x.Zhd, x.f_C, x.Zm, ())) (fun _ => rfl)
noncomputable def Ydf : Cd U Zd := Cd.iso (Cd.pair (Cd.int .i64) (Cd.pair Zau (Cd.pair (Cd.int .i64) Cd.unit))) (fun x => ⟨x.1, x.2.1, x.2.2.1⟩) (fun x => (x.Zdu, x.Zv, x.Zeg, ())) (fun _ => rfl)
noncomputable def Zrj : Cd U Ze := Cd.iso (Cd.pair (Cd.int .i64) (Cd.pair (Cd.row deqC C.Zd) (Cd.pair (Cd.int .i64) Cd.unit))) (fun x => ⟨x.1, x.2.1, x.2.2.1⟩) (fun x => (x.Zbi, x.Zcr, x.Zjn, ())) (fun _ => rfl)
noncomputable def Zal : Cd U Zg := Cd.iso (Cd.pair (Cd.arr 12 false Cd.bool) (Cd.pair (Cd.arr 12 0 (Cd.int .i64)) Cd.unit)) (fun x => ⟨x.1, x.2.1⟩) (fun x => (x.Zl, x.Zj, ())) (fun _ => rfl)
noncomputable def Zoq : Cd U Zw := Cd.iso (Cd.pair (Cd.int .i64) (Cd.pair (Cd.int .i64) (Cd.pair (Cd.int .i64) (Cd.pair (Cd.int .i64) (Cd.pair (Cd.int .i64) (Cd.pair (Cd.int .i64) (Cd.pair (Cd.int .i64) (Cd.pair (Cd.row deqC C.i64) Cd.unit)))))))) (fun x => ⟨x.1, x.2.1, x.2.2.1, x.2.2.2.1, x.2.2.2.2.1, x.2.2.2.2.2.1, x.2.2.2.2.2.2.1, x.2.2.2.2.2.2.2.1⟩) (fun x => (x.Zgn, x.f_Who, x.f_A, x.f_B, x.f_C, x.f_N, x.Ysr, x.f_L, ())) (fun _ => rfl)
noncomputable def Zap : Cd U Zf := Cd.iso (Cd.pair (Cd.arr 12 false Cd.bool) (Cd.pair (Cd.arr 12 0 (Cd.int .i64)) Cd.unit)) (fun x => ⟨x.1, x.2.1⟩) (fun x => (x.Zl, x.Zj, ())) (fun _ => rfl)
noncomputable def Ydd : Cd U Zu := Cd.iso (Cd.pair (Cd.int .i64) (Cd.pair (Cd.int .i64) Cd.unit)) (fun x => ⟨x.1, x.2.1⟩) (fun x => (x.Zbi, x.Zge, ())) (fun _ => rfl)
noncomputable def Zaw : Cd U Zh := Cd.iso (Cd.pair (Cd.arr 36 false Cd.bool) (Cd.pair (Cd.arr 36 Za.zero Zau) Cd.unit)) (fun x => ⟨x.1, x.2.1⟩) (fun x => (x.Zhv, x.f_D, ())) (fun _ => rfl)
noncomputable def Zxz (x : Zd) : List (AV U) := [.flat (.int .i64 x.Zdu), .flat (.bool x.Zv.Zhd), .flat (.int .u64 x.Zv.f_C.1), .flat (.int .u64 x.Zv.f_C.2), .flat (.int .i64 x.Zv.Zm), .flat (.int .i64 x.Zeg)]
noncomputable def Zri : List (AV U) → Option Zd | [.flat (.int .i64 x1), .flat (.bool x2), .flat (.int .u64 x3), .flat (.int .u64 x4), .flat (.int .i64 x5), .flat (.int .i64 x6)] => some (⟨x1, (⟨x2, (x3, x4), x5⟩ : Za), x6⟩ : Zd) | _ => none
theorem Ycy (cs : List (AV U)) (x : Zd) (h : Zri cs = some x) : cs = Zxz x := by
  unfold Zri at h
  split at h
  · cases h; rfl
  · cases h
noncomputable def enc_i64 (x : Int) : List (AV U) := [.flat (.int .i64 x)]
noncomputable def Ysy : List (AV U) → Option Int | [.flat (.int .i64 x1)] => some x1 | _ => none
theorem Ywm (cs : List (AV U)) (x : Int) (h : Ysy cs = some x) : cs = enc_i64 x := by
  unfold Ysy at h
  split at h
  · cases h; rfl
  · cases h
noncomputable def Zvl (x : Ze) : List (AV U) := [.flat (.int .i64 x.Zbi), .row C.Zd x.Zcr, .flat (.int .i64 x.Zjn)]
noncomputable def Zqm : List (AV U) → Option Ze | [.flat (.int .i64 x1), .row C.Zd x2, .flat (.int .i64 x3)] => some (⟨x1, x2, x3⟩ : Ze) | _ => none
theorem Zzz (cs : List (AV U)) (x : Ze) (h : Zqm cs = some x) : cs = Zvl x := by
  unfold Zqm at h
  split at h
  · cases h; rfl
  · cases h
noncomputable def enc_u32 (x : Int) : List (AV U) := [.flat (.int .u32 x)]
noncomputable def Ysw : List (AV U) → Option Int | [.flat (.int .u32 x1)] => some x1 | _ => none
theorem Ywl (cs : List (AV U)) (x : Int) (h : Ysw cs = some x) : cs = enc_u32 x := by
  unfold Ysw at h
  split at h
  · cases h; rfl
  · cases h
noncomputable def enc_u64 (x : Int) : List (AV U) := [.flat (.int .u64 x)]
noncomputable def Ysv : List (AV U) → Option Int | [.flat (.int .u64 x1)] => some x1 | _ => none
theorem Ywi (cs : List (AV U)) (x : Int) (h : Ysv cs = some x) : cs = enc_u64 x := by
  unfold Ysv at h
  split at h
  · cases h; rfl
  · cases h
noncomputable def Ymj (x : (Int × Int)) : List (AV U) := [.flat (.int .i64 x.1), .flat (.int .i64 x.2)]
noncomputable def Yab : List (AV U) → Option (Int × Int) | [.flat (.int .i64 x1), .flat (.int .i64 x2)] => some (x1, x2) | _ => none
theorem Ymp (cs : List (AV U)) (x : (Int × Int)) (h : Yab cs = some x) : cs = Ymj x := by
  unfold Yab at h
  split at h
  · cases h; rfl
  · cases h
noncomputable def Zso (x : Zw) : List (AV U) := Zoq.enc x
noncomputable def Zsp (cs : List (AV U)) : Option Zw := Zoq.full cs
theorem Zvq (cs : List (AV U)) (x : Zw) (h : Zsp cs = some x) : cs = Zso x := Cd.Znv h
noncomputable def Zxy (x : Zu) : List (AV U) := [.flat (.int .i64 x.Zbi), .flat (.int .i64 x.Zge)]
noncomputable def Zrh : List (AV U) → Option Zu | [.flat (.int .i64 x1), .flat (.int .i64 x2)] => some (⟨x1, x2⟩ : Zu) | _ => none
theorem Ycx (cs : List (AV U)) (x : Zu) (h : Zrh cs = some x) : cs = Zxy x := by
  unfold Zrh at h
  split at h
  · cases h; rfl
  · cases h
noncomputable def Yct (x : Za) : List (AV U) := [.flat (.bool x.Zhd), .flat (.int .u64 x.f_C.1), .flat (.int .u64 x.f_C.2), .flat (.int .i64 x.Zm)]
noncomputable def Zty : List (AV U) → Option Za | [.flat (.bool x1), .flat (.int .u64 x2), .flat (.int .u64 x3), .flat (.int .i64 x4)] => some (⟨x1, (x2, x3), x4⟩ : Za) | _ => none
theorem Ygo (cs : List (AV U)) (x : Za) (h : Zty cs = some x) : cs = Yct x := by
  unfold Zty at h
  split at h
  · cases h; rfl
  · cases h
noncomputable def Zqk (x : Zc) : List (AV U) := [.flat (.int .i64 x.f_K.1), .flat (.int .i64 x.f_K.2), .flat (.bool x.f_D.Zhd), .flat (.int .u64 x.f_D.f_C.1), .flat (.int .u64 x.f_D.f_C.2), .flat (.int .i64 x.f_D.Zm)]
noncomputable def Zmb : List (AV U) → Option Zc | [.flat (.int .i64 x1), .flat (.int .i64 x2), .flat (.bool x3), .flat (.int .u64 x4), .flat (.int .u64 x5), .flat (.int .i64 x6)] => some (⟨(x1, x2), (⟨x3, (x4, x5), x6⟩ : Za)⟩ : Zc) | _ => none
theorem Ztu (cs : List (AV U)) (x : Zc) (h : Zmb cs = some x) : cs = Zqk x := by
  unfold Zmb at h
  split at h
  · cases h; rfl
  · cases h
noncomputable def Zcu (x y : (Int × Int)) : Bool := (x.1 == y.1) && (x.2 == y.2)
noncomputable def Zan (x y : Zu) : Bool := (x.Zbi == y.Zbi) && (x.Zge == y.Zge)
noncomputable def DD : Zhk U where
  size := fun c => match c with | .Zd => 6 | .i64 => 1 | .Ze => 3 | .u32 => 1 | .u64 => 1 | .Zih => 2 | .Zw => 8 | .Zu => 2 | .Za => 4 | .Zc => 6
  enc := fun c => match c with | .Zd => Zxz | .i64 => enc_i64 | .Ze => Zvl | .u32 => enc_u32 | .u64 => enc_u64 | .Zih => Ymj | .Zw => Zso | .Zu => Zxy | .Za => Yct | .Zc => Zqk
  dec := fun c => match c with | .Zd => Zri | .i64 => Ysy | .Ze => Zqm | .u32 => Ysw | .u64 => Ysv | .Zih => Yab | .Zw => Zsp | .Zu => Zrh | .Za => Zty | .Zc => Zmb
  dflt := fun c => match c with | .Zd => (Zd.zero : Zd) | .i64 => (0 : Int) | .Ze => (Ze.zero : Ze) | .u32 => (0 : Int) | .u64 => (0 : Int) | .Zih => ((0, 0) : (Int × Int)) | .Zw => (Zw.zero : Zw) | .Zu => (Zu.zero : Zu) | .Za => (Za.zero : Za) | .Zc => (Zc.zero : Zc)
  deq := deqC
  kinds := fun c => match c with | .Zd => none | .i64 => none | .Ze => none | .u32 => none | .u64 => none | .Zih => some [0, 0] | .Zw => none | .Zu => some [0, 0] | .Za => none | .Zc => none
  keq := fun c => match c with | .Zd => fun _ _ => false | .i64 => fun _ _ => false | .Ze => fun _ _ => false | .u32 => fun _ _ => false | .u64 => fun _ _ => false | .Zih => Zcu | .Zw => fun _ _ => false | .Zu => Zan | .Za => fun _ _ => false | .Zc => fun _ _ => false
theorem lawful : Lawful DD where
  Ziv := fun c x => by cases c <;> rfl
  Ztw := fun c cs x h => by
    cases c with
    | Zd => exact Ycy cs x h
    | i64 => exact Ywm cs x h
    | Ze => exact Zzz cs x h
    | u32 => exact Ywl cs x h
    | u64 => exact Ywi cs x h
    | Zih => exact Ymp cs x h
    | Zw => exact Zvq cs x h
    | Zu => exact Ycx cs x h
    | Za => exact Ygo cs x h
    | Zc => exact Ztu cs x h
  enc_ok := fun c x v hv => List.all_eq_true.mp (show (DD.enc c x).all Zkj = true by cases c <;> rfl) v hv
  Yfj := fun c ks x y h => by
    cases c with
    | Zd => cases h
    | i64 => cases h
    | Ze => cases h
    | u32 => cases h
    | u64 => cases h
    | Zih => cases h; rfl
    | Zw => cases h
    | Zu => cases h; rfl
    | Za => cases h
    | Zc => cases h
  Ztr := fun c x v hv => List.all_eq_true.mp (show (DD.enc c x).all c0 = true by cases c <;> rfl) v hv
noncomputable def Zqa : AV U → Option (List Ze) | .row C.Ze x => some x | .tip _ C.Ze x => some x | .flat (.slice none 0 0) => some [] | _ => none
theorem Zzb {ren : List (Nat × Option Nat)} {v : AV U} {x : List Ze} (h : Zqa v = some x) : FV0 ren v (.row C.Ze x) := by
  unfold Zqa at h
  split at h
  · cases h; exact FV.row rfl rfl
  · cases h; exact FV.row rfl rfl
  · cases h; exact FV.nilRow rfl
  · cases h
noncomputable def Zgh (o : List (Nat × Ev.Obj U)) (sz : Nat) : AV U → Option (Option Nat × List Ze) | .tip i C.Ze x => (match lk o i with | some (.tip z) => cond (Nat.beq z sz) (some (some i, x)) none | _ => none) | .flat (.slice none 0 0) => some (none, []) | _ => none
theorem Zef {ren : List (Nat × Option Nat)} {s : St U} {sz cid : Nat} {v : AV U} {q : Option Nat × List Ze} (h : Zgh s.o sz v = some q) (hr : lk ren cid = some q.1) : FV0 ren v (.tip cid C.Ze q.2) ∧ FO ren s cid (.tip sz) := by
  unfold Zgh at h
  split at h
  · split at h
    · rename_i hz
      obtain ⟨hb, h2⟩ := Zz h
      cases h2
      have hb := Nat.eq_of_beq_eq_true hb
      subst hb
      exact ⟨FV.tip rfl hr, _, hr, fun aid ha => by cases ha; exact hz⟩
    · cases h
  · cases h
    exact ⟨FV.Zzh rfl hr, _, hr, fun aid ha => by cases ha⟩
  · cases h
noncomputable def Zpw (o : List (Nat × Ev.Obj U)) : AV U → Option (Option Nat × List Ze) | .vs i => (match lk o i with | some (.vec C.Ze x) => some (some i, x) | _ => none) | .flat (.slice none 0 0) => some (none, []) | _ => none
theorem Zpv {ren : List (Nat × Option Nat)} {s : St U} {cid : Nat} {v : AV U} {q : Option Nat × List Ze} (h : Zpw s.o v = some q) (hr : lk ren cid = some q.1) : FV0 ren v (.vs cid) ∧ FO ren s cid (.vec C.Ze q.2) := by
  unfold Zpw at h
  split at h
  · split at h
    · rename_i hz
      cases h
      exact ⟨FV.vs rfl hr, _, hr, fun aid ha => (by cases ha; exact hz), fun ha => (by cases ha)⟩
    · cases h
  · cases h
    exact ⟨FV.nilVs rfl hr, _, hr, fun aid ha => (by cases ha), fun _ => rfl⟩
  · cases h
noncomputable def mc : List (Nat × (U.C × U.C)) := [(32, (C.Zih, C.Za)), (33, (C.Zih, C.Za)), (151, (C.Zu, C.Za))]
noncomputable def ec : List (Nat × U.C) := [(22, C.i64), (24, C.Zd), (51, C.Zih), (54, C.Zw), (58, C.Zc), (59, C.Zc), (99, C.Ze), (118, C.i64), (190, C.Za), (246, C.Zu)]
theorem mixed : Tryz.prog.follows .mixedOrders = true := by kernel_rfl
noncomputable def sl0 : List (Nat × SDen U) := []
theorem Zuu : ∀ p ∈ sl0, SfOk Tryz.prog DD p.1 p.2 ∧ ∀ args w, (callFunc p.1 args).run Tryz.prog w = .ok (.enter p.1 args) w := fun p hp => (List.not_mem_nil hp).elim
noncomputable def Zbm (i b : Nat) : Tp U Zk := tIo i (Ziw i [Zhb .i64, Zik DD (b + 2) C.Ze 3] Zal) (fun x => (x.Zbk, x.f_l, x.f_t, ())) (fun h => (⟨h.1, h.2.1, h.2.2.1⟩ : Zk)) (fun _ => rfl)
noncomputable def Zbt (i b : Nat) : Tp U Zt := tIo i (Ziw i [Zhb .i64, Zik DD (b + 2) C.Ze 3] Zap) (fun x => (x.Zm, x.f_L, x.f_T, ())) (fun h => (⟨h.1, h.2.1, h.2.2.1⟩ : Zt)) (fun _ => rfl)
noncomputable def Zcz (i b : Nat) : Tp U Zax := tIo i (Zhq i [Zkd DD (b + 1) true true true C.Zu C.Za]) (fun x => (x.f_l, ())) (fun h => (⟨h.1⟩ : Zax)) (fun _ => rfl)
noncomputable def n0 : Nat → Bool := fun _ => false
noncomputable def n00 : FuncId → Nat → Bool := fun _ _ => false
noncomputable def nl0 : Nat → List Nat := fun _ => []
noncomputable def nli : Nat → Option (Nat × List Nat) := fun _ => none
noncomputable def mkE (fn : Func) (fl : List (Pk Tryz.prog DD)) (jl : List (Nat × Jk U)) (ll : List (Nat × Zvv U)) (md : List (Nat × (Nat × U.C))) (dy : TypeId → Bool) (vc : Nat → Bool) (gh : List Nat) (ow : Bool) (io : FuncId → Nat → Bool) (ld : Nat → List Nat) (nl : List (Pk Tryz.prog DD)) (li : Nat → Option (Nat × List Nat)) : Env U := { P := Tryz.prog, D := DD, fd := lk (fds fl), sf := lk sl0, ld := lk ll, jd := lk (jds jl), mode := lk md, elc := lk ec, mpc := lk mc, rts := fn.resultTypes.toList, dyn := dy, Zuk := vc, results := fn.results.toList, gh := gh, own := ow, io := io, lds := ld, fn := lk (fds nl), lit := li }
theorem Zak (fn : Func) (fl : List (Pk Tryz.prog DD)) (jl : List (Nat × Jk U)) (ll : List (Nat × Zvv U)) (md : List (Nat × (Nat × U.C))) (dy : TypeId → Bool) (vc : Nat → Bool) (gh : List Nat) (ow : Bool) (io : FuncId → Nat → Bool) (ld : Nat → List Nat) (nl : List (Pk Tryz.prog DD)) (li : Nat → Option (Nat × List Nat)) : Zic (mkE fn fl jl ll md dy vc gh ow io ld nl li) := Ycp lawful (fds fl) sl0 ll (jds jl) _ _ _ _ _ _ _ _ _ _ _ (fds nl) li (Ymd fl) Zuu (jds_ok jl) (Ymd nl)
end
end Go.Proofs.YtbchcjlllddlpaaGreat
