import Derived.Test.YtbchcjlllddlpaaGreatEvN
import Derived.Test.YtbchcjlllddlpaaGreatProg
namespace Go.Proofs.YtbchcjlllddlpaaGreat
open Go Go.Ev
noncomputable section
set_option linter.unusedVariables false
structure Za where
  Zgw : Bool
  f_C : (Int × Int)
  Zj : Int
noncomputable def Za.zero : Za := ⟨false, (0, 0), 0⟩
structure Zr where
  Zes : Int
  f_Who : Int
  f_A : Int
  f_B : Int
  f_C : Int
  f_N : Int
  Yte : Int
  f_L : List Int
noncomputable def Zr.zero : Zr := ⟨0, 0, 0, 0, 0, 0, 0, []⟩
structure Zc where
  Zdz : Int
  Zv : Za
  Zel : Int
noncomputable def Zc.zero : Zc := ⟨0, Za.zero, 0⟩
structure Zd where
  Zbj : Int
  Zci : List Zc
  Zjl : Int
noncomputable def Zd.zero : Zd := ⟨0, [], 0⟩
structure Ze where
  Zo : List Bool
  Zk : List Int
noncomputable def Ze.zero : Ze := ⟨[], []⟩
structure Zi where
  Zbc : Int
  f_l : List Zd
  f_t : Ze
noncomputable def Zi.zero : Zi := ⟨0, [], Ze.zero⟩
structure Zh where
  Zo : List Bool
  Zk : List Int
noncomputable def Zh.zero : Zh := ⟨[], []⟩
structure Zx where
  Zj : Int
  f_L : List Zd
  f_T : Zh
noncomputable def Zx.zero : Zx := ⟨0, [], Zh.zero⟩
structure Zm where
  Zbj : Int
  Zft : Int
noncomputable def Zm.zero : Zm := ⟨0, 0⟩
structure Zar where
  f_l : List (Zm × Za)
noncomputable def Zar.zero : Zar := ⟨[]⟩
structure Zaa where
  Zmn : List Bool
  f_D : List Za
noncomputable def Zaa.zero : Zaa := ⟨[], []⟩
noncomputable def Zgg (i : Nat) (v : Za) : Nat → List Za → List Za
  | _, [] => []
  | j, y :: r => (⟨cond (Nat.beq i j) v.Zgw y.Zgw, (cond (Nat.beq i j) v.f_C.1 y.f_C.1, cond (Nat.beq i j) v.f_C.2 y.f_C.2), cond (Nat.beq i j) v.Zj y.Zj⟩ : Za) :: Zgg i v (j + 1) r
inductive C where
  | u32
  | u64
  | Zd
  | i64
  | Zc
  | Zr
  | Zm
  | Za
  | Zhl
abbrev El : C → Type
  | .u32 => Int
  | .u64 => Int
  | .Zd => Zd
  | .i64 => Int
  | .Zc => Zc
  | .Zr => Zr
  | .Zm => Zm
  | .Za => Za
  | .Zhl => (Int × Int)
abbrev U : Zix := ⟨C, El⟩
noncomputable def deqC : DecidableEq U.C := fun a b => by cases a <;> cases b <;> first | exact isTrue rfl | exact isFalse (fun h => by cases h)
noncomputable def Zaq : Cd U Za := Cd.iso (Cd.pair Cd.bool (Cd.pair (Cd.pair (Cd.int .u64) (Cd.int .u64)) (Cd.pair (Cd.int .i64) Cd.unit))) (fun x => ⟨x.1, x.2.1, x.2.2.1⟩) (fun x => (x.Zgw, x.f_C, x.Zj, ())) (fun _ => rfl)
noncomputable def Zor : Cd U Zr := Cd.iso (Cd.pair (Cd.int .i64) (Cd.pair (Cd.int .i64) (Cd.pair (Cd.int .i64) (Cd.pair (Cd.int .i64) (Cd.pair (Cd.int .i64) (Cd.pair (Cd.int .i64) (Cd.pair (Cd.int .i64) (Cd.pair (Cd.row deqC C.i64) Cd.unit)))))))) (fun x => ⟨x.1, x.2.1, x.2.2.1, x.2.2.2.1, x.2.2.2.2.1, x.2.2.2.2.2.1, x.2.2.2.2.2.2.1, x.2.2.2.2.2.2.2.1⟩) (fun x => (x.Zes, x.f_Who, x.f_A, x.f_B, x.f_C, x.f_N, x.Yte, x.f_L, ())) (fun _ => rfl)
noncomputable def Ydm : Cd U Zc := Cd.iso (Cd.pair (Cd.int .i64) (Cd.pair Zaq (Cd.pair (Cd.int .i64) Cd.unit))) (fun x => ⟨x.1, x.2.1, x.2.2.1⟩) (fun x => (x.Zdz, x.Zv, x.Zel, ())) (fun _ => rfl)
noncomputable def Zrj : Cd U Zd := Cd.iso (Cd.pair (Cd.int .i64) (Cd.pair (Cd.row deqC C.Zc) (Cd.pair (Cd.int .i64) Cd.unit))) (fun x => ⟨x.1, x.2.1, x.2.2.1⟩) (fun x => (x.Zbj, x.Zci, x.Zjl, ())) (fun _ => rfl)
noncomputable def Zad : Cd U Ze := Cd.iso (Cd.pair (Cd.arr 12 false Cd.bool) (Cd.pair (Cd.arr 12 0 (Cd.int .i64)) Cd.unit)) (fun x => ⟨x.1, x.2.1⟩) (fun x => (x.Zo, x.Zk, ())) (fun _ => rfl)
noncomputable def Zax : Cd U Zh := Cd.iso (Cd.pair (Cd.arr 12 false Cd.bool) (Cd.pair (Cd.arr 12 0 (Cd.int .i64)) Cd.unit)) (fun x => ⟨x.1, x.2.1⟩) (fun x => (x.Zo, x.Zk, ())) (fun _ => rfl)
noncomputable def Ydk : Cd U Zm := Cd.iso (Cd.pair (Cd.int .i64) (Cd.pair (Cd.int .i64) Cd.unit)) (fun x => ⟨x.1, x.2.1⟩) (fun x => (x.Zbj, x.Zft, ())) (fun _ => rfl)
noncomputable def Zdj : Cd U Zaa := Cd.iso (Cd.pair (Cd.arr 36 false Cd.bool) (Cd.pair (Cd.arr 36 Za.zero Zaq) Cd.unit)) (fun x => ⟨x.1, x.2.1⟩) (fun x => (x.Zmn, x.f_D, ())) (fun _ => rfl)
noncomputable def enc_u32 (x : Int) : List (AV U) := [.flat (.int .u32 x)]
noncomputable def Yto : List (AV U) → Option Int | [.flat (.int .u32 x1)] => some x1 | _ => none
theorem Yxh (cs : List (AV U)) (x : Int) (h : Yto cs = some x) : cs = enc_u32 x := by
  unfold Yto at h
  split at h
  · cases h; rfl
  · cases h
noncomputable def enc_u64 (x : Int) : List (AV U) := [.flat (.int .u64 x)]
noncomputable def Ytn : List (AV U) → Option Int | [.flat (.int .u64 x1)] => some x1 | _ => none
theorem Yxd (cs : List (AV U)) (x : Int) (h : Ytn cs = some x) : cs = enc_u64 x := by
  unfold Ytn at h
  split at h
  · cases h; rfl
  · cases h
noncomputable def Zvr (x : Zd) : List (AV U) := [.flat (.int .i64 x.Zbj), .row C.Zc x.Zci, .flat (.int .i64 x.Zjl)]
noncomputable def Zqk : List (AV U) → Option Zd | [.flat (.int .i64 x1), .row C.Zc x2, .flat (.int .i64 x3)] => some (⟨x1, x2, x3⟩ : Zd) | _ => none
theorem Yac (cs : List (AV U)) (x : Zd) (h : Zqk cs = some x) : cs = Zvr x := by
  unfold Zqk at h
  split at h
  · cases h; rfl
  · cases h
noncomputable def enc_i64 (x : Int) : List (AV U) := [.flat (.int .i64 x)]
noncomputable def Ytq : List (AV U) → Option Int | [.flat (.int .i64 x1)] => some x1 | _ => none
theorem Yxj (cs : List (AV U)) (x : Int) (h : Ytq cs = some x) : cs = enc_i64 x := by
  unfold Ytq at h
  split at h
  · cases h; rfl
  · cases h
noncomputable def Zyc (x : Zc) : List (AV U) := [.flat (.int .i64 x.Zdz), .flat (.bool x.Zv.Zgw), .flat (.int .u64 x.Zv.f_C.1), .flat (.int .u64 x.Zv.f_C.2), .flat (.int .i64 x.Zv.Zj), .flat (.int .i64 x.Zel)]
noncomputable def Zri : List (AV U) → Option Zc | [.flat (.int .i64 x1), .flat (.bool x2), .flat (.int .u64 x3), .flat (.int .u64 x4), .flat (.int .i64 x5), .flat (.int .i64 x6)] => some (⟨x1, (⟨x2, (x3, x4), x5⟩ : Za), x6⟩ : Zc) | _ => none
theorem Ydc (cs : List (AV U)) (x : Zc) (h : Zri cs = some x) : cs = Zyc x := by
  unfold Zri at h
  split at h
  · cases h; rfl
  · cases h
noncomputable def Zso (x : Zr) : List (AV U) := Zor.enc x
noncomputable def Zsq (cs : List (AV U)) : Option Zr := Zor.full cs
theorem Zvs (cs : List (AV U)) (x : Zr) (h : Zsq cs = some x) : cs = Zso x := Cd.Zoc h
noncomputable def Zyb (x : Zm) : List (AV U) := [.flat (.int .i64 x.Zbj), .flat (.int .i64 x.Zft)]
noncomputable def Zrh : List (AV U) → Option Zm | [.flat (.int .i64 x1), .flat (.int .i64 x2)] => some (⟨x1, x2⟩ : Zm) | _ => none
theorem Ydb (cs : List (AV U)) (x : Zm) (h : Zrh cs = some x) : cs = Zyb x := by
  unfold Zrh at h
  split at h
  · cases h; rfl
  · cases h
noncomputable def Ycx (x : Za) : List (AV U) := [.flat (.bool x.Zgw), .flat (.int .u64 x.f_C.1), .flat (.int .u64 x.f_C.2), .flat (.int .i64 x.Zj)]
noncomputable def Zuh : List (AV U) → Option Za | [.flat (.bool x1), .flat (.int .u64 x2), .flat (.int .u64 x3), .flat (.int .i64 x4)] => some (⟨x1, (x2, x3), x4⟩ : Za) | _ => none
theorem Ygd (cs : List (AV U)) (x : Za) (h : Zuh cs = some x) : cs = Ycx x := by
  unfold Zuh at h
  split at h
  · cases h; rfl
  · cases h
noncomputable def Ymp (x : (Int × Int)) : List (AV U) := [.flat (.int .i64 x.1), .flat (.int .i64 x.2)]
noncomputable def Yae : List (AV U) → Option (Int × Int) | [.flat (.int .i64 x1), .flat (.int .i64 x2)] => some (x1, x2) | _ => none
theorem Ymw (cs : List (AV U)) (x : (Int × Int)) (h : Yae cs = some x) : cs = Ymp x := by
  unfold Yae at h
  split at h
  · cases h; rfl
  · cases h
noncomputable def Zam (x y : Zm) : Bool := (x.Zbj == y.Zbj) && (x.Zft == y.Zft)
noncomputable def Zcd (x y : (Int × Int)) : Bool := (x.1 == y.1) && (x.2 == y.2)
noncomputable def DD : Zha U where
  size := fun c => match c with | .u32 => 1 | .u64 => 1 | .Zd => 3 | .i64 => 1 | .Zc => 6 | .Zr => 8 | .Zm => 2 | .Za => 4 | .Zhl => 2
  enc := fun c => match c with | .u32 => enc_u32 | .u64 => enc_u64 | .Zd => Zvr | .i64 => enc_i64 | .Zc => Zyc | .Zr => Zso | .Zm => Zyb | .Za => Ycx | .Zhl => Ymp
  dec := fun c => match c with | .u32 => Yto | .u64 => Ytn | .Zd => Zqk | .i64 => Ytq | .Zc => Zri | .Zr => Zsq | .Zm => Zrh | .Za => Zuh | .Zhl => Yae
  dflt := fun c => match c with | .u32 => (0 : Int) | .u64 => (0 : Int) | .Zd => (Zd.zero : Zd) | .i64 => (0 : Int) | .Zc => (Zc.zero : Zc) | .Zr => (Zr.zero : Zr) | .Zm => (Zm.zero : Zm) | .Za => (Za.zero : Za) | .Zhl => ((0, 0) : (Int × Int))
  deq := deqC
  kinds := fun c => match c with | .u32 => none | .u64 => none | .Zd => none | .i64 => none | .Zc => none | .Zr => none | .Zm => some [0, 0] | .Za => none | .Zhl => some [0, 0]
  keq := fun c => match c with | .u32 => fun _ _ => false | .u64 => fun _ _ => false | .Zd => fun _ _ => false | .i64 => fun _ _ => false | .Zc => fun _ _ => false | .Zr => fun _ _ => false | .Zm => Zam | .Za => fun _ _ => false | .Zhl => Zcd
theorem lawful : Lawful DD where
  Zii := fun c x => by cases c <;> rfl
  Zug := fun c cs x h => by
    cases c with
    | u32 => exact Yxh cs x h
    | u64 => exact Yxd cs x h
    | Zd => exact Yac cs x h
    | i64 => exact Yxj cs x h
    | Zc => exact Ydc cs x h
    | Zr => exact Zvs cs x h
    | Zm => exact Ydb cs x h
    | Za => exact Ygd cs x h
    | Zhl => exact Ymw cs x h
  enc_ok := fun c x v hv => List.all_eq_true.mp (show (DD.enc c x).all Zki = true by cases c <;> rfl) v hv
  Yfi := fun c ks x y h => by
    cases c with
    | u32 => cases h
    | u64 => cases h
    | Zd => cases h
    | i64 => cases h
    | Zc => cases h
    | Zr => cases h
    | Zm => cases h; rfl
    | Za => cases h
    | Zhl => cases h; rfl
  Zue := fun c x v hv => List.all_eq_true.mp (show (DD.enc c x).all c0 = true by cases c <;> rfl) v hv
noncomputable def Zpy : AV U → Option (List Zd) | .row C.Zd x => some x | .tip _ C.Zd x => some x | .flat (.slice none 0 0) => some [] | _ => none
theorem Zzg {ren : List (Nat × Option Nat)} {v : AV U} {x : List Zd} (h : Zpy v = some x) : FV0 ren v (.row C.Zd x) := by
  unfold Zpy at h
  split at h
  · cases h; exact FV.row rfl rfl
  · cases h; exact FV.row rfl rfl
  · cases h; exact FV.nilRow rfl
  · cases h
noncomputable def Zfv (o : List (Nat × Ev.Obj U)) (sz : Nat) : AV U → Option (Option Nat × List Zd) | .tip i C.Zd x => (match lk o i with | some (.tip z) => cond (Nat.beq z sz) (some (some i, x)) none | _ => none) | .flat (.slice none 0 0) => some (none, []) | _ => none
theorem Zds {ren : List (Nat × Option Nat)} {s : St U} {sz cid : Nat} {v : AV U} {q : Option Nat × List Zd} (h : Zfv s.o sz v = some q) (hr : lk ren cid = some q.1) : FV0 ren v (.tip cid C.Zd q.2) ∧ FO ren s cid (.tip sz) := by
  unfold Zfv at h
  split at h
  · split at h
    · rename_i hz
      obtain ⟨hb, h2⟩ := Zs h
      cases h2
      have hb := Z2 hb
      subst hb
      exact ⟨FV.tip rfl hr, _, hr, fun aid ha => by cases ha; exact hz⟩
    · cases h
  · cases h
    exact ⟨FV.Zzm rfl hr, _, hr, fun aid ha => by cases ha⟩
  · cases h
noncomputable def Zpw (o : List (Nat × Ev.Obj U)) : AV U → Option (Option Nat × List Zd) | .vs i => (match lk o i with | some (.vec C.Zd x) => some (some i, x) | _ => none) | .flat (.slice none 0 0) => some (none, []) | _ => none
theorem Zpv {ren : List (Nat × Option Nat)} {s : St U} {cid : Nat} {v : AV U} {q : Option Nat × List Zd} (h : Zpw s.o v = some q) (hr : lk ren cid = some q.1) : FV0 ren v (.vs cid) ∧ FO ren s cid (.vec C.Zd q.2) := by
  unfold Zpw at h
  split at h
  · split at h
    · rename_i hz
      cases h
      exact ⟨FV.vs rfl hr, _, hr, fun aid ha => (by cases ha; exact hz), fun ha => (by cases ha)⟩
    · cases h
  · cases h
    exact ⟨FV.nilVs rfl hr, _, hr, fun aid ha => (by cases ha), fun _ => rfl⟩
  · cases h
noncomputable def mc : List (Nat × (U.C × U.C)) := [(32, (C.Zhl, C.Za)), (33, (C.Zhl, C.Za)), (151, (C.Zm, C.Za))]
noncomputable def ec : List (Nat × U.C) := [(22, C.i64), (24, C.Zc), (51, C.Zhl), (54, C.Zr), (99, C.Zd), (118, C.i64), (190, C.Za), (246, C.Zm)]
theorem mixed : Tryz.prog.follows .mixedOrders = true := by kernel_rfl
noncomputable def sl0 : List (Nat × SDen U) := []
theorem Zvb : ∀ p ∈ sl0, SfOk Tryz.prog DD p.1 p.2 ∧ ∀ args w, (callFunc p.1 args).run Tryz.prog w = .ok (.enter p.1 args) w := fun p hp => (List.not_mem_nil hp).elim
noncomputable def Zbb (i b : Nat) : Tp U Zi := tIo i (Zjm i [Zgt .i64, Zju DD (b + 2) C.Zd 3] Zad) (fun x => (x.Zbc, x.f_l, x.f_t, ())) (fun h => (⟨h.1, h.2.1, h.2.2.1⟩ : Zi)) (fun _ => rfl)
noncomputable def Zbq (i b : Nat) : Tp U Zx := tIo i (Zjm i [Zgt .i64, Zju DD (b + 2) C.Zd 3] Zax) (fun x => (x.Zj, x.f_L, x.f_T, ())) (fun h => (⟨h.1, h.2.1, h.2.2.1⟩ : Zx)) (fun _ => rfl)
noncomputable def Zdd (i b : Nat) : Tp U Zar := tIo i (Zhi i [Zim DD (b + 1) true true true C.Zm C.Za]) (fun x => (x.f_l, ())) (fun h => (⟨h.1⟩ : Zar)) (fun _ => rfl)
noncomputable def n0 : Nat → Bool := fun _ => false
noncomputable def n00 : FuncId → Nat → Bool := fun _ _ => false
noncomputable def nl0 : Nat → List Nat := fun _ => []
noncomputable def nli : Nat → Option (Nat × List Nat) := fun _ => none
noncomputable def mkE (fn : Func) (fl : List (Pk Tryz.prog DD)) (jl : List (Nat × Jk U)) (ll : List (Nat × Zwe U)) (md : List (Nat × (Nat × U.C))) (dy : TypeId → Bool) (vc : Nat → Bool) (gh : List Nat) (ow : Bool) (io : FuncId → Nat → Bool) (ld : Nat → List Nat) (nl : List (Pk Tryz.prog DD)) (li : Nat → Option (Nat × List Nat)) : Env U := { P := Tryz.prog, D := DD, fd := lk (fds fl), sf := lk sl0, ld := lk ll, jd := lk (jds jl), mode := lk md, elc := lk ec, mpc := lk mc, rts := fn.resultTypes.toList, dyn := dy, Zuu := vc, results := fn.results.toList, gh := gh, own := ow, io := io, lds := ld, fn := lk (fds nl), lit := li }
theorem Zag (fn : Func) (fl : List (Pk Tryz.prog DD)) (jl : List (Nat × Jk U)) (ll : List (Nat × Zwe U)) (md : List (Nat × (Nat × U.C))) (dy : TypeId → Bool) (vc : Nat → Bool) (gh : List Nat) (ow : Bool) (io : FuncId → Nat → Bool) (ld : Nat → List Nat) (nl : List (Pk Tryz.prog DD)) (li : Nat → Option (Nat × List Nat)) : Zhp (mkE fn fl jl ll md dy vc gh ow io ld nl li) := Ycu lawful (fds fl) sl0 ll (jds jl) _ _ _ _ _ _ _ _ _ _ _ (fds nl) li (Yme fl) Zvb (jds_ok jl) (Yme nl)
end
end Go.Proofs.YtbchcjlllddlpaaGreat
