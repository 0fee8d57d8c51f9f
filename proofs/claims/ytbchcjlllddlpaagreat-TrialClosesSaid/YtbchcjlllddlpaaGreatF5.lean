import Derived.Test.YtbchcjlllddlpaaGreatF4
/-! Functions, told; their equations with the evaluator; that they are sound. Written by gen.py. -/
namespace Go.Proofs.YtbchcjlllddlpaaGreat
open Go Go.Ev
noncomputable section
set_option linter.unusedVariables false
set_option linter.unusedSimpArgs false
set_option maxRecDepth 100000
abbrev T5b := (Int × Int × Int × Int × Int × Int × Int × Int)
abbrev T5a := ((Int × Int × Int × Int) × (Int × Int × Int × Int))
/-! ### pyx/dec.Sign: function 43 -/
noncomputable def Zdk.f (k : Nat) (a0 : Zg) : Option Int := (((Zce.f k (⟨a0.f_Neg, (a0.f_C.1, a0.f_C.2), a0.Zn⟩ : Zg)).bind fun t1 => (cond (!t1) (some (true, a0.f_Neg, a0.f_C.1, a0.f_C.2, a0.Zn)) ((Zco.f k (a0.f_C.1, a0.f_C.2)).bind fun t7 => (some (t7, a0.f_Neg, a0.f_C.1, a0.f_C.2, a0.Zn))))) : Option (Bool × Bool × Int × Int × Int)).bind fun y8 => (cond (y8.1) (some 0) (cond (y8.2.1) (some (-1)) (some 1)))
noncomputable def Zdk.i : Lay U Zg := (pcOne 0 (tAt (vCd Zcy))).lay (fun _ => by kernel_rfl)
noncomputable def Zdk.r : Lay U Int := (pcOne 0 (tAt (vInt .i64))).lay (fun _ => by kernel_rfl)
noncomputable def Zdk.D (k : Nat) : FDen U := fdn Zdk.i Zdk.r Tryz.f43.ntmps [] true (fun x => Zdk.f k (x)) (fun _ _ => rfl)
noncomputable def Zdk.j1000 : Jk U := ⟨(Bool × Bool × Int × Int × Int), oNorm (lay [(1, sPtr 1 0), (3, sAt vBool)] [bLit 1 [vBool, (vInt .u64), (vInt .u64), (vInt .i64)]] (fun _ => by kernel_rfl))⟩
noncomputable def Zdk.E (k : Nat) : Env U := mkE Tryz.f43 [Zce.pk k, Zco.pk k] [(1000, Zdk.j1000)] [] [] n0 n0 [] false n00 nl0 []
theorem Zdk.eq (k : Nat) (x : Zg) : runF (Zdk.E k) (codeOf Tryz.f43) (Zdk.i.put x) Zdk.r.un = Zdk.f k (x) := by kernel_rfl
theorem Zdk.sound (k : Nat) : Sound Tryz.prog DD 43 (Zdk.D k) :=
  funP (E := Zdk.E k) (fn := Tryz.f43) (c := codeOf Tryz.f43) (Zbq _ _ _ _ _ _ _ _ _ _ _ _) mixed rfl Tryz.func43 (by kernel_rfl) (by kernel_rfl) (Zan (l := []) (by kernel_rfl) Zaa) Zdk.i Zdk.r [] true (fun x => Zdk.f k (x)) (fun _ _ => rfl) (by kernel_rfl) (Zdk.eq k)
noncomputable def Zdk.pk (k : Nat) : Pk Tryz.prog DD := ⟨43, Zdk.D k, Zdk.sound k, Zal Tryz.func43 (by kernel_rfl) (by kernel_rfl)⟩
/-! ### pyx/chart.IsWith: function 148 -/
noncomputable def Zcz.f (k : Nat) (a0 : Int) : Option Bool := cond (a0 == 3) (some true) (some (a0 == 6))
noncomputable def Zcz.i : Lay U Int := (pcOne 0 (tAt (vInt .i64))).lay (fun _ => by kernel_rfl)
noncomputable def Zcz.r : Lay U Bool := (pcOne 0 (tAt vBool)).lay (fun _ => by kernel_rfl)
noncomputable def Zcz.D (k : Nat) : FDen U := fdn Zcz.i Zcz.r Tryz.f148.ntmps [] true (fun x => Zcz.f k (x)) (fun _ _ => rfl)
noncomputable def Zcz.E (k : Nat) : Env U := mkE Tryz.f148 [] [] [] [] n0 n0 [] false n00 nl0 []
theorem Zcz.eq (k : Nat) (x : Int) : runF (Zcz.E k) (codeOf Tryz.f148) (Zcz.i.put x) Zcz.r.un = Zcz.f k (x) := by kernel_rfl
theorem Zcz.sound (k : Nat) : Sound Tryz.prog DD 148 (Zcz.D k) :=
  funP (E := Zcz.E k) (fn := Tryz.f148) (c := codeOf Tryz.f148) (Zbq _ _ _ _ _ _ _ _ _ _ _ _) mixed rfl Tryz.func148 (by kernel_rfl) (by kernel_rfl) (Zan (l := []) (by kernel_rfl) Zaa) Zcz.i Zcz.r [] true (fun x => Zcz.f k (x)) (fun _ _ => rfl) (by kernel_rfl) (Zcz.eq k)
noncomputable def Zcz.pk (k : Nat) : Pk Tryz.prog DD := ⟨148, Zcz.D k, Zcz.sound k, Zal Tryz.func148 (by kernel_rfl) (by kernel_rfl)⟩
/-! ### pyx/entry.rightLine: function 108 -/
noncomputable def Zbp.f (k : Nat) (a0 : Zb) (a1 : Int) : Option Bool := ((cond (decide (a0.Zeq ≥ 0)) (some (a1, decide (a0.Zeq < 8), a0.Zdu, a0.Zo.f_Neg, a0.Zo.f_C.1, a0.Zo.f_C.2, a0.Zo.Zn, a0.Zeq)) (some (a1, false, a0.Zdu, a0.Zo.f_Neg, a0.Zo.f_C.1, a0.Zo.f_C.2, a0.Zo.Zn, a0.Zeq))) : Option (Int × Bool × Int × Bool × Int × Int × Int × Int)).bind fun y9 => ((((Zdd.f k y9.2.2.1).bind fun t10 => (cond (t10 == 0) (some (y9.2.1, true, y9.2.2.1, y9.2.2.2.1, y9.2.2.2.2.1, y9.2.2.2.2.2.1, y9.2.2.2.2.2.2.1, y9.2.2.2.2.2.2.2)) ((Zdk.f k (⟨y9.2.2.2.1, (y9.2.2.2.2.1, y9.2.2.2.2.2.1), y9.2.2.2.2.2.2.1⟩ : Zg)).bind fun t19 => (cond (t19 == 0) (some (y9.2.1, true, y9.2.2.1, y9.2.2.2.1, y9.2.2.2.2.1, y9.2.2.2.2.2.1, y9.2.2.2.2.2.2.1, y9.2.2.2.2.2.2.2)) (some (y9.2.1, y9.2.2.2.2.2.2.1 != y9.1, y9.2.2.1, y9.2.2.2.1, y9.2.2.2.2.1, y9.2.2.2.2.2.1, y9.2.2.2.2.2.2.1, y9.2.2.2.2.2.2.2)))))) : Option (Bool × Bool × Int × Bool × Int × Int × Int × Int)).bind fun y20 => (cond (y20.2.1) (some false) ((Zcz.f k y20.2.2.1).bind fun t21 => (cond (t21) (cond (y20.1) (some true) ((Zcz.f k y20.2.2.1).bind fun t22 => (cond (!t22) (some (y20.2.2.2.2.2.2.2 == (-1))) (some false)))) ((Zcz.f k y20.2.2.1).bind fun t23 => (cond (!t23) (some (y20.2.2.2.2.2.2.2 == (-1))) (some false)))))))
noncomputable def Zbp.i : Lay U (Zb × Int) := (pcAnd (pcOne 0 (tAt (vCd cd_Sapi_Line))) (pcOne 1 (tAt (vInt .i64)))).lay (fun _ => by kernel_rfl)
noncomputable def Zbp.r : Lay U Bool := (pcOne 0 (tAt vBool)).lay (fun _ => by kernel_rfl)
noncomputable def Zbp.D (k : Nat) : FDen U := fdn Zbp.i Zbp.r Tryz.f108.ntmps [] true (fun x => Zbp.f k (x.1) (x.2)) (fun _ _ => rfl)
noncomputable def Zbp.j1000 : Jk U := ⟨(Int × Bool × Int × Bool × Int × Int × Int × Int), oNorm (lay [(2, sPtr 2 0), (1, sAt (vInt .i64)), (5, sAt vBool)] [bLit 2 [(vInt .i64), vBool, (vInt .u64), (vInt .u64), (vInt .i64), (vInt .i64)]] (fun _ => by kernel_rfl))⟩
noncomputable def Zbp.j2000 : Jk U := ⟨(Bool × Bool × Int × Bool × Int × Int × Int × Int), oNorm (lay [(2, sPtr 2 0), (5, sAt vBool), (30, sAt vBool)] [bLit 2 [(vInt .i64), vBool, (vInt .u64), (vInt .u64), (vInt .i64), (vInt .i64)]] (fun _ => by kernel_rfl))⟩
noncomputable def Zbp.E (k : Nat) : Env U := mkE Tryz.f108 [Zdd.pk k, Zdk.pk k, Zcz.pk k] [(1000, Zbp.j1000), (2000, Zbp.j2000)] [] [] n0 n0 [] false n00 nl0 []
theorem Zbp.eq (k : Nat) (x : (Zb × Int)) : runF (Zbp.E k) (codeOf Tryz.f108) (Zbp.i.put x) Zbp.r.un = Zbp.f k (x.1) (x.2) := by kernel_rfl
theorem Zbp.sound (k : Nat) : Sound Tryz.prog DD 108 (Zbp.D k) :=
  funP (E := Zbp.E k) (fn := Tryz.f108) (c := codeOf Tryz.f108) (Zbq _ _ _ _ _ _ _ _ _ _ _ _) mixed rfl Tryz.func108 (by kernel_rfl) (by kernel_rfl) (Zan (l := []) (by kernel_rfl) Zaa) Zbp.i Zbp.r [] true (fun x => Zbp.f k (x.1) (x.2)) (fun _ _ => rfl) (by kernel_rfl) (Zbp.eq k)
noncomputable def Zbp.pk (k : Nat) : Pk Tryz.prog DD := ⟨108, Zbp.D k, Zbp.sound k, Zal Tryz.func108 (by kernel_rfl) (by kernel_rfl)⟩
/-! ### pyx/dec.Of: function 60 -/
noncomputable def Zer.f (k : Nat) (a0 : Int) (a1 : Int) : Option Zg := ((cond (decide (a0 < 0)) (some (a0, a1, IntKind.wrap .u64 (0 - (IntKind.wrap .u64 (a0))), false, 0, 0, 0)) (some (a0, a1, IntKind.wrap .u64 (a0), false, 0, 0, 0))) : Option (Int × Int × Int × Bool × Int × Int × Int)).bind fun y8 => ((Zej.f k y8.2.2.1).bind fun t9 => (some (⟨decide (y8.1 < 0), (t9.1, t9.2), (if (if 9 < y8.2.1 then 9 else y8.2.1) > 0 then (if 9 < y8.2.1 then 9 else y8.2.1) else 0)⟩ : Zg)))
noncomputable def Zer.i : Lay U (Int × Int) := (pcAnd (pcOne 0 (tAt (vInt .i64))) (pcOne 1 (tAt (vInt .i64)))).lay (fun _ => by kernel_rfl)
noncomputable def Zer.r : Lay U Zg := (pcOne 0 (tAt (vCd Zcy))).lay (fun _ => by kernel_rfl)
noncomputable def Zer.D (k : Nat) : FDen U := fdn Zer.i Zer.r Tryz.f60.ntmps [] true (fun x => Zer.f k (x.1) (x.2)) (fun _ _ => rfl)
noncomputable def Zer.j3001 : Jk U := ⟨(Int × Int × Int × Bool × Int × Int × Int), oNorm (lay [(4, sPtr 4 0), (0, sAt (vInt .i64)), (1, sAt (vInt .i64)), (5, sAt (vInt .u64))] [bLit 4 [vBool, (vInt .u64), (vInt .u64), (vInt .i64)]] (fun _ => by kernel_rfl))⟩
noncomputable def Zer.E (k : Nat) : Env U := mkE Tryz.f60 [Zej.pk k] [(3001, Zer.j3001)] [] [] n0 n0 [] false n00 nl0 []
theorem Zer.eq (k : Nat) (x : (Int × Int)) : runF (Zer.E k) (codeOf Tryz.f60) (Zer.i.put x) Zer.r.un = Zer.f k (x.1) (x.2) := by kernel_rfl
theorem Zer.sound (k : Nat) : Sound Tryz.prog DD 60 (Zer.D k) :=
  funP (E := Zer.E k) (fn := Tryz.f60) (c := codeOf Tryz.f60) (Zbq _ _ _ _ _ _ _ _ _ _ _ _) mixed rfl Tryz.func60 (by kernel_rfl) (by kernel_rfl) (Zan (l := []) (by kernel_rfl) Zaa) Zer.i Zer.r [] true (fun x => Zer.f k (x.1) (x.2)) (fun _ _ => rfl) (by kernel_rfl) (Zer.eq k)
noncomputable def Zer.pk (k : Nat) : Pk Tryz.prog DD := ⟨60, Zer.D k, Zer.sound k, Zal Tryz.func60 (by kernel_rfl) (by kernel_rfl)⟩
/-! ### pyx/dec.wide: function 66 -/
noncomputable def Zdx.f (k : Nat) (a0 : Zg) (a1 : Int) : Option (Int × Int × Int × Int) := (Zeo.f k (IntKind.wrap .i64 (a1 - a0.Zn))).bind fun t1 => ((Zam.f k (a0.f_C.1, a0.f_C.2) (t1.1, t1.2)).bind fun t2 => (some (t2.1, t2.2.1, t2.2.2.1, t2.2.2.2)))
noncomputable def Zdx.i : Lay U (Zg × Int) := (pcAnd (pcOne 0 (tAt (vCd Zcy))) (pcOne 1 (tAt (vInt .i64)))).lay (fun _ => by kernel_rfl)
noncomputable def Zdx.r : Lay U (Int × Int × Int × Int) := (pcOne 0 (tAt (vCd (Cd.pair (Cd.int .u64) (Cd.pair (Cd.int .u64) (Cd.pair (Cd.int .u64) (Cd.int .u64))))))).lay (fun _ => by kernel_rfl)
noncomputable def Zdx.D (k : Nat) : FDen U := fdn Zdx.i Zdx.r Tryz.f66.ntmps [] true (fun x => Zdx.f k (x.1) (x.2)) (fun _ _ => rfl)
noncomputable def Zdx.E (k : Nat) : Env U := mkE Tryz.f66 [Zeo.pk k, Zam.pk k] [] [] [] n0 n0 [] false n00 nl0 []
theorem Zdx.eq (k : Nat) (x : (Zg × Int)) : runF (Zdx.E k) (codeOf Tryz.f66) (Zdx.i.put x) Zdx.r.un = Zdx.f k (x.1) (x.2) := by kernel_rfl
theorem Zdx.sound (k : Nat) : Sound Tryz.prog DD 66 (Zdx.D k) :=
  funP (E := Zdx.E k) (fn := Tryz.f66) (c := codeOf Tryz.f66) (Zbq _ _ _ _ _ _ _ _ _ _ _ _) mixed rfl Tryz.func66 (by kernel_rfl) (by kernel_rfl) (Zan (l := []) (by kernel_rfl) Zaa) Zdx.i Zdx.r [] true (fun x => Zdx.f k (x.1) (x.2)) (fun _ _ => rfl) (by kernel_rfl) (Zdx.eq k)
noncomputable def Zdx.pk (k : Nat) : Pk Tryz.prog DD := ⟨66, Zdx.D k, Zdx.sound k, Zal Tryz.func66 (by kernel_rfl) (by kernel_rfl)⟩
/-! ### pyx/dec.halves: function 118 -/
noncomputable def Zdl.f (k : Nat) (a0 : (Int × Int × Int × Int)) : Option ((Int × Int) × (Int × Int)) := some ((a0.1, a0.2.1), (a0.2.2.1, a0.2.2.2))
noncomputable def Zdl.i : Lay U (Int × Int × Int × Int) := (pcOne 0 (tAt (vCd (Cd.pair (Cd.int .u64) (Cd.pair (Cd.int .u64) (Cd.pair (Cd.int .u64) (Cd.int .u64))))))).lay (fun _ => by kernel_rfl)
noncomputable def Zdl.r : Lay U ((Int × Int) × (Int × Int)) := (pcTup 0 (tqCons (tAt (vCd (Cd.pair (Cd.int .u64) (Cd.int .u64)))) (tqOne (tAt (vCd (Cd.pair (Cd.int .u64) (Cd.int .u64))))))).lay (fun _ => by kernel_rfl)
noncomputable def Zdl.D (k : Nat) : FDen U := fdn Zdl.i Zdl.r Tryz.f118.ntmps [] true (fun x => Zdl.f k (x)) (fun _ _ => rfl)
noncomputable def Zdl.E (k : Nat) : Env U := mkE Tryz.f118 [] [] [] [] n0 n0 [] false n00 nl0 []
theorem Zdl.eq (k : Nat) (x : (Int × Int × Int × Int)) : runF (Zdl.E k) (codeOf Tryz.f118) (Zdl.i.put x) Zdl.r.un = Zdl.f k (x) := by kernel_rfl
theorem Zdl.sound (k : Nat) : Sound Tryz.prog DD 118 (Zdl.D k) :=
  funP (E := Zdl.E k) (fn := Tryz.f118) (c := codeOf Tryz.f118) (Zbq _ _ _ _ _ _ _ _ _ _ _ _) mixed rfl Tryz.func118 (by kernel_rfl) (by kernel_rfl) (Zan (l := []) (by kernel_rfl) Zaa) Zdl.i Zdl.r [] true (fun x => Zdl.f k (x)) (fun _ _ => rfl) (by kernel_rfl) (Zdl.eq k)
noncomputable def Zdl.pk (k : Nat) : Pk Tryz.prog DD := ⟨118, Zdl.D k, Zdl.sound k, Zal Tryz.func118 (by kernel_rfl) (by kernel_rfl)⟩
/-! ### pyx/limb.plus: function 150 -/
noncomputable def Zec.f (k : Nat) (a0 : Int) (a1 : Int) (a2 : Int) : Option (Int × Int) := some (IntKind.wrap .u64 ((IntKind.wrap .u64 (a0 + a1)) + a2), Int.fdiv (bits .or .u64 (bits .and .u64 a0 a1) (bits .andNot .u64 (bits .or .u64 a0 a1) (IntKind.wrap .u64 ((IntKind.wrap .u64 (a0 + a1)) + a2)))) (2 ^ 63))
noncomputable def Zec.i : Lay U (Int × Int × Int) := (pcAnd (pcOne 0 (tAt (vInt .u64))) (pcAnd (pcOne 1 (tAt (vInt .u64))) (pcOne 2 (tAt (vInt .u64))))).lay (fun _ => by kernel_rfl)
noncomputable def Zec.r : Lay U (Int × Int) := (pcTup 0 (tqCons (tAt (vInt .u64)) (tqOne (tAt (vInt .u64))))).lay (fun _ => by kernel_rfl)
noncomputable def Zec.D (k : Nat) : FDen U := fdn Zec.i Zec.r Tryz.f150.ntmps [] true (fun x => Zec.f k (x.1) (x.2.1) (x.2.2)) (fun _ _ => rfl)
noncomputable def Zec.E (k : Nat) : Env U := mkE Tryz.f150 [] [] [] [] n0 n0 [] false n00 nl0 []
theorem Zec.eq (k : Nat) (x : (Int × Int × Int)) : runF (Zec.E k) (codeOf Tryz.f150) (Zec.i.put x) Zec.r.un = Zec.f k (x.1) (x.2.1) (x.2.2) := by kernel_rfl
theorem Zec.sound (k : Nat) : Sound Tryz.prog DD 150 (Zec.D k) :=
  funP (E := Zec.E k) (fn := Tryz.f150) (c := codeOf Tryz.f150) (Zbq _ _ _ _ _ _ _ _ _ _ _ _) mixed rfl Tryz.func150 (by kernel_rfl) (by kernel_rfl) (Zan (l := []) (by kernel_rfl) Zaa) Zec.i Zec.r [] true (fun x => Zec.f k (x.1) (x.2.1) (x.2.2)) (fun _ _ => rfl) (by kernel_rfl) (Zec.eq k)
noncomputable def Zec.pk (k : Nat) : Pk Tryz.prog DD := ⟨150, Zec.D k, Zec.sound k, Zal Tryz.func150 (by kernel_rfl) (by kernel_rfl)⟩
/-! ### pyx/limb.Add: function 119 -/
noncomputable def Zef.f (k : Nat) (a0 : (Int × Int)) (a1 : (Int × Int)) : Option ((Int × Int) × Bool) := (Zec.f k a0.1 a1.1 0).bind fun t1 => ((Zec.f k a0.2 a1.2 t1.2).bind fun t2 => (cond (decide (t2.2 > 0)) (some ((0, 0), false)) (some ((t1.1, t2.1), true))))
noncomputable def Zef.i : Lay U ((Int × Int) × (Int × Int)) := (pcAnd (pcOne 0 (tAt (vCd (Cd.pair (Cd.int .u64) (Cd.int .u64))))) (pcOne 1 (tAt (vCd (Cd.pair (Cd.int .u64) (Cd.int .u64)))))).lay (fun _ => by kernel_rfl)
noncomputable def Zef.r : Lay U ((Int × Int) × Bool) := (pcTup 0 (tqCons (tAt (vCd (Cd.pair (Cd.int .u64) (Cd.int .u64)))) (tqOne (tAt vBool)))).lay (fun _ => by kernel_rfl)
noncomputable def Zef.D (k : Nat) : FDen U := fdn Zef.i Zef.r Tryz.f119.ntmps [] true (fun x => Zef.f k (x.1) (x.2)) (fun _ _ => rfl)
noncomputable def Zef.E (k : Nat) : Env U := mkE Tryz.f119 [Zec.pk k] [] [] [] n0 n0 [] false n00 nl0 []
theorem Zef.eq (k : Nat) (x : ((Int × Int) × (Int × Int))) : runF (Zef.E k) (codeOf Tryz.f119) (Zef.i.put x) Zef.r.un = Zef.f k (x.1) (x.2) := by kernel_rfl
theorem Zef.sound (k : Nat) : Sound Tryz.prog DD 119 (Zef.D k) :=
  funP (E := Zef.E k) (fn := Tryz.f119) (c := codeOf Tryz.f119) (Zbq _ _ _ _ _ _ _ _ _ _ _ _) mixed rfl Tryz.func119 (by kernel_rfl) (by kernel_rfl) (Zan (l := []) (by kernel_rfl) Zaa) Zef.i Zef.r [] true (fun x => Zef.f k (x.1) (x.2)) (fun _ _ => rfl) (by kernel_rfl) (Zef.eq k)
noncomputable def Zef.pk (k : Nat) : Pk Tryz.prog DD := ⟨119, Zef.D k, Zef.sound k, Zal Tryz.func119 (by kernel_rfl) (by kernel_rfl)⟩
/-! ### pyx/limb.less: function 151 -/
noncomputable def Zed.f (k : Nat) (a0 : Int) (a1 : Int) (a2 : Int) : Option (Int × Int) := some (IntKind.wrap .u64 ((IntKind.wrap .u64 (a0 - a1)) - a2), Int.fdiv (bits .or .u64 (bits .and .u64 (bits .xor .u64 18446744073709551615 a0) a1) (bits .and .u64 (bits .or .u64 (bits .xor .u64 18446744073709551615 a0) a1) (IntKind.wrap .u64 ((IntKind.wrap .u64 (a0 - a1)) - a2)))) (2 ^ 63))
noncomputable def Zed.i : Lay U (Int × Int × Int) := (pcAnd (pcOne 0 (tAt (vInt .u64))) (pcAnd (pcOne 1 (tAt (vInt .u64))) (pcOne 2 (tAt (vInt .u64))))).lay (fun _ => by kernel_rfl)
noncomputable def Zed.r : Lay U (Int × Int) := (pcTup 0 (tqCons (tAt (vInt .u64)) (tqOne (tAt (vInt .u64))))).lay (fun _ => by kernel_rfl)
noncomputable def Zed.D (k : Nat) : FDen U := fdn Zed.i Zed.r Tryz.f151.ntmps [] true (fun x => Zed.f k (x.1) (x.2.1) (x.2.2)) (fun _ _ => rfl)
noncomputable def Zed.E (k : Nat) : Env U := mkE Tryz.f151 [] [] [] [] n0 n0 [] false n00 nl0 []
theorem Zed.eq (k : Nat) (x : (Int × Int × Int)) : runF (Zed.E k) (codeOf Tryz.f151) (Zed.i.put x) Zed.r.un = Zed.f k (x.1) (x.2.1) (x.2.2) := by kernel_rfl
theorem Zed.sound (k : Nat) : Sound Tryz.prog DD 151 (Zed.D k) :=
  funP (E := Zed.E k) (fn := Tryz.f151) (c := codeOf Tryz.f151) (Zbq _ _ _ _ _ _ _ _ _ _ _ _) mixed rfl Tryz.func151 (by kernel_rfl) (by kernel_rfl) (Zan (l := []) (by kernel_rfl) Zaa) Zed.i Zed.r [] true (fun x => Zed.f k (x.1) (x.2.1) (x.2.2)) (fun _ _ => rfl) (by kernel_rfl) (Zed.eq k)
noncomputable def Zed.pk (k : Nat) : Pk Tryz.prog DD := ⟨151, Zed.D k, Zed.sound k, Zal Tryz.func151 (by kernel_rfl) (by kernel_rfl)⟩
/-! ### pyx/limb.Sub: function 120 -/
noncomputable def Zdn.f (k : Nat) (a0 : (Int × Int)) (a1 : (Int × Int)) : Option ((Int × Int) × Bool) := (Zed.f k a0.1 a1.1 0).bind fun t1 => ((Zed.f k a0.2 a1.2 t1.2).bind fun t2 => (cond (decide (t2.2 > 0)) (some ((0, 0), false)) (some ((t1.1, t2.1), true))))
noncomputable def Zdn.i : Lay U ((Int × Int) × (Int × Int)) := (pcAnd (pcOne 0 (tAt (vCd (Cd.pair (Cd.int .u64) (Cd.int .u64))))) (pcOne 1 (tAt (vCd (Cd.pair (Cd.int .u64) (Cd.int .u64)))))).lay (fun _ => by kernel_rfl)
noncomputable def Zdn.r : Lay U ((Int × Int) × Bool) := (pcTup 0 (tqCons (tAt (vCd (Cd.pair (Cd.int .u64) (Cd.int .u64)))) (tqOne (tAt vBool)))).lay (fun _ => by kernel_rfl)
noncomputable def Zdn.D (k : Nat) : FDen U := fdn Zdn.i Zdn.r Tryz.f120.ntmps [] true (fun x => Zdn.f k (x.1) (x.2)) (fun _ _ => rfl)
noncomputable def Zdn.E (k : Nat) : Env U := mkE Tryz.f120 [Zed.pk k] [] [] [] n0 n0 [] false n00 nl0 []
theorem Zdn.eq (k : Nat) (x : ((Int × Int) × (Int × Int))) : runF (Zdn.E k) (codeOf Tryz.f120) (Zdn.i.put x) Zdn.r.un = Zdn.f k (x.1) (x.2) := by kernel_rfl
theorem Zdn.sound (k : Nat) : Sound Tryz.prog DD 120 (Zdn.D k) :=
  funP (E := Zdn.E k) (fn := Tryz.f120) (c := codeOf Tryz.f120) (Zbq _ _ _ _ _ _ _ _ _ _ _ _) mixed rfl Tryz.func120 (by kernel_rfl) (by kernel_rfl) (Zan (l := []) (by kernel_rfl) Zaa) Zdn.i Zdn.r [] true (fun x => Zdn.f k (x.1) (x.2)) (fun _ _ => rfl) (by kernel_rfl) (Zdn.eq k)
noncomputable def Zdn.pk (k : Nat) : Pk Tryz.prog DD := ⟨120, Zdn.D k, Zdn.sound k, Zal Tryz.func120 (by kernel_rfl) (by kernel_rfl)⟩
/-! ### pyx/dec.plus: function 68 -/
noncomputable def Zeh.f (k : Nat) (a0 : (Int × Int × Int × Int)) (a1 : (Int × Int × Int × Int)) : Option (Int × Int × Int × Int) := (Zdl.f k (a0.1, a0.2.1, a0.2.2.1, a0.2.2.2)).bind fun t1 => ((Zdl.f k (a1.1, a1.2.1, a1.2.2.1, a1.2.2.2)).bind fun t2 => ((Zef.f k (t1.2.1, t1.2.2) (t2.2.1, t2.2.2)).bind fun t3 => ((Zef.f k (t1.1.1, t1.1.2) (t2.1.1, t2.1.2)).bind fun t4 => (((cond (!t4.2) ((Zdn.f k (t2.1.1, t2.1.2) (bits .xor .u64 18446744073709551615 t1.1.1, bits .xor .u64 18446744073709551615 t1.1.2)).bind fun t5 => ((Zej.f k 1).bind fun t6 => ((Zdn.f k (t5.1.1, t5.1.2) (t6.1, t6.2)).bind fun t7 => ((Zej.f k 1).bind fun t8 => ((Zef.f k (t3.1.1, t3.1.2) (t8.1, t8.2)).bind fun t9 => (some (0, 0, 0, 0, t9.1.1, t9.1.2, t7.1.1, t7.1.2))))))) (some (0, 0, 0, 0, t3.1.1, t3.1.2, t4.1.1, t4.1.2))) : Option T5b).bind fun y18 => (some (y18.2.2.2.2.2.2.1, y18.2.2.2.2.2.2.2, y18.2.2.2.2.1, y18.2.2.2.2.2.1))))))
noncomputable def Zeh.i : Lay U T5a := (pcAnd (pcOne 0 (tAt (vCd (Cd.pair (Cd.int .u64) (Cd.pair (Cd.int .u64) (Cd.pair (Cd.int .u64) (Cd.int .u64))))))) (pcOne 1 (tAt (vCd (Cd.pair (Cd.int .u64) (Cd.pair (Cd.int .u64) (Cd.pair (Cd.int .u64) (Cd.int .u64)))))))).lay (fun _ => by kernel_rfl)
noncomputable def Zeh.r : Lay U (Int × Int × Int × Int) := (pcOne 0 (tAt (vCd (Cd.pair (Cd.int .u64) (Cd.pair (Cd.int .u64) (Cd.pair (Cd.int .u64) (Cd.int .u64))))))).lay (fun _ => by kernel_rfl)
noncomputable def Zeh.D (k : Nat) : FDen U := fdn Zeh.i Zeh.r Tryz.f68.ntmps [] true (fun x => Zeh.f k (x.1) (x.2)) (fun _ _ => rfl)
noncomputable def Zeh.j6001 : Jk U := ⟨T5b, oNorm (lay [(4, sPtr 4 0), (9, sPtr 9 0), (11, sPtr 11 0)] [bLit 4 [(vInt .u64), (vInt .u64), (vInt .u64), (vInt .u64)], bLit 9 [(vInt .u64), (vInt .u64)], bLit 11 [(vInt .u64), (vInt .u64)]] (fun _ => by kernel_rfl))⟩
noncomputable def Zeh.E (k : Nat) : Env U := mkE Tryz.f68 [Zdl.pk k, Zef.pk k, Zdn.pk k, Zej.pk k] [(6001, Zeh.j6001)] [] [] n0 n0 [] false n00 nl0 []
theorem Zeh.eq (k : Nat) (x : T5a) : runF (Zeh.E k) (codeOf Tryz.f68) (Zeh.i.put x) Zeh.r.un = Zeh.f k (x.1) (x.2) := by kernel_rfl
theorem Zeh.sound (k : Nat) : Sound Tryz.prog DD 68 (Zeh.D k) :=
  funP (E := Zeh.E k) (fn := Tryz.f68) (c := codeOf Tryz.f68) (Zbq _ _ _ _ _ _ _ _ _ _ _ _) mixed rfl Tryz.func68 (by kernel_rfl) (by kernel_rfl) (Zan (l := []) (by kernel_rfl) Zaa) Zeh.i Zeh.r [] true (fun x => Zeh.f k (x.1) (x.2)) (fun _ _ => rfl) (by kernel_rfl) (Zeh.eq k)
noncomputable def Zeh.pk (k : Nat) : Pk Tryz.prog DD := ⟨68, Zeh.D k, Zeh.sound k, Zal Tryz.func68 (by kernel_rfl) (by kernel_rfl)⟩
/-! ### pyx/dec.made: function 67 -/
noncomputable def Zdv.f (k : Nat) (a0 : Bool) (a1 : (Int × Int × Int × Int)) (a2 : Int) : Option (Zg × Int) := (Zdg.f k (a1.1, a1.2.1, a1.2.2.1, a1.2.2.2)).bind fun t1 => (((cond (!t1.2) (some (a0, a2, true, false, 0, 0, 0, t1.1.1, t1.1.2)) ((Zdo.f k (t1.1.1, t1.1.2)).bind fun t11 => (some (a0, a2, !t11, false, 0, 0, 0, t1.1.1, t1.1.2)))) : Option (Bool × Int × Bool × Bool × Int × Int × Int × Int × Int)).bind fun y12 => (cond (y12.2.2.1) (some ((⟨false, (0, 0), 0⟩ : Zg), 3)) (cond (y12.1) ((Zco.f k (y12.2.2.2.2.2.2.2.1, y12.2.2.2.2.2.2.2.2)).bind fun t13 => (some ((⟨!t13, (y12.2.2.2.2.2.2.2.1, y12.2.2.2.2.2.2.2.2), y12.2.1⟩ : Zg), 0))) (some ((⟨false, (y12.2.2.2.2.2.2.2.1, y12.2.2.2.2.2.2.2.2), y12.2.1⟩ : Zg), 0)))))
noncomputable def Zdv.i : Lay U (Bool × (Int × Int × Int × Int) × Int) := (pcAnd (pcOne 0 (tAt vBool)) (pcAnd (pcOne 1 (tAt (vCd (Cd.pair (Cd.int .u64) (Cd.pair (Cd.int .u64) (Cd.pair (Cd.int .u64) (Cd.int .u64))))))) (pcOne 2 (tAt (vInt .i64))))).lay (fun _ => by kernel_rfl)
noncomputable def Zdv.r : Lay U (Zg × Int) := (pcTup 0 (tqCons (tAt (vCd Zcy)) (tqOne (tAt (vInt .i64))))).lay (fun _ => by kernel_rfl)
noncomputable def Zdv.D (k : Nat) : FDen U := fdn Zdv.i Zdv.r Tryz.f67.ntmps [] true (fun x => Zdv.f k (x.1) (x.2.1) (x.2.2)) (fun _ _ => rfl)
noncomputable def Zdv.j2000 : Jk U := ⟨(Bool × Int × Bool × Bool × Int × Int × Int × Int × Int), oNorm (lay [(6, sPtr 6 0), (8, sPtr 8 0), (0, sAt vBool), (2, sAt (vInt .i64)), (21, sAt vBool)] [bLit 6 [vBool, (vInt .u64), (vInt .u64), (vInt .i64)], bLit 8 [(vInt .u64), (vInt .u64)]] (fun _ => by kernel_rfl))⟩
noncomputable def Zdv.E (k : Nat) : Env U := mkE Tryz.f67 [Zdg.pk k, Zdo.pk k, Zco.pk k] [(2000, Zdv.j2000)] [] [] n0 n0 [] false n00 nl0 []
theorem Zdv.eq (k : Nat) (x : (Bool × (Int × Int × Int × Int) × Int)) : runF (Zdv.E k) (codeOf Tryz.f67) (Zdv.i.put x) Zdv.r.un = Zdv.f k (x.1) (x.2.1) (x.2.2) := by kernel_rfl
theorem Zdv.sound (k : Nat) : Sound Tryz.prog DD 67 (Zdv.D k) :=
  funP (E := Zdv.E k) (fn := Tryz.f67) (c := codeOf Tryz.f67) (Zbq _ _ _ _ _ _ _ _ _ _ _ _) mixed rfl Tryz.func67 (by kernel_rfl) (by kernel_rfl) (Zan (l := []) (by kernel_rfl) Zaa) Zdv.i Zdv.r [] true (fun x => Zdv.f k (x.1) (x.2.1) (x.2.2)) (fun _ _ => rfl) (by kernel_rfl) (Zdv.eq k)
noncomputable def Zdv.pk (k : Nat) : Pk Tryz.prog DD := ⟨67, Zdv.D k, Zdv.sound k, Zal Tryz.func67 (by kernel_rfl) (by kernel_rfl)⟩
/-! ### pyx/dec.cmp: function 69 -/
noncomputable def Zcw.l2.once (k : Nat) (x : (Int × List Int × List Int)) : Option ((Int × List Int × List Int) ⊕ (Unit ⊕ Int)) := match x with | (x3, x1, x2) => cond (decide (x3 ≥ 0)) (cond (inb x3 4) (cond (Nat.blt (Int.toNat x3) 4) (cond (inb x3 4) (cond (Nat.blt (Int.toNat x3) 4) (cond ((List.getD x1 (Int.toNat x3) 0) != (List.getD x2 (Int.toNat x3) 0)) (cond (inb x3 4) (cond (Nat.blt (Int.toNat x3) 4) (cond (inb x3 4) (cond (Nat.blt (Int.toNat x3) 4) (cond (decide ((List.getD x1 (Int.toNat x3) 0) < (List.getD x2 (Int.toNat x3) 0))) (some (.inr (.inr (-1)))) (some (.inr (.inr 1)))) none) none) none) none) (some (.inl (IntKind.wrap .i64 (x3 - 1), x1, x2)))) none) none) none) none) (some (.inr (.inl ())))
noncomputable def Zcw.f (k : Nat) (a0 : (Int × Int × Int × Int)) (a1 : (Int × Int × Int × Int)) : Option Int := (iter (Zcw.l2.once k) k (3, [a0.1, a0.2.1, a0.2.2.1, a0.2.2.2], [a1.1, a1.2.1, a1.2.2.1, a1.2.2.2])).bind fun | .inl y5 => (some 0) | .inr y6 => (some y6)
noncomputable def Zcw.i : Lay U T5a := (pcAnd (pcOne 0 (tAt (vCd (Cd.pair (Cd.int .u64) (Cd.pair (Cd.int .u64) (Cd.pair (Cd.int .u64) (Cd.int .u64))))))) (pcOne 1 (tAt (vCd (Cd.pair (Cd.int .u64) (Cd.pair (Cd.int .u64) (Cd.pair (Cd.int .u64) (Cd.int .u64)))))))).lay (fun _ => by kernel_rfl)
noncomputable def Zcw.r : Lay U Int := (pcOne 0 (tAt (vInt .i64))).lay (fun _ => by kernel_rfl)
noncomputable def Zcw.D (k : Nat) : FDen U := fdn Zcw.i Zcw.r Tryz.f69.ntmps [] true (fun x => Zcw.f k (x.1) (x.2)) (fun _ _ => rfl)
noncomputable def Zcw.l2.i : Lay U (Int × List Int × List Int) := (lay [(2, sPtr 2 0), (3, sPtr 3 0), (5, sAt (vInt .i64))] [bArr DD 2 4 C.u64, bArr DD 3 4 C.u64] (fun _ => by kernel_rfl))
noncomputable def Zcw.l2.o : OLay U (Unit ⊕ Int) := oOr (oExit 0 (lay [] [] (fun _ => by kernel_rfl))) (oRet Zcw.r)
noncomputable def Zcw.E (k : Nat) : Env U := mkE Tryz.f69 [] [] [(2, ldn Zcw.l2.i Zcw.l2.o (iter (Zcw.l2.once k) k))] [(112, (4, C.u64))] n0 n0 [] false n00 nl0 []
theorem Zcw.l2.eq (k : Nat) (x : (Int × List Int × List Int)) : evC (Zcw.E k) (loopAt Tryz.f69 2) (Zcw.l2.i.put x) (headK Zcw.l2.i.un Zcw.l2.o.re) = Zcw.l2.once k x := by kernel_rfl
theorem Zcw.l2.sound (k : Nat) : LSound (Zcw.E k) Tryz.f69.ntmps Tryz.f69 (loopAt Tryz.f69 2) (ldn Zcw.l2.i Zcw.l2.o (iter (Zcw.l2.once k) k)) :=
  loopP (Zbq _ _ _ _ _ _ _ _ _ _ _ _) mixed rfl (by kernel_rfl) (Zan (l := []) (by kernel_rfl) Zaa) Zcw.l2.i Zcw.l2.o (Zcw.l2.once k) k (Zcw.l2.eq k)
theorem Zcw.eq (k : Nat) (x : T5a) : runF (Zcw.E k) (codeOf Tryz.f69) (Zcw.i.put x) Zcw.r.un = Zcw.f k (x.1) (x.2) := by kernel_rfl
theorem Zcw.sound (k : Nat) : Sound Tryz.prog DD 69 (Zcw.D k) :=
  funP (E := Zcw.E k) (fn := Tryz.f69) (c := codeOf Tryz.f69) (Zbq _ _ _ _ _ _ _ _ _ _ _ _) mixed rfl Tryz.func69 (by kernel_rfl) (by kernel_rfl) (Zan (l := [loopAt Tryz.f69 2]) (by kernel_rfl) (Zdj (key := 2) (by kernel_rfl) rfl (Zcw.l2.sound k) Zaa)) Zcw.i Zcw.r [] true (fun x => Zcw.f k (x.1) (x.2)) (fun _ _ => rfl) (by kernel_rfl) (Zcw.eq k)
noncomputable def Zcw.pk (k : Nat) : Pk Tryz.prog DD := ⟨69, Zcw.D k, Zcw.sound k, Zal Tryz.func69 (by kernel_rfl) (by kernel_rfl)⟩
/-! ### pyx/dec.less: function 70 -/
noncomputable def Zdz.f (k : Nat) (a0 : (Int × Int × Int × Int)) (a1 : (Int × Int × Int × Int)) : Option (Int × Int × Int × Int) := (Zdl.f k (a0.1, a0.2.1, a0.2.2.1, a0.2.2.2)).bind fun t1 => ((Zdl.f k (a1.1, a1.2.1, a1.2.2.1, a1.2.2.2)).bind fun t2 => ((Zdn.f k (t1.2.1, t1.2.2) (t2.2.1, t2.2.2)).bind fun t3 => ((Zdn.f k (t1.1.1, t1.1.2) (t2.1.1, t2.1.2)).bind fun t4 => (((cond (!t4.2) ((Zdn.f k (t2.1.1, t2.1.2) (t1.1.1, t1.1.2)).bind fun t5 => ((Zej.f k 1).bind fun t6 => ((Zdn.f k (t5.1.1, t5.1.2) (t6.1, t6.2)).bind fun t7 => ((Zej.f k 1).bind fun t8 => ((Zdn.f k (t3.1.1, t3.1.2) (t8.1, t8.2)).bind fun t9 => (some (0, 0, 0, 0, t9.1.1, t9.1.2, bits .xor .u64 18446744073709551615 t7.1.1, bits .xor .u64 18446744073709551615 t7.1.2))))))) (some (0, 0, 0, 0, t3.1.1, t3.1.2, t4.1.1, t4.1.2))) : Option T5b).bind fun y18 => (some (y18.2.2.2.2.2.2.1, y18.2.2.2.2.2.2.2, y18.2.2.2.2.1, y18.2.2.2.2.2.1))))))
noncomputable def Zdz.i : Lay U T5a := (pcAnd (pcOne 0 (tAt (vCd (Cd.pair (Cd.int .u64) (Cd.pair (Cd.int .u64) (Cd.pair (Cd.int .u64) (Cd.int .u64))))))) (pcOne 1 (tAt (vCd (Cd.pair (Cd.int .u64) (Cd.pair (Cd.int .u64) (Cd.pair (Cd.int .u64) (Cd.int .u64)))))))).lay (fun _ => by kernel_rfl)
noncomputable def Zdz.r : Lay U (Int × Int × Int × Int) := (pcOne 0 (tAt (vCd (Cd.pair (Cd.int .u64) (Cd.pair (Cd.int .u64) (Cd.pair (Cd.int .u64) (Cd.int .u64))))))).lay (fun _ => by kernel_rfl)
noncomputable def Zdz.D (k : Nat) : FDen U := fdn Zdz.i Zdz.r Tryz.f70.ntmps [] true (fun x => Zdz.f k (x.1) (x.2)) (fun _ _ => rfl)
noncomputable def Zdz.j6001 : Jk U := ⟨T5b, oNorm (lay [(4, sPtr 4 0), (9, sPtr 9 0), (11, sPtr 11 0)] [bLit 4 [(vInt .u64), (vInt .u64), (vInt .u64), (vInt .u64)], bLit 9 [(vInt .u64), (vInt .u64)], bLit 11 [(vInt .u64), (vInt .u64)]] (fun _ => by kernel_rfl))⟩
noncomputable def Zdz.E (k : Nat) : Env U := mkE Tryz.f70 [Zdl.pk k, Zdn.pk k, Zej.pk k] [(6001, Zdz.j6001)] [] [] n0 n0 [] false n00 nl0 []
theorem Zdz.eq (k : Nat) (x : T5a) : runF (Zdz.E k) (codeOf Tryz.f70) (Zdz.i.put x) Zdz.r.un = Zdz.f k (x.1) (x.2) := by kernel_rfl
theorem Zdz.sound (k : Nat) : Sound Tryz.prog DD 70 (Zdz.D k) :=
  funP (E := Zdz.E k) (fn := Tryz.f70) (c := codeOf Tryz.f70) (Zbq _ _ _ _ _ _ _ _ _ _ _ _) mixed rfl Tryz.func70 (by kernel_rfl) (by kernel_rfl) (Zan (l := []) (by kernel_rfl) Zaa) Zdz.i Zdz.r [] true (fun x => Zdz.f k (x.1) (x.2)) (fun _ _ => rfl) (by kernel_rfl) (Zdz.eq k)
noncomputable def Zdz.pk (k : Nat) : Pk Tryz.prog DD := ⟨70, Zdz.D k, Zdz.sound k, Zal Tryz.func70 (by kernel_rfl) (by kernel_rfl)⟩
end
end Go.Proofs.YtbchcjlllddlpaaGreat
