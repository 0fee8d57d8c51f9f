import Derived.Test.YtbchcjlllddlpaaGreatF4
/-! Functions, told; their equations with the evaluator; that they are sound. Written by gen.py. -/
namespace Go.Proofs.YtbchcjlllddlpaaGreat
open Go Go.Ev
noncomputable section
set_option linter.unusedVariables false
set_option linter.unusedSimpArgs false
set_option maxRecDepth 100000
abbrev T5b := (Int × Int × Int × Int × Int × Int × Int × Int)
abbrev T5a := ((Int × Int × Int × Int) × (Int × Int × Int × Int))
/-! ### pyx/dec.Sign: function 43 -/
noncomputable def Zeb.f (k : Nat) (a0 : Zg) : Option Int := (((Zdl.f k (⟨a0.f_Neg, (a0.f_C.1, a0.f_C.2), a0.Zo⟩ : Zg)).bind fun t1 => (cond (!t1) (some (true, a0.f_Neg, a0.f_C.1, a0.f_C.2, a0.Zo)) ((Zcy.f k (a0.f_C.1, a0.f_C.2)).bind fun t7 => (some (t7, a0.f_Neg, a0.f_C.1, a0.f_C.2, a0.Zo))))) : Option (Bool × Bool × Int × Int × Int)).bind fun y8 => (cond (y8.1) (some 0) (cond (y8.2.1) (some (-1)) (some 1)))
noncomputable def Zeb.i : Lay U Zg := (pcOne 0 (tAt (vCd Zdo))).lay (fun _ => by kernel_rfl)
noncomputable def Zeb.r : Lay U Int := (pcOne 0 (tAt (vInt .i64))).lay (fun _ => by kernel_rfl)
noncomputable def Zeb.D (k : Nat) : FDen U := fdn Zeb.i Zeb.r Tryz.f43.ntmps [] true (fun x => Zeb.f k (x)) (fun _ _ => rfl)
noncomputable def Zeb.j1000 : Jk U := ⟨(Bool × Bool × Int × Int × Int), oNorm (lay [(1, sPtr 1 0), (3, sAt vBool)] [bLit 1 [vBool, (vInt .u64), (vInt .u64), (vInt .i64)]] (fun _ => by kernel_rfl))⟩
noncomputable def Zeb.E (k : Nat) : Env U := mkE Tryz.f43 [Zdl.pk k, Zcy.pk k] [(1000, Zeb.j1000)] [] [] n0 n0 [] false n00 nl0 []
theorem Zeb.eq (k : Nat) (x : Zg) : runF (Zeb.E k) (codeOf Tryz.f43) (Zeb.i.put x) Zeb.r.un = Zeb.f k (x) := by kernel_rfl
theorem Zeb.sound (k : Nat) : Sound Tryz.prog DD 43 (Zeb.D k) :=
  funP (E := Zeb.E k) (fn := Tryz.f43) (c := codeOf Tryz.f43) (Zbq _ _ _ _ _ _ _ _ _ _ _ _) mixed rfl Tryz.func43 (by kernel_rfl) (by kernel_rfl) (Zap (l := []) (by kernel_rfl) Zah) Zeb.i Zeb.r [] true (fun x => Zeb.f k (x)) (fun _ _ => rfl) (by kernel_rfl) (Zeb.eq k)
noncomputable def Zeb.pk (k : Nat) : Pk Tryz.prog DD := ⟨43, Zeb.D k, Zeb.sound k, Zaq Tryz.func43 (by kernel_rfl) (by kernel_rfl)⟩
/-! ### pyx/chart.IsWith: function 148 -/
noncomputable def Zdk.f (k : Nat) (a0 : Int) : Option Bool := cond (a0 == 3) (some true) (some (a0 == 6))
noncomputable def Zdk.i : Lay U Int := (pcOne 0 (tAt (vInt .i64))).lay (fun _ => by kernel_rfl)
noncomputable def Zdk.r : Lay U Bool := (pcOne 0 (tAt vBool)).lay (fun _ => by kernel_rfl)
noncomputable def Zdk.D (k : Nat) : FDen U := fdn Zdk.i Zdk.r Tryz.f148.ntmps [] true (fun x => Zdk.f k (x)) (fun _ _ => rfl)
noncomputable def Zdk.E (k : Nat) : Env U := mkE Tryz.f148 [] [] [] [] n0 n0 [] false n00 nl0 []
theorem Zdk.eq (k : Nat) (x : Int) : runF (Zdk.E k) (codeOf Tryz.f148) (Zdk.i.put x) Zdk.r.un = Zdk.f k (x) := by kernel_rfl
theorem Zdk.sound (k : Nat) : Sound Tryz.prog DD 148 (Zdk.D k) :=
  funP (E := Zdk.E k) (fn := Tryz.f148) (c := codeOf Tryz.f148) (Zbq _ _ _ _ _ _ _ _ _ _ _ _) mixed rfl Tryz.func148 (by kernel_rfl) (by kernel_rfl) (Zap (l := []) (by kernel_rfl) Zah) Zdk.i Zdk.r [] true (fun x => Zdk.f k (x)) (fun _ _ => rfl) (by kernel_rfl) (Zdk.eq k)
noncomputable def Zdk.pk (k : Nat) : Pk Tryz.prog DD := ⟨148, Zdk.D k, Zdk.sound k, Zaq Tryz.func148 (by kernel_rfl) (by kernel_rfl)⟩
/-! ### pyx/entry.rightLine: function 108 -/
noncomputable def Zbx.f (k : Nat) (a0 : Za) (a1 : Int) : Option Bool := ((cond (decide (a0.Zet ≥ 0)) (some (a1, decide (a0.Zet < 8), a0.Zdx, a0.Zp.f_Neg, a0.Zp.f_C.1, a0.Zp.f_C.2, a0.Zp.Zo, a0.Zet)) (some (a1, false, a0.Zdx, a0.Zp.f_Neg, a0.Zp.f_C.1, a0.Zp.f_C.2, a0.Zp.Zo, a0.Zet))) : Option (Int × Bool × Int × Bool × Int × Int × Int × Int)).bind fun y9 => ((((Zdp.f k y9.2.2.1).bind fun t10 => (cond (t10 == 0) (some (y9.2.1, true, y9.2.2.1, y9.2.2.2.1, y9.2.2.2.2.1, y9.2.2.2.2.2.1, y9.2.2.2.2.2.2.1, y9.2.2.2.2.2.2.2)) ((Zeb.f k (⟨y9.2.2.2.1, (y9.2.2.2.2.1, y9.2.2.2.2.2.1), y9.2.2.2.2.2.2.1⟩ : Zg)).bind fun t19 => (cond (t19 == 0) (some (y9.2.1, true, y9.2.2.1, y9.2.2.2.1, y9.2.2.2.2.1, y9.2.2.2.2.2.1, y9.2.2.2.2.2.2.1, y9.2.2.2.2.2.2.2)) (some (y9.2.1, y9.2.2.2.2.2.2.1 != y9.1, y9.2.2.1, y9.2.2.2.1, y9.2.2.2.2.1, y9.2.2.2.2.2.1, y9.2.2.2.2.2.2.1, y9.2.2.2.2.2.2.2)))))) : Option (Bool × Bool × Int × Bool × Int × Int × Int × Int)).bind fun y20 => (cond (y20.2.1) (some false) ((Zdk.f k y20.2.2.1).bind fun t21 => (cond (t21) (cond (y20.1) (some true) ((Zdk.f k y20.2.2.1).bind fun t22 => (cond (!t22) (some (y20.2.2.2.2.2.2.2 == (-1))) (some false)))) ((Zdk.f k y20.2.2.1).bind fun t23 => (cond (!t23) (some (y20.2.2.2.2.2.2.2 == (-1))) (some false)))))))
noncomputable def Zbx.i : Lay U (Za × Int) := (pcAnd (pcOne 0 (tAt (vCd cd_Sapi_Line))) (pcOne 1 (tAt (vInt .i64)))).lay (fun _ => by kernel_rfl)
noncomputable def Zbx.r : Lay U Bool := (pcOne 0 (tAt vBool)).lay (fun _ => by kernel_rfl)
noncomputable def Zbx.D (k : Nat) : FDen U := fdn Zbx.i Zbx.r Tryz.f108.ntmps [] true (fun x => Zbx.f k (x.1) (x.2)) (fun _ _ => rfl)
noncomputable def Zbx.j1000 : Jk U := ⟨(Int × Bool × Int × Bool × Int × Int × Int × Int), oNorm (lay [(2, sPtr 2 0), (1, sAt (vInt .i64)), (5, sAt vBool)] [bLit 2 [(vInt .i64), vBool, (vInt .u64), (vInt .u64), (vInt .i64), (vInt .i64)]] (fun _ => by kernel_rfl))⟩
noncomputable def Zbx.j2000 : Jk U := ⟨(Bool × Bool × Int × Bool × Int × Int × Int × Int), oNorm (lay [(2, sPtr 2 0), (5, sAt vBool), (30, sAt vBool)] [bLit 2 [(vInt .i64), vBool, (vInt .u64), (vInt .u64), (vInt .i64), (vInt .i64)]] (fun _ => by kernel_rfl))⟩
noncomputable def Zbx.E (k : Nat) : Env U := mkE Tryz.f108 [Zdp.pk k, Zeb.pk k, Zdk.pk k] [(1000, Zbx.j1000), (2000, Zbx.j2000)] [] [] n0 n0 [] false n00 nl0 []
theorem Zbx.eq (k : Nat) (x : (Za × Int)) : runF (Zbx.E k) (codeOf Tryz.f108) (Zbx.i.put x) Zbx.r.un = Zbx.f k (x.1) (x.2) := by kernel_rfl
theorem Zbx.sound (k : Nat) : Sound Tryz.prog DD 108 (Zbx.D k) :=
  funP (E := Zbx.E k) (fn := Tryz.f108) (c := codeOf Tryz.f108) (Zbq _ _ _ _ _ _ _ _ _ _ _ _) mixed rfl Tryz.func108 (by kernel_rfl) (by kernel_rfl) (Zap (l := []) (by kernel_rfl) Zah) Zbx.i Zbx.r [] true (fun x => Zbx.f k (x.1) (x.2)) (fun _ _ => rfl) (by kernel_rfl) (Zbx.eq k)
noncomputable def Zbx.pk (k : Nat) : Pk Tryz.prog DD := ⟨108, Zbx.D k, Zbx.sound k, Zaq Tryz.func108 (by kernel_rfl) (by kernel_rfl)⟩
/-! ### pyx/dec.Of: function 60 -/
noncomputable def Zez.f (k : Nat) (a0 : Int) (a1 : Int) : Option Zg := ((cond (decide (a0 < 0)) (some (a0, a1, IntKind.wrap .u64 (0 - (IntKind.wrap .u64 (a0))), false, 0, 0, 0)) (some (a0, a1, IntKind.wrap .u64 (a0), false, 0, 0, 0))) : Option (Int × Int × Int × Bool × Int × Int × Int)).bind fun y8 => ((Zer.f k y8.2.2.1).bind fun t9 => (some (⟨decide (y8.1 < 0), (t9.1, t9.2), (if (if 9 < y8.2.1 then 9 else y8.2.1) > 0 then (if 9 < y8.2.1 then 9 else y8.2.1) else 0)⟩ : Zg)))
noncomputable def Zez.i : Lay U (Int × Int) := (pcAnd (pcOne 0 (tAt (vInt .i64))) (pcOne 1 (tAt (vInt .i64)))).lay (fun _ => by kernel_rfl)
noncomputable def Zez.r : Lay U Zg := (pcOne 0 (tAt (vCd Zdo))).lay (fun _ => by kernel_rfl)
noncomputable def Zez.D (k : Nat) : FDen U := fdn Zez.i Zez.r Tryz.f60.ntmps [] true (fun x => Zez.f k (x.1) (x.2)) (fun _ _ => rfl)
noncomputable def Zez.j3001 : Jk U := ⟨(Int × Int × Int × Bool × Int × Int × Int), oNorm (lay [(4, sPtr 4 0), (0, sAt (vInt .i64)), (1, sAt (vInt .i64)), (5, sAt (vInt .u64))] [bLit 4 [vBool, (vInt .u64), (vInt .u64), (vInt .i64)]] (fun _ => by kernel_rfl))⟩
noncomputable def Zez.E (k : Nat) : Env U := mkE Tryz.f60 [Zer.pk k] [(3001, Zez.j3001)] [] [] n0 n0 [] false n00 nl0 []
theorem Zez.eq (k : Nat) (x : (Int × Int)) : runF (Zez.E k) (codeOf Tryz.f60) (Zez.i.put x) Zez.r.un = Zez.f k (x.1) (x.2) := by kernel_rfl
theorem Zez.sound (k : Nat) : Sound Tryz.prog DD 60 (Zez.D k) :=
  funP (E := Zez.E k) (fn := Tryz.f60) (c := codeOf Tryz.f60) (Zbq _ _ _ _ _ _ _ _ _ _ _ _) mixed rfl Tryz.func60 (by kernel_rfl) (by kernel_rfl) (Zap (l := []) (by kernel_rfl) Zah) Zez.i Zez.r [] true (fun x => Zez.f k (x.1) (x.2)) (fun _ _ => rfl) (by kernel_rfl) (Zez.eq k)
noncomputable def Zez.pk (k : Nat) : Pk Tryz.prog DD := ⟨60, Zez.D k, Zez.sound k, Zaq Tryz.func60 (by kernel_rfl) (by kernel_rfl)⟩
/-! ### pyx/dec.wide: function 66 -/
noncomputable def Zeq.f (k : Nat) (a0 : Zg) (a1 : Int) : Option (Int × Int × Int × Int) := (Zex.f k (IntKind.wrap .i64 (a1 - a0.Zo))).bind fun t1 => ((Zau.f k (a0.f_C.1, a0.f_C.2) (t1.1, t1.2)).bind fun t2 => (some (t2.1, t2.2.1, t2.2.2.1, t2.2.2.2)))
noncomputable def Zeq.i : Lay U (Zg × Int) := (pcAnd (pcOne 0 (tAt (vCd Zdo))) (pcOne 1 (tAt (vInt .i64)))).lay (fun _ => by kernel_rfl)
noncomputable def Zeq.r : Lay U (Int × Int × Int × Int) := (pcOne 0 (tAt (vCd (Cd.pair (Cd.int .u64) (Cd.pair (Cd.int .u64) (Cd.pair (Cd.int .u64) (Cd.int .u64))))))).lay (fun _ => by kernel_rfl)
noncomputable def Zeq.D (k : Nat) : FDen U := fdn Zeq.i Zeq.r Tryz.f66.ntmps [] true (fun x => Zeq.f k (x.1) (x.2)) (fun _ _ => rfl)
noncomputable def Zeq.E (k : Nat) : Env U := mkE Tryz.f66 [Zex.pk k, Zau.pk k] [] [] [] n0 n0 [] false n00 nl0 []
theorem Zeq.eq (k : Nat) (x : (Zg × Int)) : runF (Zeq.E k) (codeOf Tryz.f66) (Zeq.i.put x) Zeq.r.un = Zeq.f k (x.1) (x.2) := by kernel_rfl
theorem Zeq.sound (k : Nat) : Sound Tryz.prog DD 66 (Zeq.D k) :=
  funP (E := Zeq.E k) (fn := Tryz.f66) (c := codeOf Tryz.f66) (Zbq _ _ _ _ _ _ _ _ _ _ _ _) mixed rfl Tryz.func66 (by kernel_rfl) (by kernel_rfl) (Zap (l := []) (by kernel_rfl) Zah) Zeq.i Zeq.r [] true (fun x => Zeq.f k (x.1) (x.2)) (fun _ _ => rfl) (by kernel_rfl) (Zeq.eq k)
noncomputable def Zeq.pk (k : Nat) : Pk Tryz.prog DD := ⟨66, Zeq.D k, Zeq.sound k, Zaq Tryz.func66 (by kernel_rfl) (by kernel_rfl)⟩
/-! ### pyx/dec.halves: function 118 -/
noncomputable def Zds.f (k : Nat) (a0 : (Int × Int × Int × Int)) : Option ((Int × Int) × (Int × Int)) := some ((a0.1, a0.2.1), (a0.2.2.1, a0.2.2.2))
noncomputable def Zds.i : Lay U (Int × Int × Int × Int) := (pcOne 0 (tAt (vCd (Cd.pair (Cd.int .u64) (Cd.pair (Cd.int .u64) (Cd.pair (Cd.int .u64) (Cd.int .u64))))))).lay (fun _ => by kernel_rfl)
noncomputable def Zds.r : Lay U ((Int × Int) × (Int × Int)) := (pcTup 0 (tqCons (tAt (vCd (Cd.pair (Cd.int .u64) (Cd.int .u64)))) (tqOne (tAt (vCd (Cd.pair (Cd.int .u64) (Cd.int .u64))))))).lay (fun _ => by kernel_rfl)
noncomputable def Zds.D (k : Nat) : FDen U := fdn Zds.i Zds.r Tryz.f118.ntmps [] true (fun x => Zds.f k (x)) (fun _ _ => rfl)
noncomputable def Zds.E (k : Nat) : Env U := mkE Tryz.f118 [] [] [] [] n0 n0 [] false n00 nl0 []
theorem Zds.eq (k : Nat) (x : (Int × Int × Int × Int)) : runF (Zds.E k) (codeOf Tryz.f118) (Zds.i.put x) Zds.r.un = Zds.f k (x) := by kernel_rfl
theorem Zds.sound (k : Nat) : Sound Tryz.prog DD 118 (Zds.D k) :=
  funP (E := Zds.E k) (fn := Tryz.f118) (c := codeOf Tryz.f118) (Zbq _ _ _ _ _ _ _ _ _ _ _ _) mixed rfl Tryz.func118 (by kernel_rfl) (by kernel_rfl) (Zap (l := []) (by kernel_rfl) Zah) Zds.i Zds.r [] true (fun x => Zds.f k (x)) (fun _ _ => rfl) (by kernel_rfl) (Zds.eq k)
noncomputable def Zds.pk (k : Nat) : Pk Tryz.prog DD := ⟨118, Zds.D k, Zds.sound k, Zaq Tryz.func118 (by kernel_rfl) (by kernel_rfl)⟩
/-! ### pyx/limb.plus: function 150 -/
noncomputable def Zej.f (k : Nat) (a0 : Int) (a1 : Int) (a2 : Int) : Option (Int × Int) := some (IntKind.wrap .u64 ((IntKind.wrap .u64 (a0 + a1)) + a2), Int.fdiv (bits .or .u64 (bits .and .u64 a0 a1) (bits .andNot .u64 (bits .or .u64 a0 a1) (IntKind.wrap .u64 ((IntKind.wrap .u64 (a0 + a1)) + a2)))) (2 ^ 63))
noncomputable def Zej.i : Lay U (Int × Int × Int) := (pcAnd (pcOne 0 (tAt (vInt .u64))) (pcAnd (pcOne 1 (tAt (vInt .u64))) (pcOne 2 (tAt (vInt .u64))))).lay (fun _ => by kernel_rfl)
noncomputable def Zej.r : Lay U (Int × Int) := (pcTup 0 (tqCons (tAt (vInt .u64)) (tqOne (tAt (vInt .u64))))).lay (fun _ => by kernel_rfl)
noncomputable def Zej.D (k : Nat) : FDen U := fdn Zej.i Zej.r Tryz.f150.ntmps [] true (fun x => Zej.f k (x.1) (x.2.1) (x.2.2)) (fun _ _ => rfl)
noncomputable def Zej.E (k : Nat) : Env U := mkE Tryz.f150 [] [] [] [] n0 n0 [] false n00 nl0 []
theorem Zej.eq (k : Nat) (x : (Int × Int × Int)) : runF (Zej.E k) (codeOf Tryz.f150) (Zej.i.put x) Zej.r.un = Zej.f k (x.1) (x.2.1) (x.2.2) := by kernel_rfl
theorem Zej.sound (k : Nat) : Sound Tryz.prog DD 150 (Zej.D k) :=
  funP (E := Zej.E k) (fn := Tryz.f150) (c := codeOf Tryz.f150) (Zbq _ _ _ _ _ _ _ _ _ _ _ _) mixed rfl Tryz.func150 (by kernel_rfl) (by kernel_rfl) (Zap (l := []) (by kernel_rfl) Zah) Zej.i Zej.r [] true (fun x => Zej.f k (x.1) (x.2.1) (x.2.2)) (fun _ _ => rfl) (by kernel_rfl) (Zej.eq k)
noncomputable def Zej.pk (k : Nat) : Pk Tryz.prog DD := ⟨150, Zej.D k, Zej.sound k, Zaq Tryz.func150 (by kernel_rfl) (by kernel_rfl)⟩
/-! ### pyx/limb.Add: function 119 -/
noncomputable def Zen.f (k : Nat) (a0 : (Int × Int)) (a1 : (Int × Int)) : Option ((Int × Int) × Bool) := (Zej.f k a0.1 a1.1 0).bind fun t1 => ((Zej.f k a0.2 a1.2 t1.2).bind fun t2 => (cond (decide (t2.2 > 0)) (some ((0, 0), false)) (some ((t1.1, t2.1), true))))
noncomputable def Zen.i : Lay U ((Int × Int) × (Int × Int)) := (pcAnd (pcOne 0 (tAt (vCd (Cd.pair (Cd.int .u64) (Cd.int .u64))))) (pcOne 1 (tAt (vCd (Cd.pair (Cd.int .u64) (Cd.int .u64)))))).lay (fun _ => by kernel_rfl)
noncomputable def Zen.r : Lay U ((Int × Int) × Bool) := (pcTup 0 (tqCons (tAt (vCd (Cd.pair (Cd.int .u64) (Cd.int .u64)))) (tqOne (tAt vBool)))).lay (fun _ => by kernel_rfl)
noncomputable def Zen.D (k : Nat) : FDen U := fdn Zen.i Zen.r Tryz.f119.ntmps [] true (fun x => Zen.f k (x.1) (x.2)) (fun _ _ => rfl)
noncomputable def Zen.E (k : Nat) : Env U := mkE Tryz.f119 [Zej.pk k] [] [] [] n0 n0 [] false n00 nl0 []
theorem Zen.eq (k : Nat) (x : ((Int × Int) × (Int × Int))) : runF (Zen.E k) (codeOf Tryz.f119) (Zen.i.put x) Zen.r.un = Zen.f k (x.1) (x.2) := by kernel_rfl
theorem Zen.sound (k : Nat) : Sound Tryz.prog DD 119 (Zen.D k) :=
  funP (E := Zen.E k) (fn := Tryz.f119) (c := codeOf Tryz.f119) (Zbq _ _ _ _ _ _ _ _ _ _ _ _) mixed rfl Tryz.func119 (by kernel_rfl) (by kernel_rfl) (Zap (l := []) (by kernel_rfl) Zah) Zen.i Zen.r [] true (fun x => Zen.f k (x.1) (x.2)) (fun _ _ => rfl) (by kernel_rfl) (Zen.eq k)
noncomputable def Zen.pk (k : Nat) : Pk Tryz.prog DD := ⟨119, Zen.D k, Zen.sound k, Zaq Tryz.func119 (by kernel_rfl) (by kernel_rfl)⟩
/-! ### pyx/limb.less: function 151 -/
noncomputable def Zek.f (k : Nat) (a0 : Int) (a1 : Int) (a2 : Int) : Option (Int × Int) := some (IntKind.wrap .u64 ((IntKind.wrap .u64 (a0 - a1)) - a2), Int.fdiv (bits .or .u64 (bits .and .u64 (bits .xor .u64 18446744073709551615 a0) a1) (bits .and .u64 (bits .or .u64 (bits .xor .u64 18446744073709551615 a0) a1) (IntKind.wrap .u64 ((IntKind.wrap .u64 (a0 - a1)) - a2)))) (2 ^ 63))
noncomputable def Zek.i : Lay U (Int × Int × Int) := (pcAnd (pcOne 0 (tAt (vInt .u64))) (pcAnd (pcOne 1 (tAt (vInt .u64))) (pcOne 2 (tAt (vInt .u64))))).lay (fun _ => by kernel_rfl)
noncomputable def Zek.r : Lay U (Int × Int) := (pcTup 0 (tqCons (tAt (vInt .u64)) (tqOne (tAt (vInt .u64))))).lay (fun _ => by kernel_rfl)
noncomputable def Zek.D (k : Nat) : FDen U := fdn Zek.i Zek.r Tryz.f151.ntmps [] true (fun x => Zek.f k (x.1) (x.2.1) (x.2.2)) (fun _ _ => rfl)
noncomputable def Zek.E (k : Nat) : Env U := mkE Tryz.f151 [] [] [] [] n0 n0 [] false n00 nl0 []
theorem Zek.eq (k : Nat) (x : (Int × Int × Int)) : runF (Zek.E k) (codeOf Tryz.f151) (Zek.i.put x) Zek.r.un = Zek.f k (x.1) (x.2.1) (x.2.2) := by kernel_rfl
theorem Zek.sound (k : Nat) : Sound Tryz.prog DD 151 (Zek.D k) :=
  funP (E := Zek.E k) (fn := Tryz.f151) (c := codeOf Tryz.f151) (Zbq _ _ _ _ _ _ _ _ _ _ _ _) mixed rfl Tryz.func151 (by kernel_rfl) (by kernel_rfl) (Zap (l := []) (by kernel_rfl) Zah) Zek.i Zek.r [] true (fun x => Zek.f k (x.1) (x.2.1) (x.2.2)) (fun _ _ => rfl) (by kernel_rfl) (Zek.eq k)
noncomputable def Zek.pk (k : Nat) : Pk Tryz.prog DD := ⟨151, Zek.D k, Zek.sound k, Zaq Tryz.func151 (by kernel_rfl) (by kernel_rfl)⟩
/-! ### pyx/limb.Sub: function 120 -/
noncomputable def Zdw.f (k : Nat) (a0 : (Int × Int)) (a1 : (Int × Int)) : Option ((Int × Int) × Bool) := (Zek.f k a0.1 a1.1 0).bind fun t1 => ((Zek.f k a0.2 a1.2 t1.2).bind fun t2 => (cond (decide (t2.2 > 0)) (some ((0, 0), false)) (some ((t1.1, t2.1), true))))
noncomputable def Zdw.i : Lay U ((Int × Int) × (Int × Int)) := (pcAnd (pcOne 0 (tAt (vCd (Cd.pair (Cd.int .u64) (Cd.int .u64))))) (pcOne 1 (tAt (vCd (Cd.pair (Cd.int .u64) (Cd.int .u64)))))).lay (fun _ => by kernel_rfl)
noncomputable def Zdw.r : Lay U ((Int × Int) × Bool) := (pcTup 0 (tqCons (tAt (vCd (Cd.pair (Cd.int .u64) (Cd.int .u64)))) (tqOne (tAt vBool)))).lay (fun _ => by kernel_rfl)
noncomputable def Zdw.D (k : Nat) : FDen U := fdn Zdw.i Zdw.r Tryz.f120.ntmps [] true (fun x => Zdw.f k (x.1) (x.2)) (fun _ _ => rfl)
noncomputable def Zdw.E (k : Nat) : Env U := mkE Tryz.f120 [Zek.pk k] [] [] [] n0 n0 [] false n00 nl0 []
theorem Zdw.eq (k : Nat) (x : ((Int × Int) × (Int × Int))) : runF (Zdw.E k) (codeOf Tryz.f120) (Zdw.i.put x) Zdw.r.un = Zdw.f k (x.1) (x.2) := by kernel_rfl
theorem Zdw.sound (k : Nat) : Sound Tryz.prog DD 120 (Zdw.D k) :=
  funP (E := Zdw.E k) (fn := Tryz.f120) (c := codeOf Tryz.f120) (Zbq _ _ _ _ _ _ _ _ _ _ _ _) mixed rfl Tryz.func120 (by kernel_rfl) (by kernel_rfl) (Zap (l := []) (by kernel_rfl) Zah) Zdw.i Zdw.r [] true (fun x => Zdw.f k (x.1) (x.2)) (fun _ _ => rfl) (by kernel_rfl) (Zdw.eq k)
noncomputable def Zdw.pk (k : Nat) : Pk Tryz.prog DD := ⟨120, Zdw.D k, Zdw.sound k, Zaq Tryz.func120 (by kernel_rfl) (by kernel_rfl)⟩
/-! ### pyx/dec.plus: function 68 -/
noncomputable def Zeo.f (k : Nat) (a0 : (Int × Int × Int × Int)) (a1 : (Int × Int × Int × Int)) : Option (Int × Int × Int × Int) := (Zds.f k (a0.1, a0.2.1, a0.2.2.1, a0.2.2.2)).bind fun t1 => ((Zds.f k (a1.1, a1.2.1, a1.2.2.1, a1.2.2.2)).bind fun t2 => ((Zen.f k (t1.2.1, t1.2.2) (t2.2.1, t2.2.2)).bind fun t3 => ((Zen.f k (t1.1.1, t1.1.2) (t2.1.1, t2.1.2)).bind fun t4 => (((cond (!t4.2) ((Zdw.f k (t2.1.1, t2.1.2) (bits .xor .u64 18446744073709551615 t1.1.1, bits .xor .u64 18446744073709551615 t1.1.2)).bind fun t5 => ((Zer.f k 1).bind fun t6 => ((Zdw.f k (t5.1.1, t5.1.2) (t6.1, t6.2)).bind fun t7 => ((Zer.f k 1).bind fun t8 => ((Zen.f k (t3.1.1, t3.1.2) (t8.1, t8.2)).bind fun t9 => (some (0, 0, 0, 0, t9.1.1, t9.1.2, t7.1.1, t7.1.2))))))) (some (0, 0, 0, 0, t3.1.1, t3.1.2, t4.1.1, t4.1.2))) : Option T5b).bind fun y18 => (some (y18.2.2.2.2.2.2.1, y18.2.2.2.2.2.2.2, y18.2.2.2.2.1, y18.2.2.2.2.2.1))))))
noncomputable def Zeo.i : Lay U T5a := (pcAnd (pcOne 0 (tAt (vCd (Cd.pair (Cd.int .u64) (Cd.pair (Cd.int .u64) (Cd.pair (Cd.int .u64) (Cd.int .u64))))))) (pcOne 1 (tAt (vCd (Cd.pair (Cd.int .u64) (Cd.pair (Cd.int .u64) (Cd.pair (Cd.int .u64) (Cd.int .u64)))))))).lay (fun _ => by kernel_rfl)
noncomputable def Zeo.r : Lay U (Int × Int × Int × Int) := (pcOne 0 (tAt (vCd (Cd.pair (Cd.int .u64) (Cd.pair (Cd.int .u64) (Cd.pair (Cd.int .u64) (Cd.int .u64))))))).lay (fun _ => by kernel_rfl)
noncomputable def Zeo.D (k : Nat) : FDen U := fdn Zeo.i Zeo.r Tryz.f68.ntmps [] true (fun x => Zeo.f k (x.1) (x.2)) (fun _ _ => rfl)
noncomputable def Zeo.j6001 : Jk U := ⟨T5b, oNorm (lay [(4, sPtr 4 0), (9, sPtr 9 0), (11, sPtr 11 0)] [bLit 4 [(vInt .u64), (vInt .u64), (vInt .u64), (vInt .u64)], bLit 9 [(vInt .u64), (vInt .u64)], bLit 11 [(vInt .u64), (vInt .u64)]] (fun _ => by kernel_rfl))⟩
noncomputable def Zeo.E (k : Nat) : Env U := mkE Tryz.f68 [Zds.pk k, Zen.pk k, Zdw.pk k, Zer.pk k] [(6001, Zeo.j6001)] [] [] n0 n0 [] false n00 nl0 []
theorem Zeo.eq (k : Nat) (x : T5a) : runF (Zeo.E k) (codeOf Tryz.f68) (Zeo.i.put x) Zeo.r.un = Zeo.f k (x.1) (x.2) := by kernel_rfl
theorem Zeo.sound (k : Nat) : Sound Tryz.prog DD 68 (Zeo.D k) :=
  funP (E := Zeo.E k) (fn := Tryz.f68) (c := codeOf Tryz.f68) (Zbq _ _ _ _ _ _ _ _ _ _ _ _) mixed rfl Tryz.func68 (by kernel_rfl) (by kernel_rfl) (Zap (l := []) (by kernel_rfl) Zah) Zeo.i Zeo.r [] true (fun x => Zeo.f k (x.1) (x.2)) (fun _ _ => rfl) (by kernel_rfl) (Zeo.eq k)
noncomputable def Zeo.pk (k : Nat) : Pk Tryz.prog DD := ⟨68, Zeo.D k, Zeo.sound k, Zaq Tryz.func68 (by kernel_rfl) (by kernel_rfl)⟩
/-! ### pyx/dec.made: function 67 -/
noncomputable def Zee.f (k : Nat) (a0 : Bool) (a1 : (Int × Int × Int × Int)) (a2 : Int) : Option (Zg × Int) := (Zdq.f k (a1.1, a1.2.1, a1.2.2.1, a1.2.2.2)).bind fun t1 => (((cond (!t1.2) (some (a0, a2, true, false, 0, 0, 0, t1.1.1, t1.1.2)) ((Zdy.f k (t1.1.1, t1.1.2)).bind fun t11 => (some (a0, a2, !t11, false, 0, 0, 0, t1.1.1, t1.1.2)))) : Option (Bool × Int × Bool × Bool × Int × Int × Int × Int × Int)).bind fun y12 => (cond (y12.2.2.1) (some ((⟨false, (0, 0), 0⟩ : Zg), 3)) (cond (y12.1) ((Zcy.f k (y12.2.2.2.2.2.2.2.1, y12.2.2.2.2.2.2.2.2)).bind fun t13 => (some ((⟨!t13, (y12.2.2.2.2.2.2.2.1, y12.2.2.2.2.2.2.2.2), y12.2.1⟩ : Zg), 0))) (some ((⟨false, (y12.2.2.2.2.2.2.2.1, y12.2.2.2.2.2.2.2.2), y12.2.1⟩ : Zg), 0)))))
noncomputable def Zee.i : Lay U (Bool × (Int × Int × Int × Int) × Int) := (pcAnd (pcOne 0 (tAt vBool)) (pcAnd (pcOne 1 (tAt (vCd (Cd.pair (Cd.int .u64) (Cd.pair (Cd.int .u64) (Cd.pair (Cd.int .u64) (Cd.int .u64))))))) (pcOne 2 (tAt (vInt .i64))))).lay (fun _ => by kernel_rfl)
noncomputable def Zee.r : Lay U (Zg × Int) := (pcTup 0 (tqCons (tAt (vCd Zdo)) (tqOne (tAt (vInt .i64))))).lay (fun _ => by kernel_rfl)
noncomputable def Zee.D (k : Nat) : FDen U := fdn Zee.i Zee.r Tryz.f67.ntmps [] true (fun x => Zee.f k (x.1) (x.2.1) (x.2.2)) (fun _ _ => rfl)
noncomputable def Zee.j2000 : Jk U := ⟨(Bool × Int × Bool × Bool × Int × Int × Int × Int × Int), oNorm (lay [(6, sPtr 6 0), (8, sPtr 8 0), (0, sAt vBool), (2, sAt (vInt .i64)), (21, sAt vBool)] [bLit 6 [vBool, (vInt .u64), (vInt .u64), (vInt .i64)], bLit 8 [(vInt .u64), (vInt .u64)]] (fun _ => by kernel_rfl))⟩
noncomputable def Zee.E (k : Nat) : Env U := mkE Tryz.f67 [Zdq.pk k, Zdy.pk k, Zcy.pk k] [(2000, Zee.j2000)] [] [] n0 n0 [] false n00 nl0 []
theorem Zee.eq (k : Nat) (x : (Bool × (Int × Int × Int × Int) × Int)) : runF (Zee.E k) (codeOf Tryz.f67) (Zee.i.put x) Zee.r.un = Zee.f k (x.1) (x.2.1) (x.2.2) := by kernel_rfl
theorem Zee.sound (k : Nat) : Sound Tryz.prog DD 67 (Zee.D k) :=
  funP (E := Zee.E k) (fn := Tryz.f67) (c := codeOf Tryz.f67) (Zbq _ _ _ _ _ _ _ _ _ _ _ _) mixed rfl Tryz.func67 (by kernel_rfl) (by kernel_rfl) (Zap (l := []) (by kernel_rfl) Zah) Zee.i Zee.r [] true (fun x => Zee.f k (x.1) (x.2.1) (x.2.2)) (fun _ _ => rfl) (by kernel_rfl) (Zee.eq k)
noncomputable def Zee.pk (k : Nat) : Pk Tryz.prog DD := ⟨67, Zee.D k, Zee.sound k, Zaq Tryz.func67 (by kernel_rfl) (by kernel_rfl)⟩
/-! ### pyx/dec.cmp: function 69 -/
noncomputable def Zdn.l2.once (k : Nat) (x : (Int × List Int × List Int)) : Option ((Int × List Int × List Int) ⊕ (Unit ⊕ Int)) := match x with | (x3, x1, x2) => cond (decide (x3 ≥ 0)) (cond (inb x3 4) (cond (Nat.blt (Int.toNat x3) 4) (cond (inb x3 4) (cond (Nat.blt (Int.toNat x3) 4) (cond ((List.getD x1 (Int.toNat x3) 0) != (List.getD x2 (Int.toNat x3) 0)) (cond (inb x3 4) (cond (Nat.blt (Int.toNat x3) 4) (cond (inb x3 4) (cond (Nat.blt (Int.toNat x3) 4) (cond (decide ((List.getD x1 (Int.toNat x3) 0) < (List.getD x2 (Int.toNat x3) 0))) (some (.inr (.inr (-1)))) (some (.inr (.inr 1)))) none) none) none) none) (some (.inl (IntKind.wrap .i64 (x3 - 1), x1, x2)))) none) none) none) none) (some (.inr (.inl ())))
noncomputable def Zdn.f (k : Nat) (a0 : (Int × Int × Int × Int)) (a1 : (Int × Int × Int × Int)) : Option Int := (iter (Zdn.l2.once k) k (3, [a0.1, a0.2.1, a0.2.2.1, a0.2.2.2], [a1.1, a1.2.1, a1.2.2.1, a1.2.2.2])).bind fun | .inl y5 => (some 0) | .inr y6 => (some y6)
noncomputable def Zdn.i : Lay U T5a := (pcAnd (pcOne 0 (tAt (vCd (Cd.pair (Cd.int .u64) (Cd.pair (Cd.int .u64) (Cd.pair (Cd.int .u64) (Cd.int .u64))))))) (pcOne 1 (tAt (vCd (Cd.pair (Cd.int .u64) (Cd.pair (Cd.int .u64) (Cd.pair (Cd.int .u64) (Cd.int .u64)))))))).lay (fun _ => by kernel_rfl)
noncomputable def Zdn.r : Lay U Int := (pcOne 0 (tAt (vInt .i64))).lay (fun _ => by kernel_rfl)
noncomputable def Zdn.D (k : Nat) : FDen U := fdn Zdn.i Zdn.r Tryz.f69.ntmps [] true (fun x => Zdn.f k (x.1) (x.2)) (fun _ _ => rfl)
noncomputable def Zdn.l2.i : Lay U (Int × List Int × List Int) := (lay [(2, sPtr 2 0), (3, sPtr 3 0), (5, sAt (vInt .i64))] [bArr DD 2 4 C.u64, bArr DD 3 4 C.u64] (fun _ => by kernel_rfl))
noncomputable def Zdn.l2.o : OLay U (Unit ⊕ Int) := oOr (oExit 0 (lay [] [] (fun _ => by kernel_rfl))) (oRet Zdn.r)
noncomputable def Zdn.E (k : Nat) : Env U := mkE Tryz.f69 [] [] [(2, ldn Zdn.l2.i Zdn.l2.o (iter (Zdn.l2.once k) k))] [(112, (4, C.u64))] n0 n0 [] false n00 nl0 []
theorem Zdn.l2.eq (k : Nat) (x : (Int × List Int × List Int)) : evC (Zdn.E k) (loopAt Tryz.f69 2) (Zdn.l2.i.put x) (headK Zdn.l2.i.un Zdn.l2.o.re) = Zdn.l2.once k x := by kernel_rfl
theorem Zdn.l2.sound (k : Nat) : LSound (Zdn.E k) Tryz.f69.ntmps Tryz.f69 (loopAt Tryz.f69 2) (ldn Zdn.l2.i Zdn.l2.o (iter (Zdn.l2.once k) k)) :=
  loopP (Zbq _ _ _ _ _ _ _ _ _ _ _ _) mixed rfl (by kernel_rfl) (Zap (l := []) (by kernel_rfl) Zah) Zdn.l2.i Zdn.l2.o (Zdn.l2.once k) k (Zdn.l2.eq k)
theorem Zdn.eq (k : Nat) (x : T5a) : runF (Zdn.E k) (codeOf Tryz.f69) (Zdn.i.put x) Zdn.r.un = Zdn.f k (x.1) (x.2) := by kernel_rfl
theorem Zdn.sound (k : Nat) : Sound Tryz.prog DD 69 (Zdn.D k) :=
  funP (E := Zdn.E k) (fn := Tryz.f69) (c := codeOf Tryz.f69) (Zbq _ _ _ _ _ _ _ _ _ _ _ _) mixed rfl Tryz.func69 (by kernel_rfl) (by kernel_rfl) (Zap (l := [loopAt Tryz.f69 2]) (by kernel_rfl) (Zdj (key := 2) (by kernel_rfl) rfl (Zdn.l2.sound k) Zah)) Zdn.i Zdn.r [] true (fun x => Zdn.f k (x.1) (x.2)) (fun _ _ => rfl) (by kernel_rfl) (Zdn.eq k)
noncomputable def Zdn.pk (k : Nat) : Pk Tryz.prog DD := ⟨69, Zdn.D k, Zdn.sound k, Zaq Tryz.func69 (by kernel_rfl) (by kernel_rfl)⟩
/-! ### pyx/dec.less: function 70 -/
noncomputable def Zeh.f (k : Nat) (a0 : (Int × Int × Int × Int)) (a1 : (Int × Int × Int × Int)) : Option (Int × Int × Int × Int) := (Zds.f k (a0.1, a0.2.1, a0.2.2.1, a0.2.2.2)).bind fun t1 => ((Zds.f k (a1.1, a1.2.1, a1.2.2.1, a1.2.2.2)).bind fun t2 => ((Zdw.f k (t1.2.1, t1.2.2) (t2.2.1, t2.2.2)).bind fun t3 => ((Zdw.f k (t1.1.1, t1.1.2) (t2.1.1, t2.1.2)).bind fun t4 => (((cond (!t4.2) ((Zdw.f k (t2.1.1, t2.1.2) (t1.1.1, t1.1.2)).bind fun t5 => ((Zer.f k 1).bind fun t6 => ((Zdw.f k (t5.1.1, t5.1.2) (t6.1, t6.2)).bind fun t7 => ((Zer.f k 1).bind fun t8 => ((Zdw.f k (t3.1.1, t3.1.2) (t8.1, t8.2)).bind fun t9 => (some (0, 0, 0, 0, t9.1.1, t9.1.2, bits .xor .u64 18446744073709551615 t7.1.1, bits .xor .u64 18446744073709551615 t7.1.2))))))) (some (0, 0, 0, 0, t3.1.1, t3.1.2, t4.1.1, t4.1.2))) : Option T5b).bind fun y18 => (some (y18.2.2.2.2.2.2.1, y18.2.2.2.2.2.2.2, y18.2.2.2.2.1, y18.2.2.2.2.2.1))))))
noncomputable def Zeh.i : Lay U T5a := (pcAnd (pcOne 0 (tAt (vCd (Cd.pair (Cd.int .u64) (Cd.pair (Cd.int .u64) (Cd.pair (Cd.int .u64) (Cd.int .u64))))))) (pcOne 1 (tAt (vCd (Cd.pair (Cd.int .u64) (Cd.pair (Cd.int .u64) (Cd.pair (Cd.int .u64) (Cd.int .u64)))))))).lay (fun _ => by kernel_rfl)
noncomputable def Zeh.r : Lay U (Int × Int × Int × Int) := (pcOne 0 (tAt (vCd (Cd.pair (Cd.int .u64) (Cd.pair (Cd.int .u64) (Cd.pair (Cd.int .u64) (Cd.int .u64))))))).lay (fun _ => by kernel_rfl)
noncomputable def Zeh.D (k : Nat) : FDen U := fdn Zeh.i Zeh.r Tryz.f70.ntmps [] true (fun x => Zeh.f k (x.1) (x.2)) (fun _ _ => rfl)
noncomputable def Zeh.j6001 : Jk U := ⟨T5b, oNorm (lay [(4, sPtr 4 0), (9, sPtr 9 0), (11, sPtr 11 0)] [bLit 4 [(vInt .u64), (vInt .u64), (vInt .u64), (vInt .u64)], bLit 9 [(vInt .u64), (vInt .u64)], bLit 11 [(vInt .u64), (vInt .u64)]] (fun _ => by kernel_rfl))⟩
noncomputable def Zeh.E (k : Nat) : Env U := mkE Tryz.f70 [Zds.pk k, Zdw.pk k, Zer.pk k] [(6001, Zeh.j6001)] [] [] n0 n0 [] false n00 nl0 []
theorem Zeh.eq (k : Nat) (x : T5a) : runF (Zeh.E k) (codeOf Tryz.f70) (Zeh.i.put x) Zeh.r.un = Zeh.f k (x.1) (x.2) := by kernel_rfl
theorem Zeh.sound (k : Nat) : Sound Tryz.prog DD 70 (Zeh.D k) :=
  funP (E := Zeh.E k) (fn := Tryz.f70) (c := codeOf Tryz.f70) (Zbq _ _ _ _ _ _ _ _ _ _ _ _) mixed rfl Tryz.func70 (by kernel_rfl) (by kernel_rfl) (Zap (l := []) (by kernel_rfl) Zah) Zeh.i Zeh.r [] true (fun x => Zeh.f k (x.1) (x.2)) (fun _ _ => rfl) (by kernel_rfl) (Zeh.eq k)
noncomputable def Zeh.pk (k : Nat) : Pk Tryz.prog DD := ⟨70, Zeh.D k, Zeh.sound k, Zaq Tryz.func70 (by kernel_rfl) (by kernel_rfl)⟩
end
end Go.Proofs.YtbchcjlllddlpaaGreat
