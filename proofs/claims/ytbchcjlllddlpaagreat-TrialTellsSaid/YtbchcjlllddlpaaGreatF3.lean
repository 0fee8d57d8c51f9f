import Derived.Test.YtbchcjlllddlpaaGreatF2
/-! Functions, told; their equations with the evaluator; that they are sound. Written by gen.py. -/
namespace Go.Proofs.YtbchcjlllddlpaaGreat
open Go Go.Ev
noncomputable section
set_option linter.unusedVariables false
set_option linter.unusedSimpArgs false
set_option maxRecDepth 100000
abbrev T3e := (Int × Int × Int × Int × Int × List Int × List Int × List Int)
abbrev T3d := (List Zag × Int × Int × List Zc × Zd)
abbrev T3c := (List Zag × Int × Bool × Int × List Zc × Zd)
abbrev T3b := ((Int × Int × Int × Int × Int × Int × Int × List Int × List Int × List Int))
abbrev T3a := (Int × Int × Int × Int × Int × Int × Int × Int × Int × Int × Int × Int × Int × List Int × List Int × List Int)
/-! ### pyx/pyxhand.Book: function 81 -/
noncomputable def Zbc.l3.once (k : Nat) (x : T3d) : Option (T3d ⊕ ((Int × List Zc × Zd))) := match x with | (x2, x30, x3, x4, x29) => ((cond (decide (x30 < (List.length x2 : Int))) (some (x2, x30, decide (x30 < 14), x3, x4, (⟨pack 12 false x29.Zk, pack 12 0 x29.Zh⟩ : Zd))) (some (x2, x30, false, x3, x4, (⟨pack 12 false x29.Zk, pack 12 0 x29.Zh⟩ : Zd)))) : Option T3c).bind fun y61 => (cond (y61.2.2.1) (((cond (inb y61.2.1 (List.length y61.1)) ((Zas.f k ((List.getD y61.1 (Int.toNat y61.2.1) Zag.zero).Zfq) 8).bind fun t62 => (cond (t62 == 0) ((Zas.f k ((List.getD y61.1 (Int.toNat y61.2.1) Zag.zero).f_B) 3).bind fun t63 => ((Zbo.f k (⟨y61.2.2.2.1, y61.2.2.2.2.1, (⟨pack 12 false y61.2.2.2.2.2.Zk, pack 12 0 y61.2.2.2.2.2.Zh⟩ : Zd)⟩ : Zr) t63).bind fun t64 => (some (y61.1, y61.2.1, t64.2.Zo, t64.2.f_L, (⟨pack 12 false t64.2.f_T.Zk, pack 12 0 t64.2.f_T.Zh⟩ : Zd))))) (cond (t62 == 1) ((Zas.f k ((List.getD y61.1 (Int.toNat y61.2.1) Zag.zero).f_N) 5).bind fun t94 => ((Zas.f k ((List.getD y61.1 (Int.toNat y61.2.1) Zag.zero).f_B) 3).bind fun t95 => ((Zt.f k (⟨y61.2.2.2.1, y61.2.2.2.2.1, (⟨pack 12 false y61.2.2.2.2.2.Zk, pack 12 0 y61.2.2.2.2.2.Zh⟩ : Zd)⟩ : Zr) t94 t95).bind fun t96 => (some (y61.1, y61.2.1, t96.2.2.Zo, t96.2.2.f_L, (⟨pack 12 false t96.2.2.f_T.Zk, pack 12 0 t96.2.2.f_T.Zh⟩ : Zd)))))) (cond (t62 == 2) ((Zas.f k ((List.getD y61.1 (Int.toNat y61.2.1) Zag.zero).f_B) 3).bind fun t97 => ((Zbk.f k (⟨y61.2.2.2.1, y61.2.2.2.2.1, (⟨pack 12 false y61.2.2.2.2.2.Zk, pack 12 0 y61.2.2.2.2.2.Zh⟩ : Zd)⟩ : Zr) t97).bind fun t98 => (some (y61.1, y61.2.1, t98.2.Zo, t98.2.f_L, (⟨pack 12 false t98.2.f_T.Zk, pack 12 0 t98.2.f_T.Zh⟩ : Zd))))) ((Zas.f k ((List.getD y61.1 (Int.toNat y61.2.1) Zag.zero).f_B) 3).bind fun t99 => ((Zu.f k ((List.getD y61.1 (Int.toNat y61.2.1) Zag.zero).f_L) y61.2.2.2.1 0 4).bind fun t100 => ((Zbu.f k (⟨y61.2.2.2.1, y61.2.2.2.2.1, (⟨pack 12 false y61.2.2.2.2.2.Zk, pack 12 0 y61.2.2.2.2.2.Zh⟩ : Zd)⟩ : Zr) t99 t100).bind fun t101 => (some (y61.1, y61.2.1, t101.2.2.Zo, t101.2.2.f_L, (⟨pack 12 false t101.2.2.f_T.Zk, pack 12 0 t101.2.2.f_T.Zh⟩ : Zd)))))))))) none) : Option T3d).bind fun y102 => (some (.inl (y102.1, IntKind.wrap .i64 (y102.2.1 + 1), y102.2.2.1, y102.2.2.2.1, (⟨pack 12 false y102.2.2.2.2.Zk, pack 12 0 y102.2.2.2.2.Zh⟩ : Zd))))) (some (.inr (y61.2.2.2.1, y61.2.2.2.2.1, (⟨pack 12 false y61.2.2.2.2.2.Zk, pack 12 0 y61.2.2.2.2.2.Zh⟩ : Zd)))))
noncomputable def Zbc.f (k : Nat) (a0 : List Zag) (a1 : Int) : Option Zr := (Zcj.f k a1).bind fun t1 => ((iter (Zbc.l3.once k) k (a0, 0, t1.Zo, t1.f_L, (⟨pack 12 false t1.f_T.Zk, pack 12 0 t1.f_T.Zh⟩ : Zd))).bind fun y130 => (some (⟨y130.1, y130.2.1, (⟨pack 12 false y130.2.2.Zk, pack 12 0 y130.2.2.Zh⟩ : Zd)⟩ : Zr)))
noncomputable def Zbc.i : Lay U (List Zag × Int) := (pcAnd (pcOne 0 (tAt (vRow DD C.Zag))) (pcOne 1 (tAt (vInt .i64)))).lay (fun _ => by kernel_rfl)
noncomputable def Zbc.r : Lay U Zr := (pcOne 0 (Zcq 100000000000006 6000000000000)).lay (fun _ => by kernel_rfl)
noncomputable def Zbc.D (k : Nat) : FDen U := fdn Zbc.i Zbc.r Tryz.f81.ntmps [] false (fun x => Zbc.f k (x.1) (x.2)) (fun h => by cases h)
noncomputable def Zbc.l3.i : Lay U T3d := (lay [(5, sPtr 100000000000006 0), (0, sAt (vRow DD C.Zag)), (6, sAt (vInt .i64))] [bLitT 100000000000006 [(vInt .i64), (vTip DD 10000002000300601 C.Zc 3)] Zaw] (fun _ => by kernel_rfl))
noncomputable def Zbc.l3.o : OLay U ((Int × List Zc × Zd)) := oExit 0 (lay [(5, sPtr 100000000000006 0)] [bLitT 100000000000006 [(vInt .i64), (vTip DD 10000002000300601 C.Zc 3)] Zaw] (fun _ => by kernel_rfl))
noncomputable def Zbc.j3000 : Jk U := ⟨T3c, oNorm (lay [(5, sPtr 100000000000006 0), (0, sAt (vRow DD C.Zag)), (6, sAt (vInt .i64)), (17, sAt vBool)] [bLitT 100000000000006 [(vInt .i64), (vTip DD 10000102300000601 C.Zc 3)] Zaw] (fun _ => by kernel_rfl))⟩
noncomputable def Zbc.j5001 : Jk U := ⟨T3d, oNorm (lay [(5, sPtr 100000000000006 0), (0, sAt (vRow DD C.Zag)), (6, sAt (vInt .i64))] [bLitT 100000000000006 [(vInt .i64), (vTip DD 10000102500100601 C.Zc 3)] Zaw] (fun _ => by kernel_rfl))⟩
noncomputable def Zbc.E (k : Nat) : Env U := mkE Tryz.f81 [Zcj.pk k, Zas.pk k, Zbo.pk k, Zt.pk k, Zbk.pk k, Zu.pk k, Zbu.pk k] [(3000, Zbc.j3000), (5001, Zbc.j5001)] [(3, ldn Zbc.l3.i Zbc.l3.o (iter (Zbc.l3.once k) k))] [] n0 n0 [] false n00 nl0 []
theorem Zbc.l3.eq (k : Nat) (x : T3d) : evC (Zbc.E k) (loopAt Tryz.f81 3) (Zbc.l3.i.put x) (headK Zbc.l3.i.un Zbc.l3.o.re) = Zbc.l3.once k x := by kernel_rfl
theorem Zbc.l3.sound (k : Nat) : LSound (Zbc.E k) Tryz.f81.ntmps Tryz.f81 (loopAt Tryz.f81 3) (ldn Zbc.l3.i Zbc.l3.o (iter (Zbc.l3.once k) k)) :=
  loopP (Zbq _ _ _ _ _ _ _ _ _ _ _ _) mixed rfl (by kernel_rfl) (Zap (l := []) (by kernel_rfl) Zah) Zbc.l3.i Zbc.l3.o (Zbc.l3.once k) k (Zbc.l3.eq k)
theorem Zbc.eq (k : Nat) (x : (List Zag × Int)) : runF (Zbc.E k) (codeOf Tryz.f81) (Zbc.i.put x) Zbc.r.un = Zbc.f k (x.1) (x.2) := by kernel_rfl
theorem Zbc.sound (k : Nat) : Sound Tryz.prog DD 81 (Zbc.D k) :=
  funP (E := Zbc.E k) (fn := Tryz.f81) (c := codeOf Tryz.f81) (Zbq _ _ _ _ _ _ _ _ _ _ _ _) mixed rfl Tryz.func81 (by kernel_rfl) (by kernel_rfl) (Zap (l := [loopAt Tryz.f81 3]) (by kernel_rfl) (Zdj (key := 3) (by kernel_rfl) rfl (Zbc.l3.sound k) Zah)) Zbc.i Zbc.r [] false (fun x => Zbc.f k (x.1) (x.2)) (fun h => by cases h) (by kernel_rfl) (Zbc.eq k)
noncomputable def Zbc.pk (k : Nat) : Pk Tryz.prog DD := ⟨81, Zbc.D k, Zbc.sound k, Zaq Tryz.func81 (by kernel_rfl) (by kernel_rfl)⟩
/-! ### pyx/period.is: function 113 -/
noncomputable def Zed.f (k : Nat) (a0 : Int) : Option Bool := cond (decide (a0 ≥ 0)) (some (decide (a0 < 12))) (some false)
noncomputable def Zed.i : Lay U Int := (pcOne 0 (tAt (vInt .i64))).lay (fun _ => by kernel_rfl)
noncomputable def Zed.r : Lay U Bool := (pcOne 0 (tAt vBool)).lay (fun _ => by kernel_rfl)
noncomputable def Zed.D (k : Nat) : FDen U := fdn Zed.i Zed.r Tryz.f113.ntmps [] true (fun x => Zed.f k (x)) (fun _ _ => rfl)
noncomputable def Zed.E (k : Nat) : Env U := mkE Tryz.f113 [] [] [] [] n0 n0 [] false n00 nl0 []
theorem Zed.eq (k : Nat) (x : Int) : runF (Zed.E k) (codeOf Tryz.f113) (Zed.i.put x) Zed.r.un = Zed.f k (x) := by kernel_rfl
theorem Zed.sound (k : Nat) : Sound Tryz.prog DD 113 (Zed.D k) :=
  funP (E := Zed.E k) (fn := Tryz.f113) (c := codeOf Tryz.f113) (Zbq _ _ _ _ _ _ _ _ _ _ _ _) mixed rfl Tryz.func113 (by kernel_rfl) (by kernel_rfl) (Zap (l := []) (by kernel_rfl) Zah) Zed.i Zed.r [] true (fun x => Zed.f k (x)) (fun _ _ => rfl) (by kernel_rfl) (Zed.eq k)
noncomputable def Zed.pk (k : Nat) : Pk Tryz.prog DD := ⟨113, Zed.D k, Zed.sound k, Zaq Tryz.func113 (by kernel_rfl) (by kernel_rfl)⟩
/-! ### pyx/period.IsOpen: function 59 -/
noncomputable def Zcl.f (k : Nat) (a0 : Ze) (a1 : Int) : Option Bool := (Zed.f k a1).bind fun t1 => (cond (t1) (cond (inb a1 12) (cond (Nat.blt (Int.toNat a1) 12) (some (!(List.getD (pack 12 false a0.Zk) (Int.toNat a1) false))) none) none) (some false))
noncomputable def Zcl.i : Lay U (Ze × Int) := (pcAnd (pcOne 0 (tAt (vCd Zat))) (pcOne 1 (tAt (vInt .i64)))).lay (fun _ => by kernel_rfl)
noncomputable def Zcl.r : Lay U Bool := (pcOne 0 (tAt vBool)).lay (fun _ => by kernel_rfl)
noncomputable def Zcl.D (k : Nat) : FDen U := fdn Zcl.i Zcl.r Tryz.f59.ntmps [] true (fun x => Zcl.f k (x.1) (x.2)) (fun _ _ => rfl)
noncomputable def Zcl.E (k : Nat) : Env U := mkE Tryz.f59 [Zed.pk k] [] [] [] (fun t => Nat.beq t 68) n0 [] false n00 nl0 []
theorem Zcl.eq (k : Nat) (x : (Ze × Int)) : runF (Zcl.E k) (codeOf Tryz.f59) (Zcl.i.put x) Zcl.r.un = Zcl.f k (x.1) (x.2) := by kernel_rfl
theorem Zcl.sound (k : Nat) : Sound Tryz.prog DD 59 (Zcl.D k) :=
  funP (E := Zcl.E k) (fn := Tryz.f59) (c := codeOf Tryz.f59) (Zbq _ _ _ _ _ _ _ _ _ _ _ _) mixed rfl Tryz.func59 (by kernel_rfl) (by kernel_rfl) (Zap (l := []) (by kernel_rfl) Zah) Zcl.i Zcl.r [] true (fun x => Zcl.f k (x.1) (x.2)) (fun _ _ => rfl) (by kernel_rfl) (Zcl.eq k)
noncomputable def Zcl.pk (k : Nat) : Pk Tryz.prog DD := ⟨59, Zcl.D k, Zcl.sound k, Zaq Tryz.func59 (by kernel_rfl) (by kernel_rfl)⟩
/-! ### pyx/period.Close: function 75 -/
noncomputable def Zdh.f (k : Nat) (a0 : Ze) (a1 : Int) : Option (Ze × Int) := (((Zcl.f k (⟨pack 12 false a0.Zk, pack 12 0 a0.Zh⟩ : Ze) a1).bind fun t1 => (cond (!t1) (some (a1, true, (⟨pack 12 false a0.Zk, pack 12 0 a0.Zh⟩ : Ze), (⟨[false, false, false, false, false, false, false, false, false, false, false, false], [0, 0, 0, 0, 0, 0, 0, 0, 0, 0, 0, 0]⟩ : Ze))) (cond (decide (a1 > 0)) (cond (inb (IntKind.wrap .i64 (a1 - 1)) 12) (cond (Nat.blt (Int.toNat (IntKind.wrap .i64 (a1 - 1))) 12) (some (a1, !(List.getD (pack 12 false a0.Zk) (Int.toNat (IntKind.wrap .i64 (a1 - 1))) false), (⟨pack 12 false a0.Zk, pack 12 0 a0.Zh⟩ : Ze), (⟨[false, false, false, false, false, false, false, false, false, false, false, false], [0, 0, 0, 0, 0, 0, 0, 0, 0, 0, 0, 0]⟩ : Ze))) none) none) (some (a1, false, (⟨pack 12 false a0.Zk, pack 12 0 a0.Zh⟩ : Ze), (⟨[false, false, false, false, false, false, false, false, false, false, false, false], [0, 0, 0, 0, 0, 0, 0, 0, 0, 0, 0, 0]⟩ : Ze)))))) : Option (Int × Bool × Ze × Ze)).bind fun y6 => (cond (y6.2.1) (some ((⟨[false, false, false, false, false, false, false, false, false, false, false, false], [0, 0, 0, 0, 0, 0, 0, 0, 0, 0, 0, 0]⟩ : Ze), 8)) (cond (inb y6.1 12) (cond (Nat.blt (Int.toNat y6.1) 12) (cond (inb y6.1 12) (cond (Nat.blt (Int.toNat y6.1) 12) (cond (inb y6.1 12) (cond (Nat.blt (Int.toNat y6.1) 12) (some ((⟨putAll (Int.toNat y6.1) true 0 (pack 12 false y6.2.2.1.Zk), putAll (Int.toNat y6.1) (IntKind.wrap .i64 ((List.getD (pack 12 0 y6.2.2.1.Zh) (Int.toNat y6.1) 0) + 1)) 0 (pack 12 0 y6.2.2.1.Zh)⟩ : Ze), 0)) none) none) none) none) none) none))
noncomputable def Zdh.i : Lay U (Ze × Int) := (pcAnd (pcOne 0 (tAt (vCd Zat))) (pcOne 1 (tAt (vInt .i64)))).lay (fun _ => by kernel_rfl)
noncomputable def Zdh.r : Lay U (Ze × Int) := (pcTup 0 (tqCons (tAt (vCd Zat)) (tqOne (tAt (vInt .i64))))).lay (fun _ => by kernel_rfl)
noncomputable def Zdh.D (k : Nat) : FDen U := fdn Zdh.i Zdh.r Tryz.f75.ntmps [] true (fun x => Zdh.f k (x.1) (x.2)) (fun _ _ => rfl)
noncomputable def Zdh.j1000 : Jk U := ⟨(Int × Bool × Ze × Ze), oNorm (lay [(2, sPtr 2 0), (4, sPtr 4 0), (1, sAt (vInt .i64)), (21, sAt vBool)] [bCd 2 Zat, bCd 4 Zat] (fun _ => by kernel_rfl))⟩
noncomputable def Zdh.E (k : Nat) : Env U := mkE Tryz.f75 [Zcl.pk k] [(1000, Zdh.j1000)] [] [] (fun t => Nat.beq t 68 || Nat.beq t 69) n0 [] false n00 nl0 []
theorem Zdh.eq (k : Nat) (x : (Ze × Int)) : runF (Zdh.E k) (codeOf Tryz.f75) (Zdh.i.put x) Zdh.r.un = Zdh.f k (x.1) (x.2) := by kernel_rfl
theorem Zdh.sound (k : Nat) : Sound Tryz.prog DD 75 (Zdh.D k) :=
  funP (E := Zdh.E k) (fn := Tryz.f75) (c := codeOf Tryz.f75) (Zbq _ _ _ _ _ _ _ _ _ _ _ _) mixed rfl Tryz.func75 (by kernel_rfl) (by kernel_rfl) (Zap (l := []) (by kernel_rfl) Zah) Zdh.i Zdh.r [] true (fun x => Zdh.f k (x.1) (x.2)) (fun _ _ => rfl) (by kernel_rfl) (Zdh.eq k)
noncomputable def Zdh.pk (k : Nat) : Pk Tryz.prog DD := ⟨75, Zdh.D k, Zdh.sound k, Zaq Tryz.func75 (by kernel_rfl) (by kernel_rfl)⟩
/-! ### (*pyx/ledger.Book).turn: function 74 -/
noncomputable def Zab.f (k : Nat) (a0 : Zi) (a1 : Unit) (a2 : Int) : Option (Int × Zi) := (Zdh.f k (⟨pack 12 false a0.f_t.Zk, pack 12 0 a0.f_t.Zh⟩ : Ze) a2).bind fun t1 => (cond (t1.2 == 0) (some (t1.2, (⟨a0.Zbw, a0.f_l, (⟨pack 12 false t1.1.Zk, pack 12 0 t1.1.Zh⟩ : Ze)⟩ : Zi))) (some (t1.2, (⟨a0.Zbw, a0.f_l, (⟨pack 12 false a0.f_t.Zk, pack 12 0 a0.f_t.Zh⟩ : Ze)⟩ : Zi))))
noncomputable def Zab.un (s : St U) : Option (Zi × Unit × Int) := match s.get 0, lk s.o 7000000000000, s.get 1, s.get 2, s.get 1000000000000000 with | .ptr 7000000000000 0, some (.lit (.flat (.int .i64 x1) :: x5 :: x3)), .fn 75 [], .flat (.int .i64 x6), .ptr 7000000000000 0 => (Zfn s.o 3 x5).bind fun ex2 => ((Zat.full x3).bind fun x4 => (some ((⟨x1, ex2.2, x4⟩ : Zi), (), x6))) | _, _, _, _, _ => none
noncomputable def Zab.mk (x : (Zi × Unit × Int)) : St U := ⟨[(0, .ptr 7000000000000 0), (1, .fn 75 []), (2, .flat (.int .i64 x.2.2)), (1000000000000000, .ptr 7000000000000 0)], [(7000000000000, .lit ((.flat (.int .i64 x.1.Zbw)) :: (.tip 7000000000002 C.Zc x.1.f_l) :: Zat.enc x.1.f_t)), (7000000000002, .tip 3)]⟩
noncomputable def Zab.fin (y : (Int × Zi)) : St U := ⟨[(0, .flat (.int .i64 y.1)), (1000000000000000, .ptr 7000000000000 0)], [(7000000000000, .lit ((.flat (.int .i64 y.2.Zbw)) :: (.tip 7000000000002 C.Zc y.2.f_l) :: Zat.enc y.2.f_t)), (7000000000002, .tip 3)]⟩
noncomputable def Zab.D (k : Nat) : FDen U := { X := (Zi × Unit × Int), Y := (Int × Zi), nt := 28, gh := [0], un := Zab.un, f := fun x => Zab.f k (x.1) (x.2.1) (x.2.2), fin := Zab.fin, cl := false, clo := fun h => by cases h }
noncomputable def Zab.re (s : St U) : Option (Int × Zi) := match s.get 0, s.get 1000000000000000, lk s.o 7000000000000 with | .flat (.int .i64 x1), .ptr 7000000000000 0, some (.lit (.flat (.int .i64 x2) :: x6 :: x4)) => (Zfn s.o 3 x6).bind fun ex3 => ((Zat.full x4).bind fun x5 => (some (x1, (⟨x2, ex3.2, x5⟩ : Zi)))) | _, _, _ => none
noncomputable def Zab.jl : List (Nat × JDen U) := []
noncomputable def Zab.fl (k : Nat) : List (Nat × FDen U) := [(75, Zdh.D k)]
noncomputable def Zab.ll (k : Nat) : List (Nat × LDen U) := []
noncomputable def Zab.E (k : Nat) : Env U := { P := Tryz.prog, D := DD, fd := lk (Zab.fl k), sf := lk sl0, ld := lk (Zab.ll k), jd := lk Zab.jl, mode := lk [], elc := lk ec, mpc := lk mc, rts := Tryz.f74.resultTypes.toList, dyn := fun t => false, vecs := fun d => false, results := Tryz.f74.results.toList, gh := [0], own := false, io := fun g i => false, lds := nl0, fn := lk [] }
theorem Zab.ok (k : Nat) : EnvOk (Zab.E k) := envOk lawful (Zab.fl k) sl0 (Zab.ll k) Zab.jl _ _ _ _ _ _ _ _ _ _ _ [] (by
  intro p hp
  simp only [Zab.fl, List.mem_cons, List.not_mem_nil, or_false] at hp
  rcases hp with rfl
  · exact ⟨Zdh.sound k, Zaq Tryz.func75 (by kernel_rfl) (by kernel_rfl)⟩) sl0_ok (by
  intro p hp
  simp [Zab.jl] at hp) (fun _ h => (List.not_mem_nil h).elim)
theorem Zab.eq (k : Nat) (x : (Zi × Unit × Int)) : runF (Zab.E k) (codeOf Tryz.f74) (Zab.mk x) Zab.re = (Zab.D k).f x := by kernel_rfl
theorem Zab.fit (s : St U) (x : (Zi × Unit × Int)) (h : Zab.un s = some x) : Fits s (Zab.mk x) := by
  unfold Zab.un at h
  split at h
  · obtain ⟨ex2, hex2, hh1⟩ := Option.bind_eq_some_iff.1 h
    obtain ⟨x4, hx4, hh2⟩ := Option.bind_eq_some_iff.1 hh1
    cases hh2
    refine Zfl [(7000000000002, ex2.1)] ?_ ?_ ren_one rfl
    · exact List.forall_mem_cons.2 ⟨FV.one (FV.ptr (by assumption)), List.forall_mem_cons.2 ⟨FV.one (FV.same (by assumption) rfl), List.forall_mem_cons.2 ⟨FV.one (FV.same (by assumption) rfl), List.forall_mem_cons.2 ⟨FV.one (FV.ptr (by assumption)), fun _ hp => (List.not_mem_nil hp).elim⟩⟩⟩⟩
    · exact List.forall_mem_cons.2 ⟨FO.cells (show lk (St.o _) 7000000000000 = some _ from by assumption) (FCs.cons (c0_same rfl rfl) (FCs.cons ((Zes hex2 rfl).1) (FCs.tail (Cd.full_ok hx4) rfl))), List.forall_mem_cons.2 ⟨(Zes hex2 rfl).2, fun _ hp => (List.not_mem_nil hp).elim⟩⟩
  · cases h
theorem Zab.fitR (s : St U) (y : (Int × Zi)) (h : Zab.re s = some y) : Fits s (Zab.fin y) := by
  unfold Zab.re at h
  split at h
  · obtain ⟨ex3, hex3, hh1⟩ := Option.bind_eq_some_iff.1 h
    obtain ⟨x5, hx5, hh2⟩ := Option.bind_eq_some_iff.1 hh1
    cases hh2
    refine Zfl [(7000000000002, ex3.1)] ?_ ?_ ren_one rfl
    · exact List.forall_mem_cons.2 ⟨FV.one (FV.same (by assumption) rfl), List.forall_mem_cons.2 ⟨FV.one (FV.ptr (by assumption)), fun _ hp => (List.not_mem_nil hp).elim⟩⟩
    · exact List.forall_mem_cons.2 ⟨FO.cells (show lk (St.o _) 7000000000000 = some _ from by assumption) (FCs.cons (c0_same rfl rfl) (FCs.cons ((Zes hex3 rfl).1) (FCs.tail (Cd.full_ok hx5) rfl))), List.forall_mem_cons.2 ⟨(Zes hex3 rfl).2, fun _ hp => (List.not_mem_nil hp).elim⟩⟩
  · cases h
theorem Zab.sound (k : Nat) : Sound Tryz.prog DD 74 (Zab.D k) :=
  fun_sound (E := Zab.E k) (fn := Tryz.f74) (c := codeOf Tryz.f74) (Zab.ok k) mixed rfl Tryz.func74 (by kernel_rfl) (by kernel_rfl) (Zap (l := []) (by kernel_rfl) Zah) (Zab.D k) Zab.mk Zab.re (by kernel_rfl) (by kernel_rfl) Zab.fit Zab.fitR (Zab.eq k)
noncomputable def Zab.pk (k : Nat) : Pk Tryz.prog DD := ⟨74, Zab.D k, Zab.sound k, Zaq Tryz.func74 (by kernel_rfl) (by kernel_rfl)⟩
/-! ### (*pyx/ledger.Book).Close: function 22 -/
noncomputable def Zby.f (k : Nat) (a0 : Zi) (a1 : Int) : Option (Int × Zi) := (Zab.f k (⟨a0.Zbw, a0.f_l, (⟨pack 12 false a0.f_t.Zk, pack 12 0 a0.f_t.Zh⟩ : Ze)⟩ : Zi) () a1).bind fun t1 => (some (t1.1, (⟨t1.2.Zbw, t1.2.f_l, (⟨pack 12 false t1.2.f_t.Zk, pack 12 0 t1.2.f_t.Zh⟩ : Ze)⟩ : Zi)))
noncomputable def Zby.i : Lay U (Zi × Int) := (pcGh 1000000000000000 7000000000000 (pcAnd (pcOne 0 (Zcg 7000000000000 7000000000000)) (pcOne 1 (tAt (vInt .i64))))).lay (fun _ => by kernel_rfl)
noncomputable def Zby.r : Lay U (Int × Zi) := (pcAnd (pcOne 0 (tAt (vInt .i64))) (pcOne 1000000000000000 (Zcg 7000000000000 7000000000000))).lay (fun _ => by kernel_rfl)
noncomputable def Zby.D (k : Nat) : FDen U := fdn Zby.i Zby.r Tryz.f22.ntmps [0] false (fun x => Zby.f k (x.1) (x.2)) (fun h => by cases h)
noncomputable def Zby.E (k : Nat) : Env U := mkE Tryz.f22 [Zab.pk k] [] [] [] n0 n0 [0] false n00 nl0 []
theorem Zby.eq (k : Nat) (x : (Zi × Int)) : runF (Zby.E k) (codeOf Tryz.f22) (Zby.i.put x) Zby.r.un = Zby.f k (x.1) (x.2) := by kernel_rfl
theorem Zby.sound (k : Nat) : Sound Tryz.prog DD 22 (Zby.D k) :=
  funP (E := Zby.E k) (fn := Tryz.f22) (c := codeOf Tryz.f22) (Zbq _ _ _ _ _ _ _ _ _ _ _ _) mixed rfl Tryz.func22 (by kernel_rfl) (by kernel_rfl) (Zap (l := []) (by kernel_rfl) Zah) Zby.i Zby.r [0] false (fun x => Zby.f k (x.1) (x.2)) (fun h => by cases h) (by kernel_rfl) (Zby.eq k)
noncomputable def Zby.pk (k : Nat) : Pk Tryz.prog DD := ⟨22, Zby.D k, Zby.sound k, Zaq Tryz.func22 (by kernel_rfl) (by kernel_rfl)⟩
/-! ### (*pyx/ledger.Book).Reverse$1: function 132 -/
noncomputable def Zbd.f (k : Nat) (a0 : Zc) (a1 : Int) : Option Bool := some (a0.f_Of == a1)
noncomputable def Zbd.i : Lay U (Zc × Int) := (pcAnd (pcOne 0 (tAt (vCd cd_Sapi_Entry))) (pcOne 1 (tAt (vRp (Cd.int .i64))))).lay (fun _ => by kernel_rfl)
noncomputable def Zbd.r : Lay U Bool := (pcOne 0 (tAt vBool)).lay (fun _ => by kernel_rfl)
noncomputable def Zbd.D (k : Nat) : FDen U := fdn Zbd.i Zbd.r Tryz.f132.ntmps [] true (fun x => Zbd.f k (x.1) (x.2)) (fun _ _ => rfl)
noncomputable def Zbd.E (k : Nat) : Env U := mkE Tryz.f132 [] [] [] [] n0 n0 [] false n00 nl0 []
theorem Zbd.eq (k : Nat) (x : (Zc × Int)) : runF (Zbd.E k) (codeOf Tryz.f132) (Zbd.i.put x) Zbd.r.un = Zbd.f k (x.1) (x.2) := by kernel_rfl
theorem Zbd.sound (k : Nat) : Sound Tryz.prog DD 132 (Zbd.D k) :=
  funP (E := Zbd.E k) (fn := Tryz.f132) (c := codeOf Tryz.f132) (Zbq _ _ _ _ _ _ _ _ _ _ _ _) mixed rfl Tryz.func132 (by kernel_rfl) (by kernel_rfl) (Zap (l := []) (by kernel_rfl) Zah) Zbd.i Zbd.r [] true (fun x => Zbd.f k (x.1) (x.2)) (fun _ _ => rfl) (by kernel_rfl) (Zbd.eq k)
noncomputable def Zbd.pk (k : Nat) : Pk Tryz.prog DD := ⟨132, Zbd.D k, Zbd.sound k, Zaq Tryz.func132 (by kernel_rfl) (by kernel_rfl)⟩
/-! ### slices.IndexFunc[[]pyx/api.Entry,pyx/api.Entry]: function 165 -/
noncomputable def Zb.l2.once (k : Nat) (x : (List Zc × Int × Int × Int)) : Option ((List Zc × Int × Int × Int) ⊕ (Unit ⊕ Int)) := match x with | (x1, x2, x3, x4) => cond (decide (x4 < x3)) (cond (inb x4 (List.length x1)) ((Zbd.f k (⟨(List.getD x1 (Int.toNat x4) Zc.zero).Zdi, (List.getD x1 (Int.toNat x4) Zc.zero).Zdm, (List.getD x1 (Int.toNat x4) Zc.zero).f_Of⟩ : Zc) x2).bind fun t5 => (cond (t5) (some (.inr (.inr x4))) (some (.inl (x1, x2, x3, IntKind.wrap .i64 (x4 + 1)))))) none) (some (.inr (.inl ())))
noncomputable def Zb.f (k : Nat) (a0 : List Zc) (a1 : Int) : Option Int := (iter (Zb.l2.once k) k (a0, a1, (List.length a0 : Int), 0)).bind fun | .inl y7 => (some (-1)) | .inr y8 => (some y8)
noncomputable def Zb.un (s : St U) : Option (List Zc × Int) := match s.get 0, s.get 1 with | .row C.Zc x1, .fn 132 [.rp [.flat (.int .i64 x2)] 0] => some (x1, x2) | _, _ => none
noncomputable def Zb.mk (x : (List Zc × Int)) : St U := ⟨[(0, .row C.Zc x.1), (1, .fn 132 [.rp [.flat (.int .i64 x.2)] 0])], []⟩
noncomputable def Zb.fin (y : Int) : St U := ⟨[(0, .flat (.int .i64 y))], []⟩
noncomputable def Zb.D (k : Nat) : FDen U := { X := (List Zc × Int), Y := Int, nt := 19, gh := [], un := Zb.un, f := fun x => Zb.f k (x.1) (x.2), fin := Zb.fin, cl := true, clo := fun _ _ => rfl }
noncomputable def Zb.re (s : St U) : Option Int := match s.get 0 with | .flat (.int .i64 x1) => some x1 | _ => none
noncomputable def Zb.l2.mk (x : (List Zc × Int × Int × Int)) : St U := match x with | (x1, x2, x3, x4) => ⟨[(0, .row C.Zc x1), (1, .fn 132 [.rp [.flat (.int .i64 x2)] 0]), (7, .flat (.int .i64 x3)), (8, .flat (.int .i64 x4))], []⟩
noncomputable def Zb.l2.un (s : St U) : Option (List Zc × Int × Int × Int) := (row_Sapi_Entry (s.get 0)).bind fun q0 => (match s.get 1, s.get 7, s.get 8 with | .fn 132 [.rp [.flat (.int .i64 x2)] 0], .flat (.int .i64 x3), .flat (.int .i64 x4) => some (q0, x2, x3, x4) | _, _, _ => none)
noncomputable def Zb.l2.fin (y : Unit ⊕ Int) : Out U := match y with | .inl () => .exit 0 ⟨[], []⟩ | .inr z => .ret (⟨[(0, .flat (.int .i64 z))], []⟩)
noncomputable def Zb.l2.finK {ρ : Type} (y : Unit ⊕ Int) (K : Out U → Option ρ) : Option ρ := match y with | .inl () => K (.exit 0 ⟨[], []⟩) | .inr z => K (.ret (⟨[(0, .flat (.int .i64 z))], []⟩))
theorem Zb.l2.finK_eq {ρ : Type} (y : Unit ⊕ Int) (K : Out U → Option ρ) : Zb.l2.finK y K = K (Zb.l2.fin y) := by
  unfold Zb.l2.finK Zb.l2.fin
  first | rfl | (split <;> rfl)
noncomputable def Zb.l2.re : Out U → Option (Unit ⊕ Int) | .exit 0 s => (some (.inl ())) | .ret s => (match s.get 0 with | .flat (.int .i64 x1) => some (.inr x1) | _ => none) | _ => none
noncomputable def Zb.l2.L (k : Nat) : LDen U := { X := (List Zc × Int × Int × Int), Y := Unit ⊕ Int, un := Zb.l2.un, f := iter (Zb.l2.once k) k, fin := Zb.l2.fin, finK := Zb.l2.finK, finK_eq := Zb.l2.finK_eq }
noncomputable def Zb.jl : List (Nat × JDen U) := []
noncomputable def Zb.fl (k : Nat) : List (Nat × FDen U) := [(132, Zbd.D k)]
noncomputable def Zb.ll (k : Nat) : List (Nat × LDen U) := [(2, Zb.l2.L k)]
noncomputable def Zb.E (k : Nat) : Env U := { P := Tryz.prog, D := DD, fd := lk (Zb.fl k), sf := lk sl0, ld := lk (Zb.ll k), jd := lk Zb.jl, mode := lk [], elc := lk ec, mpc := lk mc, rts := Tryz.f165.resultTypes.toList, dyn := fun t => false, vecs := fun d => false, results := Tryz.f165.results.toList, gh := [], own := false, io := fun g i => false, lds := nl0, fn := lk [] }
theorem Zb.ok (k : Nat) : EnvOk (Zb.E k) := envOk lawful (Zb.fl k) sl0 (Zb.ll k) Zb.jl _ _ _ _ _ _ _ _ _ _ _ [] (by
  intro p hp
  simp only [Zb.fl, List.mem_cons, List.not_mem_nil, or_false] at hp
  rcases hp with rfl
  · exact ⟨Zbd.sound k, Zaq Tryz.func132 (by kernel_rfl) (by kernel_rfl)⟩) sl0_ok (by
  intro p hp
  simp [Zb.jl] at hp) (fun _ h => (List.not_mem_nil h).elim)
theorem Zb.l2.eq (k : Nat) (x : (List Zc × Int × Int × Int)) : evC (Zb.E k) (loopAt Tryz.f165 2) (Zb.l2.mk x) (headK Zb.l2.un Zb.l2.re) = Zb.l2.once k x := by kernel_rfl
theorem Zb.l2.fit (s : St U) (x : (List Zc × Int × Int × Int)) (h : Zb.l2.un s = some x) : Fits s (Zb.l2.mk x) := by
  unfold Zb.l2.un at h
  obtain ⟨q0, eq0, h1⟩ := Option.bind_eq_some_iff.1 h
  split at h1
  · cases h1
    refine Zfl [] ?_ ?_ ren_nil rfl
    · exact List.forall_mem_cons.2 ⟨FV.one (row_Sapi_Entry_fit eq0), List.forall_mem_cons.2 ⟨FV.one (FV.same (by assumption) rfl), List.forall_mem_cons.2 ⟨FV.one (FV.same (by assumption) rfl), List.forall_mem_cons.2 ⟨FV.one (FV.same (by assumption) rfl), fun _ hp => (List.not_mem_nil hp).elim⟩⟩⟩⟩
    · exact fun _ hp => (List.not_mem_nil hp).elim
  · cases h1
theorem Zb.l2.fitO (o : Out U) (y : Unit ⊕ Int) (h : Zb.l2.re o = some y) : FitsO o (Zb.l2.fin y) := by
  unfold Zb.l2.re at h
  split at h
  · cases h
    refine fitsO_exit (Zfl [] ?_ ?_ ren_nil rfl)
    · exact fun _ hp => (List.not_mem_nil hp).elim
    · exact fun _ hp => (List.not_mem_nil hp).elim
  · split at h
    · cases h
      refine fitsO_ret (Zfl [] ?_ ?_ ren_nil rfl)
      · exact List.forall_mem_cons.2 ⟨FV.one (FV.same (by assumption) rfl), fun _ hp => (List.not_mem_nil hp).elim⟩
      · exact fun _ hp => (List.not_mem_nil hp).elim
    · cases h
  · cases h
theorem Zb.l2.sound (k : Nat) : LSound (Zb.E k) Tryz.f165.ntmps Tryz.f165 (loopAt Tryz.f165 2) (Zb.l2.L k) :=
  loop_sound (Zb.ok k) mixed rfl (by kernel_rfl) (Zap (l := []) (by kernel_rfl) Zah) Zb.l2.un Zb.l2.mk Zb.l2.fin Zb.l2.re (Zb.l2.once k) k Zb.l2.fit Zb.l2.fitO (Zb.l2.eq k) Zb.l2.finK Zb.l2.finK_eq
theorem Zb.eq (k : Nat) (x : (List Zc × Int)) : runF (Zb.E k) (codeOf Tryz.f165) (Zb.mk x) Zb.re = (Zb.D k).f x := by kernel_rfl
theorem Zb.fit (s : St U) (x : (List Zc × Int)) (h : Zb.un s = some x) : Fits s (Zb.mk x) := by
  unfold Zb.un at h
  split at h
  · cases h
    refine Zfl [] ?_ ?_ ren_nil rfl
    · exact List.forall_mem_cons.2 ⟨FV.one (FV.same (by assumption) rfl), List.forall_mem_cons.2 ⟨FV.one (FV.same (by assumption) rfl), fun _ hp => (List.not_mem_nil hp).elim⟩⟩
    · exact fun _ hp => (List.not_mem_nil hp).elim
  · cases h
theorem Zb.fitR (s : St U) (y : Int) (h : Zb.re s = some y) : Fits s (Zb.fin y) := by
  unfold Zb.re at h
  split at h
  · cases h
    refine Zfl [] ?_ ?_ ren_nil rfl
    · exact List.forall_mem_cons.2 ⟨FV.one (FV.same (by assumption) rfl), fun _ hp => (List.not_mem_nil hp).elim⟩
    · exact fun _ hp => (List.not_mem_nil hp).elim
  · cases h
theorem Zb.sound (k : Nat) : Sound Tryz.prog DD 165 (Zb.D k) :=
  fun_sound (E := Zb.E k) (fn := Tryz.f165) (c := codeOf Tryz.f165) (Zb.ok k) mixed rfl Tryz.func165 (by kernel_rfl) (by kernel_rfl) (Zap (l := [loopAt Tryz.f165 2]) (by kernel_rfl) (Zdj (key := 2) (by kernel_rfl) rfl (Zb.l2.sound k) Zah)) (Zb.D k) Zb.mk Zb.re (by kernel_rfl) (by kernel_rfl) Zb.fit Zb.fitR (Zb.eq k)
noncomputable def Zb.pk (k : Nat) : Pk Tryz.prog DD := ⟨165, Zb.D k, Zb.sound k, Zaq Tryz.func165 (by kernel_rfl) (by kernel_rfl)⟩
/-! ### slices.ContainsFunc[[]pyx/api.Entry,pyx/api.Entry]: function 131 -/
noncomputable def Zj.f (k : Nat) (a0 : List Zc) (a1 : Int) : Option Bool := (Zb.f k a0 a1).bind fun t1 => (some (decide (t1 ≥ 0)))
noncomputable def Zj.un (s : St U) : Option (List Zc × Int) := match s.get 0, s.get 1 with | .row C.Zc x1, .fn 132 [.rp [.flat (.int .i64 x2)] 0] => some (x1, x2) | _, _ => none
noncomputable def Zj.mk (x : (List Zc × Int)) : St U := ⟨[(0, .row C.Zc x.1), (1, .fn 132 [.rp [.flat (.int .i64 x.2)] 0])], []⟩
noncomputable def Zj.fin (y : Bool) : St U := ⟨[(0, .flat (.bool y))], []⟩
noncomputable def Zj.D (k : Nat) : FDen U := { X := (List Zc × Int), Y := Bool, nt := 9, gh := [], un := Zj.un, f := fun x => Zj.f k (x.1) (x.2), fin := Zj.fin, cl := true, clo := fun _ _ => rfl }
noncomputable def Zj.re (s : St U) : Option Bool := match s.get 0 with | .flat (.bool x1) => some x1 | _ => none
noncomputable def Zj.jl : List (Nat × JDen U) := []
noncomputable def Zj.fl (k : Nat) : List (Nat × FDen U) := [(165, Zb.D k)]
noncomputable def Zj.ll (k : Nat) : List (Nat × LDen U) := []
noncomputable def Zj.E (k : Nat) : Env U := { P := Tryz.prog, D := DD, fd := lk (Zj.fl k), sf := lk sl0, ld := lk (Zj.ll k), jd := lk Zj.jl, mode := lk [], elc := lk ec, mpc := lk mc, rts := Tryz.f131.resultTypes.toList, dyn := fun t => false, vecs := fun d => false, results := Tryz.f131.results.toList, gh := [], own := false, io := fun g i => false, lds := nl0, fn := lk [] }
theorem Zj.ok (k : Nat) : EnvOk (Zj.E k) := envOk lawful (Zj.fl k) sl0 (Zj.ll k) Zj.jl _ _ _ _ _ _ _ _ _ _ _ [] (by
  intro p hp
  simp only [Zj.fl, List.mem_cons, List.not_mem_nil, or_false] at hp
  rcases hp with rfl
  · exact ⟨Zb.sound k, Zaq Tryz.func165 (by kernel_rfl) (by kernel_rfl)⟩) sl0_ok (by
  intro p hp
  simp [Zj.jl] at hp) (fun _ h => (List.not_mem_nil h).elim)
theorem Zj.eq (k : Nat) (x : (List Zc × Int)) : runF (Zj.E k) (codeOf Tryz.f131) (Zj.mk x) Zj.re = (Zj.D k).f x := by kernel_rfl
theorem Zj.fit (s : St U) (x : (List Zc × Int)) (h : Zj.un s = some x) : Fits s (Zj.mk x) := by
  unfold Zj.un at h
  split at h
  · cases h
    refine Zfl [] ?_ ?_ ren_nil rfl
    · exact List.forall_mem_cons.2 ⟨FV.one (FV.same (by assumption) rfl), List.forall_mem_cons.2 ⟨FV.one (FV.same (by assumption) rfl), fun _ hp => (List.not_mem_nil hp).elim⟩⟩
    · exact fun _ hp => (List.not_mem_nil hp).elim
  · cases h
theorem Zj.fitR (s : St U) (y : Bool) (h : Zj.re s = some y) : Fits s (Zj.fin y) := by
  unfold Zj.re at h
  split at h
  · cases h
    refine Zfl [] ?_ ?_ ren_nil rfl
    · exact List.forall_mem_cons.2 ⟨FV.one (FV.same (by assumption) rfl), fun _ hp => (List.not_mem_nil hp).elim⟩
    · exact fun _ hp => (List.not_mem_nil hp).elim
  · cases h
theorem Zj.sound (k : Nat) : Sound Tryz.prog DD 131 (Zj.D k) :=
  fun_sound (E := Zj.E k) (fn := Tryz.f131) (c := codeOf Tryz.f131) (Zj.ok k) mixed rfl Tryz.func131 (by kernel_rfl) (by kernel_rfl) (Zap (l := []) (by kernel_rfl) Zah) (Zj.D k) Zj.mk Zj.re (by kernel_rfl) (by kernel_rfl) Zj.fit Zj.fitR (Zj.eq k)
noncomputable def Zj.pk (k : Nat) : Pk Tryz.prog DD := ⟨131, Zj.D k, Zj.sound k, Zaq Tryz.func131 (by kernel_rfl) (by kernel_rfl)⟩
/-! ### pyx/limb.Of: function 114 -/
noncomputable def Zer.f (k : Nat) (a0 : Int) : Option (Int × Int) := some (a0, 0)
noncomputable def Zer.i : Lay U Int := (pcOne 0 (tAt (vInt .u64))).lay (fun _ => by kernel_rfl)
noncomputable def Zer.r : Lay U (Int × Int) := (pcOne 0 (tAt (vCd (Cd.pair (Cd.int .u64) (Cd.int .u64))))).lay (fun _ => by kernel_rfl)
noncomputable def Zer.D (k : Nat) : FDen U := fdn Zer.i Zer.r Tryz.f114.ntmps [] true (fun x => Zer.f k (x)) (fun _ _ => rfl)
noncomputable def Zer.E (k : Nat) : Env U := mkE Tryz.f114 [] [] [] [] n0 n0 [] false n00 nl0 []
theorem Zer.eq (k : Nat) (x : Int) : runF (Zer.E k) (codeOf Tryz.f114) (Zer.i.put x) Zer.r.un = Zer.f k (x) := by kernel_rfl
theorem Zer.sound (k : Nat) : Sound Tryz.prog DD 114 (Zer.D k) :=
  funP (E := Zer.E k) (fn := Tryz.f114) (c := codeOf Tryz.f114) (Zbq _ _ _ _ _ _ _ _ _ _ _ _) mixed rfl Tryz.func114 (by kernel_rfl) (by kernel_rfl) (Zap (l := []) (by kernel_rfl) Zah) Zer.i Zer.r [] true (fun x => Zer.f k (x)) (fun _ _ => rfl) (by kernel_rfl) (Zer.eq k)
noncomputable def Zer.pk (k : Nat) : Pk Tryz.prog DD := ⟨114, Zer.D k, Zer.sound k, Zaq Tryz.func114 (by kernel_rfl) (by kernel_rfl)⟩
/-! ### pyx/limb.halves: function 142 -/
noncomputable def Zdr.f (k : Nat) (a0 : (Int × Int)) : Option (Int × Int × Int × Int) := some (IntKind.wrap .u32 (a0.1), IntKind.wrap .u32 (Int.fdiv a0.1 (2 ^ 32)), IntKind.wrap .u32 (a0.2), IntKind.wrap .u32 (Int.fdiv a0.2 (2 ^ 32)))
noncomputable def Zdr.i : Lay U (Int × Int) := (pcOne 0 (tAt (vCd (Cd.pair (Cd.int .u64) (Cd.int .u64))))).lay (fun _ => by kernel_rfl)
noncomputable def Zdr.r : Lay U (Int × Int × Int × Int) := (pcOne 0 (tAt (vCd (Cd.pair (Cd.int .u32) (Cd.pair (Cd.int .u32) (Cd.pair (Cd.int .u32) (Cd.int .u32))))))).lay (fun _ => by kernel_rfl)
noncomputable def Zdr.D (k : Nat) : FDen U := fdn Zdr.i Zdr.r Tryz.f142.ntmps [] true (fun x => Zdr.f k (x)) (fun _ _ => rfl)
noncomputable def Zdr.E (k : Nat) : Env U := mkE Tryz.f142 [] [] [] [] n0 n0 [] false n00 nl0 []
theorem Zdr.eq (k : Nat) (x : (Int × Int)) : runF (Zdr.E k) (codeOf Tryz.f142) (Zdr.i.put x) Zdr.r.un = Zdr.f k (x) := by kernel_rfl
theorem Zdr.sound (k : Nat) : Sound Tryz.prog DD 142 (Zdr.D k) :=
  funP (E := Zdr.E k) (fn := Tryz.f142) (c := codeOf Tryz.f142) (Zbq _ _ _ _ _ _ _ _ _ _ _ _) mixed rfl Tryz.func142 (by kernel_rfl) (by kernel_rfl) (Zap (l := []) (by kernel_rfl) Zah) Zdr.i Zdr.r [] true (fun x => Zdr.f k (x)) (fun _ _ => rfl) (by kernel_rfl) (Zdr.eq k)
noncomputable def Zdr.pk (k : Nat) : Pk Tryz.prog DD := ⟨142, Zdr.D k, Zdr.sound k, Zaq Tryz.func142 (by kernel_rfl) (by kernel_rfl)⟩
/-! ### pyx/limb.Mul: function 97 -/
noncomputable def Zau.l8.once (k : Nat) (x : T3a) : Option (T3a ⊕ T3b) := match x with | (x14, x15, x16, x17, x18, x19, x20, x21, x22, x23, x24, x25, x26, x11, x12, x13) => cond (decide (x26 < 4)) (cond (inb x26 4) (cond (inb (IntKind.wrap .i64 (x14 + x26)) 8) (cond (Nat.blt (Int.toNat (IntKind.wrap .i64 (x14 + x26))) 8) (cond (inb (IntKind.wrap .i64 (x14 + x26)) 8) (cond (Nat.blt (Int.toNat (IntKind.wrap .i64 (x14 + x26))) 8) (some (.inl (x14, x15, Int.fdiv (IntKind.wrap .u64 ((IntKind.wrap .u64 ((IntKind.wrap .u64 ((IntKind.wrap .u64 (x15)) * (IntKind.wrap .u64 (List.getD [x22, x23, x24, x25] (Int.toNat x26) 0)))) + (List.getD x12 (Int.toNat (IntKind.wrap .i64 (x14 + x26))) 0))) + x16)) (2 ^ 32), x17, x18, x19, x20, x21, x22, x23, x24, x25, IntKind.wrap .i64 (x26 + 1), x11, List.set x12 (Int.toNat (IntKind.wrap .i64 (x14 + x26))) (IntKind.wrap .u64 (IntKind.wrap .u32 (IntKind.wrap .u64 ((IntKind.wrap .u64 ((IntKind.wrap .u64 ((IntKind.wrap .u64 (x15)) * (IntKind.wrap .u64 (List.getD [x22, x23, x24, x25] (Int.toNat x26) 0)))) + (List.getD x12 (Int.toNat (IntKind.wrap .i64 (x14 + x26))) 0))) + x16)))), x13))) none) none) none) none) none) (some (.inr (x14, x16, x17, x18, x19, x20, x21, x11, x12, x13)))
noncomputable def Zau.l4.once (k : Nat) (x : T3e) : Option (T3e ⊕ ((List Int × List Int))) := match x with | (x6, x7, x8, x9, x10, x3, x4, x5) => cond (decide (x10 < 4)) (cond (inb x10 4) ((iter (Zau.l8.once k) k (x10, List.getD [x6, x7, x8, x9] (Int.toNat x10) 0, 0, x6, x7, x8, x9, x10, List.getD x5 0 0, List.getD x5 1 0, List.getD x5 2 0, List.getD x5 3 0, 0, x3, x4, x5)).bind fun y37 => (cond (inb (IntKind.wrap .i64 (y37.1 + 4)) 8) (cond (Nat.blt (Int.toNat (IntKind.wrap .i64 (y37.1 + 4))) 8) (some (.inl (y37.2.2.1, y37.2.2.2.1, y37.2.2.2.2.1, y37.2.2.2.2.2.1, IntKind.wrap .i64 (y37.2.2.2.2.2.2.1 + 1), y37.2.2.2.2.2.2.2.1, List.set y37.2.2.2.2.2.2.2.2.1 (Int.toNat (IntKind.wrap .i64 (y37.1 + 4))) y37.2.1, y37.2.2.2.2.2.2.2.2.2))) none) none)) none) (some (.inr (x3, x4)))
noncomputable def Zau.l18.once (k : Nat) (x : (Int × List Int × List Int × List Int)) : Option ((Int × List Int × List Int × List Int) ⊕ ((List Int × List Int))) := match x with | (x44, x41, x42, x43) => cond (decide (x44 < 4)) (cond (inb (IntKind.wrap .i64 (2 * x44)) 8) (cond (Nat.blt (Int.toNat (IntKind.wrap .i64 (2 * x44))) 8) (cond (inb (IntKind.wrap .i64 ((IntKind.wrap .i64 (2 * x44)) + 1)) 8) (cond (Nat.blt (Int.toNat (IntKind.wrap .i64 ((IntKind.wrap .i64 (2 * x44)) + 1))) 8) (cond (inb x44 4) (cond (Nat.blt (Int.toNat x44) 4) (some (.inl (IntKind.wrap .i64 (x44 + 1), x41, x42, List.set x43 (Int.toNat x44) (bits .or .u64 (List.getD x42 (Int.toNat (IntKind.wrap .i64 (2 * x44))) 0) (IntKind.wrap .u64 ((List.getD x42 (Int.toNat (IntKind.wrap .i64 ((IntKind.wrap .i64 (2 * x44)) + 1))) 0) * 2 ^ 32)))))) none) none) none) none) none) none) (some (.inr (x41, x43)))
noncomputable def Zau.f (k : Nat) (a0 : (Int × Int)) (a1 : (Int × Int)) : Option (Int × Int × Int × Int) := (Zdr.f k (a0.1, a0.2)).bind fun t1 => ((Zdr.f k (a1.1, a1.2)).bind fun t2 => ((iter (Zau.l4.once k) k (List.getD [t1.1, t1.2.1, t1.2.2.1, t1.2.2.2] 0 0, List.getD [t1.1, t1.2.1, t1.2.2.1, t1.2.2.2] 1 0, List.getD [t1.1, t1.2.1, t1.2.2.1, t1.2.2.2] 2 0, List.getD [t1.1, t1.2.1, t1.2.2.1, t1.2.2.2] 3 0, 0, [0, 0, 0, 0], [0, 0, 0, 0, 0, 0, 0, 0], [t2.1, t2.2.1, t2.2.2.1, t2.2.2.2])).bind fun y40 => ((iter (Zau.l18.once k) k (0, y40.1, y40.2, [0, 0, 0, 0])).bind fun y47 => (some (List.getD [List.getD y47.2 0 0, List.getD y47.2 1 0, List.getD y47.2 2 0, List.getD y47.2 3 0] 0 0, List.getD [List.getD y47.2 0 0, List.getD y47.2 1 0, List.getD y47.2 2 0, List.getD y47.2 3 0] 1 0, List.getD [List.getD y47.2 0 0, List.getD y47.2 1 0, List.getD y47.2 2 0, List.getD y47.2 3 0] 2 0, List.getD [List.getD y47.2 0 0, List.getD y47.2 1 0, List.getD y47.2 2 0, List.getD y47.2 3 0] 3 0)))))
noncomputable def Zau.i : Lay U ((Int × Int) × (Int × Int)) := (pcAnd (pcOne 0 (tAt (vCd (Cd.pair (Cd.int .u64) (Cd.int .u64))))) (pcOne 1 (tAt (vCd (Cd.pair (Cd.int .u64) (Cd.int .u64)))))).lay (fun _ => by kernel_rfl)
noncomputable def Zau.r : Lay U (Int × Int × Int × Int) := (pcOne 0 (tAt (vCd (Cd.pair (Cd.int .u64) (Cd.pair (Cd.int .u64) (Cd.pair (Cd.int .u64) (Cd.int .u64))))))).lay (fun _ => by kernel_rfl)
noncomputable def Zau.D (k : Nat) : FDen U := fdn Zau.i Zau.r Tryz.f97.ntmps [] true (fun x => Zau.f k (x.1) (x.2)) (fun _ _ => rfl)
noncomputable def Zau.l8.i : Lay U T3a := (lay [(4, sPtr 4 0), (5, sPtr 5 0), (7, sPtr 7 0), (8, sAt (vInt .i64)), (9, sAt (vInt .u32)), (10, sAt (vInt .u64)), (20, sAgg [(vInt .u32), (vInt .u32), (vInt .u32), (vInt .u32)]), (21, sAt (vInt .i64)), (25, sAgg [(vInt .u32), (vInt .u32), (vInt .u32), (vInt .u32)]), (26, sAt (vInt .i64))] [bArr DD 4 4 C.u64, bArr DD 5 8 C.u64, bArr DD 7 4 C.u32] (fun _ => by kernel_rfl))
noncomputable def Zau.l8.o : OLay U T3b := oExit 2 (lay [(4, sPtr 4 0), (5, sPtr 5 0), (7, sPtr 7 0), (8, sAt (vInt .i64)), (10, sAt (vInt .u64)), (20, sAgg [(vInt .u32), (vInt .u32), (vInt .u32), (vInt .u32)]), (21, sAt (vInt .i64))] [bArr DD 4 4 C.u64, bArr DD 5 8 C.u64, bArr DD 7 4 C.u32] (fun _ => by kernel_rfl))
noncomputable def Zau.l4.i : Lay U T3e := (lay [(4, sPtr 4 0), (5, sPtr 5 0), (7, sPtr 7 0), (20, sAgg [(vInt .u32), (vInt .u32), (vInt .u32), (vInt .u32)]), (21, sAt (vInt .i64))] [bArr DD 4 4 C.u64, bArr DD 5 8 C.u64, bArr DD 7 4 C.u32] (fun _ => by kernel_rfl))
noncomputable def Zau.l4.o : OLay U ((List Int × List Int)) := oExit 0 (lay [(4, sPtr 4 0), (5, sPtr 5 0)] [bArr DD 4 4 C.u64, bArr DD 5 8 C.u64] (fun _ => by kernel_rfl))
noncomputable def Zau.l18.i : Lay U (Int × List Int × List Int × List Int) := (lay [(4, sPtr 4 0), (5, sPtr 5 0), (14, sPtr 14 0), (58, sAt (vInt .i64))] [bArr DD 4 4 C.u64, bArr DD 5 8 C.u64, bArr DD 14 4 C.u64] (fun _ => by kernel_rfl))
noncomputable def Zau.l18.o : OLay U ((List Int × List Int)) := oExit 4 (lay [(4, sPtr 4 0), (14, sPtr 14 0)] [bArr DD 4 4 C.u64, bArr DD 14 4 C.u64] (fun _ => by kernel_rfl))
noncomputable def Zau.E (k : Nat) : Env U := mkE Tryz.f97 [Zdr.pk k] [] [(8, ldn Zau.l8.i Zau.l8.o (iter (Zau.l8.once k) k)), (4, ldn Zau.l4.i Zau.l4.o (iter (Zau.l4.once k) k)), (18, ldn Zau.l18.i Zau.l18.o (iter (Zau.l18.once k) k))] [(112, (4, C.u64)), (185, (8, C.u64)), (187, (4, C.u32))] n0 n0 [] false n00 nl0 []
theorem Zau.l8.eq (k : Nat) (x : T3a) : evC (Zau.E k) (loopAt Tryz.f97 8) (Zau.l8.i.put x) (headK Zau.l8.i.un Zau.l8.o.re) = Zau.l8.once k x := by kernel_rfl
theorem Zau.l8.sound (k : Nat) : LSound (Zau.E k) Tryz.f97.ntmps Tryz.f97 (loopAt Tryz.f97 8) (ldn Zau.l8.i Zau.l8.o (iter (Zau.l8.once k) k)) :=
  loopP (Zbq _ _ _ _ _ _ _ _ _ _ _ _) mixed rfl (by kernel_rfl) (Zap (l := []) (by kernel_rfl) Zah) Zau.l8.i Zau.l8.o (Zau.l8.once k) k (Zau.l8.eq k)
theorem Zau.l4.eq (k : Nat) (x : T3e) : evC (Zau.E k) (loopAt Tryz.f97 4) (Zau.l4.i.put x) (headK Zau.l4.i.un Zau.l4.o.re) = Zau.l4.once k x := by kernel_rfl
theorem Zau.l4.sound (k : Nat) : LSound (Zau.E k) Tryz.f97.ntmps Tryz.f97 (loopAt Tryz.f97 4) (ldn Zau.l4.i Zau.l4.o (iter (Zau.l4.once k) k)) :=
  loopP (Zbq _ _ _ _ _ _ _ _ _ _ _ _) mixed rfl (by kernel_rfl) (Zap (l := [loopAt Tryz.f97 8]) (by kernel_rfl) (Zdj (key := 8) (by kernel_rfl) rfl (Zau.l8.sound k) Zah)) Zau.l4.i Zau.l4.o (Zau.l4.once k) k (Zau.l4.eq k)
theorem Zau.l18.eq (k : Nat) (x : (Int × List Int × List Int × List Int)) : evC (Zau.E k) (loopAt Tryz.f97 18) (Zau.l18.i.put x) (headK Zau.l18.i.un Zau.l18.o.re) = Zau.l18.once k x := by kernel_rfl
theorem Zau.l18.sound (k : Nat) : LSound (Zau.E k) Tryz.f97.ntmps Tryz.f97 (loopAt Tryz.f97 18) (ldn Zau.l18.i Zau.l18.o (iter (Zau.l18.once k) k)) :=
  loopP (Zbq _ _ _ _ _ _ _ _ _ _ _ _) mixed rfl (by kernel_rfl) (Zap (l := []) (by kernel_rfl) Zah) Zau.l18.i Zau.l18.o (Zau.l18.once k) k (Zau.l18.eq k)
theorem Zau.eq (k : Nat) (x : ((Int × Int) × (Int × Int))) : runF (Zau.E k) (codeOf Tryz.f97) (Zau.i.put x) Zau.r.un = Zau.f k (x.1) (x.2) := by kernel_rfl
theorem Zau.sound (k : Nat) : Sound Tryz.prog DD 97 (Zau.D k) :=
  funP (E := Zau.E k) (fn := Tryz.f97) (c := codeOf Tryz.f97) (Zbq _ _ _ _ _ _ _ _ _ _ _ _) mixed rfl Tryz.func97 (by kernel_rfl) (by kernel_rfl) (Zap (l := [loopAt Tryz.f97 4, loopAt Tryz.f97 18]) (by kernel_rfl) (Zdj (key := 4) (by kernel_rfl) rfl (Zau.l4.sound k) (Zdj (key := 18) (by kernel_rfl) rfl (Zau.l18.sound k) Zah))) Zau.i Zau.r [] true (fun x => Zau.f k (x.1) (x.2)) (fun _ _ => rfl) (by kernel_rfl) (Zau.eq k)
noncomputable def Zau.pk (k : Nat) : Pk Tryz.prog DD := ⟨97, Zau.D k, Zau.sound k, Zaq Tryz.func97 (by kernel_rfl) (by kernel_rfl)⟩
/-! ### pyx/limb.Short: function 117 -/
noncomputable def Zdq.f (k : Nat) (a0 : (Int × Int × Int × Int)) : Option ((Int × Int) × Bool) := ((cond (a0.2.2.1 != 0) (some (true, a0.1, a0.2.1, a0.2.2.1, a0.2.2.2, 0, 0)) (some (a0.2.2.2 != 0, a0.1, a0.2.1, a0.2.2.1, a0.2.2.2, 0, 0))) : Option (Bool × Int × Int × Int × Int × Int × Int)).bind fun y8 => (cond (y8.1) (some ((0, 0), false)) (some ((y8.2.1, y8.2.2.1), true)))
noncomputable def Zdq.i : Lay U (Int × Int × Int × Int) := (pcOne 0 (tAt (vCd (Cd.pair (Cd.int .u64) (Cd.pair (Cd.int .u64) (Cd.pair (Cd.int .u64) (Cd.int .u64))))))).lay (fun _ => by kernel_rfl)
noncomputable def Zdq.r : Lay U ((Int × Int) × Bool) := (pcTup 0 (tqCons (tAt (vCd (Cd.pair (Cd.int .u64) (Cd.int .u64)))) (tqOne (tAt vBool)))).lay (fun _ => by kernel_rfl)
noncomputable def Zdq.D (k : Nat) : FDen U := fdn Zdq.i Zdq.r Tryz.f117.ntmps [] true (fun x => Zdq.f k (x)) (fun _ _ => rfl)
noncomputable def Zdq.j1000 : Jk U := ⟨(Bool × Int × Int × Int × Int × Int × Int), oNorm (lay [(1, sPtr 1 0), (2, sPtr 2 0), (11, sAt vBool)] [bLit 1 [(vInt .u64), (vInt .u64), (vInt .u64), (vInt .u64)], bLit 2 [(vInt .u64), (vInt .u64)]] (fun _ => by kernel_rfl))⟩
noncomputable def Zdq.E (k : Nat) : Env U := mkE Tryz.f117 [] [(1000, Zdq.j1000)] [] [] n0 n0 [] false n00 nl0 []
theorem Zdq.eq (k : Nat) (x : (Int × Int × Int × Int)) : runF (Zdq.E k) (codeOf Tryz.f117) (Zdq.i.put x) Zdq.r.un = Zdq.f k (x) := by kernel_rfl
theorem Zdq.sound (k : Nat) : Sound Tryz.prog DD 117 (Zdq.D k) :=
  funP (E := Zdq.E k) (fn := Tryz.f117) (c := codeOf Tryz.f117) (Zbq _ _ _ _ _ _ _ _ _ _ _ _) mixed rfl Tryz.func117 (by kernel_rfl) (by kernel_rfl) (Zap (l := []) (by kernel_rfl) Zah) Zdq.i Zdq.r [] true (fun x => Zdq.f k (x)) (fun _ _ => rfl) (by kernel_rfl) (Zdq.eq k)
noncomputable def Zdq.pk (k : Nat) : Pk Tryz.prog DD := ⟨117, Zdq.D k, Zdq.sound k, Zaq Tryz.func117 (by kernel_rfl) (by kernel_rfl)⟩
/-! ### pyx/limb.Ten: function 145 -/
noncomputable def Zdd.l5.once (k : Nat) (x : (Int × Int × Int × Int × Int × Int)) : Option ((Int × Int × Int × Int × Int × Int) ⊕ ((Int × Int × Int × Int))) := match x with | (x11, x12, x7, x8, x9, x10) => cond (decide (x12 < x11)) ((Zer.f k 10).bind fun t13 => ((Zau.f k (x9, x10) (t13.1, t13.2)).bind fun t14 => ((Zdq.f k (t14.1, t14.2.1, t14.2.2.1, t14.2.2.2)).bind fun t15 => (some (.inl (x11, IntKind.wrap .i64 (x12 + 1), x7, x8, t15.1.1, t15.1.2)))))) (some (.inr (x7, x8, x9, x10)))
noncomputable def Zdd.f (k : Nat) (a0 : Int) : Option ((Int × Int) × Bool) := ((cond (decide (a0 < 0)) (some (a0, true, 0, 0)) (some (a0, decide (a0 > 38), 0, 0))) : Option (Int × Bool × Int × Int)).bind fun y5 => (cond (y5.2.1) (some ((0, 0), false)) ((Zer.f k 1).bind fun t6 => ((iter (Zdd.l5.once k) k (y5.1, 0, y5.2.2.1, y5.2.2.2, t6.1, t6.2)).bind fun y20 => (some ((y20.2.2.1, y20.2.2.2), true)))))
noncomputable def Zdd.i : Lay U Int := (pcOne 0 (tAt (vInt .i64))).lay (fun _ => by kernel_rfl)
noncomputable def Zdd.r : Lay U ((Int × Int) × Bool) := (pcTup 0 (tqCons (tAt (vCd (Cd.pair (Cd.int .u64) (Cd.int .u64)))) (tqOne (tAt vBool)))).lay (fun _ => by kernel_rfl)
noncomputable def Zdd.D (k : Nat) : FDen U := fdn Zdd.i Zdd.r Tryz.f145.ntmps [] true (fun x => Zdd.f k (x)) (fun _ _ => rfl)
noncomputable def Zdd.l5.i : Lay U (Int × Int × Int × Int × Int × Int) := (lay [(2, sPtr 2 0), (4, sPtr 4 0), (13, sAt (vInt .i64)), (14, sAt (vInt .i64))] [bLit 2 [(vInt .u64), (vInt .u64)], bLit 4 [(vInt .u64), (vInt .u64)]] (fun _ => by kernel_rfl))
noncomputable def Zdd.l5.o : OLay U ((Int × Int × Int × Int)) := oExit 0 (lay [(2, sPtr 2 0), (4, sPtr 4 0)] [bLit 2 [(vInt .u64), (vInt .u64)], bLit 4 [(vInt .u64), (vInt .u64)]] (fun _ => by kernel_rfl))
noncomputable def Zdd.j1000 : Jk U := ⟨(Int × Bool × Int × Int), oNorm (lay [(2, sPtr 2 0), (0, sAt (vInt .i64)), (10, sAt vBool)] [bLit 2 [(vInt .u64), (vInt .u64)]] (fun _ => by kernel_rfl))⟩
noncomputable def Zdd.E (k : Nat) : Env U := mkE Tryz.f145 [Zer.pk k, Zau.pk k, Zdq.pk k] [(1000, Zdd.j1000)] [(5, ldn Zdd.l5.i Zdd.l5.o (iter (Zdd.l5.once k) k))] [] n0 n0 [] false n00 nl0 []
theorem Zdd.l5.eq (k : Nat) (x : (Int × Int × Int × Int × Int × Int)) : evC (Zdd.E k) (loopAt Tryz.f145 5) (Zdd.l5.i.put x) (headK Zdd.l5.i.un Zdd.l5.o.re) = Zdd.l5.once k x := by kernel_rfl
theorem Zdd.l5.sound (k : Nat) : LSound (Zdd.E k) Tryz.f145.ntmps Tryz.f145 (loopAt Tryz.f145 5) (ldn Zdd.l5.i Zdd.l5.o (iter (Zdd.l5.once k) k)) :=
  loopP (Zbq _ _ _ _ _ _ _ _ _ _ _ _) mixed rfl (by kernel_rfl) (Zap (l := []) (by kernel_rfl) Zah) Zdd.l5.i Zdd.l5.o (Zdd.l5.once k) k (Zdd.l5.eq k)
theorem Zdd.eq (k : Nat) (x : Int) : runF (Zdd.E k) (codeOf Tryz.f145) (Zdd.i.put x) Zdd.r.un = Zdd.f k (x) := by kernel_rfl
theorem Zdd.sound (k : Nat) : Sound Tryz.prog DD 145 (Zdd.D k) :=
  funP (E := Zdd.E k) (fn := Tryz.f145) (c := codeOf Tryz.f145) (Zbq _ _ _ _ _ _ _ _ _ _ _ _) mixed rfl Tryz.func145 (by kernel_rfl) (by kernel_rfl) (Zap (l := [loopAt Tryz.f145 5]) (by kernel_rfl) (Zdj (key := 5) (by kernel_rfl) rfl (Zdd.l5.sound k) Zah)) Zdd.i Zdd.r [] true (fun x => Zdd.f k (x)) (fun _ _ => rfl) (by kernel_rfl) (Zdd.eq k)
noncomputable def Zdd.pk (k : Nat) : Pk Tryz.prog DD := ⟨145, Zdd.D k, Zdd.sound k, Zaq Tryz.func145 (by kernel_rfl) (by kernel_rfl)⟩
end
end Go.Proofs.YtbchcjlllddlpaaGreat
