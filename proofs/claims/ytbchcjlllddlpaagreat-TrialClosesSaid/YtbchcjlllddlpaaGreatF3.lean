import Derived.Test.YtbchcjlllddlpaaGreatF2
/-! Functions, told; their equations with the evaluator; that they are sound. Written by gen.py. -/
namespace Go.Proofs.YtbchcjlllddlpaaGreat
open Go Go.Ev
noncomputable section
set_option linter.unusedVariables false
set_option linter.unusedSimpArgs false
set_option maxRecDepth 100000
abbrev T3e := (Int × Int × Int × Int × Int × List Int × List Int × List Int)
abbrev T3d := (List Zz × Int × Int × List Zc × Zl)
abbrev T3c := (List Zz × Int × Bool × Int × List Zc × Zl)
abbrev T3b := ((Int × Int × Int × Int × Int × Int × Int × List Int × List Int × List Int))
abbrev T3a := (Int × Int × Int × Int × Int × Int × Int × Int × Int × Int × Int × Int × Int × List Int × List Int × List Int)
/-! ### pyx/pyxhand.Book: function 81 -/
noncomputable def Zau.l3.once (k : Nat) (x : T3d) : Option (T3d ⊕ ((Int × List Zc × Zl))) := match x with | (x2, x30, x3, x4, x29) => ((cond (decide (x30 < (List.length x2 : Int))) (some (x2, x30, decide (x30 < 14), x3, x4, (⟨pack 12 false x29.Zk, pack 12 0 x29.Zi⟩ : Zl))) (some (x2, x30, false, x3, x4, (⟨pack 12 false x29.Zk, pack 12 0 x29.Zi⟩ : Zl)))) : Option T3c).bind fun y61 => (cond (y61.2.2.1) (((cond (inb y61.2.1 (List.length y61.1)) ((Zaq.f k ((List.getD y61.1 (Int.toNat y61.2.1) Zz.zero).Zey) 8).bind fun t62 => (cond (t62 == 0) ((Zaq.f k ((List.getD y61.1 (Int.toNat y61.2.1) Zz.zero).f_B) 3).bind fun t63 => ((Zbj.f k (⟨y61.2.2.2.1, y61.2.2.2.2.1, (⟨pack 12 false y61.2.2.2.2.2.Zk, pack 12 0 y61.2.2.2.2.2.Zi⟩ : Zl)⟩ : Zac) t63).bind fun t64 => (some (y61.1, y61.2.1, t64.2.Zn, t64.2.f_L, (⟨pack 12 false t64.2.f_T.Zk, pack 12 0 t64.2.f_T.Zi⟩ : Zl))))) (cond (t62 == 1) ((Zaq.f k ((List.getD y61.1 (Int.toNat y61.2.1) Zz.zero).f_N) 5).bind fun t94 => ((Zaq.f k ((List.getD y61.1 (Int.toNat y61.2.1) Zz.zero).f_B) 3).bind fun t95 => ((Zq.f k (⟨y61.2.2.2.1, y61.2.2.2.2.1, (⟨pack 12 false y61.2.2.2.2.2.Zk, pack 12 0 y61.2.2.2.2.2.Zi⟩ : Zl)⟩ : Zac) t94 t95).bind fun t96 => (some (y61.1, y61.2.1, t96.2.2.Zn, t96.2.2.f_L, (⟨pack 12 false t96.2.2.f_T.Zk, pack 12 0 t96.2.2.f_T.Zi⟩ : Zl)))))) (cond (t62 == 2) ((Zaq.f k ((List.getD y61.1 (Int.toNat y61.2.1) Zz.zero).f_B) 3).bind fun t97 => ((Zbe.f k (⟨y61.2.2.2.1, y61.2.2.2.2.1, (⟨pack 12 false y61.2.2.2.2.2.Zk, pack 12 0 y61.2.2.2.2.2.Zi⟩ : Zl)⟩ : Zac) t97).bind fun t98 => (some (y61.1, y61.2.1, t98.2.Zn, t98.2.f_L, (⟨pack 12 false t98.2.f_T.Zk, pack 12 0 t98.2.f_T.Zi⟩ : Zl))))) ((Zaq.f k ((List.getD y61.1 (Int.toNat y61.2.1) Zz.zero).f_B) 3).bind fun t99 => ((Zr.f k ((List.getD y61.1 (Int.toNat y61.2.1) Zz.zero).f_L) y61.2.2.2.1 0 4).bind fun t100 => ((Zbo.f k (⟨y61.2.2.2.1, y61.2.2.2.2.1, (⟨pack 12 false y61.2.2.2.2.2.Zk, pack 12 0 y61.2.2.2.2.2.Zi⟩ : Zl)⟩ : Zac) t99 t100).bind fun t101 => (some (y61.1, y61.2.1, t101.2.2.Zn, t101.2.2.f_L, (⟨pack 12 false t101.2.2.f_T.Zk, pack 12 0 t101.2.2.f_T.Zi⟩ : Zl)))))))))) none) : Option T3d).bind fun y102 => (some (.inl (y102.1, IntKind.wrap .i64 (y102.2.1 + 1), y102.2.2.1, y102.2.2.2.1, (⟨pack 12 false y102.2.2.2.2.Zk, pack 12 0 y102.2.2.2.2.Zi⟩ : Zl))))) (some (.inr (y61.2.2.2.1, y61.2.2.2.2.1, (⟨pack 12 false y61.2.2.2.2.2.Zk, pack 12 0 y61.2.2.2.2.2.Zi⟩ : Zl)))))
noncomputable def Zau.f (k : Nat) (a0 : List Zz) (a1 : Int) : Option Zac := (Zbz.f k a1).bind fun t1 => ((iter (Zau.l3.once k) k (a0, 0, t1.Zn, t1.f_L, (⟨pack 12 false t1.f_T.Zk, pack 12 0 t1.f_T.Zi⟩ : Zl))).bind fun y130 => (some (⟨y130.1, y130.2.1, (⟨pack 12 false y130.2.2.Zk, pack 12 0 y130.2.2.Zi⟩ : Zl)⟩ : Zac)))
noncomputable def Zau.i : Lay U (List Zz × Int) := (pcAnd (pcOne 0 (tAt (vRow DD C.Zz))) (pcOne 1 (tAt (vInt .i64)))).lay (fun _ => by kernel_rfl)
noncomputable def Zau.r : Lay U Zac := (pcOne 0 (Zde 100000000000006 6000000000000)).lay (fun _ => by kernel_rfl)
noncomputable def Zau.D (k : Nat) : FDen U := fdn Zau.i Zau.r Tryz.f81.ntmps [] false (fun x => Zau.f k (x.1) (x.2)) (fun h => by cases h)
noncomputable def Zau.l3.i : Lay U T3d := (lay [(5, sPtr 100000000000006 0), (0, sAt (vRow DD C.Zz)), (6, sAt (vInt .i64))] [bLitT 100000000000006 [(vInt .i64), (vTip DD 10000002000300601 C.Zc 3)] Zbw] (fun _ => by kernel_rfl))
noncomputable def Zau.l3.o : OLay U ((Int × List Zc × Zl)) := oExit 0 (lay [(5, sPtr 100000000000006 0)] [bLitT 100000000000006 [(vInt .i64), (vTip DD 10000002000300601 C.Zc 3)] Zbw] (fun _ => by kernel_rfl))
noncomputable def Zau.j3000 : Jk U := ⟨T3c, oNorm (lay [(5, sPtr 100000000000006 0), (0, sAt (vRow DD C.Zz)), (6, sAt (vInt .i64)), (17, sAt vBool)] [bLitT 100000000000006 [(vInt .i64), (vTip DD 10000102300000601 C.Zc 3)] Zbw] (fun _ => by kernel_rfl))⟩
noncomputable def Zau.j5001 : Jk U := ⟨T3d, oNorm (lay [(5, sPtr 100000000000006 0), (0, sAt (vRow DD C.Zz)), (6, sAt (vInt .i64))] [bLitT 100000000000006 [(vInt .i64), (vTip DD 10000102500100601 C.Zc 3)] Zbw] (fun _ => by kernel_rfl))⟩
noncomputable def Zau.E (k : Nat) : Env U := mkE Tryz.f81 [Zbz.pk k, Zaq.pk k, Zbj.pk k, Zq.pk k, Zbe.pk k, Zr.pk k, Zbo.pk k] [(3000, Zau.j3000), (5001, Zau.j5001)] [(3, ldn Zau.l3.i Zau.l3.o (iter (Zau.l3.once k) k))] [] n0 n0 [] false n00 nl0 []
theorem Zau.l3.eq (k : Nat) (x : T3d) : evC (Zau.E k) (loopAt Tryz.f81 3) (Zau.l3.i.put x) (headK Zau.l3.i.un Zau.l3.o.re) = Zau.l3.once k x := by kernel_rfl
theorem Zau.l3.sound (k : Nat) : LSound (Zau.E k) Tryz.f81.ntmps Tryz.f81 (loopAt Tryz.f81 3) (ldn Zau.l3.i Zau.l3.o (iter (Zau.l3.once k) k)) :=
  loopP (Zbq _ _ _ _ _ _ _ _ _ _ _ _) mixed rfl (by kernel_rfl) (Zan (l := []) (by kernel_rfl) Zaa) Zau.l3.i Zau.l3.o (Zau.l3.once k) k (Zau.l3.eq k)
theorem Zau.eq (k : Nat) (x : (List Zz × Int)) : runF (Zau.E k) (codeOf Tryz.f81) (Zau.i.put x) Zau.r.un = Zau.f k (x.1) (x.2) := by kernel_rfl
theorem Zau.sound (k : Nat) : Sound Tryz.prog DD 81 (Zau.D k) :=
  funP (E := Zau.E k) (fn := Tryz.f81) (c := codeOf Tryz.f81) (Zbq _ _ _ _ _ _ _ _ _ _ _ _) mixed rfl Tryz.func81 (by kernel_rfl) (by kernel_rfl) (Zan (l := [loopAt Tryz.f81 3]) (by kernel_rfl) (Zdj (key := 3) (by kernel_rfl) rfl (Zau.l3.sound k) Zaa)) Zau.i Zau.r [] false (fun x => Zau.f k (x.1) (x.2)) (fun h => by cases h) (by kernel_rfl) (Zau.eq k)
noncomputable def Zau.pk (k : Nat) : Pk Tryz.prog DD := ⟨81, Zau.D k, Zau.sound k, Zal Tryz.func81 (by kernel_rfl) (by kernel_rfl)⟩
/-! ### pyx/period.is: function 113 -/
noncomputable def Zdt.f (k : Nat) (a0 : Int) : Option Bool := cond (decide (a0 ≥ 0)) (some (decide (a0 < 12))) (some false)
noncomputable def Zdt.i : Lay U Int := (pcOne 0 (tAt (vInt .i64))).lay (fun _ => by kernel_rfl)
noncomputable def Zdt.r : Lay U Bool := (pcOne 0 (tAt vBool)).lay (fun _ => by kernel_rfl)
noncomputable def Zdt.D (k : Nat) : FDen U := fdn Zdt.i Zdt.r Tryz.f113.ntmps [] true (fun x => Zdt.f k (x)) (fun _ _ => rfl)
noncomputable def Zdt.E (k : Nat) : Env U := mkE Tryz.f113 [] [] [] [] n0 n0 [] false n00 nl0 []
theorem Zdt.eq (k : Nat) (x : Int) : runF (Zdt.E k) (codeOf Tryz.f113) (Zdt.i.put x) Zdt.r.un = Zdt.f k (x) := by kernel_rfl
theorem Zdt.sound (k : Nat) : Sound Tryz.prog DD 113 (Zdt.D k) :=
  funP (E := Zdt.E k) (fn := Tryz.f113) (c := codeOf Tryz.f113) (Zbq _ _ _ _ _ _ _ _ _ _ _ _) mixed rfl Tryz.func113 (by kernel_rfl) (by kernel_rfl) (Zan (l := []) (by kernel_rfl) Zaa) Zdt.i Zdt.r [] true (fun x => Zdt.f k (x)) (fun _ _ => rfl) (by kernel_rfl) (Zdt.eq k)
noncomputable def Zdt.pk (k : Nat) : Pk Tryz.prog DD := ⟨113, Zdt.D k, Zdt.sound k, Zal Tryz.func113 (by kernel_rfl) (by kernel_rfl)⟩
/-! ### pyx/period.IsOpen: function 59 -/
noncomputable def Zcb.f (k : Nat) (a0 : Zd) (a1 : Int) : Option Bool := (Zdt.f k a1).bind fun t1 => (cond (t1) (cond (inb a1 12) (cond (Nat.blt (Int.toNat a1) 12) (some (!(List.getD (pack 12 false a0.Zk) (Int.toNat a1) false))) none) none) (some false))
noncomputable def Zcb.i : Lay U (Zd × Int) := (pcAnd (pcOne 0 (tAt (vCd Zae))) (pcOne 1 (tAt (vInt .i64)))).lay (fun _ => by kernel_rfl)
noncomputable def Zcb.r : Lay U Bool := (pcOne 0 (tAt vBool)).lay (fun _ => by kernel_rfl)
noncomputable def Zcb.D (k : Nat) : FDen U := fdn Zcb.i Zcb.r Tryz.f59.ntmps [] true (fun x => Zcb.f k (x.1) (x.2)) (fun _ _ => rfl)
noncomputable def Zcb.E (k : Nat) : Env U := mkE Tryz.f59 [Zdt.pk k] [] [] [] (fun t => Nat.beq t 68) n0 [] false n00 nl0 []
theorem Zcb.eq (k : Nat) (x : (Zd × Int)) : runF (Zcb.E k) (codeOf Tryz.f59) (Zcb.i.put x) Zcb.r.un = Zcb.f k (x.1) (x.2) := by kernel_rfl
theorem Zcb.sound (k : Nat) : Sound Tryz.prog DD 59 (Zcb.D k) :=
  funP (E := Zcb.E k) (fn := Tryz.f59) (c := codeOf Tryz.f59) (Zbq _ _ _ _ _ _ _ _ _ _ _ _) mixed rfl Tryz.func59 (by kernel_rfl) (by kernel_rfl) (Zan (l := []) (by kernel_rfl) Zaa) Zcb.i Zcb.r [] true (fun x => Zcb.f k (x.1) (x.2)) (fun _ _ => rfl) (by kernel_rfl) (Zcb.eq k)
noncomputable def Zcb.pk (k : Nat) : Pk Tryz.prog DD := ⟨59, Zcb.D k, Zcb.sound k, Zal Tryz.func59 (by kernel_rfl) (by kernel_rfl)⟩
/-! ### pyx/period.Close: function 75 -/
noncomputable def Zcv.f (k : Nat) (a0 : Zd) (a1 : Int) : Option (Zd × Int) := (((Zcb.f k (⟨pack 12 false a0.Zk, pack 12 0 a0.Zi⟩ : Zd) a1).bind fun t1 => (cond (!t1) (some (a1, true, (⟨pack 12 false a0.Zk, pack 12 0 a0.Zi⟩ : Zd), (⟨[false, false, false, false, false, false, false, false, false, false, false, false], [0, 0, 0, 0, 0, 0, 0, 0, 0, 0, 0, 0]⟩ : Zd))) (cond (decide (a1 > 0)) (cond (inb (IntKind.wrap .i64 (a1 - 1)) 12) (cond (Nat.blt (Int.toNat (IntKind.wrap .i64 (a1 - 1))) 12) (some (a1, !(List.getD (pack 12 false a0.Zk) (Int.toNat (IntKind.wrap .i64 (a1 - 1))) false), (⟨pack 12 false a0.Zk, pack 12 0 a0.Zi⟩ : Zd), (⟨[false, false, false, false, false, false, false, false, false, false, false, false], [0, 0, 0, 0, 0, 0, 0, 0, 0, 0, 0, 0]⟩ : Zd))) none) none) (some (a1, false, (⟨pack 12 false a0.Zk, pack 12 0 a0.Zi⟩ : Zd), (⟨[false, false, false, false, false, false, false, false, false, false, false, false], [0, 0, 0, 0, 0, 0, 0, 0, 0, 0, 0, 0]⟩ : Zd)))))) : Option (Int × Bool × Zd × Zd)).bind fun y6 => (cond (y6.2.1) (some ((⟨[false, false, false, false, false, false, false, false, false, false, false, false], [0, 0, 0, 0, 0, 0, 0, 0, 0, 0, 0, 0]⟩ : Zd), 8)) (cond (inb y6.1 12) (cond (Nat.blt (Int.toNat y6.1) 12) (cond (inb y6.1 12) (cond (Nat.blt (Int.toNat y6.1) 12) (cond (inb y6.1 12) (cond (Nat.blt (Int.toNat y6.1) 12) (some ((⟨putAll (Int.toNat y6.1) true 0 (pack 12 false y6.2.2.1.Zk), putAll (Int.toNat y6.1) (IntKind.wrap .i64 ((List.getD (pack 12 0 y6.2.2.1.Zi) (Int.toNat y6.1) 0) + 1)) 0 (pack 12 0 y6.2.2.1.Zi)⟩ : Zd), 0)) none) none) none) none) none) none))
noncomputable def Zcv.i : Lay U (Zd × Int) := (pcAnd (pcOne 0 (tAt (vCd Zae))) (pcOne 1 (tAt (vInt .i64)))).lay (fun _ => by kernel_rfl)
noncomputable def Zcv.r : Lay U (Zd × Int) := (pcTup 0 (tqCons (tAt (vCd Zae)) (tqOne (tAt (vInt .i64))))).lay (fun _ => by kernel_rfl)
noncomputable def Zcv.D (k : Nat) : FDen U := fdn Zcv.i Zcv.r Tryz.f75.ntmps [] true (fun x => Zcv.f k (x.1) (x.2)) (fun _ _ => rfl)
noncomputable def Zcv.j1000 : Jk U := ⟨(Int × Bool × Zd × Zd), oNorm (lay [(2, sPtr 2 0), (4, sPtr 4 0), (1, sAt (vInt .i64)), (21, sAt vBool)] [bCd 2 Zae, bCd 4 Zae] (fun _ => by kernel_rfl))⟩
noncomputable def Zcv.E (k : Nat) : Env U := mkE Tryz.f75 [Zcb.pk k] [(1000, Zcv.j1000)] [] [] (fun t => Nat.beq t 68 || Nat.beq t 69) n0 [] false n00 nl0 []
theorem Zcv.eq (k : Nat) (x : (Zd × Int)) : runF (Zcv.E k) (codeOf Tryz.f75) (Zcv.i.put x) Zcv.r.un = Zcv.f k (x.1) (x.2) := by kernel_rfl
theorem Zcv.sound (k : Nat) : Sound Tryz.prog DD 75 (Zcv.D k) :=
  funP (E := Zcv.E k) (fn := Tryz.f75) (c := codeOf Tryz.f75) (Zbq _ _ _ _ _ _ _ _ _ _ _ _) mixed rfl Tryz.func75 (by kernel_rfl) (by kernel_rfl) (Zan (l := []) (by kernel_rfl) Zaa) Zcv.i Zcv.r [] true (fun x => Zcv.f k (x.1) (x.2)) (fun _ _ => rfl) (by kernel_rfl) (Zcv.eq k)
noncomputable def Zcv.pk (k : Nat) : Pk Tryz.prog DD := ⟨75, Zcv.D k, Zcv.sound k, Zal Tryz.func75 (by kernel_rfl) (by kernel_rfl)⟩
/-! ### (*pyx/ledger.Book).turn: function 74 -/
noncomputable def Zw.f (k : Nat) (a0 : Ze) (a1 : Unit) (a2 : Int) : Option (Int × Ze) := (Zcv.f k (⟨pack 12 false a0.f_t.Zk, pack 12 0 a0.f_t.Zi⟩ : Zd) a2).bind fun t1 => (cond (t1.2 == 0) (some (t1.2, (⟨a0.Zbd, a0.f_l, (⟨pack 12 false t1.1.Zk, pack 12 0 t1.1.Zi⟩ : Zd)⟩ : Ze))) (some (t1.2, (⟨a0.Zbd, a0.f_l, (⟨pack 12 false a0.f_t.Zk, pack 12 0 a0.f_t.Zi⟩ : Zd)⟩ : Ze))))
noncomputable def Zw.un (s : St U) : Option (Ze × Unit × Int) := match s.get 0, lk s.o 7000000000000, s.get 1, s.get 2, s.get 1000000000000000 with | .ptr 7000000000000 0, some (.lit (.flat (.int .i64 x1) :: x5 :: x3)), .fn 75 [], .flat (.int .i64 x6), .ptr 7000000000000 0 => (Zfg s.o 3 x5).bind fun ex2 => ((Zae.full x3).bind fun x4 => (some ((⟨x1, ex2.2, x4⟩ : Ze), (), x6))) | _, _, _, _, _ => none
noncomputable def Zw.mk (x : (Ze × Unit × Int)) : St U := ⟨[(0, .ptr 7000000000000 0), (1, .fn 75 []), (2, .flat (.int .i64 x.2.2)), (1000000000000000, .ptr 7000000000000 0)], [(7000000000000, .lit ((.flat (.int .i64 x.1.Zbd)) :: (.tip 7000000000002 C.Zc x.1.f_l) :: Zae.enc x.1.f_t)), (7000000000002, .tip 3)]⟩
noncomputable def Zw.fin (y : (Int × Ze)) : St U := ⟨[(0, .flat (.int .i64 y.1)), (1000000000000000, .ptr 7000000000000 0)], [(7000000000000, .lit ((.flat (.int .i64 y.2.Zbd)) :: (.tip 7000000000002 C.Zc y.2.f_l) :: Zae.enc y.2.f_t)), (7000000000002, .tip 3)]⟩
noncomputable def Zw.D (k : Nat) : FDen U := { X := (Ze × Unit × Int), Y := (Int × Ze), nt := 28, gh := [0], un := Zw.un, f := fun x => Zw.f k (x.1) (x.2.1) (x.2.2), fin := Zw.fin, cl := false, clo := fun h => by cases h }
noncomputable def Zw.re (s : St U) : Option (Int × Ze) := match s.get 0, s.get 1000000000000000, lk s.o 7000000000000 with | .flat (.int .i64 x1), .ptr 7000000000000 0, some (.lit (.flat (.int .i64 x2) :: x6 :: x4)) => (Zfg s.o 3 x6).bind fun ex3 => ((Zae.full x4).bind fun x5 => (some (x1, (⟨x2, ex3.2, x5⟩ : Ze)))) | _, _, _ => none
noncomputable def Zw.jl : List (Nat × JDen U) := []
noncomputable def Zw.fl (k : Nat) : List (Nat × FDen U) := [(75, Zcv.D k)]
noncomputable def Zw.ll (k : Nat) : List (Nat × LDen U) := []
noncomputable def Zw.E (k : Nat) : Env U := { P := Tryz.prog, D := DD, fd := lk (Zw.fl k), sf := lk sl0, ld := lk (Zw.ll k), jd := lk Zw.jl, mode := lk [], elc := lk ec, mpc := lk mc, rts := Tryz.f74.resultTypes.toList, dyn := fun t => false, vecs := fun d => false, results := Tryz.f74.results.toList, gh := [0], own := false, io := fun g i => false, lds := nl0, fn := lk [] }
theorem Zw.ok (k : Nat) : EnvOk (Zw.E k) := envOk lawful (Zw.fl k) sl0 (Zw.ll k) Zw.jl _ _ _ _ _ _ _ _ _ _ _ [] (by
  intro p hp
  simp only [Zw.fl, List.mem_cons, List.not_mem_nil, or_false] at hp
  rcases hp with rfl
  · exact ⟨Zcv.sound k, Zal Tryz.func75 (by kernel_rfl) (by kernel_rfl)⟩) sl0_ok (by
  intro p hp
  simp [Zw.jl] at hp) (fun _ h => (List.not_mem_nil h).elim)
theorem Zw.eq (k : Nat) (x : (Ze × Unit × Int)) : runF (Zw.E k) (codeOf Tryz.f74) (Zw.mk x) Zw.re = (Zw.D k).f x := by kernel_rfl
theorem Zw.fit (s : St U) (x : (Ze × Unit × Int)) (h : Zw.un s = some x) : Fits s (Zw.mk x) := by
  unfold Zw.un at h
  split at h
  · obtain ⟨ex2, hex2, hh1⟩ := Option.bind_eq_some_iff.1 h
    obtain ⟨x4, hx4, hh2⟩ := Option.bind_eq_some_iff.1 hh1
    cases hh2
    refine Zfe [(7000000000002, ex2.1)] ?_ ?_ ren_one rfl
    · exact List.forall_mem_cons.2 ⟨FV.one (FV.ptr (by assumption)), List.forall_mem_cons.2 ⟨FV.one (FV.same (by assumption) rfl), List.forall_mem_cons.2 ⟨FV.one (FV.same (by assumption) rfl), List.forall_mem_cons.2 ⟨FV.one (FV.ptr (by assumption)), fun _ hp => (List.not_mem_nil hp).elim⟩⟩⟩⟩
    · exact List.forall_mem_cons.2 ⟨FO.cells (show lk (St.o _) 7000000000000 = some _ from by assumption) (FCs.cons (c0_same rfl rfl) (FCs.cons ((Zel hex2 rfl).1) (FCs.tail (Cd.full_ok hx4) rfl))), List.forall_mem_cons.2 ⟨(Zel hex2 rfl).2, fun _ hp => (List.not_mem_nil hp).elim⟩⟩
  · cases h
theorem Zw.fitR (s : St U) (y : (Int × Ze)) (h : Zw.re s = some y) : Fits s (Zw.fin y) := by
  unfold Zw.re at h
  split at h
  · obtain ⟨ex3, hex3, hh1⟩ := Option.bind_eq_some_iff.1 h
    obtain ⟨x5, hx5, hh2⟩ := Option.bind_eq_some_iff.1 hh1
    cases hh2
    refine Zfe [(7000000000002, ex3.1)] ?_ ?_ ren_one rfl
    · exact List.forall_mem_cons.2 ⟨FV.one (FV.same (by assumption) rfl), List.forall_mem_cons.2 ⟨FV.one (FV.ptr (by assumption)), fun _ hp => (List.not_mem_nil hp).elim⟩⟩
    · exact List.forall_mem_cons.2 ⟨FO.cells (show lk (St.o _) 7000000000000 = some _ from by assumption) (FCs.cons (c0_same rfl rfl) (FCs.cons ((Zel hex3 rfl).1) (FCs.tail (Cd.full_ok hx5) rfl))), List.forall_mem_cons.2 ⟨(Zel hex3 rfl).2, fun _ hp => (List.not_mem_nil hp).elim⟩⟩
  · cases h
theorem Zw.sound (k : Nat) : Sound Tryz.prog DD 74 (Zw.D k) :=
  fun_sound (E := Zw.E k) (fn := Tryz.f74) (c := codeOf Tryz.f74) (Zw.ok k) mixed rfl Tryz.func74 (by kernel_rfl) (by kernel_rfl) (Zan (l := []) (by kernel_rfl) Zaa) (Zw.D k) Zw.mk Zw.re (by kernel_rfl) (by kernel_rfl) Zw.fit Zw.fitR (Zw.eq k)
noncomputable def Zw.pk (k : Nat) : Pk Tryz.prog DD := ⟨74, Zw.D k, Zw.sound k, Zal Tryz.func74 (by kernel_rfl) (by kernel_rfl)⟩
/-! ### (*pyx/ledger.Book).Close: function 22 -/
noncomputable def Zbm.f (k : Nat) (a0 : Ze) (a1 : Int) : Option (Int × Ze) := (Zw.f k (⟨a0.Zbd, a0.f_l, (⟨pack 12 false a0.f_t.Zk, pack 12 0 a0.f_t.Zi⟩ : Zd)⟩ : Ze) () a1).bind fun t1 => (some (t1.1, (⟨t1.2.Zbd, t1.2.f_l, (⟨pack 12 false t1.2.f_t.Zk, pack 12 0 t1.2.f_t.Zi⟩ : Zd)⟩ : Ze)))
noncomputable def Zbm.i : Lay U (Ze × Int) := (pcGh 1000000000000000 7000000000000 (pcAnd (pcOne 0 (Zbv 7000000000000 7000000000000)) (pcOne 1 (tAt (vInt .i64))))).lay (fun _ => by kernel_rfl)
noncomputable def Zbm.r : Lay U (Int × Ze) := (pcAnd (pcOne 0 (tAt (vInt .i64))) (pcOne 1000000000000000 (Zbv 7000000000000 7000000000000))).lay (fun _ => by kernel_rfl)
noncomputable def Zbm.D (k : Nat) : FDen U := fdn Zbm.i Zbm.r Tryz.f22.ntmps [0] false (fun x => Zbm.f k (x.1) (x.2)) (fun h => by cases h)
noncomputable def Zbm.E (k : Nat) : Env U := mkE Tryz.f22 [Zw.pk k] [] [] [] n0 n0 [0] false n00 nl0 []
theorem Zbm.eq (k : Nat) (x : (Ze × Int)) : runF (Zbm.E k) (codeOf Tryz.f22) (Zbm.i.put x) Zbm.r.un = Zbm.f k (x.1) (x.2) := by kernel_rfl
theorem Zbm.sound (k : Nat) : Sound Tryz.prog DD 22 (Zbm.D k) :=
  funP (E := Zbm.E k) (fn := Tryz.f22) (c := codeOf Tryz.f22) (Zbq _ _ _ _ _ _ _ _ _ _ _ _) mixed rfl Tryz.func22 (by kernel_rfl) (by kernel_rfl) (Zan (l := []) (by kernel_rfl) Zaa) Zbm.i Zbm.r [0] false (fun x => Zbm.f k (x.1) (x.2)) (fun h => by cases h) (by kernel_rfl) (Zbm.eq k)
noncomputable def Zbm.pk (k : Nat) : Pk Tryz.prog DD := ⟨22, Zbm.D k, Zbm.sound k, Zal Tryz.func22 (by kernel_rfl) (by kernel_rfl)⟩
/-! ### (*pyx/ledger.Book).Reverse$1: function 132 -/
noncomputable def Zaw.f (k : Nat) (a0 : Zc) (a1 : Int) : Option Bool := some (a0.f_Of == a1)
noncomputable def Zaw.i : Lay U (Zc × Int) := (pcAnd (pcOne 0 (tAt (vCd cd_Sapi_Entry))) (pcOne 1 (tAt (vRp (Cd.int .i64))))).lay (fun _ => by kernel_rfl)
noncomputable def Zaw.r : Lay U Bool := (pcOne 0 (tAt vBool)).lay (fun _ => by kernel_rfl)
noncomputable def Zaw.D (k : Nat) : FDen U := fdn Zaw.i Zaw.r Tryz.f132.ntmps [] true (fun x => Zaw.f k (x.1) (x.2)) (fun _ _ => rfl)
noncomputable def Zaw.E (k : Nat) : Env U := mkE Tryz.f132 [] [] [] [] n0 n0 [] false n00 nl0 []
theorem Zaw.eq (k : Nat) (x : (Zc × Int)) : runF (Zaw.E k) (codeOf Tryz.f132) (Zaw.i.put x) Zaw.r.un = Zaw.f k (x.1) (x.2) := by kernel_rfl
theorem Zaw.sound (k : Nat) : Sound Tryz.prog DD 132 (Zaw.D k) :=
  funP (E := Zaw.E k) (fn := Tryz.f132) (c := codeOf Tryz.f132) (Zbq _ _ _ _ _ _ _ _ _ _ _ _) mixed rfl Tryz.func132 (by kernel_rfl) (by kernel_rfl) (Zan (l := []) (by kernel_rfl) Zaa) Zaw.i Zaw.r [] true (fun x => Zaw.f k (x.1) (x.2)) (fun _ _ => rfl) (by kernel_rfl) (Zaw.eq k)
noncomputable def Zaw.pk (k : Nat) : Pk Tryz.prog DD := ⟨132, Zaw.D k, Zaw.sound k, Zal Tryz.func132 (by kernel_rfl) (by kernel_rfl)⟩
/-! ### slices.IndexFunc[[]pyx/api.Entry,pyx/api.Entry]: function 165 -/
noncomputable def Za.l2.once (k : Nat) (x : (List Zc × Int × Int × Int)) : Option ((List Zc × Int × Int × Int) ⊕ (Unit ⊕ Int)) := match x with | (x1, x2, x3, x4) => cond (decide (x4 < x3)) (cond (inb x4 (List.length x1)) ((Zaw.f k (⟨(List.getD x1 (Int.toNat x4) Zc.zero).Zdf, (List.getD x1 (Int.toNat x4) Zc.zero).Zdc, (List.getD x1 (Int.toNat x4) Zc.zero).f_Of⟩ : Zc) x2).bind fun t5 => (cond (t5) (some (.inr (.inr x4))) (some (.inl (x1, x2, x3, IntKind.wrap .i64 (x4 + 1)))))) none) (some (.inr (.inl ())))
noncomputable def Za.f (k : Nat) (a0 : List Zc) (a1 : Int) : Option Int := (iter (Za.l2.once k) k (a0, a1, (List.length a0 : Int), 0)).bind fun | .inl y7 => (some (-1)) | .inr y8 => (some y8)
noncomputable def Za.un (s : St U) : Option (List Zc × Int) := match s.get 0, s.get 1 with | .row C.Zc x1, .fn 132 [.rp [.flat (.int .i64 x2)] 0] => some (x1, x2) | _, _ => none
noncomputable def Za.mk (x : (List Zc × Int)) : St U := ⟨[(0, .row C.Zc x.1), (1, .fn 132 [.rp [.flat (.int .i64 x.2)] 0])], []⟩
noncomputable def Za.fin (y : Int) : St U := ⟨[(0, .flat (.int .i64 y))], []⟩
noncomputable def Za.D (k : Nat) : FDen U := { X := (List Zc × Int), Y := Int, nt := 19, gh := [], un := Za.un, f := fun x => Za.f k (x.1) (x.2), fin := Za.fin, cl := true, clo := fun _ _ => rfl }
noncomputable def Za.re (s : St U) : Option Int := match s.get 0 with | .flat (.int .i64 x1) => some x1 | _ => none
noncomputable def Za.l2.mk (x : (List Zc × Int × Int × Int)) : St U := match x with | (x1, x2, x3, x4) => ⟨[(0, .row C.Zc x1), (1, .fn 132 [.rp [.flat (.int .i64 x2)] 0]), (7, .flat (.int .i64 x3)), (8, .flat (.int .i64 x4))], []⟩
noncomputable def Za.l2.un (s : St U) : Option (List Zc × Int × Int × Int) := (row_Sapi_Entry (s.get 0)).bind fun q0 => (match s.get 1, s.get 7, s.get 8 with | .fn 132 [.rp [.flat (.int .i64 x2)] 0], .flat (.int .i64 x3), .flat (.int .i64 x4) => some (q0, x2, x3, x4) | _, _, _ => none)
noncomputable def Za.l2.fin (y : Unit ⊕ Int) : Out U := match y with | .inl () => .exit 0 ⟨[], []⟩ | .inr z => .ret (⟨[(0, .flat (.int .i64 z))], []⟩)
noncomputable def Za.l2.finK {ρ : Type} (y : Unit ⊕ Int) (K : Out U → Option ρ) : Option ρ := match y with | .inl () => K (.exit 0 ⟨[], []⟩) | .inr z => K (.ret (⟨[(0, .flat (.int .i64 z))], []⟩))
theorem Za.l2.finK_eq {ρ : Type} (y : Unit ⊕ Int) (K : Out U → Option ρ) : Za.l2.finK y K = K (Za.l2.fin y) := by
  unfold Za.l2.finK Za.l2.fin
  first | rfl | (split <;> rfl)
noncomputable def Za.l2.re : Out U → Option (Unit ⊕ Int) | .exit 0 s => (some (.inl ())) | .ret s => (match s.get 0 with | .flat (.int .i64 x1) => some (.inr x1) | _ => none) | _ => none
noncomputable def Za.l2.L (k : Nat) : LDen U := { X := (List Zc × Int × Int × Int), Y := Unit ⊕ Int, un := Za.l2.un, f := iter (Za.l2.once k) k, fin := Za.l2.fin, finK := Za.l2.finK, finK_eq := Za.l2.finK_eq }
noncomputable def Za.jl : List (Nat × JDen U) := []
noncomputable def Za.fl (k : Nat) : List (Nat × FDen U) := [(132, Zaw.D k)]
noncomputable def Za.ll (k : Nat) : List (Nat × LDen U) := [(2, Za.l2.L k)]
noncomputable def Za.E (k : Nat) : Env U := { P := Tryz.prog, D := DD, fd := lk (Za.fl k), sf := lk sl0, ld := lk (Za.ll k), jd := lk Za.jl, mode := lk [], elc := lk ec, mpc := lk mc, rts := Tryz.f165.resultTypes.toList, dyn := fun t => false, vecs := fun d => false, results := Tryz.f165.results.toList, gh := [], own := false, io := fun g i => false, lds := nl0, fn := lk [] }
theorem Za.ok (k : Nat) : EnvOk (Za.E k) := envOk lawful (Za.fl k) sl0 (Za.ll k) Za.jl _ _ _ _ _ _ _ _ _ _ _ [] (by
  intro p hp
  simp only [Za.fl, List.mem_cons, List.not_mem_nil, or_false] at hp
  rcases hp with rfl
  · exact ⟨Zaw.sound k, Zal Tryz.func132 (by kernel_rfl) (by kernel_rfl)⟩) sl0_ok (by
  intro p hp
  simp [Za.jl] at hp) (fun _ h => (List.not_mem_nil h).elim)
theorem Za.l2.eq (k : Nat) (x : (List Zc × Int × Int × Int)) : evC (Za.E k) (loopAt Tryz.f165 2) (Za.l2.mk x) (headK Za.l2.un Za.l2.re) = Za.l2.once k x := by kernel_rfl
theorem Za.l2.fit (s : St U) (x : (List Zc × Int × Int × Int)) (h : Za.l2.un s = some x) : Fits s (Za.l2.mk x) := by
  unfold Za.l2.un at h
  obtain ⟨q0, eq0, h1⟩ := Option.bind_eq_some_iff.1 h
  split at h1
  · cases h1
    refine Zfe [] ?_ ?_ ren_nil rfl
    · exact List.forall_mem_cons.2 ⟨FV.one (row_Sapi_Entry_fit eq0), List.forall_mem_cons.2 ⟨FV.one (FV.same (by assumption) rfl), List.forall_mem_cons.2 ⟨FV.one (FV.same (by assumption) rfl), List.forall_mem_cons.2 ⟨FV.one (FV.same (by assumption) rfl), fun _ hp => (List.not_mem_nil hp).elim⟩⟩⟩⟩
    · exact fun _ hp => (List.not_mem_nil hp).elim
  · cases h1
theorem Za.l2.fitO (o : Out U) (y : Unit ⊕ Int) (h : Za.l2.re o = some y) : FitsO o (Za.l2.fin y) := by
  unfold Za.l2.re at h
  split at h
  · cases h
    refine fitsO_exit (Zfe [] ?_ ?_ ren_nil rfl)
    · exact fun _ hp => (List.not_mem_nil hp).elim
    · exact fun _ hp => (List.not_mem_nil hp).elim
  · split at h
    · cases h
      refine fitsO_ret (Zfe [] ?_ ?_ ren_nil rfl)
      · exact List.forall_mem_cons.2 ⟨FV.one (FV.same (by assumption) rfl), fun _ hp => (List.not_mem_nil hp).elim⟩
      · exact fun _ hp => (List.not_mem_nil hp).elim
    · cases h
  · cases h
theorem Za.l2.sound (k : Nat) : LSound (Za.E k) Tryz.f165.ntmps Tryz.f165 (loopAt Tryz.f165 2) (Za.l2.L k) :=
  loop_sound (Za.ok k) mixed rfl (by kernel_rfl) (Zan (l := []) (by kernel_rfl) Zaa) Za.l2.un Za.l2.mk Za.l2.fin Za.l2.re (Za.l2.once k) k Za.l2.fit Za.l2.fitO (Za.l2.eq k) Za.l2.finK Za.l2.finK_eq
theorem Za.eq (k : Nat) (x : (List Zc × Int)) : runF (Za.E k) (codeOf Tryz.f165) (Za.mk x) Za.re = (Za.D k).f x := by kernel_rfl
theorem Za.fit (s : St U) (x : (List Zc × Int)) (h : Za.un s = some x) : Fits s (Za.mk x) := by
  unfold Za.un at h
  split at h
  · cases h
    refine Zfe [] ?_ ?_ ren_nil rfl
    · exact List.forall_mem_cons.2 ⟨FV.one (FV.same (by assumption) rfl), List.forall_mem_cons.2 ⟨FV.one (FV.same (by assumption) rfl), fun _ hp => (List.not_mem_nil hp).elim⟩⟩
    · exact fun _ hp => (List.not_mem_nil hp).elim
  · cases h
theorem Za.fitR (s : St U) (y : Int) (h : Za.re s = some y) : Fits s (Za.fin y) := by
  unfold Za.re at h
  split at h
  · cases h
    refine Zfe [] ?_ ?_ ren_nil rfl
    · exact List.forall_mem_cons.2 ⟨FV.one (FV.same (by assumption) rfl), fun _ hp => (List.not_mem_nil hp).elim⟩
    · exact fun _ hp => (List.not_mem_nil hp).elim
  · cases h
theorem Za.sound (k : Nat) : Sound Tryz.prog DD 165 (Za.D k) :=
  fun_sound (E := Za.E k) (fn := Tryz.f165) (c := codeOf Tryz.f165) (Za.ok k) mixed rfl Tryz.func165 (by kernel_rfl) (by kernel_rfl) (Zan (l := [loopAt Tryz.f165 2]) (by kernel_rfl) (Zdj (key := 2) (by kernel_rfl) rfl (Za.l2.sound k) Zaa)) (Za.D k) Za.mk Za.re (by kernel_rfl) (by kernel_rfl) Za.fit Za.fitR (Za.eq k)
noncomputable def Za.pk (k : Nat) : Pk Tryz.prog DD := ⟨165, Za.D k, Za.sound k, Zal Tryz.func165 (by kernel_rfl) (by kernel_rfl)⟩
/-! ### slices.ContainsFunc[[]pyx/api.Entry,pyx/api.Entry]: function 131 -/
noncomputable def Zf.f (k : Nat) (a0 : List Zc) (a1 : Int) : Option Bool := (Za.f k a0 a1).bind fun t1 => (some (decide (t1 ≥ 0)))
noncomputable def Zf.un (s : St U) : Option (List Zc × Int) := match s.get 0, s.get 1 with | .row C.Zc x1, .fn 132 [.rp [.flat (.int .i64 x2)] 0] => some (x1, x2) | _, _ => none
noncomputable def Zf.mk (x : (List Zc × Int)) : St U := ⟨[(0, .row C.Zc x.1), (1, .fn 132 [.rp [.flat (.int .i64 x.2)] 0])], []⟩
noncomputable def Zf.fin (y : Bool) : St U := ⟨[(0, .flat (.bool y))], []⟩
noncomputable def Zf.D (k : Nat) : FDen U := { X := (List Zc × Int), Y := Bool, nt := 9, gh := [], un := Zf.un, f := fun x => Zf.f k (x.1) (x.2), fin := Zf.fin, cl := true, clo := fun _ _ => rfl }
noncomputable def Zf.re (s : St U) : Option Bool := match s.get 0 with | .flat (.bool x1) => some x1 | _ => none
noncomputable def Zf.jl : List (Nat × JDen U) := []
noncomputable def Zf.fl (k : Nat) : List (Nat × FDen U) := [(165, Za.D k)]
noncomputable def Zf.ll (k : Nat) : List (Nat × LDen U) := []
noncomputable def Zf.E (k : Nat) : Env U := { P := Tryz.prog, D := DD, fd := lk (Zf.fl k), sf := lk sl0, ld := lk (Zf.ll k), jd := lk Zf.jl, mode := lk [], elc := lk ec, mpc := lk mc, rts := Tryz.f131.resultTypes.toList, dyn := fun t => false, vecs := fun d => false, results := Tryz.f131.results.toList, gh := [], own := false, io := fun g i => false, lds := nl0, fn := lk [] }
theorem Zf.ok (k : Nat) : EnvOk (Zf.E k) := envOk lawful (Zf.fl k) sl0 (Zf.ll k) Zf.jl _ _ _ _ _ _ _ _ _ _ _ [] (by
  intro p hp
  simp only [Zf.fl, List.mem_cons, List.not_mem_nil, or_false] at hp
  rcases hp with rfl
  · exact ⟨Za.sound k, Zal Tryz.func165 (by kernel_rfl) (by kernel_rfl)⟩) sl0_ok (by
  intro p hp
  simp [Zf.jl] at hp) (fun _ h => (List.not_mem_nil h).elim)
theorem Zf.eq (k : Nat) (x : (List Zc × Int)) : runF (Zf.E k) (codeOf Tryz.f131) (Zf.mk x) Zf.re = (Zf.D k).f x := by kernel_rfl
theorem Zf.fit (s : St U) (x : (List Zc × Int)) (h : Zf.un s = some x) : Fits s (Zf.mk x) := by
  unfold Zf.un at h
  split at h
  · cases h
    refine Zfe [] ?_ ?_ ren_nil rfl
    · exact List.forall_mem_cons.2 ⟨FV.one (FV.same (by assumption) rfl), List.forall_mem_cons.2 ⟨FV.one (FV.same (by assumption) rfl), fun _ hp => (List.not_mem_nil hp).elim⟩⟩
    · exact fun _ hp => (List.not_mem_nil hp).elim
  · cases h
theorem Zf.fitR (s : St U) (y : Bool) (h : Zf.re s = some y) : Fits s (Zf.fin y) := by
  unfold Zf.re at h
  split at h
  · cases h
    refine Zfe [] ?_ ?_ ren_nil rfl
    · exact List.forall_mem_cons.2 ⟨FV.one (FV.same (by assumption) rfl), fun _ hp => (List.not_mem_nil hp).elim⟩
    · exact fun _ hp => (List.not_mem_nil hp).elim
  · cases h
theorem Zf.sound (k : Nat) : Sound Tryz.prog DD 131 (Zf.D k) :=
  fun_sound (E := Zf.E k) (fn := Tryz.f131) (c := codeOf Tryz.f131) (Zf.ok k) mixed rfl Tryz.func131 (by kernel_rfl) (by kernel_rfl) (Zan (l := []) (by kernel_rfl) Zaa) (Zf.D k) Zf.mk Zf.re (by kernel_rfl) (by kernel_rfl) Zf.fit Zf.fitR (Zf.eq k)
noncomputable def Zf.pk (k : Nat) : Pk Tryz.prog DD := ⟨131, Zf.D k, Zf.sound k, Zal Tryz.func131 (by kernel_rfl) (by kernel_rfl)⟩
/-! ### pyx/limb.Of: function 114 -/
noncomputable def Zej.f (k : Nat) (a0 : Int) : Option (Int × Int) := some (a0, 0)
noncomputable def Zej.i : Lay U Int := (pcOne 0 (tAt (vInt .u64))).lay (fun _ => by kernel_rfl)
noncomputable def Zej.r : Lay U (Int × Int) := (pcOne 0 (tAt (vCd (Cd.pair (Cd.int .u64) (Cd.int .u64))))).lay (fun _ => by kernel_rfl)
noncomputable def Zej.D (k : Nat) : FDen U := fdn Zej.i Zej.r Tryz.f114.ntmps [] true (fun x => Zej.f k (x)) (fun _ _ => rfl)
noncomputable def Zej.E (k : Nat) : Env U := mkE Tryz.f114 [] [] [] [] n0 n0 [] false n00 nl0 []
theorem Zej.eq (k : Nat) (x : Int) : runF (Zej.E k) (codeOf Tryz.f114) (Zej.i.put x) Zej.r.un = Zej.f k (x) := by kernel_rfl
theorem Zej.sound (k : Nat) : Sound Tryz.prog DD 114 (Zej.D k) :=
  funP (E := Zej.E k) (fn := Tryz.f114) (c := codeOf Tryz.f114) (Zbq _ _ _ _ _ _ _ _ _ _ _ _) mixed rfl Tryz.func114 (by kernel_rfl) (by kernel_rfl) (Zan (l := []) (by kernel_rfl) Zaa) Zej.i Zej.r [] true (fun x => Zej.f k (x)) (fun _ _ => rfl) (by kernel_rfl) (Zej.eq k)
noncomputable def Zej.pk (k : Nat) : Pk Tryz.prog DD := ⟨114, Zej.D k, Zej.sound k, Zal Tryz.func114 (by kernel_rfl) (by kernel_rfl)⟩
/-! ### pyx/limb.halves: function 142 -/
noncomputable def Zdi.f (k : Nat) (a0 : (Int × Int)) : Option (Int × Int × Int × Int) := some (IntKind.wrap .u32 (a0.1), IntKind.wrap .u32 (Int.fdiv a0.1 (2 ^ 32)), IntKind.wrap .u32 (a0.2), IntKind.wrap .u32 (Int.fdiv a0.2 (2 ^ 32)))
noncomputable def Zdi.i : Lay U (Int × Int) := (pcOne 0 (tAt (vCd (Cd.pair (Cd.int .u64) (Cd.int .u64))))).lay (fun _ => by kernel_rfl)
noncomputable def Zdi.r : Lay U (Int × Int × Int × Int) := (pcOne 0 (tAt (vCd (Cd.pair (Cd.int .u32) (Cd.pair (Cd.int .u32) (Cd.pair (Cd.int .u32) (Cd.int .u32))))))).lay (fun _ => by kernel_rfl)
noncomputable def Zdi.D (k : Nat) : FDen U := fdn Zdi.i Zdi.r Tryz.f142.ntmps [] true (fun x => Zdi.f k (x)) (fun _ _ => rfl)
noncomputable def Zdi.E (k : Nat) : Env U := mkE Tryz.f142 [] [] [] [] n0 n0 [] false n00 nl0 []
theorem Zdi.eq (k : Nat) (x : (Int × Int)) : runF (Zdi.E k) (codeOf Tryz.f142) (Zdi.i.put x) Zdi.r.un = Zdi.f k (x) := by kernel_rfl
theorem Zdi.sound (k : Nat) : Sound Tryz.prog DD 142 (Zdi.D k) :=
  funP (E := Zdi.E k) (fn := Tryz.f142) (c := codeOf Tryz.f142) (Zbq _ _ _ _ _ _ _ _ _ _ _ _) mixed rfl Tryz.func142 (by kernel_rfl) (by kernel_rfl) (Zan (l := []) (by kernel_rfl) Zaa) Zdi.i Zdi.r [] true (fun x => Zdi.f k (x)) (fun _ _ => rfl) (by kernel_rfl) (Zdi.eq k)
noncomputable def Zdi.pk (k : Nat) : Pk Tryz.prog DD := ⟨142, Zdi.D k, Zdi.sound k, Zal Tryz.func142 (by kernel_rfl) (by kernel_rfl)⟩
/-! ### pyx/limb.Mul: function 97 -/
noncomputable def Zam.l8.once (k : Nat) (x : T3a) : Option (T3a ⊕ T3b) := match x with | (x14, x15, x16, x17, x18, x19, x20, x21, x22, x23, x24, x25, x26, x11, x12, x13) => cond (decide (x26 < 4)) (cond (inb x26 4) (cond (inb (IntKind.wrap .i64 (x14 + x26)) 8) (cond (Nat.blt (Int.toNat (IntKind.wrap .i64 (x14 + x26))) 8) (cond (inb (IntKind.wrap .i64 (x14 + x26)) 8) (cond (Nat.blt (Int.toNat (IntKind.wrap .i64 (x14 + x26))) 8) (some (.inl (x14, x15, Int.fdiv (IntKind.wrap .u64 ((IntKind.wrap .u64 ((IntKind.wrap .u64 ((IntKind.wrap .u64 (x15)) * (IntKind.wrap .u64 (List.getD [x22, x23, x24, x25] (Int.toNat x26) 0)))) + (List.getD x12 (Int.toNat (IntKind.wrap .i64 (x14 + x26))) 0))) + x16)) (2 ^ 32), x17, x18, x19, x20, x21, x22, x23, x24, x25, IntKind.wrap .i64 (x26 + 1), x11, List.set x12 (Int.toNat (IntKind.wrap .i64 (x14 + x26))) (IntKind.wrap .u64 (IntKind.wrap .u32 (IntKind.wrap .u64 ((IntKind.wrap .u64 ((IntKind.wrap .u64 ((IntKind.wrap .u64 (x15)) * (IntKind.wrap .u64 (List.getD [x22, x23, x24, x25] (Int.toNat x26) 0)))) + (List.getD x12 (Int.toNat (IntKind.wrap .i64 (x14 + x26))) 0))) + x16)))), x13))) none) none) none) none) none) (some (.inr (x14, x16, x17, x18, x19, x20, x21, x11, x12, x13)))
noncomputable def Zam.l4.once (k : Nat) (x : T3e) : Option (T3e ⊕ ((List Int × List Int))) := match x with | (x6, x7, x8, x9, x10, x3, x4, x5) => cond (decide (x10 < 4)) (cond (inb x10 4) ((iter (Zam.l8.once k) k (x10, List.getD [x6, x7, x8, x9] (Int.toNat x10) 0, 0, x6, x7, x8, x9, x10, List.getD x5 0 0, List.getD x5 1 0, List.getD x5 2 0, List.getD x5 3 0, 0, x3, x4, x5)).bind fun y37 => (cond (inb (IntKind.wrap .i64 (y37.1 + 4)) 8) (cond (Nat.blt (Int.toNat (IntKind.wrap .i64 (y37.1 + 4))) 8) (some (.inl (y37.2.2.1, y37.2.2.2.1, y37.2.2.2.2.1, y37.2.2.2.2.2.1, IntKind.wrap .i64 (y37.2.2.2.2.2.2.1 + 1), y37.2.2.2.2.2.2.2.1, List.set y37.2.2.2.2.2.2.2.2.1 (Int.toNat (IntKind.wrap .i64 (y37.1 + 4))) y37.2.1, y37.2.2.2.2.2.2.2.2.2))) none) none)) none) (some (.inr (x3, x4)))
noncomputable def Zam.l18.once (k : Nat) (x : (Int × List Int × List Int × List Int)) : Option ((Int × List Int × List Int × List Int) ⊕ ((List Int × List Int))) := match x with | (x44, x41, x42, x43) => cond (decide (x44 < 4)) (cond (inb (IntKind.wrap .i64 (2 * x44)) 8) (cond (Nat.blt (Int.toNat (IntKind.wrap .i64 (2 * x44))) 8) (cond (inb (IntKind.wrap .i64 ((IntKind.wrap .i64 (2 * x44)) + 1)) 8) (cond (Nat.blt (Int.toNat (IntKind.wrap .i64 ((IntKind.wrap .i64 (2 * x44)) + 1))) 8) (cond (inb x44 4) (cond (Nat.blt (Int.toNat x44) 4) (some (.inl (IntKind.wrap .i64 (x44 + 1), x41, x42, List.set x43 (Int.toNat x44) (bits .or .u64 (List.getD x42 (Int.toNat (IntKind.wrap .i64 (2 * x44))) 0) (IntKind.wrap .u64 ((List.getD x42 (Int.toNat (IntKind.wrap .i64 ((IntKind.wrap .i64 (2 * x44)) + 1))) 0) * 2 ^ 32)))))) none) none) none) none) none) none) (some (.inr (x41, x43)))
noncomputable def Zam.f (k : Nat) (a0 : (Int × Int)) (a1 : (Int × Int)) : Option (Int × Int × Int × Int) := (Zdi.f k (a0.1, a0.2)).bind fun t1 => ((Zdi.f k (a1.1, a1.2)).bind fun t2 => ((iter (Zam.l4.once k) k (List.getD [t1.1, t1.2.1, t1.2.2.1, t1.2.2.2] 0 0, List.getD [t1.1, t1.2.1, t1.2.2.1, t1.2.2.2] 1 0, List.getD [t1.1, t1.2.1, t1.2.2.1, t1.2.2.2] 2 0, List.getD [t1.1, t1.2.1, t1.2.2.1, t1.2.2.2] 3 0, 0, [0, 0, 0, 0], [0, 0, 0, 0, 0, 0, 0, 0], [t2.1, t2.2.1, t2.2.2.1, t2.2.2.2])).bind fun y40 => ((iter (Zam.l18.once k) k (0, y40.1, y40.2, [0, 0, 0, 0])).bind fun y47 => (some (List.getD [List.getD y47.2 0 0, List.getD y47.2 1 0, List.getD y47.2 2 0, List.getD y47.2 3 0] 0 0, List.getD [List.getD y47.2 0 0, List.getD y47.2 1 0, List.getD y47.2 2 0, List.getD y47.2 3 0] 1 0, List.getD [List.getD y47.2 0 0, List.getD y47.2 1 0, List.getD y47.2 2 0, List.getD y47.2 3 0] 2 0, List.getD [List.getD y47.2 0 0, List.getD y47.2 1 0, List.getD y47.2 2 0, List.getD y47.2 3 0] 3 0)))))
noncomputable def Zam.i : Lay U ((Int × Int) × (Int × Int)) := (pcAnd (pcOne 0 (tAt (vCd (Cd.pair (Cd.int .u64) (Cd.int .u64))))) (pcOne 1 (tAt (vCd (Cd.pair (Cd.int .u64) (Cd.int .u64)))))).lay (fun _ => by kernel_rfl)
noncomputable def Zam.r : Lay U (Int × Int × Int × Int) := (pcOne 0 (tAt (vCd (Cd.pair (Cd.int .u64) (Cd.pair (Cd.int .u64) (Cd.pair (Cd.int .u64) (Cd.int .u64))))))).lay (fun _ => by kernel_rfl)
noncomputable def Zam.D (k : Nat) : FDen U := fdn Zam.i Zam.r Tryz.f97.ntmps [] true (fun x => Zam.f k (x.1) (x.2)) (fun _ _ => rfl)
noncomputable def Zam.l8.i : Lay U T3a := (lay [(4, sPtr 4 0), (5, sPtr 5 0), (7, sPtr 7 0), (8, sAt (vInt .i64)), (9, sAt (vInt .u32)), (10, sAt (vInt .u64)), (20, sAgg [(vInt .u32), (vInt .u32), (vInt .u32), (vInt .u32)]), (21, sAt (vInt .i64)), (25, sAgg [(vInt .u32), (vInt .u32), (vInt .u32), (vInt .u32)]), (26, sAt (vInt .i64))] [bArr DD 4 4 C.u64, bArr DD 5 8 C.u64, bArr DD 7 4 C.u32] (fun _ => by kernel_rfl))
noncomputable def Zam.l8.o : OLay U T3b := oExit 2 (lay [(4, sPtr 4 0), (5, sPtr 5 0), (7, sPtr 7 0), (8, sAt (vInt .i64)), (10, sAt (vInt .u64)), (20, sAgg [(vInt .u32), (vInt .u32), (vInt .u32), (vInt .u32)]), (21, sAt (vInt .i64))] [bArr DD 4 4 C.u64, bArr DD 5 8 C.u64, bArr DD 7 4 C.u32] (fun _ => by kernel_rfl))
noncomputable def Zam.l4.i : Lay U T3e := (lay [(4, sPtr 4 0), (5, sPtr 5 0), (7, sPtr 7 0), (20, sAgg [(vInt .u32), (vInt .u32), (vInt .u32), (vInt .u32)]), (21, sAt (vInt .i64))] [bArr DD 4 4 C.u64, bArr DD 5 8 C.u64, bArr DD 7 4 C.u32] (fun _ => by kernel_rfl))
noncomputable def Zam.l4.o : OLay U ((List Int × List Int)) := oExit 0 (lay [(4, sPtr 4 0), (5, sPtr 5 0)] [bArr DD 4 4 C.u64, bArr DD 5 8 C.u64] (fun _ => by kernel_rfl))
noncomputable def Zam.l18.i : Lay U (Int × List Int × List Int × List Int) := (lay [(4, sPtr 4 0), (5, sPtr 5 0), (14, sPtr 14 0), (58, sAt (vInt .i64))] [bArr DD 4 4 C.u64, bArr DD 5 8 C.u64, bArr DD 14 4 C.u64] (fun _ => by kernel_rfl))
noncomputable def Zam.l18.o : OLay U ((List Int × List Int)) := oExit 4 (lay [(4, sPtr 4 0), (14, sPtr 14 0)] [bArr DD 4 4 C.u64, bArr DD 14 4 C.u64] (fun _ => by kernel_rfl))
noncomputable def Zam.E (k : Nat) : Env U := mkE Tryz.f97 [Zdi.pk k] [] [(8, ldn Zam.l8.i Zam.l8.o (iter (Zam.l8.once k) k)), (4, ldn Zam.l4.i Zam.l4.o (iter (Zam.l4.once k) k)), (18, ldn Zam.l18.i Zam.l18.o (iter (Zam.l18.once k) k))] [(112, (4, C.u64)), (185, (8, C.u64)), (187, (4, C.u32))] n0 n0 [] false n00 nl0 []
theorem Zam.l8.eq (k : Nat) (x : T3a) : evC (Zam.E k) (loopAt Tryz.f97 8) (Zam.l8.i.put x) (headK Zam.l8.i.un Zam.l8.o.re) = Zam.l8.once k x := by kernel_rfl
theorem Zam.l8.sound (k : Nat) : LSound (Zam.E k) Tryz.f97.ntmps Tryz.f97 (loopAt Tryz.f97 8) (ldn Zam.l8.i Zam.l8.o (iter (Zam.l8.once k) k)) :=
  loopP (Zbq _ _ _ _ _ _ _ _ _ _ _ _) mixed rfl (by kernel_rfl) (Zan (l := []) (by kernel_rfl) Zaa) Zam.l8.i Zam.l8.o (Zam.l8.once k) k (Zam.l8.eq k)
theorem Zam.l4.eq (k : Nat) (x : T3e) : evC (Zam.E k) (loopAt Tryz.f97 4) (Zam.l4.i.put x) (headK Zam.l4.i.un Zam.l4.o.re) = Zam.l4.once k x := by kernel_rfl
theorem Zam.l4.sound (k : Nat) : LSound (Zam.E k) Tryz.f97.ntmps Tryz.f97 (loopAt Tryz.f97 4) (ldn Zam.l4.i Zam.l4.o (iter (Zam.l4.once k) k)) :=
  loopP (Zbq _ _ _ _ _ _ _ _ _ _ _ _) mixed rfl (by kernel_rfl) (Zan (l := [loopAt Tryz.f97 8]) (by kernel_rfl) (Zdj (key := 8) (by kernel_rfl) rfl (Zam.l8.sound k) Zaa)) Zam.l4.i Zam.l4.o (Zam.l4.once k) k (Zam.l4.eq k)
theorem Zam.l18.eq (k : Nat) (x : (Int × List Int × List Int × List Int)) : evC (Zam.E k) (loopAt Tryz.f97 18) (Zam.l18.i.put x) (headK Zam.l18.i.un Zam.l18.o.re) = Zam.l18.once k x := by kernel_rfl
theorem Zam.l18.sound (k : Nat) : LSound (Zam.E k) Tryz.f97.ntmps Tryz.f97 (loopAt Tryz.f97 18) (ldn Zam.l18.i Zam.l18.o (iter (Zam.l18.once k) k)) :=
  loopP (Zbq _ _ _ _ _ _ _ _ _ _ _ _) mixed rfl (by kernel_rfl) (Zan (l := []) (by kernel_rfl) Zaa) Zam.l18.i Zam.l18.o (Zam.l18.once k) k (Zam.l18.eq k)
theorem Zam.eq (k : Nat) (x : ((Int × Int) × (Int × Int))) : runF (Zam.E k) (codeOf Tryz.f97) (Zam.i.put x) Zam.r.un = Zam.f k (x.1) (x.2) := by kernel_rfl
theorem Zam.sound (k : Nat) : Sound Tryz.prog DD 97 (Zam.D k) :=
  funP (E := Zam.E k) (fn := Tryz.f97) (c := codeOf Tryz.f97) (Zbq _ _ _ _ _ _ _ _ _ _ _ _) mixed rfl Tryz.func97 (by kernel_rfl) (by kernel_rfl) (Zan (l := [loopAt Tryz.f97 4, loopAt Tryz.f97 18]) (by kernel_rfl) (Zdj (key := 4) (by kernel_rfl) rfl (Zam.l4.sound k) (Zdj (key := 18) (by kernel_rfl) rfl (Zam.l18.sound k) Zaa))) Zam.i Zam.r [] true (fun x => Zam.f k (x.1) (x.2)) (fun _ _ => rfl) (by kernel_rfl) (Zam.eq k)
noncomputable def Zam.pk (k : Nat) : Pk Tryz.prog DD := ⟨97, Zam.D k, Zam.sound k, Zal Tryz.func97 (by kernel_rfl) (by kernel_rfl)⟩
/-! ### pyx/limb.Short: function 117 -/
noncomputable def Zdg.f (k : Nat) (a0 : (Int × Int × Int × Int)) : Option ((Int × Int) × Bool) := ((cond (a0.2.2.1 != 0) (some (true, a0.1, a0.2.1, a0.2.2.1, a0.2.2.2, 0, 0)) (some (a0.2.2.2 != 0, a0.1, a0.2.1, a0.2.2.1, a0.2.2.2, 0, 0))) : Option (Bool × Int × Int × Int × Int × Int × Int)).bind fun y8 => (cond (y8.1) (some ((0, 0), false)) (some ((y8.2.1, y8.2.2.1), true)))
noncomputable def Zdg.i : Lay U (Int × Int × Int × Int) := (pcOne 0 (tAt (vCd (Cd.pair (Cd.int .u64) (Cd.pair (Cd.int .u64) (Cd.pair (Cd.int .u64) (Cd.int .u64))))))).lay (fun _ => by kernel_rfl)
noncomputable def Zdg.r : Lay U ((Int × Int) × Bool) := (pcTup 0 (tqCons (tAt (vCd (Cd.pair (Cd.int .u64) (Cd.int .u64)))) (tqOne (tAt vBool)))).lay (fun _ => by kernel_rfl)
noncomputable def Zdg.D (k : Nat) : FDen U := fdn Zdg.i Zdg.r Tryz.f117.ntmps [] true (fun x => Zdg.f k (x)) (fun _ _ => rfl)
noncomputable def Zdg.j1000 : Jk U := ⟨(Bool × Int × Int × Int × Int × Int × Int), oNorm (lay [(1, sPtr 1 0), (2, sPtr 2 0), (11, sAt vBool)] [bLit 1 [(vInt .u64), (vInt .u64), (vInt .u64), (vInt .u64)], bLit 2 [(vInt .u64), (vInt .u64)]] (fun _ => by kernel_rfl))⟩
noncomputable def Zdg.E (k : Nat) : Env U := mkE Tryz.f117 [] [(1000, Zdg.j1000)] [] [] n0 n0 [] false n00 nl0 []
theorem Zdg.eq (k : Nat) (x : (Int × Int × Int × Int)) : runF (Zdg.E k) (codeOf Tryz.f117) (Zdg.i.put x) Zdg.r.un = Zdg.f k (x) := by kernel_rfl
theorem Zdg.sound (k : Nat) : Sound Tryz.prog DD 117 (Zdg.D k) :=
  funP (E := Zdg.E k) (fn := Tryz.f117) (c := codeOf Tryz.f117) (Zbq _ _ _ _ _ _ _ _ _ _ _ _) mixed rfl Tryz.func117 (by kernel_rfl) (by kernel_rfl) (Zan (l := []) (by kernel_rfl) Zaa) Zdg.i Zdg.r [] true (fun x => Zdg.f k (x)) (fun _ _ => rfl) (by kernel_rfl) (Zdg.eq k)
noncomputable def Zdg.pk (k : Nat) : Pk Tryz.prog DD := ⟨117, Zdg.D k, Zdg.sound k, Zal Tryz.func117 (by kernel_rfl) (by kernel_rfl)⟩
/-! ### pyx/limb.Ten: function 145 -/
noncomputable def Zcs.l5.once (k : Nat) (x : (Int × Int × Int × Int × Int × Int)) : Option ((Int × Int × Int × Int × Int × Int) ⊕ ((Int × Int × Int × Int))) := match x with | (x11, x12, x7, x8, x9, x10) => cond (decide (x12 < x11)) ((Zej.f k 10).bind fun t13 => ((Zam.f k (x9, x10) (t13.1, t13.2)).bind fun t14 => ((Zdg.f k (t14.1, t14.2.1, t14.2.2.1, t14.2.2.2)).bind fun t15 => (some (.inl (x11, IntKind.wrap .i64 (x12 + 1), x7, x8, t15.1.1, t15.1.2)))))) (some (.inr (x7, x8, x9, x10)))
noncomputable def Zcs.f (k : Nat) (a0 : Int) : Option ((Int × Int) × Bool) := ((cond (decide (a0 < 0)) (some (a0, true, 0, 0)) (some (a0, decide (a0 > 38), 0, 0))) : Option (Int × Bool × Int × Int)).bind fun y5 => (cond (y5.2.1) (some ((0, 0), false)) ((Zej.f k 1).bind fun t6 => ((iter (Zcs.l5.once k) k (y5.1, 0, y5.2.2.1, y5.2.2.2, t6.1, t6.2)).bind fun y20 => (some ((y20.2.2.1, y20.2.2.2), true)))))
noncomputable def Zcs.i : Lay U Int := (pcOne 0 (tAt (vInt .i64))).lay (fun _ => by kernel_rfl)
noncomputable def Zcs.r : Lay U ((Int × Int) × Bool) := (pcTup 0 (tqCons (tAt (vCd (Cd.pair (Cd.int .u64) (Cd.int .u64)))) (tqOne (tAt vBool)))).lay (fun _ => by kernel_rfl)
noncomputable def Zcs.D (k : Nat) : FDen U := fdn Zcs.i Zcs.r Tryz.f145.ntmps [] true (fun x => Zcs.f k (x)) (fun _ _ => rfl)
noncomputable def Zcs.l5.i : Lay U (Int × Int × Int × Int × Int × Int) := (lay [(2, sPtr 2 0), (4, sPtr 4 0), (13, sAt (vInt .i64)), (14, sAt (vInt .i64))] [bLit 2 [(vInt .u64), (vInt .u64)], bLit 4 [(vInt .u64), (vInt .u64)]] (fun _ => by kernel_rfl))
noncomputable def Zcs.l5.o : OLay U ((Int × Int × Int × Int)) := oExit 0 (lay [(2, sPtr 2 0), (4, sPtr 4 0)] [bLit 2 [(vInt .u64), (vInt .u64)], bLit 4 [(vInt .u64), (vInt .u64)]] (fun _ => by kernel_rfl))
noncomputable def Zcs.j1000 : Jk U := ⟨(Int × Bool × Int × Int), oNorm (lay [(2, sPtr 2 0), (0, sAt (vInt .i64)), (10, sAt vBool)] [bLit 2 [(vInt .u64), (vInt .u64)]] (fun _ => by kernel_rfl))⟩
noncomputable def Zcs.E (k : Nat) : Env U := mkE Tryz.f145 [Zej.pk k, Zam.pk k, Zdg.pk k] [(1000, Zcs.j1000)] [(5, ldn Zcs.l5.i Zcs.l5.o (iter (Zcs.l5.once k) k))] [] n0 n0 [] false n00 nl0 []
theorem Zcs.l5.eq (k : Nat) (x : (Int × Int × Int × Int × Int × Int)) : evC (Zcs.E k) (loopAt Tryz.f145 5) (Zcs.l5.i.put x) (headK Zcs.l5.i.un Zcs.l5.o.re) = Zcs.l5.once k x := by kernel_rfl
theorem Zcs.l5.sound (k : Nat) : LSound (Zcs.E k) Tryz.f145.ntmps Tryz.f145 (loopAt Tryz.f145 5) (ldn Zcs.l5.i Zcs.l5.o (iter (Zcs.l5.once k) k)) :=
  loopP (Zbq _ _ _ _ _ _ _ _ _ _ _ _) mixed rfl (by kernel_rfl) (Zan (l := []) (by kernel_rfl) Zaa) Zcs.l5.i Zcs.l5.o (Zcs.l5.once k) k (Zcs.l5.eq k)
theorem Zcs.eq (k : Nat) (x : Int) : runF (Zcs.E k) (codeOf Tryz.f145) (Zcs.i.put x) Zcs.r.un = Zcs.f k (x) := by kernel_rfl
theorem Zcs.sound (k : Nat) : Sound Tryz.prog DD 145 (Zcs.D k) :=
  funP (E := Zcs.E k) (fn := Tryz.f145) (c := codeOf Tryz.f145) (Zbq _ _ _ _ _ _ _ _ _ _ _ _) mixed rfl Tryz.func145 (by kernel_rfl) (by kernel_rfl) (Zan (l := [loopAt Tryz.f145 5]) (by kernel_rfl) (Zdj (key := 5) (by kernel_rfl) rfl (Zcs.l5.sound k) Zaa)) Zcs.i Zcs.r [] true (fun x => Zcs.f k (x)) (fun _ _ => rfl) (by kernel_rfl) (Zcs.eq k)
noncomputable def Zcs.pk (k : Nat) : Pk Tryz.prog DD := ⟨145, Zcs.D k, Zcs.sound k, Zal Tryz.func145 (by kernel_rfl) (by kernel_rfl)⟩
end
end Go.Proofs.YtbchcjlllddlpaaGreat
