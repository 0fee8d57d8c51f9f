import Derived.Test.YtbchcjlllddlpaaGreatF5
/-! Functions, told; their equations with the evaluator; that they are sound. Written by gen.py. -/
namespace Go.Proofs.YtbchcjlllddlpaaGreat
open Go Go.Ev
noncomputable section
set_option linter.unusedVariables false
set_option linter.unusedSimpArgs false
set_option maxRecDepth 100000
abbrev T6g := (List Za × Int × List Za × Int × Int)
abbrev T6f := (List Za × Int × Int × Bool × Int × Int × Int)
abbrev T6e := (Int × Int × List Zc × Int × List Zc × Ze)
abbrev T6d := (Bool × Bool × Int × Int × Int × Bool × Int × Int × Int × Bool × Int × Int × Int)
abbrev T6c := ((Int × List Zc × Ze × Int × List Zc × Zd))
abbrev T6b := (List Zag × Int × Int × List Zc × Ze × Int × List Zc × Zd)
abbrev T6a := (List Zag × Int × Bool × Int × List Zc × Ze × Int × List Zc × Zd)
/-! ### pyx/dec.Add: function 18 -/
noncomputable def Zem.f (k : Nat) (a0 : Zg) (a1 : Zg) : Option (Zg × Int) := (((Zdl.f k (⟨a0.f_Neg, (a0.f_C.1, a0.f_C.2), a0.Zo⟩ : Zg)).bind fun t1 => (cond (!t1) (some (true, a0.f_Neg, a0.f_C.1, a0.f_C.2, a0.Zo, a1.f_Neg, a1.f_C.1, a1.f_C.2, a1.Zo, false, 0, 0, 0)) ((Zdl.f k (⟨a1.f_Neg, (a1.f_C.1, a1.f_C.2), a1.Zo⟩ : Zg)).bind fun t15 => (some (!t15, a0.f_Neg, a0.f_C.1, a0.f_C.2, a0.Zo, a1.f_Neg, a1.f_C.1, a1.f_C.2, a1.Zo, false, 0, 0, 0))))) : Option T6d).bind fun y16 => (cond (y16.1) (some ((⟨false, (0, 0), 0⟩ : Zg), 1)) ((Zeq.f k (⟨y16.2.1, (y16.2.2.1, y16.2.2.2.1), y16.2.2.2.2.1⟩ : Zg) (if y16.2.2.2.2.2.2.2.2.1 > y16.2.2.2.2.1 then y16.2.2.2.2.2.2.2.2.1 else y16.2.2.2.2.1)).bind fun t17 => ((Zeq.f k (⟨y16.2.2.2.2.2.1, (y16.2.2.2.2.2.2.1, y16.2.2.2.2.2.2.2.1), y16.2.2.2.2.2.2.2.2.1⟩ : Zg) (if y16.2.2.2.2.2.2.2.2.1 > y16.2.2.2.2.1 then y16.2.2.2.2.2.2.2.2.1 else y16.2.2.2.2.1)).bind fun t18 => (cond (y16.2.1 == y16.2.2.2.2.2.1) ((Zeo.f k (t17.1, t17.2.1, t17.2.2.1, t17.2.2.2) (t18.1, t18.2.1, t18.2.2.1, t18.2.2.2)).bind fun t19 => ((Zee.f k y16.2.1 (t19.1, t19.2.1, t19.2.2.1, t19.2.2.2) (if y16.2.2.2.2.2.2.2.2.1 > y16.2.2.2.2.1 then y16.2.2.2.2.2.2.2.2.1 else y16.2.2.2.2.1)).bind fun t20 => (some ((⟨t20.1.f_Neg, (t20.1.f_C.1, t20.1.f_C.2), t20.1.Zo⟩ : Zg), t20.2)))) ((Zdn.f k (t17.1, t17.2.1, t17.2.2.1, t17.2.2.2) (t18.1, t18.2.1, t18.2.2.1, t18.2.2.2)).bind fun t21 => (cond (decide (t21 ≥ 0)) ((Zeh.f k (t17.1, t17.2.1, t17.2.2.1, t17.2.2.2) (t18.1, t18.2.1, t18.2.2.1, t18.2.2.2)).bind fun t22 => ((Zee.f k y16.2.1 (t22.1, t22.2.1, t22.2.2.1, t22.2.2.2) (if y16.2.2.2.2.2.2.2.2.1 > y16.2.2.2.2.1 then y16.2.2.2.2.2.2.2.2.1 else y16.2.2.2.2.1)).bind fun t23 => (some ((⟨t23.1.f_Neg, (t23.1.f_C.1, t23.1.f_C.2), t23.1.Zo⟩ : Zg), t23.2)))) ((Zeh.f k (t18.1, t18.2.1, t18.2.2.1, t18.2.2.2) (t17.1, t17.2.1, t17.2.2.1, t17.2.2.2)).bind fun t24 => ((Zee.f k y16.2.2.2.2.2.1 (t24.1, t24.2.1, t24.2.2.1, t24.2.2.2) (if y16.2.2.2.2.2.2.2.2.1 > y16.2.2.2.2.1 then y16.2.2.2.2.2.2.2.2.1 else y16.2.2.2.2.1)).bind fun t25 => (some ((⟨t25.1.f_Neg, (t25.1.f_C.1, t25.1.f_C.2), t25.1.Zo⟩ : Zg), t25.2))))))))))
noncomputable def Zem.i : Lay U (Zg × Zg) := (pcAnd (pcOne 0 (tAt (vCd Zdo))) (pcOne 1 (tAt (vCd Zdo)))).lay (fun _ => by kernel_rfl)
noncomputable def Zem.r : Lay U (Zg × Int) := (pcTup 0 (tqCons (tAt (vCd Zdo)) (tqOne (tAt (vInt .i64))))).lay (fun _ => by kernel_rfl)
noncomputable def Zem.D (k : Nat) : FDen U := fdn Zem.i Zem.r Tryz.f18.ntmps [] true (fun x => Zem.f k (x.1) (x.2)) (fun _ _ => rfl)
noncomputable def Zem.j1000 : Jk U := ⟨T6d, oNorm (lay [(2, sPtr 2 0), (3, sPtr 3 0), (4, sPtr 4 0), (16, sAt vBool)] [bLit 2 [vBool, (vInt .u64), (vInt .u64), (vInt .i64)], bLit 3 [vBool, (vInt .u64), (vInt .u64), (vInt .i64)], bLit 4 [vBool, (vInt .u64), (vInt .u64), (vInt .i64)]] (fun _ => by kernel_rfl))⟩
noncomputable def Zem.E (k : Nat) : Env U := mkE Tryz.f18 [Zdl.pk k, Zeq.pk k, Zeo.pk k, Zee.pk k, Zdn.pk k, Zeh.pk k] [(1000, Zem.j1000)] [] [] n0 n0 [] false n00 nl0 []
theorem Zem.eq (k : Nat) (x : (Zg × Zg)) : runF (Zem.E k) (codeOf Tryz.f18) (Zem.i.put x) Zem.r.un = Zem.f k (x.1) (x.2) := by kernel_rfl
theorem Zem.sound (k : Nat) : Sound Tryz.prog DD 18 (Zem.D k) :=
  funP (E := Zem.E k) (fn := Tryz.f18) (c := codeOf Tryz.f18) (Zbq _ _ _ _ _ _ _ _ _ _ _ _) mixed rfl Tryz.func18 (by kernel_rfl) (by kernel_rfl) (Zap (l := []) (by kernel_rfl) Zah) Zem.i Zem.r [] true (fun x => Zem.f k (x.1) (x.2)) (fun _ _ => rfl) (by kernel_rfl) (Zem.eq k)
noncomputable def Zem.pk (k : Nat) : Pk Tryz.prog DD := ⟨18, Zem.D k, Zem.sound k, Zaq Tryz.func18 (by kernel_rfl) (by kernel_rfl)⟩
/-! ### pyx/entry.Right: function 55 -/
noncomputable def Zaj.l4.once (k : Nat) (x : T6g) : Option (T6g ⊕ ((List Za × Int) ⊕ Int)) := match x with | (x5, x6, x7, x8, x9) => cond (decide (x9 < x8)) (cond (inb x9 (List.length x7)) ((Zbx.f k (⟨(List.getD x7 (Int.toNat x9) Za.zero).Zdx, (⟨((List.getD x7 (Int.toNat x9) Za.zero).Zp).f_Neg, ((((List.getD x7 (Int.toNat x9) Za.zero).Zp).f_C).1, (((List.getD x7 (Int.toNat x9) Za.zero).Zp).f_C).2), ((List.getD x7 (Int.toNat x9) Za.zero).Zp).Zo⟩ : Zg), (List.getD x7 (Int.toNat x9) Za.zero).Zet⟩ : Za) x6).bind fun t10 => (cond (!t10) (some (.inr (.inr 1))) (some (.inl (x5, x6, x7, x8, IntKind.wrap .i64 (x9 + 1)))))) none) (some (.inr (.inl (x5, x6))))
noncomputable def Zaj.l11.once (k : Nat) (x : T6f) : Option (T6f ⊕ ((Bool × Int × Int × Int) ⊕ Int)) := match x with | (x20, x21, x22, x16, x17, x18, x19) => cond (decide (x22 < x21)) (cond (inb x22 (List.length x20)) ((Zem.f k (⟨x16, (x17, x18), x19⟩ : Zg) (⟨((List.getD x20 (Int.toNat x22) Za.zero).Zp).f_Neg, ((((List.getD x20 (Int.toNat x22) Za.zero).Zp).f_C).1, (((List.getD x20 (Int.toNat x22) Za.zero).Zp).f_C).2), ((List.getD x20 (Int.toNat x22) Za.zero).Zp).Zo⟩ : Zg)).bind fun t23 => (cond (t23.2 != 0) (some (.inr (.inr t23.2))) (some (.inl (x20, x21, IntKind.wrap .i64 (x22 + 1), t23.1.f_Neg, t23.1.f_C.1, t23.1.f_C.2, t23.1.Zo))))) none) (some (.inr (.inl (x16, x17, x18, x19))))
noncomputable def Zaj.f (k : Nat) (a0 : List Za) (a1 : Int) : Option Int := ((cond ((List.length a0 : Int) == 0) (some (a0, a1, true)) (some (a0, a1, decide ((List.length a0 : Int) > 8)))) : Option (List Za × Int × Bool)).bind fun y4 => (cond (y4.2.2) (some 1) ((iter (Zaj.l4.once k) k (y4.1, y4.2.1, y4.1, (List.length y4.1 : Int), 0)).bind fun | .inl y14 => ((Zez.f k 0 y14.2).bind fun t15 => ((iter (Zaj.l11.once k) k (y14.1, (List.length y14.1 : Int), 0, t15.f_Neg, t15.f_C.1, t15.f_C.2, t15.Zo)).bind fun | .inl y29 => ((Zeb.f k (⟨y29.1, (y29.2.1, y29.2.2.1), y29.2.2.2⟩ : Zg)).bind fun t30 => (cond (t30 != 0) (some 9) (some 0))) | .inr y31 => (some y31))) | .inr y32 => (some y32)))
noncomputable def Zaj.i : Lay U (List Za × Int) := (pcAnd (pcOne 0 (tAt (vRow DD C.Za))) (pcOne 1 (tAt (vInt .i64)))).lay (fun _ => by kernel_rfl)
noncomputable def Zaj.r : Lay U Int := (pcOne 0 (tAt (vInt .i64))).lay (fun _ => by kernel_rfl)
noncomputable def Zaj.D (k : Nat) : FDen U := fdn Zaj.i Zaj.r Tryz.f55.ntmps [] true (fun x => Zaj.f k (x.1) (x.2)) (fun _ _ => rfl)
noncomputable def Zaj.l4.i : Lay U T6g := (lay [(0, sAt (vRow DD C.Za)), (1, sAt (vInt .i64)), (19, sAt (vRow DD C.Za)), (20, sAt (vInt .i64)), (21, sAt (vInt .i64))] [] (fun _ => by kernel_rfl))
noncomputable def Zaj.l4.o : OLay U ((List Za × Int) ⊕ Int) := oOr (oExit 0 (lay [(0, sAt (vRow DD C.Za)), (1, sAt (vInt .i64))] [] (fun _ => by kernel_rfl))) (oRet Zaj.r)
noncomputable def Zaj.l11.i : Lay U T6f := (lay [(7, sPtr 7 0), (32, sAt (vRow DD C.Za)), (33, sAt (vInt .i64)), (34, sAt (vInt .i64))] [bLit 7 [vBool, (vInt .u64), (vInt .u64), (vInt .i64)]] (fun _ => by kernel_rfl))
noncomputable def Zaj.l11.o : OLay U ((Bool × Int × Int × Int) ⊕ Int) := oOr (oExit 2 (lay [(7, sPtr 7 0)] [bLit 7 [vBool, (vInt .u64), (vInt .u64), (vInt .i64)]] (fun _ => by kernel_rfl))) (oRet Zaj.r)
noncomputable def Zaj.j1000 : Jk U := ⟨(List Za × Int × Bool), oNorm (lay [(0, sAt (vRow DD C.Za)), (1, sAt (vInt .i64)), (18, sAt vBool)] [] (fun _ => by kernel_rfl))⟩
noncomputable def Zaj.E (k : Nat) : Env U := mkE Tryz.f55 [Zbx.pk k, Zez.pk k, Zem.pk k, Zeb.pk k] [(1000, Zaj.j1000)] [(4, ldn Zaj.l4.i Zaj.l4.o (iter (Zaj.l4.once k) k)), (11, ldn Zaj.l11.i Zaj.l11.o (iter (Zaj.l11.once k) k))] [] n0 n0 [] false n00 nl0 []
theorem Zaj.l4.eq (k : Nat) (x : T6g) : evC (Zaj.E k) (loopAt Tryz.f55 4) (Zaj.l4.i.put x) (headK Zaj.l4.i.un Zaj.l4.o.re) = Zaj.l4.once k x := by kernel_rfl
theorem Zaj.l4.sound (k : Nat) : LSound (Zaj.E k) Tryz.f55.ntmps Tryz.f55 (loopAt Tryz.f55 4) (ldn Zaj.l4.i Zaj.l4.o (iter (Zaj.l4.once k) k)) :=
  loopP (Zbq _ _ _ _ _ _ _ _ _ _ _ _) mixed rfl (by kernel_rfl) (Zap (l := []) (by kernel_rfl) Zah) Zaj.l4.i Zaj.l4.o (Zaj.l4.once k) k (Zaj.l4.eq k)
theorem Zaj.l11.eq (k : Nat) (x : T6f) : evC (Zaj.E k) (loopAt Tryz.f55 11) (Zaj.l11.i.put x) (headK Zaj.l11.i.un Zaj.l11.o.re) = Zaj.l11.once k x := by kernel_rfl
theorem Zaj.l11.sound (k : Nat) : LSound (Zaj.E k) Tryz.f55.ntmps Tryz.f55 (loopAt Tryz.f55 11) (ldn Zaj.l11.i Zaj.l11.o (iter (Zaj.l11.once k) k)) :=
  loopP (Zbq _ _ _ _ _ _ _ _ _ _ _ _) mixed rfl (by kernel_rfl) (Zap (l := []) (by kernel_rfl) Zah) Zaj.l11.i Zaj.l11.o (Zaj.l11.once k) k (Zaj.l11.eq k)
theorem Zaj.eq (k : Nat) (x : (List Za × Int)) : runF (Zaj.E k) (codeOf Tryz.f55) (Zaj.i.put x) Zaj.r.un = Zaj.f k (x.1) (x.2) := by kernel_rfl
theorem Zaj.sound (k : Nat) : Sound Tryz.prog DD 55 (Zaj.D k) :=
  funP (E := Zaj.E k) (fn := Tryz.f55) (c := codeOf Tryz.f55) (Zbq _ _ _ _ _ _ _ _ _ _ _ _) mixed rfl Tryz.func55 (by kernel_rfl) (by kernel_rfl) (Zap (l := [loopAt Tryz.f55 4, loopAt Tryz.f55 11]) (by kernel_rfl) (Zdj (key := 4) (by kernel_rfl) rfl (Zaj.l4.sound k) (Zdj (key := 11) (by kernel_rfl) rfl (Zaj.l11.sound k) Zah))) Zaj.i Zaj.r [] true (fun x => Zaj.f k (x.1) (x.2)) (fun _ _ => rfl) (by kernel_rfl) (Zaj.eq k)
noncomputable def Zaj.pk (k : Nat) : Pk Tryz.prog DD := ⟨55, Zaj.D k, Zaj.sound k, Zaq Tryz.func55 (by kernel_rfl) (by kernel_rfl)⟩
/-! ### (*pyx/ledger.Book).Post: function 14 -/
noncomputable def Zbz.f (k : Nat) (a0 : Zi) (a1 : Int) (a2 : List Za) : Option (Int × Int × Zi) := (Zaj.f k a2 a0.Zbw).bind fun t1 => (cond (t1 != 0) (some (0, t1, (⟨a0.Zbw, a0.f_l, (⟨pack 12 false a0.f_t.Zk, pack 12 0 a0.f_t.Zh⟩ : Ze)⟩ : Zi))) ((Zcf.f k (⟨a0.Zbw, a0.f_l, (⟨pack 12 false a0.f_t.Zk, pack 12 0 a0.f_t.Zh⟩ : Ze)⟩ : Zi) (⟨a1, a2, (-1)⟩ : Zc)).bind fun t2 => (some (t2.1, t2.2.1, (⟨t2.2.2.Zbw, t2.2.2.f_l, (⟨pack 12 false t2.2.2.f_t.Zk, pack 12 0 t2.2.2.f_t.Zh⟩ : Ze)⟩ : Zi)))))
noncomputable def Zbz.i : Lay U (Zi × Int × List Za) := (pcGh 1000000000000000 7000000000000 (pcAnd (pcOne 0 (Zcg 7000000000000 7000000000000)) (pcAnd (pcOne 1 (tAt (vInt .i64))) (pcOne 2 (tAt (vRow DD C.Za)))))).lay (fun _ => by kernel_rfl)
noncomputable def Zbz.r : Lay U (Int × Int × Zi) := (pcIso (pcAnd (pcTup 0 (tqCons (tAt (vInt .i64)) (tqOne (tAt (vInt .i64))))) (pcOne 1000000000000000 (Zcg 7000000000000 7000000000000))) (fun x => ((x.1.1, x.1.2, x.2) : (Int × Int × Zi))) (fun x => ((x.1, x.2.1), x.2.2)) (fun _ => rfl)).lay (fun _ => by kernel_rfl)
noncomputable def Zbz.D (k : Nat) : FDen U := fdn Zbz.i Zbz.r Tryz.f14.ntmps [0] false (fun x => Zbz.f k (x.1) (x.2.1) (x.2.2)) (fun h => by cases h)
noncomputable def Zbz.E (k : Nat) : Env U := mkE Tryz.f14 [Zaj.pk k, Zcf.pk k] [] [] [] n0 n0 [0] false n00 nl0 []
theorem Zbz.eq (k : Nat) (x : (Zi × Int × List Za)) : runF (Zbz.E k) (codeOf Tryz.f14) (Zbz.i.put x) Zbz.r.un = Zbz.f k (x.1) (x.2.1) (x.2.2) := by kernel_rfl
theorem Zbz.sound (k : Nat) : Sound Tryz.prog DD 14 (Zbz.D k) :=
  funP (E := Zbz.E k) (fn := Tryz.f14) (c := codeOf Tryz.f14) (Zbq _ _ _ _ _ _ _ _ _ _ _ _) mixed rfl Tryz.func14 (by kernel_rfl) (by kernel_rfl) (Zap (l := []) (by kernel_rfl) Zah) Zbz.i Zbz.r [0] false (fun x => Zbz.f k (x.1) (x.2.1) (x.2.2)) (fun h => by cases h) (by kernel_rfl) (Zbz.eq k)
noncomputable def Zbz.pk (k : Nat) : Pk Tryz.prog DD := ⟨14, Zbz.D k, Zbz.sound k, Zaq Tryz.func14 (by kernel_rfl) (by kernel_rfl)⟩
/-! ### pyx/pyxlaw15.books: function 25 -/
noncomputable def Zan.l6.once (k : Nat) (x : T6b) : Option (T6b ⊕ T6c) := match x with | (x3, x58, x4, x5, x30, x31, x32, x57) => ((cond (decide (x58 < (List.length x3 : Int))) (some (x3, x58, decide (x58 < 14), x4, x5, (⟨pack 12 false x30.Zk, pack 12 0 x30.Zh⟩ : Ze), x31, x32, (⟨pack 12 false x57.Zk, pack 12 0 x57.Zh⟩ : Zd))) (some (x3, x58, false, x4, x5, (⟨pack 12 false x30.Zk, pack 12 0 x30.Zh⟩ : Ze), x31, x32, (⟨pack 12 false x57.Zk, pack 12 0 x57.Zh⟩ : Zd)))) : Option T6a).bind fun y116 => (cond (y116.2.2.1) (((cond (inb y116.2.1 (List.length y116.1)) ((Zas.f k ((List.getD y116.1 (Int.toNat y116.2.1) Zag.zero).Zfq) 8).bind fun t117 => (cond (t117 == 0) ((Zas.f k ((List.getD y116.1 (Int.toNat y116.2.1) Zag.zero).f_B) 3).bind fun t118 => ((Zby.f k (⟨y116.2.2.2.1, y116.2.2.2.2.1, (⟨pack 12 false y116.2.2.2.2.2.1.Zk, pack 12 0 y116.2.2.2.2.2.1.Zh⟩ : Ze)⟩ : Zi) t118).bind fun t119 => (some (y116.1, y116.2.1, t119.2.Zbw, t119.2.f_l, (⟨pack 12 false t119.2.f_t.Zk, pack 12 0 t119.2.f_t.Zh⟩ : Ze), y116.2.2.2.2.2.2.1, y116.2.2.2.2.2.2.2.1, (⟨pack 12 false y116.2.2.2.2.2.2.2.2.Zk, pack 12 0 y116.2.2.2.2.2.2.2.2.Zh⟩ : Zd))))) (cond (t117 == 1) ((Zas.f k ((List.getD y116.1 (Int.toNat y116.2.1) Zag.zero).f_N) 5).bind fun t176 => ((Zas.f k ((List.getD y116.1 (Int.toNat y116.2.1) Zag.zero).f_B) 3).bind fun t177 => ((Zbe.f k (⟨y116.2.2.2.1, y116.2.2.2.2.1, (⟨pack 12 false y116.2.2.2.2.2.1.Zk, pack 12 0 y116.2.2.2.2.2.1.Zh⟩ : Ze)⟩ : Zi) t176 t177).bind fun t178 => (some (y116.1, y116.2.1, t178.2.2.Zbw, t178.2.2.f_l, (⟨pack 12 false t178.2.2.f_t.Zk, pack 12 0 t178.2.2.f_t.Zh⟩ : Ze), y116.2.2.2.2.2.2.1, y116.2.2.2.2.2.2.2.1, (⟨pack 12 false y116.2.2.2.2.2.2.2.2.Zk, pack 12 0 y116.2.2.2.2.2.2.2.2.Zh⟩ : Zd)))))) (cond (t117 == 2) ((Zas.f k ((List.getD y116.1 (Int.toNat y116.2.1) Zag.zero).f_B) 3).bind fun t179 => ((Zbv.f k (⟨y116.2.2.2.1, y116.2.2.2.2.1, (⟨pack 12 false y116.2.2.2.2.2.1.Zk, pack 12 0 y116.2.2.2.2.2.1.Zh⟩ : Ze)⟩ : Zi) t179).bind fun t180 => (some (y116.1, y116.2.1, t180.2.Zbw, t180.2.f_l, (⟨pack 12 false t180.2.f_t.Zk, pack 12 0 t180.2.f_t.Zh⟩ : Ze), y116.2.2.2.2.2.2.1, y116.2.2.2.2.2.2.2.1, (⟨pack 12 false y116.2.2.2.2.2.2.2.2.Zk, pack 12 0 y116.2.2.2.2.2.2.2.2.Zh⟩ : Zd))))) ((Zas.f k ((List.getD y116.1 (Int.toNat y116.2.1) Zag.zero).f_B) 3).bind fun t181 => ((Zu.f k ((List.getD y116.1 (Int.toNat y116.2.1) Zag.zero).f_L) y116.2.2.2.2.2.2.1 0 4).bind fun t182 => ((Zbz.f k (⟨y116.2.2.2.1, y116.2.2.2.2.1, (⟨pack 12 false y116.2.2.2.2.2.1.Zk, pack 12 0 y116.2.2.2.2.2.1.Zh⟩ : Ze)⟩ : Zi) t181 t182).bind fun t183 => (some (y116.1, y116.2.1, t183.2.2.Zbw, t183.2.2.f_l, (⟨pack 12 false t183.2.2.f_t.Zk, pack 12 0 t183.2.2.f_t.Zh⟩ : Ze), y116.2.2.2.2.2.2.1, y116.2.2.2.2.2.2.2.1, (⟨pack 12 false y116.2.2.2.2.2.2.2.2.Zk, pack 12 0 y116.2.2.2.2.2.2.2.2.Zh⟩ : Zd)))))))))) none) : Option T6b).bind fun y184 => (some (.inl (y184.1, IntKind.wrap .i64 (y184.2.1 + 1), y184.2.2.1, y184.2.2.2.1, (⟨pack 12 false y184.2.2.2.2.1.Zk, pack 12 0 y184.2.2.2.2.1.Zh⟩ : Ze), y184.2.2.2.2.2.1, y184.2.2.2.2.2.2.1, (⟨pack 12 false y184.2.2.2.2.2.2.2.Zk, pack 12 0 y184.2.2.2.2.2.2.2.Zh⟩ : Zd))))) (some (.inr (y116.2.2.2.1, y116.2.2.2.2.1, (⟨pack 12 false y116.2.2.2.2.2.1.Zk, pack 12 0 y116.2.2.2.2.2.1.Zh⟩ : Ze), y116.2.2.2.2.2.2.1, y116.2.2.2.2.2.2.2.1, (⟨pack 12 false y116.2.2.2.2.2.2.2.2.Zk, pack 12 0 y116.2.2.2.2.2.2.2.2.Zh⟩ : Zd)))))
noncomputable def Zan.f (k : Nat) (a0 : List Zag) (a1 : Int) : Option (Zi × Zr) := (Zea.f k a1).bind fun t1 => ((Zbc.f k a0 a1).bind fun t2 => ((iter (Zan.l6.once k) k (a0, 0, t1.Zbw, t1.f_l, (⟨pack 12 false t1.f_t.Zk, pack 12 0 t1.f_t.Zh⟩ : Ze), t2.Zo, t2.f_L, (⟨pack 12 false t2.f_T.Zk, pack 12 0 t2.f_T.Zh⟩ : Zd))).bind fun y239 => (some ((⟨y239.1, y239.2.1, (⟨pack 12 false y239.2.2.1.Zk, pack 12 0 y239.2.2.1.Zh⟩ : Ze)⟩ : Zi), (⟨y239.2.2.2.1, y239.2.2.2.2.1, (⟨pack 12 false y239.2.2.2.2.2.Zk, pack 12 0 y239.2.2.2.2.2.Zh⟩ : Zd)⟩ : Zr)))))
noncomputable def Zan.i : Lay U (List Zag × Int) := (pcAnd (pcOne 0 (tAt (vRow DD C.Zag))) (pcOne 1 (tAt (vInt .i64)))).lay (fun _ => by kernel_rfl)
noncomputable def Zan.r : Lay U (Zi × Zr) := (pcTup 0 (tqCons (Zcg 120000000000007 6000000000000) (tqOne (Zcq 250000000000006 6000000001000)))).lay (fun _ => by kernel_rfl)
noncomputable def Zan.D (k : Nat) : FDen U := fdn Zan.i Zan.r Tryz.f25.ntmps [] false (fun x => Zan.f k (x.1) (x.2)) (fun h => by cases h)
noncomputable def Zan.l6.i : Lay U T6b := (lay [(6, sPtr 120000000000007 0), (7, sPtr 250000000000006 0), (0, sAt (vRow DD C.Zag)), (8, sAt (vInt .i64))] [bLitT 120000000000007 [(vInt .i64), (vTip DD 12000002000600701 C.Zc 3)] Zat, bLitT 250000000000006 [(vInt .i64), (vTip DD 25000002000600601 C.Zc 3)] Zaw] (fun _ => by kernel_rfl))
noncomputable def Zan.l6.o : OLay U T6c := oExit 0 (lay [(6, sPtr 120000000000007 0), (7, sPtr 250000000000006 0)] [bLitT 120000000000007 [(vInt .i64), (vTip DD 12000002000600701 C.Zc 3)] Zat, bLitT 250000000000006 [(vInt .i64), (vTip DD 25000002000600601 C.Zc 3)] Zaw] (fun _ => by kernel_rfl))
noncomputable def Zan.j6000 : Jk U := ⟨T6a, oNorm (lay [(6, sPtr 120000000000007 0), (7, sPtr 250000000000006 0), (0, sAt (vRow DD C.Zag)), (8, sAt (vInt .i64)), (25, sAt vBool)] [bLitT 120000000000007 [(vInt .i64), (vTip DD 12000102600000701 C.Zc 3)] Zat, bLitT 250000000000006 [(vInt .i64), (vTip DD 25000102600000601 C.Zc 3)] Zaw] (fun _ => by kernel_rfl))⟩
noncomputable def Zan.j8001 : Jk U := ⟨T6b, oNorm (lay [(6, sPtr 120000000000007 0), (7, sPtr 250000000000006 0), (0, sAt (vRow DD C.Zag)), (8, sAt (vInt .i64))] [bLitT 120000000000007 [(vInt .i64), (vTip DD 12000102800100701 C.Zc 3)] Zat, bLitT 250000000000006 [(vInt .i64), (vTip DD 25000102800100601 C.Zc 3)] Zaw] (fun _ => by kernel_rfl))⟩
noncomputable def Zan.E (k : Nat) : Env U := mkE Tryz.f25 [Zea.pk k, Zbc.pk k, Zas.pk k, Zby.pk k, Zbe.pk k, Zbv.pk k, Zu.pk k, Zbz.pk k] [(6000, Zan.j6000), (8001, Zan.j8001)] [(6, ldn Zan.l6.i Zan.l6.o (iter (Zan.l6.once k) k))] [] n0 n0 [] false n00 nl0 []
theorem Zan.l6.eq (k : Nat) (x : T6b) : evC (Zan.E k) (loopAt Tryz.f25 6) (Zan.l6.i.put x) (headK Zan.l6.i.un Zan.l6.o.re) = Zan.l6.once k x := by kernel_rfl
theorem Zan.l6.sound (k : Nat) : LSound (Zan.E k) Tryz.f25.ntmps Tryz.f25 (loopAt Tryz.f25 6) (ldn Zan.l6.i Zan.l6.o (iter (Zan.l6.once k) k)) :=
  loopP (Zbq _ _ _ _ _ _ _ _ _ _ _ _) mixed rfl (by kernel_rfl) (Zap (l := []) (by kernel_rfl) Zah) Zan.l6.i Zan.l6.o (Zan.l6.once k) k (Zan.l6.eq k)
theorem Zan.eq (k : Nat) (x : (List Zag × Int)) : runF (Zan.E k) (codeOf Tryz.f25) (Zan.i.put x) Zan.r.un = Zan.f k (x.1) (x.2) := by kernel_rfl
theorem Zan.sound (k : Nat) : Sound Tryz.prog DD 25 (Zan.D k) :=
  funP (E := Zan.E k) (fn := Tryz.f25) (c := codeOf Tryz.f25) (Zbq _ _ _ _ _ _ _ _ _ _ _ _) mixed rfl Tryz.func25 (by kernel_rfl) (by kernel_rfl) (Zap (l := [loopAt Tryz.f25 6]) (by kernel_rfl) (Zdj (key := 6) (by kernel_rfl) rfl (Zan.l6.sound k) Zah)) Zan.i Zan.r [] false (fun x => Zan.f k (x.1) (x.2)) (fun h => by cases h) (by kernel_rfl) (Zan.eq k)
noncomputable def Zan.pk (k : Nat) : Pk Tryz.prog DD := ⟨25, Zan.D k, Zan.sound k, Zaq Tryz.func25 (by kernel_rfl) (by kernel_rfl)⟩
/-! ### (*pyx/ledger.Book).Periods: function 30 -/
noncomputable def Zbp.f (k : Nat) (a0 : Zi) : Option (Ze × Zi) := some ((⟨pack 12 false a0.f_t.Zk, pack 12 0 a0.f_t.Zh⟩ : Ze), (⟨a0.Zbw, a0.f_l, (⟨pack 12 false a0.f_t.Zk, pack 12 0 a0.f_t.Zh⟩ : Ze)⟩ : Zi))
noncomputable def Zbp.i : Lay U Zi := (pcGh 1000000000000000 7000000000000 (pcOne 0 (Zcg 7000000000000 7000000000000))).lay (fun _ => by kernel_rfl)
noncomputable def Zbp.r : Lay U (Ze × Zi) := (pcAnd (pcOne 0 (tAt (vCd Zat))) (pcOne 1000000000000000 (Zcg 7000000000000 7000000000000))).lay (fun _ => by kernel_rfl)
noncomputable def Zbp.D (k : Nat) : FDen U := fdn Zbp.i Zbp.r Tryz.f30.ntmps [0] false (fun x => Zbp.f k (x)) (fun h => by cases h)
noncomputable def Zbp.E (k : Nat) : Env U := mkE Tryz.f30 [] [] [] [] n0 n0 [0] false n00 nl0 []
theorem Zbp.eq (k : Nat) (x : Zi) : runF (Zbp.E k) (codeOf Tryz.f30) (Zbp.i.put x) Zbp.r.un = Zbp.f k (x) := by kernel_rfl
theorem Zbp.sound (k : Nat) : Sound Tryz.prog DD 30 (Zbp.D k) :=
  funP (E := Zbp.E k) (fn := Tryz.f30) (c := codeOf Tryz.f30) (Zbq _ _ _ _ _ _ _ _ _ _ _ _) mixed rfl Tryz.func30 (by kernel_rfl) (by kernel_rfl) (Zap (l := []) (by kernel_rfl) Zah) Zbp.i Zbp.r [0] false (fun x => Zbp.f k (x)) (fun h => by cases h) (by kernel_rfl) (Zbp.eq k)
noncomputable def Zbp.pk (k : Nat) : Pk Tryz.prog DD := ⟨30, Zbp.D k, Zbp.sound k, Zaq Tryz.func30 (by kernel_rfl) (by kernel_rfl)⟩
/-! ### slices.Clone[[]pyx/api.Entry,pyx/api.Entry]: function 111 -/
noncomputable def Zv.f (k : Nat) (a0 : List Zc) : Option (List Zc) := cond (okLen (List.length ([] : List Zc) + List.length a0) 40) (some (([] : List Zc) ++ a0)) none
noncomputable def Zv.un (s : St U) : Option (List Zc) := match s.get 0 with | .row C.Zc x1 => some x1 | _ => none
noncomputable def Zv.mk (x : List Zc) : St U := ⟨[(0, .row C.Zc x)], []⟩
noncomputable def Zv.fin (y : List Zc) : St U := ⟨[(0, .row C.Zc y)], []⟩
noncomputable def Zv.D (k : Nat) : FDen U := { X := List Zc, Y := List Zc, nt := 8, gh := [], un := Zv.un, f := fun x => Zv.f k (x), fin := Zv.fin, cl := true, clo := fun _ _ => rfl }
noncomputable def Zv.re (s : St U) : Option (List Zc) := match s.get 0 with | .row C.Zc x1 => some x1 | _ => none
noncomputable def Zv.jl : List (Nat × JDen U) := []
noncomputable def Zv.fl (k : Nat) : List (Nat × FDen U) := []
noncomputable def Zv.ll (k : Nat) : List (Nat × LDen U) := []
noncomputable def Zv.E (k : Nat) : Env U := { P := Tryz.prog, D := DD, fd := lk (Zv.fl k), sf := lk sl0, ld := lk (Zv.ll k), jd := lk Zv.jl, mode := lk [], elc := lk ec, mpc := lk mc, rts := Tryz.f111.resultTypes.toList, dyn := fun t => false, vecs := fun d => false, results := Tryz.f111.results.toList, gh := [], own := false, io := fun g i => false, lds := nl0, fn := lk [] }
theorem Zv.ok (k : Nat) : EnvOk (Zv.E k) := envOk lawful (Zv.fl k) sl0 (Zv.ll k) Zv.jl _ _ _ _ _ _ _ _ _ _ _ [] (by
  intro p hp
  simp [Zv.fl] at hp) sl0_ok (by
  intro p hp
  simp [Zv.jl] at hp) (fun _ h => (List.not_mem_nil h).elim)
theorem Zv.fitR (s : St U) (y : List Zc) (h : Zv.re s = some y) : Fits s (Zv.fin y) := by
  unfold Zv.re at h
  split at h
  · cases h
    refine Zfl [] ?_ ?_ ren_nil rfl
    · exact List.forall_mem_cons.2 ⟨FV.one (FV.same (by assumption) rfl), fun _ hp => (List.not_mem_nil hp).elim⟩
    · exact fun _ hp => (List.not_mem_nil hp).elim
  · cases h
noncomputable def Zv.mkn (g : Bool) (x : List Zc) : St U := ⟨[(0, .nrow g C.Zc x)], []⟩
theorem Zv.eq (k : Nat) (x : List Zc) : runF (Zv.E k) (codeOf Tryz.f111) (Zv.mkn true x) Zv.re = (Zv.D k).f x := by kernel_rfl
theorem Zv.eqN (k : Nat) : runF (Zv.E k) (codeOf Tryz.f111) (Zv.mkn false []) Zv.re = (Zv.D k).f [] := by kernel_rfl
theorem Zv.sound (k : Nat) : Sound Tryz.prog DD 111 (Zv.D k) :=
  fun_sound_nil (E := Zv.E k) (fn := Tryz.f111) (c := codeOf Tryz.f111) (Zv.ok k) mixed rfl Tryz.func111 (by kernel_rfl) (by kernel_rfl) (Zap (l := []) (by kernel_rfl) Zah) C.Zc (Zv.D k) Zv.mkn (fun x => x) Zv.re (by kernel_rfl) (by kernel_rfl)
    (by intro m x h; replace h : Zv.un m = some x := h; unfold Zv.un at h; split at h; · cases h; assumption
        · cases h)
    (fun _ _ => rfl) Zv.fitR (Zv.eq k) (by intro x h; replace h : x = [] := h; subst h; exact Zv.eqN k)
noncomputable def Zv.pk (k : Nat) : Pk Tryz.prog DD := ⟨111, Zv.D k, Zv.sound k, Zaq Tryz.func111 (by kernel_rfl) (by kernel_rfl)⟩
/-! ### slices.Clip[[]pyx/api.Entry,pyx/api.Entry]: function 110 -/
noncomputable def Zbt.f (k : Nat) (a0 : List Zc) : Option (List Zc) := cond (decide ((List.length a0 : Int) = (List.length a0 : Int)) && inS 0 (List.length a0 : Int) (List.length a0)) (some (List.take (Int.toNat (List.length a0 : Int)) a0)) none
noncomputable def Zbt.i : Lay U (List Zc) := (pcOne 0 (tAt (vRow DD C.Zc))).lay (fun _ => by kernel_rfl)
noncomputable def Zbt.r : Lay U (List Zc) := (pcOne 0 (tAt (vRow DD C.Zc))).lay (fun _ => by kernel_rfl)
noncomputable def Zbt.D (k : Nat) : FDen U := fdn Zbt.i Zbt.r Tryz.f110.ntmps [] true (fun x => Zbt.f k (x)) (fun _ _ => rfl)
noncomputable def Zbt.E (k : Nat) : Env U := mkE Tryz.f110 [] [] [] [] n0 n0 [] false n00 nl0 []
theorem Zbt.eq (k : Nat) (x : List Zc) : runF (Zbt.E k) (codeOf Tryz.f110) (Zbt.i.put x) Zbt.r.un = Zbt.f k (x) := by kernel_rfl
theorem Zbt.sound (k : Nat) : Sound Tryz.prog DD 110 (Zbt.D k) :=
  funP (E := Zbt.E k) (fn := Tryz.f110) (c := codeOf Tryz.f110) (Zbq _ _ _ _ _ _ _ _ _ _ _ _) mixed rfl Tryz.func110 (by kernel_rfl) (by kernel_rfl) (Zap (l := []) (by kernel_rfl) Zah) Zbt.i Zbt.r [] true (fun x => Zbt.f k (x)) (fun _ _ => rfl) (by kernel_rfl) (Zbt.eq k)
noncomputable def Zbt.pk (k : Nat) : Pk Tryz.prog DD := ⟨110, Zbt.D k, Zbt.sound k, Zaq Tryz.func110 (by kernel_rfl) (by kernel_rfl)⟩
/-! ### slices.Clip[[]pyx/api.Line,pyx/api.Line]: function 112 -/
noncomputable def Zbm.f (k : Nat) (a0 : List Za) : Option (List Za) := cond (decide ((List.length a0 : Int) = (List.length a0 : Int)) && inS 0 (List.length a0 : Int) (List.length a0)) (some (List.take (Int.toNat (List.length a0 : Int)) a0)) none
noncomputable def Zbm.i : Lay U (List Za) := (pcOne 0 (tAt (vRow DD C.Za))).lay (fun _ => by kernel_rfl)
noncomputable def Zbm.r : Lay U (List Za) := (pcOne 0 (tAt (vRow DD C.Za))).lay (fun _ => by kernel_rfl)
noncomputable def Zbm.D (k : Nat) : FDen U := fdn Zbm.i Zbm.r Tryz.f112.ntmps [] true (fun x => Zbm.f k (x)) (fun _ _ => rfl)
noncomputable def Zbm.E (k : Nat) : Env U := mkE Tryz.f112 [] [] [] [] n0 n0 [] false n00 nl0 []
theorem Zbm.eq (k : Nat) (x : List Za) : runF (Zbm.E k) (codeOf Tryz.f112) (Zbm.i.put x) Zbm.r.un = Zbm.f k (x) := by kernel_rfl
theorem Zbm.sound (k : Nat) : Sound Tryz.prog DD 112 (Zbm.D k) :=
  funP (E := Zbm.E k) (fn := Tryz.f112) (c := codeOf Tryz.f112) (Zbq _ _ _ _ _ _ _ _ _ _ _ _) mixed rfl Tryz.func112 (by kernel_rfl) (by kernel_rfl) (Zap (l := []) (by kernel_rfl) Zah) Zbm.i Zbm.r [] true (fun x => Zbm.f k (x)) (fun _ _ => rfl) (by kernel_rfl) (Zbm.eq k)
noncomputable def Zbm.pk (k : Nat) : Pk Tryz.prog DD := ⟨112, Zbm.D k, Zbm.sound k, Zaq Tryz.func112 (by kernel_rfl) (by kernel_rfl)⟩
/-! ### slices.Clone[[]pyx/api.Entry,pyx/api.Entry]: function 111 -/
noncomputable def Zq.f (k : Nat) (a0 : List Zc) : Option (List Zc) := cond (okLen (List.length ([] : List Zc) + List.length a0) 40) (some (([] : List Zc) ++ a0)) none
noncomputable def Zq.un (s : St U) : Option (List Zc) := match s.get 0 with | .row C.Zc x1 => some x1 | _ => none
noncomputable def Zq.mk (x : List Zc) : St U := ⟨[(0, .row C.Zc x)], []⟩
noncomputable def Zq.fin (y : List Zc) : St U := ⟨[(0, .vs 6000000000000)], [(6000000000000, .vec C.Zc y)]⟩
noncomputable def Zq.D (k : Nat) : FDen U := { X := List Zc, Y := List Zc, nt := 8, gh := [], un := Zq.un, f := fun x => Zq.f k (x), fin := Zq.fin, cl := false, clo := fun h => by cases h }
noncomputable def Zq.re (s : St U) : Option (List Zc) := (vec_Sapi_Entry s.o (s.get 0)).bind fun ex1 => (some ex1.2)
noncomputable def Zq.jl : List (Nat × JDen U) := []
noncomputable def Zq.fl (k : Nat) : List (Nat × FDen U) := []
noncomputable def Zq.ll (k : Nat) : List (Nat × LDen U) := []
noncomputable def Zq.E (k : Nat) : Env U := { P := Tryz.prog, D := DD, fd := lk (Zq.fl k), sf := lk sl0, ld := lk (Zq.ll k), jd := lk Zq.jl, mode := lk [], elc := lk ec, mpc := lk mc, rts := Tryz.f111.resultTypes.toList, dyn := fun t => false, vecs := fun d => Nat.beq d 5, results := Tryz.f111.results.toList, gh := [], own := true, io := fun g i => false, lds := nl0, fn := lk [] }
theorem Zq.ok (k : Nat) : EnvOk (Zq.E k) := envOk lawful (Zq.fl k) sl0 (Zq.ll k) Zq.jl _ _ _ _ _ _ _ _ _ _ _ [] (by
  intro p hp
  simp [Zq.fl] at hp) sl0_ok (by
  intro p hp
  simp [Zq.jl] at hp) (fun _ h => (List.not_mem_nil h).elim)
theorem Zq.fitR (s : St U) (y : List Zc) (h : Zq.re s = some y) : Fits s (Zq.fin y) := by
  unfold Zq.re at h
  obtain ⟨ex1, hex1, hh1⟩ := Option.bind_eq_some_iff.1 h
  cases hh1
  refine Zfl [(6000000000000, ex1.1)] ?_ ?_ ren_one rfl
  · exact List.forall_mem_cons.2 ⟨FV.one ((vec_Sapi_Entry_fit hex1 rfl).1), fun _ hp => (List.not_mem_nil hp).elim⟩
  · exact List.forall_mem_cons.2 ⟨(vec_Sapi_Entry_fit hex1 rfl).2, fun _ hp => (List.not_mem_nil hp).elim⟩
noncomputable def Zq.mkn (g : Bool) (x : List Zc) : St U := ⟨[(0, .nrow g C.Zc x)], []⟩
theorem Zq.eq (k : Nat) (x : List Zc) : runF (Zq.E k) (codeOf Tryz.f111) (Zq.mkn true x) Zq.re = (Zq.D k).f x := by kernel_rfl
theorem Zq.eqN (k : Nat) : runF (Zq.E k) (codeOf Tryz.f111) (Zq.mkn false []) Zq.re = (Zq.D k).f [] := by kernel_rfl
theorem Zq.sound (k : Nat) : Sound Tryz.prog DD 111 (Zq.D k) :=
  fun_sound_nil (E := Zq.E k) (fn := Tryz.f111) (c := codeOf Tryz.f111) (Zq.ok k) mixed rfl Tryz.func111 (by kernel_rfl) (by kernel_rfl) (Zap (l := []) (by kernel_rfl) Zah) C.Zc (Zq.D k) Zq.mkn (fun x => x) Zq.re (by kernel_rfl) (by kernel_rfl)
    (by intro m x h; replace h : Zq.un m = some x := h; unfold Zq.un at h; split at h; · cases h; assumption
        · cases h)
    (fun _ _ => rfl) Zq.fitR (Zq.eq k) (by intro x h; replace h : x = [] := h; subst h; exact Zq.eqN k)
noncomputable def Zq.pk (k : Nat) : Pk Tryz.prog DD := ⟨111, Zq.D k, Zq.sound k, Zaq Tryz.func111 (by kernel_rfl) (by kernel_rfl)⟩
/-! ### slices.Clip[[]pyx/api.Entry,pyx/api.Entry]: function 110 -/
noncomputable def Zar.f (k : Nat) (a0 : List Zc) : Option (List Zc) := cond (decide ((List.length a0 : Int) = (List.length a0 : Int)) && decide ((List.length a0 : Int) = (List.length a0 : Int))) (some a0) none
noncomputable def Zar.i : Lay U (List Zc) := (pcOne 0 (tAt (vVec DD 7000000000000 C.Zc))).lay (fun _ => by kernel_rfl)
noncomputable def Zar.r : Lay U (List Zc) := (pcOne 0 (tAt (vVec DD 6000000000000 C.Zc))).lay (fun _ => by kernel_rfl)
noncomputable def Zar.D (k : Nat) : FDen U := fdn Zar.i Zar.r Tryz.f110.ntmps [] false (fun x => Zar.f k (x)) (fun h => by cases h)
noncomputable def Zar.E (k : Nat) : Env U := mkE Tryz.f110 [] [] [] [] n0 n0 [] true n00 nl0 []
theorem Zar.eq (k : Nat) (x : List Zc) : runF (Zar.E k) (codeOf Tryz.f110) (Zar.i.put x) Zar.r.un = Zar.f k (x) := by kernel_rfl
theorem Zar.sound (k : Nat) : Sound Tryz.prog DD 110 (Zar.D k) :=
  funP (E := Zar.E k) (fn := Tryz.f110) (c := codeOf Tryz.f110) (Zbq _ _ _ _ _ _ _ _ _ _ _ _) mixed rfl Tryz.func110 (by kernel_rfl) (by kernel_rfl) (Zap (l := []) (by kernel_rfl) Zah) Zar.i Zar.r [] false (fun x => Zar.f k (x)) (fun h => by cases h) (by kernel_rfl) (Zar.eq k)
noncomputable def Zar.pk (k : Nat) : Pk Tryz.prog DD := ⟨110, Zar.D k, Zar.sound k, Zaq Tryz.func110 (by kernel_rfl) (by kernel_rfl)⟩
/-! ### (*pyx/ledger.Book).Entries: function 57 -/
noncomputable def Zz.l5.once (k : Nat) (x : T6e) : Option (T6e ⊕ ((List Zc × Int × List Zc × Ze))) := match x with | (x4, x5, x3, x6, x7, x32) => cond (decide (x5 < x4)) (cond (inb x5 (List.length x3)) (cond (Nat.blt (Int.toNat x5) (List.length x3)) ((Zs.f k ((List.getD x3 (Int.toNat x5) Zc.zero).Zdm)).bind fun t33 => ((Zbm.f k t33).bind fun t34 => (cond (inb x5 (List.length x3)) (cond (Nat.blt (Int.toNat x5) (List.length x3)) (some (.inl (x4, IntKind.wrap .i64 (x5 + 1), List.set x3 (Int.toNat x5) (⟨(List.getD x3 (Int.toNat x5) Zc.zero).Zdi, t34, (List.getD x3 (Int.toNat x5) Zc.zero).f_Of⟩ : Zc), x6, x7, (⟨pack 12 false x32.Zk, pack 12 0 x32.Zh⟩ : Ze)))) none) none))) none) none) (some (.inr (x3, x6, x7, (⟨pack 12 false x32.Zk, pack 12 0 x32.Zh⟩ : Ze))))
noncomputable def Zz.f (k : Nat) (a0 : Zi) : Option (List Zc × Zi) := (Zq.f k a0.f_l).bind fun t1 => ((Zar.f k t1).bind fun t2 => ((iter (Zz.l5.once k) k ((List.length t2 : Int), 0, t2, a0.Zbw, a0.f_l, (⟨pack 12 false a0.f_t.Zk, pack 12 0 a0.f_t.Zh⟩ : Ze))).bind fun y63 => (some (y63.1, (⟨y63.2.1, y63.2.2.1, (⟨pack 12 false y63.2.2.2.Zk, pack 12 0 y63.2.2.2.Zh⟩ : Ze)⟩ : Zi)))))
noncomputable def Zz.i : Lay U Zi := (pcGh 1000000000000000 7000000000000 (pcOne 0 (Zcg 7000000000000 7000000000000))).lay (fun _ => by kernel_rfl)
noncomputable def Zz.r : Lay U (List Zc × Zi) := (pcAnd (pcOne 0 (tAt (vRow DD C.Zc))) (pcOne 1000000000000000 (Zcg 7000000000000 7000000000000))).lay (fun _ => by kernel_rfl)
noncomputable def Zz.D (k : Nat) : FDen U := fdn Zz.i Zz.r Tryz.f57.ntmps [0] false (fun x => Zz.f k (x)) (fun h => by cases h)
noncomputable def Zz.l5.i : Lay U T6e := ((pcIso (skPc [(1000000000000000, sPtr 7000000000000 0), (3, sAt (vVec DD 1005003 C.Zc)), (14, sAt (vInt .i64)), (15, sAt (vInt .i64))] [bLitT 7000000000000 [(vInt .i64), (vTip DD 700002000500001 C.Zc 3)] Zat]) (fun x => ((x.2.1, x.2.2.1, x.1, x.2.2.2.1, x.2.2.2.2.1, x.2.2.2.2.2) : T6e)) (fun x => (x.2.2.1, x.1, x.2.1, x.2.2.2.1, x.2.2.2.2.1, x.2.2.2.2.2)) (fun _ => rfl)).lay (fun _ => by kernel_rfl))
noncomputable def Zz.l5.o : OLay U ((List Zc × Int × List Zc × Ze)) := oExit 0 (lay [(1000000000000000, sPtr 7000000000000 0), (3, sAt (vVec DD 1005003 C.Zc))] [bLitT 7000000000000 [(vInt .i64), (vTip DD 700002000500001 C.Zc 3)] Zat] (fun _ => by kernel_rfl))
noncomputable def Zz.E (k : Nat) : Env U := mkE Tryz.f57 [Zq.pk k, Zar.pk k, Zs.pk k, Zbm.pk k] [] [(5, ldn Zz.l5.i Zz.l5.o (iter (Zz.l5.once k) k))] [] n0 (fun d => Nat.beq d 11 || Nat.beq d 12) [0] false (fun g i => (Nat.beq g 110 && Nat.beq i 0)) nl0 []
theorem Zz.l5.eq (k : Nat) (x : T6e) : evC (Zz.E k) (loopAt Tryz.f57 5) (Zz.l5.i.put x) (headK Zz.l5.i.un Zz.l5.o.re) = Zz.l5.once k x := by kernel_rfl
theorem Zz.l5.sound (k : Nat) : LSound (Zz.E k) Tryz.f57.ntmps Tryz.f57 (loopAt Tryz.f57 5) (ldn Zz.l5.i Zz.l5.o (iter (Zz.l5.once k) k)) :=
  loopP (Zbq _ _ _ _ _ _ _ _ _ _ _ _) mixed rfl (by kernel_rfl) (Zap (l := []) (by kernel_rfl) Zah) Zz.l5.i Zz.l5.o (Zz.l5.once k) k (Zz.l5.eq k)
theorem Zz.eq (k : Nat) (x : Zi) : runF (Zz.E k) (codeOf Tryz.f57) (Zz.i.put x) Zz.r.un = Zz.f k (x) := by kernel_rfl
theorem Zz.sound (k : Nat) : Sound Tryz.prog DD 57 (Zz.D k) :=
  funP (E := Zz.E k) (fn := Tryz.f57) (c := codeOf Tryz.f57) (Zbq _ _ _ _ _ _ _ _ _ _ _ _) mixed rfl Tryz.func57 (by kernel_rfl) (by kernel_rfl) (Zap (l := [loopAt Tryz.f57 5]) (by kernel_rfl) (Zdj (key := 5) (by kernel_rfl) rfl (Zz.l5.sound k) Zah)) Zz.i Zz.r [0] false (fun x => Zz.f k (x)) (fun h => by cases h) (by kernel_rfl) (Zz.eq k)
noncomputable def Zz.pk (k : Nat) : Pk Tryz.prog DD := ⟨57, Zz.D k, Zz.sound k, Zaq Tryz.func57 (by kernel_rfl) (by kernel_rfl)⟩
/-! ### pyx/chart.Retained: function 33 -/
noncomputable def Zdf.f (k : Nat)  : Option Int := some 8
noncomputable def Zdf.i : Lay U Unit := (pcUnit).lay (fun _ => by kernel_rfl)
noncomputable def Zdf.r : Lay U Int := (pcOne 0 (tAt (vInt .i64))).lay (fun _ => by kernel_rfl)
noncomputable def Zdf.D (k : Nat) : FDen U := fdn Zdf.i Zdf.r Tryz.f33.ntmps [] true (fun x => Zdf.f k ) (fun _ _ => rfl)
noncomputable def Zdf.E (k : Nat) : Env U := mkE Tryz.f33 [] [] [] [] n0 n0 [] false n00 nl0 []
theorem Zdf.eq (k : Nat) (x : Unit) : runF (Zdf.E k) (codeOf Tryz.f33) (Zdf.i.put x) Zdf.r.un = Zdf.f k  := by kernel_rfl
theorem Zdf.sound (k : Nat) : Sound Tryz.prog DD 33 (Zdf.D k) :=
  funP (E := Zdf.E k) (fn := Tryz.f33) (c := codeOf Tryz.f33) (Zbq _ _ _ _ _ _ _ _ _ _ _ _) mixed rfl Tryz.func33 (by kernel_rfl) (by kernel_rfl) (Zap (l := []) (by kernel_rfl) Zah) Zdf.i Zdf.r [] true (fun x => Zdf.f k ) (fun _ _ => rfl) (by kernel_rfl) (Zdf.eq k)
noncomputable def Zdf.pk (k : Nat) : Pk Tryz.prog DD := ⟨33, Zdf.D k, Zdf.sound k, Zaq Tryz.func33 (by kernel_rfl) (by kernel_rfl)⟩
/-! ### pyx/trial.key: function 58 -/
noncomputable def Zeg.f (k : Nat) (a0 : Za) (a1 : Bool) : Option (Int × Int) := (((Zdp.f k a0.Zdx).bind fun t1 => (cond (t1 == 4) (some (!a1, a0.Zdx, a0.Zp.f_Neg, a0.Zp.f_C.1, a0.Zp.f_C.2, a0.Zp.Zo, a0.Zet, 0, 0)) (some (false, a0.Zdx, a0.Zp.f_Neg, a0.Zp.f_C.1, a0.Zp.f_C.2, a0.Zp.Zo, a0.Zet, 0, 0)))) : Option (Bool × Int × Bool × Int × Int × Int × Int × Int × Int)).bind fun y11 => (cond (y11.1) ((Zdf.f k).bind fun t12 => (some (t12, 0))) (some (y11.2.1, IntKind.wrap .i64 (y11.2.2.2.2.2.2.1 + 1))))
noncomputable def Zeg.i : Lay U (Za × Bool) := (pcAnd (pcOne 0 (tAt (vCd cd_Sapi_Line))) (pcOne 1 (tAt vBool))).lay (fun _ => by kernel_rfl)
noncomputable def Zeg.r : Lay U (Int × Int) := (pcOne 0 (tAt (vCd (Cd.pair (Cd.int .i64) (Cd.int .i64))))).lay (fun _ => by kernel_rfl)
noncomputable def Zeg.D (k : Nat) : FDen U := fdn Zeg.i Zeg.r Tryz.f58.ntmps [] true (fun x => Zeg.f k (x.1) (x.2)) (fun _ _ => rfl)
noncomputable def Zeg.j1000 : Jk U := ⟨(Bool × Int × Bool × Int × Int × Int × Int × Int × Int), oNorm (lay [(2, sPtr 2 0), (4, sPtr 4 0), (12, sAt vBool)] [bLit 2 [(vInt .i64), vBool, (vInt .u64), (vInt .u64), (vInt .i64), (vInt .i64)], bLit 4 [(vInt .i64), (vInt .i64)]] (fun _ => by kernel_rfl))⟩
noncomputable def Zeg.E (k : Nat) : Env U := mkE Tryz.f58 [Zdp.pk k, Zdf.pk k] [(1000, Zeg.j1000)] [] [] n0 n0 [] false n00 nl0 []
theorem Zeg.eq (k : Nat) (x : (Za × Bool)) : runF (Zeg.E k) (codeOf Tryz.f58) (Zeg.i.put x) Zeg.r.un = Zeg.f k (x.1) (x.2) := by kernel_rfl
theorem Zeg.sound (k : Nat) : Sound Tryz.prog DD 58 (Zeg.D k) :=
  funP (E := Zeg.E k) (fn := Tryz.f58) (c := codeOf Tryz.f58) (Zbq _ _ _ _ _ _ _ _ _ _ _ _) mixed rfl Tryz.func58 (by kernel_rfl) (by kernel_rfl) (Zap (l := []) (by kernel_rfl) Zah) Zeg.i Zeg.r [] true (fun x => Zeg.f k (x.1) (x.2)) (fun _ _ => rfl) (by kernel_rfl) (Zeg.eq k)
noncomputable def Zeg.pk (k : Nat) : Pk Tryz.prog DD := ⟨58, Zeg.D k, Zeg.sound k, Zaq Tryz.func58 (by kernel_rfl) (by kernel_rfl)⟩
/-! ### (*pyx/ledger.Book).Scale: function 61 -/
noncomputable def Zbs.f (k : Nat) (a0 : Zi) : Option (Int × Zi) := some (a0.Zbw, (⟨a0.Zbw, a0.f_l, (⟨pack 12 false a0.f_t.Zk, pack 12 0 a0.f_t.Zh⟩ : Ze)⟩ : Zi))
noncomputable def Zbs.i : Lay U Zi := (pcGh 1000000000000000 7000000000000 (pcOne 0 (Zcg 7000000000000 7000000000000))).lay (fun _ => by kernel_rfl)
noncomputable def Zbs.r : Lay U (Int × Zi) := (pcAnd (pcOne 0 (tAt (vInt .i64))) (pcOne 1000000000000000 (Zcg 7000000000000 7000000000000))).lay (fun _ => by kernel_rfl)
noncomputable def Zbs.D (k : Nat) : FDen U := fdn Zbs.i Zbs.r Tryz.f61.ntmps [0] false (fun x => Zbs.f k (x)) (fun h => by cases h)
noncomputable def Zbs.E (k : Nat) : Env U := mkE Tryz.f61 [] [] [] [] n0 n0 [0] false n00 nl0 []
theorem Zbs.eq (k : Nat) (x : Zi) : runF (Zbs.E k) (codeOf Tryz.f61) (Zbs.i.put x) Zbs.r.un = Zbs.f k (x) := by kernel_rfl
theorem Zbs.sound (k : Nat) : Sound Tryz.prog DD 61 (Zbs.D k) :=
  funP (E := Zbs.E k) (fn := Tryz.f61) (c := codeOf Tryz.f61) (Zbq _ _ _ _ _ _ _ _ _ _ _ _) mixed rfl Tryz.func61 (by kernel_rfl) (by kernel_rfl) (Zap (l := []) (by kernel_rfl) Zah) Zbs.i Zbs.r [0] false (fun x => Zbs.f k (x)) (fun h => by cases h) (by kernel_rfl) (Zbs.eq k)
noncomputable def Zbs.pk (k : Nat) : Pk Tryz.prog DD := ⟨61, Zbs.D k, Zbs.sound k, Zaq Tryz.func61 (by kernel_rfl) (by kernel_rfl)⟩
end
end Go.Proofs.YtbchcjlllddlpaaGreat
