import Derived.Test.YtbchcjlllddlpaaGreatF5
/-! Functions, told; their equations with the evaluator; that they are sound. Written by gen.py. -/
namespace Go.Proofs.YtbchcjlllddlpaaGreat
open Go Go.Ev
noncomputable section
set_option linter.unusedVariables false
set_option linter.unusedSimpArgs false
set_option maxRecDepth 100000
abbrev T6g := (List Zb × Int × List Zb × Int × Int)
abbrev T6f := (List Zb × Int × Int × Bool × Int × Int × Int)
abbrev T6e := (Int × Int × List Zc × Int × List Zc × Zd)
abbrev T6d := (Bool × Bool × Int × Int × Int × Bool × Int × Int × Int × Bool × Int × Int × Int)
abbrev T6c := ((Int × List Zc × Zd × Int × List Zc × Zl))
abbrev T6b := (List Zz × Int × Int × List Zc × Zd × Int × List Zc × Zl)
abbrev T6a := (List Zz × Int × Bool × Int × List Zc × Zd × Int × List Zc × Zl)
/-! ### pyx/dec.Add: function 18 -/
noncomputable def Zdw.f (k : Nat) (a0 : Zg) (a1 : Zg) : Option (Zg × Int) := (((Zce.f k (⟨a0.f_Neg, (a0.f_C.1, a0.f_C.2), a0.Zn⟩ : Zg)).bind fun t1 => (cond (!t1) (some (true, a0.f_Neg, a0.f_C.1, a0.f_C.2, a0.Zn, a1.f_Neg, a1.f_C.1, a1.f_C.2, a1.Zn, false, 0, 0, 0)) ((Zce.f k (⟨a1.f_Neg, (a1.f_C.1, a1.f_C.2), a1.Zn⟩ : Zg)).bind fun t15 => (some (!t15, a0.f_Neg, a0.f_C.1, a0.f_C.2, a0.Zn, a1.f_Neg, a1.f_C.1, a1.f_C.2, a1.Zn, false, 0, 0, 0))))) : Option T6d).bind fun y16 => (cond (y16.1) (some ((⟨false, (0, 0), 0⟩ : Zg), 1)) ((Zdx.f k (⟨y16.2.1, (y16.2.2.1, y16.2.2.2.1), y16.2.2.2.2.1⟩ : Zg) (if y16.2.2.2.2.2.2.2.2.1 > y16.2.2.2.2.1 then y16.2.2.2.2.2.2.2.2.1 else y16.2.2.2.2.1)).bind fun t17 => ((Zdx.f k (⟨y16.2.2.2.2.2.1, (y16.2.2.2.2.2.2.1, y16.2.2.2.2.2.2.2.1), y16.2.2.2.2.2.2.2.2.1⟩ : Zg) (if y16.2.2.2.2.2.2.2.2.1 > y16.2.2.2.2.1 then y16.2.2.2.2.2.2.2.2.1 else y16.2.2.2.2.1)).bind fun t18 => (cond (y16.2.1 == y16.2.2.2.2.2.1) ((Zeh.f k (t17.1, t17.2.1, t17.2.2.1, t17.2.2.2) (t18.1, t18.2.1, t18.2.2.1, t18.2.2.2)).bind fun t19 => ((Zdv.f k y16.2.1 (t19.1, t19.2.1, t19.2.2.1, t19.2.2.2) (if y16.2.2.2.2.2.2.2.2.1 > y16.2.2.2.2.1 then y16.2.2.2.2.2.2.2.2.1 else y16.2.2.2.2.1)).bind fun t20 => (some ((⟨t20.1.f_Neg, (t20.1.f_C.1, t20.1.f_C.2), t20.1.Zn⟩ : Zg), t20.2)))) ((Zcw.f k (t17.1, t17.2.1, t17.2.2.1, t17.2.2.2) (t18.1, t18.2.1, t18.2.2.1, t18.2.2.2)).bind fun t21 => (cond (decide (t21 ≥ 0)) ((Zdz.f k (t17.1, t17.2.1, t17.2.2.1, t17.2.2.2) (t18.1, t18.2.1, t18.2.2.1, t18.2.2.2)).bind fun t22 => ((Zdv.f k y16.2.1 (t22.1, t22.2.1, t22.2.2.1, t22.2.2.2) (if y16.2.2.2.2.2.2.2.2.1 > y16.2.2.2.2.1 then y16.2.2.2.2.2.2.2.2.1 else y16.2.2.2.2.1)).bind fun t23 => (some ((⟨t23.1.f_Neg, (t23.1.f_C.1, t23.1.f_C.2), t23.1.Zn⟩ : Zg), t23.2)))) ((Zdz.f k (t18.1, t18.2.1, t18.2.2.1, t18.2.2.2) (t17.1, t17.2.1, t17.2.2.1, t17.2.2.2)).bind fun t24 => ((Zdv.f k y16.2.2.2.2.2.1 (t24.1, t24.2.1, t24.2.2.1, t24.2.2.2) (if y16.2.2.2.2.2.2.2.2.1 > y16.2.2.2.2.1 then y16.2.2.2.2.2.2.2.2.1 else y16.2.2.2.2.1)).bind fun t25 => (some ((⟨t25.1.f_Neg, (t25.1.f_C.1, t25.1.f_C.2), t25.1.Zn⟩ : Zg), t25.2))))))))))
noncomputable def Zdw.i : Lay U (Zg × Zg) := (pcAnd (pcOne 0 (tAt (vCd Zcy))) (pcOne 1 (tAt (vCd Zcy)))).lay (fun _ => by kernel_rfl)
noncomputable def Zdw.r : Lay U (Zg × Int) := (pcTup 0 (tqCons (tAt (vCd Zcy)) (tqOne (tAt (vInt .i64))))).lay (fun _ => by kernel_rfl)
noncomputable def Zdw.D (k : Nat) : FDen U := fdn Zdw.i Zdw.r Tryz.f18.ntmps [] true (fun x => Zdw.f k (x.1) (x.2)) (fun _ _ => rfl)
noncomputable def Zdw.j1000 : Jk U := ⟨T6d, oNorm (lay [(2, sPtr 2 0), (3, sPtr 3 0), (4, sPtr 4 0), (16, sAt vBool)] [bLit 2 [vBool, (vInt .u64), (vInt .u64), (vInt .i64)], bLit 3 [vBool, (vInt .u64), (vInt .u64), (vInt .i64)], bLit 4 [vBool, (vInt .u64), (vInt .u64), (vInt .i64)]] (fun _ => by kernel_rfl))⟩
noncomputable def Zdw.E (k : Nat) : Env U := mkE Tryz.f18 [Zce.pk k, Zdx.pk k, Zeh.pk k, Zdv.pk k, Zcw.pk k, Zdz.pk k] [(1000, Zdw.j1000)] [] [] n0 n0 [] false n00 nl0 []
theorem Zdw.eq (k : Nat) (x : (Zg × Zg)) : runF (Zdw.E k) (codeOf Tryz.f18) (Zdw.i.put x) Zdw.r.un = Zdw.f k (x.1) (x.2) := by kernel_rfl
theorem Zdw.sound (k : Nat) : Sound Tryz.prog DD 18 (Zdw.D k) :=
  funP (E := Zdw.E k) (fn := Tryz.f18) (c := codeOf Tryz.f18) (Zbq _ _ _ _ _ _ _ _ _ _ _ _) mixed rfl Tryz.func18 (by kernel_rfl) (by kernel_rfl) (Zan (l := []) (by kernel_rfl) Zaa) Zdw.i Zdw.r [] true (fun x => Zdw.f k (x.1) (x.2)) (fun _ _ => rfl) (by kernel_rfl) (Zdw.eq k)
noncomputable def Zdw.pk (k : Nat) : Pk Tryz.prog DD := ⟨18, Zdw.D k, Zdw.sound k, Zal Tryz.func18 (by kernel_rfl) (by kernel_rfl)⟩
/-! ### pyx/entry.Right: function 55 -/
noncomputable def Zad.l4.once (k : Nat) (x : T6g) : Option (T6g ⊕ ((List Zb × Int) ⊕ Int)) := match x with | (x5, x6, x7, x8, x9) => cond (decide (x9 < x8)) (cond (inb x9 (List.length x7)) ((Zbp.f k (⟨(List.getD x7 (Int.toNat x9) Zb.zero).Zdu, (⟨((List.getD x7 (Int.toNat x9) Zb.zero).Zo).f_Neg, ((((List.getD x7 (Int.toNat x9) Zb.zero).Zo).f_C).1, (((List.getD x7 (Int.toNat x9) Zb.zero).Zo).f_C).2), ((List.getD x7 (Int.toNat x9) Zb.zero).Zo).Zn⟩ : Zg), (List.getD x7 (Int.toNat x9) Zb.zero).Zeq⟩ : Zb) x6).bind fun t10 => (cond (!t10) (some (.inr (.inr 1))) (some (.inl (x5, x6, x7, x8, IntKind.wrap .i64 (x9 + 1)))))) none) (some (.inr (.inl (x5, x6))))
noncomputable def Zad.l11.once (k : Nat) (x : T6f) : Option (T6f ⊕ ((Bool × Int × Int × Int) ⊕ Int)) := match x with | (x20, x21, x22, x16, x17, x18, x19) => cond (decide (x22 < x21)) (cond (inb x22 (List.length x20)) ((Zdw.f k (⟨x16, (x17, x18), x19⟩ : Zg) (⟨((List.getD x20 (Int.toNat x22) Zb.zero).Zo).f_Neg, ((((List.getD x20 (Int.toNat x22) Zb.zero).Zo).f_C).1, (((List.getD x20 (Int.toNat x22) Zb.zero).Zo).f_C).2), ((List.getD x20 (Int.toNat x22) Zb.zero).Zo).Zn⟩ : Zg)).bind fun t23 => (cond (t23.2 != 0) (some (.inr (.inr t23.2))) (some (.inl (x20, x21, IntKind.wrap .i64 (x22 + 1), t23.1.f_Neg, t23.1.f_C.1, t23.1.f_C.2, t23.1.Zn))))) none) (some (.inr (.inl (x16, x17, x18, x19))))
noncomputable def Zad.f (k : Nat) (a0 : List Zb) (a1 : Int) : Option Int := ((cond ((List.length a0 : Int) == 0) (some (a0, a1, true)) (some (a0, a1, decide ((List.length a0 : Int) > 8)))) : Option (List Zb × Int × Bool)).bind fun y4 => (cond (y4.2.2) (some 1) ((iter (Zad.l4.once k) k (y4.1, y4.2.1, y4.1, (List.length y4.1 : Int), 0)).bind fun | .inl y14 => ((Zer.f k 0 y14.2).bind fun t15 => ((iter (Zad.l11.once k) k (y14.1, (List.length y14.1 : Int), 0, t15.f_Neg, t15.f_C.1, t15.f_C.2, t15.Zn)).bind fun | .inl y29 => ((Zdk.f k (⟨y29.1, (y29.2.1, y29.2.2.1), y29.2.2.2⟩ : Zg)).bind fun t30 => (cond (t30 != 0) (some 9) (some 0))) | .inr y31 => (some y31))) | .inr y32 => (some y32)))
noncomputable def Zad.i : Lay U (List Zb × Int) := (pcAnd (pcOne 0 (tAt (vRow DD C.Zb))) (pcOne 1 (tAt (vInt .i64)))).lay (fun _ => by kernel_rfl)
noncomputable def Zad.r : Lay U Int := (pcOne 0 (tAt (vInt .i64))).lay (fun _ => by kernel_rfl)
noncomputable def Zad.D (k : Nat) : FDen U := fdn Zad.i Zad.r Tryz.f55.ntmps [] true (fun x => Zad.f k (x.1) (x.2)) (fun _ _ => rfl)
noncomputable def Zad.l4.i : Lay U T6g := (lay [(0, sAt (vRow DD C.Zb)), (1, sAt (vInt .i64)), (19, sAt (vRow DD C.Zb)), (20, sAt (vInt .i64)), (21, sAt (vInt .i64))] [] (fun _ => by kernel_rfl))
noncomputable def Zad.l4.o : OLay U ((List Zb × Int) ⊕ Int) := oOr (oExit 0 (lay [(0, sAt (vRow DD C.Zb)), (1, sAt (vInt .i64))] [] (fun _ => by kernel_rfl))) (oRet Zad.r)
noncomputable def Zad.l11.i : Lay U T6f := (lay [(7, sPtr 7 0), (32, sAt (vRow DD C.Zb)), (33, sAt (vInt .i64)), (34, sAt (vInt .i64))] [bLit 7 [vBool, (vInt .u64), (vInt .u64), (vInt .i64)]] (fun _ => by kernel_rfl))
noncomputable def Zad.l11.o : OLay U ((Bool × Int × Int × Int) ⊕ Int) := oOr (oExit 2 (lay [(7, sPtr 7 0)] [bLit 7 [vBool, (vInt .u64), (vInt .u64), (vInt .i64)]] (fun _ => by kernel_rfl))) (oRet Zad.r)
noncomputable def Zad.j1000 : Jk U := ⟨(List Zb × Int × Bool), oNorm (lay [(0, sAt (vRow DD C.Zb)), (1, sAt (vInt .i64)), (18, sAt vBool)] [] (fun _ => by kernel_rfl))⟩
noncomputable def Zad.E (k : Nat) : Env U := mkE Tryz.f55 [Zbp.pk k, Zer.pk k, Zdw.pk k, Zdk.pk k] [(1000, Zad.j1000)] [(4, ldn Zad.l4.i Zad.l4.o (iter (Zad.l4.once k) k)), (11, ldn Zad.l11.i Zad.l11.o (iter (Zad.l11.once k) k))] [] n0 n0 [] false n00 nl0 []
theorem Zad.l4.eq (k : Nat) (x : T6g) : evC (Zad.E k) (loopAt Tryz.f55 4) (Zad.l4.i.put x) (headK Zad.l4.i.un Zad.l4.o.re) = Zad.l4.once k x := by kernel_rfl
theorem Zad.l4.sound (k : Nat) : LSound (Zad.E k) Tryz.f55.ntmps Tryz.f55 (loopAt Tryz.f55 4) (ldn Zad.l4.i Zad.l4.o (iter (Zad.l4.once k) k)) :=
  loopP (Zbq _ _ _ _ _ _ _ _ _ _ _ _) mixed rfl (by kernel_rfl) (Zan (l := []) (by kernel_rfl) Zaa) Zad.l4.i Zad.l4.o (Zad.l4.once k) k (Zad.l4.eq k)
theorem Zad.l11.eq (k : Nat) (x : T6f) : evC (Zad.E k) (loopAt Tryz.f55 11) (Zad.l11.i.put x) (headK Zad.l11.i.un Zad.l11.o.re) = Zad.l11.once k x := by kernel_rfl
theorem Zad.l11.sound (k : Nat) : LSound (Zad.E k) Tryz.f55.ntmps Tryz.f55 (loopAt Tryz.f55 11) (ldn Zad.l11.i Zad.l11.o (iter (Zad.l11.once k) k)) :=
  loopP (Zbq _ _ _ _ _ _ _ _ _ _ _ _) mixed rfl (by kernel_rfl) (Zan (l := []) (by kernel_rfl) Zaa) Zad.l11.i Zad.l11.o (Zad.l11.once k) k (Zad.l11.eq k)
theorem Zad.eq (k : Nat) (x : (List Zb × Int)) : runF (Zad.E k) (codeOf Tryz.f55) (Zad.i.put x) Zad.r.un = Zad.f k (x.1) (x.2) := by kernel_rfl
theorem Zad.sound (k : Nat) : Sound Tryz.prog DD 55 (Zad.D k) :=
  funP (E := Zad.E k) (fn := Tryz.f55) (c := codeOf Tryz.f55) (Zbq _ _ _ _ _ _ _ _ _ _ _ _) mixed rfl Tryz.func55 (by kernel_rfl) (by kernel_rfl) (Zan (l := [loopAt Tryz.f55 4, loopAt Tryz.f55 11]) (by kernel_rfl) (Zdj (key := 4) (by kernel_rfl) rfl (Zad.l4.sound k) (Zdj (key := 11) (by kernel_rfl) rfl (Zad.l11.sound k) Zaa))) Zad.i Zad.r [] true (fun x => Zad.f k (x.1) (x.2)) (fun _ _ => rfl) (by kernel_rfl) (Zad.eq k)
noncomputable def Zad.pk (k : Nat) : Pk Tryz.prog DD := ⟨55, Zad.D k, Zad.sound k, Zal Tryz.func55 (by kernel_rfl) (by kernel_rfl)⟩
/-! ### (*pyx/ledger.Book).Post: function 14 -/
noncomputable def Zbr.f (k : Nat) (a0 : Ze) (a1 : Int) (a2 : List Zb) : Option (Int × Int × Ze) := (Zad.f k a2 a0.Zbd).bind fun t1 => (cond (t1 != 0) (some (0, t1, (⟨a0.Zbd, a0.f_l, (⟨pack 12 false a0.f_t.Zk, pack 12 0 a0.f_t.Zi⟩ : Zd)⟩ : Ze))) ((Zbu.f k (⟨a0.Zbd, a0.f_l, (⟨pack 12 false a0.f_t.Zk, pack 12 0 a0.f_t.Zi⟩ : Zd)⟩ : Ze) (⟨a1, a2, (-1)⟩ : Zc)).bind fun t2 => (some (t2.1, t2.2.1, (⟨t2.2.2.Zbd, t2.2.2.f_l, (⟨pack 12 false t2.2.2.f_t.Zk, pack 12 0 t2.2.2.f_t.Zi⟩ : Zd)⟩ : Ze)))))
noncomputable def Zbr.i : Lay U (Ze × Int × List Zb) := (pcGh 1000000000000000 7000000000000 (pcAnd (pcOne 0 (Zbv 7000000000000 7000000000000)) (pcAnd (pcOne 1 (tAt (vInt .i64))) (pcOne 2 (tAt (vRow DD C.Zb)))))).lay (fun _ => by kernel_rfl)
noncomputable def Zbr.r : Lay U (Int × Int × Ze) := (pcIso (pcAnd (pcTup 0 (tqCons (tAt (vInt .i64)) (tqOne (tAt (vInt .i64))))) (pcOne 1000000000000000 (Zbv 7000000000000 7000000000000))) (fun x => ((x.1.1, x.1.2, x.2) : (Int × Int × Ze))) (fun x => ((x.1, x.2.1), x.2.2)) (fun _ => rfl)).lay (fun _ => by kernel_rfl)
noncomputable def Zbr.D (k : Nat) : FDen U := fdn Zbr.i Zbr.r Tryz.f14.ntmps [0] false (fun x => Zbr.f k (x.1) (x.2.1) (x.2.2)) (fun h => by cases h)
noncomputable def Zbr.E (k : Nat) : Env U := mkE Tryz.f14 [Zad.pk k, Zbu.pk k] [] [] [] n0 n0 [0] false n00 nl0 []
theorem Zbr.eq (k : Nat) (x : (Ze × Int × List Zb)) : runF (Zbr.E k) (codeOf Tryz.f14) (Zbr.i.put x) Zbr.r.un = Zbr.f k (x.1) (x.2.1) (x.2.2) := by kernel_rfl
theorem Zbr.sound (k : Nat) : Sound Tryz.prog DD 14 (Zbr.D k) :=
  funP (E := Zbr.E k) (fn := Tryz.f14) (c := codeOf Tryz.f14) (Zbq _ _ _ _ _ _ _ _ _ _ _ _) mixed rfl Tryz.func14 (by kernel_rfl) (by kernel_rfl) (Zan (l := []) (by kernel_rfl) Zaa) Zbr.i Zbr.r [0] false (fun x => Zbr.f k (x.1) (x.2.1) (x.2.2)) (fun h => by cases h) (by kernel_rfl) (Zbr.eq k)
noncomputable def Zbr.pk (k : Nat) : Pk Tryz.prog DD := ⟨14, Zbr.D k, Zbr.sound k, Zal Tryz.func14 (by kernel_rfl) (by kernel_rfl)⟩
/-! ### pyx/pyxlaw15.books: function 25 -/
noncomputable def Zai.l6.once (k : Nat) (x : T6b) : Option (T6b ⊕ T6c) := match x with | (x3, x58, x4, x5, x30, x31, x32, x57) => ((cond (decide (x58 < (List.length x3 : Int))) (some (x3, x58, decide (x58 < 14), x4, x5, (⟨pack 12 false x30.Zk, pack 12 0 x30.Zi⟩ : Zd), x31, x32, (⟨pack 12 false x57.Zk, pack 12 0 x57.Zi⟩ : Zl))) (some (x3, x58, false, x4, x5, (⟨pack 12 false x30.Zk, pack 12 0 x30.Zi⟩ : Zd), x31, x32, (⟨pack 12 false x57.Zk, pack 12 0 x57.Zi⟩ : Zl)))) : Option T6a).bind fun y116 => (cond (y116.2.2.1) (((cond (inb y116.2.1 (List.length y116.1)) ((Zaq.f k ((List.getD y116.1 (Int.toNat y116.2.1) Zz.zero).Zey) 8).bind fun t117 => (cond (t117 == 0) ((Zaq.f k ((List.getD y116.1 (Int.toNat y116.2.1) Zz.zero).f_B) 3).bind fun t118 => ((Zbm.f k (⟨y116.2.2.2.1, y116.2.2.2.2.1, (⟨pack 12 false y116.2.2.2.2.2.1.Zk, pack 12 0 y116.2.2.2.2.2.1.Zi⟩ : Zd)⟩ : Ze) t118).bind fun t119 => (some (y116.1, y116.2.1, t119.2.Zbd, t119.2.f_l, (⟨pack 12 false t119.2.f_t.Zk, pack 12 0 t119.2.f_t.Zi⟩ : Zd), y116.2.2.2.2.2.2.1, y116.2.2.2.2.2.2.2.1, (⟨pack 12 false y116.2.2.2.2.2.2.2.2.Zk, pack 12 0 y116.2.2.2.2.2.2.2.2.Zi⟩ : Zl))))) (cond (t117 == 1) ((Zaq.f k ((List.getD y116.1 (Int.toNat y116.2.1) Zz.zero).f_N) 5).bind fun t176 => ((Zaq.f k ((List.getD y116.1 (Int.toNat y116.2.1) Zz.zero).f_B) 3).bind fun t177 => ((Zax.f k (⟨y116.2.2.2.1, y116.2.2.2.2.1, (⟨pack 12 false y116.2.2.2.2.2.1.Zk, pack 12 0 y116.2.2.2.2.2.1.Zi⟩ : Zd)⟩ : Ze) t176 t177).bind fun t178 => (some (y116.1, y116.2.1, t178.2.2.Zbd, t178.2.2.f_l, (⟨pack 12 false t178.2.2.f_t.Zk, pack 12 0 t178.2.2.f_t.Zi⟩ : Zd), y116.2.2.2.2.2.2.1, y116.2.2.2.2.2.2.2.1, (⟨pack 12 false y116.2.2.2.2.2.2.2.2.Zk, pack 12 0 y116.2.2.2.2.2.2.2.2.Zi⟩ : Zl)))))) (cond (t117 == 2) ((Zaq.f k ((List.getD y116.1 (Int.toNat y116.2.1) Zz.zero).f_B) 3).bind fun t179 => ((Zbh.f k (⟨y116.2.2.2.1, y116.2.2.2.2.1, (⟨pack 12 false y116.2.2.2.2.2.1.Zk, pack 12 0 y116.2.2.2.2.2.1.Zi⟩ : Zd)⟩ : Ze) t179).bind fun t180 => (some (y116.1, y116.2.1, t180.2.Zbd, t180.2.f_l, (⟨pack 12 false t180.2.f_t.Zk, pack 12 0 t180.2.f_t.Zi⟩ : Zd), y116.2.2.2.2.2.2.1, y116.2.2.2.2.2.2.2.1, (⟨pack 12 false y116.2.2.2.2.2.2.2.2.Zk, pack 12 0 y116.2.2.2.2.2.2.2.2.Zi⟩ : Zl))))) ((Zaq.f k ((List.getD y116.1 (Int.toNat y116.2.1) Zz.zero).f_B) 3).bind fun t181 => ((Zr.f k ((List.getD y116.1 (Int.toNat y116.2.1) Zz.zero).f_L) y116.2.2.2.2.2.2.1 0 4).bind fun t182 => ((Zbr.f k (⟨y116.2.2.2.1, y116.2.2.2.2.1, (⟨pack 12 false y116.2.2.2.2.2.1.Zk, pack 12 0 y116.2.2.2.2.2.1.Zi⟩ : Zd)⟩ : Ze) t181 t182).bind fun t183 => (some (y116.1, y116.2.1, t183.2.2.Zbd, t183.2.2.f_l, (⟨pack 12 false t183.2.2.f_t.Zk, pack 12 0 t183.2.2.f_t.Zi⟩ : Zd), y116.2.2.2.2.2.2.1, y116.2.2.2.2.2.2.2.1, (⟨pack 12 false y116.2.2.2.2.2.2.2.2.Zk, pack 12 0 y116.2.2.2.2.2.2.2.2.Zi⟩ : Zl)))))))))) none) : Option T6b).bind fun y184 => (some (.inl (y184.1, IntKind.wrap .i64 (y184.2.1 + 1), y184.2.2.1, y184.2.2.2.1, (⟨pack 12 false y184.2.2.2.2.1.Zk, pack 12 0 y184.2.2.2.2.1.Zi⟩ : Zd), y184.2.2.2.2.2.1, y184.2.2.2.2.2.2.1, (⟨pack 12 false y184.2.2.2.2.2.2.2.Zk, pack 12 0 y184.2.2.2.2.2.2.2.Zi⟩ : Zl))))) (some (.inr (y116.2.2.2.1, y116.2.2.2.2.1, (⟨pack 12 false y116.2.2.2.2.2.1.Zk, pack 12 0 y116.2.2.2.2.2.1.Zi⟩ : Zd), y116.2.2.2.2.2.2.1, y116.2.2.2.2.2.2.2.1, (⟨pack 12 false y116.2.2.2.2.2.2.2.2.Zk, pack 12 0 y116.2.2.2.2.2.2.2.2.Zi⟩ : Zl)))))
noncomputable def Zai.f (k : Nat) (a0 : List Zz) (a1 : Int) : Option (Ze × Zac) := (Zdq.f k a1).bind fun t1 => ((Zau.f k a0 a1).bind fun t2 => ((iter (Zai.l6.once k) k (a0, 0, t1.Zbd, t1.f_l, (⟨pack 12 false t1.f_t.Zk, pack 12 0 t1.f_t.Zi⟩ : Zd), t2.Zn, t2.f_L, (⟨pack 12 false t2.f_T.Zk, pack 12 0 t2.f_T.Zi⟩ : Zl))).bind fun y239 => (some ((⟨y239.1, y239.2.1, (⟨pack 12 false y239.2.2.1.Zk, pack 12 0 y239.2.2.1.Zi⟩ : Zd)⟩ : Ze), (⟨y239.2.2.2.1, y239.2.2.2.2.1, (⟨pack 12 false y239.2.2.2.2.2.Zk, pack 12 0 y239.2.2.2.2.2.Zi⟩ : Zl)⟩ : Zac)))))
noncomputable def Zai.i : Lay U (List Zz × Int) := (pcAnd (pcOne 0 (tAt (vRow DD C.Zz))) (pcOne 1 (tAt (vInt .i64)))).lay (fun _ => by kernel_rfl)
noncomputable def Zai.r : Lay U (Ze × Zac) := (pcTup 0 (tqCons (Zbv 120000000000007 6000000000000) (tqOne (Zde 250000000000006 6000000001000)))).lay (fun _ => by kernel_rfl)
noncomputable def Zai.D (k : Nat) : FDen U := fdn Zai.i Zai.r Tryz.f25.ntmps [] false (fun x => Zai.f k (x.1) (x.2)) (fun h => by cases h)
noncomputable def Zai.l6.i : Lay U T6b := (lay [(6, sPtr 120000000000007 0), (7, sPtr 250000000000006 0), (0, sAt (vRow DD C.Zz)), (8, sAt (vInt .i64))] [bLitT 120000000000007 [(vInt .i64), (vTip DD 12000002000600701 C.Zc 3)] Zae, bLitT 250000000000006 [(vInt .i64), (vTip DD 25000002000600601 C.Zc 3)] Zbw] (fun _ => by kernel_rfl))
noncomputable def Zai.l6.o : OLay U T6c := oExit 0 (lay [(6, sPtr 120000000000007 0), (7, sPtr 250000000000006 0)] [bLitT 120000000000007 [(vInt .i64), (vTip DD 12000002000600701 C.Zc 3)] Zae, bLitT 250000000000006 [(vInt .i64), (vTip DD 25000002000600601 C.Zc 3)] Zbw] (fun _ => by kernel_rfl))
noncomputable def Zai.j6000 : Jk U := ⟨T6a, oNorm (lay [(6, sPtr 120000000000007 0), (7, sPtr 250000000000006 0), (0, sAt (vRow DD C.Zz)), (8, sAt (vInt .i64)), (25, sAt vBool)] [bLitT 120000000000007 [(vInt .i64), (vTip DD 12000102600000701 C.Zc 3)] Zae, bLitT 250000000000006 [(vInt .i64), (vTip DD 25000102600000601 C.Zc 3)] Zbw] (fun _ => by kernel_rfl))⟩
noncomputable def Zai.j8001 : Jk U := ⟨T6b, oNorm (lay [(6, sPtr 120000000000007 0), (7, sPtr 250000000000006 0), (0, sAt (vRow DD C.Zz)), (8, sAt (vInt .i64))] [bLitT 120000000000007 [(vInt .i64), (vTip DD 12000102800100701 C.Zc 3)] Zae, bLitT 250000000000006 [(vInt .i64), (vTip DD 25000102800100601 C.Zc 3)] Zbw] (fun _ => by kernel_rfl))⟩
noncomputable def Zai.E (k : Nat) : Env U := mkE Tryz.f25 [Zdq.pk k, Zau.pk k, Zaq.pk k, Zbm.pk k, Zax.pk k, Zbh.pk k, Zr.pk k, Zbr.pk k] [(6000, Zai.j6000), (8001, Zai.j8001)] [(6, ldn Zai.l6.i Zai.l6.o (iter (Zai.l6.once k) k))] [] n0 n0 [] false n00 nl0 []
theorem Zai.l6.eq (k : Nat) (x : T6b) : evC (Zai.E k) (loopAt Tryz.f25 6) (Zai.l6.i.put x) (headK Zai.l6.i.un Zai.l6.o.re) = Zai.l6.once k x := by kernel_rfl
theorem Zai.l6.sound (k : Nat) : LSound (Zai.E k) Tryz.f25.ntmps Tryz.f25 (loopAt Tryz.f25 6) (ldn Zai.l6.i Zai.l6.o (iter (Zai.l6.once k) k)) :=
  loopP (Zbq _ _ _ _ _ _ _ _ _ _ _ _) mixed rfl (by kernel_rfl) (Zan (l := []) (by kernel_rfl) Zaa) Zai.l6.i Zai.l6.o (Zai.l6.once k) k (Zai.l6.eq k)
theorem Zai.eq (k : Nat) (x : (List Zz × Int)) : runF (Zai.E k) (codeOf Tryz.f25) (Zai.i.put x) Zai.r.un = Zai.f k (x.1) (x.2) := by kernel_rfl
theorem Zai.sound (k : Nat) : Sound Tryz.prog DD 25 (Zai.D k) :=
  funP (E := Zai.E k) (fn := Tryz.f25) (c := codeOf Tryz.f25) (Zbq _ _ _ _ _ _ _ _ _ _ _ _) mixed rfl Tryz.func25 (by kernel_rfl) (by kernel_rfl) (Zan (l := [loopAt Tryz.f25 6]) (by kernel_rfl) (Zdj (key := 6) (by kernel_rfl) rfl (Zai.l6.sound k) Zaa)) Zai.i Zai.r [] false (fun x => Zai.f k (x.1) (x.2)) (fun h => by cases h) (by kernel_rfl) (Zai.eq k)
noncomputable def Zai.pk (k : Nat) : Pk Tryz.prog DD := ⟨25, Zai.D k, Zai.sound k, Zal Tryz.func25 (by kernel_rfl) (by kernel_rfl)⟩
/-! ### (*pyx/ledger.Book).Periods: function 30 -/
noncomputable def Zav.f (k : Nat) (a0 : Ze) : Option (Zd × Ze) := some ((⟨pack 12 false a0.f_t.Zk, pack 12 0 a0.f_t.Zi⟩ : Zd), (⟨a0.Zbd, a0.f_l, (⟨pack 12 false a0.f_t.Zk, pack 12 0 a0.f_t.Zi⟩ : Zd)⟩ : Ze))
noncomputable def Zav.i : Lay U Ze := (pcGh 1000000000000000 7000000000000 (pcOne 0 (Zbv 7000000000000 7000000000000))).lay (fun _ => by kernel_rfl)
noncomputable def Zav.r : Lay U (Zd × Ze) := (pcAnd (pcOne 0 (tAt (vCd Zae))) (pcOne 1000000000000000 (Zbv 7000000000000 7000000000000))).lay (fun _ => by kernel_rfl)
noncomputable def Zav.D (k : Nat) : FDen U := fdn Zav.i Zav.r Tryz.f30.ntmps [0] false (fun x => Zav.f k (x)) (fun h => by cases h)
noncomputable def Zav.E (k : Nat) : Env U := mkE Tryz.f30 [] [] [] [] n0 n0 [0] false n00 nl0 []
theorem Zav.eq (k : Nat) (x : Ze) : runF (Zav.E k) (codeOf Tryz.f30) (Zav.i.put x) Zav.r.un = Zav.f k (x) := by kernel_rfl
theorem Zav.sound (k : Nat) : Sound Tryz.prog DD 30 (Zav.D k) :=
  funP (E := Zav.E k) (fn := Tryz.f30) (c := codeOf Tryz.f30) (Zbq _ _ _ _ _ _ _ _ _ _ _ _) mixed rfl Tryz.func30 (by kernel_rfl) (by kernel_rfl) (Zan (l := []) (by kernel_rfl) Zaa) Zav.i Zav.r [0] false (fun x => Zav.f k (x)) (fun h => by cases h) (by kernel_rfl) (Zav.eq k)
noncomputable def Zav.pk (k : Nat) : Pk Tryz.prog DD := ⟨30, Zav.D k, Zav.sound k, Zal Tryz.func30 (by kernel_rfl) (by kernel_rfl)⟩
/-! ### slices.Clone[[]pyx/api.Entry,pyx/api.Entry]: function 111 -/
noncomputable def Zs.f (k : Nat) (a0 : List Zc) : Option (List Zc) := cond (okLen (List.length ([] : List Zc) + List.length a0) 40) (some (([] : List Zc) ++ a0)) none
noncomputable def Zs.un (s : St U) : Option (List Zc) := match s.get 0 with | .row C.Zc x1 => some x1 | _ => none
noncomputable def Zs.mk (x : List Zc) : St U := ⟨[(0, .row C.Zc x)], []⟩
noncomputable def Zs.fin (y : List Zc) : St U := ⟨[(0, .row C.Zc y)], []⟩
noncomputable def Zs.D (k : Nat) : FDen U := { X := List Zc, Y := List Zc, nt := 8, gh := [], un := Zs.un, f := fun x => Zs.f k (x), fin := Zs.fin, cl := true, clo := fun _ _ => rfl }
noncomputable def Zs.re (s : St U) : Option (List Zc) := match s.get 0 with | .row C.Zc x1 => some x1 | _ => none
noncomputable def Zs.jl : List (Nat × JDen U) := []
noncomputable def Zs.fl (k : Nat) : List (Nat × FDen U) := []
noncomputable def Zs.ll (k : Nat) : List (Nat × LDen U) := []
noncomputable def Zs.E (k : Nat) : Env U := { P := Tryz.prog, D := DD, fd := lk (Zs.fl k), sf := lk sl0, ld := lk (Zs.ll k), jd := lk Zs.jl, mode := lk [], elc := lk ec, mpc := lk mc, rts := Tryz.f111.resultTypes.toList, dyn := fun t => false, vecs := fun d => false, results := Tryz.f111.results.toList, gh := [], own := false, io := fun g i => false, lds := nl0, fn := lk [] }
theorem Zs.ok (k : Nat) : EnvOk (Zs.E k) := envOk lawful (Zs.fl k) sl0 (Zs.ll k) Zs.jl _ _ _ _ _ _ _ _ _ _ _ [] (by
  intro p hp
  simp [Zs.fl] at hp) sl0_ok (by
  intro p hp
  simp [Zs.jl] at hp) (fun _ h => (List.not_mem_nil h).elim)
theorem Zs.fitR (s : St U) (y : List Zc) (h : Zs.re s = some y) : Fits s (Zs.fin y) := by
  unfold Zs.re at h
  split at h
  · cases h
    refine Zfe [] ?_ ?_ ren_nil rfl
    · exact List.forall_mem_cons.2 ⟨FV.one (FV.same (by assumption) rfl), fun _ hp => (List.not_mem_nil hp).elim⟩
    · exact fun _ hp => (List.not_mem_nil hp).elim
  · cases h
noncomputable def Zs.mkn (g : Bool) (x : List Zc) : St U := ⟨[(0, .nrow g C.Zc x)], []⟩
theorem Zs.eq (k : Nat) (x : List Zc) : runF (Zs.E k) (codeOf Tryz.f111) (Zs.mkn true x) Zs.re = (Zs.D k).f x := by kernel_rfl
theorem Zs.eqN (k : Nat) : runF (Zs.E k) (codeOf Tryz.f111) (Zs.mkn false []) Zs.re = (Zs.D k).f [] := by kernel_rfl
theorem Zs.sound (k : Nat) : Sound Tryz.prog DD 111 (Zs.D k) :=
  fun_sound_nil (E := Zs.E k) (fn := Tryz.f111) (c := codeOf Tryz.f111) (Zs.ok k) mixed rfl Tryz.func111 (by kernel_rfl) (by kernel_rfl) (Zan (l := []) (by kernel_rfl) Zaa) C.Zc (Zs.D k) Zs.mkn (fun x => x) Zs.re (by kernel_rfl) (by kernel_rfl)
    (by intro m x h; replace h : Zs.un m = some x := h; unfold Zs.un at h; split at h; · cases h; assumption
        · cases h)
    (fun _ _ => rfl) Zs.fitR (Zs.eq k) (by intro x h; replace h : x = [] := h; subst h; exact Zs.eqN k)
noncomputable def Zs.pk (k : Nat) : Pk Tryz.prog DD := ⟨111, Zs.D k, Zs.sound k, Zal Tryz.func111 (by kernel_rfl) (by kernel_rfl)⟩
/-! ### slices.Clip[[]pyx/api.Entry,pyx/api.Entry]: function 110 -/
noncomputable def Zbn.f (k : Nat) (a0 : List Zc) : Option (List Zc) := cond (decide ((List.length a0 : Int) = (List.length a0 : Int)) && inS 0 (List.length a0 : Int) (List.length a0)) (some (List.take (Int.toNat (List.length a0 : Int)) a0)) none
noncomputable def Zbn.i : Lay U (List Zc) := (pcOne 0 (tAt (vRow DD C.Zc))).lay (fun _ => by kernel_rfl)
noncomputable def Zbn.r : Lay U (List Zc) := (pcOne 0 (tAt (vRow DD C.Zc))).lay (fun _ => by kernel_rfl)
noncomputable def Zbn.D (k : Nat) : FDen U := fdn Zbn.i Zbn.r Tryz.f110.ntmps [] true (fun x => Zbn.f k (x)) (fun _ _ => rfl)
noncomputable def Zbn.E (k : Nat) : Env U := mkE Tryz.f110 [] [] [] [] n0 n0 [] false n00 nl0 []
theorem Zbn.eq (k : Nat) (x : List Zc) : runF (Zbn.E k) (codeOf Tryz.f110) (Zbn.i.put x) Zbn.r.un = Zbn.f k (x) := by kernel_rfl
theorem Zbn.sound (k : Nat) : Sound Tryz.prog DD 110 (Zbn.D k) :=
  funP (E := Zbn.E k) (fn := Tryz.f110) (c := codeOf Tryz.f110) (Zbq _ _ _ _ _ _ _ _ _ _ _ _) mixed rfl Tryz.func110 (by kernel_rfl) (by kernel_rfl) (Zan (l := []) (by kernel_rfl) Zaa) Zbn.i Zbn.r [] true (fun x => Zbn.f k (x)) (fun _ _ => rfl) (by kernel_rfl) (Zbn.eq k)
noncomputable def Zbn.pk (k : Nat) : Pk Tryz.prog DD := ⟨110, Zbn.D k, Zbn.sound k, Zal Tryz.func110 (by kernel_rfl) (by kernel_rfl)⟩
/-! ### slices.Clip[[]pyx/api.Line,pyx/api.Line]: function 112 -/
noncomputable def Zbg.f (k : Nat) (a0 : List Zb) : Option (List Zb) := cond (decide ((List.length a0 : Int) = (List.length a0 : Int)) && inS 0 (List.length a0 : Int) (List.length a0)) (some (List.take (Int.toNat (List.length a0 : Int)) a0)) none
noncomputable def Zbg.i : Lay U (List Zb) := (pcOne 0 (tAt (vRow DD C.Zb))).lay (fun _ => by kernel_rfl)
noncomputable def Zbg.r : Lay U (List Zb) := (pcOne 0 (tAt (vRow DD C.Zb))).lay (fun _ => by kernel_rfl)
noncomputable def Zbg.D (k : Nat) : FDen U := fdn Zbg.i Zbg.r Tryz.f112.ntmps [] true (fun x => Zbg.f k (x)) (fun _ _ => rfl)
noncomputable def Zbg.E (k : Nat) : Env U := mkE Tryz.f112 [] [] [] [] n0 n0 [] false n00 nl0 []
theorem Zbg.eq (k : Nat) (x : List Zb) : runF (Zbg.E k) (codeOf Tryz.f112) (Zbg.i.put x) Zbg.r.un = Zbg.f k (x) := by kernel_rfl
theorem Zbg.sound (k : Nat) : Sound Tryz.prog DD 112 (Zbg.D k) :=
  funP (E := Zbg.E k) (fn := Tryz.f112) (c := codeOf Tryz.f112) (Zbq _ _ _ _ _ _ _ _ _ _ _ _) mixed rfl Tryz.func112 (by kernel_rfl) (by kernel_rfl) (Zan (l := []) (by kernel_rfl) Zaa) Zbg.i Zbg.r [] true (fun x => Zbg.f k (x)) (fun _ _ => rfl) (by kernel_rfl) (Zbg.eq k)
noncomputable def Zbg.pk (k : Nat) : Pk Tryz.prog DD := ⟨112, Zbg.D k, Zbg.sound k, Zal Tryz.func112 (by kernel_rfl) (by kernel_rfl)⟩
/-! ### slices.Clone[[]pyx/api.Entry,pyx/api.Entry]: function 111 -/
noncomputable def Zm.f (k : Nat) (a0 : List Zc) : Option (List Zc) := cond (okLen (List.length ([] : List Zc) + List.length a0) 40) (some (([] : List Zc) ++ a0)) none
noncomputable def Zm.un (s : St U) : Option (List Zc) := match s.get 0 with | .row C.Zc x1 => some x1 | _ => none
noncomputable def Zm.mk (x : List Zc) : St U := ⟨[(0, .row C.Zc x)], []⟩
noncomputable def Zm.fin (y : List Zc) : St U := ⟨[(0, .vs 6000000000000)], [(6000000000000, .vec C.Zc y)]⟩
noncomputable def Zm.D (k : Nat) : FDen U := { X := List Zc, Y := List Zc, nt := 8, gh := [], un := Zm.un, f := fun x => Zm.f k (x), fin := Zm.fin, cl := false, clo := fun h => by cases h }
noncomputable def Zm.re (s : St U) : Option (List Zc) := (vec_Sapi_Entry s.o (s.get 0)).bind fun ex1 => (some ex1.2)
noncomputable def Zm.jl : List (Nat × JDen U) := []
noncomputable def Zm.fl (k : Nat) : List (Nat × FDen U) := []
noncomputable def Zm.ll (k : Nat) : List (Nat × LDen U) := []
noncomputable def Zm.E (k : Nat) : Env U := { P := Tryz.prog, D := DD, fd := lk (Zm.fl k), sf := lk sl0, ld := lk (Zm.ll k), jd := lk Zm.jl, mode := lk [], elc := lk ec, mpc := lk mc, rts := Tryz.f111.resultTypes.toList, dyn := fun t => false, vecs := fun d => Nat.beq d 5, results := Tryz.f111.results.toList, gh := [], own := true, io := fun g i => false, lds := nl0, fn := lk [] }
theorem Zm.ok (k : Nat) : EnvOk (Zm.E k) := envOk lawful (Zm.fl k) sl0 (Zm.ll k) Zm.jl _ _ _ _ _ _ _ _ _ _ _ [] (by
  intro p hp
  simp [Zm.fl] at hp) sl0_ok (by
  intro p hp
  simp [Zm.jl] at hp) (fun _ h => (List.not_mem_nil h).elim)
theorem Zm.fitR (s : St U) (y : List Zc) (h : Zm.re s = some y) : Fits s (Zm.fin y) := by
  unfold Zm.re at h
  obtain ⟨ex1, hex1, hh1⟩ := Option.bind_eq_some_iff.1 h
  cases hh1
  refine Zfe [(6000000000000, ex1.1)] ?_ ?_ ren_one rfl
  · exact List.forall_mem_cons.2 ⟨FV.one ((vec_Sapi_Entry_fit hex1 rfl).1), fun _ hp => (List.not_mem_nil hp).elim⟩
  · exact List.forall_mem_cons.2 ⟨(vec_Sapi_Entry_fit hex1 rfl).2, fun _ hp => (List.not_mem_nil hp).elim⟩
noncomputable def Zm.mkn (g : Bool) (x : List Zc) : St U := ⟨[(0, .nrow g C.Zc x)], []⟩
theorem Zm.eq (k : Nat) (x : List Zc) : runF (Zm.E k) (codeOf Tryz.f111) (Zm.mkn true x) Zm.re = (Zm.D k).f x := by kernel_rfl
theorem Zm.eqN (k : Nat) : runF (Zm.E k) (codeOf Tryz.f111) (Zm.mkn false []) Zm.re = (Zm.D k).f [] := by kernel_rfl
theorem Zm.sound (k : Nat) : Sound Tryz.prog DD 111 (Zm.D k) :=
  fun_sound_nil (E := Zm.E k) (fn := Tryz.f111) (c := codeOf Tryz.f111) (Zm.ok k) mixed rfl Tryz.func111 (by kernel_rfl) (by kernel_rfl) (Zan (l := []) (by kernel_rfl) Zaa) C.Zc (Zm.D k) Zm.mkn (fun x => x) Zm.re (by kernel_rfl) (by kernel_rfl)
    (by intro m x h; replace h : Zm.un m = some x := h; unfold Zm.un at h; split at h; · cases h; assumption
        · cases h)
    (fun _ _ => rfl) Zm.fitR (Zm.eq k) (by intro x h; replace h : x = [] := h; subst h; exact Zm.eqN k)
noncomputable def Zm.pk (k : Nat) : Pk Tryz.prog DD := ⟨111, Zm.D k, Zm.sound k, Zal Tryz.func111 (by kernel_rfl) (by kernel_rfl)⟩
/-! ### slices.Clip[[]pyx/api.Entry,pyx/api.Entry]: function 110 -/
noncomputable def Zak.f (k : Nat) (a0 : List Zc) : Option (List Zc) := cond (decide ((List.length a0 : Int) = (List.length a0 : Int)) && decide ((List.length a0 : Int) = (List.length a0 : Int))) (some a0) none
noncomputable def Zak.i : Lay U (List Zc) := (pcOne 0 (tAt (vVec DD 7000000000000 C.Zc))).lay (fun _ => by kernel_rfl)
noncomputable def Zak.r : Lay U (List Zc) := (pcOne 0 (tAt (vVec DD 6000000000000 C.Zc))).lay (fun _ => by kernel_rfl)
noncomputable def Zak.D (k : Nat) : FDen U := fdn Zak.i Zak.r Tryz.f110.ntmps [] false (fun x => Zak.f k (x)) (fun h => by cases h)
noncomputable def Zak.E (k : Nat) : Env U := mkE Tryz.f110 [] [] [] [] n0 n0 [] true n00 nl0 []
theorem Zak.eq (k : Nat) (x : List Zc) : runF (Zak.E k) (codeOf Tryz.f110) (Zak.i.put x) Zak.r.un = Zak.f k (x) := by kernel_rfl
theorem Zak.sound (k : Nat) : Sound Tryz.prog DD 110 (Zak.D k) :=
  funP (E := Zak.E k) (fn := Tryz.f110) (c := codeOf Tryz.f110) (Zbq _ _ _ _ _ _ _ _ _ _ _ _) mixed rfl Tryz.func110 (by kernel_rfl) (by kernel_rfl) (Zan (l := []) (by kernel_rfl) Zaa) Zak.i Zak.r [] false (fun x => Zak.f k (x)) (fun h => by cases h) (by kernel_rfl) (Zak.eq k)
noncomputable def Zak.pk (k : Nat) : Pk Tryz.prog DD := ⟨110, Zak.D k, Zak.sound k, Zal Tryz.func110 (by kernel_rfl) (by kernel_rfl)⟩
/-! ### (*pyx/ledger.Book).Entries: function 57 -/
noncomputable def Zu.l5.once (k : Nat) (x : T6e) : Option (T6e ⊕ ((List Zc × Int × List Zc × Zd))) := match x with | (x4, x5, x3, x6, x7, x32) => cond (decide (x5 < x4)) (cond (inb x5 (List.length x3)) (cond (Nat.blt (Int.toNat x5) (List.length x3)) ((Zp.f k ((List.getD x3 (Int.toNat x5) Zc.zero).Zdc)).bind fun t33 => ((Zbg.f k t33).bind fun t34 => (cond (inb x5 (List.length x3)) (cond (Nat.blt (Int.toNat x5) (List.length x3)) (some (.inl (x4, IntKind.wrap .i64 (x5 + 1), List.set x3 (Int.toNat x5) (⟨(List.getD x3 (Int.toNat x5) Zc.zero).Zdf, t34, (List.getD x3 (Int.toNat x5) Zc.zero).f_Of⟩ : Zc), x6, x7, (⟨pack 12 false x32.Zk, pack 12 0 x32.Zi⟩ : Zd)))) none) none))) none) none) (some (.inr (x3, x6, x7, (⟨pack 12 false x32.Zk, pack 12 0 x32.Zi⟩ : Zd))))
noncomputable def Zu.f (k : Nat) (a0 : Ze) : Option (List Zc × Ze) := (Zm.f k a0.f_l).bind fun t1 => ((Zak.f k t1).bind fun t2 => ((iter (Zu.l5.once k) k ((List.length t2 : Int), 0, t2, a0.Zbd, a0.f_l, (⟨pack 12 false a0.f_t.Zk, pack 12 0 a0.f_t.Zi⟩ : Zd))).bind fun y63 => (some (y63.1, (⟨y63.2.1, y63.2.2.1, (⟨pack 12 false y63.2.2.2.Zk, pack 12 0 y63.2.2.2.Zi⟩ : Zd)⟩ : Ze)))))
noncomputable def Zu.i : Lay U Ze := (pcGh 1000000000000000 7000000000000 (pcOne 0 (Zbv 7000000000000 7000000000000))).lay (fun _ => by kernel_rfl)
noncomputable def Zu.r : Lay U (List Zc × Ze) := (pcAnd (pcOne 0 (tAt (vRow DD C.Zc))) (pcOne 1000000000000000 (Zbv 7000000000000 7000000000000))).lay (fun _ => by kernel_rfl)
noncomputable def Zu.D (k : Nat) : FDen U := fdn Zu.i Zu.r Tryz.f57.ntmps [0] false (fun x => Zu.f k (x)) (fun h => by cases h)
noncomputable def Zu.l5.i : Lay U T6e := ((pcIso (skPc [(1000000000000000, sPtr 7000000000000 0), (3, sAt (vVec DD 1005003 C.Zc)), (14, sAt (vInt .i64)), (15, sAt (vInt .i64))] [bLitT 7000000000000 [(vInt .i64), (vTip DD 700002000500001 C.Zc 3)] Zae]) (fun x => ((x.2.1, x.2.2.1, x.1, x.2.2.2.1, x.2.2.2.2.1, x.2.2.2.2.2) : T6e)) (fun x => (x.2.2.1, x.1, x.2.1, x.2.2.2.1, x.2.2.2.2.1, x.2.2.2.2.2)) (fun _ => rfl)).lay (fun _ => by kernel_rfl))
noncomputable def Zu.l5.o : OLay U ((List Zc × Int × List Zc × Zd)) := oExit 0 (lay [(1000000000000000, sPtr 7000000000000 0), (3, sAt (vVec DD 1005003 C.Zc))] [bLitT 7000000000000 [(vInt .i64), (vTip DD 700002000500001 C.Zc 3)] Zae] (fun _ => by kernel_rfl))
noncomputable def Zu.E (k : Nat) : Env U := mkE Tryz.f57 [Zm.pk k, Zak.pk k, Zp.pk k, Zbg.pk k] [] [(5, ldn Zu.l5.i Zu.l5.o (iter (Zu.l5.once k) k))] [] n0 (fun d => Nat.beq d 11 || Nat.beq d 12) [0] false (fun g i => (Nat.beq g 110 && Nat.beq i 0)) nl0 []
theorem Zu.l5.eq (k : Nat) (x : T6e) : evC (Zu.E k) (loopAt Tryz.f57 5) (Zu.l5.i.put x) (headK Zu.l5.i.un Zu.l5.o.re) = Zu.l5.once k x := by kernel_rfl
theorem Zu.l5.sound (k : Nat) : LSound (Zu.E k) Tryz.f57.ntmps Tryz.f57 (loopAt Tryz.f57 5) (ldn Zu.l5.i Zu.l5.o (iter (Zu.l5.once k) k)) :=
  loopP (Zbq _ _ _ _ _ _ _ _ _ _ _ _) mixed rfl (by kernel_rfl) (Zan (l := []) (by kernel_rfl) Zaa) Zu.l5.i Zu.l5.o (Zu.l5.once k) k (Zu.l5.eq k)
theorem Zu.eq (k : Nat) (x : Ze) : runF (Zu.E k) (codeOf Tryz.f57) (Zu.i.put x) Zu.r.un = Zu.f k (x) := by kernel_rfl
theorem Zu.sound (k : Nat) : Sound Tryz.prog DD 57 (Zu.D k) :=
  funP (E := Zu.E k) (fn := Tryz.f57) (c := codeOf Tryz.f57) (Zbq _ _ _ _ _ _ _ _ _ _ _ _) mixed rfl Tryz.func57 (by kernel_rfl) (by kernel_rfl) (Zan (l := [loopAt Tryz.f57 5]) (by kernel_rfl) (Zdj (key := 5) (by kernel_rfl) rfl (Zu.l5.sound k) Zaa)) Zu.i Zu.r [0] false (fun x => Zu.f k (x)) (fun h => by cases h) (by kernel_rfl) (Zu.eq k)
noncomputable def Zu.pk (k : Nat) : Pk Tryz.prog DD := ⟨57, Zu.D k, Zu.sound k, Zal Tryz.func57 (by kernel_rfl) (by kernel_rfl)⟩
/-! ### pyx/chart.Retained: function 33 -/
noncomputable def Zcl.f (k : Nat)  : Option Int := some 8
noncomputable def Zcl.i : Lay U Unit := (pcUnit).lay (fun _ => by kernel_rfl)
noncomputable def Zcl.r : Lay U Int := (pcOne 0 (tAt (vInt .i64))).lay (fun _ => by kernel_rfl)
noncomputable def Zcl.D (k : Nat) : FDen U := fdn Zcl.i Zcl.r Tryz.f33.ntmps [] true (fun x => Zcl.f k ) (fun _ _ => rfl)
noncomputable def Zcl.E (k : Nat) : Env U := mkE Tryz.f33 [] [] [] [] n0 n0 [] false n00 nl0 []
theorem Zcl.eq (k : Nat) (x : Unit) : runF (Zcl.E k) (codeOf Tryz.f33) (Zcl.i.put x) Zcl.r.un = Zcl.f k  := by kernel_rfl
theorem Zcl.sound (k : Nat) : Sound Tryz.prog DD 33 (Zcl.D k) :=
  funP (E := Zcl.E k) (fn := Tryz.f33) (c := codeOf Tryz.f33) (Zbq _ _ _ _ _ _ _ _ _ _ _ _) mixed rfl Tryz.func33 (by kernel_rfl) (by kernel_rfl) (Zan (l := []) (by kernel_rfl) Zaa) Zcl.i Zcl.r [] true (fun x => Zcl.f k ) (fun _ _ => rfl) (by kernel_rfl) (Zcl.eq k)
noncomputable def Zcl.pk (k : Nat) : Pk Tryz.prog DD := ⟨33, Zcl.D k, Zcl.sound k, Zal Tryz.func33 (by kernel_rfl) (by kernel_rfl)⟩
/-! ### pyx/trial.key: function 58 -/
noncomputable def Zdy.f (k : Nat) (a0 : Zb) (a1 : Bool) : Option (Int × Int) := (((Zdd.f k a0.Zdu).bind fun t1 => (cond (t1 == 4) (some (!a1, a0.Zdu, a0.Zo.f_Neg, a0.Zo.f_C.1, a0.Zo.f_C.2, a0.Zo.Zn, a0.Zeq, 0, 0)) (some (false, a0.Zdu, a0.Zo.f_Neg, a0.Zo.f_C.1, a0.Zo.f_C.2, a0.Zo.Zn, a0.Zeq, 0, 0)))) : Option (Bool × Int × Bool × Int × Int × Int × Int × Int × Int)).bind fun y11 => (cond (y11.1) ((Zcl.f k).bind fun t12 => (some (t12, 0))) (some (y11.2.1, IntKind.wrap .i64 (y11.2.2.2.2.2.2.1 + 1))))
noncomputable def Zdy.i : Lay U (Zb × Bool) := (pcAnd (pcOne 0 (tAt (vCd cd_Sapi_Line))) (pcOne 1 (tAt vBool))).lay (fun _ => by kernel_rfl)
noncomputable def Zdy.r : Lay U (Int × Int) := (pcOne 0 (tAt (vCd (Cd.pair (Cd.int .i64) (Cd.int .i64))))).lay (fun _ => by kernel_rfl)
noncomputable def Zdy.D (k : Nat) : FDen U := fdn Zdy.i Zdy.r Tryz.f58.ntmps [] true (fun x => Zdy.f k (x.1) (x.2)) (fun _ _ => rfl)
noncomputable def Zdy.j1000 : Jk U := ⟨(Bool × Int × Bool × Int × Int × Int × Int × Int × Int), oNorm (lay [(2, sPtr 2 0), (4, sPtr 4 0), (12, sAt vBool)] [bLit 2 [(vInt .i64), vBool, (vInt .u64), (vInt .u64), (vInt .i64), (vInt .i64)], bLit 4 [(vInt .i64), (vInt .i64)]] (fun _ => by kernel_rfl))⟩
noncomputable def Zdy.E (k : Nat) : Env U := mkE Tryz.f58 [Zdd.pk k, Zcl.pk k] [(1000, Zdy.j1000)] [] [] n0 n0 [] false n00 nl0 []
theorem Zdy.eq (k : Nat) (x : (Zb × Bool)) : runF (Zdy.E k) (codeOf Tryz.f58) (Zdy.i.put x) Zdy.r.un = Zdy.f k (x.1) (x.2) := by kernel_rfl
theorem Zdy.sound (k : Nat) : Sound Tryz.prog DD 58 (Zdy.D k) :=
  funP (E := Zdy.E k) (fn := Tryz.f58) (c := codeOf Tryz.f58) (Zbq _ _ _ _ _ _ _ _ _ _ _ _) mixed rfl Tryz.func58 (by kernel_rfl) (by kernel_rfl) (Zan (l := []) (by kernel_rfl) Zaa) Zdy.i Zdy.r [] true (fun x => Zdy.f k (x.1) (x.2)) (fun _ _ => rfl) (by kernel_rfl) (Zdy.eq k)
noncomputable def Zdy.pk (k : Nat) : Pk Tryz.prog DD := ⟨58, Zdy.D k, Zdy.sound k, Zal Tryz.func58 (by kernel_rfl) (by kernel_rfl)⟩
/-! ### (*pyx/ledger.Book).Scale: function 61 -/
noncomputable def Zbl.f (k : Nat) (a0 : Ze) : Option (Int × Ze) := some (a0.Zbd, (⟨a0.Zbd, a0.f_l, (⟨pack 12 false a0.f_t.Zk, pack 12 0 a0.f_t.Zi⟩ : Zd)⟩ : Ze))
noncomputable def Zbl.i : Lay U Ze := (pcGh 1000000000000000 7000000000000 (pcOne 0 (Zbv 7000000000000 7000000000000))).lay (fun _ => by kernel_rfl)
noncomputable def Zbl.r : Lay U (Int × Ze) := (pcAnd (pcOne 0 (tAt (vInt .i64))) (pcOne 1000000000000000 (Zbv 7000000000000 7000000000000))).lay (fun _ => by kernel_rfl)
noncomputable def Zbl.D (k : Nat) : FDen U := fdn Zbl.i Zbl.r Tryz.f61.ntmps [0] false (fun x => Zbl.f k (x)) (fun h => by cases h)
noncomputable def Zbl.E (k : Nat) : Env U := mkE Tryz.f61 [] [] [] [] n0 n0 [0] false n00 nl0 []
theorem Zbl.eq (k : Nat) (x : Ze) : runF (Zbl.E k) (codeOf Tryz.f61) (Zbl.i.put x) Zbl.r.un = Zbl.f k (x) := by kernel_rfl
theorem Zbl.sound (k : Nat) : Sound Tryz.prog DD 61 (Zbl.D k) :=
  funP (E := Zbl.E k) (fn := Tryz.f61) (c := codeOf Tryz.f61) (Zbq _ _ _ _ _ _ _ _ _ _ _ _) mixed rfl Tryz.func61 (by kernel_rfl) (by kernel_rfl) (Zan (l := []) (by kernel_rfl) Zaa) Zbl.i Zbl.r [0] false (fun x => Zbl.f k (x)) (fun h => by cases h) (by kernel_rfl) (Zbl.eq k)
noncomputable def Zbl.pk (k : Nat) : Pk Tryz.prog DD := ⟨61, Zbl.D k, Zbl.sound k, Zal Tryz.func61 (by kernel_rfl) (by kernel_rfl)⟩
end
end Go.Proofs.YtbchcjlllddlpaaGreat
