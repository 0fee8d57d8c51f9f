import Derived.Test.YtbchcjlllddlpaaGreatF0
/-! Functions, told; their equations with the evaluator; that they are sound. Written by gen.py. -/
namespace Go.Proofs.YtbchcjlllddlpaaGreat
open Go Go.Ev
noncomputable section
set_option linter.unusedVariables false
set_option linter.unusedSimpArgs false
set_option maxRecDepth 100000
abbrev T1d := (List Int × List Int × List Int × Int × Int)
abbrev T1c := (List Int × List Int × List Int × Int × List Int)
abbrev T1b := (Int × Int × Bool × Int × List Zc × Zl)
abbrev T1a := (Int × Int × Bool × Int × Int × List Zc × Zl)
/-! ### pyx/pyxref1.RightDec: function 103 -/
noncomputable def Zay.f (k : Nat) (a0 : Zg) : Option Bool := (Zcr.f k (a0.f_C.1, a0.f_C.2)).bind fun t1 => (cond (decide ((List.length t1 : Int) ≤ 30)) (cond (decide (a0.Zn ≥ 0)) (cond (decide (a0.Zn ≤ 9)) (cond (a0.f_Neg) (some (!((List.length t1 : Int) == 0))) (some true)) (some false)) (some false)) (some false))
noncomputable def Zay.i : Lay U Zg := (pcOne 0 (tAt (vCd Zcy))).lay (fun _ => by kernel_rfl)
noncomputable def Zay.r : Lay U Bool := (pcOne 0 (tAt vBool)).lay (fun _ => by kernel_rfl)
noncomputable def Zay.D (k : Nat) : FDen U := fdn Zay.i Zay.r Tryz.f103.ntmps [] true (fun x => Zay.f k (x)) (fun _ _ => rfl)
noncomputable def Zay.E (k : Nat) : Env U := mkE Tryz.f103 [Zcr.pk k] [] [] [] n0 n0 [] false n00 nl0 []
theorem Zay.eq (k : Nat) (x : Zg) : runF (Zay.E k) (codeOf Tryz.f103) (Zay.i.put x) Zay.r.un = Zay.f k (x) := by kernel_rfl
theorem Zay.sound (k : Nat) : Sound Tryz.prog DD 103 (Zay.D k) :=
  funP (E := Zay.E k) (fn := Tryz.f103) (c := codeOf Tryz.f103) (Zbq _ _ _ _ _ _ _ _ _ _ _ _) mixed rfl Tryz.func103 (by kernel_rfl) (by kernel_rfl) (Zan (l := []) (by kernel_rfl) Zaa) Zay.i Zay.r [] true (fun x => Zay.f k (x)) (fun _ _ => rfl) (by kernel_rfl) (Zay.eq k)
noncomputable def Zay.pk (k : Nat) : Pk Tryz.prog DD := ⟨103, Zay.D k, Zay.sound k, Zal Tryz.func103 (by kernel_rfl) (by kernel_rfl)⟩
/-! ### pyx/pyxref1.Neg: function 54 -/
noncomputable def Zcx.f (k : Nat) (a0 : Zg) : Option Zg := (Zay.f k (⟨a0.f_Neg, (a0.f_C.1, a0.f_C.2), a0.Zn⟩ : Zg)).bind fun t1 => (cond (!t1) (some (⟨false, (0, 0), 0⟩ : Zg)) (cond (!a0.f_Neg) (some (⟨!((a0.f_C.1 == 0) && (a0.f_C.2 == 0)), (a0.f_C.1, a0.f_C.2), a0.Zn⟩ : Zg)) (some (⟨false, (a0.f_C.1, a0.f_C.2), a0.Zn⟩ : Zg))))
noncomputable def Zcx.i : Lay U Zg := (pcOne 0 (tAt (vCd Zcy))).lay (fun _ => by kernel_rfl)
noncomputable def Zcx.r : Lay U Zg := (pcOne 0 (tAt (vCd Zcy))).lay (fun _ => by kernel_rfl)
noncomputable def Zcx.D (k : Nat) : FDen U := fdn Zcx.i Zcx.r Tryz.f54.ntmps [] true (fun x => Zcx.f k (x)) (fun _ _ => rfl)
noncomputable def Zcx.E (k : Nat) : Env U := mkE Tryz.f54 [Zay.pk k] [] [] [] n0 n0 [] false n00 nl0 []
theorem Zcx.eq (k : Nat) (x : Zg) : runF (Zcx.E k) (codeOf Tryz.f54) (Zcx.i.put x) Zcx.r.un = Zcx.f k (x) := by kernel_rfl
theorem Zcx.sound (k : Nat) : Sound Tryz.prog DD 54 (Zcx.D k) :=
  funP (E := Zcx.E k) (fn := Tryz.f54) (c := codeOf Tryz.f54) (Zbq _ _ _ _ _ _ _ _ _ _ _ _) mixed rfl Tryz.func54 (by kernel_rfl) (by kernel_rfl) (Zan (l := []) (by kernel_rfl) Zaa) Zcx.i Zcx.r [] true (fun x => Zcx.f k (x)) (fun _ _ => rfl) (by kernel_rfl) (Zcx.eq k)
noncomputable def Zcx.pk (k : Nat) : Pk Tryz.prog DD := ⟨54, Zcx.D k, Zcx.sound k, Zal Tryz.func54 (by kernel_rfl) (by kernel_rfl)⟩
/-! ### pyx/pyxref11.Turned: function 161 -/
noncomputable def Zaj.l3.once (k : Nat) (x : (List Zb × List Zb × Int)) : Option ((List Zb × List Zb × Int) ⊕ (List Zb)) := match x with | (x1, x2, x3) => cond (decide (x3 < (List.length x1 : Int))) (cond (inb x3 (List.length x1)) ((Zcx.f k (⟨((List.getD x1 (Int.toNat x3) Zb.zero).Zo).f_Neg, ((((List.getD x1 (Int.toNat x3) Zb.zero).Zo).f_C).1, (((List.getD x1 (Int.toNat x3) Zb.zero).Zo).f_C).2), ((List.getD x1 (Int.toNat x3) Zb.zero).Zo).Zn⟩ : Zg)).bind fun t4 => (cond (okLen (List.length x2 + List.length [(⟨(List.getD x1 (Int.toNat x3) Zb.zero).Zdu, (⟨t4.f_Neg, (t4.f_C.1, t4.f_C.2), t4.Zn⟩ : Zg), (List.getD x1 (Int.toNat x3) Zb.zero).Zeq⟩ : Zb)]) 48) (some (.inl (x1, x2 ++ [(⟨(List.getD x1 (Int.toNat x3) Zb.zero).Zdu, (⟨t4.f_Neg, (t4.f_C.1, t4.f_C.2), t4.Zn⟩ : Zg), (List.getD x1 (Int.toNat x3) Zb.zero).Zeq⟩ : Zb)], IntKind.wrap .i64 (x3 + 1)))) none)) none) (some (.inr x2))
noncomputable def Zaj.f (k : Nat) (a0 : List Zb) : Option (List Zb) := (iter (Zaj.l3.once k) k (a0, ([] : List Zb), 0)).bind fun y6 => (some y6)
noncomputable def Zaj.i : Lay U (List Zb) := (pcOne 0 (tAt (vRow DD C.Zb))).lay (fun _ => by kernel_rfl)
noncomputable def Zaj.r : Lay U (List Zb) := (pcOne 0 (tAt (vRow DD C.Zb))).lay (fun _ => by kernel_rfl)
noncomputable def Zaj.D (k : Nat) : FDen U := fdn Zaj.i Zaj.r Tryz.f161.ntmps [] true (fun x => Zaj.f k (x)) (fun _ _ => rfl)
noncomputable def Zaj.l3.i : Lay U (List Zb × List Zb × Int) := (lay [(0, sAt (vRow DD C.Zb)), (3, sAt (vTip DD 1003003 C.Zb 6)), (4, sAt (vInt .i64))] [] (fun _ => by kernel_rfl))
noncomputable def Zaj.l3.o : OLay U (List Zb) := oExit 0 (lay [(3, sAt (vTip DD 1003003 C.Zb 6))] [] (fun _ => by kernel_rfl))
noncomputable def Zaj.E (k : Nat) : Env U := mkE Tryz.f161 [Zcx.pk k] [] [(3, ldn Zaj.l3.i Zaj.l3.o (iter (Zaj.l3.once k) k))] [] n0 n0 [] false n00 nl0 []
theorem Zaj.l3.eq (k : Nat) (x : (List Zb × List Zb × Int)) : evC (Zaj.E k) (loopAt Tryz.f161 3) (Zaj.l3.i.put x) (headK Zaj.l3.i.un Zaj.l3.o.re) = Zaj.l3.once k x := by kernel_rfl
theorem Zaj.l3.sound (k : Nat) : LSound (Zaj.E k) Tryz.f161.ntmps Tryz.f161 (loopAt Tryz.f161 3) (ldn Zaj.l3.i Zaj.l3.o (iter (Zaj.l3.once k) k)) :=
  loopP (Zbq _ _ _ _ _ _ _ _ _ _ _ _) mixed rfl (by kernel_rfl) (Zan (l := []) (by kernel_rfl) Zaa) Zaj.l3.i Zaj.l3.o (Zaj.l3.once k) k (Zaj.l3.eq k)
theorem Zaj.eq (k : Nat) (x : List Zb) : runF (Zaj.E k) (codeOf Tryz.f161) (Zaj.i.put x) Zaj.r.un = Zaj.f k (x) := by kernel_rfl
theorem Zaj.sound (k : Nat) : Sound Tryz.prog DD 161 (Zaj.D k) :=
  funP (E := Zaj.E k) (fn := Tryz.f161) (c := codeOf Tryz.f161) (Zbq _ _ _ _ _ _ _ _ _ _ _ _) mixed rfl Tryz.func161 (by kernel_rfl) (by kernel_rfl) (Zan (l := [loopAt Tryz.f161 3]) (by kernel_rfl) (Zdj (key := 3) (by kernel_rfl) rfl (Zaj.l3.sound k) Zaa)) Zaj.i Zaj.r [] true (fun x => Zaj.f k (x)) (fun _ _ => rfl) (by kernel_rfl) (Zaj.eq k)
noncomputable def Zaj.pk (k : Nat) : Pk Tryz.prog DD := ⟨161, Zaj.D k, Zaj.sound k, Zal Tryz.func161 (by kernel_rfl) (by kernel_rfl)⟩
/-! ### (pyx/pyxref11.Table).IsOpen: function 177 -/
noncomputable def Zba.f (k : Nat) (a0 : Zl) (a1 : Int) : Option Bool := (Zdb.f k a1).bind fun t1 => (cond (t1) (cond (inb a1 12) (cond (Nat.blt (Int.toNat a1) 12) (some (!(List.getD (pack 12 false a0.Zk) (Int.toNat a1) false))) none) none) (some false))
noncomputable def Zba.i : Lay U (Zl × Int) := (pcAnd (pcOne 0 (tAt (vCd Zbw))) (pcOne 1 (tAt (vInt .i64)))).lay (fun _ => by kernel_rfl)
noncomputable def Zba.r : Lay U Bool := (pcOne 0 (tAt vBool)).lay (fun _ => by kernel_rfl)
noncomputable def Zba.D (k : Nat) : FDen U := fdn Zba.i Zba.r Tryz.f177.ntmps [] true (fun x => Zba.f k (x.1) (x.2)) (fun _ _ => rfl)
noncomputable def Zba.E (k : Nat) : Env U := mkE Tryz.f177 [Zdb.pk k] [] [] [] (fun t => Nat.beq t 68) n0 [] false n00 nl0 []
theorem Zba.eq (k : Nat) (x : (Zl × Int)) : runF (Zba.E k) (codeOf Tryz.f177) (Zba.i.put x) Zba.r.un = Zba.f k (x.1) (x.2) := by kernel_rfl
theorem Zba.sound (k : Nat) : Sound Tryz.prog DD 177 (Zba.D k) :=
  funP (E := Zba.E k) (fn := Tryz.f177) (c := codeOf Tryz.f177) (Zbq _ _ _ _ _ _ _ _ _ _ _ _) mixed rfl Tryz.func177 (by kernel_rfl) (by kernel_rfl) (Zan (l := []) (by kernel_rfl) Zaa) Zba.i Zba.r [] true (fun x => Zba.f k (x.1) (x.2)) (fun _ _ => rfl) (by kernel_rfl) (Zba.eq k)
noncomputable def Zba.pk (k : Nat) : Pk Tryz.prog DD := ⟨177, Zba.D k, Zba.sound k, Zal Tryz.func177 (by kernel_rfl) (by kernel_rfl)⟩
/-! ### (*pyx/pyxref11.Book).put: function 160 -/
noncomputable def Zbi.f (k : Nat) (a0 : Zac) (a1 : Zc) : Option (Int × Int × Zac) := (Zba.f k (⟨pack 12 false a0.f_T.Zk, pack 12 0 a0.f_T.Zi⟩ : Zl) a1.Zdf).bind fun t1 => (cond (!t1) (some (0, 8, (⟨a0.Zn, a0.f_L, (⟨pack 12 false a0.f_T.Zk, pack 12 0 a0.f_T.Zi⟩ : Zl)⟩ : Zac))) (cond (decide ((List.length a0.f_L : Int) ≥ 40)) (some (0, 5, (⟨a0.Zn, a0.f_L, (⟨pack 12 false a0.f_T.Zk, pack 12 0 a0.f_T.Zi⟩ : Zl)⟩ : Zac))) (cond (okLen (List.length a0.f_L + List.length [(⟨a1.Zdf, a1.Zdc, a1.f_Of⟩ : Zc)]) 40) (some (IntKind.wrap .i64 ((List.length (a0.f_L ++ [(⟨a1.Zdf, a1.Zdc, a1.f_Of⟩ : Zc)]) : Int) - 1), 0, (⟨a0.Zn, a0.f_L ++ [(⟨a1.Zdf, a1.Zdc, a1.f_Of⟩ : Zc)], (⟨pack 12 false a0.f_T.Zk, pack 12 0 a0.f_T.Zi⟩ : Zl)⟩ : Zac))) none)))
noncomputable def Zbi.i : Lay U (Zac × Zc) := (pcGh 1000000000000000 7000000000000 (pcAnd (pcOne 0 (Zde 7000000000000 7000000000000)) (pcOne 1 (tAt (vCd cd_Sapi_Entry))))).lay (fun _ => by kernel_rfl)
noncomputable def Zbi.r : Lay U (Int × Int × Zac) := (pcIso (pcAnd (pcTup 0 (tqCons (tAt (vInt .i64)) (tqOne (tAt (vInt .i64))))) (pcOne 1000000000000000 (Zde 7000000000000 7000000000000))) (fun x => ((x.1.1, x.1.2, x.2) : (Int × Int × Zac))) (fun x => ((x.1, x.2.1), x.2.2)) (fun _ => rfl)).lay (fun _ => by kernel_rfl)
noncomputable def Zbi.D (k : Nat) : FDen U := fdn Zbi.i Zbi.r Tryz.f160.ntmps [0] false (fun x => Zbi.f k (x.1) (x.2)) (fun h => by cases h)
noncomputable def Zbi.E (k : Nat) : Env U := mkE Tryz.f160 [Zba.pk k] [] [] [] n0 n0 [0] false n00 nl0 []
theorem Zbi.eq (k : Nat) (x : (Zac × Zc)) : runF (Zbi.E k) (codeOf Tryz.f160) (Zbi.i.put x) Zbi.r.un = Zbi.f k (x.1) (x.2) := by kernel_rfl
theorem Zbi.sound (k : Nat) : Sound Tryz.prog DD 160 (Zbi.D k) :=
  funP (E := Zbi.E k) (fn := Tryz.f160) (c := codeOf Tryz.f160) (Zbq _ _ _ _ _ _ _ _ _ _ _ _) mixed rfl Tryz.func160 (by kernel_rfl) (by kernel_rfl) (Zan (l := []) (by kernel_rfl) Zaa) Zbi.i Zbi.r [0] false (fun x => Zbi.f k (x.1) (x.2)) (fun h => by cases h) (by kernel_rfl) (Zbi.eq k)
noncomputable def Zbi.pk (k : Nat) : Pk Tryz.prog DD := ⟨160, Zbi.D k, Zbi.sound k, Zal Tryz.func160 (by kernel_rfl) (by kernel_rfl)⟩
/-! ### (*pyx/pyxref11.Book).Reverse: function 128 -/
noncomputable def Zq.l5.once (k : Nat) (x : T1a) : Option (T1a ⊕ (T1b)) := match x with | (x59, x60, x61, x62, x32, x33, x58) => cond (decide (x62 < (List.length x33 : Int))) (((cond (x61) (some (x59, x60, true, x62, x32, x33, (⟨pack 12 false x58.Zk, pack 12 0 x58.Zi⟩ : Zl))) (cond (inb x62 (List.length x33)) (some (x59, x60, ((List.getD x33 (Int.toNat x62) Zc.zero).f_Of) == x59, x62, x32, x33, (⟨pack 12 false x58.Zk, pack 12 0 x58.Zi⟩ : Zl))) none)) : Option T1a).bind fun y94 => (some (.inl (y94.1, y94.2.1, y94.2.2.1, IntKind.wrap .i64 (y94.2.2.2.1 + 1), y94.2.2.2.2.1, y94.2.2.2.2.2.1, (⟨pack 12 false y94.2.2.2.2.2.2.Zk, pack 12 0 y94.2.2.2.2.2.2.Zi⟩ : Zl))))) (some (.inr (x59, x60, x61, x32, x33, (⟨pack 12 false x58.Zk, pack 12 0 x58.Zi⟩ : Zl))))
noncomputable def Zq.f (k : Nat) (a0 : Zac) (a1 : Int) (a2 : Int) : Option (Int × Int × Zac) := ((cond (decide (a1 < 0)) (some (a1, a2, true, a0.Zn, a0.f_L, (⟨pack 12 false a0.f_T.Zk, pack 12 0 a0.f_T.Zi⟩ : Zl))) (some (a1, a2, decide (a1 ≥ (List.length a0.f_L : Int)), a0.Zn, a0.f_L, (⟨pack 12 false a0.f_T.Zk, pack 12 0 a0.f_T.Zi⟩ : Zl)))) : Option T1b).bind fun y31 => (cond (y31.2.2.1) (some (0, 10, (⟨y31.2.2.2.1, y31.2.2.2.2.1, (⟨pack 12 false y31.2.2.2.2.2.Zk, pack 12 0 y31.2.2.2.2.2.Zi⟩ : Zl)⟩ : Zac))) (cond (inb y31.1 (List.length y31.2.2.2.2.1)) ((iter (Zq.l5.once k) k (y31.1, y31.2.1, decide (((List.getD y31.2.2.2.2.1 (Int.toNat y31.1) Zc.zero).f_Of) ≥ 0), 0, y31.2.2.2.1, y31.2.2.2.2.1, (⟨pack 12 false y31.2.2.2.2.2.Zk, pack 12 0 y31.2.2.2.2.2.Zi⟩ : Zl))).bind fun y125 => (cond (y125.2.2.1) (some (0, 13, (⟨y125.2.2.2.1, y125.2.2.2.2.1, (⟨pack 12 false y125.2.2.2.2.2.Zk, pack 12 0 y125.2.2.2.2.2.Zi⟩ : Zl)⟩ : Zac))) (cond (inb y125.1 (List.length y125.2.2.2.2.1)) ((Zaj.f k ((List.getD y125.2.2.2.2.1 (Int.toNat y125.1) Zc.zero).Zdc)).bind fun t126 => ((Zbi.f k (⟨y125.2.2.2.1, y125.2.2.2.2.1, (⟨pack 12 false y125.2.2.2.2.2.Zk, pack 12 0 y125.2.2.2.2.2.Zi⟩ : Zl)⟩ : Zac) (⟨y125.2.1, t126, y125.1⟩ : Zc)).bind fun t127 => (some (t127.1, t127.2.1, (⟨t127.2.2.Zn, t127.2.2.f_L, (⟨pack 12 false t127.2.2.f_T.Zk, pack 12 0 t127.2.2.f_T.Zi⟩ : Zl)⟩ : Zac))))) none))) none))
noncomputable def Zq.i : Lay U (Zac × Int × Int) := (pcGh 1000000000000000 7000000000000 (pcAnd (pcOne 0 (Zde 7000000000000 7000000000000)) (pcAnd (pcOne 1 (tAt (vInt .i64))) (pcOne 2 (tAt (vInt .i64)))))).lay (fun _ => by kernel_rfl)
noncomputable def Zq.r : Lay U (Int × Int × Zac) := (pcIso (pcAnd (pcTup 0 (tqCons (tAt (vInt .i64)) (tqOne (tAt (vInt .i64))))) (pcOne 1000000000000000 (Zde 7000000000000 7000000000000))) (fun x => ((x.1.1, x.1.2, x.2) : (Int × Int × Zac))) (fun x => ((x.1, x.2.1), x.2.2)) (fun _ => rfl)).lay (fun _ => by kernel_rfl)
noncomputable def Zq.D (k : Nat) : FDen U := fdn Zq.i Zq.r Tryz.f128.ntmps [0] false (fun x => Zq.f k (x.1) (x.2.1) (x.2.2)) (fun h => by cases h)
noncomputable def Zq.l5.i : Lay U T1a := (lay [(0, sPtr 7000000000000 0), (1000000000000000, sPtr 7000000000000 0), (1, sAt (vInt .i64)), (2, sAt (vInt .i64)), (8, sAt vBool), (9, sAt (vInt .i64))] [bLitT 7000000000000 [(vInt .i64), (vTip DD 700002000500001 C.Zc 3)] Zbw] (fun _ => by kernel_rfl))
noncomputable def Zq.l5.o : OLay U (T1b) := oExit 0 (lay [(0, sPtr 7000000000000 0), (1000000000000000, sPtr 7000000000000 0), (1, sAt (vInt .i64)), (2, sAt (vInt .i64)), (8, sAt vBool)] [bLitT 7000000000000 [(vInt .i64), (vTip DD 700002000500001 C.Zc 3)] Zbw] (fun _ => by kernel_rfl))
noncomputable def Zq.j1000 : Jk U := ⟨T1b, oNorm (lay [(0, sPtr 7000000000000 0), (1000000000000000, sPtr 7000000000000 0), (1, sAt (vInt .i64)), (2, sAt (vInt .i64)), (20, sAt vBool)] [bLitT 7000000000000 [(vInt .i64), (vTip DD 700102100000001 C.Zc 3)] Zbw] (fun _ => by kernel_rfl))⟩
noncomputable def Zq.j7001 : Jk U := ⟨T1a, oNorm (lay [(0, sPtr 7000000000000 0), (1000000000000000, sPtr 7000000000000 0), (1, sAt (vInt .i64)), (2, sAt (vInt .i64)), (8, sAt vBool), (9, sAt (vInt .i64))] [bLitT 7000000000000 [(vInt .i64), (vTip DD 700102700100001 C.Zc 3)] Zbw] (fun _ => by kernel_rfl))⟩
noncomputable def Zq.E (k : Nat) : Env U := mkE Tryz.f128 [Zaj.pk k, Zbi.pk k] [(1000, Zq.j1000), (7001, Zq.j7001)] [(5, ldn Zq.l5.i Zq.l5.o (iter (Zq.l5.once k) k))] [] n0 n0 [0] false n00 nl0 []
theorem Zq.l5.eq (k : Nat) (x : T1a) : evC (Zq.E k) (loopAt Tryz.f128 5) (Zq.l5.i.put x) (headK Zq.l5.i.un Zq.l5.o.re) = Zq.l5.once k x := by kernel_rfl
theorem Zq.l5.sound (k : Nat) : LSound (Zq.E k) Tryz.f128.ntmps Tryz.f128 (loopAt Tryz.f128 5) (ldn Zq.l5.i Zq.l5.o (iter (Zq.l5.once k) k)) :=
  loopP (Zbq _ _ _ _ _ _ _ _ _ _ _ _) mixed rfl (by kernel_rfl) (Zan (l := []) (by kernel_rfl) Zaa) Zq.l5.i Zq.l5.o (Zq.l5.once k) k (Zq.l5.eq k)
theorem Zq.eq (k : Nat) (x : (Zac × Int × Int)) : runF (Zq.E k) (codeOf Tryz.f128) (Zq.i.put x) Zq.r.un = Zq.f k (x.1) (x.2.1) (x.2.2) := by kernel_rfl
theorem Zq.sound (k : Nat) : Sound Tryz.prog DD 128 (Zq.D k) :=
  funP (E := Zq.E k) (fn := Tryz.f128) (c := codeOf Tryz.f128) (Zbq _ _ _ _ _ _ _ _ _ _ _ _) mixed rfl Tryz.func128 (by kernel_rfl) (by kernel_rfl) (Zan (l := [loopAt Tryz.f128 5]) (by kernel_rfl) (Zdj (key := 5) (by kernel_rfl) rfl (Zq.l5.sound k) Zaa)) Zq.i Zq.r [0] false (fun x => Zq.f k (x.1) (x.2.1) (x.2.2)) (fun h => by cases h) (by kernel_rfl) (Zq.eq k)
noncomputable def Zq.pk (k : Nat) : Pk Tryz.prog DD := ⟨128, Zq.D k, Zq.sound k, Zal Tryz.func128 (by kernel_rfl) (by kernel_rfl)⟩
/-! ### (pyx/pyxref11.Table).Reopen: function 162 -/
noncomputable def Zat.f (k : Nat) (a0 : Zl) (a1 : Int) : Option (Zl × Int) := (((Zdb.f k a1).bind fun t1 => (cond (!t1) (some (a1, true, (⟨pack 12 false a0.Zk, pack 12 0 a0.Zi⟩ : Zl), (⟨[false, false, false, false, false, false, false, false, false, false, false, false], [0, 0, 0, 0, 0, 0, 0, 0, 0, 0, 0, 0]⟩ : Zl))) (cond (inb a1 12) (cond (Nat.blt (Int.toNat a1) 12) (cond (!(List.getD (pack 12 false a0.Zk) (Int.toNat a1) false)) (some (a1, true, (⟨pack 12 false a0.Zk, pack 12 0 a0.Zi⟩ : Zl), (⟨[false, false, false, false, false, false, false, false, false, false, false, false], [0, 0, 0, 0, 0, 0, 0, 0, 0, 0, 0, 0]⟩ : Zl))) (cond (decide ((IntKind.wrap .i64 (a1 + 1)) < 12)) (cond (inb (IntKind.wrap .i64 (a1 + 1)) 12) (cond (Nat.blt (Int.toNat (IntKind.wrap .i64 (a1 + 1))) 12) (some (a1, List.getD (pack 12 false a0.Zk) (Int.toNat (IntKind.wrap .i64 (a1 + 1))) false, (⟨pack 12 false a0.Zk, pack 12 0 a0.Zi⟩ : Zl), (⟨[false, false, false, false, false, false, false, false, false, false, false, false], [0, 0, 0, 0, 0, 0, 0, 0, 0, 0, 0, 0]⟩ : Zl))) none) none) (some (a1, false, (⟨pack 12 false a0.Zk, pack 12 0 a0.Zi⟩ : Zl), (⟨[false, false, false, false, false, false, false, false, false, false, false, false], [0, 0, 0, 0, 0, 0, 0, 0, 0, 0, 0, 0]⟩ : Zl))))) none) none))) : Option (Int × Bool × Zl × Zl)).bind fun y6 => (cond (y6.2.1) (some ((⟨[false, false, false, false, false, false, false, false, false, false, false, false], [0, 0, 0, 0, 0, 0, 0, 0, 0, 0, 0, 0]⟩ : Zl), 8)) (cond (inb y6.1 12) (cond (Nat.blt (Int.toNat y6.1) 12) (some ((⟨putAll (Int.toNat y6.1) false 0 (pack 12 false y6.2.2.1.Zk), pack 12 0 y6.2.2.1.Zi⟩ : Zl), 0)) none) none))
noncomputable def Zat.i : Lay U (Zl × Int) := (pcAnd (pcOne 0 (tAt (vCd Zbw))) (pcOne 1 (tAt (vInt .i64)))).lay (fun _ => by kernel_rfl)
noncomputable def Zat.r : Lay U (Zl × Int) := (pcTup 0 (tqCons (tAt (vCd Zbw)) (tqOne (tAt (vInt .i64))))).lay (fun _ => by kernel_rfl)
noncomputable def Zat.D (k : Nat) : FDen U := fdn Zat.i Zat.r Tryz.f162.ntmps [] true (fun x => Zat.f k (x.1) (x.2)) (fun _ _ => rfl)
noncomputable def Zat.j1000 : Jk U := ⟨(Int × Bool × Zl × Zl), oNorm (lay [(2, sPtr 2 0), (4, sPtr 4 0), (1, sAt (vInt .i64)), (27, sAt vBool)] [bCd 2 Zbw, bCd 4 Zbw] (fun _ => by kernel_rfl))⟩
noncomputable def Zat.E (k : Nat) : Env U := mkE Tryz.f162 [Zdb.pk k] [(1000, Zat.j1000)] [] [] (fun t => Nat.beq t 68) n0 [] false n00 nl0 []
theorem Zat.eq (k : Nat) (x : (Zl × Int)) : runF (Zat.E k) (codeOf Tryz.f162) (Zat.i.put x) Zat.r.un = Zat.f k (x.1) (x.2) := by kernel_rfl
theorem Zat.sound (k : Nat) : Sound Tryz.prog DD 162 (Zat.D k) :=
  funP (E := Zat.E k) (fn := Tryz.f162) (c := codeOf Tryz.f162) (Zbq _ _ _ _ _ _ _ _ _ _ _ _) mixed rfl Tryz.func162 (by kernel_rfl) (by kernel_rfl) (Zan (l := []) (by kernel_rfl) Zaa) Zat.i Zat.r [] true (fun x => Zat.f k (x.1) (x.2)) (fun _ _ => rfl) (by kernel_rfl) (Zat.eq k)
noncomputable def Zat.pk (k : Nat) : Pk Tryz.prog DD := ⟨162, Zat.D k, Zat.sound k, Zal Tryz.func162 (by kernel_rfl) (by kernel_rfl)⟩
/-! ### (*pyx/pyxref11.Book).Reopen: function 129 -/
noncomputable def Zbe.f (k : Nat) (a0 : Zac) (a1 : Int) : Option (Int × Zac) := (Zat.f k (⟨pack 12 false a0.f_T.Zk, pack 12 0 a0.f_T.Zi⟩ : Zl) a1).bind fun t1 => (cond (t1.2 == 0) (some (t1.2, (⟨a0.Zn, a0.f_L, (⟨pack 12 false t1.1.Zk, pack 12 0 t1.1.Zi⟩ : Zl)⟩ : Zac))) (some (t1.2, (⟨a0.Zn, a0.f_L, (⟨pack 12 false a0.f_T.Zk, pack 12 0 a0.f_T.Zi⟩ : Zl)⟩ : Zac))))
noncomputable def Zbe.i : Lay U (Zac × Int) := (pcGh 1000000000000000 7000000000000 (pcAnd (pcOne 0 (Zde 7000000000000 7000000000000)) (pcOne 1 (tAt (vInt .i64))))).lay (fun _ => by kernel_rfl)
noncomputable def Zbe.r : Lay U (Int × Zac) := (pcAnd (pcOne 0 (tAt (vInt .i64))) (pcOne 1000000000000000 (Zde 7000000000000 7000000000000))).lay (fun _ => by kernel_rfl)
noncomputable def Zbe.D (k : Nat) : FDen U := fdn Zbe.i Zbe.r Tryz.f129.ntmps [0] false (fun x => Zbe.f k (x.1) (x.2)) (fun h => by cases h)
noncomputable def Zbe.E (k : Nat) : Env U := mkE Tryz.f129 [Zat.pk k] [] [] [] n0 n0 [0] false n00 nl0 []
theorem Zbe.eq (k : Nat) (x : (Zac × Int)) : runF (Zbe.E k) (codeOf Tryz.f129) (Zbe.i.put x) Zbe.r.un = Zbe.f k (x.1) (x.2) := by kernel_rfl
theorem Zbe.sound (k : Nat) : Sound Tryz.prog DD 129 (Zbe.D k) :=
  funP (E := Zbe.E k) (fn := Tryz.f129) (c := codeOf Tryz.f129) (Zbq _ _ _ _ _ _ _ _ _ _ _ _) mixed rfl Tryz.func129 (by kernel_rfl) (by kernel_rfl) (Zan (l := []) (by kernel_rfl) Zaa) Zbe.i Zbe.r [0] false (fun x => Zbe.f k (x.1) (x.2)) (fun h => by cases h) (by kernel_rfl) (Zbe.eq k)
noncomputable def Zbe.pk (k : Nat) : Pk Tryz.prog DD := ⟨129, Zbe.D k, Zbe.sound k, Zal Tryz.func129 (by kernel_rfl) (by kernel_rfl)⟩
/-! ### pyx/pyxref11.Zero: function 17 -/
noncomputable def Zda.f (k : Nat) (a0 : Int) : Option Zg := some (⟨false, (0, 0), a0⟩ : Zg)
noncomputable def Zda.i : Lay U Int := (pcOne 0 (tAt (vInt .i64))).lay (fun _ => by kernel_rfl)
noncomputable def Zda.r : Lay U Zg := (pcOne 0 (tAt (vCd Zcy))).lay (fun _ => by kernel_rfl)
noncomputable def Zda.D (k : Nat) : FDen U := fdn Zda.i Zda.r Tryz.f17.ntmps [] true (fun x => Zda.f k (x)) (fun _ _ => rfl)
noncomputable def Zda.E (k : Nat) : Env U := mkE Tryz.f17 [] [] [] [] n0 n0 [] false n00 nl0 []
theorem Zda.eq (k : Nat) (x : Int) : runF (Zda.E k) (codeOf Tryz.f17) (Zda.i.put x) Zda.r.un = Zda.f k (x) := by kernel_rfl
theorem Zda.sound (k : Nat) : Sound Tryz.prog DD 17 (Zda.D k) :=
  funP (E := Zda.E k) (fn := Tryz.f17) (c := codeOf Tryz.f17) (Zbq _ _ _ _ _ _ _ _ _ _ _ _) mixed rfl Tryz.func17 (by kernel_rfl) (by kernel_rfl) (Zan (l := []) (by kernel_rfl) Zaa) Zda.i Zda.r [] true (fun x => Zda.f k (x)) (fun _ _ => rfl) (by kernel_rfl) (Zda.eq k)
noncomputable def Zda.pk (k : Nat) : Pk Tryz.prog DD := ⟨17, Zda.D k, Zda.sound k, Zal Tryz.func17 (by kernel_rfl) (by kernel_rfl)⟩
/-! ### pyx/pyxref1.CmpNat: function 106 -/
noncomputable def Zah.l6.once (k : Nat) (x : (List Int × List Int × Int)) : Option ((List Int × List Int × Int) ⊕ (Unit ⊕ Int)) := match x with | (x1, x2, x3) => cond (decide (x3 ≥ 0)) (cond (inb x3 (List.length x1)) (cond (inb x3 (List.length x2)) (cond (decide ((List.getD x1 (Int.toNat x3) 0) < (List.getD x2 (Int.toNat x3) 0))) (some (.inr (.inr (-1)))) (cond (inb x3 (List.length x1)) (cond (inb x3 (List.length x2)) (cond (decide ((List.getD x1 (Int.toNat x3) 0) > (List.getD x2 (Int.toNat x3) 0))) (some (.inr (.inr 1))) (some (.inl (x1, x2, IntKind.wrap .i64 (x3 - 1))))) none) none)) none) none) (some (.inr (.inl ())))
noncomputable def Zah.f (k : Nat) (a0 : List Int) (a1 : List Int) : Option Int := cond ((List.length a0 : Int) != (List.length a1 : Int)) (cond (decide ((List.length a0 : Int) < (List.length a1 : Int))) (some (-1)) (some 1)) ((iter (Zah.l6.once k) k (a0, a1, IntKind.wrap .i64 ((List.length a0 : Int) - 1))).bind fun | .inl y5 => (some 0) | .inr y6 => (some y6))
noncomputable def Zah.i : Lay U (List Int × List Int) := (pcAnd (pcOne 0 (tAt (vRow DD C.i64))) (pcOne 1 (tAt (vRow DD C.i64)))).lay (fun _ => by kernel_rfl)
noncomputable def Zah.r : Lay U Int := (pcOne 0 (tAt (vInt .i64))).lay (fun _ => by kernel_rfl)
noncomputable def Zah.D (k : Nat) : FDen U := fdn Zah.i Zah.r Tryz.f106.ntmps [] true (fun x => Zah.f k (x.1) (x.2)) (fun _ _ => rfl)
noncomputable def Zah.l6.i : Lay U (List Int × List Int × Int) := (lay [(0, sAt (vRow DD C.i64)), (1, sAt (vRow DD C.i64)), (5, sAt (vInt .i64))] [] (fun _ => by kernel_rfl))
noncomputable def Zah.l6.o : OLay U (Unit ⊕ Int) := oOr (oExit 0 (lay [] [] (fun _ => by kernel_rfl))) (oRet Zah.r)
noncomputable def Zah.E (k : Nat) : Env U := mkE Tryz.f106 [] [] [(6, ldn Zah.l6.i Zah.l6.o (iter (Zah.l6.once k) k))] [] n0 n0 [] false n00 nl0 []
theorem Zah.l6.eq (k : Nat) (x : (List Int × List Int × Int)) : evC (Zah.E k) (loopAt Tryz.f106 6) (Zah.l6.i.put x) (headK Zah.l6.i.un Zah.l6.o.re) = Zah.l6.once k x := by kernel_rfl
theorem Zah.l6.sound (k : Nat) : LSound (Zah.E k) Tryz.f106.ntmps Tryz.f106 (loopAt Tryz.f106 6) (ldn Zah.l6.i Zah.l6.o (iter (Zah.l6.once k) k)) :=
  loopP (Zbq _ _ _ _ _ _ _ _ _ _ _ _) mixed rfl (by kernel_rfl) (Zan (l := []) (by kernel_rfl) Zaa) Zah.l6.i Zah.l6.o (Zah.l6.once k) k (Zah.l6.eq k)
theorem Zah.eq (k : Nat) (x : (List Int × List Int)) : runF (Zah.E k) (codeOf Tryz.f106) (Zah.i.put x) Zah.r.un = Zah.f k (x.1) (x.2) := by kernel_rfl
theorem Zah.sound (k : Nat) : Sound Tryz.prog DD 106 (Zah.D k) :=
  funP (E := Zah.E k) (fn := Tryz.f106) (c := codeOf Tryz.f106) (Zbq _ _ _ _ _ _ _ _ _ _ _ _) mixed rfl Tryz.func106 (by kernel_rfl) (by kernel_rfl) (Zan (l := [loopAt Tryz.f106 6]) (by kernel_rfl) (Zdj (key := 6) (by kernel_rfl) rfl (Zah.l6.sound k) Zaa)) Zah.i Zah.r [] true (fun x => Zah.f k (x.1) (x.2)) (fun _ _ => rfl) (by kernel_rfl) (Zah.eq k)
noncomputable def Zah.pk (k : Nat) : Pk Tryz.prog DD := ⟨106, Zah.D k, Zah.sound k, Zal Tryz.func106 (by kernel_rfl) (by kernel_rfl)⟩
/-! ### pyx/pyxref1.SubNat: function 107 -/
noncomputable def Zaf.l4.once (k : Nat) (x : T1d) : Option (T1d ⊕ (List Int)) := match x with | (x1, x2, x3, x4, x5) => cond (decide (x5 < (List.length x1 : Int))) (((cond (inb x5 (List.length x1)) ((Zby.f k x2 x5).bind fun t6 => (((cond (decide ((IntKind.wrap .i64 ((IntKind.wrap .i64 ((List.getD x1 (Int.toNat x5) 0) - t6)) - x4)) < 0)) (some (x1, x2, x3, 1, x5, IntKind.wrap .i64 ((IntKind.wrap .i64 ((IntKind.wrap .i64 ((List.getD x1 (Int.toNat x5) 0) - t6)) - x4)) + 10))) (some (x1, x2, x3, 0, x5, IntKind.wrap .i64 ((IntKind.wrap .i64 ((List.getD x1 (Int.toNat x5) 0) - t6)) - x4)))) : Option (List Int × List Int × List Int × Int × Int × Int)).bind fun y13 => (cond (okLen (List.length y13.2.2.1 + List.length [y13.2.2.2.2.2]) 8) (some (y13.1, y13.2.1, y13.2.2.1 ++ [y13.2.2.2.2.2], y13.2.2.2.1, y13.2.2.2.2.1)) none))) none) : Option T1d).bind fun y19 => (some (.inl (y19.1, y19.2.1, y19.2.2.1, y19.2.2.2.1, IntKind.wrap .i64 (y19.2.2.2.2 + 1))))) (some (.inr x3))
noncomputable def Zaf.f (k : Nat) (a0 : List Int) (a1 : List Int) : Option (List Int) := (iter (Zaf.l4.once k) k (a0, a1, ([] : List Int), 0, 0)).bind fun y21 => ((Zao.f k y21).bind fun t22 => (some t22))
noncomputable def Zaf.i : Lay U (List Int × List Int) := (pcAnd (pcOne 0 (tAt (vRow DD C.i64))) (pcOne 1 (tAt (vRow DD C.i64)))).lay (fun _ => by kernel_rfl)
noncomputable def Zaf.r : Lay U (List Int) := (pcOne 0 (tAt (vRow DD C.i64))).lay (fun _ => by kernel_rfl)
noncomputable def Zaf.D (k : Nat) : FDen U := fdn Zaf.i Zaf.r Tryz.f107.ntmps [] true (fun x => Zaf.f k (x.1) (x.2)) (fun _ _ => rfl)
noncomputable def Zaf.l4.i : Lay U T1d := (lay [(0, sAt (vRow DD C.i64)), (1, sAt (vRow DD C.i64)), (5, sAt (vTip DD 1004005 C.i64 1)), (6, sAt (vInt .i64)), (7, sAt (vInt .i64))] [] (fun _ => by kernel_rfl))
noncomputable def Zaf.l4.o : OLay U (List Int) := oExit 0 (lay [(5, sAt (vTip DD 1004005 C.i64 1))] [] (fun _ => by kernel_rfl))
noncomputable def Zaf.j9001 : Jk U := ⟨(List Int × List Int × List Int × Int × Int × Int), oNorm (lay [(0, sAt (vRow DD C.i64)), (1, sAt (vRow DD C.i64)), (5, sAt (vTip DD 1010001005 C.i64 1)), (6, sAt (vInt .i64)), (7, sAt (vInt .i64)), (8, sAt (vInt .i64))] [] (fun _ => by kernel_rfl))⟩
noncomputable def Zaf.j6001 : Jk U := ⟨T1d, oNorm (lay [(0, sAt (vRow DD C.i64)), (1, sAt (vRow DD C.i64)), (5, sAt (vTip DD 1007001005 C.i64 1)), (6, sAt (vInt .i64)), (7, sAt (vInt .i64))] [] (fun _ => by kernel_rfl))⟩
noncomputable def Zaf.E (k : Nat) : Env U := mkE Tryz.f107 [Zby.pk k, Zao.pk k] [(9001, Zaf.j9001), (6001, Zaf.j6001)] [(4, ldn Zaf.l4.i Zaf.l4.o (iter (Zaf.l4.once k) k))] [] n0 n0 [] false n00 nl0 []
theorem Zaf.l4.eq (k : Nat) (x : T1d) : evC (Zaf.E k) (loopAt Tryz.f107 4) (Zaf.l4.i.put x) (headK Zaf.l4.i.un Zaf.l4.o.re) = Zaf.l4.once k x := by kernel_rfl
theorem Zaf.l4.sound (k : Nat) : LSound (Zaf.E k) Tryz.f107.ntmps Tryz.f107 (loopAt Tryz.f107 4) (ldn Zaf.l4.i Zaf.l4.o (iter (Zaf.l4.once k) k)) :=
  loopP (Zbq _ _ _ _ _ _ _ _ _ _ _ _) mixed rfl (by kernel_rfl) (Zan (l := []) (by kernel_rfl) Zaa) Zaf.l4.i Zaf.l4.o (Zaf.l4.once k) k (Zaf.l4.eq k)
theorem Zaf.eq (k : Nat) (x : (List Int × List Int)) : runF (Zaf.E k) (codeOf Tryz.f107) (Zaf.i.put x) Zaf.r.un = Zaf.f k (x.1) (x.2) := by kernel_rfl
theorem Zaf.sound (k : Nat) : Sound Tryz.prog DD 107 (Zaf.D k) :=
  funP (E := Zaf.E k) (fn := Tryz.f107) (c := codeOf Tryz.f107) (Zbq _ _ _ _ _ _ _ _ _ _ _ _) mixed rfl Tryz.func107 (by kernel_rfl) (by kernel_rfl) (Zan (l := [loopAt Tryz.f107 4]) (by kernel_rfl) (Zdj (key := 4) (by kernel_rfl) rfl (Zaf.l4.sound k) Zaa)) Zaf.i Zaf.r [] true (fun x => Zaf.f k (x.1) (x.2)) (fun _ _ => rfl) (by kernel_rfl) (Zaf.eq k)
noncomputable def Zaf.pk (k : Nat) : Pk Tryz.prog DD := ⟨107, Zaf.D k, Zaf.sound k, Zal Tryz.func107 (by kernel_rfl) (by kernel_rfl)⟩
/-! ### pyx/pyxref1.DivNat: function 152 -/
noncomputable def Zy.l7.once (k : Nat) (x : T1c) : Option (T1c ⊕ (T1c)) := match x with | (x7, x8, x10, x11, x9) => (Zah.f k x10 x8).bind fun t12 => (cond (decide (t12 ≥ 0)) ((Zaf.f k x10 x8).bind fun t13 => (cond (inb x11 (List.length x9)) (cond (Nat.blt (Int.toNat x11) (List.length x9)) (cond (inb x11 (List.length x9)) (cond (Nat.blt (Int.toNat x11) (List.length x9)) (some (.inl (x7, x8, t13, x11, List.set x9 (Int.toNat x11) (IntKind.wrap .i64 ((List.getD x9 (Int.toNat x11) 0) + 1))))) none) none) none) none)) (some (.inr (x7, x8, x10, x11, x9))))
noncomputable def Zy.l4.once (k : Nat) (x : T1c) : Option (T1c ⊕ ((List Int × List Int))) := match x with | (x1, x2, x4, x5, x3) => cond (decide (x5 ≥ 0)) (cond (inb x5 (List.length x1)) (cond (okLen (List.length [List.getD x1 (Int.toNat x5) 0] + List.length x4) 8) ((Zao.f k ([List.getD x1 (Int.toNat x5) 0] ++ x4)).bind fun t6 => ((iter (Zy.l7.once k) k (x1, x2, t6, x5, x3)).bind fun y19 => (some (.inl (y19.1, y19.2.1, y19.2.2.1, IntKind.wrap .i64 (y19.2.2.2.1 - 1), y19.2.2.2.2))))) none) none) (some (.inr (x4, x3)))
noncomputable def Zy.f (k : Nat) (a0 : List Int) (a1 : List Int) : Option (List Int × List Int) := cond ((decide (0 ≤ (List.length a0 : Int)) && decide ((List.length a0 : Int) = (List.length a0 : Int))) && decide ((List.length a0 : Int) * 8 ≤ 140737488355328)) ((iter (Zy.l4.once k) k (a0, a1, ([] : List Int), IntKind.wrap .i64 ((List.length a0 : Int) - 1), List.replicate (Int.toNat (List.length a0 : Int)) (0 : Int))).bind fun y22 => ((Zao.f k y22.2).bind fun t23 => (some (t23, y22.1)))) none
noncomputable def Zy.i : Lay U (List Int × List Int) := (pcAnd (pcOne 0 (tAt (vRow DD C.i64))) (pcOne 1 (tAt (vRow DD C.i64)))).lay (fun _ => by kernel_rfl)
noncomputable def Zy.r : Lay U (List Int × List Int) := (pcTup 0 (tqCons (tAt (vRow DD C.i64)) (tqOne (tAt (vRow DD C.i64))))).lay (fun _ => by kernel_rfl)
noncomputable def Zy.D (k : Nat) : FDen U := fdn Zy.i Zy.r Tryz.f152.ntmps [] true (fun x => Zy.f k (x.1) (x.2)) (fun _ _ => rfl)
noncomputable def Zy.l7.i : Lay U T1c := ((pcIso (skPc [(0, sAt (vRow DD C.i64)), (1, sAt (vRow DD C.i64)), (6, sAt (vVec DD 1007006 C.i64)), (7, sAt (vRow DD C.i64)), (8, sAt (vInt .i64))] []) (fun x => ((x.1, x.2.1, x.2.2.2.1, x.2.2.2.2, x.2.2.1) : T1c)) (fun x => (x.1, x.2.1, x.2.2.2.2, x.2.2.1, x.2.2.2.1)) (fun _ => rfl)).lay (fun _ => by kernel_rfl))
noncomputable def Zy.l7.o : OLay U (T1c) := oExit 2 ((pcIso (skPc [(0, sAt (vRow DD C.i64)), (1, sAt (vRow DD C.i64)), (6, sAt (vVec DD 1007006 C.i64)), (7, sAt (vRow DD C.i64)), (8, sAt (vInt .i64))] []) (fun x => ((x.1, x.2.1, x.2.2.2.1, x.2.2.2.2, x.2.2.1) : T1c)) (fun x => (x.1, x.2.1, x.2.2.2.2, x.2.2.1, x.2.2.2.1)) (fun _ => rfl)).lay (fun _ => by kernel_rfl))
noncomputable def Zy.l4.i : Lay U T1c := ((pcIso (skPc [(0, sAt (vRow DD C.i64)), (1, sAt (vRow DD C.i64)), (6, sAt (vVec DD 1004006 C.i64)), (7, sAt (vRow DD C.i64)), (8, sAt (vInt .i64))] []) (fun x => ((x.1, x.2.1, x.2.2.2.1, x.2.2.2.2, x.2.2.1) : T1c)) (fun x => (x.1, x.2.1, x.2.2.2.2, x.2.2.1, x.2.2.2.1)) (fun _ => rfl)).lay (fun _ => by kernel_rfl))
noncomputable def Zy.l4.o : OLay U ((List Int × List Int)) := oExit 0 ((pcIso (skPc [(6, sAt (vVec DD 1004006 C.i64)), (7, sAt (vRow DD C.i64))] []) (fun x => ((x.2, x.1) : (List Int × List Int))) (fun x => (x.2, x.1)) (fun _ => rfl)).lay (fun _ => by kernel_rfl))
noncomputable def Zy.E (k : Nat) : Env U := mkE Tryz.f152 [Zao.pk k, Zah.pk k, Zaf.pk k] [] [(7, ldn Zy.l7.i Zy.l7.o (iter (Zy.l7.once k) k)), (4, ldn Zy.l4.i Zy.l4.o (iter (Zy.l4.once k) k))] [] n0 (fun d => Nat.beq d 11) [] false n00 nl0 []
theorem Zy.l7.eq (k : Nat) (x : T1c) : evC (Zy.E k) (loopAt Tryz.f152 7) (Zy.l7.i.put x) (headK Zy.l7.i.un Zy.l7.o.re) = Zy.l7.once k x := by kernel_rfl
theorem Zy.l7.sound (k : Nat) : LSound (Zy.E k) Tryz.f152.ntmps Tryz.f152 (loopAt Tryz.f152 7) (ldn Zy.l7.i Zy.l7.o (iter (Zy.l7.once k) k)) :=
  loopP (Zbq _ _ _ _ _ _ _ _ _ _ _ _) mixed rfl (by kernel_rfl) (Zan (l := []) (by kernel_rfl) Zaa) Zy.l7.i Zy.l7.o (Zy.l7.once k) k (Zy.l7.eq k)
theorem Zy.l4.eq (k : Nat) (x : T1c) : evC (Zy.E k) (loopAt Tryz.f152 4) (Zy.l4.i.put x) (headK Zy.l4.i.un Zy.l4.o.re) = Zy.l4.once k x := by kernel_rfl
theorem Zy.l4.sound (k : Nat) : LSound (Zy.E k) Tryz.f152.ntmps Tryz.f152 (loopAt Tryz.f152 4) (ldn Zy.l4.i Zy.l4.o (iter (Zy.l4.once k) k)) :=
  loopP (Zbq _ _ _ _ _ _ _ _ _ _ _ _) mixed rfl (by kernel_rfl) (Zan (l := [loopAt Tryz.f152 7]) (by kernel_rfl) (Zdj (key := 7) (by kernel_rfl) rfl (Zy.l7.sound k) Zaa)) Zy.l4.i Zy.l4.o (Zy.l4.once k) k (Zy.l4.eq k)
theorem Zy.eq (k : Nat) (x : (List Int × List Int)) : runF (Zy.E k) (codeOf Tryz.f152) (Zy.i.put x) Zy.r.un = Zy.f k (x.1) (x.2) := by kernel_rfl
theorem Zy.sound (k : Nat) : Sound Tryz.prog DD 152 (Zy.D k) :=
  funP (E := Zy.E k) (fn := Tryz.f152) (c := codeOf Tryz.f152) (Zbq _ _ _ _ _ _ _ _ _ _ _ _) mixed rfl Tryz.func152 (by kernel_rfl) (by kernel_rfl) (Zan (l := [loopAt Tryz.f152 4]) (by kernel_rfl) (Zdj (key := 4) (by kernel_rfl) rfl (Zy.l4.sound k) Zaa)) Zy.i Zy.r [] true (fun x => Zy.f k (x.1) (x.2)) (fun _ _ => rfl) (by kernel_rfl) (Zy.eq k)
noncomputable def Zy.pk (k : Nat) : Pk Tryz.prog DD := ⟨152, Zy.D k, Zy.sound k, Zal Tryz.func152 (by kernel_rfl) (by kernel_rfl)⟩
/-! ### pyx/pyxref1.short: function 154 -/
noncomputable def Zas.l3.once (k : Nat) (x : (List Int × Int × Int)) : Option ((List Int × Int × Int) ⊕ (Int)) := match x with | (x1, x2, x3) => cond (decide (x3 ≥ 0)) (cond (inb x3 (List.length x1)) (some (.inl (x1, IntKind.wrap .u64 ((IntKind.wrap .u64 (10 * x2)) + (IntKind.wrap .u64 (List.getD x1 (Int.toNat x3) 0))), IntKind.wrap .i64 (x3 - 1)))) none) (some (.inr x2))
noncomputable def Zas.f (k : Nat) (a0 : List Int) : Option Int := (iter (Zas.l3.once k) k (a0, 0, IntKind.wrap .i64 ((List.length a0 : Int) - 1))).bind fun y5 => (some y5)
noncomputable def Zas.i : Lay U (List Int) := (pcOne 0 (tAt (vRow DD C.i64))).lay (fun _ => by kernel_rfl)
noncomputable def Zas.r : Lay U Int := (pcOne 0 (tAt (vInt .u64))).lay (fun _ => by kernel_rfl)
noncomputable def Zas.D (k : Nat) : FDen U := fdn Zas.i Zas.r Tryz.f154.ntmps [] true (fun x => Zas.f k (x)) (fun _ _ => rfl)
noncomputable def Zas.l3.i : Lay U (List Int × Int × Int) := (lay [(0, sAt (vRow DD C.i64)), (3, sAt (vInt .u64)), (4, sAt (vInt .i64))] [] (fun _ => by kernel_rfl))
noncomputable def Zas.l3.o : OLay U (Int) := oExit 0 (lay [(3, sAt (vInt .u64))] [] (fun _ => by kernel_rfl))
noncomputable def Zas.E (k : Nat) : Env U := mkE Tryz.f154 [] [] [(3, ldn Zas.l3.i Zas.l3.o (iter (Zas.l3.once k) k))] [] n0 n0 [] false n00 nl0 []
theorem Zas.l3.eq (k : Nat) (x : (List Int × Int × Int)) : evC (Zas.E k) (loopAt Tryz.f154 3) (Zas.l3.i.put x) (headK Zas.l3.i.un Zas.l3.o.re) = Zas.l3.once k x := by kernel_rfl
theorem Zas.l3.sound (k : Nat) : LSound (Zas.E k) Tryz.f154.ntmps Tryz.f154 (loopAt Tryz.f154 3) (ldn Zas.l3.i Zas.l3.o (iter (Zas.l3.once k) k)) :=
  loopP (Zbq _ _ _ _ _ _ _ _ _ _ _ _) mixed rfl (by kernel_rfl) (Zan (l := []) (by kernel_rfl) Zaa) Zas.l3.i Zas.l3.o (Zas.l3.once k) k (Zas.l3.eq k)
theorem Zas.eq (k : Nat) (x : List Int) : runF (Zas.E k) (codeOf Tryz.f154) (Zas.i.put x) Zas.r.un = Zas.f k (x) := by kernel_rfl
theorem Zas.sound (k : Nat) : Sound Tryz.prog DD 154 (Zas.D k) :=
  funP (E := Zas.E k) (fn := Tryz.f154) (c := codeOf Tryz.f154) (Zbq _ _ _ _ _ _ _ _ _ _ _ _) mixed rfl Tryz.func154 (by kernel_rfl) (by kernel_rfl) (Zan (l := [loopAt Tryz.f154 3]) (by kernel_rfl) (Zdj (key := 3) (by kernel_rfl) rfl (Zas.l3.sound k) Zaa)) Zas.i Zas.r [] true (fun x => Zas.f k (x)) (fun _ _ => rfl) (by kernel_rfl) (Zas.eq k)
noncomputable def Zas.pk (k : Nat) : Pk Tryz.prog DD := ⟨154, Zas.D k, Zas.sound k, Zal Tryz.func154 (by kernel_rfl) (by kernel_rfl)⟩
/-! ### pyx/pyxref1.Words2: function 121 -/
noncomputable def Zci.f (k : Nat) (a0 : List Int) : Option ((Int × Int) × Bool) := (Zcg.f k).bind fun t1 => ((Zy.f k a0 t1).bind fun t2 => ((Zcg.f k).bind fun t3 => ((Zah.f k t2.1 t3).bind fun t4 => (cond (decide (t4 ≥ 0)) (some ((0, 0), false)) ((Zas.f k t2.2).bind fun t5 => ((Zas.f k t2.1).bind fun t6 => (some ((t5, t6), true))))))))
noncomputable def Zci.i : Lay U (List Int) := (pcOne 0 (tAt (vRow DD C.i64))).lay (fun _ => by kernel_rfl)
noncomputable def Zci.r : Lay U ((Int × Int) × Bool) := (pcTup 0 (tqCons (tAt (vCd (Cd.pair (Cd.int .u64) (Cd.int .u64)))) (tqOne (tAt vBool)))).lay (fun _ => by kernel_rfl)
noncomputable def Zci.D (k : Nat) : FDen U := fdn Zci.i Zci.r Tryz.f121.ntmps [] true (fun x => Zci.f k (x)) (fun _ _ => rfl)
noncomputable def Zci.E (k : Nat) : Env U := mkE Tryz.f121 [Zcg.pk k, Zy.pk k, Zah.pk k, Zas.pk k] [] [] [] n0 n0 [] false n00 nl0 []
theorem Zci.eq (k : Nat) (x : List Int) : runF (Zci.E k) (codeOf Tryz.f121) (Zci.i.put x) Zci.r.un = Zci.f k (x) := by kernel_rfl
theorem Zci.sound (k : Nat) : Sound Tryz.prog DD 121 (Zci.D k) :=
  funP (E := Zci.E k) (fn := Tryz.f121) (c := codeOf Tryz.f121) (Zbq _ _ _ _ _ _ _ _ _ _ _ _) mixed rfl Tryz.func121 (by kernel_rfl) (by kernel_rfl) (Zan (l := []) (by kernel_rfl) Zaa) Zci.i Zci.r [] true (fun x => Zci.f k (x)) (fun _ _ => rfl) (by kernel_rfl) (Zci.eq k)
noncomputable def Zci.pk (k : Nat) : Pk Tryz.prog DD := ⟨121, Zci.D k, Zci.sound k, Zal Tryz.func121 (by kernel_rfl) (by kernel_rfl)⟩
end
end Go.Proofs.YtbchcjlllddlpaaGreat
