import Derived.Test.YtbchcjlllddlpaaGreatF0
/-! Functions, told; their equations with the evaluator; that they are sound. Written by gen.py. -/
namespace Go.Proofs.YtbchcjlllddlpaaGreat
open Go Go.Ev
noncomputable section
set_option linter.unusedVariables false
set_option linter.unusedSimpArgs false
set_option maxRecDepth 100000
abbrev T1d := (List Int × List Int × List Int × Int × Int)
abbrev T1c := (List Int × List Int × List Int × Int × List Int)
abbrev T1b := (Int × Int × Bool × Int × List Zc × Zd)
abbrev T1a := (Int × Int × Bool × Int × Int × List Zc × Zd)
/-! ### pyx/pyxref1.RightDec: function 103 -/
noncomputable def Zbf.f (k : Nat) (a0 : Zg) : Option Bool := (Zdc.f k (a0.f_C.1, a0.f_C.2)).bind fun t1 => (cond (decide ((List.length t1 : Int) ≤ 30)) (cond (decide (a0.Zo ≥ 0)) (cond (decide (a0.Zo ≤ 9)) (cond (a0.f_Neg) (some (!((List.length t1 : Int) == 0))) (some true)) (some false)) (some false)) (some false))
noncomputable def Zbf.i : Lay U Zg := (pcOne 0 (tAt (vCd Zdo))).lay (fun _ => by kernel_rfl)
noncomputable def Zbf.r : Lay U Bool := (pcOne 0 (tAt vBool)).lay (fun _ => by kernel_rfl)
noncomputable def Zbf.D (k : Nat) : FDen U := fdn Zbf.i Zbf.r Tryz.f103.ntmps [] true (fun x => Zbf.f k (x)) (fun _ _ => rfl)
noncomputable def Zbf.E (k : Nat) : Env U := mkE Tryz.f103 [Zdc.pk k] [] [] [] n0 n0 [] false n00 nl0 []
theorem Zbf.eq (k : Nat) (x : Zg) : runF (Zbf.E k) (codeOf Tryz.f103) (Zbf.i.put x) Zbf.r.un = Zbf.f k (x) := by kernel_rfl
theorem Zbf.sound (k : Nat) : Sound Tryz.prog DD 103 (Zbf.D k) :=
  funP (E := Zbf.E k) (fn := Tryz.f103) (c := codeOf Tryz.f103) (Zbq _ _ _ _ _ _ _ _ _ _ _ _) mixed rfl Tryz.func103 (by kernel_rfl) (by kernel_rfl) (Zap (l := []) (by kernel_rfl) Zah) Zbf.i Zbf.r [] true (fun x => Zbf.f k (x)) (fun _ _ => rfl) (by kernel_rfl) (Zbf.eq k)
noncomputable def Zbf.pk (k : Nat) : Pk Tryz.prog DD := ⟨103, Zbf.D k, Zbf.sound k, Zaq Tryz.func103 (by kernel_rfl) (by kernel_rfl)⟩
/-! ### pyx/pyxref1.Neg: function 54 -/
noncomputable def Zdb.f (k : Nat) (a0 : Zg) : Option Zg := (Zbf.f k (⟨a0.f_Neg, (a0.f_C.1, a0.f_C.2), a0.Zo⟩ : Zg)).bind fun t1 => (cond (!t1) (some (⟨false, (0, 0), 0⟩ : Zg)) (cond (!a0.f_Neg) (some (⟨!((a0.f_C.1 == 0) && (a0.f_C.2 == 0)), (a0.f_C.1, a0.f_C.2), a0.Zo⟩ : Zg)) (some (⟨false, (a0.f_C.1, a0.f_C.2), a0.Zo⟩ : Zg))))
noncomputable def Zdb.i : Lay U Zg := (pcOne 0 (tAt (vCd Zdo))).lay (fun _ => by kernel_rfl)
noncomputable def Zdb.r : Lay U Zg := (pcOne 0 (tAt (vCd Zdo))).lay (fun _ => by kernel_rfl)
noncomputable def Zdb.D (k : Nat) : FDen U := fdn Zdb.i Zdb.r Tryz.f54.ntmps [] true (fun x => Zdb.f k (x)) (fun _ _ => rfl)
noncomputable def Zdb.E (k : Nat) : Env U := mkE Tryz.f54 [Zbf.pk k] [] [] [] n0 n0 [] false n00 nl0 []
theorem Zdb.eq (k : Nat) (x : Zg) : runF (Zdb.E k) (codeOf Tryz.f54) (Zdb.i.put x) Zdb.r.un = Zdb.f k (x) := by kernel_rfl
theorem Zdb.sound (k : Nat) : Sound Tryz.prog DD 54 (Zdb.D k) :=
  funP (E := Zdb.E k) (fn := Tryz.f54) (c := codeOf Tryz.f54) (Zbq _ _ _ _ _ _ _ _ _ _ _ _) mixed rfl Tryz.func54 (by kernel_rfl) (by kernel_rfl) (Zap (l := []) (by kernel_rfl) Zah) Zdb.i Zdb.r [] true (fun x => Zdb.f k (x)) (fun _ _ => rfl) (by kernel_rfl) (Zdb.eq k)
noncomputable def Zdb.pk (k : Nat) : Pk Tryz.prog DD := ⟨54, Zdb.D k, Zdb.sound k, Zaq Tryz.func54 (by kernel_rfl) (by kernel_rfl)⟩
/-! ### pyx/pyxref11.Turned: function 161 -/
noncomputable def Zao.l3.once (k : Nat) (x : (List Za × List Za × Int)) : Option ((List Za × List Za × Int) ⊕ (List Za)) := match x with | (x1, x2, x3) => cond (decide (x3 < (List.length x1 : Int))) (cond (inb x3 (List.length x1)) ((Zdb.f k (⟨((List.getD x1 (Int.toNat x3) Za.zero).Zp).f_Neg, ((((List.getD x1 (Int.toNat x3) Za.zero).Zp).f_C).1, (((List.getD x1 (Int.toNat x3) Za.zero).Zp).f_C).2), ((List.getD x1 (Int.toNat x3) Za.zero).Zp).Zo⟩ : Zg)).bind fun t4 => (cond (okLen (List.length x2 + List.length [(⟨(List.getD x1 (Int.toNat x3) Za.zero).Zdx, (⟨t4.f_Neg, (t4.f_C.1, t4.f_C.2), t4.Zo⟩ : Zg), (List.getD x1 (Int.toNat x3) Za.zero).Zet⟩ : Za)]) 48) (some (.inl (x1, x2 ++ [(⟨(List.getD x1 (Int.toNat x3) Za.zero).Zdx, (⟨t4.f_Neg, (t4.f_C.1, t4.f_C.2), t4.Zo⟩ : Zg), (List.getD x1 (Int.toNat x3) Za.zero).Zet⟩ : Za)], IntKind.wrap .i64 (x3 + 1)))) none)) none) (some (.inr x2))
noncomputable def Zao.f (k : Nat) (a0 : List Za) : Option (List Za) := (iter (Zao.l3.once k) k (a0, ([] : List Za), 0)).bind fun y6 => (some y6)
noncomputable def Zao.i : Lay U (List Za) := (pcOne 0 (tAt (vRow DD C.Za))).lay (fun _ => by kernel_rfl)
noncomputable def Zao.r : Lay U (List Za) := (pcOne 0 (tAt (vRow DD C.Za))).lay (fun _ => by kernel_rfl)
noncomputable def Zao.D (k : Nat) : FDen U := fdn Zao.i Zao.r Tryz.f161.ntmps [] true (fun x => Zao.f k (x)) (fun _ _ => rfl)
noncomputable def Zao.l3.i : Lay U (List Za × List Za × Int) := (lay [(0, sAt (vRow DD C.Za)), (3, sAt (vTip DD 1003003 C.Za 6)), (4, sAt (vInt .i64))] [] (fun _ => by kernel_rfl))
noncomputable def Zao.l3.o : OLay U (List Za) := oExit 0 (lay [(3, sAt (vTip DD 1003003 C.Za 6))] [] (fun _ => by kernel_rfl))
noncomputable def Zao.E (k : Nat) : Env U := mkE Tryz.f161 [Zdb.pk k] [] [(3, ldn Zao.l3.i Zao.l3.o (iter (Zao.l3.once k) k))] [] n0 n0 [] false n00 nl0 []
theorem Zao.l3.eq (k : Nat) (x : (List Za × List Za × Int)) : evC (Zao.E k) (loopAt Tryz.f161 3) (Zao.l3.i.put x) (headK Zao.l3.i.un Zao.l3.o.re) = Zao.l3.once k x := by kernel_rfl
theorem Zao.l3.sound (k : Nat) : LSound (Zao.E k) Tryz.f161.ntmps Tryz.f161 (loopAt Tryz.f161 3) (ldn Zao.l3.i Zao.l3.o (iter (Zao.l3.once k) k)) :=
  loopP (Zbq _ _ _ _ _ _ _ _ _ _ _ _) mixed rfl (by kernel_rfl) (Zap (l := []) (by kernel_rfl) Zah) Zao.l3.i Zao.l3.o (Zao.l3.once k) k (Zao.l3.eq k)
theorem Zao.eq (k : Nat) (x : List Za) : runF (Zao.E k) (codeOf Tryz.f161) (Zao.i.put x) Zao.r.un = Zao.f k (x) := by kernel_rfl
theorem Zao.sound (k : Nat) : Sound Tryz.prog DD 161 (Zao.D k) :=
  funP (E := Zao.E k) (fn := Tryz.f161) (c := codeOf Tryz.f161) (Zbq _ _ _ _ _ _ _ _ _ _ _ _) mixed rfl Tryz.func161 (by kernel_rfl) (by kernel_rfl) (Zap (l := [loopAt Tryz.f161 3]) (by kernel_rfl) (Zdj (key := 3) (by kernel_rfl) rfl (Zao.l3.sound k) Zah)) Zao.i Zao.r [] true (fun x => Zao.f k (x)) (fun _ _ => rfl) (by kernel_rfl) (Zao.eq k)
noncomputable def Zao.pk (k : Nat) : Pk Tryz.prog DD := ⟨161, Zao.D k, Zao.sound k, Zaq Tryz.func161 (by kernel_rfl) (by kernel_rfl)⟩
/-! ### (pyx/pyxref11.Table).IsOpen: function 177 -/
noncomputable def Zbh.f (k : Nat) (a0 : Zd) (a1 : Int) : Option Bool := (Zcn.f k a1).bind fun t1 => (cond (t1) (cond (inb a1 12) (cond (Nat.blt (Int.toNat a1) 12) (some (!(List.getD (pack 12 false a0.Zk) (Int.toNat a1) false))) none) none) (some false))
noncomputable def Zbh.i : Lay U (Zd × Int) := (pcAnd (pcOne 0 (tAt (vCd Zaw))) (pcOne 1 (tAt (vInt .i64)))).lay (fun _ => by kernel_rfl)
noncomputable def Zbh.r : Lay U Bool := (pcOne 0 (tAt vBool)).lay (fun _ => by kernel_rfl)
noncomputable def Zbh.D (k : Nat) : FDen U := fdn Zbh.i Zbh.r Tryz.f177.ntmps [] true (fun x => Zbh.f k (x.1) (x.2)) (fun _ _ => rfl)
noncomputable def Zbh.E (k : Nat) : Env U := mkE Tryz.f177 [Zcn.pk k] [] [] [] (fun t => Nat.beq t 68) n0 [] false n00 nl0 []
theorem Zbh.eq (k : Nat) (x : (Zd × Int)) : runF (Zbh.E k) (codeOf Tryz.f177) (Zbh.i.put x) Zbh.r.un = Zbh.f k (x.1) (x.2) := by kernel_rfl
theorem Zbh.sound (k : Nat) : Sound Tryz.prog DD 177 (Zbh.D k) :=
  funP (E := Zbh.E k) (fn := Tryz.f177) (c := codeOf Tryz.f177) (Zbq _ _ _ _ _ _ _ _ _ _ _ _) mixed rfl Tryz.func177 (by kernel_rfl) (by kernel_rfl) (Zap (l := []) (by kernel_rfl) Zah) Zbh.i Zbh.r [] true (fun x => Zbh.f k (x.1) (x.2)) (fun _ _ => rfl) (by kernel_rfl) (Zbh.eq k)
noncomputable def Zbh.pk (k : Nat) : Pk Tryz.prog DD := ⟨177, Zbh.D k, Zbh.sound k, Zaq Tryz.func177 (by kernel_rfl) (by kernel_rfl)⟩
/-! ### (*pyx/pyxref11.Book).put: function 160 -/
noncomputable def Zbn.f (k : Nat) (a0 : Zr) (a1 : Zc) : Option (Int × Int × Zr) := (Zbh.f k (⟨pack 12 false a0.f_T.Zk, pack 12 0 a0.f_T.Zh⟩ : Zd) a1.Zdi).bind fun t1 => (cond (!t1) (some (0, 8, (⟨a0.Zo, a0.f_L, (⟨pack 12 false a0.f_T.Zk, pack 12 0 a0.f_T.Zh⟩ : Zd)⟩ : Zr))) (cond (decide ((List.length a0.f_L : Int) ≥ 40)) (some (0, 5, (⟨a0.Zo, a0.f_L, (⟨pack 12 false a0.f_T.Zk, pack 12 0 a0.f_T.Zh⟩ : Zd)⟩ : Zr))) (cond (okLen (List.length a0.f_L + List.length [(⟨a1.Zdi, a1.Zdm, a1.f_Of⟩ : Zc)]) 40) (some (IntKind.wrap .i64 ((List.length (a0.f_L ++ [(⟨a1.Zdi, a1.Zdm, a1.f_Of⟩ : Zc)]) : Int) - 1), 0, (⟨a0.Zo, a0.f_L ++ [(⟨a1.Zdi, a1.Zdm, a1.f_Of⟩ : Zc)], (⟨pack 12 false a0.f_T.Zk, pack 12 0 a0.f_T.Zh⟩ : Zd)⟩ : Zr))) none)))
noncomputable def Zbn.i : Lay U (Zr × Zc) := (pcGh 1000000000000000 7000000000000 (pcAnd (pcOne 0 (Zcq 7000000000000 7000000000000)) (pcOne 1 (tAt (vCd cd_Sapi_Entry))))).lay (fun _ => by kernel_rfl)
noncomputable def Zbn.r : Lay U (Int × Int × Zr) := (pcIso (pcAnd (pcTup 0 (tqCons (tAt (vInt .i64)) (tqOne (tAt (vInt .i64))))) (pcOne 1000000000000000 (Zcq 7000000000000 7000000000000))) (fun x => ((x.1.1, x.1.2, x.2) : (Int × Int × Zr))) (fun x => ((x.1, x.2.1), x.2.2)) (fun _ => rfl)).lay (fun _ => by kernel_rfl)
noncomputable def Zbn.D (k : Nat) : FDen U := fdn Zbn.i Zbn.r Tryz.f160.ntmps [0] false (fun x => Zbn.f k (x.1) (x.2)) (fun h => by cases h)
noncomputable def Zbn.E (k : Nat) : Env U := mkE Tryz.f160 [Zbh.pk k] [] [] [] n0 n0 [0] false n00 nl0 []
theorem Zbn.eq (k : Nat) (x : (Zr × Zc)) : runF (Zbn.E k) (codeOf Tryz.f160) (Zbn.i.put x) Zbn.r.un = Zbn.f k (x.1) (x.2) := by kernel_rfl
theorem Zbn.sound (k : Nat) : Sound Tryz.prog DD 160 (Zbn.D k) :=
  funP (E := Zbn.E k) (fn := Tryz.f160) (c := codeOf Tryz.f160) (Zbq _ _ _ _ _ _ _ _ _ _ _ _) mixed rfl Tryz.func160 (by kernel_rfl) (by kernel_rfl) (Zap (l := []) (by kernel_rfl) Zah) Zbn.i Zbn.r [0] false (fun x => Zbn.f k (x.1) (x.2)) (fun h => by cases h) (by kernel_rfl) (Zbn.eq k)
noncomputable def Zbn.pk (k : Nat) : Pk Tryz.prog DD := ⟨160, Zbn.D k, Zbn.sound k, Zaq Tryz.func160 (by kernel_rfl) (by kernel_rfl)⟩
/-! ### (*pyx/pyxref11.Book).Reverse: function 128 -/
noncomputable def Zt.l5.once (k : Nat) (x : T1a) : Option (T1a ⊕ (T1b)) := match x with | (x59, x60, x61, x62, x32, x33, x58) => cond (decide (x62 < (List.length x33 : Int))) (((cond (x61) (some (x59, x60, true, x62, x32, x33, (⟨pack 12 false x58.Zk, pack 12 0 x58.Zh⟩ : Zd))) (cond (inb x62 (List.length x33)) (some (x59, x60, ((List.getD x33 (Int.toNat x62) Zc.zero).f_Of) == x59, x62, x32, x33, (⟨pack 12 false x58.Zk, pack 12 0 x58.Zh⟩ : Zd))) none)) : Option T1a).bind fun y94 => (some (.inl (y94.1, y94.2.1, y94.2.2.1, IntKind.wrap .i64 (y94.2.2.2.1 + 1), y94.2.2.2.2.1, y94.2.2.2.2.2.1, (⟨pack 12 false y94.2.2.2.2.2.2.Zk, pack 12 0 y94.2.2.2.2.2.2.Zh⟩ : Zd))))) (some (.inr (x59, x60, x61, x32, x33, (⟨pack 12 false x58.Zk, pack 12 0 x58.Zh⟩ : Zd))))
noncomputable def Zt.f (k : Nat) (a0 : Zr) (a1 : Int) (a2 : Int) : Option (Int × Int × Zr) := ((cond (decide (a1 < 0)) (some (a1, a2, true, a0.Zo, a0.f_L, (⟨pack 12 false a0.f_T.Zk, pack 12 0 a0.f_T.Zh⟩ : Zd))) (some (a1, a2, decide (a1 ≥ (List.length a0.f_L : Int)), a0.Zo, a0.f_L, (⟨pack 12 false a0.f_T.Zk, pack 12 0 a0.f_T.Zh⟩ : Zd)))) : Option T1b).bind fun y31 => (cond (y31.2.2.1) (some (0, 10, (⟨y31.2.2.2.1, y31.2.2.2.2.1, (⟨pack 12 false y31.2.2.2.2.2.Zk, pack 12 0 y31.2.2.2.2.2.Zh⟩ : Zd)⟩ : Zr))) (cond (inb y31.1 (List.length y31.2.2.2.2.1)) ((iter (Zt.l5.once k) k (y31.1, y31.2.1, decide (((List.getD y31.2.2.2.2.1 (Int.toNat y31.1) Zc.zero).f_Of) ≥ 0), 0, y31.2.2.2.1, y31.2.2.2.2.1, (⟨pack 12 false y31.2.2.2.2.2.Zk, pack 12 0 y31.2.2.2.2.2.Zh⟩ : Zd))).bind fun y125 => (cond (y125.2.2.1) (some (0, 13, (⟨y125.2.2.2.1, y125.2.2.2.2.1, (⟨pack 12 false y125.2.2.2.2.2.Zk, pack 12 0 y125.2.2.2.2.2.Zh⟩ : Zd)⟩ : Zr))) (cond (inb y125.1 (List.length y125.2.2.2.2.1)) ((Zao.f k ((List.getD y125.2.2.2.2.1 (Int.toNat y125.1) Zc.zero).Zdm)).bind fun t126 => ((Zbn.f k (⟨y125.2.2.2.1, y125.2.2.2.2.1, (⟨pack 12 false y125.2.2.2.2.2.Zk, pack 12 0 y125.2.2.2.2.2.Zh⟩ : Zd)⟩ : Zr) (⟨y125.2.1, t126, y125.1⟩ : Zc)).bind fun t127 => (some (t127.1, t127.2.1, (⟨t127.2.2.Zo, t127.2.2.f_L, (⟨pack 12 false t127.2.2.f_T.Zk, pack 12 0 t127.2.2.f_T.Zh⟩ : Zd)⟩ : Zr))))) none))) none))
noncomputable def Zt.i : Lay U (Zr × Int × Int) := (pcGh 1000000000000000 7000000000000 (pcAnd (pcOne 0 (Zcq 7000000000000 7000000000000)) (pcAnd (pcOne 1 (tAt (vInt .i64))) (pcOne 2 (tAt (vInt .i64)))))).lay (fun _ => by kernel_rfl)
noncomputable def Zt.r : Lay U (Int × Int × Zr) := (pcIso (pcAnd (pcTup 0 (tqCons (tAt (vInt .i64)) (tqOne (tAt (vInt .i64))))) (pcOne 1000000000000000 (Zcq 7000000000000 7000000000000))) (fun x => ((x.1.1, x.1.2, x.2) : (Int × Int × Zr))) (fun x => ((x.1, x.2.1), x.2.2)) (fun _ => rfl)).lay (fun _ => by kernel_rfl)
noncomputable def Zt.D (k : Nat) : FDen U := fdn Zt.i Zt.r Tryz.f128.ntmps [0] false (fun x => Zt.f k (x.1) (x.2.1) (x.2.2)) (fun h => by cases h)
noncomputable def Zt.l5.i : Lay U T1a := (lay [(0, sPtr 7000000000000 0), (1000000000000000, sPtr 7000000000000 0), (1, sAt (vInt .i64)), (2, sAt (vInt .i64)), (8, sAt vBool), (9, sAt (vInt .i64))] [bLitT 7000000000000 [(vInt .i64), (vTip DD 700002000500001 C.Zc 3)] Zaw] (fun _ => by kernel_rfl))
noncomputable def Zt.l5.o : OLay U (T1b) := oExit 0 (lay [(0, sPtr 7000000000000 0), (1000000000000000, sPtr 7000000000000 0), (1, sAt (vInt .i64)), (2, sAt (vInt .i64)), (8, sAt vBool)] [bLitT 7000000000000 [(vInt .i64), (vTip DD 700002000500001 C.Zc 3)] Zaw] (fun _ => by kernel_rfl))
noncomputable def Zt.j1000 : Jk U := ⟨T1b, oNorm (lay [(0, sPtr 7000000000000 0), (1000000000000000, sPtr 7000000000000 0), (1, sAt (vInt .i64)), (2, sAt (vInt .i64)), (20, sAt vBool)] [bLitT 7000000000000 [(vInt .i64), (vTip DD 700102100000001 C.Zc 3)] Zaw] (fun _ => by kernel_rfl))⟩
noncomputable def Zt.j7001 : Jk U := ⟨T1a, oNorm (lay [(0, sPtr 7000000000000 0), (1000000000000000, sPtr 7000000000000 0), (1, sAt (vInt .i64)), (2, sAt (vInt .i64)), (8, sAt vBool), (9, sAt (vInt .i64))] [bLitT 7000000000000 [(vInt .i64), (vTip DD 700102700100001 C.Zc 3)] Zaw] (fun _ => by kernel_rfl))⟩
noncomputable def Zt.E (k : Nat) : Env U := mkE Tryz.f128 [Zao.pk k, Zbn.pk k] [(1000, Zt.j1000), (7001, Zt.j7001)] [(5, ldn Zt.l5.i Zt.l5.o (iter (Zt.l5.once k) k))] [] n0 n0 [0] false n00 nl0 []
theorem Zt.l5.eq (k : Nat) (x : T1a) : evC (Zt.E k) (loopAt Tryz.f128 5) (Zt.l5.i.put x) (headK Zt.l5.i.un Zt.l5.o.re) = Zt.l5.once k x := by kernel_rfl
theorem Zt.l5.sound (k : Nat) : LSound (Zt.E k) Tryz.f128.ntmps Tryz.f128 (loopAt Tryz.f128 5) (ldn Zt.l5.i Zt.l5.o (iter (Zt.l5.once k) k)) :=
  loopP (Zbq _ _ _ _ _ _ _ _ _ _ _ _) mixed rfl (by kernel_rfl) (Zap (l := []) (by kernel_rfl) Zah) Zt.l5.i Zt.l5.o (Zt.l5.once k) k (Zt.l5.eq k)
theorem Zt.eq (k : Nat) (x : (Zr × Int × Int)) : runF (Zt.E k) (codeOf Tryz.f128) (Zt.i.put x) Zt.r.un = Zt.f k (x.1) (x.2.1) (x.2.2) := by kernel_rfl
theorem Zt.sound (k : Nat) : Sound Tryz.prog DD 128 (Zt.D k) :=
  funP (E := Zt.E k) (fn := Tryz.f128) (c := codeOf Tryz.f128) (Zbq _ _ _ _ _ _ _ _ _ _ _ _) mixed rfl Tryz.func128 (by kernel_rfl) (by kernel_rfl) (Zap (l := [loopAt Tryz.f128 5]) (by kernel_rfl) (Zdj (key := 5) (by kernel_rfl) rfl (Zt.l5.sound k) Zah)) Zt.i Zt.r [0] false (fun x => Zt.f k (x.1) (x.2.1) (x.2.2)) (fun h => by cases h) (by kernel_rfl) (Zt.eq k)
noncomputable def Zt.pk (k : Nat) : Pk Tryz.prog DD := ⟨128, Zt.D k, Zt.sound k, Zaq Tryz.func128 (by kernel_rfl) (by kernel_rfl)⟩
/-! ### (pyx/pyxref11.Table).Reopen: function 162 -/
noncomputable def Zbb.f (k : Nat) (a0 : Zd) (a1 : Int) : Option (Zd × Int) := (((Zcn.f k a1).bind fun t1 => (cond (!t1) (some (a1, true, (⟨pack 12 false a0.Zk, pack 12 0 a0.Zh⟩ : Zd), (⟨[false, false, false, false, false, false, false, false, false, false, false, false], [0, 0, 0, 0, 0, 0, 0, 0, 0, 0, 0, 0]⟩ : Zd))) (cond (inb a1 12) (cond (Nat.blt (Int.toNat a1) 12) (cond (!(List.getD (pack 12 false a0.Zk) (Int.toNat a1) false)) (some (a1, true, (⟨pack 12 false a0.Zk, pack 12 0 a0.Zh⟩ : Zd), (⟨[false, false, false, false, false, false, false, false, false, false, false, false], [0, 0, 0, 0, 0, 0, 0, 0, 0, 0, 0, 0]⟩ : Zd))) (cond (decide ((IntKind.wrap .i64 (a1 + 1)) < 12)) (cond (inb (IntKind.wrap .i64 (a1 + 1)) 12) (cond (Nat.blt (Int.toNat (IntKind.wrap .i64 (a1 + 1))) 12) (some (a1, List.getD (pack 12 false a0.Zk) (Int.toNat (IntKind.wrap .i64 (a1 + 1))) false, (⟨pack 12 false a0.Zk, pack 12 0 a0.Zh⟩ : Zd), (⟨[false, false, false, false, false, false, false, false, false, false, false, false], [0, 0, 0, 0, 0, 0, 0, 0, 0, 0, 0, 0]⟩ : Zd))) none) none) (some (a1, false, (⟨pack 12 false a0.Zk, pack 12 0 a0.Zh⟩ : Zd), (⟨[false, false, false, false, false, false, false, false, false, false, false, false], [0, 0, 0, 0, 0, 0, 0, 0, 0, 0, 0, 0]⟩ : Zd))))) none) none))) : Option (Int × Bool × Zd × Zd)).bind fun y6 => (cond (y6.2.1) (some ((⟨[false, false, false, false, false, false, false, false, false, false, false, false], [0, 0, 0, 0, 0, 0, 0, 0, 0, 0, 0, 0]⟩ : Zd), 8)) (cond (inb y6.1 12) (cond (Nat.blt (Int.toNat y6.1) 12) (some ((⟨putAll (Int.toNat y6.1) false 0 (pack 12 false y6.2.2.1.Zk), pack 12 0 y6.2.2.1.Zh⟩ : Zd), 0)) none) none))
noncomputable def Zbb.i : Lay U (Zd × Int) := (pcAnd (pcOne 0 (tAt (vCd Zaw))) (pcOne 1 (tAt (vInt .i64)))).lay (fun _ => by kernel_rfl)
noncomputable def Zbb.r : Lay U (Zd × Int) := (pcTup 0 (tqCons (tAt (vCd Zaw)) (tqOne (tAt (vInt .i64))))).lay (fun _ => by kernel_rfl)
noncomputable def Zbb.D (k : Nat) : FDen U := fdn Zbb.i Zbb.r Tryz.f162.ntmps [] true (fun x => Zbb.f k (x.1) (x.2)) (fun _ _ => rfl)
noncomputable def Zbb.j1000 : Jk U := ⟨(Int × Bool × Zd × Zd), oNorm (lay [(2, sPtr 2 0), (4, sPtr 4 0), (1, sAt (vInt .i64)), (27, sAt vBool)] [bCd 2 Zaw, bCd 4 Zaw] (fun _ => by kernel_rfl))⟩
noncomputable def Zbb.E (k : Nat) : Env U := mkE Tryz.f162 [Zcn.pk k] [(1000, Zbb.j1000)] [] [] (fun t => Nat.beq t 68) n0 [] false n00 nl0 []
theorem Zbb.eq (k : Nat) (x : (Zd × Int)) : runF (Zbb.E k) (codeOf Tryz.f162) (Zbb.i.put x) Zbb.r.un = Zbb.f k (x.1) (x.2) := by kernel_rfl
theorem Zbb.sound (k : Nat) : Sound Tryz.prog DD 162 (Zbb.D k) :=
  funP (E := Zbb.E k) (fn := Tryz.f162) (c := codeOf Tryz.f162) (Zbq _ _ _ _ _ _ _ _ _ _ _ _) mixed rfl Tryz.func162 (by kernel_rfl) (by kernel_rfl) (Zap (l := []) (by kernel_rfl) Zah) Zbb.i Zbb.r [] true (fun x => Zbb.f k (x.1) (x.2)) (fun _ _ => rfl) (by kernel_rfl) (Zbb.eq k)
noncomputable def Zbb.pk (k : Nat) : Pk Tryz.prog DD := ⟨162, Zbb.D k, Zbb.sound k, Zaq Tryz.func162 (by kernel_rfl) (by kernel_rfl)⟩
/-! ### (*pyx/pyxref11.Book).Reopen: function 129 -/
noncomputable def Zbk.f (k : Nat) (a0 : Zr) (a1 : Int) : Option (Int × Zr) := (Zbb.f k (⟨pack 12 false a0.f_T.Zk, pack 12 0 a0.f_T.Zh⟩ : Zd) a1).bind fun t1 => (cond (t1.2 == 0) (some (t1.2, (⟨a0.Zo, a0.f_L, (⟨pack 12 false t1.1.Zk, pack 12 0 t1.1.Zh⟩ : Zd)⟩ : Zr))) (some (t1.2, (⟨a0.Zo, a0.f_L, (⟨pack 12 false a0.f_T.Zk, pack 12 0 a0.f_T.Zh⟩ : Zd)⟩ : Zr))))
noncomputable def Zbk.i : Lay U (Zr × Int) := (pcGh 1000000000000000 7000000000000 (pcAnd (pcOne 0 (Zcq 7000000000000 7000000000000)) (pcOne 1 (tAt (vInt .i64))))).lay (fun _ => by kernel_rfl)
noncomputable def Zbk.r : Lay U (Int × Zr) := (pcAnd (pcOne 0 (tAt (vInt .i64))) (pcOne 1000000000000000 (Zcq 7000000000000 7000000000000))).lay (fun _ => by kernel_rfl)
noncomputable def Zbk.D (k : Nat) : FDen U := fdn Zbk.i Zbk.r Tryz.f129.ntmps [0] false (fun x => Zbk.f k (x.1) (x.2)) (fun h => by cases h)
noncomputable def Zbk.E (k : Nat) : Env U := mkE Tryz.f129 [Zbb.pk k] [] [] [] n0 n0 [0] false n00 nl0 []
theorem Zbk.eq (k : Nat) (x : (Zr × Int)) : runF (Zbk.E k) (codeOf Tryz.f129) (Zbk.i.put x) Zbk.r.un = Zbk.f k (x.1) (x.2) := by kernel_rfl
theorem Zbk.sound (k : Nat) : Sound Tryz.prog DD 129 (Zbk.D k) :=
  funP (E := Zbk.E k) (fn := Tryz.f129) (c := codeOf Tryz.f129) (Zbq _ _ _ _ _ _ _ _ _ _ _ _) mixed rfl Tryz.func129 (by kernel_rfl) (by kernel_rfl) (Zap (l := []) (by kernel_rfl) Zah) Zbk.i Zbk.r [0] false (fun x => Zbk.f k (x.1) (x.2)) (fun h => by cases h) (by kernel_rfl) (Zbk.eq k)
noncomputable def Zbk.pk (k : Nat) : Pk Tryz.prog DD := ⟨129, Zbk.D k, Zbk.sound k, Zaq Tryz.func129 (by kernel_rfl) (by kernel_rfl)⟩
/-! ### pyx/pyxref11.Zero: function 17 -/
noncomputable def Zcm.f (k : Nat) (a0 : Int) : Option Zg := some (⟨false, (0, 0), a0⟩ : Zg)
noncomputable def Zcm.i : Lay U Int := (pcOne 0 (tAt (vInt .i64))).lay (fun _ => by kernel_rfl)
noncomputable def Zcm.r : Lay U Zg := (pcOne 0 (tAt (vCd Zdo))).lay (fun _ => by kernel_rfl)
noncomputable def Zcm.D (k : Nat) : FDen U := fdn Zcm.i Zcm.r Tryz.f17.ntmps [] true (fun x => Zcm.f k (x)) (fun _ _ => rfl)
noncomputable def Zcm.E (k : Nat) : Env U := mkE Tryz.f17 [] [] [] [] n0 n0 [] false n00 nl0 []
theorem Zcm.eq (k : Nat) (x : Int) : runF (Zcm.E k) (codeOf Tryz.f17) (Zcm.i.put x) Zcm.r.un = Zcm.f k (x) := by kernel_rfl
theorem Zcm.sound (k : Nat) : Sound Tryz.prog DD 17 (Zcm.D k) :=
  funP (E := Zcm.E k) (fn := Tryz.f17) (c := codeOf Tryz.f17) (Zbq _ _ _ _ _ _ _ _ _ _ _ _) mixed rfl Tryz.func17 (by kernel_rfl) (by kernel_rfl) (Zap (l := []) (by kernel_rfl) Zah) Zcm.i Zcm.r [] true (fun x => Zcm.f k (x)) (fun _ _ => rfl) (by kernel_rfl) (Zcm.eq k)
noncomputable def Zcm.pk (k : Nat) : Pk Tryz.prog DD := ⟨17, Zcm.D k, Zcm.sound k, Zaq Tryz.func17 (by kernel_rfl) (by kernel_rfl)⟩
/-! ### pyx/pyxref1.CmpNat: function 106 -/
noncomputable def Zam.l6.once (k : Nat) (x : (List Int × List Int × Int)) : Option ((List Int × List Int × Int) ⊕ (Unit ⊕ Int)) := match x with | (x1, x2, x3) => cond (decide (x3 ≥ 0)) (cond (inb x3 (List.length x1)) (cond (inb x3 (List.length x2)) (cond (decide ((List.getD x1 (Int.toNat x3) 0) < (List.getD x2 (Int.toNat x3) 0))) (some (.inr (.inr (-1)))) (cond (inb x3 (List.length x1)) (cond (inb x3 (List.length x2)) (cond (decide ((List.getD x1 (Int.toNat x3) 0) > (List.getD x2 (Int.toNat x3) 0))) (some (.inr (.inr 1))) (some (.inl (x1, x2, IntKind.wrap .i64 (x3 - 1))))) none) none)) none) none) (some (.inr (.inl ())))
noncomputable def Zam.f (k : Nat) (a0 : List Int) (a1 : List Int) : Option Int := cond ((List.length a0 : Int) != (List.length a1 : Int)) (cond (decide ((List.length a0 : Int) < (List.length a1 : Int))) (some (-1)) (some 1)) ((iter (Zam.l6.once k) k (a0, a1, IntKind.wrap .i64 ((List.length a0 : Int) - 1))).bind fun | .inl y5 => (some 0) | .inr y6 => (some y6))
noncomputable def Zam.i : Lay U (List Int × List Int) := (pcAnd (pcOne 0 (tAt (vRow DD C.i64))) (pcOne 1 (tAt (vRow DD C.i64)))).lay (fun _ => by kernel_rfl)
noncomputable def Zam.r : Lay U Int := (pcOne 0 (tAt (vInt .i64))).lay (fun _ => by kernel_rfl)
noncomputable def Zam.D (k : Nat) : FDen U := fdn Zam.i Zam.r Tryz.f106.ntmps [] true (fun x => Zam.f k (x.1) (x.2)) (fun _ _ => rfl)
noncomputable def Zam.l6.i : Lay U (List Int × List Int × Int) := (lay [(0, sAt (vRow DD C.i64)), (1, sAt (vRow DD C.i64)), (5, sAt (vInt .i64))] [] (fun _ => by kernel_rfl))
noncomputable def Zam.l6.o : OLay U (Unit ⊕ Int) := oOr (oExit 0 (lay [] [] (fun _ => by kernel_rfl))) (oRet Zam.r)
noncomputable def Zam.E (k : Nat) : Env U := mkE Tryz.f106 [] [] [(6, ldn Zam.l6.i Zam.l6.o (iter (Zam.l6.once k) k))] [] n0 n0 [] false n00 nl0 []
theorem Zam.l6.eq (k : Nat) (x : (List Int × List Int × Int)) : evC (Zam.E k) (loopAt Tryz.f106 6) (Zam.l6.i.put x) (headK Zam.l6.i.un Zam.l6.o.re) = Zam.l6.once k x := by kernel_rfl
theorem Zam.l6.sound (k : Nat) : LSound (Zam.E k) Tryz.f106.ntmps Tryz.f106 (loopAt Tryz.f106 6) (ldn Zam.l6.i Zam.l6.o (iter (Zam.l6.once k) k)) :=
  loopP (Zbq _ _ _ _ _ _ _ _ _ _ _ _) mixed rfl (by kernel_rfl) (Zap (l := []) (by kernel_rfl) Zah) Zam.l6.i Zam.l6.o (Zam.l6.once k) k (Zam.l6.eq k)
theorem Zam.eq (k : Nat) (x : (List Int × List Int)) : runF (Zam.E k) (codeOf Tryz.f106) (Zam.i.put x) Zam.r.un = Zam.f k (x.1) (x.2) := by kernel_rfl
theorem Zam.sound (k : Nat) : Sound Tryz.prog DD 106 (Zam.D k) :=
  funP (E := Zam.E k) (fn := Tryz.f106) (c := codeOf Tryz.f106) (Zbq _ _ _ _ _ _ _ _ _ _ _ _) mixed rfl Tryz.func106 (by kernel_rfl) (by kernel_rfl) (Zap (l := [loopAt Tryz.f106 6]) (by kernel_rfl) (Zdj (key := 6) (by kernel_rfl) rfl (Zam.l6.sound k) Zah)) Zam.i Zam.r [] true (fun x => Zam.f k (x.1) (x.2)) (fun _ _ => rfl) (by kernel_rfl) (Zam.eq k)
noncomputable def Zam.pk (k : Nat) : Pk Tryz.prog DD := ⟨106, Zam.D k, Zam.sound k, Zaq Tryz.func106 (by kernel_rfl) (by kernel_rfl)⟩
/-! ### pyx/pyxref1.SubNat: function 107 -/
noncomputable def Zak.l4.once (k : Nat) (x : T1d) : Option (T1d ⊕ (List Int)) := match x with | (x1, x2, x3, x4, x5) => cond (decide (x5 < (List.length x1 : Int))) (((cond (inb x5 (List.length x1)) ((Zci.f k x2 x5).bind fun t6 => (((cond (decide ((IntKind.wrap .i64 ((IntKind.wrap .i64 ((List.getD x1 (Int.toNat x5) 0) - t6)) - x4)) < 0)) (some (x1, x2, x3, 1, x5, IntKind.wrap .i64 ((IntKind.wrap .i64 ((IntKind.wrap .i64 ((List.getD x1 (Int.toNat x5) 0) - t6)) - x4)) + 10))) (some (x1, x2, x3, 0, x5, IntKind.wrap .i64 ((IntKind.wrap .i64 ((List.getD x1 (Int.toNat x5) 0) - t6)) - x4)))) : Option (List Int × List Int × List Int × Int × Int × Int)).bind fun y13 => (cond (okLen (List.length y13.2.2.1 + List.length [y13.2.2.2.2.2]) 8) (some (y13.1, y13.2.1, y13.2.2.1 ++ [y13.2.2.2.2.2], y13.2.2.2.1, y13.2.2.2.2.1)) none))) none) : Option T1d).bind fun y19 => (some (.inl (y19.1, y19.2.1, y19.2.2.1, y19.2.2.2.1, IntKind.wrap .i64 (y19.2.2.2.2 + 1))))) (some (.inr x3))
noncomputable def Zak.f (k : Nat) (a0 : List Int) (a1 : List Int) : Option (List Int) := (iter (Zak.l4.once k) k (a0, a1, ([] : List Int), 0, 0)).bind fun y21 => ((Zav.f k y21).bind fun t22 => (some t22))
noncomputable def Zak.i : Lay U (List Int × List Int) := (pcAnd (pcOne 0 (tAt (vRow DD C.i64))) (pcOne 1 (tAt (vRow DD C.i64)))).lay (fun _ => by kernel_rfl)
noncomputable def Zak.r : Lay U (List Int) := (pcOne 0 (tAt (vRow DD C.i64))).lay (fun _ => by kernel_rfl)
noncomputable def Zak.D (k : Nat) : FDen U := fdn Zak.i Zak.r Tryz.f107.ntmps [] true (fun x => Zak.f k (x.1) (x.2)) (fun _ _ => rfl)
noncomputable def Zak.l4.i : Lay U T1d := (lay [(0, sAt (vRow DD C.i64)), (1, sAt (vRow DD C.i64)), (5, sAt (vTip DD 1004005 C.i64 1)), (6, sAt (vInt .i64)), (7, sAt (vInt .i64))] [] (fun _ => by kernel_rfl))
noncomputable def Zak.l4.o : OLay U (List Int) := oExit 0 (lay [(5, sAt (vTip DD 1004005 C.i64 1))] [] (fun _ => by kernel_rfl))
noncomputable def Zak.j9001 : Jk U := ⟨(List Int × List Int × List Int × Int × Int × Int), oNorm (lay [(0, sAt (vRow DD C.i64)), (1, sAt (vRow DD C.i64)), (5, sAt (vTip DD 1010001005 C.i64 1)), (6, sAt (vInt .i64)), (7, sAt (vInt .i64)), (8, sAt (vInt .i64))] [] (fun _ => by kernel_rfl))⟩
noncomputable def Zak.j6001 : Jk U := ⟨T1d, oNorm (lay [(0, sAt (vRow DD C.i64)), (1, sAt (vRow DD C.i64)), (5, sAt (vTip DD 1007001005 C.i64 1)), (6, sAt (vInt .i64)), (7, sAt (vInt .i64))] [] (fun _ => by kernel_rfl))⟩
noncomputable def Zak.E (k : Nat) : Env U := mkE Tryz.f107 [Zci.pk k, Zav.pk k] [(9001, Zak.j9001), (6001, Zak.j6001)] [(4, ldn Zak.l4.i Zak.l4.o (iter (Zak.l4.once k) k))] [] n0 n0 [] false n00 nl0 []
theorem Zak.l4.eq (k : Nat) (x : T1d) : evC (Zak.E k) (loopAt Tryz.f107 4) (Zak.l4.i.put x) (headK Zak.l4.i.un Zak.l4.o.re) = Zak.l4.once k x := by kernel_rfl
theorem Zak.l4.sound (k : Nat) : LSound (Zak.E k) Tryz.f107.ntmps Tryz.f107 (loopAt Tryz.f107 4) (ldn Zak.l4.i Zak.l4.o (iter (Zak.l4.once k) k)) :=
  loopP (Zbq _ _ _ _ _ _ _ _ _ _ _ _) mixed rfl (by kernel_rfl) (Zap (l := []) (by kernel_rfl) Zah) Zak.l4.i Zak.l4.o (Zak.l4.once k) k (Zak.l4.eq k)
theorem Zak.eq (k : Nat) (x : (List Int × List Int)) : runF (Zak.E k) (codeOf Tryz.f107) (Zak.i.put x) Zak.r.un = Zak.f k (x.1) (x.2) := by kernel_rfl
theorem Zak.sound (k : Nat) : Sound Tryz.prog DD 107 (Zak.D k) :=
  funP (E := Zak.E k) (fn := Tryz.f107) (c := codeOf Tryz.f107) (Zbq _ _ _ _ _ _ _ _ _ _ _ _) mixed rfl Tryz.func107 (by kernel_rfl) (by kernel_rfl) (Zap (l := [loopAt Tryz.f107 4]) (by kernel_rfl) (Zdj (key := 4) (by kernel_rfl) rfl (Zak.l4.sound k) Zah)) Zak.i Zak.r [] true (fun x => Zak.f k (x.1) (x.2)) (fun _ _ => rfl) (by kernel_rfl) (Zak.eq k)
noncomputable def Zak.pk (k : Nat) : Pk Tryz.prog DD := ⟨107, Zak.D k, Zak.sound k, Zaq Tryz.func107 (by kernel_rfl) (by kernel_rfl)⟩
/-! ### pyx/pyxref1.DivNat: function 152 -/
noncomputable def Zae.l7.once (k : Nat) (x : T1c) : Option (T1c ⊕ (T1c)) := match x with | (x7, x8, x10, x11, x9) => (Zam.f k x10 x8).bind fun t12 => (cond (decide (t12 ≥ 0)) ((Zak.f k x10 x8).bind fun t13 => (cond (inb x11 (List.length x9)) (cond (Nat.blt (Int.toNat x11) (List.length x9)) (cond (inb x11 (List.length x9)) (cond (Nat.blt (Int.toNat x11) (List.length x9)) (some (.inl (x7, x8, t13, x11, List.set x9 (Int.toNat x11) (IntKind.wrap .i64 ((List.getD x9 (Int.toNat x11) 0) + 1))))) none) none) none) none)) (some (.inr (x7, x8, x10, x11, x9))))
noncomputable def Zae.l4.once (k : Nat) (x : T1c) : Option (T1c ⊕ ((List Int × List Int))) := match x with | (x1, x2, x4, x5, x3) => cond (decide (x5 ≥ 0)) (cond (inb x5 (List.length x1)) (cond (okLen (List.length [List.getD x1 (Int.toNat x5) 0] + List.length x4) 8) ((Zav.f k ([List.getD x1 (Int.toNat x5) 0] ++ x4)).bind fun t6 => ((iter (Zae.l7.once k) k (x1, x2, t6, x5, x3)).bind fun y19 => (some (.inl (y19.1, y19.2.1, y19.2.2.1, IntKind.wrap .i64 (y19.2.2.2.1 - 1), y19.2.2.2.2))))) none) none) (some (.inr (x4, x3)))
noncomputable def Zae.f (k : Nat) (a0 : List Int) (a1 : List Int) : Option (List Int × List Int) := cond ((decide (0 ≤ (List.length a0 : Int)) && decide ((List.length a0 : Int) = (List.length a0 : Int))) && decide ((List.length a0 : Int) * 8 ≤ 140737488355328)) ((iter (Zae.l4.once k) k (a0, a1, ([] : List Int), IntKind.wrap .i64 ((List.length a0 : Int) - 1), List.replicate (Int.toNat (List.length a0 : Int)) (0 : Int))).bind fun y22 => ((Zav.f k y22.2).bind fun t23 => (some (t23, y22.1)))) none
noncomputable def Zae.i : Lay U (List Int × List Int) := (pcAnd (pcOne 0 (tAt (vRow DD C.i64))) (pcOne 1 (tAt (vRow DD C.i64)))).lay (fun _ => by kernel_rfl)
noncomputable def Zae.r : Lay U (List Int × List Int) := (pcTup 0 (tqCons (tAt (vRow DD C.i64)) (tqOne (tAt (vRow DD C.i64))))).lay (fun _ => by kernel_rfl)
noncomputable def Zae.D (k : Nat) : FDen U := fdn Zae.i Zae.r Tryz.f152.ntmps [] true (fun x => Zae.f k (x.1) (x.2)) (fun _ _ => rfl)
noncomputable def Zae.l7.i : Lay U T1c := ((pcIso (skPc [(0, sAt (vRow DD C.i64)), (1, sAt (vRow DD C.i64)), (6, sAt (vVec DD 1007006 C.i64)), (7, sAt (vRow DD C.i64)), (8, sAt (vInt .i64))] []) (fun x => ((x.1, x.2.1, x.2.2.2.1, x.2.2.2.2, x.2.2.1) : T1c)) (fun x => (x.1, x.2.1, x.2.2.2.2, x.2.2.1, x.2.2.2.1)) (fun _ => rfl)).lay (fun _ => by kernel_rfl))
noncomputable def Zae.l7.o : OLay U (T1c) := oExit 2 ((pcIso (skPc [(0, sAt (vRow DD C.i64)), (1, sAt (vRow DD C.i64)), (6, sAt (vVec DD 1007006 C.i64)), (7, sAt (vRow DD C.i64)), (8, sAt (vInt .i64))] []) (fun x => ((x.1, x.2.1, x.2.2.2.1, x.2.2.2.2, x.2.2.1) : T1c)) (fun x => (x.1, x.2.1, x.2.2.2.2, x.2.2.1, x.2.2.2.1)) (fun _ => rfl)).lay (fun _ => by kernel_rfl))
noncomputable def Zae.l4.i : Lay U T1c := ((pcIso (skPc [(0, sAt (vRow DD C.i64)), (1, sAt (vRow DD C.i64)), (6, sAt (vVec DD 1004006 C.i64)), (7, sAt (vRow DD C.i64)), (8, sAt (vInt .i64))] []) (fun x => ((x.1, x.2.1, x.2.2.2.1, x.2.2.2.2, x.2.2.1) : T1c)) (fun x => (x.1, x.2.1, x.2.2.2.2, x.2.2.1, x.2.2.2.1)) (fun _ => rfl)).lay (fun _ => by kernel_rfl))
noncomputable def Zae.l4.o : OLay U ((List Int × List Int)) := oExit 0 ((pcIso (skPc [(6, sAt (vVec DD 1004006 C.i64)), (7, sAt (vRow DD C.i64))] []) (fun x => ((x.2, x.1) : (List Int × List Int))) (fun x => (x.2, x.1)) (fun _ => rfl)).lay (fun _ => by kernel_rfl))
noncomputable def Zae.E (k : Nat) : Env U := mkE Tryz.f152 [Zav.pk k, Zam.pk k, Zak.pk k] [] [(7, ldn Zae.l7.i Zae.l7.o (iter (Zae.l7.once k) k)), (4, ldn Zae.l4.i Zae.l4.o (iter (Zae.l4.once k) k))] [] n0 (fun d => Nat.beq d 11) [] false n00 nl0 []
theorem Zae.l7.eq (k : Nat) (x : T1c) : evC (Zae.E k) (loopAt Tryz.f152 7) (Zae.l7.i.put x) (headK Zae.l7.i.un Zae.l7.o.re) = Zae.l7.once k x := by kernel_rfl
theorem Zae.l7.sound (k : Nat) : LSound (Zae.E k) Tryz.f152.ntmps Tryz.f152 (loopAt Tryz.f152 7) (ldn Zae.l7.i Zae.l7.o (iter (Zae.l7.once k) k)) :=
  loopP (Zbq _ _ _ _ _ _ _ _ _ _ _ _) mixed rfl (by kernel_rfl) (Zap (l := []) (by kernel_rfl) Zah) Zae.l7.i Zae.l7.o (Zae.l7.once k) k (Zae.l7.eq k)
theorem Zae.l4.eq (k : Nat) (x : T1c) : evC (Zae.E k) (loopAt Tryz.f152 4) (Zae.l4.i.put x) (headK Zae.l4.i.un Zae.l4.o.re) = Zae.l4.once k x := by kernel_rfl
theorem Zae.l4.sound (k : Nat) : LSound (Zae.E k) Tryz.f152.ntmps Tryz.f152 (loopAt Tryz.f152 4) (ldn Zae.l4.i Zae.l4.o (iter (Zae.l4.once k) k)) :=
  loopP (Zbq _ _ _ _ _ _ _ _ _ _ _ _) mixed rfl (by kernel_rfl) (Zap (l := [loopAt Tryz.f152 7]) (by kernel_rfl) (Zdj (key := 7) (by kernel_rfl) rfl (Zae.l7.sound k) Zah)) Zae.l4.i Zae.l4.o (Zae.l4.once k) k (Zae.l4.eq k)
theorem Zae.eq (k : Nat) (x : (List Int × List Int)) : runF (Zae.E k) (codeOf Tryz.f152) (Zae.i.put x) Zae.r.un = Zae.f k (x.1) (x.2) := by kernel_rfl
theorem Zae.sound (k : Nat) : Sound Tryz.prog DD 152 (Zae.D k) :=
  funP (E := Zae.E k) (fn := Tryz.f152) (c := codeOf Tryz.f152) (Zbq _ _ _ _ _ _ _ _ _ _ _ _) mixed rfl Tryz.func152 (by kernel_rfl) (by kernel_rfl) (Zap (l := [loopAt Tryz.f152 4]) (by kernel_rfl) (Zdj (key := 4) (by kernel_rfl) rfl (Zae.l4.sound k) Zah)) Zae.i Zae.r [] true (fun x => Zae.f k (x.1) (x.2)) (fun _ _ => rfl) (by kernel_rfl) (Zae.eq k)
noncomputable def Zae.pk (k : Nat) : Pk Tryz.prog DD := ⟨152, Zae.D k, Zae.sound k, Zaq Tryz.func152 (by kernel_rfl) (by kernel_rfl)⟩
/-! ### pyx/pyxref1.short: function 154 -/
noncomputable def Zba.l3.once (k : Nat) (x : (List Int × Int × Int)) : Option ((List Int × Int × Int) ⊕ (Int)) := match x with | (x1, x2, x3) => cond (decide (x3 ≥ 0)) (cond (inb x3 (List.length x1)) (some (.inl (x1, IntKind.wrap .u64 ((IntKind.wrap .u64 (10 * x2)) + (IntKind.wrap .u64 (List.getD x1 (Int.toNat x3) 0))), IntKind.wrap .i64 (x3 - 1)))) none) (some (.inr x2))
noncomputable def Zba.f (k : Nat) (a0 : List Int) : Option Int := (iter (Zba.l3.once k) k (a0, 0, IntKind.wrap .i64 ((List.length a0 : Int) - 1))).bind fun y5 => (some y5)
noncomputable def Zba.i : Lay U (List Int) := (pcOne 0 (tAt (vRow DD C.i64))).lay (fun _ => by kernel_rfl)
noncomputable def Zba.r : Lay U Int := (pcOne 0 (tAt (vInt .u64))).lay (fun _ => by kernel_rfl)
noncomputable def Zba.D (k : Nat) : FDen U := fdn Zba.i Zba.r Tryz.f154.ntmps [] true (fun x => Zba.f k (x)) (fun _ _ => rfl)
noncomputable def Zba.l3.i : Lay U (List Int × Int × Int) := (lay [(0, sAt (vRow DD C.i64)), (3, sAt (vInt .u64)), (4, sAt (vInt .i64))] [] (fun _ => by kernel_rfl))
noncomputable def Zba.l3.o : OLay U (Int) := oExit 0 (lay [(3, sAt (vInt .u64))] [] (fun _ => by kernel_rfl))
noncomputable def Zba.E (k : Nat) : Env U := mkE Tryz.f154 [] [] [(3, ldn Zba.l3.i Zba.l3.o (iter (Zba.l3.once k) k))] [] n0 n0 [] false n00 nl0 []
theorem Zba.l3.eq (k : Nat) (x : (List Int × Int × Int)) : evC (Zba.E k) (loopAt Tryz.f154 3) (Zba.l3.i.put x) (headK Zba.l3.i.un Zba.l3.o.re) = Zba.l3.once k x := by kernel_rfl
theorem Zba.l3.sound (k : Nat) : LSound (Zba.E k) Tryz.f154.ntmps Tryz.f154 (loopAt Tryz.f154 3) (ldn Zba.l3.i Zba.l3.o (iter (Zba.l3.once k) k)) :=
  loopP (Zbq _ _ _ _ _ _ _ _ _ _ _ _) mixed rfl (by kernel_rfl) (Zap (l := []) (by kernel_rfl) Zah) Zba.l3.i Zba.l3.o (Zba.l3.once k) k (Zba.l3.eq k)
theorem Zba.eq (k : Nat) (x : List Int) : runF (Zba.E k) (codeOf Tryz.f154) (Zba.i.put x) Zba.r.un = Zba.f k (x) := by kernel_rfl
theorem Zba.sound (k : Nat) : Sound Tryz.prog DD 154 (Zba.D k) :=
  funP (E := Zba.E k) (fn := Tryz.f154) (c := codeOf Tryz.f154) (Zbq _ _ _ _ _ _ _ _ _ _ _ _) mixed rfl Tryz.func154 (by kernel_rfl) (by kernel_rfl) (Zap (l := [loopAt Tryz.f154 3]) (by kernel_rfl) (Zdj (key := 3) (by kernel_rfl) rfl (Zba.l3.sound k) Zah)) Zba.i Zba.r [] true (fun x => Zba.f k (x)) (fun _ _ => rfl) (by kernel_rfl) (Zba.eq k)
noncomputable def Zba.pk (k : Nat) : Pk Tryz.prog DD := ⟨154, Zba.D k, Zba.sound k, Zaq Tryz.func154 (by kernel_rfl) (by kernel_rfl)⟩
/-! ### pyx/pyxref1.Words2: function 121 -/
noncomputable def Zcu.f (k : Nat) (a0 : List Int) : Option ((Int × Int) × Bool) := (Zcs.f k).bind fun t1 => ((Zae.f k a0 t1).bind fun t2 => ((Zcs.f k).bind fun t3 => ((Zam.f k t2.1 t3).bind fun t4 => (cond (decide (t4 ≥ 0)) (some ((0, 0), false)) ((Zba.f k t2.2).bind fun t5 => ((Zba.f k t2.1).bind fun t6 => (some ((t5, t6), true))))))))
noncomputable def Zcu.i : Lay U (List Int) := (pcOne 0 (tAt (vRow DD C.i64))).lay (fun _ => by kernel_rfl)
noncomputable def Zcu.r : Lay U ((Int × Int) × Bool) := (pcTup 0 (tqCons (tAt (vCd (Cd.pair (Cd.int .u64) (Cd.int .u64)))) (tqOne (tAt vBool)))).lay (fun _ => by kernel_rfl)
noncomputable def Zcu.D (k : Nat) : FDen U := fdn Zcu.i Zcu.r Tryz.f121.ntmps [] true (fun x => Zcu.f k (x)) (fun _ _ => rfl)
noncomputable def Zcu.E (k : Nat) : Env U := mkE Tryz.f121 [Zcs.pk k, Zae.pk k, Zam.pk k, Zba.pk k] [] [] [] n0 n0 [] false n00 nl0 []
theorem Zcu.eq (k : Nat) (x : List Int) : runF (Zcu.E k) (codeOf Tryz.f121) (Zcu.i.put x) Zcu.r.un = Zcu.f k (x) := by kernel_rfl
theorem Zcu.sound (k : Nat) : Sound Tryz.prog DD 121 (Zcu.D k) :=
  funP (E := Zcu.E k) (fn := Tryz.f121) (c := codeOf Tryz.f121) (Zbq _ _ _ _ _ _ _ _ _ _ _ _) mixed rfl Tryz.func121 (by kernel_rfl) (by kernel_rfl) (Zap (l := []) (by kernel_rfl) Zah) Zcu.i Zcu.r [] true (fun x => Zcu.f k (x)) (fun _ _ => rfl) (by kernel_rfl) (Zcu.eq k)
noncomputable def Zcu.pk (k : Nat) : Pk Tryz.prog DD := ⟨121, Zcu.D k, Zcu.sound k, Zaq Tryz.func121 (by kernel_rfl) (by kernel_rfl)⟩
end
end Go.Proofs.YtbchcjlllddlpaaGreat
