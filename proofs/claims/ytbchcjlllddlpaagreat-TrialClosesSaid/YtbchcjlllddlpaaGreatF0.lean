import Derived.Test.YtbchcjlllddlpaaGreatSkG
/-! Functions, told; their equations with the evaluator; that they are sound. Written by gen.py. -/
namespace Go.Proofs.YtbchcjlllddlpaaGreat
open Go Go.Ev
noncomputable section
set_option linter.unusedVariables false
set_option linter.unusedSimpArgs false
set_option maxRecDepth 100000
abbrev T0c := (List Int × List Int × List Int × Int × Int)
abbrev T0b := (List Int × List Int × Int × Int × Int × List Int)
abbrev T0a := (List Int × List Int × Int × Int × Int × Bool × List Int)
/-! ### pyx/pyxhand.Pick: function 10 -/
noncomputable def Zaq.f (k : Nat) (a0 : Int) (a1 : Int) : Option Int := cond (a1 == 0) none (cond (decide ((Int.tmod a0 a1) < 0)) (some (IntKind.wrap .i64 ((Int.tmod a0 a1) + a1))) (some (Int.tmod a0 a1)))
noncomputable def Zaq.i : Lay U (Int × Int) := (pcAnd (pcOne 0 (tAt (vInt .i64))) (pcOne 1 (tAt (vInt .i64)))).lay (fun _ => by kernel_rfl)
noncomputable def Zaq.r : Lay U Int := (pcOne 0 (tAt (vInt .i64))).lay (fun _ => by kernel_rfl)
noncomputable def Zaq.D (k : Nat) : FDen U := fdn Zaq.i Zaq.r Tryz.f10.ntmps [] true (fun x => Zaq.f k (x.1) (x.2)) (fun _ _ => rfl)
noncomputable def Zaq.E (k : Nat) : Env U := mkE Tryz.f10 [] [] [] [] n0 n0 [] false n00 nl0 []
theorem Zaq.eq (k : Nat) (x : (Int × Int)) : runF (Zaq.E k) (codeOf Tryz.f10) (Zaq.i.put x) Zaq.r.un = Zaq.f k (x.1) (x.2) := by kernel_rfl
theorem Zaq.sound (k : Nat) : Sound Tryz.prog DD 10 (Zaq.D k) :=
  funP (E := Zaq.E k) (fn := Tryz.f10) (c := codeOf Tryz.f10) (Zbq _ _ _ _ _ _ _ _ _ _ _ _) mixed rfl Tryz.func10 (by kernel_rfl) (by kernel_rfl) (Zan (l := []) (by kernel_rfl) Zaa) Zaq.i Zaq.r [] true (fun x => Zaq.f k (x.1) (x.2)) (fun _ _ => rfl) (by kernel_rfl) (Zaq.eq k)
noncomputable def Zaq.pk (k : Nat) : Pk Tryz.prog DD := ⟨10, Zaq.D k, Zaq.sound k, Zal Tryz.func10 (by kernel_rfl) (by kernel_rfl)⟩
/-! ### pyx/ledger.New: function 12 -/
noncomputable def Zdq.f (k : Nat) (a0 : Int) : Option Ze := some (⟨(if (if 4 < a0 then 4 else a0) > 0 then (if 4 < a0 then 4 else a0) else 0), [], (⟨[false, false, false, false, false, false, false, false, false, false, false, false], [0, 0, 0, 0, 0, 0, 0, 0, 0, 0, 0, 0]⟩ : Zd)⟩ : Ze)
noncomputable def Zdq.i : Lay U Int := (pcOne 0 (tAt (vInt .i64))).lay (fun _ => by kernel_rfl)
noncomputable def Zdq.r : Lay U Ze := (pcOne 0 (Zbv 7 6000000000000)).lay (fun _ => by kernel_rfl)
noncomputable def Zdq.D (k : Nat) : FDen U := fdn Zdq.i Zdq.r Tryz.f12.ntmps [] false (fun x => Zdq.f k (x)) (fun h => by cases h)
noncomputable def Zdq.E (k : Nat) : Env U := mkE Tryz.f12 [] [] [] [] n0 n0 [] false n00 nl0 []
theorem Zdq.eq (k : Nat) (x : Int) : runF (Zdq.E k) (codeOf Tryz.f12) (Zdq.i.put x) Zdq.r.un = Zdq.f k (x) := by kernel_rfl
theorem Zdq.sound (k : Nat) : Sound Tryz.prog DD 12 (Zdq.D k) :=
  funP (E := Zdq.E k) (fn := Tryz.f12) (c := codeOf Tryz.f12) (Zbq _ _ _ _ _ _ _ _ _ _ _ _) mixed rfl Tryz.func12 (by kernel_rfl) (by kernel_rfl) (Zan (l := []) (by kernel_rfl) Zaa) Zdq.i Zdq.r [] false (fun x => Zdq.f k (x)) (fun h => by cases h) (by kernel_rfl) (Zdq.eq k)
noncomputable def Zdq.pk (k : Nat) : Pk Tryz.prog DD := ⟨12, Zdq.D k, Zdq.sound k, Zal Tryz.func12 (by kernel_rfl) (by kernel_rfl)⟩
/-! ### pyx/pyxref1.Within: function 73 -/
noncomputable def Zbx.f (k : Nat) (a0 : Int) (a1 : Int) (a2 : Int) : Option Int := some (if (if a0 < a2 then a0 else a2) > a1 then (if a0 < a2 then a0 else a2) else a1)
noncomputable def Zbx.i : Lay U (Int × Int × Int) := (pcAnd (pcOne 0 (tAt (vInt .i64))) (pcAnd (pcOne 1 (tAt (vInt .i64))) (pcOne 2 (tAt (vInt .i64))))).lay (fun _ => by kernel_rfl)
noncomputable def Zbx.r : Lay U Int := (pcOne 0 (tAt (vInt .i64))).lay (fun _ => by kernel_rfl)
noncomputable def Zbx.D (k : Nat) : FDen U := fdn Zbx.i Zbx.r Tryz.f73.ntmps [] true (fun x => Zbx.f k (x.1) (x.2.1) (x.2.2)) (fun _ _ => rfl)
noncomputable def Zbx.E (k : Nat) : Env U := mkE Tryz.f73 [] [] [] [] n0 n0 [] false n00 nl0 []
theorem Zbx.eq (k : Nat) (x : (Int × Int × Int)) : runF (Zbx.E k) (codeOf Tryz.f73) (Zbx.i.put x) Zbx.r.un = Zbx.f k (x.1) (x.2.1) (x.2.2) := by kernel_rfl
theorem Zbx.sound (k : Nat) : Sound Tryz.prog DD 73 (Zbx.D k) :=
  funP (E := Zbx.E k) (fn := Tryz.f73) (c := codeOf Tryz.f73) (Zbq _ _ _ _ _ _ _ _ _ _ _ _) mixed rfl Tryz.func73 (by kernel_rfl) (by kernel_rfl) (Zan (l := []) (by kernel_rfl) Zaa) Zbx.i Zbx.r [] true (fun x => Zbx.f k (x.1) (x.2.1) (x.2.2)) (fun _ _ => rfl) (by kernel_rfl) (Zbx.eq k)
noncomputable def Zbx.pk (k : Nat) : Pk Tryz.prog DD := ⟨73, Zbx.D k, Zbx.sound k, Zal Tryz.func73 (by kernel_rfl) (by kernel_rfl)⟩
/-! ### pyx/pyxref11.NewBook: function 126 -/
noncomputable def Zbz.f (k : Nat) (a0 : Int) : Option Zac := (Zbx.f k a0 0 4).bind fun t1 => (some (⟨t1, [], (⟨[false, false, false, false, false, false, false, false, false, false, false, false], [0, 0, 0, 0, 0, 0, 0, 0, 0, 0, 0, 0]⟩ : Zl)⟩ : Zac))
noncomputable def Zbz.i : Lay U Int := (pcOne 0 (tAt (vInt .i64))).lay (fun _ => by kernel_rfl)
noncomputable def Zbz.r : Lay U Zac := (pcOne 0 (Zde 6 6000000000000)).lay (fun _ => by kernel_rfl)
noncomputable def Zbz.D (k : Nat) : FDen U := fdn Zbz.i Zbz.r Tryz.f126.ntmps [] false (fun x => Zbz.f k (x)) (fun h => by cases h)
noncomputable def Zbz.E (k : Nat) : Env U := mkE Tryz.f126 [Zbx.pk k] [] [] [] n0 n0 [] false n00 nl0 []
theorem Zbz.eq (k : Nat) (x : Int) : runF (Zbz.E k) (codeOf Tryz.f126) (Zbz.i.put x) Zbz.r.un = Zbz.f k (x) := by kernel_rfl
theorem Zbz.sound (k : Nat) : Sound Tryz.prog DD 126 (Zbz.D k) :=
  funP (E := Zbz.E k) (fn := Tryz.f126) (c := codeOf Tryz.f126) (Zbq _ _ _ _ _ _ _ _ _ _ _ _) mixed rfl Tryz.func126 (by kernel_rfl) (by kernel_rfl) (Zan (l := []) (by kernel_rfl) Zaa) Zbz.i Zbz.r [] false (fun x => Zbz.f k (x)) (fun h => by cases h) (by kernel_rfl) (Zbz.eq k)
noncomputable def Zbz.pk (k : Nat) : Pk Tryz.prog DD := ⟨126, Zbz.D k, Zbz.sound k, Zal Tryz.func126 (by kernel_rfl) (by kernel_rfl)⟩
/-! ### pyx/pyxref11.is: function 83 -/
noncomputable def Zdb.f (k : Nat) (a0 : Int) : Option Bool := cond (decide (a0 ≥ 0)) (some (decide (a0 < 12))) (some false)
noncomputable def Zdb.i : Lay U Int := (pcOne 0 (tAt (vInt .i64))).lay (fun _ => by kernel_rfl)
noncomputable def Zdb.r : Lay U Bool := (pcOne 0 (tAt vBool)).lay (fun _ => by kernel_rfl)
noncomputable def Zdb.D (k : Nat) : FDen U := fdn Zdb.i Zdb.r Tryz.f83.ntmps [] true (fun x => Zdb.f k (x)) (fun _ _ => rfl)
noncomputable def Zdb.E (k : Nat) : Env U := mkE Tryz.f83 [] [] [] [] n0 n0 [] false n00 nl0 []
theorem Zdb.eq (k : Nat) (x : Int) : runF (Zdb.E k) (codeOf Tryz.f83) (Zdb.i.put x) Zdb.r.un = Zdb.f k (x) := by kernel_rfl
theorem Zdb.sound (k : Nat) : Sound Tryz.prog DD 83 (Zdb.D k) :=
  funP (E := Zdb.E k) (fn := Tryz.f83) (c := codeOf Tryz.f83) (Zbq _ _ _ _ _ _ _ _ _ _ _ _) mixed rfl Tryz.func83 (by kernel_rfl) (by kernel_rfl) (Zan (l := []) (by kernel_rfl) Zaa) Zdb.i Zdb.r [] true (fun x => Zdb.f k (x)) (fun _ _ => rfl) (by kernel_rfl) (Zdb.eq k)
noncomputable def Zdb.pk (k : Nat) : Pk Tryz.prog DD := ⟨83, Zdb.D k, Zdb.sound k, Zal Tryz.func83 (by kernel_rfl) (by kernel_rfl)⟩
/-! ### (pyx/pyxref11.Table).Close: function 159 -/
noncomputable def Zaz.f (k : Nat) (a0 : Zl) (a1 : Int) : Option (Zl × Int) := (((Zdb.f k a1).bind fun t1 => (cond (!t1) (some (a1, true, (⟨pack 12 false a0.Zk, pack 12 0 a0.Zi⟩ : Zl), (⟨[false, false, false, false, false, false, false, false, false, false, false, false], [0, 0, 0, 0, 0, 0, 0, 0, 0, 0, 0, 0]⟩ : Zl))) (cond (inb a1 12) (cond (Nat.blt (Int.toNat a1) 12) (cond (List.getD (pack 12 false a0.Zk) (Int.toNat a1) false) (some (a1, true, (⟨pack 12 false a0.Zk, pack 12 0 a0.Zi⟩ : Zl), (⟨[false, false, false, false, false, false, false, false, false, false, false, false], [0, 0, 0, 0, 0, 0, 0, 0, 0, 0, 0, 0]⟩ : Zl))) (cond (decide (a1 > 0)) (cond (inb (IntKind.wrap .i64 (a1 - 1)) 12) (cond (Nat.blt (Int.toNat (IntKind.wrap .i64 (a1 - 1))) 12) (some (a1, !(List.getD (pack 12 false a0.Zk) (Int.toNat (IntKind.wrap .i64 (a1 - 1))) false), (⟨pack 12 false a0.Zk, pack 12 0 a0.Zi⟩ : Zl), (⟨[false, false, false, false, false, false, false, false, false, false, false, false], [0, 0, 0, 0, 0, 0, 0, 0, 0, 0, 0, 0]⟩ : Zl))) none) none) (some (a1, false, (⟨pack 12 false a0.Zk, pack 12 0 a0.Zi⟩ : Zl), (⟨[false, false, false, false, false, false, false, false, false, false, false, false], [0, 0, 0, 0, 0, 0, 0, 0, 0, 0, 0, 0]⟩ : Zl))))) none) none))) : Option (Int × Bool × Zl × Zl)).bind fun y6 => (cond (y6.2.1) (some ((⟨[false, false, false, false, false, false, false, false, false, false, false, false], [0, 0, 0, 0, 0, 0, 0, 0, 0, 0, 0, 0]⟩ : Zl), 8)) (cond (inb y6.1 12) (cond (Nat.blt (Int.toNat y6.1) 12) (cond (inb y6.1 12) (cond (Nat.blt (Int.toNat y6.1) 12) (cond (inb y6.1 12) (cond (Nat.blt (Int.toNat y6.1) 12) (some ((⟨putAll (Int.toNat y6.1) true 0 (pack 12 false y6.2.2.1.Zk), putAll (Int.toNat y6.1) (IntKind.wrap .i64 ((List.getD (pack 12 0 y6.2.2.1.Zi) (Int.toNat y6.1) 0) + 1)) 0 (pack 12 0 y6.2.2.1.Zi)⟩ : Zl), 0)) none) none) none) none) none) none))
noncomputable def Zaz.i : Lay U (Zl × Int) := (pcAnd (pcOne 0 (tAt (vCd Zbw))) (pcOne 1 (tAt (vInt .i64)))).lay (fun _ => by kernel_rfl)
noncomputable def Zaz.r : Lay U (Zl × Int) := (pcTup 0 (tqCons (tAt (vCd Zbw)) (tqOne (tAt (vInt .i64))))).lay (fun _ => by kernel_rfl)
noncomputable def Zaz.D (k : Nat) : FDen U := fdn Zaz.i Zaz.r Tryz.f159.ntmps [] true (fun x => Zaz.f k (x.1) (x.2)) (fun _ _ => rfl)
noncomputable def Zaz.j1000 : Jk U := ⟨(Int × Bool × Zl × Zl), oNorm (lay [(2, sPtr 2 0), (4, sPtr 4 0), (1, sAt (vInt .i64)), (26, sAt vBool)] [bCd 2 Zbw, bCd 4 Zbw] (fun _ => by kernel_rfl))⟩
noncomputable def Zaz.E (k : Nat) : Env U := mkE Tryz.f159 [Zdb.pk k] [(1000, Zaz.j1000)] [] [] (fun t => Nat.beq t 68 || Nat.beq t 69) n0 [] false n00 nl0 []
theorem Zaz.eq (k : Nat) (x : (Zl × Int)) : runF (Zaz.E k) (codeOf Tryz.f159) (Zaz.i.put x) Zaz.r.un = Zaz.f k (x.1) (x.2) := by kernel_rfl
theorem Zaz.sound (k : Nat) : Sound Tryz.prog DD 159 (Zaz.D k) :=
  funP (E := Zaz.E k) (fn := Tryz.f159) (c := codeOf Tryz.f159) (Zbq _ _ _ _ _ _ _ _ _ _ _ _) mixed rfl Tryz.func159 (by kernel_rfl) (by kernel_rfl) (Zan (l := []) (by kernel_rfl) Zaa) Zaz.i Zaz.r [] true (fun x => Zaz.f k (x.1) (x.2)) (fun _ _ => rfl) (by kernel_rfl) (Zaz.eq k)
noncomputable def Zaz.pk (k : Nat) : Pk Tryz.prog DD := ⟨159, Zaz.D k, Zaz.sound k, Zal Tryz.func159 (by kernel_rfl) (by kernel_rfl)⟩
/-! ### (*pyx/pyxref11.Book).Close: function 127 -/
noncomputable def Zbj.f (k : Nat) (a0 : Zac) (a1 : Int) : Option (Int × Zac) := (Zaz.f k (⟨pack 12 false a0.f_T.Zk, pack 12 0 a0.f_T.Zi⟩ : Zl) a1).bind fun t1 => (cond (t1.2 == 0) (some (t1.2, (⟨a0.Zn, a0.f_L, (⟨pack 12 false t1.1.Zk, pack 12 0 t1.1.Zi⟩ : Zl)⟩ : Zac))) (some (t1.2, (⟨a0.Zn, a0.f_L, (⟨pack 12 false a0.f_T.Zk, pack 12 0 a0.f_T.Zi⟩ : Zl)⟩ : Zac))))
noncomputable def Zbj.i : Lay U (Zac × Int) := (pcGh 1000000000000000 7000000000000 (pcAnd (pcOne 0 (Zde 7000000000000 7000000000000)) (pcOne 1 (tAt (vInt .i64))))).lay (fun _ => by kernel_rfl)
noncomputable def Zbj.r : Lay U (Int × Zac) := (pcAnd (pcOne 0 (tAt (vInt .i64))) (pcOne 1000000000000000 (Zde 7000000000000 7000000000000))).lay (fun _ => by kernel_rfl)
noncomputable def Zbj.D (k : Nat) : FDen U := fdn Zbj.i Zbj.r Tryz.f127.ntmps [0] false (fun x => Zbj.f k (x.1) (x.2)) (fun h => by cases h)
noncomputable def Zbj.E (k : Nat) : Env U := mkE Tryz.f127 [Zaz.pk k] [] [] [] n0 n0 [0] false n00 nl0 []
theorem Zbj.eq (k : Nat) (x : (Zac × Int)) : runF (Zbj.E k) (codeOf Tryz.f127) (Zbj.i.put x) Zbj.r.un = Zbj.f k (x.1) (x.2) := by kernel_rfl
theorem Zbj.sound (k : Nat) : Sound Tryz.prog DD 127 (Zbj.D k) :=
  funP (E := Zbj.E k) (fn := Tryz.f127) (c := codeOf Tryz.f127) (Zbq _ _ _ _ _ _ _ _ _ _ _ _) mixed rfl Tryz.func127 (by kernel_rfl) (by kernel_rfl) (Zan (l := []) (by kernel_rfl) Zaa) Zbj.i Zbj.r [0] false (fun x => Zbj.f k (x.1) (x.2)) (fun h => by cases h) (by kernel_rfl) (Zbj.eq k)
noncomputable def Zbj.pk (k : Nat) : Pk Tryz.prog DD := ⟨127, Zbj.D k, Zbj.sound k, Zal Tryz.func127 (by kernel_rfl) (by kernel_rfl)⟩
/-! ### pyx/pyxref1.Word: function 72 -/
noncomputable def Zap.l2.once (k : Nat) (x : (Int × List Int)) : Option ((Int × List Int) ⊕ (List Int)) := match x with | (x1, x2) => cond (decide (x1 > 0)) (cond (okLen (List.length x2 + List.length [IntKind.wrap .i64 (Int.tmod x1 10)]) 8) (some (.inl (IntKind.wrap .u64 (Int.tdiv x1 10), x2 ++ [IntKind.wrap .i64 (Int.tmod x1 10)]))) none) (some (.inr x2))
noncomputable def Zap.f (k : Nat) (a0 : Int) : Option (List Int) := (iter (Zap.l2.once k) k (a0, ([] : List Int))).bind fun y4 => (some y4)
noncomputable def Zap.i : Lay U Int := (pcOne 0 (tAt (vInt .u64))).lay (fun _ => by kernel_rfl)
noncomputable def Zap.r : Lay U (List Int) := (pcOne 0 (tAt (vRow DD C.i64))).lay (fun _ => by kernel_rfl)
noncomputable def Zap.D (k : Nat) : FDen U := fdn Zap.i Zap.r Tryz.f72.ntmps [] true (fun x => Zap.f k (x)) (fun _ _ => rfl)
noncomputable def Zap.l2.i : Lay U (Int × List Int) := (lay [(0, sAt (vInt .u64)), (3, sAt (vTip DD 1002003 C.i64 1))] [] (fun _ => by kernel_rfl))
noncomputable def Zap.l2.o : OLay U (List Int) := oExit 0 (lay [(3, sAt (vTip DD 1002003 C.i64 1))] [] (fun _ => by kernel_rfl))
noncomputable def Zap.E (k : Nat) : Env U := mkE Tryz.f72 [] [] [(2, ldn Zap.l2.i Zap.l2.o (iter (Zap.l2.once k) k))] [] n0 n0 [] false n00 nl0 []
theorem Zap.l2.eq (k : Nat) (x : (Int × List Int)) : evC (Zap.E k) (loopAt Tryz.f72 2) (Zap.l2.i.put x) (headK Zap.l2.i.un Zap.l2.o.re) = Zap.l2.once k x := by kernel_rfl
theorem Zap.l2.sound (k : Nat) : LSound (Zap.E k) Tryz.f72.ntmps Tryz.f72 (loopAt Tryz.f72 2) (ldn Zap.l2.i Zap.l2.o (iter (Zap.l2.once k) k)) :=
  loopP (Zbq _ _ _ _ _ _ _ _ _ _ _ _) mixed rfl (by kernel_rfl) (Zan (l := []) (by kernel_rfl) Zaa) Zap.l2.i Zap.l2.o (Zap.l2.once k) k (Zap.l2.eq k)
theorem Zap.eq (k : Nat) (x : Int) : runF (Zap.E k) (codeOf Tryz.f72) (Zap.i.put x) Zap.r.un = Zap.f k (x) := by kernel_rfl
theorem Zap.sound (k : Nat) : Sound Tryz.prog DD 72 (Zap.D k) :=
  funP (E := Zap.E k) (fn := Tryz.f72) (c := codeOf Tryz.f72) (Zbq _ _ _ _ _ _ _ _ _ _ _ _) mixed rfl Tryz.func72 (by kernel_rfl) (by kernel_rfl) (Zan (l := [loopAt Tryz.f72 2]) (by kernel_rfl) (Zdj (key := 2) (by kernel_rfl) rfl (Zap.l2.sound k) Zaa)) Zap.i Zap.r [] true (fun x => Zap.f k (x)) (fun _ _ => rfl) (by kernel_rfl) (Zap.eq k)
noncomputable def Zap.pk (k : Nat) : Pk Tryz.prog DD := ⟨72, Zap.D k, Zap.sound k, Zal Tryz.func72 (by kernel_rfl) (by kernel_rfl)⟩
/-! ### pyx/pyxref1.digit: function 146 -/
noncomputable def Zby.f (k : Nat) (a0 : List Int) (a1 : Int) : Option Int := cond (decide (a1 < (List.length a0 : Int))) (cond (inb a1 (List.length a0)) (some (List.getD a0 (Int.toNat a1) 0)) none) (some 0)
noncomputable def Zby.i : Lay U (List Int × Int) := (pcAnd (pcOne 0 (tAt (vRow DD C.i64))) (pcOne 1 (tAt (vInt .i64)))).lay (fun _ => by kernel_rfl)
noncomputable def Zby.r : Lay U Int := (pcOne 0 (tAt (vInt .i64))).lay (fun _ => by kernel_rfl)
noncomputable def Zby.D (k : Nat) : FDen U := fdn Zby.i Zby.r Tryz.f146.ntmps [] true (fun x => Zby.f k (x.1) (x.2)) (fun _ _ => rfl)
noncomputable def Zby.E (k : Nat) : Env U := mkE Tryz.f146 [] [] [] [] n0 n0 [] false n00 nl0 []
theorem Zby.eq (k : Nat) (x : (List Int × Int)) : runF (Zby.E k) (codeOf Tryz.f146) (Zby.i.put x) Zby.r.un = Zby.f k (x.1) (x.2) := by kernel_rfl
theorem Zby.sound (k : Nat) : Sound Tryz.prog DD 146 (Zby.D k) :=
  funP (E := Zby.E k) (fn := Tryz.f146) (c := codeOf Tryz.f146) (Zbq _ _ _ _ _ _ _ _ _ _ _ _) mixed rfl Tryz.func146 (by kernel_rfl) (by kernel_rfl) (Zan (l := []) (by kernel_rfl) Zaa) Zby.i Zby.r [] true (fun x => Zby.f k (x.1) (x.2)) (fun _ _ => rfl) (by kernel_rfl) (Zby.eq k)
noncomputable def Zby.pk (k : Nat) : Pk Tryz.prog DD := ⟨146, Zby.D k, Zby.sound k, Zal Tryz.func146 (by kernel_rfl) (by kernel_rfl)⟩
/-! ### pyx/pyxref1.trim: function 147 -/
noncomputable def Zao.l1.once (k : Nat) (x : List Int) : Option ((List Int) ⊕ (List Int)) := match x with | x1 => ((cond (decide ((List.length x1 : Int) > 0)) (cond (inb (IntKind.wrap .i64 ((List.length x1 : Int) - 1)) (List.length x1)) (some (x1, (List.getD x1 (Int.toNat (IntKind.wrap .i64 ((List.length x1 : Int) - 1))) 0) == 0)) none) (some (x1, false))) : Option (List Int × Bool)).bind fun y4 => (cond (y4.2) (cond (inS 0 (IntKind.wrap .i64 ((List.length y4.1 : Int) - 1)) (List.length y4.1)) (some (.inl (List.take (Int.toNat (IntKind.wrap .i64 ((List.length y4.1 : Int) - 1))) y4.1))) none) (some (.inr y4.1)))
noncomputable def Zao.f (k : Nat) (a0 : List Int) : Option (List Int) := (iter (Zao.l1.once k) k a0).bind fun y6 => (some y6)
noncomputable def Zao.i : Lay U (List Int) := (pcOne 0 (tAt (vRow DD C.i64))).lay (fun _ => by kernel_rfl)
noncomputable def Zao.r : Lay U (List Int) := (pcOne 0 (tAt (vRow DD C.i64))).lay (fun _ => by kernel_rfl)
noncomputable def Zao.D (k : Nat) : FDen U := fdn Zao.i Zao.r Tryz.f147.ntmps [] true (fun x => Zao.f k (x)) (fun _ _ => rfl)
noncomputable def Zao.l1.i : Lay U (List Int) := (lay [(0, sAt (vRow DD C.i64))] [] (fun _ => by kernel_rfl))
noncomputable def Zao.l1.o : OLay U (List Int) := oExit 0 (lay [(0, sAt (vRow DD C.i64))] [] (fun _ => by kernel_rfl))
noncomputable def Zao.j1000 : Jk U := ⟨(List Int × Bool), oNorm (lay [(0, sAt (vRow DD C.i64)), (14, sAt vBool)] [] (fun _ => by kernel_rfl))⟩
noncomputable def Zao.E (k : Nat) : Env U := mkE Tryz.f147 [] [(1000, Zao.j1000)] [(1, ldn Zao.l1.i Zao.l1.o (iter (Zao.l1.once k) k))] [] n0 n0 [] false n00 nl0 []
theorem Zao.l1.eq (k : Nat) (x : List Int) : evC (Zao.E k) (loopAt Tryz.f147 1) (Zao.l1.i.put x) (headK Zao.l1.i.un Zao.l1.o.re) = Zao.l1.once k x := by kernel_rfl
theorem Zao.l1.sound (k : Nat) : LSound (Zao.E k) Tryz.f147.ntmps Tryz.f147 (loopAt Tryz.f147 1) (ldn Zao.l1.i Zao.l1.o (iter (Zao.l1.once k) k)) :=
  loopP (Zbq _ _ _ _ _ _ _ _ _ _ _ _) mixed rfl (by kernel_rfl) (Zan (l := []) (by kernel_rfl) Zaa) Zao.l1.i Zao.l1.o (Zao.l1.once k) k (Zao.l1.eq k)
theorem Zao.eq (k : Nat) (x : List Int) : runF (Zao.E k) (codeOf Tryz.f147) (Zao.i.put x) Zao.r.un = Zao.f k (x) := by kernel_rfl
theorem Zao.sound (k : Nat) : Sound Tryz.prog DD 147 (Zao.D k) :=
  funP (E := Zao.E k) (fn := Tryz.f147) (c := codeOf Tryz.f147) (Zbq _ _ _ _ _ _ _ _ _ _ _ _) mixed rfl Tryz.func147 (by kernel_rfl) (by kernel_rfl) (Zan (l := [loopAt Tryz.f147 1]) (by kernel_rfl) (Zdj (key := 1) (by kernel_rfl) rfl (Zao.l1.sound k) Zaa)) Zao.i Zao.r [] true (fun x => Zao.f k (x)) (fun _ _ => rfl) (by kernel_rfl) (Zao.eq k)
noncomputable def Zao.pk (k : Nat) : Pk Tryz.prog DD := ⟨147, Zao.D k, Zao.sound k, Zal Tryz.func147 (by kernel_rfl) (by kernel_rfl)⟩
/-! ### pyx/pyxref1.AddNat: function 105 -/
noncomputable def Zag.l4.once (k : Nat) (x : T0c) : Option (T0c ⊕ (List Int)) := match x with | (x1, x2, x3, x4, x5) => ((cond (decide (x5 < (List.length x1 : Int))) (some (x1, x2, x3, x4, x5, true)) (cond (decide (x5 < (List.length x2 : Int))) (some (x1, x2, x3, x4, x5, true)) (some (x1, x2, x3, x4, x5, decide (x4 > 0))))) : Option (List Int × List Int × List Int × Int × Int × Bool)).bind fun y12 => (cond (y12.2.2.2.2.2) ((Zby.f k y12.1 y12.2.2.2.2.1).bind fun t13 => ((Zby.f k y12.2.1 y12.2.2.2.2.1).bind fun t14 => (cond (okLen (List.length y12.2.2.1 + List.length [Int.tmod (IntKind.wrap .i64 ((IntKind.wrap .i64 (t13 + t14)) + y12.2.2.2.1)) 10]) 8) (some (.inl (y12.1, y12.2.1, y12.2.2.1 ++ [Int.tmod (IntKind.wrap .i64 ((IntKind.wrap .i64 (t13 + t14)) + y12.2.2.2.1)) 10], IntKind.wrap .i64 (Int.tdiv (IntKind.wrap .i64 ((IntKind.wrap .i64 (t13 + t14)) + y12.2.2.2.1)) 10), IntKind.wrap .i64 (y12.2.2.2.2.1 + 1)))) none))) (some (.inr y12.2.2.1)))
noncomputable def Zag.f (k : Nat) (a0 : List Int) (a1 : List Int) : Option (List Int) := (iter (Zag.l4.once k) k (a0, a1, ([] : List Int), 0, 0)).bind fun y16 => ((Zao.f k y16).bind fun t17 => (some t17))
noncomputable def Zag.i : Lay U (List Int × List Int) := (pcAnd (pcOne 0 (tAt (vRow DD C.i64))) (pcOne 1 (tAt (vRow DD C.i64)))).lay (fun _ => by kernel_rfl)
noncomputable def Zag.r : Lay U (List Int) := (pcOne 0 (tAt (vRow DD C.i64))).lay (fun _ => by kernel_rfl)
noncomputable def Zag.D (k : Nat) : FDen U := fdn Zag.i Zag.r Tryz.f105.ntmps [] true (fun x => Zag.f k (x.1) (x.2)) (fun _ _ => rfl)
noncomputable def Zag.l4.i : Lay U T0c := (lay [(0, sAt (vRow DD C.i64)), (1, sAt (vRow DD C.i64)), (5, sAt (vTip DD 1004005 C.i64 1)), (6, sAt (vInt .i64)), (7, sAt (vInt .i64))] [] (fun _ => by kernel_rfl))
noncomputable def Zag.l4.o : OLay U (List Int) := oExit 0 (lay [(5, sAt (vTip DD 1004005 C.i64 1))] [] (fun _ => by kernel_rfl))
noncomputable def Zag.j4000 : Jk U := ⟨(List Int × List Int × List Int × Int × Int × Bool), oNorm (lay [(0, sAt (vRow DD C.i64)), (1, sAt (vRow DD C.i64)), (5, sAt (vTip DD 1005000005 C.i64 1)), (6, sAt (vInt .i64)), (7, sAt (vInt .i64)), (22, sAt vBool)] [] (fun _ => by kernel_rfl))⟩
noncomputable def Zag.E (k : Nat) : Env U := mkE Tryz.f105 [Zby.pk k, Zao.pk k] [(4000, Zag.j4000)] [(4, ldn Zag.l4.i Zag.l4.o (iter (Zag.l4.once k) k))] [] n0 n0 [] false n00 nl0 []
theorem Zag.l4.eq (k : Nat) (x : T0c) : evC (Zag.E k) (loopAt Tryz.f105 4) (Zag.l4.i.put x) (headK Zag.l4.i.un Zag.l4.o.re) = Zag.l4.once k x := by kernel_rfl
theorem Zag.l4.sound (k : Nat) : LSound (Zag.E k) Tryz.f105.ntmps Tryz.f105 (loopAt Tryz.f105 4) (ldn Zag.l4.i Zag.l4.o (iter (Zag.l4.once k) k)) :=
  loopP (Zbq _ _ _ _ _ _ _ _ _ _ _ _) mixed rfl (by kernel_rfl) (Zan (l := []) (by kernel_rfl) Zaa) Zag.l4.i Zag.l4.o (Zag.l4.once k) k (Zag.l4.eq k)
theorem Zag.eq (k : Nat) (x : (List Int × List Int)) : runF (Zag.E k) (codeOf Tryz.f105) (Zag.i.put x) Zag.r.un = Zag.f k (x.1) (x.2) := by kernel_rfl
theorem Zag.sound (k : Nat) : Sound Tryz.prog DD 105 (Zag.D k) :=
  funP (E := Zag.E k) (fn := Tryz.f105) (c := codeOf Tryz.f105) (Zbq _ _ _ _ _ _ _ _ _ _ _ _) mixed rfl Tryz.func105 (by kernel_rfl) (by kernel_rfl) (Zan (l := [loopAt Tryz.f105 4]) (by kernel_rfl) (Zdj (key := 4) (by kernel_rfl) rfl (Zag.l4.sound k) Zaa)) Zag.i Zag.r [] true (fun x => Zag.f k (x.1) (x.2)) (fun _ _ => rfl) (by kernel_rfl) (Zag.eq k)
noncomputable def Zag.pk (k : Nat) : Pk Tryz.prog DD := ⟨105, Zag.D k, Zag.sound k, Zal Tryz.func105 (by kernel_rfl) (by kernel_rfl)⟩
/-! ### pyx/pyxref1.radix: function 153 -/
noncomputable def Zcg.f (k : Nat)  : Option (List Int) := (Zap.f k 18446744073709551615).bind fun t1 => ((Zag.f k t1 [1]).bind fun t2 => (some t2))
noncomputable def Zcg.i : Lay U Unit := (pcUnit).lay (fun _ => by kernel_rfl)
noncomputable def Zcg.r : Lay U (List Int) := (pcOne 0 (tAt (vRow DD C.i64))).lay (fun _ => by kernel_rfl)
noncomputable def Zcg.D (k : Nat) : FDen U := fdn Zcg.i Zcg.r Tryz.f153.ntmps [] true (fun x => Zcg.f k ) (fun _ _ => rfl)
noncomputable def Zcg.E (k : Nat) : Env U := mkE Tryz.f153 [Zap.pk k, Zag.pk k] [] [] [] n0 n0 [] false n00 nl0 []
theorem Zcg.eq (k : Nat) (x : Unit) : runF (Zcg.E k) (codeOf Tryz.f153) (Zcg.i.put x) Zcg.r.un = Zcg.f k  := by kernel_rfl
theorem Zcg.sound (k : Nat) : Sound Tryz.prog DD 153 (Zcg.D k) :=
  funP (E := Zcg.E k) (fn := Tryz.f153) (c := codeOf Tryz.f153) (Zbq _ _ _ _ _ _ _ _ _ _ _ _) mixed rfl Tryz.func153 (by kernel_rfl) (by kernel_rfl) (Zan (l := []) (by kernel_rfl) Zaa) Zcg.i Zcg.r [] true (fun x => Zcg.f k ) (fun _ _ => rfl) (by kernel_rfl) (Zcg.eq k)
noncomputable def Zcg.pk (k : Nat) : Pk Tryz.prog DD := ⟨153, Zcg.D k, Zcg.sound k, Zal Tryz.func153 (by kernel_rfl) (by kernel_rfl)⟩
/-! ### pyx/pyxref1.MulNat: function 139 -/
noncomputable def Zt.l7.once (k : Nat) (x : T0b) : Option (T0b ⊕ ((List Int × List Int × Int × List Int))) := match x with | (x5, x6, x8, x9, x10, x7) => ((cond (decide (x10 < (List.length x6 : Int))) (some (x5, x6, x8, x9, x10, true, x7)) (some (x5, x6, x8, x9, x10, decide (x9 > 0), x7))) : Option T0a).bind fun y18 => (cond (y18.2.2.2.2.2.1) (cond (inb (IntKind.wrap .i64 (y18.2.2.1 + y18.2.2.2.2.1)) (List.length y18.2.2.2.2.2.2)) (cond (Nat.blt (Int.toNat (IntKind.wrap .i64 (y18.2.2.1 + y18.2.2.2.2.1))) (List.length y18.2.2.2.2.2.2)) (cond (inb y18.2.2.1 (List.length y18.1)) ((Zby.f k y18.2.1 y18.2.2.2.2.1).bind fun t19 => (cond (inb (IntKind.wrap .i64 (y18.2.2.1 + y18.2.2.2.2.1)) (List.length y18.2.2.2.2.2.2)) (cond (Nat.blt (Int.toNat (IntKind.wrap .i64 (y18.2.2.1 + y18.2.2.2.2.1))) (List.length y18.2.2.2.2.2.2)) (some (.inl (y18.1, y18.2.1, y18.2.2.1, IntKind.wrap .i64 (Int.tdiv (IntKind.wrap .i64 ((IntKind.wrap .i64 ((List.getD y18.2.2.2.2.2.2 (Int.toNat (IntKind.wrap .i64 (y18.2.2.1 + y18.2.2.2.2.1))) 0) + (IntKind.wrap .i64 ((List.getD y18.1 (Int.toNat y18.2.2.1) 0) * t19)))) + y18.2.2.2.1)) 10), IntKind.wrap .i64 (y18.2.2.2.2.1 + 1), List.set y18.2.2.2.2.2.2 (Int.toNat (IntKind.wrap .i64 (y18.2.2.1 + y18.2.2.2.2.1))) (Int.tmod (IntKind.wrap .i64 ((IntKind.wrap .i64 ((List.getD y18.2.2.2.2.2.2 (Int.toNat (IntKind.wrap .i64 (y18.2.2.1 + y18.2.2.2.2.1))) 0) + (IntKind.wrap .i64 ((List.getD y18.1 (Int.toNat y18.2.2.1) 0) * t19)))) + y18.2.2.2.1)) 10)))) none) none)) none) none) none) (some (.inr (y18.1, y18.2.1, y18.2.2.1, y18.2.2.2.2.2.2))))
noncomputable def Zt.l3.once (k : Nat) (x : (List Int × List Int × Int × List Int)) : Option ((List Int × List Int × Int × List Int) ⊕ (List Int)) := match x with | (x1, x2, x4, x3) => cond (decide (x4 < (List.length x1 : Int))) ((iter (Zt.l7.once k) k (x1, x2, x4, 0, 0, x3)).bind fun y24 => (some (.inl (y24.1, y24.2.1, IntKind.wrap .i64 (y24.2.2.1 + 1), y24.2.2.2)))) (some (.inr x3))
noncomputable def Zt.f (k : Nat) (a0 : List Int) (a1 : List Int) : Option (List Int) := cond ((decide (0 ≤ IntKind.wrap .i64 ((IntKind.wrap .i64 ((List.length a0 : Int) + (List.length a1 : Int))) + 1)) && decide (IntKind.wrap .i64 ((IntKind.wrap .i64 ((List.length a0 : Int) + (List.length a1 : Int))) + 1) = IntKind.wrap .i64 ((IntKind.wrap .i64 ((List.length a0 : Int) + (List.length a1 : Int))) + 1))) && decide ((IntKind.wrap .i64 ((IntKind.wrap .i64 ((List.length a0 : Int) + (List.length a1 : Int))) + 1)) * 8 ≤ 140737488355328)) ((iter (Zt.l3.once k) k (a0, a1, 0, List.replicate (Int.toNat (IntKind.wrap .i64 ((IntKind.wrap .i64 ((List.length a0 : Int) + (List.length a1 : Int))) + 1))) (0 : Int))).bind fun y26 => ((Zao.f k y26).bind fun t27 => (some t27))) none
noncomputable def Zt.i : Lay U (List Int × List Int) := (pcAnd (pcOne 0 (tAt (vRow DD C.i64))) (pcOne 1 (tAt (vRow DD C.i64)))).lay (fun _ => by kernel_rfl)
noncomputable def Zt.r : Lay U (List Int) := (pcOne 0 (tAt (vRow DD C.i64))).lay (fun _ => by kernel_rfl)
noncomputable def Zt.D (k : Nat) : FDen U := fdn Zt.i Zt.r Tryz.f139.ntmps [] true (fun x => Zt.f k (x.1) (x.2)) (fun _ _ => rfl)
noncomputable def Zt.l7.i : Lay U T0b := ((pcIso (skPc [(0, sAt (vRow DD C.i64)), (1, sAt (vRow DD C.i64)), (5, sAt (vVec DD 1007005 C.i64)), (6, sAt (vInt .i64)), (7, sAt (vInt .i64)), (8, sAt (vInt .i64))] []) (fun x => ((x.1, x.2.1, x.2.2.2.1, x.2.2.2.2.1, x.2.2.2.2.2, x.2.2.1) : T0b)) (fun x => (x.1, x.2.1, x.2.2.2.2.2, x.2.2.1, x.2.2.2.1, x.2.2.2.2.1)) (fun _ => rfl)).lay (fun _ => by kernel_rfl))
noncomputable def Zt.l7.o : OLay U ((List Int × List Int × Int × List Int)) := oExit 2 ((pcIso (skPc [(0, sAt (vRow DD C.i64)), (1, sAt (vRow DD C.i64)), (5, sAt (vVec DD 1007005 C.i64)), (6, sAt (vInt .i64))] []) (fun x => ((x.1, x.2.1, x.2.2.2, x.2.2.1) : (List Int × List Int × Int × List Int))) (fun x => (x.1, x.2.1, x.2.2.2, x.2.2.1)) (fun _ => rfl)).lay (fun _ => by kernel_rfl))
noncomputable def Zt.l3.i : Lay U (List Int × List Int × Int × List Int) := ((pcIso (skPc [(0, sAt (vRow DD C.i64)), (1, sAt (vRow DD C.i64)), (5, sAt (vVec DD 1003005 C.i64)), (6, sAt (vInt .i64))] []) (fun x => ((x.1, x.2.1, x.2.2.2, x.2.2.1) : (List Int × List Int × Int × List Int))) (fun x => (x.1, x.2.1, x.2.2.2, x.2.2.1)) (fun _ => rfl)).lay (fun _ => by kernel_rfl))
noncomputable def Zt.l3.o : OLay U (List Int) := oExit 0 (lay [(5, sAt (vVec DD 1003005 C.i64))] [] (fun _ => by kernel_rfl))
noncomputable def Zt.j7000 : Jk U := ⟨T0a, oNorm ((pcIso (skPc [(0, sAt (vRow DD C.i64)), (1, sAt (vRow DD C.i64)), (5, sAt (vVec DD 1008000005 C.i64)), (6, sAt (vInt .i64)), (7, sAt (vInt .i64)), (8, sAt (vInt .i64)), (30, sAt vBool)] []) (fun x => ((x.1, x.2.1, x.2.2.2.1, x.2.2.2.2.1, x.2.2.2.2.2.1, x.2.2.2.2.2.2, x.2.2.1) : T0a)) (fun x => (x.1, x.2.1, x.2.2.2.2.2.2, x.2.2.1, x.2.2.2.1, x.2.2.2.2.1, x.2.2.2.2.2.1)) (fun _ => rfl)).lay (fun _ => by kernel_rfl))⟩
noncomputable def Zt.E (k : Nat) : Env U := mkE Tryz.f139 [Zby.pk k, Zao.pk k] [(7000, Zt.j7000)] [(7, ldn Zt.l7.i Zt.l7.o (iter (Zt.l7.once k) k)), (3, ldn Zt.l3.i Zt.l3.o (iter (Zt.l3.once k) k))] [] n0 (fun d => Nat.beq d 16) [] false n00 nl0 []
theorem Zt.l7.eq (k : Nat) (x : T0b) : evC (Zt.E k) (loopAt Tryz.f139 7) (Zt.l7.i.put x) (headK Zt.l7.i.un Zt.l7.o.re) = Zt.l7.once k x := by kernel_rfl
theorem Zt.l7.sound (k : Nat) : LSound (Zt.E k) Tryz.f139.ntmps Tryz.f139 (loopAt Tryz.f139 7) (ldn Zt.l7.i Zt.l7.o (iter (Zt.l7.once k) k)) :=
  loopP (Zbq _ _ _ _ _ _ _ _ _ _ _ _) mixed rfl (by kernel_rfl) (Zan (l := []) (by kernel_rfl) Zaa) Zt.l7.i Zt.l7.o (Zt.l7.once k) k (Zt.l7.eq k)
theorem Zt.l3.eq (k : Nat) (x : (List Int × List Int × Int × List Int)) : evC (Zt.E k) (loopAt Tryz.f139 3) (Zt.l3.i.put x) (headK Zt.l3.i.un Zt.l3.o.re) = Zt.l3.once k x := by kernel_rfl
theorem Zt.l3.sound (k : Nat) : LSound (Zt.E k) Tryz.f139.ntmps Tryz.f139 (loopAt Tryz.f139 3) (ldn Zt.l3.i Zt.l3.o (iter (Zt.l3.once k) k)) :=
  loopP (Zbq _ _ _ _ _ _ _ _ _ _ _ _) mixed rfl (by kernel_rfl) (Zan (l := [loopAt Tryz.f139 7]) (by kernel_rfl) (Zdj (key := 7) (by kernel_rfl) rfl (Zt.l7.sound k) Zaa)) Zt.l3.i Zt.l3.o (Zt.l3.once k) k (Zt.l3.eq k)
theorem Zt.eq (k : Nat) (x : (List Int × List Int)) : runF (Zt.E k) (codeOf Tryz.f139) (Zt.i.put x) Zt.r.un = Zt.f k (x.1) (x.2) := by kernel_rfl
theorem Zt.sound (k : Nat) : Sound Tryz.prog DD 139 (Zt.D k) :=
  funP (E := Zt.E k) (fn := Tryz.f139) (c := codeOf Tryz.f139) (Zbq _ _ _ _ _ _ _ _ _ _ _ _) mixed rfl Tryz.func139 (by kernel_rfl) (by kernel_rfl) (Zan (l := [loopAt Tryz.f139 3]) (by kernel_rfl) (Zdj (key := 3) (by kernel_rfl) rfl (Zt.l3.sound k) Zaa)) Zt.i Zt.r [] true (fun x => Zt.f k (x.1) (x.2)) (fun _ _ => rfl) (by kernel_rfl) (Zt.eq k)
noncomputable def Zt.pk (k : Nat) : Pk Tryz.prog DD := ⟨139, Zt.D k, Zt.sound k, Zal Tryz.func139 (by kernel_rfl) (by kernel_rfl)⟩
/-! ### pyx/pyxref1.Nat2: function 140 -/
noncomputable def Zcr.f (k : Nat) (a0 : (Int × Int)) : Option (List Int) := (Zap.f k a0.2).bind fun t1 => ((Zcg.f k).bind fun t2 => ((Zt.f k t1 t2).bind fun t3 => ((Zap.f k a0.1).bind fun t4 => ((Zag.f k t3 t4).bind fun t5 => (some t5)))))
noncomputable def Zcr.i : Lay U (Int × Int) := (pcOne 0 (tAt (vCd (Cd.pair (Cd.int .u64) (Cd.int .u64))))).lay (fun _ => by kernel_rfl)
noncomputable def Zcr.r : Lay U (List Int) := (pcOne 0 (tAt (vRow DD C.i64))).lay (fun _ => by kernel_rfl)
noncomputable def Zcr.D (k : Nat) : FDen U := fdn Zcr.i Zcr.r Tryz.f140.ntmps [] true (fun x => Zcr.f k (x)) (fun _ _ => rfl)
noncomputable def Zcr.E (k : Nat) : Env U := mkE Tryz.f140 [Zap.pk k, Zcg.pk k, Zt.pk k, Zag.pk k] [] [] [] n0 n0 [] false n00 nl0 []
theorem Zcr.eq (k : Nat) (x : (Int × Int)) : runF (Zcr.E k) (codeOf Tryz.f140) (Zcr.i.put x) Zcr.r.un = Zcr.f k (x) := by kernel_rfl
theorem Zcr.sound (k : Nat) : Sound Tryz.prog DD 140 (Zcr.D k) :=
  funP (E := Zcr.E k) (fn := Tryz.f140) (c := codeOf Tryz.f140) (Zbq _ _ _ _ _ _ _ _ _ _ _ _) mixed rfl Tryz.func140 (by kernel_rfl) (by kernel_rfl) (Zan (l := []) (by kernel_rfl) Zaa) Zcr.i Zcr.r [] true (fun x => Zcr.f k (x)) (fun _ _ => rfl) (by kernel_rfl) (Zcr.eq k)
noncomputable def Zcr.pk (k : Nat) : Pk Tryz.prog DD := ⟨140, Zcr.D k, Zcr.sound k, Zal Tryz.func140 (by kernel_rfl) (by kernel_rfl)⟩
end
end Go.Proofs.YtbchcjlllddlpaaGreat
