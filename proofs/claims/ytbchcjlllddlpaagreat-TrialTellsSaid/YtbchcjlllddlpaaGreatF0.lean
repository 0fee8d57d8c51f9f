import Derived.Test.YtbchcjlllddlpaaGreatSkG
/-! Functions, told; their equations with the evaluator; that they are sound. Written by gen.py. -/
namespace Go.Proofs.YtbchcjlllddlpaaGreat
open Go Go.Ev
noncomputable section
set_option linter.unusedVariables false
set_option linter.unusedSimpArgs false
set_option maxRecDepth 100000
abbrev T0c := (List Int × List Int × List Int × Int × Int)
abbrev T0b := (List Int × List Int × Int × Int × Int × List Int)
abbrev T0a := (List Int × List Int × Int × Int × Int × Bool × List Int)
/-! ### pyx/pyxhand.Pick: function 10 -/
noncomputable def Zas.f (k : Nat) (a0 : Int) (a1 : Int) : Option Int := cond (a1 == 0) none (cond (decide ((Int.tmod a0 a1) < 0)) (some (IntKind.wrap .i64 ((Int.tmod a0 a1) + a1))) (some (Int.tmod a0 a1)))
noncomputable def Zas.i : Lay U (Int × Int) := (pcAnd (pcOne 0 (tAt (vInt .i64))) (pcOne 1 (tAt (vInt .i64)))).lay (fun _ => by kernel_rfl)
noncomputable def Zas.r : Lay U Int := (pcOne 0 (tAt (vInt .i64))).lay (fun _ => by kernel_rfl)
noncomputable def Zas.D (k : Nat) : FDen U := fdn Zas.i Zas.r Tryz.f10.ntmps [] true (fun x => Zas.f k (x.1) (x.2)) (fun _ _ => rfl)
noncomputable def Zas.E (k : Nat) : Env U := mkE Tryz.f10 [] [] [] [] n0 n0 [] false n00 nl0 []
theorem Zas.eq (k : Nat) (x : (Int × Int)) : runF (Zas.E k) (codeOf Tryz.f10) (Zas.i.put x) Zas.r.un = Zas.f k (x.1) (x.2) := by kernel_rfl
theorem Zas.sound (k : Nat) : Sound Tryz.prog DD 10 (Zas.D k) :=
  funP (E := Zas.E k) (fn := Tryz.f10) (c := codeOf Tryz.f10) (Zbq _ _ _ _ _ _ _ _ _ _ _ _) mixed rfl Tryz.func10 (by kernel_rfl) (by kernel_rfl) (Zap (l := []) (by kernel_rfl) Zah) Zas.i Zas.r [] true (fun x => Zas.f k (x.1) (x.2)) (fun _ _ => rfl) (by kernel_rfl) (Zas.eq k)
noncomputable def Zas.pk (k : Nat) : Pk Tryz.prog DD := ⟨10, Zas.D k, Zas.sound k, Zaq Tryz.func10 (by kernel_rfl) (by kernel_rfl)⟩
/-! ### pyx/ledger.New: function 12 -/
noncomputable def Zea.f (k : Nat) (a0 : Int) : Option Zi := some (⟨(if (if 4 < a0 then 4 else a0) > 0 then (if 4 < a0 then 4 else a0) else 0), [], (⟨[false, false, false, false, false, false, false, false, false, false, false, false], [0, 0, 0, 0, 0, 0, 0, 0, 0, 0, 0, 0]⟩ : Ze)⟩ : Zi)
noncomputable def Zea.i : Lay U Int := (pcOne 0 (tAt (vInt .i64))).lay (fun _ => by kernel_rfl)
noncomputable def Zea.r : Lay U Zi := (pcOne 0 (Zcg 7 6000000000000)).lay (fun _ => by kernel_rfl)
noncomputable def Zea.D (k : Nat) : FDen U := fdn Zea.i Zea.r Tryz.f12.ntmps [] false (fun x => Zea.f k (x)) (fun h => by cases h)
noncomputable def Zea.E (k : Nat) : Env U := mkE Tryz.f12 [] [] [] [] n0 n0 [] false n00 nl0 []
theorem Zea.eq (k : Nat) (x : Int) : runF (Zea.E k) (codeOf Tryz.f12) (Zea.i.put x) Zea.r.un = Zea.f k (x) := by kernel_rfl
theorem Zea.sound (k : Nat) : Sound Tryz.prog DD 12 (Zea.D k) :=
  funP (E := Zea.E k) (fn := Tryz.f12) (c := codeOf Tryz.f12) (Zbq _ _ _ _ _ _ _ _ _ _ _ _) mixed rfl Tryz.func12 (by kernel_rfl) (by kernel_rfl) (Zap (l := []) (by kernel_rfl) Zah) Zea.i Zea.r [] false (fun x => Zea.f k (x)) (fun h => by cases h) (by kernel_rfl) (Zea.eq k)
noncomputable def Zea.pk (k : Nat) : Pk Tryz.prog DD := ⟨12, Zea.D k, Zea.sound k, Zaq Tryz.func12 (by kernel_rfl) (by kernel_rfl)⟩
/-! ### pyx/pyxref1.Within: function 73 -/
noncomputable def Zca.f (k : Nat) (a0 : Int) (a1 : Int) (a2 : Int) : Option Int := some (if (if a0 < a2 then a0 else a2) > a1 then (if a0 < a2 then a0 else a2) else a1)
noncomputable def Zca.i : Lay U (Int × Int × Int) := (pcAnd (pcOne 0 (tAt (vInt .i64))) (pcAnd (pcOne 1 (tAt (vInt .i64))) (pcOne 2 (tAt (vInt .i64))))).lay (fun _ => by kernel_rfl)
noncomputable def Zca.r : Lay U Int := (pcOne 0 (tAt (vInt .i64))).lay (fun _ => by kernel_rfl)
noncomputable def Zca.D (k : Nat) : FDen U := fdn Zca.i Zca.r Tryz.f73.ntmps [] true (fun x => Zca.f k (x.1) (x.2.1) (x.2.2)) (fun _ _ => rfl)
noncomputable def Zca.E (k : Nat) : Env U := mkE Tryz.f73 [] [] [] [] n0 n0 [] false n00 nl0 []
theorem Zca.eq (k : Nat) (x : (Int × Int × Int)) : runF (Zca.E k) (codeOf Tryz.f73) (Zca.i.put x) Zca.r.un = Zca.f k (x.1) (x.2.1) (x.2.2) := by kernel_rfl
theorem Zca.sound (k : Nat) : Sound Tryz.prog DD 73 (Zca.D k) :=
  funP (E := Zca.E k) (fn := Tryz.f73) (c := codeOf Tryz.f73) (Zbq _ _ _ _ _ _ _ _ _ _ _ _) mixed rfl Tryz.func73 (by kernel_rfl) (by kernel_rfl) (Zap (l := []) (by kernel_rfl) Zah) Zca.i Zca.r [] true (fun x => Zca.f k (x.1) (x.2.1) (x.2.2)) (fun _ _ => rfl) (by kernel_rfl) (Zca.eq k)
noncomputable def Zca.pk (k : Nat) : Pk Tryz.prog DD := ⟨73, Zca.D k, Zca.sound k, Zaq Tryz.func73 (by kernel_rfl) (by kernel_rfl)⟩
/-! ### pyx/pyxref11.NewBook: function 126 -/
noncomputable def Zcj.f (k : Nat) (a0 : Int) : Option Zr := (Zca.f k a0 0 4).bind fun t1 => (some (⟨t1, [], (⟨[false, false, false, false, false, false, false, false, false, false, false, false], [0, 0, 0, 0, 0, 0, 0, 0, 0, 0, 0, 0]⟩ : Zd)⟩ : Zr))
noncomputable def Zcj.i : Lay U Int := (pcOne 0 (tAt (vInt .i64))).lay (fun _ => by kernel_rfl)
noncomputable def Zcj.r : Lay U Zr := (pcOne 0 (Zcq 6 6000000000000)).lay (fun _ => by kernel_rfl)
noncomputable def Zcj.D (k : Nat) : FDen U := fdn Zcj.i Zcj.r Tryz.f126.ntmps [] false (fun x => Zcj.f k (x)) (fun h => by cases h)
noncomputable def Zcj.E (k : Nat) : Env U := mkE Tryz.f126 [Zca.pk k] [] [] [] n0 n0 [] false n00 nl0 []
theorem Zcj.eq (k : Nat) (x : Int) : runF (Zcj.E k) (codeOf Tryz.f126) (Zcj.i.put x) Zcj.r.un = Zcj.f k (x) := by kernel_rfl
theorem Zcj.sound (k : Nat) : Sound Tryz.prog DD 126 (Zcj.D k) :=
  funP (E := Zcj.E k) (fn := Tryz.f126) (c := codeOf Tryz.f126) (Zbq _ _ _ _ _ _ _ _ _ _ _ _) mixed rfl Tryz.func126 (by kernel_rfl) (by kernel_rfl) (Zap (l := []) (by kernel_rfl) Zah) Zcj.i Zcj.r [] false (fun x => Zcj.f k (x)) (fun h => by cases h) (by kernel_rfl) (Zcj.eq k)
noncomputable def Zcj.pk (k : Nat) : Pk Tryz.prog DD := ⟨126, Zcj.D k, Zcj.sound k, Zaq Tryz.func126 (by kernel_rfl) (by kernel_rfl)⟩
/-! ### pyx/pyxref11.is: function 83 -/
noncomputable def Zcn.f (k : Nat) (a0 : Int) : Option Bool := cond (decide (a0 ≥ 0)) (some (decide (a0 < 12))) (some false)
noncomputable def Zcn.i : Lay U Int := (pcOne 0 (tAt (vInt .i64))).lay (fun _ => by kernel_rfl)
noncomputable def Zcn.r : Lay U Bool := (pcOne 0 (tAt vBool)).lay (fun _ => by kernel_rfl)
noncomputable def Zcn.D (k : Nat) : FDen U := fdn Zcn.i Zcn.r Tryz.f83.ntmps [] true (fun x => Zcn.f k (x)) (fun _ _ => rfl)
noncomputable def Zcn.E (k : Nat) : Env U := mkE Tryz.f83 [] [] [] [] n0 n0 [] false n00 nl0 []
theorem Zcn.eq (k : Nat) (x : Int) : runF (Zcn.E k) (codeOf Tryz.f83) (Zcn.i.put x) Zcn.r.un = Zcn.f k (x) := by kernel_rfl
theorem Zcn.sound (k : Nat) : Sound Tryz.prog DD 83 (Zcn.D k) :=
  funP (E := Zcn.E k) (fn := Tryz.f83) (c := codeOf Tryz.f83) (Zbq _ _ _ _ _ _ _ _ _ _ _ _) mixed rfl Tryz.func83 (by kernel_rfl) (by kernel_rfl) (Zap (l := []) (by kernel_rfl) Zah) Zcn.i Zcn.r [] true (fun x => Zcn.f k (x)) (fun _ _ => rfl) (by kernel_rfl) (Zcn.eq k)
noncomputable def Zcn.pk (k : Nat) : Pk Tryz.prog DD := ⟨83, Zcn.D k, Zcn.sound k, Zaq Tryz.func83 (by kernel_rfl) (by kernel_rfl)⟩
/-! ### (pyx/pyxref11.Table).Close: function 159 -/
noncomputable def Zbg.f (k : Nat) (a0 : Zd) (a1 : Int) : Option (Zd × Int) := (((Zcn.f k a1).bind fun t1 => (cond (!t1) (some (a1, true, (⟨pack 12 false a0.Zk, pack 12 0 a0.Zh⟩ : Zd), (⟨[false, false, false, false, false, false, false, false, false, false, false, false], [0, 0, 0, 0, 0, 0, 0, 0, 0, 0, 0, 0]⟩ : Zd))) (cond (inb a1 12) (cond (Nat.blt (Int.toNat a1) 12) (cond (List.getD (pack 12 false a0.Zk) (Int.toNat a1) false) (some (a1, true, (⟨pack 12 false a0.Zk, pack 12 0 a0.Zh⟩ : Zd), (⟨[false, false, false, false, false, false, false, false, false, false, false, false], [0, 0, 0, 0, 0, 0, 0, 0, 0, 0, 0, 0]⟩ : Zd))) (cond (decide (a1 > 0)) (cond (inb (IntKind.wrap .i64 (a1 - 1)) 12) (cond (Nat.blt (Int.toNat (IntKind.wrap .i64 (a1 - 1))) 12) (some (a1, !(List.getD (pack 12 false a0.Zk) (Int.toNat (IntKind.wrap .i64 (a1 - 1))) false), (⟨pack 12 false a0.Zk, pack 12 0 a0.Zh⟩ : Zd), (⟨[false, false, false, false, false, false, false, false, false, false, false, false], [0, 0, 0, 0, 0, 0, 0, 0, 0, 0, 0, 0]⟩ : Zd))) none) none) (some (a1, false, (⟨pack 12 false a0.Zk, pack 12 0 a0.Zh⟩ : Zd), (⟨[false, false, false, false, false, false, false, false, false, false, false, false], [0, 0, 0, 0, 0, 0, 0, 0, 0, 0, 0, 0]⟩ : Zd))))) none) none))) : Option (Int × Bool × Zd × Zd)).bind fun y6 => (cond (y6.2.1) (some ((⟨[false, false, false, false, false, false, false, false, false, false, false, false], [0, 0, 0, 0, 0, 0, 0, 0, 0, 0, 0, 0]⟩ : Zd), 8)) (cond (inb y6.1 12) (cond (Nat.blt (Int.toNat y6.1) 12) (cond (inb y6.1 12) (cond (Nat.blt (Int.toNat y6.1) 12) (cond (inb y6.1 12) (cond (Nat.blt (Int.toNat y6.1) 12) (some ((⟨putAll (Int.toNat y6.1) true 0 (pack 12 false y6.2.2.1.Zk), putAll (Int.toNat y6.1) (IntKind.wrap .i64 ((List.getD (pack 12 0 y6.2.2.1.Zh) (Int.toNat y6.1) 0) + 1)) 0 (pack 12 0 y6.2.2.1.Zh)⟩ : Zd), 0)) none) none) none) none) none) none))
noncomputable def Zbg.i : Lay U (Zd × Int) := (pcAnd (pcOne 0 (tAt (vCd Zaw))) (pcOne 1 (tAt (vInt .i64)))).lay (fun _ => by kernel_rfl)
noncomputable def Zbg.r : Lay U (Zd × Int) := (pcTup 0 (tqCons (tAt (vCd Zaw)) (tqOne (tAt (vInt .i64))))).lay (fun _ => by kernel_rfl)
noncomputable def Zbg.D (k : Nat) : FDen U := fdn Zbg.i Zbg.r Tryz.f159.ntmps [] true (fun x => Zbg.f k (x.1) (x.2)) (fun _ _ => rfl)
noncomputable def Zbg.j1000 : Jk U := ⟨(Int × Bool × Zd × Zd), oNorm (lay [(2, sPtr 2 0), (4, sPtr 4 0), (1, sAt (vInt .i64)), (26, sAt vBool)] [bCd 2 Zaw, bCd 4 Zaw] (fun _ => by kernel_rfl))⟩
noncomputable def Zbg.E (k : Nat) : Env U := mkE Tryz.f159 [Zcn.pk k] [(1000, Zbg.j1000)] [] [] (fun t => Nat.beq t 68 || Nat.beq t 69) n0 [] false n00 nl0 []
theorem Zbg.eq (k : Nat) (x : (Zd × Int)) : runF (Zbg.E k) (codeOf Tryz.f159) (Zbg.i.put x) Zbg.r.un = Zbg.f k (x.1) (x.2) := by kernel_rfl
theorem Zbg.sound (k : Nat) : Sound Tryz.prog DD 159 (Zbg.D k) :=
  funP (E := Zbg.E k) (fn := Tryz.f159) (c := codeOf Tryz.f159) (Zbq _ _ _ _ _ _ _ _ _ _ _ _) mixed rfl Tryz.func159 (by kernel_rfl) (by kernel_rfl) (Zap (l := []) (by kernel_rfl) Zah) Zbg.i Zbg.r [] true (fun x => Zbg.f k (x.1) (x.2)) (fun _ _ => rfl) (by kernel_rfl) (Zbg.eq k)
noncomputable def Zbg.pk (k : Nat) : Pk Tryz.prog DD := ⟨159, Zbg.D k, Zbg.sound k, Zaq Tryz.func159 (by kernel_rfl) (by kernel_rfl)⟩
/-! ### (*pyx/pyxref11.Book).Close: function 127 -/
noncomputable def Zbo.f (k : Nat) (a0 : Zr) (a1 : Int) : Option (Int × Zr) := (Zbg.f k (⟨pack 12 false a0.f_T.Zk, pack 12 0 a0.f_T.Zh⟩ : Zd) a1).bind fun t1 => (cond (t1.2 == 0) (some (t1.2, (⟨a0.Zo, a0.f_L, (⟨pack 12 false t1.1.Zk, pack 12 0 t1.1.Zh⟩ : Zd)⟩ : Zr))) (some (t1.2, (⟨a0.Zo, a0.f_L, (⟨pack 12 false a0.f_T.Zk, pack 12 0 a0.f_T.Zh⟩ : Zd)⟩ : Zr))))
noncomputable def Zbo.i : Lay U (Zr × Int) := (pcGh 1000000000000000 7000000000000 (pcAnd (pcOne 0 (Zcq 7000000000000 7000000000000)) (pcOne 1 (tAt (vInt .i64))))).lay (fun _ => by kernel_rfl)
noncomputable def Zbo.r : Lay U (Int × Zr) := (pcAnd (pcOne 0 (tAt (vInt .i64))) (pcOne 1000000000000000 (Zcq 7000000000000 7000000000000))).lay (fun _ => by kernel_rfl)
noncomputable def Zbo.D (k : Nat) : FDen U := fdn Zbo.i Zbo.r Tryz.f127.ntmps [0] false (fun x => Zbo.f k (x.1) (x.2)) (fun h => by cases h)
noncomputable def Zbo.E (k : Nat) : Env U := mkE Tryz.f127 [Zbg.pk k] [] [] [] n0 n0 [0] false n00 nl0 []
theorem Zbo.eq (k : Nat) (x : (Zr × Int)) : runF (Zbo.E k) (codeOf Tryz.f127) (Zbo.i.put x) Zbo.r.un = Zbo.f k (x.1) (x.2) := by kernel_rfl
theorem Zbo.sound (k : Nat) : Sound Tryz.prog DD 127 (Zbo.D k) :=
  funP (E := Zbo.E k) (fn := Tryz.f127) (c := codeOf Tryz.f127) (Zbq _ _ _ _ _ _ _ _ _ _ _ _) mixed rfl Tryz.func127 (by kernel_rfl) (by kernel_rfl) (Zap (l := []) (by kernel_rfl) Zah) Zbo.i Zbo.r [0] false (fun x => Zbo.f k (x.1) (x.2)) (fun h => by cases h) (by kernel_rfl) (Zbo.eq k)
noncomputable def Zbo.pk (k : Nat) : Pk Tryz.prog DD := ⟨127, Zbo.D k, Zbo.sound k, Zaq Tryz.func127 (by kernel_rfl) (by kernel_rfl)⟩
/-! ### pyx/pyxref1.Word: function 72 -/
noncomputable def Zay.l2.once (k : Nat) (x : (Int × List Int)) : Option ((Int × List Int) ⊕ (List Int)) := match x with | (x1, x2) => cond (decide (x1 > 0)) (cond (okLen (List.length x2 + List.length [IntKind.wrap .i64 (Int.tmod x1 10)]) 8) (some (.inl (IntKind.wrap .u64 (Int.tdiv x1 10), x2 ++ [IntKind.wrap .i64 (Int.tmod x1 10)]))) none) (some (.inr x2))
noncomputable def Zay.f (k : Nat) (a0 : Int) : Option (List Int) := (iter (Zay.l2.once k) k (a0, ([] : List Int))).bind fun y4 => (some y4)
noncomputable def Zay.i : Lay U Int := (pcOne 0 (tAt (vInt .u64))).lay (fun _ => by kernel_rfl)
noncomputable def Zay.r : Lay U (List Int) := (pcOne 0 (tAt (vRow DD C.i64))).lay (fun _ => by kernel_rfl)
noncomputable def Zay.D (k : Nat) : FDen U := fdn Zay.i Zay.r Tryz.f72.ntmps [] true (fun x => Zay.f k (x)) (fun _ _ => rfl)
noncomputable def Zay.l2.i : Lay U (Int × List Int) := (lay [(0, sAt (vInt .u64)), (3, sAt (vTip DD 1002003 C.i64 1))] [] (fun _ => by kernel_rfl))
noncomputable def Zay.l2.o : OLay U (List Int) := oExit 0 (lay [(3, sAt (vTip DD 1002003 C.i64 1))] [] (fun _ => by kernel_rfl))
noncomputable def Zay.E (k : Nat) : Env U := mkE Tryz.f72 [] [] [(2, ldn Zay.l2.i Zay.l2.o (iter (Zay.l2.once k) k))] [] n0 n0 [] false n00 nl0 []
theorem Zay.l2.eq (k : Nat) (x : (Int × List Int)) : evC (Zay.E k) (loopAt Tryz.f72 2) (Zay.l2.i.put x) (headK Zay.l2.i.un Zay.l2.o.re) = Zay.l2.once k x := by kernel_rfl
theorem Zay.l2.sound (k : Nat) : LSound (Zay.E k) Tryz.f72.ntmps Tryz.f72 (loopAt Tryz.f72 2) (ldn Zay.l2.i Zay.l2.o (iter (Zay.l2.once k) k)) :=
  loopP (Zbq _ _ _ _ _ _ _ _ _ _ _ _) mixed rfl (by kernel_rfl) (Zap (l := []) (by kernel_rfl) Zah) Zay.l2.i Zay.l2.o (Zay.l2.once k) k (Zay.l2.eq k)
theorem Zay.eq (k : Nat) (x : Int) : runF (Zay.E k) (codeOf Tryz.f72) (Zay.i.put x) Zay.r.un = Zay.f k (x) := by kernel_rfl
theorem Zay.sound (k : Nat) : Sound Tryz.prog DD 72 (Zay.D k) :=
  funP (E := Zay.E k) (fn := Tryz.f72) (c := codeOf Tryz.f72) (Zbq _ _ _ _ _ _ _ _ _ _ _ _) mixed rfl Tryz.func72 (by kernel_rfl) (by kernel_rfl) (Zap (l := [loopAt Tryz.f72 2]) (by kernel_rfl) (Zdj (key := 2) (by kernel_rfl) rfl (Zay.l2.sound k) Zah)) Zay.i Zay.r [] true (fun x => Zay.f k (x)) (fun _ _ => rfl) (by kernel_rfl) (Zay.eq k)
noncomputable def Zay.pk (k : Nat) : Pk Tryz.prog DD := ⟨72, Zay.D k, Zay.sound k, Zaq Tryz.func72 (by kernel_rfl) (by kernel_rfl)⟩
/-! ### pyx/pyxref1.digit: function 146 -/
noncomputable def Zci.f (k : Nat) (a0 : List Int) (a1 : Int) : Option Int := cond (decide (a1 < (List.length a0 : Int))) (cond (inb a1 (List.length a0)) (some (List.getD a0 (Int.toNat a1) 0)) none) (some 0)
noncomputable def Zci.i : Lay U (List Int × Int) := (pcAnd (pcOne 0 (tAt (vRow DD C.i64))) (pcOne 1 (tAt (vInt .i64)))).lay (fun _ => by kernel_rfl)
noncomputable def Zci.r : Lay U Int := (pcOne 0 (tAt (vInt .i64))).lay (fun _ => by kernel_rfl)
noncomputable def Zci.D (k : Nat) : FDen U := fdn Zci.i Zci.r Tryz.f146.ntmps [] true (fun x => Zci.f k (x.1) (x.2)) (fun _ _ => rfl)
noncomputable def Zci.E (k : Nat) : Env U := mkE Tryz.f146 [] [] [] [] n0 n0 [] false n00 nl0 []
theorem Zci.eq (k : Nat) (x : (List Int × Int)) : runF (Zci.E k) (codeOf Tryz.f146) (Zci.i.put x) Zci.r.un = Zci.f k (x.1) (x.2) := by kernel_rfl
theorem Zci.sound (k : Nat) : Sound Tryz.prog DD 146 (Zci.D k) :=
  funP (E := Zci.E k) (fn := Tryz.f146) (c := codeOf Tryz.f146) (Zbq _ _ _ _ _ _ _ _ _ _ _ _) mixed rfl Tryz.func146 (by kernel_rfl) (by kernel_rfl) (Zap (l := []) (by kernel_rfl) Zah) Zci.i Zci.r [] true (fun x => Zci.f k (x.1) (x.2)) (fun _ _ => rfl) (by kernel_rfl) (Zci.eq k)
noncomputable def Zci.pk (k : Nat) : Pk Tryz.prog DD := ⟨146, Zci.D k, Zci.sound k, Zaq Tryz.func146 (by kernel_rfl) (by kernel_rfl)⟩
/-! ### pyx/pyxref1.trim: function 147 -/
noncomputable def Zav.l1.once (k : Nat) (x : List Int) : Option ((List Int) ⊕ (List Int)) := match x with | x1 => ((cond (decide ((List.length x1 : Int) > 0)) (cond (inb (IntKind.wrap .i64 ((List.length x1 : Int) - 1)) (List.length x1)) (some (x1, (List.getD x1 (Int.toNat (IntKind.wrap .i64 ((List.length x1 : Int) - 1))) 0) == 0)) none) (some (x1, false))) : Option (List Int × Bool)).bind fun y4 => (cond (y4.2) (cond (inS 0 (IntKind.wrap .i64 ((List.length y4.1 : Int) - 1)) (List.length y4.1)) (some (.inl (List.take (Int.toNat (IntKind.wrap .i64 ((List.length y4.1 : Int) - 1))) y4.1))) none) (some (.inr y4.1)))
noncomputable def Zav.f (k : Nat) (a0 : List Int) : Option (List Int) := (iter (Zav.l1.once k) k a0).bind fun y6 => (some y6)
noncomputable def Zav.i : Lay U (List Int) := (pcOne 0 (tAt (vRow DD C.i64))).lay (fun _ => by kernel_rfl)
noncomputable def Zav.r : Lay U (List Int) := (pcOne 0 (tAt (vRow DD C.i64))).lay (fun _ => by kernel_rfl)
noncomputable def Zav.D (k : Nat) : FDen U := fdn Zav.i Zav.r Tryz.f147.ntmps [] true (fun x => Zav.f k (x)) (fun _ _ => rfl)
noncomputable def Zav.l1.i : Lay U (List Int) := (lay [(0, sAt (vRow DD C.i64))] [] (fun _ => by kernel_rfl))
noncomputable def Zav.l1.o : OLay U (List Int) := oExit 0 (lay [(0, sAt (vRow DD C.i64))] [] (fun _ => by kernel_rfl))
noncomputable def Zav.j1000 : Jk U := ⟨(List Int × Bool), oNorm (lay [(0, sAt (vRow DD C.i64)), (14, sAt vBool)] [] (fun _ => by kernel_rfl))⟩
noncomputable def Zav.E (k : Nat) : Env U := mkE Tryz.f147 [] [(1000, Zav.j1000)] [(1, ldn Zav.l1.i Zav.l1.o (iter (Zav.l1.once k) k))] [] n0 n0 [] false n00 nl0 []
theorem Zav.l1.eq (k : Nat) (x : List Int) : evC (Zav.E k) (loopAt Tryz.f147 1) (Zav.l1.i.put x) (headK Zav.l1.i.un Zav.l1.o.re) = Zav.l1.once k x := by kernel_rfl
theorem Zav.l1.sound (k : Nat) : LSound (Zav.E k) Tryz.f147.ntmps Tryz.f147 (loopAt Tryz.f147 1) (ldn Zav.l1.i Zav.l1.o (iter (Zav.l1.once k) k)) :=
  loopP (Zbq _ _ _ _ _ _ _ _ _ _ _ _) mixed rfl (by kernel_rfl) (Zap (l := []) (by kernel_rfl) Zah) Zav.l1.i Zav.l1.o (Zav.l1.once k) k (Zav.l1.eq k)
theorem Zav.eq (k : Nat) (x : List Int) : runF (Zav.E k) (codeOf Tryz.f147) (Zav.i.put x) Zav.r.un = Zav.f k (x) := by kernel_rfl
theorem Zav.sound (k : Nat) : Sound Tryz.prog DD 147 (Zav.D k) :=
  funP (E := Zav.E k) (fn := Tryz.f147) (c := codeOf Tryz.f147) (Zbq _ _ _ _ _ _ _ _ _ _ _ _) mixed rfl Tryz.func147 (by kernel_rfl) (by kernel_rfl) (Zap (l := [loopAt Tryz.f147 1]) (by kernel_rfl) (Zdj (key := 1) (by kernel_rfl) rfl (Zav.l1.sound k) Zah)) Zav.i Zav.r [] true (fun x => Zav.f k (x)) (fun _ _ => rfl) (by kernel_rfl) (Zav.eq k)
noncomputable def Zav.pk (k : Nat) : Pk Tryz.prog DD := ⟨147, Zav.D k, Zav.sound k, Zaq Tryz.func147 (by kernel_rfl) (by kernel_rfl)⟩
/-! ### pyx/pyxref1.AddNat: function 105 -/
noncomputable def Zal.l4.once (k : Nat) (x : T0c) : Option (T0c ⊕ (List Int)) := match x with | (x1, x2, x3, x4, x5) => ((cond (decide (x5 < (List.length x1 : Int))) (some (x1, x2, x3, x4, x5, true)) (cond (decide (x5 < (List.length x2 : Int))) (some (x1, x2, x3, x4, x5, true)) (some (x1, x2, x3, x4, x5, decide (x4 > 0))))) : Option (List Int × List Int × List Int × Int × Int × Bool)).bind fun y12 => (cond (y12.2.2.2.2.2) ((Zci.f k y12.1 y12.2.2.2.2.1).bind fun t13 => ((Zci.f k y12.2.1 y12.2.2.2.2.1).bind fun t14 => (cond (okLen (List.length y12.2.2.1 + List.length [Int.tmod (IntKind.wrap .i64 ((IntKind.wrap .i64 (t13 + t14)) + y12.2.2.2.1)) 10]) 8) (some (.inl (y12.1, y12.2.1, y12.2.2.1 ++ [Int.tmod (IntKind.wrap .i64 ((IntKind.wrap .i64 (t13 + t14)) + y12.2.2.2.1)) 10], IntKind.wrap .i64 (Int.tdiv (IntKind.wrap .i64 ((IntKind.wrap .i64 (t13 + t14)) + y12.2.2.2.1)) 10), IntKind.wrap .i64 (y12.2.2.2.2.1 + 1)))) none))) (some (.inr y12.2.2.1)))
noncomputable def Zal.f (k : Nat) (a0 : List Int) (a1 : List Int) : Option (List Int) := (iter (Zal.l4.once k) k (a0, a1, ([] : List Int), 0, 0)).bind fun y16 => ((Zav.f k y16).bind fun t17 => (some t17))
noncomputable def Zal.i : Lay U (List Int × List Int) := (pcAnd (pcOne 0 (tAt (vRow DD C.i64))) (pcOne 1 (tAt (vRow DD C.i64)))).lay (fun _ => by kernel_rfl)
noncomputable def Zal.r : Lay U (List Int) := (pcOne 0 (tAt (vRow DD C.i64))).lay (fun _ => by kernel_rfl)
noncomputable def Zal.D (k : Nat) : FDen U := fdn Zal.i Zal.r Tryz.f105.ntmps [] true (fun x => Zal.f k (x.1) (x.2)) (fun _ _ => rfl)
noncomputable def Zal.l4.i : Lay U T0c := (lay [(0, sAt (vRow DD C.i64)), (1, sAt (vRow DD C.i64)), (5, sAt (vTip DD 1004005 C.i64 1)), (6, sAt (vInt .i64)), (7, sAt (vInt .i64))] [] (fun _ => by kernel_rfl))
noncomputable def Zal.l4.o : OLay U (List Int) := oExit 0 (lay [(5, sAt (vTip DD 1004005 C.i64 1))] [] (fun _ => by kernel_rfl))
noncomputable def Zal.j4000 : Jk U := ⟨(List Int × List Int × List Int × Int × Int × Bool), oNorm (lay [(0, sAt (vRow DD C.i64)), (1, sAt (vRow DD C.i64)), (5, sAt (vTip DD 1005000005 C.i64 1)), (6, sAt (vInt .i64)), (7, sAt (vInt .i64)), (22, sAt vBool)] [] (fun _ => by kernel_rfl))⟩
noncomputable def Zal.E (k : Nat) : Env U := mkE Tryz.f105 [Zci.pk k, Zav.pk k] [(4000, Zal.j4000)] [(4, ldn Zal.l4.i Zal.l4.o (iter (Zal.l4.once k) k))] [] n0 n0 [] false n00 nl0 []
theorem Zal.l4.eq (k : Nat) (x : T0c) : evC (Zal.E k) (loopAt Tryz.f105 4) (Zal.l4.i.put x) (headK Zal.l4.i.un Zal.l4.o.re) = Zal.l4.once k x := by kernel_rfl
theorem Zal.l4.sound (k : Nat) : LSound (Zal.E k) Tryz.f105.ntmps Tryz.f105 (loopAt Tryz.f105 4) (ldn Zal.l4.i Zal.l4.o (iter (Zal.l4.once k) k)) :=
  loopP (Zbq _ _ _ _ _ _ _ _ _ _ _ _) mixed rfl (by kernel_rfl) (Zap (l := []) (by kernel_rfl) Zah) Zal.l4.i Zal.l4.o (Zal.l4.once k) k (Zal.l4.eq k)
theorem Zal.eq (k : Nat) (x : (List Int × List Int)) : runF (Zal.E k) (codeOf Tryz.f105) (Zal.i.put x) Zal.r.un = Zal.f k (x.1) (x.2) := by kernel_rfl
theorem Zal.sound (k : Nat) : Sound Tryz.prog DD 105 (Zal.D k) :=
  funP (E := Zal.E k) (fn := Tryz.f105) (c := codeOf Tryz.f105) (Zbq _ _ _ _ _ _ _ _ _ _ _ _) mixed rfl Tryz.func105 (by kernel_rfl) (by kernel_rfl) (Zap (l := [loopAt Tryz.f105 4]) (by kernel_rfl) (Zdj (key := 4) (by kernel_rfl) rfl (Zal.l4.sound k) Zah)) Zal.i Zal.r [] true (fun x => Zal.f k (x.1) (x.2)) (fun _ _ => rfl) (by kernel_rfl) (Zal.eq k)
noncomputable def Zal.pk (k : Nat) : Pk Tryz.prog DD := ⟨105, Zal.D k, Zal.sound k, Zaq Tryz.func105 (by kernel_rfl) (by kernel_rfl)⟩
/-! ### pyx/pyxref1.radix: function 153 -/
noncomputable def Zcs.f (k : Nat)  : Option (List Int) := (Zay.f k 18446744073709551615).bind fun t1 => ((Zal.f k t1 [1]).bind fun t2 => (some t2))
noncomputable def Zcs.i : Lay U Unit := (pcUnit).lay (fun _ => by kernel_rfl)
noncomputable def Zcs.r : Lay U (List Int) := (pcOne 0 (tAt (vRow DD C.i64))).lay (fun _ => by kernel_rfl)
noncomputable def Zcs.D (k : Nat) : FDen U := fdn Zcs.i Zcs.r Tryz.f153.ntmps [] true (fun x => Zcs.f k ) (fun _ _ => rfl)
noncomputable def Zcs.E (k : Nat) : Env U := mkE Tryz.f153 [Zay.pk k, Zal.pk k] [] [] [] n0 n0 [] false n00 nl0 []
theorem Zcs.eq (k : Nat) (x : Unit) : runF (Zcs.E k) (codeOf Tryz.f153) (Zcs.i.put x) Zcs.r.un = Zcs.f k  := by kernel_rfl
theorem Zcs.sound (k : Nat) : Sound Tryz.prog DD 153 (Zcs.D k) :=
  funP (E := Zcs.E k) (fn := Tryz.f153) (c := codeOf Tryz.f153) (Zbq _ _ _ _ _ _ _ _ _ _ _ _) mixed rfl Tryz.func153 (by kernel_rfl) (by kernel_rfl) (Zap (l := []) (by kernel_rfl) Zah) Zcs.i Zcs.r [] true (fun x => Zcs.f k ) (fun _ _ => rfl) (by kernel_rfl) (Zcs.eq k)
noncomputable def Zcs.pk (k : Nat) : Pk Tryz.prog DD := ⟨153, Zcs.D k, Zcs.sound k, Zaq Tryz.func153 (by kernel_rfl) (by kernel_rfl)⟩
/-! ### pyx/pyxref1.MulNat: function 139 -/
noncomputable def Zy.l7.once (k : Nat) (x : T0b) : Option (T0b ⊕ ((List Int × List Int × Int × List Int))) := match x with | (x5, x6, x8, x9, x10, x7) => ((cond (decide (x10 < (List.length x6 : Int))) (some (x5, x6, x8, x9, x10, true, x7)) (some (x5, x6, x8, x9, x10, decide (x9 > 0), x7))) : Option T0a).bind fun y18 => (cond (y18.2.2.2.2.2.1) (cond (inb (IntKind.wrap .i64 (y18.2.2.1 + y18.2.2.2.2.1)) (List.length y18.2.2.2.2.2.2)) (cond (Nat.blt (Int.toNat (IntKind.wrap .i64 (y18.2.2.1 + y18.2.2.2.2.1))) (List.length y18.2.2.2.2.2.2)) (cond (inb y18.2.2.1 (List.length y18.1)) ((Zci.f k y18.2.1 y18.2.2.2.2.1).bind fun t19 => (cond (inb (IntKind.wrap .i64 (y18.2.2.1 + y18.2.2.2.2.1)) (List.length y18.2.2.2.2.2.2)) (cond (Nat.blt (Int.toNat (IntKind.wrap .i64 (y18.2.2.1 + y18.2.2.2.2.1))) (List.length y18.2.2.2.2.2.2)) (some (.inl (y18.1, y18.2.1, y18.2.2.1, IntKind.wrap .i64 (Int.tdiv (IntKind.wrap .i64 ((IntKind.wrap .i64 ((List.getD y18.2.2.2.2.2.2 (Int.toNat (IntKind.wrap .i64 (y18.2.2.1 + y18.2.2.2.2.1))) 0) + (IntKind.wrap .i64 ((List.getD y18.1 (Int.toNat y18.2.2.1) 0) * t19)))) + y18.2.2.2.1)) 10), IntKind.wrap .i64 (y18.2.2.2.2.1 + 1), List.set y18.2.2.2.2.2.2 (Int.toNat (IntKind.wrap .i64 (y18.2.2.1 + y18.2.2.2.2.1))) (Int.tmod (IntKind.wrap .i64 ((IntKind.wrap .i64 ((List.getD y18.2.2.2.2.2.2 (Int.toNat (IntKind.wrap .i64 (y18.2.2.1 + y18.2.2.2.2.1))) 0) + (IntKind.wrap .i64 ((List.getD y18.1 (Int.toNat y18.2.2.1) 0) * t19)))) + y18.2.2.2.1)) 10)))) none) none)) none) none) none) (some (.inr (y18.1, y18.2.1, y18.2.2.1, y18.2.2.2.2.2.2))))
noncomputable def Zy.l3.once (k : Nat) (x : (List Int × List Int × Int × List Int)) : Option ((List Int × List Int × Int × List Int) ⊕ (List Int)) := match x with | (x1, x2, x4, x3) => cond (decide (x4 < (List.length x1 : Int))) ((iter (Zy.l7.once k) k (x1, x2, x4, 0, 0, x3)).bind fun y24 => (some (.inl (y24.1, y24.2.1, IntKind.wrap .i64 (y24.2.2.1 + 1), y24.2.2.2)))) (some (.inr x3))
noncomputable def Zy.f (k : Nat) (a0 : List Int) (a1 : List Int) : Option (List Int) := cond ((decide (0 ≤ IntKind.wrap .i64 ((IntKind.wrap .i64 ((List.length a0 : Int) + (List.length a1 : Int))) + 1)) && decide (IntKind.wrap .i64 ((IntKind.wrap .i64 ((List.length a0 : Int) + (List.length a1 : Int))) + 1) = IntKind.wrap .i64 ((IntKind.wrap .i64 ((List.length a0 : Int) + (List.length a1 : Int))) + 1))) && decide ((IntKind.wrap .i64 ((IntKind.wrap .i64 ((List.length a0 : Int) + (List.length a1 : Int))) + 1)) * 8 ≤ 140737488355328)) ((iter (Zy.l3.once k) k (a0, a1, 0, List.replicate (Int.toNat (IntKind.wrap .i64 ((IntKind.wrap .i64 ((List.length a0 : Int) + (List.length a1 : Int))) + 1))) (0 : Int))).bind fun y26 => ((Zav.f k y26).bind fun t27 => (some t27))) none
noncomputable def Zy.i : Lay U (List Int × List Int) := (pcAnd (pcOne 0 (tAt (vRow DD C.i64))) (pcOne 1 (tAt (vRow DD C.i64)))).lay (fun _ => by kernel_rfl)
noncomputable def Zy.r : Lay U (List Int) := (pcOne 0 (tAt (vRow DD C.i64))).lay (fun _ => by kernel_rfl)
noncomputable def Zy.D (k : Nat) : FDen U := fdn Zy.i Zy.r Tryz.f139.ntmps [] true (fun x => Zy.f k (x.1) (x.2)) (fun _ _ => rfl)
noncomputable def Zy.l7.i : Lay U T0b := ((pcIso (skPc [(0, sAt (vRow DD C.i64)), (1, sAt (vRow DD C.i64)), (5, sAt (vVec DD 1007005 C.i64)), (6, sAt (vInt .i64)), (7, sAt (vInt .i64)), (8, sAt (vInt .i64))] []) (fun x => ((x.1, x.2.1, x.2.2.2.1, x.2.2.2.2.1, x.2.2.2.2.2, x.2.2.1) : T0b)) (fun x => (x.1, x.2.1, x.2.2.2.2.2, x.2.2.1, x.2.2.2.1, x.2.2.2.2.1)) (fun _ => rfl)).lay (fun _ => by kernel_rfl))
noncomputable def Zy.l7.o : OLay U ((List Int × List Int × Int × List Int)) := oExit 2 ((pcIso (skPc [(0, sAt (vRow DD C.i64)), (1, sAt (vRow DD C.i64)), (5, sAt (vVec DD 1007005 C.i64)), (6, sAt (vInt .i64))] []) (fun x => ((x.1, x.2.1, x.2.2.2, x.2.2.1) : (List Int × List Int × Int × List Int))) (fun x => (x.1, x.2.1, x.2.2.2, x.2.2.1)) (fun _ => rfl)).lay (fun _ => by kernel_rfl))
noncomputable def Zy.l3.i : Lay U (List Int × List Int × Int × List Int) := ((pcIso (skPc [(0, sAt (vRow DD C.i64)), (1, sAt (vRow DD C.i64)), (5, sAt (vVec DD 1003005 C.i64)), (6, sAt (vInt .i64))] []) (fun x => ((x.1, x.2.1, x.2.2.2, x.2.2.1) : (List Int × List Int × Int × List Int))) (fun x => (x.1, x.2.1, x.2.2.2, x.2.2.1)) (fun _ => rfl)).lay (fun _ => by kernel_rfl))
noncomputable def Zy.l3.o : OLay U (List Int) := oExit 0 (lay [(5, sAt (vVec DD 1003005 C.i64))] [] (fun _ => by kernel_rfl))
noncomputable def Zy.j7000 : Jk U := ⟨T0a, oNorm ((pcIso (skPc [(0, sAt (vRow DD C.i64)), (1, sAt (vRow DD C.i64)), (5, sAt (vVec DD 1008000005 C.i64)), (6, sAt (vInt .i64)), (7, sAt (vInt .i64)), (8, sAt (vInt .i64)), (30, sAt vBool)] []) (fun x => ((x.1, x.2.1, x.2.2.2.1, x.2.2.2.2.1, x.2.2.2.2.2.1, x.2.2.2.2.2.2, x.2.2.1) : T0a)) (fun x => (x.1, x.2.1, x.2.2.2.2.2.2, x.2.2.1, x.2.2.2.1, x.2.2.2.2.1, x.2.2.2.2.2.1)) (fun _ => rfl)).lay (fun _ => by kernel_rfl))⟩
noncomputable def Zy.E (k : Nat) : Env U := mkE Tryz.f139 [Zci.pk k, Zav.pk k] [(7000, Zy.j7000)] [(7, ldn Zy.l7.i Zy.l7.o (iter (Zy.l7.once k) k)), (3, ldn Zy.l3.i Zy.l3.o (iter (Zy.l3.once k) k))] [] n0 (fun d => Nat.beq d 16) [] false n00 nl0 []
theorem Zy.l7.eq (k : Nat) (x : T0b) : evC (Zy.E k) (loopAt Tryz.f139 7) (Zy.l7.i.put x) (headK Zy.l7.i.un Zy.l7.o.re) = Zy.l7.once k x := by kernel_rfl
theorem Zy.l7.sound (k : Nat) : LSound (Zy.E k) Tryz.f139.ntmps Tryz.f139 (loopAt Tryz.f139 7) (ldn Zy.l7.i Zy.l7.o (iter (Zy.l7.once k) k)) :=
  loopP (Zbq _ _ _ _ _ _ _ _ _ _ _ _) mixed rfl (by kernel_rfl) (Zap (l := []) (by kernel_rfl) Zah) Zy.l7.i Zy.l7.o (Zy.l7.once k) k (Zy.l7.eq k)
theorem Zy.l3.eq (k : Nat) (x : (List Int × List Int × Int × List Int)) : evC (Zy.E k) (loopAt Tryz.f139 3) (Zy.l3.i.put x) (headK Zy.l3.i.un Zy.l3.o.re) = Zy.l3.once k x := by kernel_rfl
theorem Zy.l3.sound (k : Nat) : LSound (Zy.E k) Tryz.f139.ntmps Tryz.f139 (loopAt Tryz.f139 3) (ldn Zy.l3.i Zy.l3.o (iter (Zy.l3.once k) k)) :=
  loopP (Zbq _ _ _ _ _ _ _ _ _ _ _ _) mixed rfl (by kernel_rfl) (Zap (l := [loopAt Tryz.f139 7]) (by kernel_rfl) (Zdj (key := 7) (by kernel_rfl) rfl (Zy.l7.sound k) Zah)) Zy.l3.i Zy.l3.o (Zy.l3.once k) k (Zy.l3.eq k)
theorem Zy.eq (k : Nat) (x : (List Int × List Int)) : runF (Zy.E k) (codeOf Tryz.f139) (Zy.i.put x) Zy.r.un = Zy.f k (x.1) (x.2) := by kernel_rfl
theorem Zy.sound (k : Nat) : Sound Tryz.prog DD 139 (Zy.D k) :=
  funP (E := Zy.E k) (fn := Tryz.f139) (c := codeOf Tryz.f139) (Zbq _ _ _ _ _ _ _ _ _ _ _ _) mixed rfl Tryz.func139 (by kernel_rfl) (by kernel_rfl) (Zap (l := [loopAt Tryz.f139 3]) (by kernel_rfl) (Zdj (key := 3) (by kernel_rfl) rfl (Zy.l3.sound k) Zah)) Zy.i Zy.r [] true (fun x => Zy.f k (x.1) (x.2)) (fun _ _ => rfl) (by kernel_rfl) (Zy.eq k)
noncomputable def Zy.pk (k : Nat) : Pk Tryz.prog DD := ⟨139, Zy.D k, Zy.sound k, Zaq Tryz.func139 (by kernel_rfl) (by kernel_rfl)⟩
/-! ### pyx/pyxref1.Nat2: function 140 -/
noncomputable def Zdc.f (k : Nat) (a0 : (Int × Int)) : Option (List Int) := (Zay.f k a0.2).bind fun t1 => ((Zcs.f k).bind fun t2 => ((Zy.f k t1 t2).bind fun t3 => ((Zay.f k a0.1).bind fun t4 => ((Zal.f k t3 t4).bind fun t5 => (some t5)))))
noncomputable def Zdc.i : Lay U (Int × Int) := (pcOne 0 (tAt (vCd (Cd.pair (Cd.int .u64) (Cd.int .u64))))).lay (fun _ => by kernel_rfl)
noncomputable def Zdc.r : Lay U (List Int) := (pcOne 0 (tAt (vRow DD C.i64))).lay (fun _ => by kernel_rfl)
noncomputable def Zdc.D (k : Nat) : FDen U := fdn Zdc.i Zdc.r Tryz.f140.ntmps [] true (fun x => Zdc.f k (x)) (fun _ _ => rfl)
noncomputable def Zdc.E (k : Nat) : Env U := mkE Tryz.f140 [Zay.pk k, Zcs.pk k, Zy.pk k, Zal.pk k] [] [] [] n0 n0 [] false n00 nl0 []
theorem Zdc.eq (k : Nat) (x : (Int × Int)) : runF (Zdc.E k) (codeOf Tryz.f140) (Zdc.i.put x) Zdc.r.un = Zdc.f k (x) := by kernel_rfl
theorem Zdc.sound (k : Nat) : Sound Tryz.prog DD 140 (Zdc.D k) :=
  funP (E := Zdc.E k) (fn := Tryz.f140) (c := codeOf Tryz.f140) (Zbq _ _ _ _ _ _ _ _ _ _ _ _) mixed rfl Tryz.func140 (by kernel_rfl) (by kernel_rfl) (Zap (l := []) (by kernel_rfl) Zah) Zdc.i Zdc.r [] true (fun x => Zdc.f k (x)) (fun _ _ => rfl) (by kernel_rfl) (Zdc.eq k)
noncomputable def Zdc.pk (k : Nat) : Pk Tryz.prog DD := ⟨140, Zdc.D k, Zdc.sound k, Zaq Tryz.func140 (by kernel_rfl) (by kernel_rfl)⟩
end
end Go.Proofs.YtbchcjlllddlpaaGreat
