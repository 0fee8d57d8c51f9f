import Derived.Test.YtbchcjlllddlpaaGreatF3
/-! Functions, told; their equations with the evaluator; that they are sound. Written by gen.py. -/
namespace Go.Proofs.YtbchcjlllddlpaaGreat
open Go Go.Ev
noncomputable section
set_option linter.unusedVariables false
set_option linter.unusedSimpArgs false
set_option maxRecDepth 100000
abbrev T4a := (List Zb × List Zb × Int × Int)
/-! ### pyx/dec.ten: function 116 -/
noncomputable def Zeo.f (k : Nat) (a0 : Int) : Option (Int × Int) := (Zcs.f k a0).bind fun t1 => (some (t1.1.1, t1.1.2))
noncomputable def Zeo.i : Lay U Int := (pcOne 0 (tAt (vInt .i64))).lay (fun _ => by kernel_rfl)
noncomputable def Zeo.r : Lay U (Int × Int) := (pcOne 0 (tAt (vCd (Cd.pair (Cd.int .u64) (Cd.int .u64))))).lay (fun _ => by kernel_rfl)
noncomputable def Zeo.D (k : Nat) : FDen U := fdn Zeo.i Zeo.r Tryz.f116.ntmps [] true (fun x => Zeo.f k (x)) (fun _ _ => rfl)
noncomputable def Zeo.E (k : Nat) : Env U := mkE Tryz.f116 [Zcs.pk k] [] [] [] n0 n0 [] false n00 nl0 []
theorem Zeo.eq (k : Nat) (x : Int) : runF (Zeo.E k) (codeOf Tryz.f116) (Zeo.i.put x) Zeo.r.un = Zeo.f k (x) := by kernel_rfl
theorem Zeo.sound (k : Nat) : Sound Tryz.prog DD 116 (Zeo.D k) :=
  funP (E := Zeo.E k) (fn := Tryz.f116) (c := codeOf Tryz.f116) (Zbq _ _ _ _ _ _ _ _ _ _ _ _) mixed rfl Tryz.func116 (by kernel_rfl) (by kernel_rfl) (Zan (l := []) (by kernel_rfl) Zaa) Zeo.i Zeo.r [] true (fun x => Zeo.f k (x)) (fun _ _ => rfl) (by kernel_rfl) (Zeo.eq k)
noncomputable def Zeo.pk (k : Nat) : Pk Tryz.prog DD := ⟨116, Zeo.D k, Zeo.sound k, Zal Tryz.func116 (by kernel_rfl) (by kernel_rfl)⟩
/-! ### pyx/limb.Cmp: function 149 -/
noncomputable def Zct.l2.once (k : Nat) (x : (Int × List Int × List Int)) : Option ((Int × List Int × List Int) ⊕ (Unit ⊕ Int)) := match x with | (x3, x1, x2) => cond (decide (x3 ≥ 0)) (cond (inb x3 2) (cond (Nat.blt (Int.toNat x3) 2) (cond (inb x3 2) (cond (Nat.blt (Int.toNat x3) 2) (cond ((List.getD x1 (Int.toNat x3) 0) != (List.getD x2 (Int.toNat x3) 0)) (cond (inb x3 2) (cond (Nat.blt (Int.toNat x3) 2) (cond (inb x3 2) (cond (Nat.blt (Int.toNat x3) 2) (cond (decide ((List.getD x1 (Int.toNat x3) 0) < (List.getD x2 (Int.toNat x3) 0))) (some (.inr (.inr (-1)))) (some (.inr (.inr 1)))) none) none) none) none) (some (.inl (IntKind.wrap .i64 (x3 - 1), x1, x2)))) none) none) none) none) (some (.inr (.inl ())))
noncomputable def Zct.f (k : Nat) (a0 : (Int × Int)) (a1 : (Int × Int)) : Option Int := (iter (Zct.l2.once k) k (1, [a0.1, a0.2], [a1.1, a1.2])).bind fun | .inl y5 => (some 0) | .inr y6 => (some y6)
noncomputable def Zct.i : Lay U ((Int × Int) × (Int × Int)) := (pcAnd (pcOne 0 (tAt (vCd (Cd.pair (Cd.int .u64) (Cd.int .u64))))) (pcOne 1 (tAt (vCd (Cd.pair (Cd.int .u64) (Cd.int .u64)))))).lay (fun _ => by kernel_rfl)
noncomputable def Zct.r : Lay U Int := (pcOne 0 (tAt (vInt .i64))).lay (fun _ => by kernel_rfl)
noncomputable def Zct.D (k : Nat) : FDen U := fdn Zct.i Zct.r Tryz.f149.ntmps [] true (fun x => Zct.f k (x.1) (x.2)) (fun _ _ => rfl)
noncomputable def Zct.l2.i : Lay U (Int × List Int × List Int) := (lay [(2, sPtr 2 0), (3, sPtr 3 0), (5, sAt (vInt .i64))] [bArr DD 2 2 C.u64, bArr DD 3 2 C.u64] (fun _ => by kernel_rfl))
noncomputable def Zct.l2.o : OLay U (Unit ⊕ Int) := oOr (oExit 0 (lay [] [] (fun _ => by kernel_rfl))) (oRet Zct.r)
noncomputable def Zct.E (k : Nat) : Env U := mkE Tryz.f149 [] [] [(2, ldn Zct.l2.i Zct.l2.o (iter (Zct.l2.once k) k))] [(38, (2, C.u64))] n0 n0 [] false n00 nl0 []
theorem Zct.l2.eq (k : Nat) (x : (Int × List Int × List Int)) : evC (Zct.E k) (loopAt Tryz.f149 2) (Zct.l2.i.put x) (headK Zct.l2.i.un Zct.l2.o.re) = Zct.l2.once k x := by kernel_rfl
theorem Zct.l2.sound (k : Nat) : LSound (Zct.E k) Tryz.f149.ntmps Tryz.f149 (loopAt Tryz.f149 2) (ldn Zct.l2.i Zct.l2.o (iter (Zct.l2.once k) k)) :=
  loopP (Zbq _ _ _ _ _ _ _ _ _ _ _ _) mixed rfl (by kernel_rfl) (Zan (l := []) (by kernel_rfl) Zaa) Zct.l2.i Zct.l2.o (Zct.l2.once k) k (Zct.l2.eq k)
theorem Zct.eq (k : Nat) (x : ((Int × Int) × (Int × Int))) : runF (Zct.E k) (codeOf Tryz.f149) (Zct.i.put x) Zct.r.un = Zct.f k (x.1) (x.2) := by kernel_rfl
theorem Zct.sound (k : Nat) : Sound Tryz.prog DD 149 (Zct.D k) :=
  funP (E := Zct.E k) (fn := Tryz.f149) (c := codeOf Tryz.f149) (Zbq _ _ _ _ _ _ _ _ _ _ _ _) mixed rfl Tryz.func149 (by kernel_rfl) (by kernel_rfl) (Zan (l := [loopAt Tryz.f149 2]) (by kernel_rfl) (Zdj (key := 2) (by kernel_rfl) rfl (Zct.l2.sound k) Zaa)) Zct.i Zct.r [] true (fun x => Zct.f k (x.1) (x.2)) (fun _ _ => rfl) (by kernel_rfl) (Zct.eq k)
noncomputable def Zct.pk (k : Nat) : Pk Tryz.prog DD := ⟨149, Zct.D k, Zct.sound k, Zal Tryz.func149 (by kernel_rfl) (by kernel_rfl)⟩
/-! ### pyx/dec.small: function 115 -/
noncomputable def Zdo.f (k : Nat) (a0 : (Int × Int)) : Option Bool := (Zeo.f k 30).bind fun t1 => ((Zct.f k (a0.1, a0.2) (t1.1, t1.2)).bind fun t2 => (some (decide (t2 < 0))))
noncomputable def Zdo.i : Lay U (Int × Int) := (pcOne 0 (tAt (vCd (Cd.pair (Cd.int .u64) (Cd.int .u64))))).lay (fun _ => by kernel_rfl)
noncomputable def Zdo.r : Lay U Bool := (pcOne 0 (tAt vBool)).lay (fun _ => by kernel_rfl)
noncomputable def Zdo.D (k : Nat) : FDen U := fdn Zdo.i Zdo.r Tryz.f115.ntmps [] true (fun x => Zdo.f k (x)) (fun _ _ => rfl)
noncomputable def Zdo.E (k : Nat) : Env U := mkE Tryz.f115 [Zeo.pk k, Zct.pk k] [] [] [] n0 n0 [] false n00 nl0 []
theorem Zdo.eq (k : Nat) (x : (Int × Int)) : runF (Zdo.E k) (codeOf Tryz.f115) (Zdo.i.put x) Zdo.r.un = Zdo.f k (x) := by kernel_rfl
theorem Zdo.sound (k : Nat) : Sound Tryz.prog DD 115 (Zdo.D k) :=
  funP (E := Zdo.E k) (fn := Tryz.f115) (c := codeOf Tryz.f115) (Zbq _ _ _ _ _ _ _ _ _ _ _ _) mixed rfl Tryz.func115 (by kernel_rfl) (by kernel_rfl) (Zan (l := []) (by kernel_rfl) Zaa) Zdo.i Zdo.r [] true (fun x => Zdo.f k (x)) (fun _ _ => rfl) (by kernel_rfl) (Zdo.eq k)
noncomputable def Zdo.pk (k : Nat) : Pk Tryz.prog DD := ⟨115, Zdo.D k, Zdo.sound k, Zal Tryz.func115 (by kernel_rfl) (by kernel_rfl)⟩
/-! ### pyx/dec.nought: function 96 -/
noncomputable def Zco.f (k : Nat) (a0 : (Int × Int)) : Option Bool := some ((a0.1 == 0) && (a0.2 == 0))
noncomputable def Zco.i : Lay U (Int × Int) := (pcOne 0 (tAt (vCd (Cd.pair (Cd.int .u64) (Cd.int .u64))))).lay (fun _ => by kernel_rfl)
noncomputable def Zco.r : Lay U Bool := (pcOne 0 (tAt vBool)).lay (fun _ => by kernel_rfl)
noncomputable def Zco.D (k : Nat) : FDen U := fdn Zco.i Zco.r Tryz.f96.ntmps [] true (fun x => Zco.f k (x)) (fun _ _ => rfl)
noncomputable def Zco.E (k : Nat) : Env U := mkE Tryz.f96 [] [] [] [] n0 n0 [] false n00 nl0 []
theorem Zco.eq (k : Nat) (x : (Int × Int)) : runF (Zco.E k) (codeOf Tryz.f96) (Zco.i.put x) Zco.r.un = Zco.f k (x) := by kernel_rfl
theorem Zco.sound (k : Nat) : Sound Tryz.prog DD 96 (Zco.D k) :=
  funP (E := Zco.E k) (fn := Tryz.f96) (c := codeOf Tryz.f96) (Zbq _ _ _ _ _ _ _ _ _ _ _ _) mixed rfl Tryz.func96 (by kernel_rfl) (by kernel_rfl) (Zan (l := []) (by kernel_rfl) Zaa) Zco.i Zco.r [] true (fun x => Zco.f k (x)) (fun _ _ => rfl) (by kernel_rfl) (Zco.eq k)
noncomputable def Zco.pk (k : Nat) : Pk Tryz.prog DD := ⟨96, Zco.D k, Zco.sound k, Zal Tryz.func96 (by kernel_rfl) (by kernel_rfl)⟩
/-! ### pyx/dec.Right: function 65 -/
noncomputable def Zce.f (k : Nat) (a0 : Zg) : Option Bool := (Zdo.f k (a0.f_C.1, a0.f_C.2)).bind fun t1 => (cond (t1) (cond (decide (a0.Zn ≥ 0)) (cond (decide (a0.Zn ≤ 9)) (cond (a0.f_Neg) ((Zco.f k (a0.f_C.1, a0.f_C.2)).bind fun t2 => (some (!t2))) (some true)) (some false)) (some false)) (some false))
noncomputable def Zce.i : Lay U Zg := (pcOne 0 (tAt (vCd Zcy))).lay (fun _ => by kernel_rfl)
noncomputable def Zce.r : Lay U Bool := (pcOne 0 (tAt vBool)).lay (fun _ => by kernel_rfl)
noncomputable def Zce.D (k : Nat) : FDen U := fdn Zce.i Zce.r Tryz.f65.ntmps [] true (fun x => Zce.f k (x)) (fun _ _ => rfl)
noncomputable def Zce.E (k : Nat) : Env U := mkE Tryz.f65 [Zdo.pk k, Zco.pk k] [] [] [] n0 n0 [] false n00 nl0 []
theorem Zce.eq (k : Nat) (x : Zg) : runF (Zce.E k) (codeOf Tryz.f65) (Zce.i.put x) Zce.r.un = Zce.f k (x) := by kernel_rfl
theorem Zce.sound (k : Nat) : Sound Tryz.prog DD 65 (Zce.D k) :=
  funP (E := Zce.E k) (fn := Tryz.f65) (c := codeOf Tryz.f65) (Zbq _ _ _ _ _ _ _ _ _ _ _ _) mixed rfl Tryz.func65 (by kernel_rfl) (by kernel_rfl) (Zan (l := []) (by kernel_rfl) Zaa) Zce.i Zce.r [] true (fun x => Zce.f k (x)) (fun _ _ => rfl) (by kernel_rfl) (Zce.eq k)
noncomputable def Zce.pk (k : Nat) : Pk Tryz.prog DD := ⟨65, Zce.D k, Zce.sound k, Zal Tryz.func65 (by kernel_rfl) (by kernel_rfl)⟩
/-! ### pyx/dec.Neg: function 47 -/
noncomputable def Zek.f (k : Nat) (a0 : Zg) : Option Zg := (Zce.f k (⟨a0.f_Neg, (a0.f_C.1, a0.f_C.2), a0.Zn⟩ : Zg)).bind fun t1 => (cond (!t1) (some (⟨false, (0, 0), 0⟩ : Zg)) (cond (!a0.f_Neg) ((Zco.f k (a0.f_C.1, a0.f_C.2)).bind fun t2 => (some (⟨!t2, (a0.f_C.1, a0.f_C.2), a0.Zn⟩ : Zg))) (some (⟨false, (a0.f_C.1, a0.f_C.2), a0.Zn⟩ : Zg))))
noncomputable def Zek.i : Lay U Zg := (pcOne 0 (tAt (vCd Zcy))).lay (fun _ => by kernel_rfl)
noncomputable def Zek.r : Lay U Zg := (pcOne 0 (tAt (vCd Zcy))).lay (fun _ => by kernel_rfl)
noncomputable def Zek.D (k : Nat) : FDen U := fdn Zek.i Zek.r Tryz.f47.ntmps [] true (fun x => Zek.f k (x)) (fun _ _ => rfl)
noncomputable def Zek.E (k : Nat) : Env U := mkE Tryz.f47 [Zce.pk k, Zco.pk k] [] [] [] n0 n0 [] false n00 nl0 []
theorem Zek.eq (k : Nat) (x : Zg) : runF (Zek.E k) (codeOf Tryz.f47) (Zek.i.put x) Zek.r.un = Zek.f k (x) := by kernel_rfl
theorem Zek.sound (k : Nat) : Sound Tryz.prog DD 47 (Zek.D k) :=
  funP (E := Zek.E k) (fn := Tryz.f47) (c := codeOf Tryz.f47) (Zbq _ _ _ _ _ _ _ _ _ _ _ _) mixed rfl Tryz.func47 (by kernel_rfl) (by kernel_rfl) (Zan (l := []) (by kernel_rfl) Zaa) Zek.i Zek.r [] true (fun x => Zek.f k (x)) (fun _ _ => rfl) (by kernel_rfl) (Zek.eq k)
noncomputable def Zek.pk (k : Nat) : Pk Tryz.prog DD := ⟨47, Zek.D k, Zek.sound k, Zal Tryz.func47 (by kernel_rfl) (by kernel_rfl)⟩
/-! ### pyx/entry.Turned: function 133 -/
noncomputable def Zbb.l3.once (k : Nat) (x : T4a) : Option (T4a ⊕ (List Zb)) := match x with | (x1, x2, x3, x4) => cond (decide (x4 < x3)) (cond (inb x4 (List.length x2)) ((Zek.f k (⟨((List.getD x2 (Int.toNat x4) Zb.zero).Zo).f_Neg, ((((List.getD x2 (Int.toNat x4) Zb.zero).Zo).f_C).1, (((List.getD x2 (Int.toNat x4) Zb.zero).Zo).f_C).2), ((List.getD x2 (Int.toNat x4) Zb.zero).Zo).Zn⟩ : Zg)).bind fun t5 => (cond (okLen (List.length x1 + List.length [(⟨(List.getD x2 (Int.toNat x4) Zb.zero).Zdu, (⟨t5.f_Neg, (t5.f_C.1, t5.f_C.2), t5.Zn⟩ : Zg), (List.getD x2 (Int.toNat x4) Zb.zero).Zeq⟩ : Zb)]) 48) (some (.inl (x1 ++ [(⟨(List.getD x2 (Int.toNat x4) Zb.zero).Zdu, (⟨t5.f_Neg, (t5.f_C.1, t5.f_C.2), t5.Zn⟩ : Zg), (List.getD x2 (Int.toNat x4) Zb.zero).Zeq⟩ : Zb)], x2, x3, IntKind.wrap .i64 (x4 + 1)))) none)) none) (some (.inr x1))
noncomputable def Zbb.f (k : Nat) (a0 : List Zb) : Option (List Zb) := (iter (Zbb.l3.once k) k (([] : List Zb), a0, (List.length a0 : Int), 0)).bind fun y7 => (some y7)
noncomputable def Zbb.i : Lay U (List Zb) := (pcOne 0 (tAt (vRow DD C.Zb))).lay (fun _ => by kernel_rfl)
noncomputable def Zbb.r : Lay U (List Zb) := (pcOne 0 (tAt (vRow DD C.Zb))).lay (fun _ => by kernel_rfl)
noncomputable def Zbb.D (k : Nat) : FDen U := fdn Zbb.i Zbb.r Tryz.f133.ntmps [] true (fun x => Zbb.f k (x)) (fun _ _ => rfl)
noncomputable def Zbb.l3.i : Lay U T4a := (lay [(3, sAt (vTip DD 1003003 C.Zb 6)), (6, sAt (vRow DD C.Zb)), (7, sAt (vInt .i64)), (8, sAt (vInt .i64))] [] (fun _ => by kernel_rfl))
noncomputable def Zbb.l3.o : OLay U (List Zb) := oExit 0 (lay [(3, sAt (vTip DD 1003003 C.Zb 6))] [] (fun _ => by kernel_rfl))
noncomputable def Zbb.E (k : Nat) : Env U := mkE Tryz.f133 [Zek.pk k] [] [(3, ldn Zbb.l3.i Zbb.l3.o (iter (Zbb.l3.once k) k))] [] n0 n0 [] false n00 nl0 []
theorem Zbb.l3.eq (k : Nat) (x : T4a) : evC (Zbb.E k) (loopAt Tryz.f133 3) (Zbb.l3.i.put x) (headK Zbb.l3.i.un Zbb.l3.o.re) = Zbb.l3.once k x := by kernel_rfl
theorem Zbb.l3.sound (k : Nat) : LSound (Zbb.E k) Tryz.f133.ntmps Tryz.f133 (loopAt Tryz.f133 3) (ldn Zbb.l3.i Zbb.l3.o (iter (Zbb.l3.once k) k)) :=
  loopP (Zbq _ _ _ _ _ _ _ _ _ _ _ _) mixed rfl (by kernel_rfl) (Zan (l := []) (by kernel_rfl) Zaa) Zbb.l3.i Zbb.l3.o (Zbb.l3.once k) k (Zbb.l3.eq k)
theorem Zbb.eq (k : Nat) (x : List Zb) : runF (Zbb.E k) (codeOf Tryz.f133) (Zbb.i.put x) Zbb.r.un = Zbb.f k (x) := by kernel_rfl
theorem Zbb.sound (k : Nat) : Sound Tryz.prog DD 133 (Zbb.D k) :=
  funP (E := Zbb.E k) (fn := Tryz.f133) (c := codeOf Tryz.f133) (Zbq _ _ _ _ _ _ _ _ _ _ _ _) mixed rfl Tryz.func133 (by kernel_rfl) (by kernel_rfl) (Zan (l := [loopAt Tryz.f133 3]) (by kernel_rfl) (Zdj (key := 3) (by kernel_rfl) rfl (Zbb.l3.sound k) Zaa)) Zbb.i Zbb.r [] true (fun x => Zbb.f k (x)) (fun _ _ => rfl) (by kernel_rfl) (Zbb.eq k)
noncomputable def Zbb.pk (k : Nat) : Pk Tryz.prog DD := ⟨133, Zbb.D k, Zbb.sound k, Zal Tryz.func133 (by kernel_rfl) (by kernel_rfl)⟩
/-! ### slices.Clone[[]pyx/api.Line,pyx/api.Line]: function 109 -/
noncomputable def Zp.f (k : Nat) (a0 : List Zb) : Option (List Zb) := cond (okLen (List.length ([] : List Zb) + List.length a0) 48) (some (([] : List Zb) ++ a0)) none
noncomputable def Zp.un (s : St U) : Option (List Zb) := match s.get 0 with | .row C.Zb x1 => some x1 | _ => none
noncomputable def Zp.mk (x : List Zb) : St U := ⟨[(0, .row C.Zb x)], []⟩
noncomputable def Zp.fin (y : List Zb) : St U := ⟨[(0, .row C.Zb y)], []⟩
noncomputable def Zp.D (k : Nat) : FDen U := { X := List Zb, Y := List Zb, nt := 8, gh := [], un := Zp.un, f := fun x => Zp.f k (x), fin := Zp.fin, cl := true, clo := fun _ _ => rfl }
noncomputable def Zp.re (s : St U) : Option (List Zb) := match s.get 0 with | .row C.Zb x1 => some x1 | _ => none
noncomputable def Zp.jl : List (Nat × JDen U) := []
noncomputable def Zp.fl (k : Nat) : List (Nat × FDen U) := []
noncomputable def Zp.ll (k : Nat) : List (Nat × LDen U) := []
noncomputable def Zp.E (k : Nat) : Env U := { P := Tryz.prog, D := DD, fd := lk (Zp.fl k), sf := lk sl0, ld := lk (Zp.ll k), jd := lk Zp.jl, mode := lk [], elc := lk ec, mpc := lk mc, rts := Tryz.f109.resultTypes.toList, dyn := fun t => false, vecs := fun d => false, results := Tryz.f109.results.toList, gh := [], own := false, io := fun g i => false, lds := nl0, fn := lk [] }
theorem Zp.ok (k : Nat) : EnvOk (Zp.E k) := envOk lawful (Zp.fl k) sl0 (Zp.ll k) Zp.jl _ _ _ _ _ _ _ _ _ _ _ [] (by
  intro p hp
  simp [Zp.fl] at hp) sl0_ok (by
  intro p hp
  simp [Zp.jl] at hp) (fun _ h => (List.not_mem_nil h).elim)
theorem Zp.fitR (s : St U) (y : List Zb) (h : Zp.re s = some y) : Fits s (Zp.fin y) := by
  unfold Zp.re at h
  split at h
  · cases h
    refine Zfe [] ?_ ?_ ren_nil rfl
    · exact List.forall_mem_cons.2 ⟨FV.one (FV.same (by assumption) rfl), fun _ hp => (List.not_mem_nil hp).elim⟩
    · exact fun _ hp => (List.not_mem_nil hp).elim
  · cases h
noncomputable def Zp.mkn (g : Bool) (x : List Zb) : St U := ⟨[(0, .nrow g C.Zb x)], []⟩
theorem Zp.eq (k : Nat) (x : List Zb) : runF (Zp.E k) (codeOf Tryz.f109) (Zp.mkn true x) Zp.re = (Zp.D k).f x := by kernel_rfl
theorem Zp.eqN (k : Nat) : runF (Zp.E k) (codeOf Tryz.f109) (Zp.mkn false []) Zp.re = (Zp.D k).f [] := by kernel_rfl
theorem Zp.sound (k : Nat) : Sound Tryz.prog DD 109 (Zp.D k) :=
  fun_sound_nil (E := Zp.E k) (fn := Tryz.f109) (c := codeOf Tryz.f109) (Zp.ok k) mixed rfl Tryz.func109 (by kernel_rfl) (by kernel_rfl) (Zan (l := []) (by kernel_rfl) Zaa) C.Zb (Zp.D k) Zp.mkn (fun x => x) Zp.re (by kernel_rfl) (by kernel_rfl)
    (by intro m x h; replace h : Zp.un m = some x := h; unfold Zp.un at h; split at h; · cases h; assumption
        · cases h)
    (fun _ _ => rfl) Zp.fitR (Zp.eq k) (by intro x h; replace h : x = [] := h; subst h; exact Zp.eqN k)
noncomputable def Zp.pk (k : Nat) : Pk Tryz.prog DD := ⟨109, Zp.D k, Zp.sound k, Zal Tryz.func109 (by kernel_rfl) (by kernel_rfl)⟩
/-! ### (*pyx/ledger.Book).add: function 56 -/
noncomputable def Zbu.f (k : Nat) (a0 : Ze) (a1 : Zc) : Option (Int × Int × Ze) := (Zcb.f k (⟨pack 12 false a0.f_t.Zk, pack 12 0 a0.f_t.Zi⟩ : Zd) a1.Zdf).bind fun t1 => (cond (!t1) (some (0, 8, (⟨a0.Zbd, a0.f_l, (⟨pack 12 false a0.f_t.Zk, pack 12 0 a0.f_t.Zi⟩ : Zd)⟩ : Ze))) (cond ((List.length a0.f_l : Int) == 40) (some (0, 5, (⟨a0.Zbd, a0.f_l, (⟨pack 12 false a0.f_t.Zk, pack 12 0 a0.f_t.Zi⟩ : Zd)⟩ : Ze))) ((Zp.f k a1.Zdc).bind fun t2 => (cond (okLen (List.length a0.f_l + List.length [(⟨a1.Zdf, t2, a1.f_Of⟩ : Zc)]) 40) (some (IntKind.wrap .i64 ((List.length (a0.f_l ++ [(⟨a1.Zdf, t2, a1.f_Of⟩ : Zc)]) : Int) - 1), 0, (⟨a0.Zbd, a0.f_l ++ [(⟨a1.Zdf, t2, a1.f_Of⟩ : Zc)], (⟨pack 12 false a0.f_t.Zk, pack 12 0 a0.f_t.Zi⟩ : Zd)⟩ : Ze))) none))))
noncomputable def Zbu.i : Lay U (Ze × Zc) := (pcGh 1000000000000000 7000000000000 (pcAnd (pcOne 0 (Zbv 7000000000000 7000000000000)) (pcOne 1 (tAt (vCd cd_Sapi_Entry))))).lay (fun _ => by kernel_rfl)
noncomputable def Zbu.r : Lay U (Int × Int × Ze) := (pcIso (pcAnd (pcTup 0 (tqCons (tAt (vInt .i64)) (tqOne (tAt (vInt .i64))))) (pcOne 1000000000000000 (Zbv 7000000000000 7000000000000))) (fun x => ((x.1.1, x.1.2, x.2) : (Int × Int × Ze))) (fun x => ((x.1, x.2.1), x.2.2)) (fun _ => rfl)).lay (fun _ => by kernel_rfl)
noncomputable def Zbu.D (k : Nat) : FDen U := fdn Zbu.i Zbu.r Tryz.f56.ntmps [0] false (fun x => Zbu.f k (x.1) (x.2)) (fun h => by cases h)
noncomputable def Zbu.E (k : Nat) : Env U := mkE Tryz.f56 [Zcb.pk k, Zp.pk k] [] [] [] n0 n0 [0] false n00 nl0 []
theorem Zbu.eq (k : Nat) (x : (Ze × Zc)) : runF (Zbu.E k) (codeOf Tryz.f56) (Zbu.i.put x) Zbu.r.un = Zbu.f k (x.1) (x.2) := by kernel_rfl
theorem Zbu.sound (k : Nat) : Sound Tryz.prog DD 56 (Zbu.D k) :=
  funP (E := Zbu.E k) (fn := Tryz.f56) (c := codeOf Tryz.f56) (Zbq _ _ _ _ _ _ _ _ _ _ _ _) mixed rfl Tryz.func56 (by kernel_rfl) (by kernel_rfl) (Zan (l := []) (by kernel_rfl) Zaa) Zbu.i Zbu.r [0] false (fun x => Zbu.f k (x.1) (x.2)) (fun h => by cases h) (by kernel_rfl) (Zbu.eq k)
noncomputable def Zbu.pk (k : Nat) : Pk Tryz.prog DD := ⟨56, Zbu.D k, Zbu.sound k, Zal Tryz.func56 (by kernel_rfl) (by kernel_rfl)⟩
/-! ### (*pyx/ledger.Book).Reverse: function 82 -/
noncomputable def Zax.f (k : Nat) (a0 : Ze) (a1 : Int) (a2 : Int) : Option (Int × Int × Ze) := ((cond (decide (a1 < 0)) (some (a2, true, a0.Zbd, a0.f_l, (⟨pack 12 false a0.f_t.Zk, pack 12 0 a0.f_t.Zi⟩ : Zd), a1)) (some (a2, decide (a1 ≥ (List.length a0.f_l : Int)), a0.Zbd, a0.f_l, (⟨pack 12 false a0.f_t.Zk, pack 12 0 a0.f_t.Zi⟩ : Zd), a1))) : Option (Int × Bool × Int × List Zc × Zd × Int)).bind fun y31 => (cond (y31.2.1) (some (0, 10, (⟨y31.2.2.1, y31.2.2.2.1, (⟨pack 12 false y31.2.2.2.2.1.Zk, pack 12 0 y31.2.2.2.2.1.Zi⟩ : Zd)⟩ : Ze))) (((cond (inb y31.2.2.2.2.2 (List.length y31.2.2.2.1)) (cond (decide (((List.getD y31.2.2.2.1 (Int.toNat y31.2.2.2.2.2) Zc.zero).f_Of) ≥ 0)) (some (y31.1, y31.2.2.2.2.2, true, y31.2.2.1, y31.2.2.2.1, (⟨pack 12 false y31.2.2.2.2.1.Zk, pack 12 0 y31.2.2.2.2.1.Zi⟩ : Zd))) ((Zf.f k y31.2.2.2.1 y31.2.2.2.2.2).bind fun t62 => (some (y31.1, y31.2.2.2.2.2, t62, y31.2.2.1, y31.2.2.2.1, (⟨pack 12 false y31.2.2.2.2.1.Zk, pack 12 0 y31.2.2.2.2.1.Zi⟩ : Zd))))) none) : Option (Int × Int × Bool × Int × List Zc × Zd)).bind fun y63 => (cond (y63.2.2.1) (some (0, 13, (⟨y63.2.2.2.1, y63.2.2.2.2.1, (⟨pack 12 false y63.2.2.2.2.2.Zk, pack 12 0 y63.2.2.2.2.2.Zi⟩ : Zd)⟩ : Ze))) (cond (inb y63.2.1 (List.length y63.2.2.2.2.1)) ((Zbb.f k ((List.getD y63.2.2.2.2.1 (Int.toNat y63.2.1) Zc.zero).Zdc)).bind fun t64 => ((Zbu.f k (⟨y63.2.2.2.1, y63.2.2.2.2.1, (⟨pack 12 false y63.2.2.2.2.2.Zk, pack 12 0 y63.2.2.2.2.2.Zi⟩ : Zd)⟩ : Ze) (⟨y63.1, t64, y63.2.1⟩ : Zc)).bind fun t65 => (some (t65.1, t65.2.1, (⟨t65.2.2.Zbd, t65.2.2.f_l, (⟨pack 12 false t65.2.2.f_t.Zk, pack 12 0 t65.2.2.f_t.Zi⟩ : Zd)⟩ : Ze))))) none))))
noncomputable def Zax.i : Lay U (Ze × Int × Int) := (pcGh 1000000000000000 7000000000000 (pcAnd (pcOne 0 (Zbv 7000000000000 7000000000000)) (pcAnd (pcOne 1 (tAt (vInt .i64))) (pcOne 2 (tAt (vInt .i64)))))).lay (fun _ => by kernel_rfl)
noncomputable def Zax.r : Lay U (Int × Int × Ze) := (pcIso (pcAnd (pcTup 0 (tqCons (tAt (vInt .i64)) (tqOne (tAt (vInt .i64))))) (pcOne 1000000000000000 (Zbv 7000000000000 7000000000000))) (fun x => ((x.1.1, x.1.2, x.2) : (Int × Int × Ze))) (fun x => ((x.1, x.2.1), x.2.2)) (fun _ => rfl)).lay (fun _ => by kernel_rfl)
noncomputable def Zax.D (k : Nat) : FDen U := fdn Zax.i Zax.r Tryz.f82.ntmps [0] false (fun x => Zax.f k (x.1) (x.2.1) (x.2.2)) (fun h => by cases h)
noncomputable def Zax.j3000 : Jk U := ⟨(Int × Bool × Int × List Zc × Zd × Int), oNorm (lay [(0, sPtr 7000000000000 0), (4, sPtr 4 0), (1000000000000000, sPtr 7000000000000 0), (2, sAt (vInt .i64)), (11, sAt vBool)] [bLitT 7000000000000 [(vInt .i64), (vTip DD 700102300000001 C.Zc 3)] Zae, bLit 4 [(vInt .i64)]] (fun _ => by kernel_rfl))⟩
noncomputable def Zax.j5000 : Jk U := ⟨(Int × Int × Bool × Int × List Zc × Zd), oNorm (lay [(0, sPtr 7000000000000 0), (1000000000000000, sPtr 7000000000000 0), (2, sAt (vInt .i64)), (4, sRp [(vInt .i64)] 0), (23, sAt vBool)] [bLitT 7000000000000 [(vInt .i64), (vTip DD 700102500000001 C.Zc 3)] Zae] (fun _ => by kernel_rfl))⟩
noncomputable def Zax.E (k : Nat) : Env U := mkE Tryz.f82 [Zf.pk k, Zbb.pk k, Zbu.pk k] [(3000, Zax.j3000), (5000, Zax.j5000)] [] [] n0 n0 [0] false n00 nl0 []
theorem Zax.eq (k : Nat) (x : (Ze × Int × Int)) : runF (Zax.E k) (codeOf Tryz.f82) (Zax.i.put x) Zax.r.un = Zax.f k (x.1) (x.2.1) (x.2.2) := by kernel_rfl
theorem Zax.sound (k : Nat) : Sound Tryz.prog DD 82 (Zax.D k) :=
  funP (E := Zax.E k) (fn := Tryz.f82) (c := codeOf Tryz.f82) (Zbq _ _ _ _ _ _ _ _ _ _ _ _) mixed rfl Tryz.func82 (by kernel_rfl) (by kernel_rfl) (Zan (l := []) (by kernel_rfl) Zaa) Zax.i Zax.r [0] false (fun x => Zax.f k (x.1) (x.2.1) (x.2.2)) (fun h => by cases h) (by kernel_rfl) (Zax.eq k)
noncomputable def Zax.pk (k : Nat) : Pk Tryz.prog DD := ⟨82, Zax.D k, Zax.sound k, Zal Tryz.func82 (by kernel_rfl) (by kernel_rfl)⟩
/-! ### pyx/period.Reopen: function 87 -/
noncomputable def Zch.f (k : Nat) (a0 : Zd) (a1 : Int) : Option (Zd × Int) := (((Zdt.f k a1).bind fun t1 => (cond (!t1) (some (a1, true, (⟨pack 12 false a0.Zk, pack 12 0 a0.Zi⟩ : Zd), (⟨[false, false, false, false, false, false, false, false, false, false, false, false], [0, 0, 0, 0, 0, 0, 0, 0, 0, 0, 0, 0]⟩ : Zd))) (cond (inb a1 12) (cond (Nat.blt (Int.toNat a1) 12) (cond (!(List.getD (pack 12 false a0.Zk) (Int.toNat a1) false)) (some (a1, true, (⟨pack 12 false a0.Zk, pack 12 0 a0.Zi⟩ : Zd), (⟨[false, false, false, false, false, false, false, false, false, false, false, false], [0, 0, 0, 0, 0, 0, 0, 0, 0, 0, 0, 0]⟩ : Zd))) ((Zdt.f k (IntKind.wrap .i64 (a1 + 1))).bind fun t6 => (cond (t6) (cond (inb (IntKind.wrap .i64 (a1 + 1)) 12) (cond (Nat.blt (Int.toNat (IntKind.wrap .i64 (a1 + 1))) 12) (some (a1, List.getD (pack 12 false a0.Zk) (Int.toNat (IntKind.wrap .i64 (a1 + 1))) false, (⟨pack 12 false a0.Zk, pack 12 0 a0.Zi⟩ : Zd), (⟨[false, false, false, false, false, false, false, false, false, false, false, false], [0, 0, 0, 0, 0, 0, 0, 0, 0, 0, 0, 0]⟩ : Zd))) none) none) (some (a1, false, (⟨pack 12 false a0.Zk, pack 12 0 a0.Zi⟩ : Zd), (⟨[false, false, false, false, false, false, false, false, false, false, false, false], [0, 0, 0, 0, 0, 0, 0, 0, 0, 0, 0, 0]⟩ : Zd)))))) none) none))) : Option (Int × Bool × Zd × Zd)).bind fun y7 => (cond (y7.2.1) (some ((⟨[false, false, false, false, false, false, false, false, false, false, false, false], [0, 0, 0, 0, 0, 0, 0, 0, 0, 0, 0, 0]⟩ : Zd), 8)) (cond (inb y7.1 12) (cond (Nat.blt (Int.toNat y7.1) 12) (some ((⟨putAll (Int.toNat y7.1) false 0 (pack 12 false y7.2.2.1.Zk), pack 12 0 y7.2.2.1.Zi⟩ : Zd), 0)) none) none))
noncomputable def Zch.i : Lay U (Zd × Int) := (pcAnd (pcOne 0 (tAt (vCd Zae))) (pcOne 1 (tAt (vInt .i64)))).lay (fun _ => by kernel_rfl)
noncomputable def Zch.r : Lay U (Zd × Int) := (pcTup 0 (tqCons (tAt (vCd Zae)) (tqOne (tAt (vInt .i64))))).lay (fun _ => by kernel_rfl)
noncomputable def Zch.D (k : Nat) : FDen U := fdn Zch.i Zch.r Tryz.f87.ntmps [] true (fun x => Zch.f k (x.1) (x.2)) (fun _ _ => rfl)
noncomputable def Zch.j1000 : Jk U := ⟨(Int × Bool × Zd × Zd), oNorm (lay [(2, sPtr 2 0), (4, sPtr 4 0), (1, sAt (vInt .i64)), (27, sAt vBool)] [bCd 2 Zae, bCd 4 Zae] (fun _ => by kernel_rfl))⟩
noncomputable def Zch.E (k : Nat) : Env U := mkE Tryz.f87 [Zdt.pk k] [(1000, Zch.j1000)] [] [] (fun t => Nat.beq t 68) n0 [] false n00 nl0 []
theorem Zch.eq (k : Nat) (x : (Zd × Int)) : runF (Zch.E k) (codeOf Tryz.f87) (Zch.i.put x) Zch.r.un = Zch.f k (x.1) (x.2) := by kernel_rfl
theorem Zch.sound (k : Nat) : Sound Tryz.prog DD 87 (Zch.D k) :=
  funP (E := Zch.E k) (fn := Tryz.f87) (c := codeOf Tryz.f87) (Zbq _ _ _ _ _ _ _ _ _ _ _ _) mixed rfl Tryz.func87 (by kernel_rfl) (by kernel_rfl) (Zan (l := []) (by kernel_rfl) Zaa) Zch.i Zch.r [] true (fun x => Zch.f k (x.1) (x.2)) (fun _ _ => rfl) (by kernel_rfl) (Zch.eq k)
noncomputable def Zch.pk (k : Nat) : Pk Tryz.prog DD := ⟨87, Zch.D k, Zch.sound k, Zal Tryz.func87 (by kernel_rfl) (by kernel_rfl)⟩
/-! ### (*pyx/ledger.Book).turn: function 74 -/
noncomputable def Zv.f (k : Nat) (a0 : Ze) (a1 : Unit) (a2 : Int) : Option (Int × Ze) := (Zch.f k (⟨pack 12 false a0.f_t.Zk, pack 12 0 a0.f_t.Zi⟩ : Zd) a2).bind fun t1 => (cond (t1.2 == 0) (some (t1.2, (⟨a0.Zbd, a0.f_l, (⟨pack 12 false t1.1.Zk, pack 12 0 t1.1.Zi⟩ : Zd)⟩ : Ze))) (some (t1.2, (⟨a0.Zbd, a0.f_l, (⟨pack 12 false a0.f_t.Zk, pack 12 0 a0.f_t.Zi⟩ : Zd)⟩ : Ze))))
noncomputable def Zv.un (s : St U) : Option (Ze × Unit × Int) := match s.get 0, lk s.o 7000000000000, s.get 1, s.get 2, s.get 1000000000000000 with | .ptr 7000000000000 0, some (.lit (.flat (.int .i64 x1) :: x5 :: x3)), .fn 87 [], .flat (.int .i64 x6), .ptr 7000000000000 0 => (Zfg s.o 3 x5).bind fun ex2 => ((Zae.full x3).bind fun x4 => (some ((⟨x1, ex2.2, x4⟩ : Ze), (), x6))) | _, _, _, _, _ => none
noncomputable def Zv.mk (x : (Ze × Unit × Int)) : St U := ⟨[(0, .ptr 7000000000000 0), (1, .fn 87 []), (2, .flat (.int .i64 x.2.2)), (1000000000000000, .ptr 7000000000000 0)], [(7000000000000, .lit ((.flat (.int .i64 x.1.Zbd)) :: (.tip 7000000000002 C.Zc x.1.f_l) :: Zae.enc x.1.f_t)), (7000000000002, .tip 3)]⟩
noncomputable def Zv.fin (y : (Int × Ze)) : St U := ⟨[(0, .flat (.int .i64 y.1)), (1000000000000000, .ptr 7000000000000 0)], [(7000000000000, .lit ((.flat (.int .i64 y.2.Zbd)) :: (.tip 7000000000002 C.Zc y.2.f_l) :: Zae.enc y.2.f_t)), (7000000000002, .tip 3)]⟩
noncomputable def Zv.D (k : Nat) : FDen U := { X := (Ze × Unit × Int), Y := (Int × Ze), nt := 28, gh := [0], un := Zv.un, f := fun x => Zv.f k (x.1) (x.2.1) (x.2.2), fin := Zv.fin, cl := false, clo := fun h => by cases h }
noncomputable def Zv.re (s : St U) : Option (Int × Ze) := match s.get 0, s.get 1000000000000000, lk s.o 7000000000000 with | .flat (.int .i64 x1), .ptr 7000000000000 0, some (.lit (.flat (.int .i64 x2) :: x6 :: x4)) => (Zfg s.o 3 x6).bind fun ex3 => ((Zae.full x4).bind fun x5 => (some (x1, (⟨x2, ex3.2, x5⟩ : Ze)))) | _, _, _ => none
noncomputable def Zv.jl : List (Nat × JDen U) := []
noncomputable def Zv.fl (k : Nat) : List (Nat × FDen U) := [(87, Zch.D k)]
noncomputable def Zv.ll (k : Nat) : List (Nat × LDen U) := []
noncomputable def Zv.E (k : Nat) : Env U := { P := Tryz.prog, D := DD, fd := lk (Zv.fl k), sf := lk sl0, ld := lk (Zv.ll k), jd := lk Zv.jl, mode := lk [], elc := lk ec, mpc := lk mc, rts := Tryz.f74.resultTypes.toList, dyn := fun t => false, vecs := fun d => false, results := Tryz.f74.results.toList, gh := [0], own := false, io := fun g i => false, lds := nl0, fn := lk [] }
theorem Zv.ok (k : Nat) : EnvOk (Zv.E k) := envOk lawful (Zv.fl k) sl0 (Zv.ll k) Zv.jl _ _ _ _ _ _ _ _ _ _ _ [] (by
  intro p hp
  simp only [Zv.fl, List.mem_cons, List.not_mem_nil, or_false] at hp
  rcases hp with rfl
  · exact ⟨Zch.sound k, Zal Tryz.func87 (by kernel_rfl) (by kernel_rfl)⟩) sl0_ok (by
  intro p hp
  simp [Zv.jl] at hp) (fun _ h => (List.not_mem_nil h).elim)
theorem Zv.eq (k : Nat) (x : (Ze × Unit × Int)) : runF (Zv.E k) (codeOf Tryz.f74) (Zv.mk x) Zv.re = (Zv.D k).f x := by kernel_rfl
theorem Zv.fit (s : St U) (x : (Ze × Unit × Int)) (h : Zv.un s = some x) : Fits s (Zv.mk x) := by
  unfold Zv.un at h
  split at h
  · obtain ⟨ex2, hex2, hh1⟩ := Option.bind_eq_some_iff.1 h
    obtain ⟨x4, hx4, hh2⟩ := Option.bind_eq_some_iff.1 hh1
    cases hh2
    refine Zfe [(7000000000002, ex2.1)] ?_ ?_ ren_one rfl
    · exact List.forall_mem_cons.2 ⟨FV.one (FV.ptr (by assumption)), List.forall_mem_cons.2 ⟨FV.one (FV.same (by assumption) rfl), List.forall_mem_cons.2 ⟨FV.one (FV.same (by assumption) rfl), List.forall_mem_cons.2 ⟨FV.one (FV.ptr (by assumption)), fun _ hp => (List.not_mem_nil hp).elim⟩⟩⟩⟩
    · exact List.forall_mem_cons.2 ⟨FO.cells (show lk (St.o _) 7000000000000 = some _ from by assumption) (FCs.cons (c0_same rfl rfl) (FCs.cons ((Zel hex2 rfl).1) (FCs.tail (Cd.full_ok hx4) rfl))), List.forall_mem_cons.2 ⟨(Zel hex2 rfl).2, fun _ hp => (List.not_mem_nil hp).elim⟩⟩
  · cases h
theorem Zv.fitR (s : St U) (y : (Int × Ze)) (h : Zv.re s = some y) : Fits s (Zv.fin y) := by
  unfold Zv.re at h
  split at h
  · obtain ⟨ex3, hex3, hh1⟩ := Option.bind_eq_some_iff.1 h
    obtain ⟨x5, hx5, hh2⟩ := Option.bind_eq_some_iff.1 hh1
    cases hh2
    refine Zfe [(7000000000002, ex3.1)] ?_ ?_ ren_one rfl
    · exact List.forall_mem_cons.2 ⟨FV.one (FV.same (by assumption) rfl), List.forall_mem_cons.2 ⟨FV.one (FV.ptr (by assumption)), fun _ hp => (List.not_mem_nil hp).elim⟩⟩
    · exact List.forall_mem_cons.2 ⟨FO.cells (show lk (St.o _) 7000000000000 = some _ from by assumption) (FCs.cons (c0_same rfl rfl) (FCs.cons ((Zel hex3 rfl).1) (FCs.tail (Cd.full_ok hx5) rfl))), List.forall_mem_cons.2 ⟨(Zel hex3 rfl).2, fun _ hp => (List.not_mem_nil hp).elim⟩⟩
  · cases h
theorem Zv.sound (k : Nat) : Sound Tryz.prog DD 74 (Zv.D k) :=
  fun_sound (E := Zv.E k) (fn := Tryz.f74) (c := codeOf Tryz.f74) (Zv.ok k) mixed rfl Tryz.func74 (by kernel_rfl) (by kernel_rfl) (Zan (l := []) (by kernel_rfl) Zaa) (Zv.D k) Zv.mk Zv.re (by kernel_rfl) (by kernel_rfl) Zv.fit Zv.fitR (Zv.eq k)
noncomputable def Zv.pk (k : Nat) : Pk Tryz.prog DD := ⟨74, Zv.D k, Zv.sound k, Zal Tryz.func74 (by kernel_rfl) (by kernel_rfl)⟩
/-! ### (*pyx/ledger.Book).Reopen: function 34 -/
noncomputable def Zbh.f (k : Nat) (a0 : Ze) (a1 : Int) : Option (Int × Ze) := (Zv.f k (⟨a0.Zbd, a0.f_l, (⟨pack 12 false a0.f_t.Zk, pack 12 0 a0.f_t.Zi⟩ : Zd)⟩ : Ze) () a1).bind fun t1 => (some (t1.1, (⟨t1.2.Zbd, t1.2.f_l, (⟨pack 12 false t1.2.f_t.Zk, pack 12 0 t1.2.f_t.Zi⟩ : Zd)⟩ : Ze)))
noncomputable def Zbh.i : Lay U (Ze × Int) := (pcGh 1000000000000000 7000000000000 (pcAnd (pcOne 0 (Zbv 7000000000000 7000000000000)) (pcOne 1 (tAt (vInt .i64))))).lay (fun _ => by kernel_rfl)
noncomputable def Zbh.r : Lay U (Int × Ze) := (pcAnd (pcOne 0 (tAt (vInt .i64))) (pcOne 1000000000000000 (Zbv 7000000000000 7000000000000))).lay (fun _ => by kernel_rfl)
noncomputable def Zbh.D (k : Nat) : FDen U := fdn Zbh.i Zbh.r Tryz.f34.ntmps [0] false (fun x => Zbh.f k (x.1) (x.2)) (fun h => by cases h)
noncomputable def Zbh.E (k : Nat) : Env U := mkE Tryz.f34 [Zv.pk k] [] [] [] n0 n0 [0] false n00 nl0 []
theorem Zbh.eq (k : Nat) (x : (Ze × Int)) : runF (Zbh.E k) (codeOf Tryz.f34) (Zbh.i.put x) Zbh.r.un = Zbh.f k (x.1) (x.2) := by kernel_rfl
theorem Zbh.sound (k : Nat) : Sound Tryz.prog DD 34 (Zbh.D k) :=
  funP (E := Zbh.E k) (fn := Tryz.f34) (c := codeOf Tryz.f34) (Zbq _ _ _ _ _ _ _ _ _ _ _ _) mixed rfl Tryz.func34 (by kernel_rfl) (by kernel_rfl) (Zan (l := []) (by kernel_rfl) Zaa) Zbh.i Zbh.r [0] false (fun x => Zbh.f k (x.1) (x.2)) (fun h => by cases h) (by kernel_rfl) (Zbh.eq k)
noncomputable def Zbh.pk (k : Nat) : Pk Tryz.prog DD := ⟨34, Zbh.D k, Zbh.sound k, Zal Tryz.func34 (by kernel_rfl) (by kernel_rfl)⟩
/-! ### pyx/chart.Kind: function 44 -/
noncomputable def Zdd.f (k : Nat) (a0 : Int) : Option Int := ((cond (decide (a0 < 0)) (some (a0, true)) (some (a0, decide (a0 ≥ 16)))) : Option (Int × Bool)).bind fun y3 => (cond (y3.2) (some 0) (cond (decide (y3.1 ≤ 3)) (some 1) (cond (decide (y3.1 ≤ 6)) (some 2) (cond (decide (y3.1 ≤ 8)) (some 3) (some 4)))))
noncomputable def Zdd.i : Lay U Int := (pcOne 0 (tAt (vInt .i64))).lay (fun _ => by kernel_rfl)
noncomputable def Zdd.r : Lay U Int := (pcOne 0 (tAt (vInt .i64))).lay (fun _ => by kernel_rfl)
noncomputable def Zdd.D (k : Nat) : FDen U := fdn Zdd.i Zdd.r Tryz.f44.ntmps [] true (fun x => Zdd.f k (x)) (fun _ _ => rfl)
noncomputable def Zdd.j1000 : Jk U := ⟨(Int × Bool), oNorm (lay [(0, sAt (vInt .i64)), (3, sAt vBool)] [] (fun _ => by kernel_rfl))⟩
noncomputable def Zdd.E (k : Nat) : Env U := mkE Tryz.f44 [] [(1000, Zdd.j1000)] [] [] n0 n0 [] false n00 nl0 []
theorem Zdd.eq (k : Nat) (x : Int) : runF (Zdd.E k) (codeOf Tryz.f44) (Zdd.i.put x) Zdd.r.un = Zdd.f k (x) := by kernel_rfl
theorem Zdd.sound (k : Nat) : Sound Tryz.prog DD 44 (Zdd.D k) :=
  funP (E := Zdd.E k) (fn := Tryz.f44) (c := codeOf Tryz.f44) (Zbq _ _ _ _ _ _ _ _ _ _ _ _) mixed rfl Tryz.func44 (by kernel_rfl) (by kernel_rfl) (Zan (l := []) (by kernel_rfl) Zaa) Zdd.i Zdd.r [] true (fun x => Zdd.f k (x)) (fun _ _ => rfl) (by kernel_rfl) (Zdd.eq k)
noncomputable def Zdd.pk (k : Nat) : Pk Tryz.prog DD := ⟨44, Zdd.D k, Zdd.sound k, Zal Tryz.func44 (by kernel_rfl) (by kernel_rfl)⟩
end
end Go.Proofs.YtbchcjlllddlpaaGreat
