import Derived.Test.YtbchcjlllddlpaaGreatF3
/-! Functions, told; their equations with the evaluator; that they are sound. Written by gen.py. -/
namespace Go.Proofs.YtbchcjlllddlpaaGreat
open Go Go.Ev
noncomputable section
set_option linter.unusedVariables false
set_option linter.unusedSimpArgs false
set_option maxRecDepth 100000
abbrev T4a := (List Za × List Za × Int × Int)
/-! ### pyx/dec.ten: function 116 -/
noncomputable def Zex.f (k : Nat) (a0 : Int) : Option (Int × Int) := (Zdd.f k a0).bind fun t1 => (some (t1.1.1, t1.1.2))
noncomputable def Zex.i : Lay U Int := (pcOne 0 (tAt (vInt .i64))).lay (fun _ => by kernel_rfl)
noncomputable def Zex.r : Lay U (Int × Int) := (pcOne 0 (tAt (vCd (Cd.pair (Cd.int .u64) (Cd.int .u64))))).lay (fun _ => by kernel_rfl)
noncomputable def Zex.D (k : Nat) : FDen U := fdn Zex.i Zex.r Tryz.f116.ntmps [] true (fun x => Zex.f k (x)) (fun _ _ => rfl)
noncomputable def Zex.E (k : Nat) : Env U := mkE Tryz.f116 [Zdd.pk k] [] [] [] n0 n0 [] false n00 nl0 []
theorem Zex.eq (k : Nat) (x : Int) : runF (Zex.E k) (codeOf Tryz.f116) (Zex.i.put x) Zex.r.un = Zex.f k (x) := by kernel_rfl
theorem Zex.sound (k : Nat) : Sound Tryz.prog DD 116 (Zex.D k) :=
  funP (E := Zex.E k) (fn := Tryz.f116) (c := codeOf Tryz.f116) (Zbq _ _ _ _ _ _ _ _ _ _ _ _) mixed rfl Tryz.func116 (by kernel_rfl) (by kernel_rfl) (Zap (l := []) (by kernel_rfl) Zah) Zex.i Zex.r [] true (fun x => Zex.f k (x)) (fun _ _ => rfl) (by kernel_rfl) (Zex.eq k)
noncomputable def Zex.pk (k : Nat) : Pk Tryz.prog DD := ⟨116, Zex.D k, Zex.sound k, Zaq Tryz.func116 (by kernel_rfl) (by kernel_rfl)⟩
/-! ### pyx/limb.Cmp: function 149 -/
noncomputable def Zde.l2.once (k : Nat) (x : (Int × List Int × List Int)) : Option ((Int × List Int × List Int) ⊕ (Unit ⊕ Int)) := match x with | (x3, x1, x2) => cond (decide (x3 ≥ 0)) (cond (inb x3 2) (cond (Nat.blt (Int.toNat x3) 2) (cond (inb x3 2) (cond (Nat.blt (Int.toNat x3) 2) (cond ((List.getD x1 (Int.toNat x3) 0) != (List.getD x2 (Int.toNat x3) 0)) (cond (inb x3 2) (cond (Nat.blt (Int.toNat x3) 2) (cond (inb x3 2) (cond (Nat.blt (Int.toNat x3) 2) (cond (decide ((List.getD x1 (Int.toNat x3) 0) < (List.getD x2 (Int.toNat x3) 0))) (some (.inr (.inr (-1)))) (some (.inr (.inr 1)))) none) none) none) none) (some (.inl (IntKind.wrap .i64 (x3 - 1), x1, x2)))) none) none) none) none) (some (.inr (.inl ())))
noncomputable def Zde.f (k : Nat) (a0 : (Int × Int)) (a1 : (Int × Int)) : Option Int := (iter (Zde.l2.once k) k (1, [a0.1, a0.2], [a1.1, a1.2])).bind fun | .inl y5 => (some 0) | .inr y6 => (some y6)
noncomputable def Zde.i : Lay U ((Int × Int) × (Int × Int)) := (pcAnd (pcOne 0 (tAt (vCd (Cd.pair (Cd.int .u64) (Cd.int .u64))))) (pcOne 1 (tAt (vCd (Cd.pair (Cd.int .u64) (Cd.int .u64)))))).lay (fun _ => by kernel_rfl)
noncomputable def Zde.r : Lay U Int := (pcOne 0 (tAt (vInt .i64))).lay (fun _ => by kernel_rfl)
noncomputable def Zde.D (k : Nat) : FDen U := fdn Zde.i Zde.r Tryz.f149.ntmps [] true (fun x => Zde.f k (x.1) (x.2)) (fun _ _ => rfl)
noncomputable def Zde.l2.i : Lay U (Int × List Int × List Int) := (lay [(2, sPtr 2 0), (3, sPtr 3 0), (5, sAt (vInt .i64))] [bArr DD 2 2 C.u64, bArr DD 3 2 C.u64] (fun _ => by kernel_rfl))
noncomputable def Zde.l2.o : OLay U (Unit ⊕ Int) := oOr (oExit 0 (lay [] [] (fun _ => by kernel_rfl))) (oRet Zde.r)
noncomputable def Zde.E (k : Nat) : Env U := mkE Tryz.f149 [] [] [(2, ldn Zde.l2.i Zde.l2.o (iter (Zde.l2.once k) k))] [(38, (2, C.u64))] n0 n0 [] false n00 nl0 []
theorem Zde.l2.eq (k : Nat) (x : (Int × List Int × List Int)) : evC (Zde.E k) (loopAt Tryz.f149 2) (Zde.l2.i.put x) (headK Zde.l2.i.un Zde.l2.o.re) = Zde.l2.once k x := by kernel_rfl
theorem Zde.l2.sound (k : Nat) : LSound (Zde.E k) Tryz.f149.ntmps Tryz.f149 (loopAt Tryz.f149 2) (ldn Zde.l2.i Zde.l2.o (iter (Zde.l2.once k) k)) :=
  loopP (Zbq _ _ _ _ _ _ _ _ _ _ _ _) mixed rfl (by kernel_rfl) (Zap (l := []) (by kernel_rfl) Zah) Zde.l2.i Zde.l2.o (Zde.l2.once k) k (Zde.l2.eq k)
theorem Zde.eq (k : Nat) (x : ((Int × Int) × (Int × Int))) : runF (Zde.E k) (codeOf Tryz.f149) (Zde.i.put x) Zde.r.un = Zde.f k (x.1) (x.2) := by kernel_rfl
theorem Zde.sound (k : Nat) : Sound Tryz.prog DD 149 (Zde.D k) :=
  funP (E := Zde.E k) (fn := Tryz.f149) (c := codeOf Tryz.f149) (Zbq _ _ _ _ _ _ _ _ _ _ _ _) mixed rfl Tryz.func149 (by kernel_rfl) (by kernel_rfl) (Zap (l := [loopAt Tryz.f149 2]) (by kernel_rfl) (Zdj (key := 2) (by kernel_rfl) rfl (Zde.l2.sound k) Zah)) Zde.i Zde.r [] true (fun x => Zde.f k (x.1) (x.2)) (fun _ _ => rfl) (by kernel_rfl) (Zde.eq k)
noncomputable def Zde.pk (k : Nat) : Pk Tryz.prog DD := ⟨149, Zde.D k, Zde.sound k, Zaq Tryz.func149 (by kernel_rfl) (by kernel_rfl)⟩
/-! ### pyx/dec.small: function 115 -/
noncomputable def Zdy.f (k : Nat) (a0 : (Int × Int)) : Option Bool := (Zex.f k 30).bind fun t1 => ((Zde.f k (a0.1, a0.2) (t1.1, t1.2)).bind fun t2 => (some (decide (t2 < 0))))
noncomputable def Zdy.i : Lay U (Int × Int) := (pcOne 0 (tAt (vCd (Cd.pair (Cd.int .u64) (Cd.int .u64))))).lay (fun _ => by kernel_rfl)
noncomputable def Zdy.r : Lay U Bool := (pcOne 0 (tAt vBool)).lay (fun _ => by kernel_rfl)
noncomputable def Zdy.D (k : Nat) : FDen U := fdn Zdy.i Zdy.r Tryz.f115.ntmps [] true (fun x => Zdy.f k (x)) (fun _ _ => rfl)
noncomputable def Zdy.E (k : Nat) : Env U := mkE Tryz.f115 [Zex.pk k, Zde.pk k] [] [] [] n0 n0 [] false n00 nl0 []
theorem Zdy.eq (k : Nat) (x : (Int × Int)) : runF (Zdy.E k) (codeOf Tryz.f115) (Zdy.i.put x) Zdy.r.un = Zdy.f k (x) := by kernel_rfl
theorem Zdy.sound (k : Nat) : Sound Tryz.prog DD 115 (Zdy.D k) :=
  funP (E := Zdy.E k) (fn := Tryz.f115) (c := codeOf Tryz.f115) (Zbq _ _ _ _ _ _ _ _ _ _ _ _) mixed rfl Tryz.func115 (by kernel_rfl) (by kernel_rfl) (Zap (l := []) (by kernel_rfl) Zah) Zdy.i Zdy.r [] true (fun x => Zdy.f k (x)) (fun _ _ => rfl) (by kernel_rfl) (Zdy.eq k)
noncomputable def Zdy.pk (k : Nat) : Pk Tryz.prog DD := ⟨115, Zdy.D k, Zdy.sound k, Zaq Tryz.func115 (by kernel_rfl) (by kernel_rfl)⟩
/-! ### pyx/dec.nought: function 96 -/
noncomputable def Zcy.f (k : Nat) (a0 : (Int × Int)) : Option Bool := some ((a0.1 == 0) && (a0.2 == 0))
noncomputable def Zcy.i : Lay U (Int × Int) := (pcOne 0 (tAt (vCd (Cd.pair (Cd.int .u64) (Cd.int .u64))))).lay (fun _ => by kernel_rfl)
noncomputable def Zcy.r : Lay U Bool := (pcOne 0 (tAt vBool)).lay (fun _ => by kernel_rfl)
noncomputable def Zcy.D (k : Nat) : FDen U := fdn Zcy.i Zcy.r Tryz.f96.ntmps [] true (fun x => Zcy.f k (x)) (fun _ _ => rfl)
noncomputable def Zcy.E (k : Nat) : Env U := mkE Tryz.f96 [] [] [] [] n0 n0 [] false n00 nl0 []
theorem Zcy.eq (k : Nat) (x : (Int × Int)) : runF (Zcy.E k) (codeOf Tryz.f96) (Zcy.i.put x) Zcy.r.un = Zcy.f k (x) := by kernel_rfl
theorem Zcy.sound (k : Nat) : Sound Tryz.prog DD 96 (Zcy.D k) :=
  funP (E := Zcy.E k) (fn := Tryz.f96) (c := codeOf Tryz.f96) (Zbq _ _ _ _ _ _ _ _ _ _ _ _) mixed rfl Tryz.func96 (by kernel_rfl) (by kernel_rfl) (Zap (l := []) (by kernel_rfl) Zah) Zcy.i Zcy.r [] true (fun x => Zcy.f k (x)) (fun _ _ => rfl) (by kernel_rfl) (Zcy.eq k)
noncomputable def Zcy.pk (k : Nat) : Pk Tryz.prog DD := ⟨96, Zcy.D k, Zcy.sound k, Zaq Tryz.func96 (by kernel_rfl) (by kernel_rfl)⟩
/-! ### pyx/dec.Right: function 65 -/
noncomputable def Zdl.f (k : Nat) (a0 : Zg) : Option Bool := (Zdy.f k (a0.f_C.1, a0.f_C.2)).bind fun t1 => (cond (t1) (cond (decide (a0.Zo ≥ 0)) (cond (decide (a0.Zo ≤ 9)) (cond (a0.f_Neg) ((Zcy.f k (a0.f_C.1, a0.f_C.2)).bind fun t2 => (some (!t2))) (some true)) (some false)) (some false)) (some false))
noncomputable def Zdl.i : Lay U Zg := (pcOne 0 (tAt (vCd Zdo))).lay (fun _ => by kernel_rfl)
noncomputable def Zdl.r : Lay U Bool := (pcOne 0 (tAt vBool)).lay (fun _ => by kernel_rfl)
noncomputable def Zdl.D (k : Nat) : FDen U := fdn Zdl.i Zdl.r Tryz.f65.ntmps [] true (fun x => Zdl.f k (x)) (fun _ _ => rfl)
noncomputable def Zdl.E (k : Nat) : Env U := mkE Tryz.f65 [Zdy.pk k, Zcy.pk k] [] [] [] n0 n0 [] false n00 nl0 []
theorem Zdl.eq (k : Nat) (x : Zg) : runF (Zdl.E k) (codeOf Tryz.f65) (Zdl.i.put x) Zdl.r.un = Zdl.f k (x) := by kernel_rfl
theorem Zdl.sound (k : Nat) : Sound Tryz.prog DD 65 (Zdl.D k) :=
  funP (E := Zdl.E k) (fn := Tryz.f65) (c := codeOf Tryz.f65) (Zbq _ _ _ _ _ _ _ _ _ _ _ _) mixed rfl Tryz.func65 (by kernel_rfl) (by kernel_rfl) (Zap (l := []) (by kernel_rfl) Zah) Zdl.i Zdl.r [] true (fun x => Zdl.f k (x)) (fun _ _ => rfl) (by kernel_rfl) (Zdl.eq k)
noncomputable def Zdl.pk (k : Nat) : Pk Tryz.prog DD := ⟨65, Zdl.D k, Zdl.sound k, Zaq Tryz.func65 (by kernel_rfl) (by kernel_rfl)⟩
/-! ### pyx/dec.Neg: function 47 -/
noncomputable def Zeu.f (k : Nat) (a0 : Zg) : Option Zg := (Zdl.f k (⟨a0.f_Neg, (a0.f_C.1, a0.f_C.2), a0.Zo⟩ : Zg)).bind fun t1 => (cond (!t1) (some (⟨false, (0, 0), 0⟩ : Zg)) (cond (!a0.f_Neg) ((Zcy.f k (a0.f_C.1, a0.f_C.2)).bind fun t2 => (some (⟨!t2, (a0.f_C.1, a0.f_C.2), a0.Zo⟩ : Zg))) (some (⟨false, (a0.f_C.1, a0.f_C.2), a0.Zo⟩ : Zg))))
noncomputable def Zeu.i : Lay U Zg := (pcOne 0 (tAt (vCd Zdo))).lay (fun _ => by kernel_rfl)
noncomputable def Zeu.r : Lay U Zg := (pcOne 0 (tAt (vCd Zdo))).lay (fun _ => by kernel_rfl)
noncomputable def Zeu.D (k : Nat) : FDen U := fdn Zeu.i Zeu.r Tryz.f47.ntmps [] true (fun x => Zeu.f k (x)) (fun _ _ => rfl)
noncomputable def Zeu.E (k : Nat) : Env U := mkE Tryz.f47 [Zdl.pk k, Zcy.pk k] [] [] [] n0 n0 [] false n00 nl0 []
theorem Zeu.eq (k : Nat) (x : Zg) : runF (Zeu.E k) (codeOf Tryz.f47) (Zeu.i.put x) Zeu.r.un = Zeu.f k (x) := by kernel_rfl
theorem Zeu.sound (k : Nat) : Sound Tryz.prog DD 47 (Zeu.D k) :=
  funP (E := Zeu.E k) (fn := Tryz.f47) (c := codeOf Tryz.f47) (Zbq _ _ _ _ _ _ _ _ _ _ _ _) mixed rfl Tryz.func47 (by kernel_rfl) (by kernel_rfl) (Zap (l := []) (by kernel_rfl) Zah) Zeu.i Zeu.r [] true (fun x => Zeu.f k (x)) (fun _ _ => rfl) (by kernel_rfl) (Zeu.eq k)
noncomputable def Zeu.pk (k : Nat) : Pk Tryz.prog DD := ⟨47, Zeu.D k, Zeu.sound k, Zaq Tryz.func47 (by kernel_rfl) (by kernel_rfl)⟩
/-! ### pyx/entry.Turned: function 133 -/
noncomputable def Zbi.l3.once (k : Nat) (x : T4a) : Option (T4a ⊕ (List Za)) := match x with | (x1, x2, x3, x4) => cond (decide (x4 < x3)) (cond (inb x4 (List.length x2)) ((Zeu.f k (⟨((List.getD x2 (Int.toNat x4) Za.zero).Zp).f_Neg, ((((List.getD x2 (Int.toNat x4) Za.zero).Zp).f_C).1, (((List.getD x2 (Int.toNat x4) Za.zero).Zp).f_C).2), ((List.getD x2 (Int.toNat x4) Za.zero).Zp).Zo⟩ : Zg)).bind fun t5 => (cond (okLen (List.length x1 + List.length [(⟨(List.getD x2 (Int.toNat x4) Za.zero).Zdx, (⟨t5.f_Neg, (t5.f_C.1, t5.f_C.2), t5.Zo⟩ : Zg), (List.getD x2 (Int.toNat x4) Za.zero).Zet⟩ : Za)]) 48) (some (.inl (x1 ++ [(⟨(List.getD x2 (Int.toNat x4) Za.zero).Zdx, (⟨t5.f_Neg, (t5.f_C.1, t5.f_C.2), t5.Zo⟩ : Zg), (List.getD x2 (Int.toNat x4) Za.zero).Zet⟩ : Za)], x2, x3, IntKind.wrap .i64 (x4 + 1)))) none)) none) (some (.inr x1))
noncomputable def Zbi.f (k : Nat) (a0 : List Za) : Option (List Za) := (iter (Zbi.l3.once k) k (([] : List Za), a0, (List.length a0 : Int), 0)).bind fun y7 => (some y7)
noncomputable def Zbi.i : Lay U (List Za) := (pcOne 0 (tAt (vRow DD C.Za))).lay (fun _ => by kernel_rfl)
noncomputable def Zbi.r : Lay U (List Za) := (pcOne 0 (tAt (vRow DD C.Za))).lay (fun _ => by kernel_rfl)
noncomputable def Zbi.D (k : Nat) : FDen U := fdn Zbi.i Zbi.r Tryz.f133.ntmps [] true (fun x => Zbi.f k (x)) (fun _ _ => rfl)
noncomputable def Zbi.l3.i : Lay U T4a := (lay [(3, sAt (vTip DD 1003003 C.Za 6)), (6, sAt (vRow DD C.Za)), (7, sAt (vInt .i64)), (8, sAt (vInt .i64))] [] (fun _ => by kernel_rfl))
noncomputable def Zbi.l3.o : OLay U (List Za) := oExit 0 (lay [(3, sAt (vTip DD 1003003 C.Za 6))] [] (fun _ => by kernel_rfl))
noncomputable def Zbi.E (k : Nat) : Env U := mkE Tryz.f133 [Zeu.pk k] [] [(3, ldn Zbi.l3.i Zbi.l3.o (iter (Zbi.l3.once k) k))] [] n0 n0 [] false n00 nl0 []
theorem Zbi.l3.eq (k : Nat) (x : T4a) : evC (Zbi.E k) (loopAt Tryz.f133 3) (Zbi.l3.i.put x) (headK Zbi.l3.i.un Zbi.l3.o.re) = Zbi.l3.once k x := by kernel_rfl
theorem Zbi.l3.sound (k : Nat) : LSound (Zbi.E k) Tryz.f133.ntmps Tryz.f133 (loopAt Tryz.f133 3) (ldn Zbi.l3.i Zbi.l3.o (iter (Zbi.l3.once k) k)) :=
  loopP (Zbq _ _ _ _ _ _ _ _ _ _ _ _) mixed rfl (by kernel_rfl) (Zap (l := []) (by kernel_rfl) Zah) Zbi.l3.i Zbi.l3.o (Zbi.l3.once k) k (Zbi.l3.eq k)
theorem Zbi.eq (k : Nat) (x : List Za) : runF (Zbi.E k) (codeOf Tryz.f133) (Zbi.i.put x) Zbi.r.un = Zbi.f k (x) := by kernel_rfl
theorem Zbi.sound (k : Nat) : Sound Tryz.prog DD 133 (Zbi.D k) :=
  funP (E := Zbi.E k) (fn := Tryz.f133) (c := codeOf Tryz.f133) (Zbq _ _ _ _ _ _ _ _ _ _ _ _) mixed rfl Tryz.func133 (by kernel_rfl) (by kernel_rfl) (Zap (l := [loopAt Tryz.f133 3]) (by kernel_rfl) (Zdj (key := 3) (by kernel_rfl) rfl (Zbi.l3.sound k) Zah)) Zbi.i Zbi.r [] true (fun x => Zbi.f k (x)) (fun _ _ => rfl) (by kernel_rfl) (Zbi.eq k)
noncomputable def Zbi.pk (k : Nat) : Pk Tryz.prog DD := ⟨133, Zbi.D k, Zbi.sound k, Zaq Tryz.func133 (by kernel_rfl) (by kernel_rfl)⟩
/-! ### slices.Clone[[]pyx/api.Line,pyx/api.Line]: function 109 -/
noncomputable def Zs.f (k : Nat) (a0 : List Za) : Option (List Za) := cond (okLen (List.length ([] : List Za) + List.length a0) 48) (some (([] : List Za) ++ a0)) none
noncomputable def Zs.un (s : St U) : Option (List Za) := match s.get 0 with | .row C.Za x1 => some x1 | _ => none
noncomputable def Zs.mk (x : List Za) : St U := ⟨[(0, .row C.Za x)], []⟩
noncomputable def Zs.fin (y : List Za) : St U := ⟨[(0, .row C.Za y)], []⟩
noncomputable def Zs.D (k : Nat) : FDen U := { X := List Za, Y := List Za, nt := 8, gh := [], un := Zs.un, f := fun x => Zs.f k (x), fin := Zs.fin, cl := true, clo := fun _ _ => rfl }
noncomputable def Zs.re (s : St U) : Option (List Za) := match s.get 0 with | .row C.Za x1 => some x1 | _ => none
noncomputable def Zs.jl : List (Nat × JDen U) := []
noncomputable def Zs.fl (k : Nat) : List (Nat × FDen U) := []
noncomputable def Zs.ll (k : Nat) : List (Nat × LDen U) := []
noncomputable def Zs.E (k : Nat) : Env U := { P := Tryz.prog, D := DD, fd := lk (Zs.fl k), sf := lk sl0, ld := lk (Zs.ll k), jd := lk Zs.jl, mode := lk [], elc := lk ec, mpc := lk mc, rts := Tryz.f109.resultTypes.toList, dyn := fun t => false, vecs := fun d => false, results := Tryz.f109.results.toList, gh := [], own := false, io := fun g i => false, lds := nl0, fn := lk [] }
theorem Zs.ok (k : Nat) : EnvOk (Zs.E k) := envOk lawful (Zs.fl k) sl0 (Zs.ll k) Zs.jl _ _ _ _ _ _ _ _ _ _ _ [] (by
  intro p hp
  simp [Zs.fl] at hp) sl0_ok (by
  intro p hp
  simp [Zs.jl] at hp) (fun _ h => (List.not_mem_nil h).elim)
theorem Zs.fitR (s : St U) (y : List Za) (h : Zs.re s = some y) : Fits s (Zs.fin y) := by
  unfold Zs.re at h
  split at h
  · cases h
    refine Zfl [] ?_ ?_ ren_nil rfl
    · exact List.forall_mem_cons.2 ⟨FV.one (FV.same (by assumption) rfl), fun _ hp => (List.not_mem_nil hp).elim⟩
    · exact fun _ hp => (List.not_mem_nil hp).elim
  · cases h
noncomputable def Zs.mkn (g : Bool) (x : List Za) : St U := ⟨[(0, .nrow g C.Za x)], []⟩
theorem Zs.eq (k : Nat) (x : List Za) : runF (Zs.E k) (codeOf Tryz.f109) (Zs.mkn true x) Zs.re = (Zs.D k).f x := by kernel_rfl
theorem Zs.eqN (k : Nat) : runF (Zs.E k) (codeOf Tryz.f109) (Zs.mkn false []) Zs.re = (Zs.D k).f [] := by kernel_rfl
theorem Zs.sound (k : Nat) : Sound Tryz.prog DD 109 (Zs.D k) :=
  fun_sound_nil (E := Zs.E k) (fn := Tryz.f109) (c := codeOf Tryz.f109) (Zs.ok k) mixed rfl Tryz.func109 (by kernel_rfl) (by kernel_rfl) (Zap (l := []) (by kernel_rfl) Zah) C.Za (Zs.D k) Zs.mkn (fun x => x) Zs.re (by kernel_rfl) (by kernel_rfl)
    (by intro m x h; replace h : Zs.un m = some x := h; unfold Zs.un at h; split at h; · cases h; assumption
        · cases h)
    (fun _ _ => rfl) Zs.fitR (Zs.eq k) (by intro x h; replace h : x = [] := h; subst h; exact Zs.eqN k)
noncomputable def Zs.pk (k : Nat) : Pk Tryz.prog DD := ⟨109, Zs.D k, Zs.sound k, Zaq Tryz.func109 (by kernel_rfl) (by kernel_rfl)⟩
/-! ### (*pyx/ledger.Book).add: function 56 -/
noncomputable def Zcf.f (k : Nat) (a0 : Zi) (a1 : Zc) : Option (Int × Int × Zi) := (Zcl.f k (⟨pack 12 false a0.f_t.Zk, pack 12 0 a0.f_t.Zh⟩ : Ze) a1.Zdi).bind fun t1 => (cond (!t1) (some (0, 8, (⟨a0.Zbw, a0.f_l, (⟨pack 12 false a0.f_t.Zk, pack 12 0 a0.f_t.Zh⟩ : Ze)⟩ : Zi))) (cond ((List.length a0.f_l : Int) == 40) (some (0, 5, (⟨a0.Zbw, a0.f_l, (⟨pack 12 false a0.f_t.Zk, pack 12 0 a0.f_t.Zh⟩ : Ze)⟩ : Zi))) ((Zs.f k a1.Zdm).bind fun t2 => (cond (okLen (List.length a0.f_l + List.length [(⟨a1.Zdi, t2, a1.f_Of⟩ : Zc)]) 40) (some (IntKind.wrap .i64 ((List.length (a0.f_l ++ [(⟨a1.Zdi, t2, a1.f_Of⟩ : Zc)]) : Int) - 1), 0, (⟨a0.Zbw, a0.f_l ++ [(⟨a1.Zdi, t2, a1.f_Of⟩ : Zc)], (⟨pack 12 false a0.f_t.Zk, pack 12 0 a0.f_t.Zh⟩ : Ze)⟩ : Zi))) none))))
noncomputable def Zcf.i : Lay U (Zi × Zc) := (pcGh 1000000000000000 7000000000000 (pcAnd (pcOne 0 (Zcg 7000000000000 7000000000000)) (pcOne 1 (tAt (vCd cd_Sapi_Entry))))).lay (fun _ => by kernel_rfl)
noncomputable def Zcf.r : Lay U (Int × Int × Zi) := (pcIso (pcAnd (pcTup 0 (tqCons (tAt (vInt .i64)) (tqOne (tAt (vInt .i64))))) (pcOne 1000000000000000 (Zcg 7000000000000 7000000000000))) (fun x => ((x.1.1, x.1.2, x.2) : (Int × Int × Zi))) (fun x => ((x.1, x.2.1), x.2.2)) (fun _ => rfl)).lay (fun _ => by kernel_rfl)
noncomputable def Zcf.D (k : Nat) : FDen U := fdn Zcf.i Zcf.r Tryz.f56.ntmps [0] false (fun x => Zcf.f k (x.1) (x.2)) (fun h => by cases h)
noncomputable def Zcf.E (k : Nat) : Env U := mkE Tryz.f56 [Zcl.pk k, Zs.pk k] [] [] [] n0 n0 [0] false n00 nl0 []
theorem Zcf.eq (k : Nat) (x : (Zi × Zc)) : runF (Zcf.E k) (codeOf Tryz.f56) (Zcf.i.put x) Zcf.r.un = Zcf.f k (x.1) (x.2) := by kernel_rfl
theorem Zcf.sound (k : Nat) : Sound Tryz.prog DD 56 (Zcf.D k) :=
  funP (E := Zcf.E k) (fn := Tryz.f56) (c := codeOf Tryz.f56) (Zbq _ _ _ _ _ _ _ _ _ _ _ _) mixed rfl Tryz.func56 (by kernel_rfl) (by kernel_rfl) (Zap (l := []) (by kernel_rfl) Zah) Zcf.i Zcf.r [0] false (fun x => Zcf.f k (x.1) (x.2)) (fun h => by cases h) (by kernel_rfl) (Zcf.eq k)
noncomputable def Zcf.pk (k : Nat) : Pk Tryz.prog DD := ⟨56, Zcf.D k, Zcf.sound k, Zaq Tryz.func56 (by kernel_rfl) (by kernel_rfl)⟩
/-! ### (*pyx/ledger.Book).Reverse: function 82 -/
noncomputable def Zbe.f (k : Nat) (a0 : Zi) (a1 : Int) (a2 : Int) : Option (Int × Int × Zi) := ((cond (decide (a1 < 0)) (some (a2, true, a0.Zbw, a0.f_l, (⟨pack 12 false a0.f_t.Zk, pack 12 0 a0.f_t.Zh⟩ : Ze), a1)) (some (a2, decide (a1 ≥ (List.length a0.f_l : Int)), a0.Zbw, a0.f_l, (⟨pack 12 false a0.f_t.Zk, pack 12 0 a0.f_t.Zh⟩ : Ze), a1))) : Option (Int × Bool × Int × List Zc × Ze × Int)).bind fun y31 => (cond (y31.2.1) (some (0, 10, (⟨y31.2.2.1, y31.2.2.2.1, (⟨pack 12 false y31.2.2.2.2.1.Zk, pack 12 0 y31.2.2.2.2.1.Zh⟩ : Ze)⟩ : Zi))) (((cond (inb y31.2.2.2.2.2 (List.length y31.2.2.2.1)) (cond (decide (((List.getD y31.2.2.2.1 (Int.toNat y31.2.2.2.2.2) Zc.zero).f_Of) ≥ 0)) (some (y31.1, y31.2.2.2.2.2, true, y31.2.2.1, y31.2.2.2.1, (⟨pack 12 false y31.2.2.2.2.1.Zk, pack 12 0 y31.2.2.2.2.1.Zh⟩ : Ze))) ((Zj.f k y31.2.2.2.1 y31.2.2.2.2.2).bind fun t62 => (some (y31.1, y31.2.2.2.2.2, t62, y31.2.2.1, y31.2.2.2.1, (⟨pack 12 false y31.2.2.2.2.1.Zk, pack 12 0 y31.2.2.2.2.1.Zh⟩ : Ze))))) none) : Option (Int × Int × Bool × Int × List Zc × Ze)).bind fun y63 => (cond (y63.2.2.1) (some (0, 13, (⟨y63.2.2.2.1, y63.2.2.2.2.1, (⟨pack 12 false y63.2.2.2.2.2.Zk, pack 12 0 y63.2.2.2.2.2.Zh⟩ : Ze)⟩ : Zi))) (cond (inb y63.2.1 (List.length y63.2.2.2.2.1)) ((Zbi.f k ((List.getD y63.2.2.2.2.1 (Int.toNat y63.2.1) Zc.zero).Zdm)).bind fun t64 => ((Zcf.f k (⟨y63.2.2.2.1, y63.2.2.2.2.1, (⟨pack 12 false y63.2.2.2.2.2.Zk, pack 12 0 y63.2.2.2.2.2.Zh⟩ : Ze)⟩ : Zi) (⟨y63.1, t64, y63.2.1⟩ : Zc)).bind fun t65 => (some (t65.1, t65.2.1, (⟨t65.2.2.Zbw, t65.2.2.f_l, (⟨pack 12 false t65.2.2.f_t.Zk, pack 12 0 t65.2.2.f_t.Zh⟩ : Ze)⟩ : Zi))))) none))))
noncomputable def Zbe.i : Lay U (Zi × Int × Int) := (pcGh 1000000000000000 7000000000000 (pcAnd (pcOne 0 (Zcg 7000000000000 7000000000000)) (pcAnd (pcOne 1 (tAt (vInt .i64))) (pcOne 2 (tAt (vInt .i64)))))).lay (fun _ => by kernel_rfl)
noncomputable def Zbe.r : Lay U (Int × Int × Zi) := (pcIso (pcAnd (pcTup 0 (tqCons (tAt (vInt .i64)) (tqOne (tAt (vInt .i64))))) (pcOne 1000000000000000 (Zcg 7000000000000 7000000000000))) (fun x => ((x.1.1, x.1.2, x.2) : (Int × Int × Zi))) (fun x => ((x.1, x.2.1), x.2.2)) (fun _ => rfl)).lay (fun _ => by kernel_rfl)
noncomputable def Zbe.D (k : Nat) : FDen U := fdn Zbe.i Zbe.r Tryz.f82.ntmps [0] false (fun x => Zbe.f k (x.1) (x.2.1) (x.2.2)) (fun h => by cases h)
noncomputable def Zbe.j3000 : Jk U := ⟨(Int × Bool × Int × List Zc × Ze × Int), oNorm (lay [(0, sPtr 7000000000000 0), (4, sPtr 4 0), (1000000000000000, sPtr 7000000000000 0), (2, sAt (vInt .i64)), (11, sAt vBool)] [bLitT 7000000000000 [(vInt .i64), (vTip DD 700102300000001 C.Zc 3)] Zat, bLit 4 [(vInt .i64)]] (fun _ => by kernel_rfl))⟩
noncomputable def Zbe.j5000 : Jk U := ⟨(Int × Int × Bool × Int × List Zc × Ze), oNorm (lay [(0, sPtr 7000000000000 0), (1000000000000000, sPtr 7000000000000 0), (2, sAt (vInt .i64)), (4, sRp [(vInt .i64)] 0), (23, sAt vBool)] [bLitT 7000000000000 [(vInt .i64), (vTip DD 700102500000001 C.Zc 3)] Zat] (fun _ => by kernel_rfl))⟩
noncomputable def Zbe.E (k : Nat) : Env U := mkE Tryz.f82 [Zj.pk k, Zbi.pk k, Zcf.pk k] [(3000, Zbe.j3000), (5000, Zbe.j5000)] [] [] n0 n0 [0] false n00 nl0 []
theorem Zbe.eq (k : Nat) (x : (Zi × Int × Int)) : runF (Zbe.E k) (codeOf Tryz.f82) (Zbe.i.put x) Zbe.r.un = Zbe.f k (x.1) (x.2.1) (x.2.2) := by kernel_rfl
theorem Zbe.sound (k : Nat) : Sound Tryz.prog DD 82 (Zbe.D k) :=
  funP (E := Zbe.E k) (fn := Tryz.f82) (c := codeOf Tryz.f82) (Zbq _ _ _ _ _ _ _ _ _ _ _ _) mixed rfl Tryz.func82 (by kernel_rfl) (by kernel_rfl) (Zap (l := []) (by kernel_rfl) Zah) Zbe.i Zbe.r [0] false (fun x => Zbe.f k (x.1) (x.2.1) (x.2.2)) (fun h => by cases h) (by kernel_rfl) (Zbe.eq k)
noncomputable def Zbe.pk (k : Nat) : Pk Tryz.prog DD := ⟨82, Zbe.D k, Zbe.sound k, Zaq Tryz.func82 (by kernel_rfl) (by kernel_rfl)⟩
/-! ### pyx/period.Reopen: function 87 -/
noncomputable def Zct.f (k : Nat) (a0 : Ze) (a1 : Int) : Option (Ze × Int) := (((Zed.f k a1).bind fun t1 => (cond (!t1) (some (a1, true, (⟨pack 12 false a0.Zk, pack 12 0 a0.Zh⟩ : Ze), (⟨[false, false, false, false, false, false, false, false, false, false, false, false], [0, 0, 0, 0, 0, 0, 0, 0, 0, 0, 0, 0]⟩ : Ze))) (cond (inb a1 12) (cond (Nat.blt (Int.toNat a1) 12) (cond (!(List.getD (pack 12 false a0.Zk) (Int.toNat a1) false)) (some (a1, true, (⟨pack 12 false a0.Zk, pack 12 0 a0.Zh⟩ : Ze), (⟨[false, false, false, false, false, false, false, false, false, false, false, false], [0, 0, 0, 0, 0, 0, 0, 0, 0, 0, 0, 0]⟩ : Ze))) ((Zed.f k (IntKind.wrap .i64 (a1 + 1))).bind fun t6 => (cond (t6) (cond (inb (IntKind.wrap .i64 (a1 + 1)) 12) (cond (Nat.blt (Int.toNat (IntKind.wrap .i64 (a1 + 1))) 12) (some (a1, List.getD (pack 12 false a0.Zk) (Int.toNat (IntKind.wrap .i64 (a1 + 1))) false, (⟨pack 12 false a0.Zk, pack 12 0 a0.Zh⟩ : Ze), (⟨[false, false, false, false, false, false, false, false, false, false, false, false], [0, 0, 0, 0, 0, 0, 0, 0, 0, 0, 0, 0]⟩ : Ze))) none) none) (some (a1, false, (⟨pack 12 false a0.Zk, pack 12 0 a0.Zh⟩ : Ze), (⟨[false, false, false, false, false, false, false, false, false, false, false, false], [0, 0, 0, 0, 0, 0, 0, 0, 0, 0, 0, 0]⟩ : Ze)))))) none) none))) : Option (Int × Bool × Ze × Ze)).bind fun y7 => (cond (y7.2.1) (some ((⟨[false, false, false, false, false, false, false, false, false, false, false, false], [0, 0, 0, 0, 0, 0, 0, 0, 0, 0, 0, 0]⟩ : Ze), 8)) (cond (inb y7.1 12) (cond (Nat.blt (Int.toNat y7.1) 12) (some ((⟨putAll (Int.toNat y7.1) false 0 (pack 12 false y7.2.2.1.Zk), pack 12 0 y7.2.2.1.Zh⟩ : Ze), 0)) none) none))
noncomputable def Zct.i : Lay U (Ze × Int) := (pcAnd (pcOne 0 (tAt (vCd Zat))) (pcOne 1 (tAt (vInt .i64)))).lay (fun _ => by kernel_rfl)
noncomputable def Zct.r : Lay U (Ze × Int) := (pcTup 0 (tqCons (tAt (vCd Zat)) (tqOne (tAt (vInt .i64))))).lay (fun _ => by kernel_rfl)
noncomputable def Zct.D (k : Nat) : FDen U := fdn Zct.i Zct.r Tryz.f87.ntmps [] true (fun x => Zct.f k (x.1) (x.2)) (fun _ _ => rfl)
noncomputable def Zct.j1000 : Jk U := ⟨(Int × Bool × Ze × Ze), oNorm (lay [(2, sPtr 2 0), (4, sPtr 4 0), (1, sAt (vInt .i64)), (27, sAt vBool)] [bCd 2 Zat, bCd 4 Zat] (fun _ => by kernel_rfl))⟩
noncomputable def Zct.E (k : Nat) : Env U := mkE Tryz.f87 [Zed.pk k] [(1000, Zct.j1000)] [] [] (fun t => Nat.beq t 68) n0 [] false n00 nl0 []
theorem Zct.eq (k : Nat) (x : (Ze × Int)) : runF (Zct.E k) (codeOf Tryz.f87) (Zct.i.put x) Zct.r.un = Zct.f k (x.1) (x.2) := by kernel_rfl
theorem Zct.sound (k : Nat) : Sound Tryz.prog DD 87 (Zct.D k) :=
  funP (E := Zct.E k) (fn := Tryz.f87) (c := codeOf Tryz.f87) (Zbq _ _ _ _ _ _ _ _ _ _ _ _) mixed rfl Tryz.func87 (by kernel_rfl) (by kernel_rfl) (Zap (l := []) (by kernel_rfl) Zah) Zct.i Zct.r [] true (fun x => Zct.f k (x.1) (x.2)) (fun _ _ => rfl) (by kernel_rfl) (Zct.eq k)
noncomputable def Zct.pk (k : Nat) : Pk Tryz.prog DD := ⟨87, Zct.D k, Zct.sound k, Zaq Tryz.func87 (by kernel_rfl) (by kernel_rfl)⟩
/-! ### (*pyx/ledger.Book).turn: function 74 -/
noncomputable def Zaa.f (k : Nat) (a0 : Zi) (a1 : Unit) (a2 : Int) : Option (Int × Zi) := (Zct.f k (⟨pack 12 false a0.f_t.Zk, pack 12 0 a0.f_t.Zh⟩ : Ze) a2).bind fun t1 => (cond (t1.2 == 0) (some (t1.2, (⟨a0.Zbw, a0.f_l, (⟨pack 12 false t1.1.Zk, pack 12 0 t1.1.Zh⟩ : Ze)⟩ : Zi))) (some (t1.2, (⟨a0.Zbw, a0.f_l, (⟨pack 12 false a0.f_t.Zk, pack 12 0 a0.f_t.Zh⟩ : Ze)⟩ : Zi))))
noncomputable def Zaa.un (s : St U) : Option (Zi × Unit × Int) := match s.get 0, lk s.o 7000000000000, s.get 1, s.get 2, s.get 1000000000000000 with | .ptr 7000000000000 0, some (.lit (.flat (.int .i64 x1) :: x5 :: x3)), .fn 87 [], .flat (.int .i64 x6), .ptr 7000000000000 0 => (Zfn s.o 3 x5).bind fun ex2 => ((Zat.full x3).bind fun x4 => (some ((⟨x1, ex2.2, x4⟩ : Zi), (), x6))) | _, _, _, _, _ => none
noncomputable def Zaa.mk (x : (Zi × Unit × Int)) : St U := ⟨[(0, .ptr 7000000000000 0), (1, .fn 87 []), (2, .flat (.int .i64 x.2.2)), (1000000000000000, .ptr 7000000000000 0)], [(7000000000000, .lit ((.flat (.int .i64 x.1.Zbw)) :: (.tip 7000000000002 C.Zc x.1.f_l) :: Zat.enc x.1.f_t)), (7000000000002, .tip 3)]⟩
noncomputable def Zaa.fin (y : (Int × Zi)) : St U := ⟨[(0, .flat (.int .i64 y.1)), (1000000000000000, .ptr 7000000000000 0)], [(7000000000000, .lit ((.flat (.int .i64 y.2.Zbw)) :: (.tip 7000000000002 C.Zc y.2.f_l) :: Zat.enc y.2.f_t)), (7000000000002, .tip 3)]⟩
noncomputable def Zaa.D (k : Nat) : FDen U := { X := (Zi × Unit × Int), Y := (Int × Zi), nt := 28, gh := [0], un := Zaa.un, f := fun x => Zaa.f k (x.1) (x.2.1) (x.2.2), fin := Zaa.fin, cl := false, clo := fun h => by cases h }
noncomputable def Zaa.re (s : St U) : Option (Int × Zi) := match s.get 0, s.get 1000000000000000, lk s.o 7000000000000 with | .flat (.int .i64 x1), .ptr 7000000000000 0, some (.lit (.flat (.int .i64 x2) :: x6 :: x4)) => (Zfn s.o 3 x6).bind fun ex3 => ((Zat.full x4).bind fun x5 => (some (x1, (⟨x2, ex3.2, x5⟩ : Zi)))) | _, _, _ => none
noncomputable def Zaa.jl : List (Nat × JDen U) := []
noncomputable def Zaa.fl (k : Nat) : List (Nat × FDen U) := [(87, Zct.D k)]
noncomputable def Zaa.ll (k : Nat) : List (Nat × LDen U) := []
noncomputable def Zaa.E (k : Nat) : Env U := { P := Tryz.prog, D := DD, fd := lk (Zaa.fl k), sf := lk sl0, ld := lk (Zaa.ll k), jd := lk Zaa.jl, mode := lk [], elc := lk ec, mpc := lk mc, rts := Tryz.f74.resultTypes.toList, dyn := fun t => false, vecs := fun d => false, results := Tryz.f74.results.toList, gh := [0], own := false, io := fun g i => false, lds := nl0, fn := lk [] }
theorem Zaa.ok (k : Nat) : EnvOk (Zaa.E k) := envOk lawful (Zaa.fl k) sl0 (Zaa.ll k) Zaa.jl _ _ _ _ _ _ _ _ _ _ _ [] (by
  intro p hp
  simp only [Zaa.fl, List.mem_cons, List.not_mem_nil, or_false] at hp
  rcases hp with rfl
  · exact ⟨Zct.sound k, Zaq Tryz.func87 (by kernel_rfl) (by kernel_rfl)⟩) sl0_ok (by
  intro p hp
  simp [Zaa.jl] at hp) (fun _ h => (List.not_mem_nil h).elim)
theorem Zaa.eq (k : Nat) (x : (Zi × Unit × Int)) : runF (Zaa.E k) (codeOf Tryz.f74) (Zaa.mk x) Zaa.re = (Zaa.D k).f x := by kernel_rfl
theorem Zaa.fit (s : St U) (x : (Zi × Unit × Int)) (h : Zaa.un s = some x) : Fits s (Zaa.mk x) := by
  unfold Zaa.un at h
  split at h
  · obtain ⟨ex2, hex2, hh1⟩ := Option.bind_eq_some_iff.1 h
    obtain ⟨x4, hx4, hh2⟩ := Option.bind_eq_some_iff.1 hh1
    cases hh2
    refine Zfl [(7000000000002, ex2.1)] ?_ ?_ ren_one rfl
    · exact List.forall_mem_cons.2 ⟨FV.one (FV.ptr (by assumption)), List.forall_mem_cons.2 ⟨FV.one (FV.same (by assumption) rfl), List.forall_mem_cons.2 ⟨FV.one (FV.same (by assumption) rfl), List.forall_mem_cons.2 ⟨FV.one (FV.ptr (by assumption)), fun _ hp => (List.not_mem_nil hp).elim⟩⟩⟩⟩
    · exact List.forall_mem_cons.2 ⟨FO.cells (show lk (St.o _) 7000000000000 = some _ from by assumption) (FCs.cons (c0_same rfl rfl) (FCs.cons ((Zes hex2 rfl).1) (FCs.tail (Cd.full_ok hx4) rfl))), List.forall_mem_cons.2 ⟨(Zes hex2 rfl).2, fun _ hp => (List.not_mem_nil hp).elim⟩⟩
  · cases h
theorem Zaa.fitR (s : St U) (y : (Int × Zi)) (h : Zaa.re s = some y) : Fits s (Zaa.fin y) := by
  unfold Zaa.re at h
  split at h
  · obtain ⟨ex3, hex3, hh1⟩ := Option.bind_eq_some_iff.1 h
    obtain ⟨x5, hx5, hh2⟩ := Option.bind_eq_some_iff.1 hh1
    cases hh2
    refine Zfl [(7000000000002, ex3.1)] ?_ ?_ ren_one rfl
    · exact List.forall_mem_cons.2 ⟨FV.one (FV.same (by assumption) rfl), List.forall_mem_cons.2 ⟨FV.one (FV.ptr (by assumption)), fun _ hp => (List.not_mem_nil hp).elim⟩⟩
    · exact List.forall_mem_cons.2 ⟨FO.cells (show lk (St.o _) 7000000000000 = some _ from by assumption) (FCs.cons (c0_same rfl rfl) (FCs.cons ((Zes hex3 rfl).1) (FCs.tail (Cd.full_ok hx5) rfl))), List.forall_mem_cons.2 ⟨(Zes hex3 rfl).2, fun _ hp => (List.not_mem_nil hp).elim⟩⟩
  · cases h
theorem Zaa.sound (k : Nat) : Sound Tryz.prog DD 74 (Zaa.D k) :=
  fun_sound (E := Zaa.E k) (fn := Tryz.f74) (c := codeOf Tryz.f74) (Zaa.ok k) mixed rfl Tryz.func74 (by kernel_rfl) (by kernel_rfl) (Zap (l := []) (by kernel_rfl) Zah) (Zaa.D k) Zaa.mk Zaa.re (by kernel_rfl) (by kernel_rfl) Zaa.fit Zaa.fitR (Zaa.eq k)
noncomputable def Zaa.pk (k : Nat) : Pk Tryz.prog DD := ⟨74, Zaa.D k, Zaa.sound k, Zaq Tryz.func74 (by kernel_rfl) (by kernel_rfl)⟩
/-! ### (*pyx/ledger.Book).Reopen: function 34 -/
noncomputable def Zbv.f (k : Nat) (a0 : Zi) (a1 : Int) : Option (Int × Zi) := (Zaa.f k (⟨a0.Zbw, a0.f_l, (⟨pack 12 false a0.f_t.Zk, pack 12 0 a0.f_t.Zh⟩ : Ze)⟩ : Zi) () a1).bind fun t1 => (some (t1.1, (⟨t1.2.Zbw, t1.2.f_l, (⟨pack 12 false t1.2.f_t.Zk, pack 12 0 t1.2.f_t.Zh⟩ : Ze)⟩ : Zi)))
noncomputable def Zbv.i : Lay U (Zi × Int) := (pcGh 1000000000000000 7000000000000 (pcAnd (pcOne 0 (Zcg 7000000000000 7000000000000)) (pcOne 1 (tAt (vInt .i64))))).lay (fun _ => by kernel_rfl)
noncomputable def Zbv.r : Lay U (Int × Zi) := (pcAnd (pcOne 0 (tAt (vInt .i64))) (pcOne 1000000000000000 (Zcg 7000000000000 7000000000000))).lay (fun _ => by kernel_rfl)
noncomputable def Zbv.D (k : Nat) : FDen U := fdn Zbv.i Zbv.r Tryz.f34.ntmps [0] false (fun x => Zbv.f k (x.1) (x.2)) (fun h => by cases h)
noncomputable def Zbv.E (k : Nat) : Env U := mkE Tryz.f34 [Zaa.pk k] [] [] [] n0 n0 [0] false n00 nl0 []
theorem Zbv.eq (k : Nat) (x : (Zi × Int)) : runF (Zbv.E k) (codeOf Tryz.f34) (Zbv.i.put x) Zbv.r.un = Zbv.f k (x.1) (x.2) := by kernel_rfl
theorem Zbv.sound (k : Nat) : Sound Tryz.prog DD 34 (Zbv.D k) :=
  funP (E := Zbv.E k) (fn := Tryz.f34) (c := codeOf Tryz.f34) (Zbq _ _ _ _ _ _ _ _ _ _ _ _) mixed rfl Tryz.func34 (by kernel_rfl) (by kernel_rfl) (Zap (l := []) (by kernel_rfl) Zah) Zbv.i Zbv.r [0] false (fun x => Zbv.f k (x.1) (x.2)) (fun h => by cases h) (by kernel_rfl) (Zbv.eq k)
noncomputable def Zbv.pk (k : Nat) : Pk Tryz.prog DD := ⟨34, Zbv.D k, Zbv.sound k, Zaq Tryz.func34 (by kernel_rfl) (by kernel_rfl)⟩
/-! ### pyx/chart.Kind: function 44 -/
noncomputable def Zdp.f (k : Nat) (a0 : Int) : Option Int := ((cond (decide (a0 < 0)) (some (a0, true)) (some (a0, decide (a0 ≥ 16)))) : Option (Int × Bool)).bind fun y3 => (cond (y3.2) (some 0) (cond (decide (y3.1 ≤ 3)) (some 1) (cond (decide (y3.1 ≤ 6)) (some 2) (cond (decide (y3.1 ≤ 8)) (some 3) (some 4)))))
noncomputable def Zdp.i : Lay U Int := (pcOne 0 (tAt (vInt .i64))).lay (fun _ => by kernel_rfl)
noncomputable def Zdp.r : Lay U Int := (pcOne 0 (tAt (vInt .i64))).lay (fun _ => by kernel_rfl)
noncomputable def Zdp.D (k : Nat) : FDen U := fdn Zdp.i Zdp.r Tryz.f44.ntmps [] true (fun x => Zdp.f k (x)) (fun _ _ => rfl)
noncomputable def Zdp.j1000 : Jk U := ⟨(Int × Bool), oNorm (lay [(0, sAt (vInt .i64)), (3, sAt vBool)] [] (fun _ => by kernel_rfl))⟩
noncomputable def Zdp.E (k : Nat) : Env U := mkE Tryz.f44 [] [(1000, Zdp.j1000)] [] [] n0 n0 [] false n00 nl0 []
theorem Zdp.eq (k : Nat) (x : Int) : runF (Zdp.E k) (codeOf Tryz.f44) (Zdp.i.put x) Zdp.r.un = Zdp.f k (x) := by kernel_rfl
theorem Zdp.sound (k : Nat) : Sound Tryz.prog DD 44 (Zdp.D k) :=
  funP (E := Zdp.E k) (fn := Tryz.f44) (c := codeOf Tryz.f44) (Zbq _ _ _ _ _ _ _ _ _ _ _ _) mixed rfl Tryz.func44 (by kernel_rfl) (by kernel_rfl) (Zap (l := []) (by kernel_rfl) Zah) Zdp.i Zdp.r [] true (fun x => Zdp.f k (x)) (fun _ _ => rfl) (by kernel_rfl) (Zdp.eq k)
noncomputable def Zdp.pk (k : Nat) : Pk Tryz.prog DD := ⟨44, Zdp.D k, Zdp.sound k, Zaq Tryz.func44 (by kernel_rfl) (by kernel_rfl)⟩
end
end Go.Proofs.YtbchcjlllddlpaaGreat
