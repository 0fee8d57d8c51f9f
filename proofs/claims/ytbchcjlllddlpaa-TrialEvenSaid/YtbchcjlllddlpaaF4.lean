import Derived.Test.YtbchcjlllddlpaaF3
namespace Go.Proofs.Ytbchcjlllddlpaa
open Go Go.Ev
noncomputable section
set_option linter.unusedVariables false
set_option linter.unusedSimpArgs false
set_option maxRecDepth 100000
def Wfw.f (k : Nat) (a0 : Int) : Option (Int × Int) := (Zcb.f k a0).bind fun t1 => (some (t1.1.1, t1.1.2))
def Wfw.i : Lay U Int := (Wbd 0 (tAt (Waz .i64))).lay (fun _ => by kernel_rfl)
def Wfw.r : Lay U (Int × Int) := (Wbd 0 (tAt (vCd (Cd.pair (Cd.int .u64) (Cd.int .u64))))).lay (fun _ => by kernel_rfl)
def Wfw.pk (k : Nat) : Pk Try.prog DD := pkP 81 (Zap Try.f81 [Zcb.pk k] [] [] [] n0 n0 [] false n00 nl0 [] nli) Try.func81 mixed (al0 (by kernel_rfl)) Wfw.i Wfw.r [] true (fun x => Wfw.f k (x)) (fun _ _ => rfl) fun _ => by kernel_rfl
def Zcc.l2.once (k : Nat) (x : (Int × List Int × List Int)) : Option ((Int × List Int × List Int) ⊕ (Unit ⊕ Int)) := match x with | (x3, x1, x2) => cond (decide (x3 ≥ 0)) (cond (inb x3 2) (cond (Nat.blt (Int.toNat x3) 2) (cond (inb x3 2) (cond (Nat.blt (Int.toNat x3) 2) (cond ((List.getD x1 (Int.toNat x3) 0) != (List.getD x2 (Int.toNat x3) 0)) (cond (inb x3 2) (cond (Nat.blt (Int.toNat x3) 2) (cond (inb x3 2) (cond (Nat.blt (Int.toNat x3) 2) (cond (decide ((List.getD x1 (Int.toNat x3) 0) < (List.getD x2 (Int.toNat x3) 0))) (some (.inr (.inr (-1)))) (some (.inr (.inr 1)))) none) none) none) none) (some (.inl (IntKind.wrap .i64 (x3 - 1), x1, x2)))) none) none) none) none) (some (.inr (.inl ())))
def Zcc.f (k : Nat) (a0 : (Int × Int)) (a1 : (Int × Int)) : Option Int := (iter (Zcc.l2.once k) k (1, [a0.1, a0.2], [a1.1, a1.2])).bind fun | .inl y5 => (some 0) | .inr y6 => (some y6)
def Zcc.i : Lay U ((Int × Int) × (Int × Int)) := (Wbq (Wbd 0 (tAt (vCd (Cd.pair (Cd.int .u64) (Cd.int .u64))))) (Wbd 1 (tAt (vCd (Cd.pair (Cd.int .u64) (Cd.int .u64)))))).lay (fun _ => by kernel_rfl)
def Zcc.r : Lay U Int := (Wbd 0 (tAt (Waz .i64))).lay (fun _ => by kernel_rfl)
def Zcc.l2.i : Lay U (Int × List Int × List Int) := (lay [(2, Wbi 2 0), (3, Wbi 3 0), (5, sAt (Waz .i64))] [Wnw DD 2 2 C.u64, Wnw DD 3 2 C.u64] (fun _ => by kernel_rfl))
def Zcc.l2.o : Wdu U (Unit ⊕ Int) := oOr (Wdj 0 (lay [] [] (fun _ => by kernel_rfl))) (Wsr Zcc.r)
def Zcc.E (k : Nat) : Env U := mkE Try.f109 [] [] [(2, ldn Zcc.l2.i Zcc.l2.o (iter (Zcc.l2.once k) k))] [(35, (2, C.u64))] n0 n0 [] false n00 nl0 [] nli
theorem Zcc.l2.sound (k : Nat) : Wbz (Zcc.E k) Try.f109.ntmps Try.f109 (.loop (Wbj Try.f109 2)) (ldn Zcc.l2.i Zcc.l2.o (iter (Zcc.l2.once k) k)) :=
  Wdk (Zap _ _ _ _ _ _ _ _ _ _ _ _ _) mixed rfl (by kernel_rfl) (Zbc (l := []) (by kernel_rfl) Zat) Zcc.l2.i Zcc.l2.o (Zcc.l2.once k) k (fun _ => by kernel_rfl)
def Zcc.pk (k : Nat) : Pk Try.prog DD := pkP (E := Zcc.E k) 109 (Zap _ _ _ _ _ _ _ _ _ _ _ _ _) Try.func109 mixed (Zbc (l := [.loop (Wbj Try.f109 2)]) (by kernel_rfl) (Zbi (key := 2) (by kernel_rfl) rfl (Zcc.l2.sound k) Zat)) Zcc.i Zcc.r [] true (fun x => Zcc.f k (x.1) (x.2)) (fun _ _ => rfl) fun _ => by kernel_rfl
def Zdv.f (k : Nat) (a0 : (Int × Int)) : Option Bool := (Wfw.f k 30).bind fun t1 => ((Zcc.f k (a0.1, a0.2) (t1.1, t1.2)).bind fun t2 => (some (decide (t2 < 0))))
def Zdv.i : Lay U (Int × Int) := (Wbd 0 (tAt (vCd (Cd.pair (Cd.int .u64) (Cd.int .u64))))).lay (fun _ => by kernel_rfl)
def Zdv.r : Lay U Bool := (Wbd 0 (tAt Wbh)).lay (fun _ => by kernel_rfl)
def Zdv.pk (k : Nat) : Pk Try.prog DD := pkP 79 (Zap Try.f79 [Wfw.pk k, Zcc.pk k] [] [] [] n0 n0 [] false n00 nl0 [] nli) Try.func79 mixed (al0 (by kernel_rfl)) Zdv.i Zdv.r [] true (fun x => Zdv.f k (x)) (fun _ _ => rfl) fun _ => by kernel_rfl
def Zcf.f (k : Nat) (a0 : (Int × Int)) : Option Bool := some ((a0.1 == 0) && (a0.2 == 0))
def Zcf.i : Lay U (Int × Int) := (Wbd 0 (tAt (vCd (Cd.pair (Cd.int .u64) (Cd.int .u64))))).lay (fun _ => by kernel_rfl)
def Zcf.r : Lay U Bool := (Wbd 0 (tAt Wbh)).lay (fun _ => by kernel_rfl)
def Zcf.pk (k : Nat) : Pk Try.prog DD := pkP 37 (Zap Try.f37 [] [] [] [] n0 n0 [] false n00 nl0 [] nli) Try.func37 mixed (al0 (by kernel_rfl)) Zcf.i Zcf.r [] true (fun x => Zcf.f k (x)) (fun _ _ => rfl) fun _ => by kernel_rfl
def Zcm.f (k : Nat) (a0 : Zi) : Option Bool := (Zdv.f k (a0.f_C.1, a0.f_C.2)).bind fun t1 => (cond (t1) (cond (decide (a0.Zu ≥ 0)) (cond (decide (a0.Zu ≤ 9)) (cond (a0.Wbe) ((Zcf.f k (a0.f_C.1, a0.f_C.2)).bind fun t2 => (some (!t2))) (some true)) (some false)) (some false)) (some false))
def Zcm.i : Lay U Zi := (Wbd 0 (tAt (vCd Zbn))).lay (fun _ => by kernel_rfl)
def Zcm.r : Lay U Bool := (Wbd 0 (tAt Wbh)).lay (fun _ => by kernel_rfl)
def Zcm.pk (k : Nat) : Pk Try.prog DD := pkP 36 (Zap Try.f36 [Zdv.pk k, Zcf.pk k] [] [] [] n0 n0 [] false n00 nl0 [] nli) Try.func36 mixed (al0 (by kernel_rfl)) Zcm.i Zcm.r [] true (fun x => Zcm.f k (x)) (fun _ _ => rfl) fun _ => by kernel_rfl
def Whn.f (k : Nat) (a0 : Zi) : Option Zi := (Zcm.f k (⟨a0.Wbe, (a0.f_C.1, a0.f_C.2), a0.Zu⟩ : Zi)).bind fun t1 => (cond (!t1) (some (⟨false, (0, 0), 0⟩ : Zi)) (cond (!a0.Wbe) ((Zcf.f k (a0.f_C.1, a0.f_C.2)).bind fun t2 => (some (⟨!t2, (a0.f_C.1, a0.f_C.2), a0.Zu⟩ : Zi))) (some (⟨false, (a0.f_C.1, a0.f_C.2), a0.Zu⟩ : Zi))))
def Whn.i : Lay U Zi := (Wbd 0 (tAt (vCd Zbn))).lay (fun _ => by kernel_rfl)
def Whn.r : Lay U Zi := (Wbd 0 (tAt (vCd Zbn))).lay (fun _ => by kernel_rfl)
def Whn.pk (k : Nat) : Pk Try.prog DD := pkP 59 (Zap Try.f59 [Zcm.pk k, Zcf.pk k] [] [] [] n0 n0 [] false n00 nl0 [] nli) Try.func59 mixed (al0 (by kernel_rfl)) Whn.i Whn.r [] true (fun x => Whn.f k (x)) (fun _ _ => rfl) fun _ => by kernel_rfl
def Zax.l3.once (k : Nat) (x : (List Zd × List Zd × Int × Int)) : Option ((List Zd × List Zd × Int × Int) ⊕ (List Zd)) := match x with | (x1, x2, x3, x4) => cond (decide (x4 < x3)) (cond (inb x4 (List.length x2)) ((Whn.f k (⟨((List.getD x2 (Int.toNat x4) Zd.zero).Zq).Wbe, ((((List.getD x2 (Int.toNat x4) Zd.zero).Zq).f_C).1, (((List.getD x2 (Int.toNat x4) Zd.zero).Zq).f_C).2), ((List.getD x2 (Int.toNat x4) Zd.zero).Zq).Zu⟩ : Zi)).bind fun t5 => (cond (Weh (List.length x1 + List.length [(⟨(List.getD x2 (Int.toNat x4) Zd.zero).Zde, (⟨t5.Wbe, (t5.f_C.1, t5.f_C.2), t5.Zu⟩ : Zi), (List.getD x2 (Int.toNat x4) Zd.zero).Zdo⟩ : Zd)]) 48) (some (.inl (x1 ++ [(⟨(List.getD x2 (Int.toNat x4) Zd.zero).Zde, (⟨t5.Wbe, (t5.f_C.1, t5.f_C.2), t5.Zu⟩ : Zi), (List.getD x2 (Int.toNat x4) Zd.zero).Zdo⟩ : Zd)], x2, x3, IntKind.wrap .i64 (x4 + 1)))) none)) none) (some (.inr x1))
def Zax.f (k : Nat) (a0 : List Zd) : Option (List Zd) := (iter (Zax.l3.once k) k (([] : List Zd), a0, (List.length a0 : Int), 0)).bind fun y7 => (some y7)
def Zax.i : Lay U (List Zd) := (Wbd 0 (tAt (Wbn DD C.Zd))).lay (fun _ => by kernel_rfl)
def Zax.r : Lay U (List Zd) := (Wbd 0 (tAt (Wbn DD C.Zd))).lay (fun _ => by kernel_rfl)
def Zax.l3.i : Lay U (List Zd × List Zd × Int × Int) := (lay [(3, sAt (Wde DD 1003003 C.Zd 6)), (6, sAt (Wbn DD C.Zd)), (7, sAt (Waz .i64)), (8, sAt (Waz .i64))] [] (fun _ => by kernel_rfl))
def Zax.l3.o : Wdu U (List Zd) := Wdj 0 (lay [(3, sAt (Wde DD 1003003 C.Zd 6))] [] (fun _ => by kernel_rfl))
def Zax.E (k : Nat) : Env U := mkE Try.f50 [Whn.pk k] [] [(3, ldn Zax.l3.i Zax.l3.o (iter (Zax.l3.once k) k))] [] n0 n0 [] false n00 nl0 [] nli
theorem Zax.l3.sound (k : Nat) : Wbz (Zax.E k) Try.f50.ntmps Try.f50 (.loop (Wbj Try.f50 3)) (ldn Zax.l3.i Zax.l3.o (iter (Zax.l3.once k) k)) :=
  Wdk (Zap _ _ _ _ _ _ _ _ _ _ _ _ _) mixed rfl (by kernel_rfl) (Zbc (l := []) (by kernel_rfl) Zat) Zax.l3.i Zax.l3.o (Zax.l3.once k) k (fun _ => by kernel_rfl)
def Zax.pk (k : Nat) : Pk Try.prog DD := pkP (E := Zax.E k) 50 (Zap _ _ _ _ _ _ _ _ _ _ _ _ _) Try.func50 mixed (Zbc (l := [.loop (Wbj Try.f50 3)]) (by kernel_rfl) (Zbi (key := 3) (by kernel_rfl) rfl (Zax.l3.sound k) Zat)) Zax.i Zax.r [] true (fun x => Zax.f k (x)) (fun _ _ => rfl) fun _ => by kernel_rfl
def Zm.f (k : Nat) (a0 : List Zd) : Option (List Zd) := cond (Weh (List.length ([] : List Zd) + List.length a0) 48) (some (([] : List Zd) ++ a0)) none
def Zm.un (s : St U) : Option (List Zd) := match s.get 0 with | .row C.Zd x1 => some x1 | _ => none
def Zm.mk (x : List Zd) : St U := ⟨[(0, .row C.Zd x)], []⟩
def Zm.fin (y : List Zd) : St U := ⟨[(0, .row C.Zd y)], []⟩
def Zm.D (k : Nat) : Wfe U := { X := List Zd, Y := List Zd, nt := 8, gh := [], un := Zm.un, f := fun x => Zm.f k (x), fin := Zm.fin, cl := true, clo := fun _ _ => rfl }
def Zm.re (s : St U) : Option (List Zd) := match s.get 0 with | .row C.Zd x1 => some x1 | _ => none
def Zm.jl : List (Nat × JDen U) := []
def Zm.fl (k : Nat) : List (Nat × Wfe U) := []
def Zm.ll (k : Nat) : List (Nat × Wrb U) := []
def Zm.E (k : Nat) : Env U := { P := Try.prog, D := DD, fd := lk (Zm.fl k), sf := lk sl0, ld := lk (Zm.ll k), jd := lk Zm.jl, mode := lk [], elc := lk ec, mpc := lk mc, rts := Try.f46.resultTypes.toList, dyn := fun t => false, Wpm := fun d => false, results := Try.f46.results.toList, gh := [], own := false, io := fun g i => false, lds := nl0, fn := lk [] }
theorem Zm.ok (k : Nat) : Wbx (Zm.E k) := Wxq lawful (Zm.fl k) sl0 (Zm.ll k) Zm.jl _ _ _ _ _ _ _ _ _ _ _ [] (fun _ => none) (by
  intro p hp
  simp [Zm.fl] at hp) Wqd (by
  intro p hp
  simp [Zm.jl] at hp) (fun _ h => (List.not_mem_nil h).elim)
theorem Zm.Qaq (s : St U) (y : List Zd) (h : Zm.re s = some y) : Fits s (Zm.fin y) := by
  unfold Zm.re at h
  split at h
  · cases h
    refine Zep [] ?_ ?_ Wka rfl
    · exact List.forall_mem_cons.2 ⟨FV.one (FV.same (by assumption) rfl), fun _ hp => (List.not_mem_nil hp).elim⟩
    · exact fun _ hp => (List.not_mem_nil hp).elim
  · cases h
def Zm.mkn (g : Bool) (x : List Zd) : St U := ⟨[(0, .Wov g C.Zd x)], []⟩
theorem Zm.eq (k : Nat) (x : List Zd) : Wol (Zm.E k) (codeOf Try.f46) (Zm.mkn true x) Zm.re = (Zm.D k).f x := by kernel_rfl
theorem Zm.eqN (k : Nat) : Wol (Zm.E k) (codeOf Try.f46) (Zm.mkn false []) Zm.re = (Zm.D k).f [] := by kernel_rfl
theorem Zm.sound (k : Nat) : Sound Try.prog DD 46 (Zm.D k) :=
  Wlx (E := Zm.E k) (fn := Try.f46) (c := codeOf Try.f46) (Zm.ok k) mixed rfl Try.func46 (by kernel_rfl) (by kernel_rfl) (Zbc (l := []) (by kernel_rfl) Zat) C.Zd (Zm.D k) Zm.mkn (fun x => x) Zm.re (by kernel_rfl) (by kernel_rfl)
    (by intro m x h; replace h : Zm.un m = some x := h; unfold Zm.un at h; split at h; · cases h; assumption
        · cases h)
    (fun _ _ => rfl) Zm.Qaq (Zm.eq k) (by intro x h; replace h : x = [] := h; subst h; exact Zm.eqN k)
def Zm.pk (k : Nat) : Pk Try.prog DD := ⟨46, Zm.D k, Zm.sound k, Zet Try.func46 (by kernel_rfl) (by kernel_rfl)⟩
def Zcl.f (k : Nat) (a0 : Zf) (a1 : Za) : Option (Int × Int × Zf) := (Zca.f k (⟨pack 12 false a0.f_t.Zk, pack 12 0 a0.f_t.Zj⟩ : Ze) a1.Zad).bind fun t1 => (cond (!t1) (some (0, 8, (⟨a0.Zac, a0.f_l, (⟨pack 12 false a0.f_t.Zk, pack 12 0 a0.f_t.Zj⟩ : Ze)⟩ : Zf))) (cond ((List.length a0.f_l : Int) == 40) (some (0, 5, (⟨a0.Zac, a0.f_l, (⟨pack 12 false a0.f_t.Zk, pack 12 0 a0.f_t.Zj⟩ : Ze)⟩ : Zf))) ((Zm.f k a1.Zay).bind fun t2 => (cond (Weh (List.length a0.f_l + List.length [(⟨a1.Zad, t2, a1.Wbm⟩ : Za)]) 40) (some (IntKind.wrap .i64 ((List.length (a0.f_l ++ [(⟨a1.Zad, t2, a1.Wbm⟩ : Za)]) : Int) - 1), 0, (⟨a0.Zac, a0.f_l ++ [(⟨a1.Zad, t2, a1.Wbm⟩ : Za)], (⟨pack 12 false a0.f_t.Zk, pack 12 0 a0.f_t.Zj⟩ : Ze)⟩ : Zf))) none))))
def Zcl.i : Lay U (Zf × Za) := (Wwo 1000000000000000 7000000000000 (Wbq (Wbd 0 (Zaw 7000000000000 7000000000000)) (Wbd 1 (tAt (vCd Wmb))))).lay (fun _ => by kernel_rfl)
def Zcl.r : Lay U (Int × Int × Zf) := (Wdf (Wbq (Wfa 0 (Wdi (tAt (Waz .i64)) (Wes (tAt (Waz .i64))))) (Wbd 1000000000000000 (Zaw 7000000000000 7000000000000))) (fun x => ((x.1.1, x.1.2, x.2) : (Int × Int × Zf))) (fun x => ((x.1, x.2.1), x.2.2)) (fun _ => rfl)).lay (fun _ => by kernel_rfl)
def Zcl.pk (k : Nat) : Pk Try.prog DD := pkP 49 (Zap Try.f49 [Zca.pk k, Zm.pk k] [] [] [] n0 n0 [0] false n00 nl0 [] nli) Try.func49 mixed (al0 (by kernel_rfl)) Zcl.i Zcl.r [0] false (fun x => Zcl.f k (x.1) (x.2)) (fun h => by cases h) fun _ => by kernel_rfl
def Zaz.f (k : Nat) (a0 : Zf) (a1 : Int) (a2 : Int) : Option (Int × Int × Zf) := ((cond (decide (a1 < 0)) (some (a2, true, a0.Zac, a0.f_l, (⟨pack 12 false a0.f_t.Zk, pack 12 0 a0.f_t.Zj⟩ : Ze), a1)) (some (a2, decide (a1 ≥ (List.length a0.f_l : Int)), a0.Zac, a0.f_l, (⟨pack 12 false a0.f_t.Zk, pack 12 0 a0.f_t.Zj⟩ : Ze), a1))) : Option (Int × Bool × Int × List Za × Ze × Int)).bind fun y31 => (cond (y31.2.1) (some (0, 10, (⟨y31.2.2.1, y31.2.2.2.1, (⟨pack 12 false y31.2.2.2.2.1.Zk, pack 12 0 y31.2.2.2.2.1.Zj⟩ : Ze)⟩ : Zf))) (((cond (inb y31.2.2.2.2.2 (List.length y31.2.2.2.1)) (cond (decide (((List.getD y31.2.2.2.1 (Int.toNat y31.2.2.2.2.2) Za.zero).Wbm) ≥ 0)) (some (y31.1, y31.2.2.2.2.2, true, y31.2.2.1, y31.2.2.2.1, (⟨pack 12 false y31.2.2.2.2.1.Zk, pack 12 0 y31.2.2.2.2.1.Zj⟩ : Ze))) ((Zg.f k y31.2.2.2.1 y31.2.2.2.2.2).bind fun t62 => (some (y31.1, y31.2.2.2.2.2, t62, y31.2.2.1, y31.2.2.2.1, (⟨pack 12 false y31.2.2.2.2.1.Zk, pack 12 0 y31.2.2.2.2.1.Zj⟩ : Ze))))) none) : Option (Int × Int × Bool × Int × List Za × Ze)).bind fun y63 => (cond (y63.2.2.1) (some (0, 13, (⟨y63.2.2.2.1, y63.2.2.2.2.1, (⟨pack 12 false y63.2.2.2.2.2.Zk, pack 12 0 y63.2.2.2.2.2.Zj⟩ : Ze)⟩ : Zf))) (cond (inb y63.2.1 (List.length y63.2.2.2.2.1)) ((Zax.f k ((List.getD y63.2.2.2.2.1 (Int.toNat y63.2.1) Za.zero).Zay)).bind fun t64 => ((Zcl.f k (⟨y63.2.2.2.1, y63.2.2.2.2.1, (⟨pack 12 false y63.2.2.2.2.2.Zk, pack 12 0 y63.2.2.2.2.2.Zj⟩ : Ze)⟩ : Zf) (⟨y63.1, t64, y63.2.1⟩ : Za)).bind fun t65 => (some (t65.1, t65.2.1, (⟨t65.2.2.Zac, t65.2.2.f_l, (⟨pack 12 false t65.2.2.f_t.Zk, pack 12 0 t65.2.2.f_t.Zj⟩ : Ze)⟩ : Zf))))) none))))
def Zaz.i : Lay U (Zf × Int × Int) := (Wwo 1000000000000000 7000000000000 (Wbq (Wbd 0 (Zaw 7000000000000 7000000000000)) (Wbq (Wbd 1 (tAt (Waz .i64))) (Wbd 2 (tAt (Waz .i64)))))).lay (fun _ => by kernel_rfl)
def Zaz.r : Lay U (Int × Int × Zf) := (Wdf (Wbq (Wfa 0 (Wdi (tAt (Waz .i64)) (Wes (tAt (Waz .i64))))) (Wbd 1000000000000000 (Zaw 7000000000000 7000000000000))) (fun x => ((x.1.1, x.1.2, x.2) : (Int × Int × Zf))) (fun x => ((x.1, x.2.1), x.2.2)) (fun _ => rfl)).lay (fun _ => by kernel_rfl)
def Zaz.Qgj : Jk U := ⟨(Int × Bool × Int × List Za × Ze × Int), Wcb (lay [(0, Wbi 7000000000000 0), (4, Wbi 4 0), (1000000000000000, Wbi 7000000000000 0), (2, sAt (Waz .i64)), (11, sAt Wbh)] [Wcq 7000000000000 [(Waz .i64), (Wde DD 700102300000001 C.Za 3)] Zw, Wcw 4 [(Waz .i64)]] (fun _ => by kernel_rfl))⟩
def Zaz.j5000 : Jk U := ⟨(Int × Int × Bool × Int × List Za × Ze), Wcb (lay [(0, Wbi 7000000000000 0), (1000000000000000, Wbi 7000000000000 0), (2, sAt (Waz .i64)), (4, sRp [(Waz .i64)] 0), (23, sAt Wbh)] [Wcq 7000000000000 [(Waz .i64), (Wde DD 700102500000001 C.Za 3)] Zw] (fun _ => by kernel_rfl))⟩
def Zaz.pk (k : Nat) : Pk Try.prog DD := pkP 17 (Zap Try.f17 [Zg.pk k, Zax.pk k, Zcl.pk k] [(3000, Zaz.Qgj), (5000, Zaz.j5000)] [] [] n0 n0 [0] false n00 nl0 [] nli) Try.func17 mixed (al0 (by kernel_rfl)) Zaz.i Zaz.r [0] false (fun x => Zaz.f k (x.1) (x.2.1) (x.2.2)) (fun h => by cases h) fun _ => by kernel_rfl
def Zcr.f (k : Nat) (a0 : Ze) (a1 : Int) : Option (Ze × Int) := (((Zeg.f k a1).bind fun t1 => (cond (!t1) (some (a1, true, (⟨pack 12 false a0.Zk, pack 12 0 a0.Zj⟩ : Ze), (⟨[false, false, false, false, false, false, false, false, false, false, false, false], [0, 0, 0, 0, 0, 0, 0, 0, 0, 0, 0, 0]⟩ : Ze))) (cond (inb a1 12) (cond (Nat.blt (Int.toNat a1) 12) (cond (!(List.getD (pack 12 false a0.Zk) (Int.toNat a1) false)) (some (a1, true, (⟨pack 12 false a0.Zk, pack 12 0 a0.Zj⟩ : Ze), (⟨[false, false, false, false, false, false, false, false, false, false, false, false], [0, 0, 0, 0, 0, 0, 0, 0, 0, 0, 0, 0]⟩ : Ze))) ((Zeg.f k (IntKind.wrap .i64 (a1 + 1))).bind fun t6 => (cond (t6) (cond (inb (IntKind.wrap .i64 (a1 + 1)) 12) (cond (Nat.blt (Int.toNat (IntKind.wrap .i64 (a1 + 1))) 12) (some (a1, List.getD (pack 12 false a0.Zk) (Int.toNat (IntKind.wrap .i64 (a1 + 1))) false, (⟨pack 12 false a0.Zk, pack 12 0 a0.Zj⟩ : Ze), (⟨[false, false, false, false, false, false, false, false, false, false, false, false], [0, 0, 0, 0, 0, 0, 0, 0, 0, 0, 0, 0]⟩ : Ze))) none) none) (some (a1, false, (⟨pack 12 false a0.Zk, pack 12 0 a0.Zj⟩ : Ze), (⟨[false, false, false, false, false, false, false, false, false, false, false, false], [0, 0, 0, 0, 0, 0, 0, 0, 0, 0, 0, 0]⟩ : Ze)))))) none) none))) : Option (Int × Bool × Ze × Ze)).bind fun y7 => (cond (y7.2.1) (some ((⟨[false, false, false, false, false, false, false, false, false, false, false, false], [0, 0, 0, 0, 0, 0, 0, 0, 0, 0, 0, 0]⟩ : Ze), 8)) (cond (inb y7.1 12) (cond (Nat.blt (Int.toNat y7.1) 12) (some ((⟨Wil (Int.toNat y7.1) false 0 (pack 12 false y7.2.2.1.Zk), pack 12 0 y7.2.2.1.Zj⟩ : Ze), 0)) none) none))
def Zcr.i : Lay U (Ze × Int) := (Wbq (Wbd 0 (tAt (vCd Zw))) (Wbd 1 (tAt (Waz .i64)))).lay (fun _ => by kernel_rfl)
def Zcr.r : Lay U (Ze × Int) := (Wfa 0 (Wdi (tAt (vCd Zw)) (Wes (tAt (Waz .i64))))).lay (fun _ => by kernel_rfl)
def Zcr.Wdb : Jk U := ⟨(Int × Bool × Ze × Ze), Wcb (lay [(2, Wbi 2 0), (4, Wbi 4 0), (1, sAt (Waz .i64)), (27, sAt Wbh)] [bCd 2 Zw, bCd 4 Zw] (fun _ => by kernel_rfl))⟩
def Zcr.pk (k : Nat) : Pk Try.prog DD := pkP 68 (Zap Try.f68 [Zeg.pk k] [(1000, Zcr.Wdb)] [] [] (fun t => Nat.beq t 44) n0 [] false n00 nl0 [] nli) Try.func68 mixed (al0 (by kernel_rfl)) Zcr.i Zcr.r [] true (fun x => Zcr.f k (x.1) (x.2)) (fun _ _ => rfl) fun _ => by kernel_rfl
def Zs.f (k : Nat) (a0 : Zf) (a1 : Unit) (a2 : Int) : Option (Int × Zf) := (Zcr.f k (⟨pack 12 false a0.f_t.Zk, pack 12 0 a0.f_t.Zj⟩ : Ze) a2).bind fun t1 => (cond (t1.2 == 0) (some (t1.2, (⟨a0.Zac, a0.f_l, (⟨pack 12 false t1.1.Zk, pack 12 0 t1.1.Zj⟩ : Ze)⟩ : Zf))) (some (t1.2, (⟨a0.Zac, a0.f_l, (⟨pack 12 false a0.f_t.Zk, pack 12 0 a0.f_t.Zj⟩ : Ze)⟩ : Zf))))
def Zs.un (s : St U) : Option (Zf × Unit × Int) := match s.get 0, lk s.o 7000000000000, s.get 1, s.get 2, s.get 1000000000000000 with | .ptr 7000000000000 0, some (.lit (.flat (.int .i64 x1) :: x5 :: x3)), .fn 68 [], .flat (.int .i64 x6), .ptr 7000000000000 0 => (Zer s.o 3 x5).bind fun ex2 => ((Zw.full x3).bind fun x4 => (some ((⟨x1, ex2.2, x4⟩ : Zf), (), x6))) | _, _, _, _, _ => none
def Zs.mk (x : (Zf × Unit × Int)) : St U := ⟨[(0, .ptr 7000000000000 0), (1, .fn 68 []), (2, .flat (.int .i64 x.2.2)), (1000000000000000, .ptr 7000000000000 0)], [(7000000000000, .lit ((.flat (.int .i64 x.1.Zac)) :: (.tip 7000000000002 C.Za x.1.f_l) :: Zw.enc x.1.f_t)), (7000000000002, .tip 3)]⟩
def Zs.fin (y : (Int × Zf)) : St U := ⟨[(0, .flat (.int .i64 y.1)), (1000000000000000, .ptr 7000000000000 0)], [(7000000000000, .lit ((.flat (.int .i64 y.2.Zac)) :: (.tip 7000000000002 C.Za y.2.f_l) :: Zw.enc y.2.f_t)), (7000000000002, .tip 3)]⟩
def Zs.D (k : Nat) : Wfe U := { X := (Zf × Unit × Int), Y := (Int × Zf), nt := 28, gh := [0], un := Zs.un, f := fun x => Zs.f k (x.1) (x.2.1) (x.2.2), fin := Zs.fin, cl := false, clo := fun h => by cases h }
def Zs.re (s : St U) : Option (Int × Zf) := match s.get 0, s.get 1000000000000000, lk s.o 7000000000000 with | .flat (.int .i64 x1), .ptr 7000000000000 0, some (.lit (.flat (.int .i64 x2) :: x6 :: x4)) => (Zer s.o 3 x6).bind fun ex3 => ((Zw.full x4).bind fun x5 => (some (x1, (⟨x2, ex3.2, x5⟩ : Zf)))) | _, _, _ => none
def Zs.jl : List (Nat × JDen U) := []
def Zs.fl (k : Nat) : List (Nat × Wfe U) := [(68, (Zcr.pk k).d)]
def Zs.ll (k : Nat) : List (Nat × Wrb U) := []
def Zs.E (k : Nat) : Env U := { P := Try.prog, D := DD, fd := lk (Zs.fl k), sf := lk sl0, ld := lk (Zs.ll k), jd := lk Zs.jl, mode := lk [], elc := lk ec, mpc := lk mc, rts := Try.f66.resultTypes.toList, dyn := fun t => false, Wpm := fun d => false, results := Try.f66.results.toList, gh := [0], own := false, io := fun g i => false, lds := nl0, fn := lk [] }
theorem Zs.ok (k : Nat) : Wbx (Zs.E k) := Wxq lawful (Zs.fl k) sl0 (Zs.ll k) Zs.jl _ _ _ _ _ _ _ _ _ _ _ [] (fun _ => none) (by
  intro p hp
  simp only [Zs.fl, List.mem_cons, List.not_mem_nil, or_false] at hp
  rcases hp with rfl
  · exact ⟨(Zcr.pk k).snd, Zet Try.func68 (by kernel_rfl) (by kernel_rfl)⟩) Wqd (by
  intro p hp
  simp [Zs.jl] at hp) (fun _ h => (List.not_mem_nil h).elim)
theorem Zs.eq (k : Nat) (x : (Zf × Unit × Int)) : Wol (Zs.E k) (codeOf Try.f66) (Zs.mk x) Zs.re = (Zs.D k).f x := by kernel_rfl
theorem Zs.fit (s : St U) (x : (Zf × Unit × Int)) (h : Zs.un s = some x) : Fits s (Zs.mk x) := by
  unfold Zs.un at h
  split at h
  · obtain ⟨ex2, hex2, hh1⟩ := Option.bind_eq_some_iff.1 h
    obtain ⟨x4, hx4, hh2⟩ := Option.bind_eq_some_iff.1 hh1
    cases hh2
    refine Zep [(7000000000002, ex2.1)] ?_ ?_ Wwh rfl
    · exact List.forall_mem_cons.2 ⟨FV.one (FV.ptr (by assumption)), List.forall_mem_cons.2 ⟨FV.one (FV.same (by assumption) rfl), List.forall_mem_cons.2 ⟨FV.one (FV.same (by assumption) rfl), List.forall_mem_cons.2 ⟨FV.one (FV.ptr (by assumption)), fun _ hp => (List.not_mem_nil hp).elim⟩⟩⟩⟩
    · exact List.forall_mem_cons.2 ⟨FO.cells (show lk (St.o _) 7000000000000 = some _ from by assumption) (FCs.cons (Wsd rfl rfl) (FCs.cons ((Zcv hex2 rfl).1) (FCs.tail (Cd.Wjc hx4) rfl))), List.forall_mem_cons.2 ⟨(Zcv hex2 rfl).2, fun _ hp => (List.not_mem_nil hp).elim⟩⟩
  · cases h
theorem Zs.Qaq (s : St U) (y : (Int × Zf)) (h : Zs.re s = some y) : Fits s (Zs.fin y) := by
  unfold Zs.re at h
  split at h
  · obtain ⟨ex3, hex3, hh1⟩ := Option.bind_eq_some_iff.1 h
    obtain ⟨x5, hx5, hh2⟩ := Option.bind_eq_some_iff.1 hh1
    cases hh2
    refine Zep [(7000000000002, ex3.1)] ?_ ?_ Wwh rfl
    · exact List.forall_mem_cons.2 ⟨FV.one (FV.same (by assumption) rfl), List.forall_mem_cons.2 ⟨FV.one (FV.ptr (by assumption)), fun _ hp => (List.not_mem_nil hp).elim⟩⟩
    · exact List.forall_mem_cons.2 ⟨FO.cells (show lk (St.o _) 7000000000000 = some _ from by assumption) (FCs.cons (Wsd rfl rfl) (FCs.cons ((Zcv hex3 rfl).1) (FCs.tail (Cd.Wjc hx5) rfl))), List.forall_mem_cons.2 ⟨(Zcv hex3 rfl).2, fun _ hp => (List.not_mem_nil hp).elim⟩⟩
  · cases h
theorem Zs.sound (k : Nat) : Sound Try.prog DD 66 (Zs.D k) :=
  Wnl (E := Zs.E k) (fn := Try.f66) (c := codeOf Try.f66) (Zs.ok k) mixed rfl Try.func66 (by kernel_rfl) (by kernel_rfl) (Zbc (l := []) (by kernel_rfl) Zat) (Zs.D k) Zs.mk Zs.re (by kernel_rfl) (by kernel_rfl) Zs.fit Zs.Qaq (Zs.eq k)
def Zs.pk (k : Nat) : Pk Try.prog DD := ⟨66, Zs.D k, Zs.sound k, Zet Try.func66 (by kernel_rfl) (by kernel_rfl)⟩
def Zci.f (k : Nat) (a0 : Zf) (a1 : Int) : Option (Int × Zf) := (Zs.f k (⟨a0.Zac, a0.f_l, (⟨pack 12 false a0.f_t.Zk, pack 12 0 a0.f_t.Zj⟩ : Ze)⟩ : Zf) () a1).bind fun t1 => (some (t1.1, (⟨t1.2.Zac, t1.2.f_l, (⟨pack 12 false t1.2.f_t.Zk, pack 12 0 t1.2.f_t.Zj⟩ : Ze)⟩ : Zf)))
def Zci.i : Lay U (Zf × Int) := (Wwo 1000000000000000 7000000000000 (Wbq (Wbd 0 (Zaw 7000000000000 7000000000000)) (Wbd 1 (tAt (Waz .i64))))).lay (fun _ => by kernel_rfl)
def Zci.r : Lay U (Int × Zf) := (Wbq (Wbd 0 (tAt (Waz .i64))) (Wbd 1000000000000000 (Zaw 7000000000000 7000000000000))).lay (fun _ => by kernel_rfl)
def Zci.pk (k : Nat) : Pk Try.prog DD := pkP 28 (Zap Try.f28 [Zs.pk k] [] [] [] n0 n0 [0] false n00 nl0 [] nli) Try.func28 mixed (al0 (by kernel_rfl)) Zci.i Zci.r [0] false (fun x => Zci.f k (x.1) (x.2)) (fun h => by cases h) fun _ => by kernel_rfl
def Zct.f (k : Nat) (a0 : Int) : Option Int := ((cond (decide (a0 < 0)) (some (a0, true)) (some (a0, decide (a0 ≥ 16)))) : Option (Int × Bool)).bind fun y3 => (cond (y3.2) (some 0) (cond (decide (y3.1 ≤ 3)) (some 1) (cond (decide (y3.1 ≤ 6)) (some 2) (cond (decide (y3.1 ≤ 8)) (some 3) (some 4)))))
def Zct.i : Lay U Int := (Wbd 0 (tAt (Waz .i64))).lay (fun _ => by kernel_rfl)
def Zct.r : Lay U Int := (Wbd 0 (tAt (Waz .i64))).lay (fun _ => by kernel_rfl)
def Zct.Wdb : Jk U := ⟨(Int × Bool), Wcb (lay [(0, sAt (Waz .i64)), (3, sAt Wbh)] [] (fun _ => by kernel_rfl))⟩
def Zct.pk (k : Nat) : Pk Try.prog DD := pkP 15 (Zap Try.f15 [] [(1000, Zct.Wdb)] [] [] n0 n0 [] false n00 nl0 [] nli) Try.func15 mixed (al0 (by kernel_rfl)) Zct.i Zct.r [] true (fun x => Zct.f k (x)) (fun _ _ => rfl) fun _ => by kernel_rfl
end
end Go.Proofs.Ytbchcjlllddlpaa
