import Derived.Test.YtbchcjlllddlpaaF2
namespace Go.Proofs.Ytbchcjlllddlpaa
open Go Go.Ev
noncomputable section
set_option linter.unusedVariables false
set_option linter.unusedSimpArgs false
set_option maxRecDepth 100000
def Zau.l3.once (k : Nat) (x : (List Zp × Int × Int × List Za × Zh)) : Option ((List Zp × Int × Int × List Za × Zh) ⊕ ((Int × List Za × Zh))) := match x with | (x2, x30, x3, x4, x29) => ((cond (decide (x30 < (List.length x2 : Int))) (some (x2, x30, decide (x30 < 14), x3, x4, (⟨pack 12 false x29.Zk, pack 12 0 x29.Zj⟩ : Zh))) (some (x2, x30, false, x3, x4, (⟨pack 12 false x29.Zk, pack 12 0 x29.Zj⟩ : Zh)))) : Option (List Zp × Int × Bool × Int × List Za × Zh)).bind fun y61 => (cond (y61.2.2.1) (((cond (inb y61.2.1 (List.length y61.1)) ((Zaj.f k ((List.getD y61.1 (Int.toNat y61.2.1) Zp.zero).Zdr) 8).bind fun t62 => (cond (t62 == 0) ((Zaj.f k ((List.getD y61.1 (Int.toNat y61.2.1) Zp.zero).f_B) 3).bind fun t63 => ((Zbx.f k (⟨y61.2.2.2.1, y61.2.2.2.2.1, (⟨pack 12 false y61.2.2.2.2.2.Zk, pack 12 0 y61.2.2.2.2.2.Zj⟩ : Zh)⟩ : Zx) t63).bind fun t64 => (some (y61.1, y61.2.1, t64.2.Zu, t64.2.f_L, (⟨pack 12 false t64.2.f_T.Zk, pack 12 0 t64.2.f_T.Zj⟩ : Zh))))) (cond (t62 == 1) ((Zaj.f k ((List.getD y61.1 (Int.toNat y61.2.1) Zp.zero).f_N) 5).bind fun t94 => ((Zaj.f k ((List.getD y61.1 (Int.toNat y61.2.1) Zp.zero).f_B) 3).bind fun t95 => ((Zy.f k (⟨y61.2.2.2.1, y61.2.2.2.2.1, (⟨pack 12 false y61.2.2.2.2.2.Zk, pack 12 0 y61.2.2.2.2.2.Zj⟩ : Zh)⟩ : Zx) t94 t95).bind fun t96 => (some (y61.1, y61.2.1, t96.2.2.Zu, t96.2.2.f_L, (⟨pack 12 false t96.2.2.f_T.Zk, pack 12 0 t96.2.2.f_T.Zj⟩ : Zh)))))) (cond (t62 == 2) ((Zaj.f k ((List.getD y61.1 (Int.toNat y61.2.1) Zp.zero).f_B) 3).bind fun t97 => ((Zbs.f k (⟨y61.2.2.2.1, y61.2.2.2.2.1, (⟨pack 12 false y61.2.2.2.2.2.Zk, pack 12 0 y61.2.2.2.2.2.Zj⟩ : Zh)⟩ : Zx) t97).bind fun t98 => (some (y61.1, y61.2.1, t98.2.Zu, t98.2.f_L, (⟨pack 12 false t98.2.f_T.Zk, pack 12 0 t98.2.f_T.Zj⟩ : Zh))))) ((Zaj.f k ((List.getD y61.1 (Int.toNat y61.2.1) Zp.zero).f_B) 3).bind fun t99 => ((Zv.f k ((List.getD y61.1 (Int.toNat y61.2.1) Zp.zero).f_L) y61.2.2.2.1 0 4).bind fun t100 => ((Zch.f k (⟨y61.2.2.2.1, y61.2.2.2.2.1, (⟨pack 12 false y61.2.2.2.2.2.Zk, pack 12 0 y61.2.2.2.2.2.Zj⟩ : Zh)⟩ : Zx) t99 t100).bind fun t101 => (some (y61.1, y61.2.1, t101.2.2.Zu, t101.2.2.f_L, (⟨pack 12 false t101.2.2.f_T.Zk, pack 12 0 t101.2.2.f_T.Zj⟩ : Zh)))))))))) none) : Option (List Zp × Int × Int × List Za × Zh)).bind fun y102 => (some (.inl (y102.1, IntKind.wrap .i64 (y102.2.1 + 1), y102.2.2.1, y102.2.2.2.1, (⟨pack 12 false y102.2.2.2.2.Zk, pack 12 0 y102.2.2.2.2.Zj⟩ : Zh))))) (some (.inr (y61.2.2.2.1, y61.2.2.2.2.1, (⟨pack 12 false y61.2.2.2.2.2.Zk, pack 12 0 y61.2.2.2.2.2.Zj⟩ : Zh)))))
def Zau.f (k : Nat) (a0 : List Zp) (a1 : Int) : Option Zx := (Zcz.f k a1).bind fun t1 => ((iter (Zau.l3.once k) k (a0, 0, t1.Zu, t1.f_L, (⟨pack 12 false t1.f_T.Zk, pack 12 0 t1.f_T.Zj⟩ : Zh))).bind fun y130 => (some (⟨y130.1, y130.2.1, (⟨pack 12 false y130.2.2.Zk, pack 12 0 y130.2.2.Zj⟩ : Zh)⟩ : Zx)))
def Zau.i : Lay U (List Zp × Int) := (Wbq (Wbd 0 (tAt (Wbn DD C.Zp))) (Wbd 1 (tAt (Waz .i64)))).lay (fun _ => by kernel_rfl)
def Zau.r : Lay U Zx := (Wbd 0 (Zbf 100000000000006 6000000000000)).lay (fun _ => by kernel_rfl)
def Zau.l3.i : Lay U (List Zp × Int × Int × List Za × Zh) := (lay [(5, Wbi 100000000000006 0), (0, sAt (Wbn DD C.Zp)), (6, sAt (Waz .i64))] [Wcq 100000000000006 [(Waz .i64), (Wde DD 10000002000300601 C.Za 3)] Zas] (fun _ => by kernel_rfl))
def Zau.l3.o : Wdu U ((Int × List Za × Zh)) := Wdj 0 (lay [(5, Wbi 100000000000006 0)] [Wcq 100000000000006 [(Waz .i64), (Wde DD 10000002000300601 C.Za 3)] Zas] (fun _ => by kernel_rfl))
def Zau.Qgj : Jk U := ⟨(List Zp × Int × Bool × Int × List Za × Zh), Wcb (lay [(5, Wbi 100000000000006 0), (0, sAt (Wbn DD C.Zp)), (6, sAt (Waz .i64)), (17, sAt Wbh)] [Wcq 100000000000006 [(Waz .i64), (Wde DD 10000102300000601 C.Za 3)] Zas] (fun _ => by kernel_rfl))⟩
def Zau.j5001 : Jk U := ⟨(List Zp × Int × Int × List Za × Zh), Wcb (lay [(5, Wbi 100000000000006 0), (0, sAt (Wbn DD C.Zp)), (6, sAt (Waz .i64))] [Wcq 100000000000006 [(Waz .i64), (Wde DD 10000102500100601 C.Za 3)] Zas] (fun _ => by kernel_rfl))⟩
def Zau.E (k : Nat) : Env U := mkE Try.f26 [Zcz.pk k, Zaj.pk k, Zbx.pk k, Zy.pk k, Zbs.pk k, Zv.pk k, Zch.pk k] [(3000, Zau.Qgj), (5001, Zau.j5001)] [(3, ldn Zau.l3.i Zau.l3.o (iter (Zau.l3.once k) k))] [] n0 n0 [] false n00 nl0 [] nli
theorem Zau.l3.sound (k : Nat) : Wbz (Zau.E k) Try.f26.ntmps Try.f26 (.loop (Wbj Try.f26 3)) (ldn Zau.l3.i Zau.l3.o (iter (Zau.l3.once k) k)) :=
  Wdk (Zap _ _ _ _ _ _ _ _ _ _ _ _ _) mixed rfl (by kernel_rfl) (Zbc (l := []) (by kernel_rfl) Zat) Zau.l3.i Zau.l3.o (Zau.l3.once k) k (fun _ => by kernel_rfl)
def Zau.pk (k : Nat) : Pk Try.prog DD := pkP (E := Zau.E k) 26 (Zap _ _ _ _ _ _ _ _ _ _ _ _ _) Try.func26 mixed (Zbc (l := [.loop (Wbj Try.f26 3)]) (by kernel_rfl) (Zbi (key := 3) (by kernel_rfl) rfl (Zau.l3.sound k) Zat)) Zau.i Zau.r [] false (fun x => Zau.f k (x.1) (x.2)) (fun h => by cases h) fun _ => by kernel_rfl
def Zeg.f (k : Nat) (a0 : Int) : Option Bool := cond (decide (a0 ≥ 0)) (some (decide (a0 < 12))) (some false)
def Zeg.i : Lay U Int := (Wbd 0 (tAt (Waz .i64))).lay (fun _ => by kernel_rfl)
def Zeg.r : Lay U Bool := (Wbd 0 (tAt Wbh)).lay (fun _ => by kernel_rfl)
def Zeg.pk (k : Nat) : Pk Try.prog DD := pkP 77 (Zap Try.f77 [] [] [] [] n0 n0 [] false n00 nl0 [] nli) Try.func77 mixed (al0 (by kernel_rfl)) Zeg.i Zeg.r [] true (fun x => Zeg.f k (x)) (fun _ _ => rfl) fun _ => by kernel_rfl
def Zca.f (k : Nat) (a0 : Ze) (a1 : Int) : Option Bool := (Zeg.f k a1).bind fun t1 => (cond (t1) (cond (inb a1 12) (cond (Nat.blt (Int.toNat a1) 12) (some (!(List.getD (pack 12 false a0.Zk) (Int.toNat a1) false))) none) none) (some false))
def Zca.i : Lay U (Ze × Int) := (Wbq (Wbd 0 (tAt (vCd Zw))) (Wbd 1 (tAt (Waz .i64)))).lay (fun _ => by kernel_rfl)
def Zca.r : Lay U Bool := (Wbd 0 (tAt Wbh)).lay (fun _ => by kernel_rfl)
def Zca.pk (k : Nat) : Pk Try.prog DD := pkP 32 (Zap Try.f32 [Zeg.pk k] [] [] [] (fun t => Nat.beq t 44) n0 [] false n00 nl0 [] nli) Try.func32 mixed (al0 (by kernel_rfl)) Zca.i Zca.r [] true (fun x => Zca.f k (x.1) (x.2)) (fun _ _ => rfl) fun _ => by kernel_rfl
def Zdc.f (k : Nat) (a0 : Ze) (a1 : Int) : Option (Ze × Int) := (((Zca.f k (⟨pack 12 false a0.Zk, pack 12 0 a0.Zj⟩ : Ze) a1).bind fun t1 => (cond (!t1) (some (a1, true, (⟨pack 12 false a0.Zk, pack 12 0 a0.Zj⟩ : Ze), (⟨[false, false, false, false, false, false, false, false, false, false, false, false], [0, 0, 0, 0, 0, 0, 0, 0, 0, 0, 0, 0]⟩ : Ze))) (cond (decide (a1 > 0)) (cond (inb (IntKind.wrap .i64 (a1 - 1)) 12) (cond (Nat.blt (Int.toNat (IntKind.wrap .i64 (a1 - 1))) 12) (some (a1, !(List.getD (pack 12 false a0.Zk) (Int.toNat (IntKind.wrap .i64 (a1 - 1))) false), (⟨pack 12 false a0.Zk, pack 12 0 a0.Zj⟩ : Ze), (⟨[false, false, false, false, false, false, false, false, false, false, false, false], [0, 0, 0, 0, 0, 0, 0, 0, 0, 0, 0, 0]⟩ : Ze))) none) none) (some (a1, false, (⟨pack 12 false a0.Zk, pack 12 0 a0.Zj⟩ : Ze), (⟨[false, false, false, false, false, false, false, false, false, false, false, false], [0, 0, 0, 0, 0, 0, 0, 0, 0, 0, 0, 0]⟩ : Ze)))))) : Option (Int × Bool × Ze × Ze)).bind fun y6 => (cond (y6.2.1) (some ((⟨[false, false, false, false, false, false, false, false, false, false, false, false], [0, 0, 0, 0, 0, 0, 0, 0, 0, 0, 0, 0]⟩ : Ze), 8)) (cond (inb y6.1 12) (cond (Nat.blt (Int.toNat y6.1) 12) (cond (inb y6.1 12) (cond (Nat.blt (Int.toNat y6.1) 12) (cond (inb y6.1 12) (cond (Nat.blt (Int.toNat y6.1) 12) (some ((⟨Wil (Int.toNat y6.1) true 0 (pack 12 false y6.2.2.1.Zk), Wil (Int.toNat y6.1) (IntKind.wrap .i64 ((List.getD (pack 12 0 y6.2.2.1.Zj) (Int.toNat y6.1) 0) + 1)) 0 (pack 12 0 y6.2.2.1.Zj)⟩ : Ze), 0)) none) none) none) none) none) none))
def Zdc.i : Lay U (Ze × Int) := (Wbq (Wbd 0 (tAt (vCd Zw))) (Wbd 1 (tAt (Waz .i64)))).lay (fun _ => by kernel_rfl)
def Zdc.r : Lay U (Ze × Int) := (Wfa 0 (Wdi (tAt (vCd Zw)) (Wes (tAt (Waz .i64))))).lay (fun _ => by kernel_rfl)
def Zdc.Wdb : Jk U := ⟨(Int × Bool × Ze × Ze), Wcb (lay [(2, Wbi 2 0), (4, Wbi 4 0), (1, sAt (Waz .i64)), (21, sAt Wbh)] [bCd 2 Zw, bCd 4 Zw] (fun _ => by kernel_rfl))⟩
def Zdc.pk (k : Nat) : Pk Try.prog DD := pkP 67 (Zap Try.f67 [Zca.pk k] [(1000, Zdc.Wdb)] [] [] (fun t => Nat.beq t 44 || Nat.beq t 45) n0 [] false n00 nl0 [] nli) Try.func67 mixed (al0 (by kernel_rfl)) Zdc.i Zdc.r [] true (fun x => Zdc.f k (x.1) (x.2)) (fun _ _ => rfl) fun _ => by kernel_rfl
def Zt.f (k : Nat) (a0 : Zf) (a1 : Unit) (a2 : Int) : Option (Int × Zf) := (Zdc.f k (⟨pack 12 false a0.f_t.Zk, pack 12 0 a0.f_t.Zj⟩ : Ze) a2).bind fun t1 => (cond (t1.2 == 0) (some (t1.2, (⟨a0.Zac, a0.f_l, (⟨pack 12 false t1.1.Zk, pack 12 0 t1.1.Zj⟩ : Ze)⟩ : Zf))) (some (t1.2, (⟨a0.Zac, a0.f_l, (⟨pack 12 false a0.f_t.Zk, pack 12 0 a0.f_t.Zj⟩ : Ze)⟩ : Zf))))
def Zt.un (s : St U) : Option (Zf × Unit × Int) := match s.get 0, lk s.o 7000000000000, s.get 1, s.get 2, s.get 1000000000000000 with | .ptr 7000000000000 0, some (.lit (.flat (.int .i64 x1) :: x5 :: x3)), .fn 67 [], .flat (.int .i64 x6), .ptr 7000000000000 0 => (Zer s.o 3 x5).bind fun ex2 => ((Zw.full x3).bind fun x4 => (some ((⟨x1, ex2.2, x4⟩ : Zf), (), x6))) | _, _, _, _, _ => none
def Zt.mk (x : (Zf × Unit × Int)) : St U := ⟨[(0, .ptr 7000000000000 0), (1, .fn 67 []), (2, .flat (.int .i64 x.2.2)), (1000000000000000, .ptr 7000000000000 0)], [(7000000000000, .lit ((.flat (.int .i64 x.1.Zac)) :: (.tip 7000000000002 C.Za x.1.f_l) :: Zw.enc x.1.f_t)), (7000000000002, .tip 3)]⟩
def Zt.fin (y : (Int × Zf)) : St U := ⟨[(0, .flat (.int .i64 y.1)), (1000000000000000, .ptr 7000000000000 0)], [(7000000000000, .lit ((.flat (.int .i64 y.2.Zac)) :: (.tip 7000000000002 C.Za y.2.f_l) :: Zw.enc y.2.f_t)), (7000000000002, .tip 3)]⟩
def Zt.D (k : Nat) : Wfe U := { X := (Zf × Unit × Int), Y := (Int × Zf), nt := 28, gh := [0], un := Zt.un, f := fun x => Zt.f k (x.1) (x.2.1) (x.2.2), fin := Zt.fin, cl := false, clo := fun h => by cases h }
def Zt.re (s : St U) : Option (Int × Zf) := match s.get 0, s.get 1000000000000000, lk s.o 7000000000000 with | .flat (.int .i64 x1), .ptr 7000000000000 0, some (.lit (.flat (.int .i64 x2) :: x6 :: x4)) => (Zer s.o 3 x6).bind fun ex3 => ((Zw.full x4).bind fun x5 => (some (x1, (⟨x2, ex3.2, x5⟩ : Zf)))) | _, _, _ => none
def Zt.jl : List (Nat × JDen U) := []
def Zt.fl (k : Nat) : List (Nat × Wfe U) := [(67, (Zdc.pk k).d)]
def Zt.ll (k : Nat) : List (Nat × Wrb U) := []
def Zt.E (k : Nat) : Env U := { P := Try.prog, D := DD, fd := lk (Zt.fl k), sf := lk sl0, ld := lk (Zt.ll k), jd := lk Zt.jl, mode := lk [], elc := lk ec, mpc := lk mc, rts := Try.f66.resultTypes.toList, dyn := fun t => false, Wpm := fun d => false, results := Try.f66.results.toList, gh := [0], own := false, io := fun g i => false, lds := nl0, fn := lk [] }
theorem Zt.ok (k : Nat) : Wbx (Zt.E k) := Wxq lawful (Zt.fl k) sl0 (Zt.ll k) Zt.jl _ _ _ _ _ _ _ _ _ _ _ [] (fun _ => none) (by
  intro p hp
  simp only [Zt.fl, List.mem_cons, List.not_mem_nil, or_false] at hp
  rcases hp with rfl
  · exact ⟨(Zdc.pk k).snd, Zet Try.func67 (by kernel_rfl) (by kernel_rfl)⟩) Wqd (by
  intro p hp
  simp [Zt.jl] at hp) (fun _ h => (List.not_mem_nil h).elim)
theorem Zt.eq (k : Nat) (x : (Zf × Unit × Int)) : Wol (Zt.E k) (codeOf Try.f66) (Zt.mk x) Zt.re = (Zt.D k).f x := by kernel_rfl
theorem Zt.fit (s : St U) (x : (Zf × Unit × Int)) (h : Zt.un s = some x) : Fits s (Zt.mk x) := by
  unfold Zt.un at h
  split at h
  · obtain ⟨ex2, hex2, hh1⟩ := Option.bind_eq_some_iff.1 h
    obtain ⟨x4, hx4, hh2⟩ := Option.bind_eq_some_iff.1 hh1
    cases hh2
    refine Zep [(7000000000002, ex2.1)] ?_ ?_ Wwh rfl
    · exact List.forall_mem_cons.2 ⟨FV.one (FV.ptr (by assumption)), List.forall_mem_cons.2 ⟨FV.one (FV.same (by assumption) rfl), List.forall_mem_cons.2 ⟨FV.one (FV.same (by assumption) rfl), List.forall_mem_cons.2 ⟨FV.one (FV.ptr (by assumption)), fun _ hp => (List.not_mem_nil hp).elim⟩⟩⟩⟩
    · exact List.forall_mem_cons.2 ⟨FO.cells (show lk (St.o _) 7000000000000 = some _ from by assumption) (FCs.cons (Wsd rfl rfl) (FCs.cons ((Zcv hex2 rfl).1) (FCs.tail (Cd.Wjc hx4) rfl))), List.forall_mem_cons.2 ⟨(Zcv hex2 rfl).2, fun _ hp => (List.not_mem_nil hp).elim⟩⟩
  · cases h
theorem Zt.Qaq (s : St U) (y : (Int × Zf)) (h : Zt.re s = some y) : Fits s (Zt.fin y) := by
  unfold Zt.re at h
  split at h
  · obtain ⟨ex3, hex3, hh1⟩ := Option.bind_eq_some_iff.1 h
    obtain ⟨x5, hx5, hh2⟩ := Option.bind_eq_some_iff.1 hh1
    cases hh2
    refine Zep [(7000000000002, ex3.1)] ?_ ?_ Wwh rfl
    · exact List.forall_mem_cons.2 ⟨FV.one (FV.same (by assumption) rfl), List.forall_mem_cons.2 ⟨FV.one (FV.ptr (by assumption)), fun _ hp => (List.not_mem_nil hp).elim⟩⟩
    · exact List.forall_mem_cons.2 ⟨FO.cells (show lk (St.o _) 7000000000000 = some _ from by assumption) (FCs.cons (Wsd rfl rfl) (FCs.cons ((Zcv hex3 rfl).1) (FCs.tail (Cd.Wjc hx5) rfl))), List.forall_mem_cons.2 ⟨(Zcv hex3 rfl).2, fun _ hp => (List.not_mem_nil hp).elim⟩⟩
  · cases h
theorem Zt.sound (k : Nat) : Sound Try.prog DD 66 (Zt.D k) :=
  Wnl (E := Zt.E k) (fn := Try.f66) (c := codeOf Try.f66) (Zt.ok k) mixed rfl Try.func66 (by kernel_rfl) (by kernel_rfl) (Zbc (l := []) (by kernel_rfl) Zat) (Zt.D k) Zt.mk Zt.re (by kernel_rfl) (by kernel_rfl) Zt.fit Zt.Qaq (Zt.eq k)
def Zt.pk (k : Nat) : Pk Try.prog DD := ⟨66, Zt.D k, Zt.sound k, Zet Try.func66 (by kernel_rfl) (by kernel_rfl)⟩
def Zco.f (k : Nat) (a0 : Zf) (a1 : Int) : Option (Int × Zf) := (Zt.f k (⟨a0.Zac, a0.f_l, (⟨pack 12 false a0.f_t.Zk, pack 12 0 a0.f_t.Zj⟩ : Ze)⟩ : Zf) () a1).bind fun t1 => (some (t1.1, (⟨t1.2.Zac, t1.2.f_l, (⟨pack 12 false t1.2.f_t.Zk, pack 12 0 t1.2.f_t.Zj⟩ : Ze)⟩ : Zf)))
def Zco.i : Lay U (Zf × Int) := (Wwo 1000000000000000 7000000000000 (Wbq (Wbd 0 (Zaw 7000000000000 7000000000000)) (Wbd 1 (tAt (Waz .i64))))).lay (fun _ => by kernel_rfl)
def Zco.r : Lay U (Int × Zf) := (Wbq (Wbd 0 (tAt (Waz .i64))) (Wbd 1000000000000000 (Zaw 7000000000000 7000000000000))).lay (fun _ => by kernel_rfl)
def Zco.pk (k : Nat) : Pk Try.prog DD := pkP 27 (Zap Try.f27 [Zt.pk k] [] [] [] n0 n0 [0] false n00 nl0 [] nli) Try.func27 mixed (al0 (by kernel_rfl)) Zco.i Zco.r [0] false (fun x => Zco.f k (x.1) (x.2)) (fun h => by cases h) fun _ => by kernel_rfl
def Zbk.f (k : Nat) (a0 : Za) (a1 : Int) : Option Bool := some (a0.Wbm == a1)
def Zbk.i : Lay U (Za × Int) := (Wbq (Wbd 0 (tAt (vCd Wmb))) (Wbd 1 (tAt (vRp (Cd.int .i64))))).lay (fun _ => by kernel_rfl)
def Zbk.r : Lay U Bool := (Wbd 0 (tAt Wbh)).lay (fun _ => by kernel_rfl)
def Zbk.pk (k : Nat) : Pk Try.prog DD := pkP 48 (Zap Try.f48 [] [] [] [] n0 n0 [] false n00 nl0 [] nli) Try.func48 mixed (al0 (by kernel_rfl)) Zbk.i Zbk.r [] true (fun x => Zbk.f k (x.1) (x.2)) (fun _ _ => rfl) fun _ => by kernel_rfl
def Zc.l2.once (k : Nat) (x : (List Za × Int × Int × Int)) : Option ((List Za × Int × Int × Int) ⊕ (Unit ⊕ Int)) := match x with | (x1, x2, x3, x4) => cond (decide (x4 < x3)) (cond (inb x4 (List.length x1)) ((Zbk.f k (⟨(List.getD x1 (Int.toNat x4) Za.zero).Zad, (List.getD x1 (Int.toNat x4) Za.zero).Zay, (List.getD x1 (Int.toNat x4) Za.zero).Wbm⟩ : Za) x2).bind fun t5 => (cond (t5) (some (.inr (.inr x4))) (some (.inl (x1, x2, x3, IntKind.wrap .i64 (x4 + 1)))))) none) (some (.inr (.inl ())))
def Zc.f (k : Nat) (a0 : List Za) (a1 : Int) : Option Int := (iter (Zc.l2.once k) k (a0, a1, (List.length a0 : Int), 0)).bind fun | .inl y7 => (some (-1)) | .inr y8 => (some y8)
def Zc.un (s : St U) : Option (List Za × Int) := match s.get 0, s.get 1 with | .row C.Za x1, .fn 48 [.rp [.flat (.int .i64 x2)] 0] => some (x1, x2) | _, _ => none
def Zc.mk (x : (List Za × Int)) : St U := ⟨[(0, .row C.Za x.1), (1, .fn 48 [.rp [.flat (.int .i64 x.2)] 0])], []⟩
def Zc.fin (y : Int) : St U := ⟨[(0, .flat (.int .i64 y))], []⟩
def Zc.D (k : Nat) : Wfe U := { X := (List Za × Int), Y := Int, nt := 19, gh := [], un := Zc.un, f := fun x => Zc.f k (x.1) (x.2), fin := Zc.fin, cl := true, clo := fun _ _ => rfl }
def Zc.re (s : St U) : Option Int := match s.get 0 with | .flat (.int .i64 x1) => some x1 | _ => none
def Zc.l2.mk (x : (List Za × Int × Int × Int)) : St U := match x with | (x1, x2, x3, x4) => ⟨[(0, .row C.Za x1), (1, .fn 48 [.rp [.flat (.int .i64 x2)] 0]), (7, .flat (.int .i64 x3)), (8, .flat (.int .i64 x4))], []⟩
def Zc.l2.un (s : St U) : Option (List Za × Int × Int × Int) := (Wkn (s.get 0)).bind fun q0 => (match s.get 1, s.get 7, s.get 8 with | .fn 48 [.rp [.flat (.int .i64 x2)] 0], .flat (.int .i64 x3), .flat (.int .i64 x4) => some (q0, x2, x3, x4) | _, _, _ => none)
def Zc.l2.fin (y : Unit ⊕ Int) : Out U := match y with | .inl () => .exit 0 ⟨[], []⟩ | .inr z => .ret (⟨[(0, .flat (.int .i64 z))], []⟩)
def Zc.l2.Whl {ρ : Type} (y : Unit ⊕ Int) (K : Out U → Option ρ) : Option ρ := match y with | .inl () => K (.exit 0 ⟨[], []⟩) | .inr z => K (.ret (⟨[(0, .flat (.int .i64 z))], []⟩))
theorem Zc.l2.Wcs {ρ : Type} (y : Unit ⊕ Int) (K : Out U → Option ρ) : Zc.l2.Whl y K = K (Zc.l2.fin y) := by
  unfold Zc.l2.Whl Zc.l2.fin
  first | rfl | (split <;> rfl)
def Zc.l2.re : Out U → Option (Unit ⊕ Int) | .exit 0 s => (some (.inl ())) | .ret s => (match s.get 0 with | .flat (.int .i64 x1) => some (.inr x1) | _ => none) | _ => none
def Zc.l2.L (k : Nat) : Wrb U := { X := (List Za × Int × Int × Int), Y := Unit ⊕ Int, un := Zc.l2.un, f := iter (Zc.l2.once k) k, fin := Zc.l2.fin, Whl := Zc.l2.Whl, Wcs := Zc.l2.Wcs }
def Zc.jl : List (Nat × JDen U) := []
def Zc.fl (k : Nat) : List (Nat × Wfe U) := [(48, (Zbk.pk k).d)]
def Zc.ll (k : Nat) : List (Nat × Wrb U) := [(2, Zc.l2.L k)]
def Zc.E (k : Nat) : Env U := { P := Try.prog, D := DD, fd := lk (Zc.fl k), sf := lk sl0, ld := lk (Zc.ll k), jd := lk Zc.jl, mode := lk [], elc := lk ec, mpc := lk mc, rts := Try.f86.resultTypes.toList, dyn := fun t => false, Wpm := fun d => false, results := Try.f86.results.toList, gh := [], own := false, io := fun g i => false, lds := nl0, fn := lk [] }
theorem Zc.ok (k : Nat) : Wbx (Zc.E k) := Wxq lawful (Zc.fl k) sl0 (Zc.ll k) Zc.jl _ _ _ _ _ _ _ _ _ _ _ [] (fun _ => none) (by
  intro p hp
  simp only [Zc.fl, List.mem_cons, List.not_mem_nil, or_false] at hp
  rcases hp with rfl
  · exact ⟨(Zbk.pk k).snd, Zet Try.func48 (by kernel_rfl) (by kernel_rfl)⟩) Wqd (by
  intro p hp
  simp [Zc.jl] at hp) (fun _ h => (List.not_mem_nil h).elim)
theorem Zc.l2.eq (k : Nat) (x : (List Za × Int × Int × Int)) : evC (Zc.E k) (Wbj Try.f86 2) (Zc.l2.mk x) (Wlp Zc.l2.un Zc.l2.re) = Zc.l2.once k x := by kernel_rfl
theorem Zc.l2.fit (s : St U) (x : (List Za × Int × Int × Int)) (h : Zc.l2.un s = some x) : Fits s (Zc.l2.mk x) := by
  unfold Zc.l2.un at h
  obtain ⟨q0, eq0, h1⟩ := Option.bind_eq_some_iff.1 h
  split at h1
  · cases h1
    refine Zep [] ?_ ?_ Wka rfl
    · exact List.forall_mem_cons.2 ⟨FV.one (Wud eq0), List.forall_mem_cons.2 ⟨FV.one (FV.same (by assumption) rfl), List.forall_mem_cons.2 ⟨FV.one (FV.same (by assumption) rfl), List.forall_mem_cons.2 ⟨FV.one (FV.same (by assumption) rfl), fun _ hp => (List.not_mem_nil hp).elim⟩⟩⟩⟩
    · exact fun _ hp => (List.not_mem_nil hp).elim
  · cases h1
theorem Zc.l2.fitO (o : Out U) (y : Unit ⊕ Int) (h : Zc.l2.re o = some y) : Wth o (Zc.l2.fin y) := by
  unfold Zc.l2.re at h
  split at h
  · cases h
    refine Qgz (Zep [] ?_ ?_ Wka rfl)
    · exact fun _ hp => (List.not_mem_nil hp).elim
    · exact fun _ hp => (List.not_mem_nil hp).elim
  · split at h
    · cases h
      refine Qke (Zep [] ?_ ?_ Wka rfl)
      · exact List.forall_mem_cons.2 ⟨FV.one (FV.same (by assumption) rfl), fun _ hp => (List.not_mem_nil hp).elim⟩
      · exact fun _ hp => (List.not_mem_nil hp).elim
    · cases h
  · cases h
theorem Zc.l2.sound (k : Nat) : Wbz (Zc.E k) Try.f86.ntmps Try.f86 (.loop (Wbj Try.f86 2)) (Zc.l2.L k) :=
  Qfp (Zc.ok k) mixed rfl (by kernel_rfl) (Zbc (l := []) (by kernel_rfl) Zat) Zc.l2.un Zc.l2.mk Zc.l2.fin Zc.l2.re (Zc.l2.once k) k Zc.l2.fit Zc.l2.fitO (Zc.l2.eq k) Zc.l2.Whl Zc.l2.Wcs
theorem Zc.eq (k : Nat) (x : (List Za × Int)) : Wol (Zc.E k) (codeOf Try.f86) (Zc.mk x) Zc.re = (Zc.D k).f x := by kernel_rfl
theorem Zc.fit (s : St U) (x : (List Za × Int)) (h : Zc.un s = some x) : Fits s (Zc.mk x) := by
  unfold Zc.un at h
  split at h
  · cases h
    refine Zep [] ?_ ?_ Wka rfl
    · exact List.forall_mem_cons.2 ⟨FV.one (FV.same (by assumption) rfl), List.forall_mem_cons.2 ⟨FV.one (FV.same (by assumption) rfl), fun _ hp => (List.not_mem_nil hp).elim⟩⟩
    · exact fun _ hp => (List.not_mem_nil hp).elim
  · cases h
theorem Zc.Qaq (s : St U) (y : Int) (h : Zc.re s = some y) : Fits s (Zc.fin y) := by
  unfold Zc.re at h
  split at h
  · cases h
    refine Zep [] ?_ ?_ Wka rfl
    · exact List.forall_mem_cons.2 ⟨FV.one (FV.same (by assumption) rfl), fun _ hp => (List.not_mem_nil hp).elim⟩
    · exact fun _ hp => (List.not_mem_nil hp).elim
  · cases h
theorem Zc.sound (k : Nat) : Sound Try.prog DD 86 (Zc.D k) :=
  Wnl (E := Zc.E k) (fn := Try.f86) (c := codeOf Try.f86) (Zc.ok k) mixed rfl Try.func86 (by kernel_rfl) (by kernel_rfl) (Zbc (l := [.loop (Wbj Try.f86 2)]) (by kernel_rfl) (Zbi (key := 2) (by kernel_rfl) rfl (Zc.l2.sound k) Zat)) (Zc.D k) Zc.mk Zc.re (by kernel_rfl) (by kernel_rfl) Zc.fit Zc.Qaq (Zc.eq k)
def Zc.pk (k : Nat) : Pk Try.prog DD := ⟨86, Zc.D k, Zc.sound k, Zet Try.func86 (by kernel_rfl) (by kernel_rfl)⟩
def Zg.f (k : Nat) (a0 : List Za) (a1 : Int) : Option Bool := (Zc.f k a0 a1).bind fun t1 => (some (decide (t1 ≥ 0)))
def Zg.un (s : St U) : Option (List Za × Int) := match s.get 0, s.get 1 with | .row C.Za x1, .fn 48 [.rp [.flat (.int .i64 x2)] 0] => some (x1, x2) | _, _ => none
def Zg.mk (x : (List Za × Int)) : St U := ⟨[(0, .row C.Za x.1), (1, .fn 48 [.rp [.flat (.int .i64 x.2)] 0])], []⟩
def Zg.fin (y : Bool) : St U := ⟨[(0, .flat (.bool y))], []⟩
def Zg.D (k : Nat) : Wfe U := { X := (List Za × Int), Y := Bool, nt := 9, gh := [], un := Zg.un, f := fun x => Zg.f k (x.1) (x.2), fin := Zg.fin, cl := true, clo := fun _ _ => rfl }
def Zg.re (s : St U) : Option Bool := match s.get 0 with | .flat (.bool x1) => some x1 | _ => none
def Zg.jl : List (Nat × JDen U) := []
def Zg.fl (k : Nat) : List (Nat × Wfe U) := [(86, Zc.D k)]
def Zg.ll (k : Nat) : List (Nat × Wrb U) := []
def Zg.E (k : Nat) : Env U := { P := Try.prog, D := DD, fd := lk (Zg.fl k), sf := lk sl0, ld := lk (Zg.ll k), jd := lk Zg.jl, mode := lk [], elc := lk ec, mpc := lk mc, rts := Try.f47.resultTypes.toList, dyn := fun t => false, Wpm := fun d => false, results := Try.f47.results.toList, gh := [], own := false, io := fun g i => false, lds := nl0, fn := lk [] }
theorem Zg.ok (k : Nat) : Wbx (Zg.E k) := Wxq lawful (Zg.fl k) sl0 (Zg.ll k) Zg.jl _ _ _ _ _ _ _ _ _ _ _ [] (fun _ => none) (by
  intro p hp
  simp only [Zg.fl, List.mem_cons, List.not_mem_nil, or_false] at hp
  rcases hp with rfl
  · exact ⟨Zc.sound k, Zet Try.func86 (by kernel_rfl) (by kernel_rfl)⟩) Wqd (by
  intro p hp
  simp [Zg.jl] at hp) (fun _ h => (List.not_mem_nil h).elim)
theorem Zg.eq (k : Nat) (x : (List Za × Int)) : Wol (Zg.E k) (codeOf Try.f47) (Zg.mk x) Zg.re = (Zg.D k).f x := by kernel_rfl
theorem Zg.fit (s : St U) (x : (List Za × Int)) (h : Zg.un s = some x) : Fits s (Zg.mk x) := by
  unfold Zg.un at h
  split at h
  · cases h
    refine Zep [] ?_ ?_ Wka rfl
    · exact List.forall_mem_cons.2 ⟨FV.one (FV.same (by assumption) rfl), List.forall_mem_cons.2 ⟨FV.one (FV.same (by assumption) rfl), fun _ hp => (List.not_mem_nil hp).elim⟩⟩
    · exact fun _ hp => (List.not_mem_nil hp).elim
  · cases h
theorem Zg.Qaq (s : St U) (y : Bool) (h : Zg.re s = some y) : Fits s (Zg.fin y) := by
  unfold Zg.re at h
  split at h
  · cases h
    refine Zep [] ?_ ?_ Wka rfl
    · exact List.forall_mem_cons.2 ⟨FV.one (FV.same (by assumption) rfl), fun _ hp => (List.not_mem_nil hp).elim⟩
    · exact fun _ hp => (List.not_mem_nil hp).elim
  · cases h
theorem Zg.sound (k : Nat) : Sound Try.prog DD 47 (Zg.D k) :=
  Wnl (E := Zg.E k) (fn := Try.f47) (c := codeOf Try.f47) (Zg.ok k) mixed rfl Try.func47 (by kernel_rfl) (by kernel_rfl) (Zbc (l := []) (by kernel_rfl) Zat) (Zg.D k) Zg.mk Zg.re (by kernel_rfl) (by kernel_rfl) Zg.fit Zg.Qaq (Zg.eq k)
def Zg.pk (k : Nat) : Pk Try.prog DD := ⟨47, Zg.D k, Zg.sound k, Zet Try.func47 (by kernel_rfl) (by kernel_rfl)⟩
def Zes.f (k : Nat) (a0 : Int) : Option (Int × Int) := some (a0, 0)
def Zes.i : Lay U Int := (Wbd 0 (tAt (Waz .u64))).lay (fun _ => by kernel_rfl)
def Zes.r : Lay U (Int × Int) := (Wbd 0 (tAt (vCd (Cd.pair (Cd.int .u64) (Cd.int .u64))))).lay (fun _ => by kernel_rfl)
def Zes.pk (k : Nat) : Pk Try.prog DD := pkP 78 (Zap Try.f78 [] [] [] [] n0 n0 [] false n00 nl0 [] nli) Try.func78 mixed (al0 (by kernel_rfl)) Zes.i Zes.r [] true (fun x => Zes.f k (x)) (fun _ _ => rfl) fun _ => by kernel_rfl
def Zea.f (k : Nat) (a0 : (Int × Int)) : Option (Int × Int × Int × Int) := some (IntKind.wrap .u32 (a0.1), IntKind.wrap .u32 (Int.fdiv a0.1 (2 ^ 32)), IntKind.wrap .u32 (a0.2), IntKind.wrap .u32 (Int.fdiv a0.2 (2 ^ 32)))
def Zea.i : Lay U (Int × Int) := (Wbd 0 (tAt (vCd (Cd.pair (Cd.int .u64) (Cd.int .u64))))).lay (fun _ => by kernel_rfl)
def Zea.r : Lay U (Int × Int × Int × Int) := (Wbd 0 (tAt (vCd (Cd.pair (Cd.int .u32) (Cd.pair (Cd.int .u32) (Cd.pair (Cd.int .u32) (Cd.int .u32))))))).lay (fun _ => by kernel_rfl)
def Zea.pk (k : Nat) : Pk Try.prog DD := pkP 110 (Zap Try.f110 [] [] [] [] n0 n0 [] false n00 nl0 [] nli) Try.func110 mixed (al0 (by kernel_rfl)) Zea.i Zea.r [] true (fun x => Zea.f k (x)) (fun _ _ => rfl) fun _ => by kernel_rfl
def Zam.l8.once (k : Nat) (x : (Int × Int × Int × Int × Int × Int × Int × Int × Int × Int × Int × Int × Int × List Int × List Int × List Int)) : Option ((Int × Int × Int × Int × Int × Int × Int × Int × Int × Int × Int × Int × Int × List Int × List Int × List Int) ⊕ ((Int × Int × Int × Int × Int × Int × Int × List Int × List Int × List Int))) := match x with | (x14, x15, x16, x17, x18, x19, x20, x21, x22, x23, x24, x25, x26, x11, x12, x13) => cond (decide (x26 < 4)) (cond (inb x26 4) (cond (inb (IntKind.wrap .i64 (x14 + x26)) 8) (cond (Nat.blt (Int.toNat (IntKind.wrap .i64 (x14 + x26))) 8) (cond (inb (IntKind.wrap .i64 (x14 + x26)) 8) (cond (Nat.blt (Int.toNat (IntKind.wrap .i64 (x14 + x26))) 8) (some (.inl (x14, x15, Int.fdiv (IntKind.wrap .u64 ((IntKind.wrap .u64 ((IntKind.wrap .u64 ((IntKind.wrap .u64 (x15)) * (IntKind.wrap .u64 (List.getD [x22, x23, x24, x25] (Int.toNat x26) 0)))) + (List.getD x12 (Int.toNat (IntKind.wrap .i64 (x14 + x26))) 0))) + x16)) (2 ^ 32), x17, x18, x19, x20, x21, x22, x23, x24, x25, IntKind.wrap .i64 (x26 + 1), x11, List.set x12 (Int.toNat (IntKind.wrap .i64 (x14 + x26))) (IntKind.wrap .u64 (IntKind.wrap .u32 (IntKind.wrap .u64 ((IntKind.wrap .u64 ((IntKind.wrap .u64 ((IntKind.wrap .u64 (x15)) * (IntKind.wrap .u64 (List.getD [x22, x23, x24, x25] (Int.toNat x26) 0)))) + (List.getD x12 (Int.toNat (IntKind.wrap .i64 (x14 + x26))) 0))) + x16)))), x13))) none) none) none) none) none) (some (.inr (x14, x16, x17, x18, x19, x20, x21, x11, x12, x13)))
def Zam.l4.once (k : Nat) (x : (Int × Int × Int × Int × Int × List Int × List Int × List Int)) : Option ((Int × Int × Int × Int × Int × List Int × List Int × List Int) ⊕ ((List Int × List Int))) := match x with | (x6, x7, x8, x9, x10, x3, x4, x5) => cond (decide (x10 < 4)) (cond (inb x10 4) ((iter (Zam.l8.once k) k (x10, List.getD [x6, x7, x8, x9] (Int.toNat x10) 0, 0, x6, x7, x8, x9, x10, List.getD x5 0 0, List.getD x5 1 0, List.getD x5 2 0, List.getD x5 3 0, 0, x3, x4, x5)).bind fun y37 => (cond (inb (IntKind.wrap .i64 (y37.1 + 4)) 8) (cond (Nat.blt (Int.toNat (IntKind.wrap .i64 (y37.1 + 4))) 8) (some (.inl (y37.2.2.1, y37.2.2.2.1, y37.2.2.2.2.1, y37.2.2.2.2.2.1, IntKind.wrap .i64 (y37.2.2.2.2.2.2.1 + 1), y37.2.2.2.2.2.2.2.1, List.set y37.2.2.2.2.2.2.2.2.1 (Int.toNat (IntKind.wrap .i64 (y37.1 + 4))) y37.2.1, y37.2.2.2.2.2.2.2.2.2))) none) none)) none) (some (.inr (x3, x4)))
def Zam.l18.once (k : Nat) (x : (Int × List Int × List Int × List Int)) : Option ((Int × List Int × List Int × List Int) ⊕ ((List Int × List Int))) := match x with | (x44, x41, x42, x43) => cond (decide (x44 < 4)) (cond (inb (IntKind.wrap .i64 (2 * x44)) 8) (cond (Nat.blt (Int.toNat (IntKind.wrap .i64 (2 * x44))) 8) (cond (inb (IntKind.wrap .i64 ((IntKind.wrap .i64 (2 * x44)) + 1)) 8) (cond (Nat.blt (Int.toNat (IntKind.wrap .i64 ((IntKind.wrap .i64 (2 * x44)) + 1))) 8) (cond (inb x44 4) (cond (Nat.blt (Int.toNat x44) 4) (some (.inl (IntKind.wrap .i64 (x44 + 1), x41, x42, List.set x43 (Int.toNat x44) (bits .or .u64 (List.getD x42 (Int.toNat (IntKind.wrap .i64 (2 * x44))) 0) (IntKind.wrap .u64 ((List.getD x42 (Int.toNat (IntKind.wrap .i64 ((IntKind.wrap .i64 (2 * x44)) + 1))) 0) * 2 ^ 32)))))) none) none) none) none) none) none) (some (.inr (x41, x43)))
def Zam.f (k : Nat) (a0 : (Int × Int)) (a1 : (Int × Int)) : Option (Int × Int × Int × Int) := (Zea.f k (a0.1, a0.2)).bind fun t1 => ((Zea.f k (a1.1, a1.2)).bind fun t2 => ((iter (Zam.l4.once k) k (List.getD [t1.1, t1.2.1, t1.2.2.1, t1.2.2.2] 0 0, List.getD [t1.1, t1.2.1, t1.2.2.1, t1.2.2.2] 1 0, List.getD [t1.1, t1.2.1, t1.2.2.1, t1.2.2.2] 2 0, List.getD [t1.1, t1.2.1, t1.2.2.1, t1.2.2.2] 3 0, 0, [0, 0, 0, 0], [0, 0, 0, 0, 0, 0, 0, 0], [t2.1, t2.2.1, t2.2.2.1, t2.2.2.2])).bind fun y40 => ((iter (Zam.l18.once k) k (0, y40.1, y40.2, [0, 0, 0, 0])).bind fun y47 => (some (List.getD [List.getD y47.2 0 0, List.getD y47.2 1 0, List.getD y47.2 2 0, List.getD y47.2 3 0] 0 0, List.getD [List.getD y47.2 0 0, List.getD y47.2 1 0, List.getD y47.2 2 0, List.getD y47.2 3 0] 1 0, List.getD [List.getD y47.2 0 0, List.getD y47.2 1 0, List.getD y47.2 2 0, List.getD y47.2 3 0] 2 0, List.getD [List.getD y47.2 0 0, List.getD y47.2 1 0, List.getD y47.2 2 0, List.getD y47.2 3 0] 3 0)))))
def Zam.i : Lay U ((Int × Int) × (Int × Int)) := (Wbq (Wbd 0 (tAt (vCd (Cd.pair (Cd.int .u64) (Cd.int .u64))))) (Wbd 1 (tAt (vCd (Cd.pair (Cd.int .u64) (Cd.int .u64)))))).lay (fun _ => by kernel_rfl)
def Zam.r : Lay U (Int × Int × Int × Int) := (Wbd 0 (tAt (vCd (Cd.pair (Cd.int .u64) (Cd.pair (Cd.int .u64) (Cd.pair (Cd.int .u64) (Cd.int .u64))))))).lay (fun _ => by kernel_rfl)
def Zam.l8.i : Lay U (Int × Int × Int × Int × Int × Int × Int × Int × Int × Int × Int × Int × Int × List Int × List Int × List Int) := (lay [(4, Wbi 4 0), (5, Wbi 5 0), (7, Wbi 7 0), (8, sAt (Waz .i64)), (9, sAt (Waz .u32)), (10, sAt (Waz .u64)), (20, sAgg [(Waz .u32), (Waz .u32), (Waz .u32), (Waz .u32)]), (21, sAt (Waz .i64)), (25, sAgg [(Waz .u32), (Waz .u32), (Waz .u32), (Waz .u32)]), (26, sAt (Waz .i64))] [Wnw DD 4 4 C.u64, Wnw DD 5 8 C.u64, Wnw DD 7 4 C.u32] (fun _ => by kernel_rfl))
def Zam.l8.o : Wdu U ((Int × Int × Int × Int × Int × Int × Int × List Int × List Int × List Int)) := Wdj 2 (lay [(4, Wbi 4 0), (5, Wbi 5 0), (7, Wbi 7 0), (8, sAt (Waz .i64)), (10, sAt (Waz .u64)), (20, sAgg [(Waz .u32), (Waz .u32), (Waz .u32), (Waz .u32)]), (21, sAt (Waz .i64))] [Wnw DD 4 4 C.u64, Wnw DD 5 8 C.u64, Wnw DD 7 4 C.u32] (fun _ => by kernel_rfl))
def Zam.l4.i : Lay U (Int × Int × Int × Int × Int × List Int × List Int × List Int) := (lay [(4, Wbi 4 0), (5, Wbi 5 0), (7, Wbi 7 0), (20, sAgg [(Waz .u32), (Waz .u32), (Waz .u32), (Waz .u32)]), (21, sAt (Waz .i64))] [Wnw DD 4 4 C.u64, Wnw DD 5 8 C.u64, Wnw DD 7 4 C.u32] (fun _ => by kernel_rfl))
def Zam.l4.o : Wdu U ((List Int × List Int)) := Wdj 0 (lay [(4, Wbi 4 0), (5, Wbi 5 0)] [Wnw DD 4 4 C.u64, Wnw DD 5 8 C.u64] (fun _ => by kernel_rfl))
def Zam.l18.i : Lay U (Int × List Int × List Int × List Int) := (lay [(4, Wbi 4 0), (5, Wbi 5 0), (14, Wbi 14 0), (58, sAt (Waz .i64))] [Wnw DD 4 4 C.u64, Wnw DD 5 8 C.u64, Wnw DD 14 4 C.u64] (fun _ => by kernel_rfl))
def Zam.l18.o : Wdu U ((List Int × List Int)) := Wdj 4 (lay [(4, Wbi 4 0), (14, Wbi 14 0)] [Wnw DD 4 4 C.u64, Wnw DD 14 4 C.u64] (fun _ => by kernel_rfl))
def Zam.E (k : Nat) : Env U := mkE Try.f80 [Zea.pk k] [] [(8, ldn Zam.l8.i Zam.l8.o (iter (Zam.l8.once k) k)), (4, ldn Zam.l4.i Zam.l4.o (iter (Zam.l4.once k) k)), (18, ldn Zam.l18.i Zam.l18.o (iter (Zam.l18.once k) k))] [(91, (4, C.u64)), (150, (8, C.u64)), (152, (4, C.u32))] n0 n0 [] false n00 nl0 [] nli
theorem Zam.l8.sound (k : Nat) : Wbz (Zam.E k) Try.f80.ntmps Try.f80 (.loop (Wbj Try.f80 8)) (ldn Zam.l8.i Zam.l8.o (iter (Zam.l8.once k) k)) :=
  Wdk (Zap _ _ _ _ _ _ _ _ _ _ _ _ _) mixed rfl (by kernel_rfl) (Zbc (l := []) (by kernel_rfl) Zat) Zam.l8.i Zam.l8.o (Zam.l8.once k) k (fun _ => by kernel_rfl)
theorem Zam.l4.sound (k : Nat) : Wbz (Zam.E k) Try.f80.ntmps Try.f80 (.loop (Wbj Try.f80 4)) (ldn Zam.l4.i Zam.l4.o (iter (Zam.l4.once k) k)) :=
  Wdk (Zap _ _ _ _ _ _ _ _ _ _ _ _ _) mixed rfl (by kernel_rfl) (Zbc (l := [.loop (Wbj Try.f80 8)]) (by kernel_rfl) (Zbi (key := 8) (by kernel_rfl) rfl (Zam.l8.sound k) Zat)) Zam.l4.i Zam.l4.o (Zam.l4.once k) k (fun _ => by kernel_rfl)
theorem Zam.l18.sound (k : Nat) : Wbz (Zam.E k) Try.f80.ntmps Try.f80 (.loop (Wbj Try.f80 18)) (ldn Zam.l18.i Zam.l18.o (iter (Zam.l18.once k) k)) :=
  Wdk (Zap _ _ _ _ _ _ _ _ _ _ _ _ _) mixed rfl (by kernel_rfl) (Zbc (l := []) (by kernel_rfl) Zat) Zam.l18.i Zam.l18.o (Zam.l18.once k) k (fun _ => by kernel_rfl)
def Zam.pk (k : Nat) : Pk Try.prog DD := pkP (E := Zam.E k) 80 (Zap _ _ _ _ _ _ _ _ _ _ _ _ _) Try.func80 mixed (Zbc (l := [.loop (Wbj Try.f80 4), .loop (Wbj Try.f80 18)]) (by kernel_rfl) (Zbi (key := 4) (by kernel_rfl) rfl (Zam.l4.sound k) (Zbi (key := 18) (by kernel_rfl) rfl (Zam.l18.sound k) Zat))) Zam.i Zam.r [] true (fun x => Zam.f k (x.1) (x.2)) (fun _ _ => rfl) fun _ => by kernel_rfl
def Zdl.f (k : Nat) (a0 : (Int × Int × Int × Int)) : Option ((Int × Int) × Bool) := ((cond (a0.2.2.1 != 0) (some (true, a0.1, a0.2.1, a0.2.2.1, a0.2.2.2, 0, 0)) (some (a0.2.2.2 != 0, a0.1, a0.2.1, a0.2.2.1, a0.2.2.2, 0, 0))) : Option (Bool × Int × Int × Int × Int × Int × Int)).bind fun y8 => (cond (y8.1) (some ((0, 0), false)) (some ((y8.2.1, y8.2.2.1), true)))
def Zdl.i : Lay U (Int × Int × Int × Int) := (Wbd 0 (tAt (vCd (Cd.pair (Cd.int .u64) (Cd.pair (Cd.int .u64) (Cd.pair (Cd.int .u64) (Cd.int .u64))))))).lay (fun _ => by kernel_rfl)
def Zdl.r : Lay U ((Int × Int) × Bool) := (Wfa 0 (Wdi (tAt (vCd (Cd.pair (Cd.int .u64) (Cd.int .u64)))) (Wes (tAt Wbh)))).lay (fun _ => by kernel_rfl)
def Zdl.Wdb : Jk U := ⟨(Bool × Int × Int × Int × Int × Int × Int), Wcb (lay [(1, Wbi 1 0), (2, Wbi 2 0), (11, sAt Wbh)] [Wcw 1 [(Waz .u64), (Waz .u64), (Waz .u64), (Waz .u64)], Wcw 2 [(Waz .u64), (Waz .u64)]] (fun _ => by kernel_rfl))⟩
def Zdl.pk (k : Nat) : Pk Try.prog DD := pkP 82 (Zap Try.f82 [] [(1000, Zdl.Wdb)] [] [] n0 n0 [] false n00 nl0 [] nli) Try.func82 mixed (al0 (by kernel_rfl)) Zdl.i Zdl.r [] true (fun x => Zdl.f k (x)) (fun _ _ => rfl) fun _ => by kernel_rfl
def Zcb.l5.once (k : Nat) (x : (Int × Int × Int × Int × Int × Int)) : Option ((Int × Int × Int × Int × Int × Int) ⊕ ((Int × Int × Int × Int))) := match x with | (x11, x12, x7, x8, x9, x10) => cond (decide (x12 < x11)) ((Zes.f k 10).bind fun t13 => ((Zam.f k (x9, x10) (t13.1, t13.2)).bind fun t14 => ((Zdl.f k (t14.1, t14.2.1, t14.2.2.1, t14.2.2.2)).bind fun t15 => (some (.inl (x11, IntKind.wrap .i64 (x12 + 1), x7, x8, t15.1.1, t15.1.2)))))) (some (.inr (x7, x8, x9, x10)))
def Zcb.f (k : Nat) (a0 : Int) : Option ((Int × Int) × Bool) := ((cond (decide (a0 < 0)) (some (a0, true, 0, 0)) (some (a0, decide (a0 > 38), 0, 0))) : Option (Int × Bool × Int × Int)).bind fun y5 => (cond (y5.2.1) (some ((0, 0), false)) ((Zes.f k 1).bind fun t6 => ((iter (Zcb.l5.once k) k (y5.1, 0, y5.2.2.1, y5.2.2.2, t6.1, t6.2)).bind fun y20 => (some ((y20.2.2.1, y20.2.2.2), true)))))
def Zcb.i : Lay U Int := (Wbd 0 (tAt (Waz .i64))).lay (fun _ => by kernel_rfl)
def Zcb.r : Lay U ((Int × Int) × Bool) := (Wfa 0 (Wdi (tAt (vCd (Cd.pair (Cd.int .u64) (Cd.int .u64)))) (Wes (tAt Wbh)))).lay (fun _ => by kernel_rfl)
def Zcb.l5.i : Lay U (Int × Int × Int × Int × Int × Int) := (lay [(2, Wbi 2 0), (4, Wbi 4 0), (13, sAt (Waz .i64)), (14, sAt (Waz .i64))] [Wcw 2 [(Waz .u64), (Waz .u64)], Wcw 4 [(Waz .u64), (Waz .u64)]] (fun _ => by kernel_rfl))
def Zcb.l5.o : Wdu U ((Int × Int × Int × Int)) := Wdj 0 (lay [(2, Wbi 2 0), (4, Wbi 4 0)] [Wcw 2 [(Waz .u64), (Waz .u64)], Wcw 4 [(Waz .u64), (Waz .u64)]] (fun _ => by kernel_rfl))
def Zcb.Wdb : Jk U := ⟨(Int × Bool × Int × Int), Wcb (lay [(2, Wbi 2 0), (0, sAt (Waz .i64)), (10, sAt Wbh)] [Wcw 2 [(Waz .u64), (Waz .u64)]] (fun _ => by kernel_rfl))⟩
def Zcb.E (k : Nat) : Env U := mkE Try.f111 [Zes.pk k, Zam.pk k, Zdl.pk k] [(1000, Zcb.Wdb)] [(5, ldn Zcb.l5.i Zcb.l5.o (iter (Zcb.l5.once k) k))] [] n0 n0 [] false n00 nl0 [] nli
theorem Zcb.l5.sound (k : Nat) : Wbz (Zcb.E k) Try.f111.ntmps Try.f111 (.loop (Wbj Try.f111 5)) (ldn Zcb.l5.i Zcb.l5.o (iter (Zcb.l5.once k) k)) :=
  Wdk (Zap _ _ _ _ _ _ _ _ _ _ _ _ _) mixed rfl (by kernel_rfl) (Zbc (l := []) (by kernel_rfl) Zat) Zcb.l5.i Zcb.l5.o (Zcb.l5.once k) k (fun _ => by kernel_rfl)
def Zcb.pk (k : Nat) : Pk Try.prog DD := pkP (E := Zcb.E k) 111 (Zap _ _ _ _ _ _ _ _ _ _ _ _ _) Try.func111 mixed (Zbc (l := [.loop (Wbj Try.f111 5)]) (by kernel_rfl) (Zbi (key := 5) (by kernel_rfl) rfl (Zcb.l5.sound k) Zat)) Zcb.i Zcb.r [] true (fun x => Zcb.f k (x)) (fun _ _ => rfl) fun _ => by kernel_rfl
end
end Go.Proofs.Ytbchcjlllddlpaa
