import Derived.Test.YtbchcjlllddlpaaGreatF4
namespace Go.Proofs.YtbchcjlllddlpaaGreat
open Go Go.Ev
noncomputable section
set_option linter.unusedVariables false
set_option linter.unusedSimpArgs false
set_option maxRecDepth 100000
def Zdy.f (k : Nat) (a0 : Ze) (a1 : Int) : Option (Ze × Int) := (((Zcv.f k (⟨pack 12 false a0.Zo, pack 12 0 a0.Zk⟩ : Ze) a1).bind fun t1 => (cond (!t1) (some (a1, true, (⟨pack 12 false a0.Zo, pack 12 0 a0.Zk⟩ : Ze), (⟨[false, false, false, false, false, false, false, false, false, false, false, false], [0, 0, 0, 0, 0, 0, 0, 0, 0, 0, 0, 0]⟩ : Ze))) (cond (decide (a1 > 0)) (cond (inb (IntKind.wrap .i64 (a1 - 1)) 12) (cond (Nat.blt (Int.toNat (IntKind.wrap .i64 (a1 - 1))) 12) (some (a1, !(List.getD (pack 12 false a0.Zo) (Int.toNat (IntKind.wrap .i64 (a1 - 1))) false), (⟨pack 12 false a0.Zo, pack 12 0 a0.Zk⟩ : Ze), (⟨[false, false, false, false, false, false, false, false, false, false, false, false], [0, 0, 0, 0, 0, 0, 0, 0, 0, 0, 0, 0]⟩ : Ze))) none) none) (some (a1, false, (⟨pack 12 false a0.Zo, pack 12 0 a0.Zk⟩ : Ze), (⟨[false, false, false, false, false, false, false, false, false, false, false, false], [0, 0, 0, 0, 0, 0, 0, 0, 0, 0, 0, 0]⟩ : Ze)))))) : Option (Int × Bool × Ze × Ze)).bind fun y6 => (cond (y6.2.1) (some ((⟨[false, false, false, false, false, false, false, false, false, false, false, false], [0, 0, 0, 0, 0, 0, 0, 0, 0, 0, 0, 0]⟩ : Ze), 8)) (cond (inb y6.1 12) (cond (Nat.blt (Int.toNat y6.1) 12) (cond (inb y6.1 12) (cond (Nat.blt (Int.toNat y6.1) 12) (cond (inb y6.1 12) (cond (Nat.blt (Int.toNat y6.1) 12) (some ((⟨Zmx (Int.toNat y6.1) true 0 (pack 12 false y6.2.2.1.Zo), Zmx (Int.toNat y6.1) (IntKind.wrap .i64 ((List.getD (pack 12 0 y6.2.2.1.Zk) (Int.toNat y6.1) 0) + 1)) 0 (pack 12 0 y6.2.2.1.Zk)⟩ : Ze), 0)) none) none) none) none) none) none))
def Zdy.i : Lay U (Ze × Int) := (Zhb (Zgv 0 (tAt (vCd Zad))) (Zgv 1 (tAt (Zgt .i64)))).lay (fun _ => by kernel_rfl)
def Zdy.r : Lay U (Ze × Int) := (Ziq 0 (Zhr (tAt (vCd Zad)) (Zin (tAt (Zgt .i64))))).lay (fun _ => by kernel_rfl)
def Zdy.Zhv : Jk U := ⟨(Int × Bool × Ze × Ze), Zhj (lay [(2, Zgx 2 0), (4, Zgx 4 0), (1, sAt (Zgt .i64)), (21, sAt Zgy)] [bCd 2 Zad, bCd 4 Zad] (fun _ => by kernel_rfl))⟩
def Zdy.pk (k : Nat) : Pk Tryz.prog DD := pkP 75 (Zag Tryz.f75 [Zcv.pk k] [(1000, Zdy.Zhv)] [] [] (fun t => Nat.beq t 68 || Nat.beq t 69) n0 [] false n00 nl0 [] nli) Tryz.func75 mixed (al0 (by kernel_rfl)) Zdy.i Zdy.r [] true (fun x => Zdy.f k (x.1) (x.2)) (fun _ _ => rfl) fun _ => by kernel_rfl
def Zu.f (k : Nat) (a0 : Zi) (a1 : Unit) (a2 : Int) : Option (Int × Zi) := (Zdy.f k (⟨pack 12 false a0.f_t.Zo, pack 12 0 a0.f_t.Zk⟩ : Ze) a2).bind fun t1 => (cond (t1.2 == 0) (some (t1.2, (⟨a0.Zbc, a0.f_l, (⟨pack 12 false t1.1.Zo, pack 12 0 t1.1.Zk⟩ : Ze)⟩ : Zi))) (some (t1.2, (⟨a0.Zbc, a0.f_l, (⟨pack 12 false a0.f_t.Zo, pack 12 0 a0.f_t.Zk⟩ : Ze)⟩ : Zi))))
def Zu.un (s : St U) : Option (Zi × Unit × Int) := match s.get 0, lk s.o 7000000000000, s.get 1, s.get 2, s.get 1000000000000000 with | .ptr 7000000000000 0, some (.lit (.flat (.int .i64 x1) :: x5 :: x3)), .fn 75 [], .flat (.int .i64 x6), .ptr 7000000000000 0 => (Zfv s.o 3 x5).bind fun ex2 => ((Zad.full x3).bind fun x4 => (some ((⟨x1, ex2.2, x4⟩ : Zi), (), x6))) | _, _, _, _, _ => none
def Zu.mk (x : (Zi × Unit × Int)) : St U := ⟨[(0, .ptr 7000000000000 0), (1, .fn 75 []), (2, .flat (.int .i64 x.2.2)), (1000000000000000, .ptr 7000000000000 0)], [(7000000000000, .lit ((.flat (.int .i64 x.1.Zbc)) :: (.tip 7000000000002 C.Zd x.1.f_l) :: Zad.enc x.1.f_t)), (7000000000002, .tip 3)]⟩
def Zu.fin (y : (Int × Zi)) : St U := ⟨[(0, .flat (.int .i64 y.1)), (1000000000000000, .ptr 7000000000000 0)], [(7000000000000, .lit ((.flat (.int .i64 y.2.Zbc)) :: (.tip 7000000000002 C.Zd y.2.f_l) :: Zad.enc y.2.f_t)), (7000000000002, .tip 3)]⟩
def Zu.D (k : Nat) : Zkg U := { X := (Zi × Unit × Int), Y := (Int × Zi), nt := 28, gh := [0], un := Zu.un, f := fun x => Zu.f k (x.1) (x.2.1) (x.2.2), fin := Zu.fin, cl := false, clo := fun h => by cases h }
def Zu.re (s : St U) : Option (Int × Zi) := match s.get 0, s.get 1000000000000000, lk s.o 7000000000000 with | .flat (.int .i64 x1), .ptr 7000000000000 0, some (.lit (.flat (.int .i64 x2) :: x6 :: x4)) => (Zfv s.o 3 x6).bind fun ex3 => ((Zad.full x4).bind fun x5 => (some (x1, (⟨x2, ex3.2, x5⟩ : Zi)))) | _, _, _ => none
def Zu.jl : List (Nat × JDen U) := []
def Zu.fl (k : Nat) : List (Nat × Zkg U) := [(75, (Zdy.pk k).d)]
def Zu.ll (k : Nat) : List (Nat × Zwe U) := []
def Zu.E (k : Nat) : Env U := { P := Tryz.prog, D := DD, fd := lk (Zu.fl k), sf := lk sl0, ld := lk (Zu.ll k), jd := lk Zu.jl, mode := lk [], elc := lk ec, mpc := lk mc, rts := Tryz.f74.resultTypes.toList, dyn := fun t => false, Zuu := fun d => false, results := Tryz.f74.results.toList, gh := [0], own := false, io := fun g i => false, lds := nl0, fn := lk [] }
theorem Zu.ok (k : Nat) : Zhp (Zu.E k) := Ycu lawful (Zu.fl k) sl0 (Zu.ll k) Zu.jl _ _ _ _ _ _ _ _ _ _ _ [] (fun _ => none) (by
  intro p hp
  simp only [Zu.fl, List.mem_cons, List.not_mem_nil, or_false] at hp
  rcases hp with rfl
  · exact ⟨(Zdy.pk k).snd, Zfk Tryz.func75 (by kernel_rfl) (by kernel_rfl)⟩) Zvb (by
  intro p hp
  simp [Zu.jl] at hp) (fun _ h => (List.not_mem_nil h).elim)
theorem Zu.eq (k : Nat) (x : (Zi × Unit × Int)) : Zth (Zu.E k) (codeOf Tryz.f74) (Zu.mk x) Zu.re = (Zu.D k).f x := by kernel_rfl
theorem Zu.fit (s : St U) (x : (Zi × Unit × Int)) (h : Zu.un s = some x) : Fits s (Zu.mk x) := by
  unfold Zu.un at h
  split at h
  · obtain ⟨ex2, hex2, hh1⟩ := Option.bind_eq_some_iff.1 h
    obtain ⟨x4, hx4, hh2⟩ := Option.bind_eq_some_iff.1 hh1
    cases hh2
    refine Zfq [(7000000000002, ex2.1)] ?_ ?_ Ybf rfl
    · exact List.forall_mem_cons.2 ⟨FV.one (FV.ptr (by assumption)), List.forall_mem_cons.2 ⟨FV.one (FV.same (by assumption) rfl), List.forall_mem_cons.2 ⟨FV.one (FV.same (by assumption) rfl), List.forall_mem_cons.2 ⟨FV.one (FV.ptr (by assumption)), fun _ hp => (List.not_mem_nil hp).elim⟩⟩⟩⟩
    · exact List.forall_mem_cons.2 ⟨FO.cells (show lk (St.o _) 7000000000000 = some _ from by assumption) (FCs.cons (Zxp rfl rfl) (FCs.cons ((Zds hex2 rfl).1) (FCs.tail (Cd.Zoc hx4) rfl))), List.forall_mem_cons.2 ⟨(Zds hex2 rfl).2, fun _ hp => (List.not_mem_nil hp).elim⟩⟩
  · cases h
theorem Zu.Yfr (s : St U) (y : (Int × Zi)) (h : Zu.re s = some y) : Fits s (Zu.fin y) := by
  unfold Zu.re at h
  split at h
  · obtain ⟨ex3, hex3, hh1⟩ := Option.bind_eq_some_iff.1 h
    obtain ⟨x5, hx5, hh2⟩ := Option.bind_eq_some_iff.1 hh1
    cases hh2
    refine Zfq [(7000000000002, ex3.1)] ?_ ?_ Ybf rfl
    · exact List.forall_mem_cons.2 ⟨FV.one (FV.same (by assumption) rfl), List.forall_mem_cons.2 ⟨FV.one (FV.ptr (by assumption)), fun _ hp => (List.not_mem_nil hp).elim⟩⟩
    · exact List.forall_mem_cons.2 ⟨FO.cells (show lk (St.o _) 7000000000000 = some _ from by assumption) (FCs.cons (Zxp rfl rfl) (FCs.cons ((Zds hex3 rfl).1) (FCs.tail (Cd.Zoc hx5) rfl))), List.forall_mem_cons.2 ⟨(Zds hex3 rfl).2, fun _ hp => (List.not_mem_nil hp).elim⟩⟩
  · cases h
theorem Zu.sound (k : Nat) : Sound Tryz.prog DD 74 (Zu.D k) :=
  Zsl (E := Zu.E k) (fn := Tryz.f74) (c := codeOf Tryz.f74) (Zu.ok k) mixed rfl Tryz.func74 (by kernel_rfl) (by kernel_rfl) (Zbe (l := []) (by kernel_rfl) Zau) (Zu.D k) Zu.mk Zu.re (by kernel_rfl) (by kernel_rfl) Zu.fit Zu.Yfr (Zu.eq k)
def Zu.pk (k : Nat) : Pk Tryz.prog DD := ⟨74, Zu.D k, Zu.sound k, Zfk Tryz.func74 (by kernel_rfl) (by kernel_rfl)⟩
def Zdf.f (k : Nat) (a0 : Zi) (a1 : Int) : Option (Int × Zi) := (Zu.f k (⟨a0.Zbc, a0.f_l, (⟨pack 12 false a0.f_t.Zo, pack 12 0 a0.f_t.Zk⟩ : Ze)⟩ : Zi) () a1).bind fun t1 => (some (t1.1, (⟨t1.2.Zbc, t1.2.f_l, (⟨pack 12 false t1.2.f_t.Zo, pack 12 0 t1.2.f_t.Zk⟩ : Ze)⟩ : Zi)))
def Zdf.i : Lay U (Zi × Int) := (Ztk 1000000000000000 7000000000000 (Zhb (Zgv 0 (Zbb 7000000000000 7000000000000)) (Zgv 1 (tAt (Zgt .i64))))).lay (fun _ => by kernel_rfl)
def Zdf.r : Lay U (Int × Zi) := (Zhb (Zgv 0 (tAt (Zgt .i64))) (Zgv 1000000000000000 (Zbb 7000000000000 7000000000000))).lay (fun _ => by kernel_rfl)
def Zdf.pk (k : Nat) : Pk Tryz.prog DD := pkP 22 (Zag Tryz.f22 [Zu.pk k] [] [] [] n0 n0 [0] false n00 nl0 [] nli) Tryz.func22 mixed (al0 (by kernel_rfl)) Zdf.i Zdf.r [0] false (fun x => Zdf.f k (x.1) (x.2)) (fun h => by cases h) fun _ => by kernel_rfl
def Zbv.f (k : Nat) (a0 : Zd) (a1 : Int) : Option Bool := some (a0.Zjl == a1)
def Zbv.i : Lay U (Zd × Int) := (Zhb (Zgv 0 (tAt (vCd Zrj))) (Zgv 1 (tAt (vRp (Cd.int .i64))))).lay (fun _ => by kernel_rfl)
def Zbv.r : Lay U Bool := (Zgv 0 (tAt Zgy)).lay (fun _ => by kernel_rfl)
def Zbv.pk (k : Nat) : Pk Tryz.prog DD := pkP 132 (Zag Tryz.f132 [] [] [] [] n0 n0 [] false n00 nl0 [] nli) Tryz.func132 mixed (al0 (by kernel_rfl)) Zbv.i Zbv.r [] true (fun x => Zbv.f k (x.1) (x.2)) (fun _ _ => rfl) fun _ => by kernel_rfl
def Zb.l2.once (k : Nat) (x : (List Zd × Int × Int × Int)) : Option ((List Zd × Int × Int × Int) ⊕ (Unit ⊕ Int)) := match x with | (x1, x2, x3, x4) => cond (decide (x4 < x3)) (cond (inb x4 (List.length x1)) ((Zbv.f k (⟨(List.getD x1 (Int.toNat x4) Zd.zero).Zbj, (List.getD x1 (Int.toNat x4) Zd.zero).Zci, (List.getD x1 (Int.toNat x4) Zd.zero).Zjl⟩ : Zd) x2).bind fun t5 => (cond (t5) (some (.inr (.inr x4))) (some (.inl (x1, x2, x3, IntKind.wrap .i64 (x4 + 1)))))) none) (some (.inr (.inl ())))
def Zb.f (k : Nat) (a0 : List Zd) (a1 : Int) : Option Int := (iter (Zb.l2.once k) k (a0, a1, (List.length a0 : Int), 0)).bind fun | .inl y7 => (some (-1)) | .inr y8 => (some y8)
def Zb.un (s : St U) : Option (List Zd × Int) := match s.get 0, s.get 1 with | .row C.Zd x1, .fn 132 [.rp [.flat (.int .i64 x2)] 0] => some (x1, x2) | _, _ => none
def Zb.mk (x : (List Zd × Int)) : St U := ⟨[(0, .row C.Zd x.1), (1, .fn 132 [.rp [.flat (.int .i64 x.2)] 0])], []⟩
def Zb.fin (y : Int) : St U := ⟨[(0, .flat (.int .i64 y))], []⟩
def Zb.D (k : Nat) : Zkg U := { X := (List Zd × Int), Y := Int, nt := 19, gh := [], un := Zb.un, f := fun x => Zb.f k (x.1) (x.2), fin := Zb.fin, cl := true, clo := fun _ _ => rfl }
def Zb.re (s : St U) : Option Int := match s.get 0 with | .flat (.int .i64 x1) => some x1 | _ => none
def Zb.l2.mk (x : (List Zd × Int × Int × Int)) : St U := match x with | (x1, x2, x3, x4) => ⟨[(0, .row C.Zd x1), (1, .fn 132 [.rp [.flat (.int .i64 x2)] 0]), (7, .flat (.int .i64 x3)), (8, .flat (.int .i64 x4))], []⟩
def Zb.l2.un (s : St U) : Option (List Zd × Int × Int × Int) := (Zpy (s.get 0)).bind fun q0 => (match s.get 1, s.get 7, s.get 8 with | .fn 132 [.rp [.flat (.int .i64 x2)] 0], .flat (.int .i64 x3), .flat (.int .i64 x4) => some (q0, x2, x3, x4) | _, _, _ => none)
def Zb.l2.fin (y : Unit ⊕ Int) : Out U := match y with | .inl () => .exit 0 ⟨[], []⟩ | .inr z => .ret (⟨[(0, .flat (.int .i64 z))], []⟩)
def Zb.l2.Zms {ρ : Type} (y : Unit ⊕ Int) (K : Out U → Option ρ) : Option ρ := match y with | .inl () => K (.exit 0 ⟨[], []⟩) | .inr z => K (.ret (⟨[(0, .flat (.int .i64 z))], []⟩))
theorem Zb.l2.Zig {ρ : Type} (y : Unit ⊕ Int) (K : Out U → Option ρ) : Zb.l2.Zms y K = K (Zb.l2.fin y) := by
  unfold Zb.l2.Zms Zb.l2.fin
  first | rfl | (split <;> rfl)
def Zb.l2.re : Out U → Option (Unit ⊕ Int) | .exit 0 s => (some (.inl ())) | .ret s => (match s.get 0 with | .flat (.int .i64 x1) => some (.inr x1) | _ => none) | _ => none
def Zb.l2.L (k : Nat) : Zwe U := { X := (List Zd × Int × Int × Int), Y := Unit ⊕ Int, un := Zb.l2.un, f := iter (Zb.l2.once k) k, fin := Zb.l2.fin, Zms := Zb.l2.Zms, Zig := Zb.l2.Zig }
def Zb.jl : List (Nat × JDen U) := []
def Zb.fl (k : Nat) : List (Nat × Zkg U) := [(132, (Zbv.pk k).d)]
def Zb.ll (k : Nat) : List (Nat × Zwe U) := [(2, Zb.l2.L k)]
def Zb.E (k : Nat) : Env U := { P := Tryz.prog, D := DD, fd := lk (Zb.fl k), sf := lk sl0, ld := lk (Zb.ll k), jd := lk Zb.jl, mode := lk [], elc := lk ec, mpc := lk mc, rts := Tryz.f165.resultTypes.toList, dyn := fun t => false, Zuu := fun d => false, results := Tryz.f165.results.toList, gh := [], own := false, io := fun g i => false, lds := nl0, fn := lk [] }
theorem Zb.ok (k : Nat) : Zhp (Zb.E k) := Ycu lawful (Zb.fl k) sl0 (Zb.ll k) Zb.jl _ _ _ _ _ _ _ _ _ _ _ [] (fun _ => none) (by
  intro p hp
  simp only [Zb.fl, List.mem_cons, List.not_mem_nil, or_false] at hp
  rcases hp with rfl
  · exact ⟨(Zbv.pk k).snd, Zfk Tryz.func132 (by kernel_rfl) (by kernel_rfl)⟩) Zvb (by
  intro p hp
  simp [Zb.jl] at hp) (fun _ h => (List.not_mem_nil h).elim)
theorem Zb.l2.eq (k : Nat) (x : (List Zd × Int × Int × Int)) : evC (Zb.E k) (Zhd Tryz.f165 2) (Zb.l2.mk x) (Zqy Zb.l2.un Zb.l2.re) = Zb.l2.once k x := by kernel_rfl
theorem Zb.l2.fit (s : St U) (x : (List Zd × Int × Int × Int)) (h : Zb.l2.un s = some x) : Fits s (Zb.l2.mk x) := by
  unfold Zb.l2.un at h
  obtain ⟨q0, eq0, h1⟩ := Option.bind_eq_some_iff.1 h
  split at h1
  · cases h1
    refine Zfq [] ?_ ?_ Zph rfl
    · exact List.forall_mem_cons.2 ⟨FV.one (Zzg eq0), List.forall_mem_cons.2 ⟨FV.one (FV.same (by assumption) rfl), List.forall_mem_cons.2 ⟨FV.one (FV.same (by assumption) rfl), List.forall_mem_cons.2 ⟨FV.one (FV.same (by assumption) rfl), fun _ hp => (List.not_mem_nil hp).elim⟩⟩⟩⟩
    · exact fun _ hp => (List.not_mem_nil hp).elim
  · cases h1
theorem Zb.l2.fitO (o : Out U) (y : Unit ⊕ Int) (h : Zb.l2.re o = some y) : Zym o (Zb.l2.fin y) := by
  unfold Zb.l2.re at h
  split at h
  · cases h
    refine Ymb (Zfq [] ?_ ?_ Zph rfl)
    · exact fun _ hp => (List.not_mem_nil hp).elim
    · exact fun _ hp => (List.not_mem_nil hp).elim
  · split at h
    · cases h
      refine Yqq (Zfq [] ?_ ?_ Zph rfl)
      · exact List.forall_mem_cons.2 ⟨FV.one (FV.same (by assumption) rfl), fun _ hp => (List.not_mem_nil hp).elim⟩
      · exact fun _ hp => (List.not_mem_nil hp).elim
    · cases h
  · cases h
theorem Zb.l2.sound (k : Nat) : Zhn (Zb.E k) Tryz.f165.ntmps Tryz.f165 (.loop (Zhd Tryz.f165 2)) (Zb.l2.L k) :=
  Ykp (Zb.ok k) mixed rfl (by kernel_rfl) (Zbe (l := []) (by kernel_rfl) Zau) Zb.l2.un Zb.l2.mk Zb.l2.fin Zb.l2.re (Zb.l2.once k) k Zb.l2.fit Zb.l2.fitO (Zb.l2.eq k) Zb.l2.Zms Zb.l2.Zig
theorem Zb.eq (k : Nat) (x : (List Zd × Int)) : Zth (Zb.E k) (codeOf Tryz.f165) (Zb.mk x) Zb.re = (Zb.D k).f x := by kernel_rfl
theorem Zb.fit (s : St U) (x : (List Zd × Int)) (h : Zb.un s = some x) : Fits s (Zb.mk x) := by
  unfold Zb.un at h
  split at h
  · cases h
    refine Zfq [] ?_ ?_ Zph rfl
    · exact List.forall_mem_cons.2 ⟨FV.one (FV.same (by assumption) rfl), List.forall_mem_cons.2 ⟨FV.one (FV.same (by assumption) rfl), fun _ hp => (List.not_mem_nil hp).elim⟩⟩
    · exact fun _ hp => (List.not_mem_nil hp).elim
  · cases h
theorem Zb.Yfr (s : St U) (y : Int) (h : Zb.re s = some y) : Fits s (Zb.fin y) := by
  unfold Zb.re at h
  split at h
  · cases h
    refine Zfq [] ?_ ?_ Zph rfl
    · exact List.forall_mem_cons.2 ⟨FV.one (FV.same (by assumption) rfl), fun _ hp => (List.not_mem_nil hp).elim⟩
    · exact fun _ hp => (List.not_mem_nil hp).elim
  · cases h
theorem Zb.sound (k : Nat) : Sound Tryz.prog DD 165 (Zb.D k) :=
  Zsl (E := Zb.E k) (fn := Tryz.f165) (c := codeOf Tryz.f165) (Zb.ok k) mixed rfl Tryz.func165 (by kernel_rfl) (by kernel_rfl) (Zbe (l := [.loop (Zhd Tryz.f165 2)]) (by kernel_rfl) (Zbp (key := 2) (by kernel_rfl) rfl (Zb.l2.sound k) Zau)) (Zb.D k) Zb.mk Zb.re (by kernel_rfl) (by kernel_rfl) Zb.fit Zb.Yfr (Zb.eq k)
def Zb.pk (k : Nat) : Pk Tryz.prog DD := ⟨165, Zb.D k, Zb.sound k, Zfk Tryz.func165 (by kernel_rfl) (by kernel_rfl)⟩
def Zg.f (k : Nat) (a0 : List Zd) (a1 : Int) : Option Bool := (Zb.f k a0 a1).bind fun t1 => (some (decide (t1 ≥ 0)))
def Zg.un (s : St U) : Option (List Zd × Int) := match s.get 0, s.get 1 with | .row C.Zd x1, .fn 132 [.rp [.flat (.int .i64 x2)] 0] => some (x1, x2) | _, _ => none
def Zg.mk (x : (List Zd × Int)) : St U := ⟨[(0, .row C.Zd x.1), (1, .fn 132 [.rp [.flat (.int .i64 x.2)] 0])], []⟩
def Zg.fin (y : Bool) : St U := ⟨[(0, .flat (.bool y))], []⟩
def Zg.D (k : Nat) : Zkg U := { X := (List Zd × Int), Y := Bool, nt := 9, gh := [], un := Zg.un, f := fun x => Zg.f k (x.1) (x.2), fin := Zg.fin, cl := true, clo := fun _ _ => rfl }
def Zg.re (s : St U) : Option Bool := match s.get 0 with | .flat (.bool x1) => some x1 | _ => none
def Zg.jl : List (Nat × JDen U) := []
def Zg.fl (k : Nat) : List (Nat × Zkg U) := [(165, Zb.D k)]
def Zg.ll (k : Nat) : List (Nat × Zwe U) := []
def Zg.E (k : Nat) : Env U := { P := Tryz.prog, D := DD, fd := lk (Zg.fl k), sf := lk sl0, ld := lk (Zg.ll k), jd := lk Zg.jl, mode := lk [], elc := lk ec, mpc := lk mc, rts := Tryz.f131.resultTypes.toList, dyn := fun t => false, Zuu := fun d => false, results := Tryz.f131.results.toList, gh := [], own := false, io := fun g i => false, lds := nl0, fn := lk [] }
theorem Zg.ok (k : Nat) : Zhp (Zg.E k) := Ycu lawful (Zg.fl k) sl0 (Zg.ll k) Zg.jl _ _ _ _ _ _ _ _ _ _ _ [] (fun _ => none) (by
  intro p hp
  simp only [Zg.fl, List.mem_cons, List.not_mem_nil, or_false] at hp
  rcases hp with rfl
  · exact ⟨Zb.sound k, Zfk Tryz.func165 (by kernel_rfl) (by kernel_rfl)⟩) Zvb (by
  intro p hp
  simp [Zg.jl] at hp) (fun _ h => (List.not_mem_nil h).elim)
theorem Zg.eq (k : Nat) (x : (List Zd × Int)) : Zth (Zg.E k) (codeOf Tryz.f131) (Zg.mk x) Zg.re = (Zg.D k).f x := by kernel_rfl
theorem Zg.fit (s : St U) (x : (List Zd × Int)) (h : Zg.un s = some x) : Fits s (Zg.mk x) := by
  unfold Zg.un at h
  split at h
  · cases h
    refine Zfq [] ?_ ?_ Zph rfl
    · exact List.forall_mem_cons.2 ⟨FV.one (FV.same (by assumption) rfl), List.forall_mem_cons.2 ⟨FV.one (FV.same (by assumption) rfl), fun _ hp => (List.not_mem_nil hp).elim⟩⟩
    · exact fun _ hp => (List.not_mem_nil hp).elim
  · cases h
theorem Zg.Yfr (s : St U) (y : Bool) (h : Zg.re s = some y) : Fits s (Zg.fin y) := by
  unfold Zg.re at h
  split at h
  · cases h
    refine Zfq [] ?_ ?_ Zph rfl
    · exact List.forall_mem_cons.2 ⟨FV.one (FV.same (by assumption) rfl), fun _ hp => (List.not_mem_nil hp).elim⟩
    · exact fun _ hp => (List.not_mem_nil hp).elim
  · cases h
theorem Zg.sound (k : Nat) : Sound Tryz.prog DD 131 (Zg.D k) :=
  Zsl (E := Zg.E k) (fn := Tryz.f131) (c := codeOf Tryz.f131) (Zg.ok k) mixed rfl Tryz.func131 (by kernel_rfl) (by kernel_rfl) (Zbe (l := []) (by kernel_rfl) Zau) (Zg.D k) Zg.mk Zg.re (by kernel_rfl) (by kernel_rfl) Zg.fit Zg.Yfr (Zg.eq k)
def Zg.pk (k : Nat) : Pk Tryz.prog DD := ⟨131, Zg.D k, Zg.sound k, Zfk Tryz.func131 (by kernel_rfl) (by kernel_rfl)⟩
def Zbf.l3.once (k : Nat) (x : (List Zc × List Zc × Int × Int)) : Option ((List Zc × List Zc × Int × Int) ⊕ (List Zc)) := match x with | (x1, x2, x3, x4) => cond (decide (x4 < x3)) (cond (inb x4 (List.length x2)) ((Zfp.f k ((List.getD x2 (Int.toNat x4) Zc.zero).Zv)).bind fun t5 => (cond (Zjk (List.length x1 + List.length [(⟨(List.getD x2 (Int.toNat x4) Zc.zero).Zdz, t5, (List.getD x2 (Int.toNat x4) Zc.zero).Zel⟩ : Zc)]) 48) (some (.inl (x1 ++ [(⟨(List.getD x2 (Int.toNat x4) Zc.zero).Zdz, t5, (List.getD x2 (Int.toNat x4) Zc.zero).Zel⟩ : Zc)], x2, x3, IntKind.wrap .i64 (x4 + 1)))) none)) none) (some (.inr x1))
def Zbf.f (k : Nat) (a0 : List Zc) : Option (List Zc) := (iter (Zbf.l3.once k) k (([] : List Zc), a0, (List.length a0 : Int), 0)).bind fun y7 => (some y7)
def Zbf.i : Lay U (List Zc) := (Zgv 0 (tAt (Zhe DD C.Zc))).lay (fun _ => by kernel_rfl)
def Zbf.r : Lay U (List Zc) := (Zgv 0 (tAt (Zhe DD C.Zc))).lay (fun _ => by kernel_rfl)
def Zbf.l3.i : Lay U (List Zc × List Zc × Int × Int) := (lay [(3, sAt (Zju DD 1003003 C.Zc 6)), (6, sAt (Zhe DD C.Zc)), (7, sAt (Zgt .i64)), (8, sAt (Zgt .i64))] [] (fun _ => by kernel_rfl))
def Zbf.l3.o : Zit U (List Zc) := Zik 0 (lay [(3, sAt (Zju DD 1003003 C.Zc 6))] [] (fun _ => by kernel_rfl))
def Zbf.E (k : Nat) : Env U := mkE Tryz.f133 [Zfp.pk k] [] [(3, ldn Zbf.l3.i Zbf.l3.o (iter (Zbf.l3.once k) k))] [] n0 n0 [] false n00 nl0 [] nli
theorem Zbf.l3.sound (k : Nat) : Zhn (Zbf.E k) Tryz.f133.ntmps Tryz.f133 (.loop (Zhd Tryz.f133 3)) (ldn Zbf.l3.i Zbf.l3.o (iter (Zbf.l3.once k) k)) :=
  Zil (Zag _ _ _ _ _ _ _ _ _ _ _ _ _) mixed rfl (by kernel_rfl) (Zbe (l := []) (by kernel_rfl) Zau) Zbf.l3.i Zbf.l3.o (Zbf.l3.once k) k (fun _ => by kernel_rfl)
def Zbf.pk (k : Nat) : Pk Tryz.prog DD := pkP (E := Zbf.E k) 133 (Zag _ _ _ _ _ _ _ _ _ _ _ _ _) Tryz.func133 mixed (Zbe (l := [.loop (Zhd Tryz.f133 3)]) (by kernel_rfl) (Zbp (key := 3) (by kernel_rfl) rfl (Zbf.l3.sound k) Zau)) Zbf.i Zbf.r [] true (fun x => Zbf.f k (x)) (fun _ _ => rfl) fun _ => by kernel_rfl
def Zn.f (k : Nat) (a0 : List Zc) : Option (List Zc) := cond (Zjk (List.length ([] : List Zc) + List.length a0) 48) (some (([] : List Zc) ++ a0)) none
def Zn.un (s : St U) : Option (List Zc) := match s.get 0 with | .row C.Zc x1 => some x1 | _ => none
def Zn.mk (x : List Zc) : St U := ⟨[(0, .row C.Zc x)], []⟩
def Zn.fin (y : List Zc) : St U := ⟨[(0, .row C.Zc y)], []⟩
def Zn.D (k : Nat) : Zkg U := { X := List Zc, Y := List Zc, nt := 8, gh := [], un := Zn.un, f := fun x => Zn.f k (x), fin := Zn.fin, cl := true, clo := fun _ _ => rfl }
def Zn.re (s : St U) : Option (List Zc) := match s.get 0 with | .row C.Zc x1 => some x1 | _ => none
def Zn.jl : List (Nat × JDen U) := []
def Zn.fl (k : Nat) : List (Nat × Zkg U) := []
def Zn.ll (k : Nat) : List (Nat × Zwe U) := []
def Zn.E (k : Nat) : Env U := { P := Tryz.prog, D := DD, fd := lk (Zn.fl k), sf := lk sl0, ld := lk (Zn.ll k), jd := lk Zn.jl, mode := lk [], elc := lk ec, mpc := lk mc, rts := Tryz.f109.resultTypes.toList, dyn := fun t => false, Zuu := fun d => false, results := Tryz.f109.results.toList, gh := [], own := false, io := fun g i => false, lds := nl0, fn := lk [] }
theorem Zn.ok (k : Nat) : Zhp (Zn.E k) := Ycu lawful (Zn.fl k) sl0 (Zn.ll k) Zn.jl _ _ _ _ _ _ _ _ _ _ _ [] (fun _ => none) (by
  intro p hp
  simp [Zn.fl] at hp) Zvb (by
  intro p hp
  simp [Zn.jl] at hp) (fun _ h => (List.not_mem_nil h).elim)
theorem Zn.Yfr (s : St U) (y : List Zc) (h : Zn.re s = some y) : Fits s (Zn.fin y) := by
  unfold Zn.re at h
  split at h
  · cases h
    refine Zfq [] ?_ ?_ Zph rfl
    · exact List.forall_mem_cons.2 ⟨FV.one (FV.same (by assumption) rfl), fun _ hp => (List.not_mem_nil hp).elim⟩
    · exact fun _ hp => (List.not_mem_nil hp).elim
  · cases h
def Zn.mkn (g : Bool) (x : List Zc) : St U := ⟨[(0, .Zto g C.Zc x)], []⟩
theorem Zn.eq (k : Nat) (x : List Zc) : Zth (Zn.E k) (codeOf Tryz.f109) (Zn.mkn true x) Zn.re = (Zn.D k).f x := by kernel_rfl
theorem Zn.eqN (k : Nat) : Zth (Zn.E k) (codeOf Tryz.f109) (Zn.mkn false []) Zn.re = (Zn.D k).f [] := by kernel_rfl
theorem Zn.sound (k : Nat) : Sound Tryz.prog DD 109 (Zn.D k) :=
  Zrd (E := Zn.E k) (fn := Tryz.f109) (c := codeOf Tryz.f109) (Zn.ok k) mixed rfl Tryz.func109 (by kernel_rfl) (by kernel_rfl) (Zbe (l := []) (by kernel_rfl) Zau) C.Zc (Zn.D k) Zn.mkn (fun x => x) Zn.re (by kernel_rfl) (by kernel_rfl)
    (by intro m x h; replace h : Zn.un m = some x := h; unfold Zn.un at h; split at h; · cases h; assumption
        · cases h)
    (fun _ _ => rfl) Zn.Yfr (Zn.eq k) (by intro x h; replace h : x = [] := h; subst h; exact Zn.eqN k)
def Zn.pk (k : Nat) : Pk Tryz.prog DD := ⟨109, Zn.D k, Zn.sound k, Zfk Tryz.func109 (by kernel_rfl) (by kernel_rfl)⟩
def Zdc.f (k : Nat) (a0 : Zi) (a1 : Zd) : Option (Int × Int × Zi) := (Zcv.f k (⟨pack 12 false a0.f_t.Zo, pack 12 0 a0.f_t.Zk⟩ : Ze) a1.Zbj).bind fun t1 => (cond (!t1) (some (0, 8, (⟨a0.Zbc, a0.f_l, (⟨pack 12 false a0.f_t.Zo, pack 12 0 a0.f_t.Zk⟩ : Ze)⟩ : Zi))) (cond ((List.length a0.f_l : Int) == 40) (some (0, 5, (⟨a0.Zbc, a0.f_l, (⟨pack 12 false a0.f_t.Zo, pack 12 0 a0.f_t.Zk⟩ : Ze)⟩ : Zi))) ((Zn.f k a1.Zci).bind fun t2 => (cond (Zjk (List.length a0.f_l + List.length [(⟨a1.Zbj, t2, a1.Zjl⟩ : Zd)]) 40) (some (IntKind.wrap .i64 ((List.length (a0.f_l ++ [(⟨a1.Zbj, t2, a1.Zjl⟩ : Zd)]) : Int) - 1), 0, (⟨a0.Zbc, a0.f_l ++ [(⟨a1.Zbj, t2, a1.Zjl⟩ : Zd)], (⟨pack 12 false a0.f_t.Zo, pack 12 0 a0.f_t.Zk⟩ : Ze)⟩ : Zi))) none))))
def Zdc.i : Lay U (Zi × Zd) := (Ztk 1000000000000000 7000000000000 (Zhb (Zgv 0 (Zbb 7000000000000 7000000000000)) (Zgv 1 (tAt (vCd Zrj))))).lay (fun _ => by kernel_rfl)
def Zdc.r : Lay U (Int × Int × Zi) := (Zih (Zhb (Ziq 0 (Zhr (tAt (Zgt .i64)) (Zin (tAt (Zgt .i64))))) (Zgv 1000000000000000 (Zbb 7000000000000 7000000000000))) (fun x => ((x.1.1, x.1.2, x.2) : (Int × Int × Zi))) (fun x => ((x.1, x.2.1), x.2.2)) (fun _ => rfl)).lay (fun _ => by kernel_rfl)
def Zdc.pk (k : Nat) : Pk Tryz.prog DD := pkP 56 (Zag Tryz.f56 [Zcv.pk k, Zn.pk k] [] [] [] n0 n0 [0] false n00 nl0 [] nli) Tryz.func56 mixed (al0 (by kernel_rfl)) Zdc.i Zdc.r [0] false (fun x => Zdc.f k (x.1) (x.2)) (fun h => by cases h) fun _ => by kernel_rfl
def Zbo.f (k : Nat) (a0 : Zi) (a1 : Int) (a2 : Int) : Option (Int × Int × Zi) := ((cond (decide (a1 < 0)) (some (a2, true, a0.Zbc, a0.f_l, (⟨pack 12 false a0.f_t.Zo, pack 12 0 a0.f_t.Zk⟩ : Ze), a1)) (some (a2, decide (a1 ≥ (List.length a0.f_l : Int)), a0.Zbc, a0.f_l, (⟨pack 12 false a0.f_t.Zo, pack 12 0 a0.f_t.Zk⟩ : Ze), a1))) : Option (Int × Bool × Int × List Zd × Ze × Int)).bind fun y31 => (cond (y31.2.1) (some (0, 10, (⟨y31.2.2.1, y31.2.2.2.1, (⟨pack 12 false y31.2.2.2.2.1.Zo, pack 12 0 y31.2.2.2.2.1.Zk⟩ : Ze)⟩ : Zi))) (((cond (inb y31.2.2.2.2.2 (List.length y31.2.2.2.1)) (cond (decide (((List.getD y31.2.2.2.1 (Int.toNat y31.2.2.2.2.2) Zd.zero).Zjl) ≥ 0)) (some (y31.1, y31.2.2.2.2.2, true, y31.2.2.1, y31.2.2.2.1, (⟨pack 12 false y31.2.2.2.2.1.Zo, pack 12 0 y31.2.2.2.2.1.Zk⟩ : Ze))) ((Zg.f k y31.2.2.2.1 y31.2.2.2.2.2).bind fun t62 => (some (y31.1, y31.2.2.2.2.2, t62, y31.2.2.1, y31.2.2.2.1, (⟨pack 12 false y31.2.2.2.2.1.Zo, pack 12 0 y31.2.2.2.2.1.Zk⟩ : Ze))))) none) : Option (Int × Int × Bool × Int × List Zd × Ze)).bind fun y63 => (cond (y63.2.2.1) (some (0, 13, (⟨y63.2.2.2.1, y63.2.2.2.2.1, (⟨pack 12 false y63.2.2.2.2.2.Zo, pack 12 0 y63.2.2.2.2.2.Zk⟩ : Ze)⟩ : Zi))) (cond (inb y63.2.1 (List.length y63.2.2.2.2.1)) ((Zbf.f k ((List.getD y63.2.2.2.2.1 (Int.toNat y63.2.1) Zd.zero).Zci)).bind fun t64 => ((Zdc.f k (⟨y63.2.2.2.1, y63.2.2.2.2.1, (⟨pack 12 false y63.2.2.2.2.2.Zo, pack 12 0 y63.2.2.2.2.2.Zk⟩ : Ze)⟩ : Zi) (⟨y63.1, t64, y63.2.1⟩ : Zd)).bind fun t65 => (some (t65.1, t65.2.1, (⟨t65.2.2.Zbc, t65.2.2.f_l, (⟨pack 12 false t65.2.2.f_t.Zo, pack 12 0 t65.2.2.f_t.Zk⟩ : Ze)⟩ : Zi))))) none))))
def Zbo.i : Lay U (Zi × Int × Int) := (Ztk 1000000000000000 7000000000000 (Zhb (Zgv 0 (Zbb 7000000000000 7000000000000)) (Zhb (Zgv 1 (tAt (Zgt .i64))) (Zgv 2 (tAt (Zgt .i64)))))).lay (fun _ => by kernel_rfl)
def Zbo.r : Lay U (Int × Int × Zi) := (Zih (Zhb (Ziq 0 (Zhr (tAt (Zgt .i64)) (Zin (tAt (Zgt .i64))))) (Zgv 1000000000000000 (Zbb 7000000000000 7000000000000))) (fun x => ((x.1.1, x.1.2, x.2) : (Int × Int × Zi))) (fun x => ((x.1, x.2.1), x.2.2)) (fun _ => rfl)).lay (fun _ => by kernel_rfl)
def Zbo.Ycg : Jk U := ⟨(Int × Bool × Int × List Zd × Ze × Int), Zhj (lay [(0, Zgx 7000000000000 0), (4, Zgx 4 0), (1000000000000000, Zgx 7000000000000 0), (2, sAt (Zgt .i64)), (11, sAt Zgy)] [Zjm 7000000000000 [(Zgt .i64), (Zju DD 700102300000001 C.Zd 3)] Zad, Zhi 4 [(Zgt .i64)]] (fun _ => by kernel_rfl))⟩
def Zbo.j5000 : Jk U := ⟨(Int × Int × Bool × Int × List Zd × Ze), Zhj (lay [(0, Zgx 7000000000000 0), (1000000000000000, Zgx 7000000000000 0), (2, sAt (Zgt .i64)), (4, sRp [(Zgt .i64)] 0), (23, sAt Zgy)] [Zjm 7000000000000 [(Zgt .i64), (Zju DD 700102500000001 C.Zd 3)] Zad] (fun _ => by kernel_rfl))⟩
def Zbo.pk (k : Nat) : Pk Tryz.prog DD := pkP 82 (Zag Tryz.f82 [Zg.pk k, Zbf.pk k, Zdc.pk k] [(3000, Zbo.Ycg), (5000, Zbo.j5000)] [] [] n0 n0 [0] false n00 nl0 [] nli) Tryz.func82 mixed (al0 (by kernel_rfl)) Zbo.i Zbo.r [0] false (fun x => Zbo.f k (x.1) (x.2.1) (x.2.2)) (fun h => by cases h) fun _ => by kernel_rfl
def Zdo.f (k : Nat) (a0 : Ze) (a1 : Int) : Option (Ze × Int) := (((Zff.f k a1).bind fun t1 => (cond (!t1) (some (a1, true, (⟨pack 12 false a0.Zo, pack 12 0 a0.Zk⟩ : Ze), (⟨[false, false, false, false, false, false, false, false, false, false, false, false], [0, 0, 0, 0, 0, 0, 0, 0, 0, 0, 0, 0]⟩ : Ze))) (cond (inb a1 12) (cond (Nat.blt (Int.toNat a1) 12) (cond (!(List.getD (pack 12 false a0.Zo) (Int.toNat a1) false)) (some (a1, true, (⟨pack 12 false a0.Zo, pack 12 0 a0.Zk⟩ : Ze), (⟨[false, false, false, false, false, false, false, false, false, false, false, false], [0, 0, 0, 0, 0, 0, 0, 0, 0, 0, 0, 0]⟩ : Ze))) ((Zff.f k (IntKind.wrap .i64 (a1 + 1))).bind fun t6 => (cond (t6) (cond (inb (IntKind.wrap .i64 (a1 + 1)) 12) (cond (Nat.blt (Int.toNat (IntKind.wrap .i64 (a1 + 1))) 12) (some (a1, List.getD (pack 12 false a0.Zo) (Int.toNat (IntKind.wrap .i64 (a1 + 1))) false, (⟨pack 12 false a0.Zo, pack 12 0 a0.Zk⟩ : Ze), (⟨[false, false, false, false, false, false, false, false, false, false, false, false], [0, 0, 0, 0, 0, 0, 0, 0, 0, 0, 0, 0]⟩ : Ze))) none) none) (some (a1, false, (⟨pack 12 false a0.Zo, pack 12 0 a0.Zk⟩ : Ze), (⟨[false, false, false, false, false, false, false, false, false, false, false, false], [0, 0, 0, 0, 0, 0, 0, 0, 0, 0, 0, 0]⟩ : Ze)))))) none) none))) : Option (Int × Bool × Ze × Ze)).bind fun y7 => (cond (y7.2.1) (some ((⟨[false, false, false, false, false, false, false, false, false, false, false, false], [0, 0, 0, 0, 0, 0, 0, 0, 0, 0, 0, 0]⟩ : Ze), 8)) (cond (inb y7.1 12) (cond (Nat.blt (Int.toNat y7.1) 12) (some ((⟨Zmx (Int.toNat y7.1) false 0 (pack 12 false y7.2.2.1.Zo), pack 12 0 y7.2.2.1.Zk⟩ : Ze), 0)) none) none))
def Zdo.i : Lay U (Ze × Int) := (Zhb (Zgv 0 (tAt (vCd Zad))) (Zgv 1 (tAt (Zgt .i64)))).lay (fun _ => by kernel_rfl)
def Zdo.r : Lay U (Ze × Int) := (Ziq 0 (Zhr (tAt (vCd Zad)) (Zin (tAt (Zgt .i64))))).lay (fun _ => by kernel_rfl)
def Zdo.Zhv : Jk U := ⟨(Int × Bool × Ze × Ze), Zhj (lay [(2, Zgx 2 0), (4, Zgx 4 0), (1, sAt (Zgt .i64)), (27, sAt Zgy)] [bCd 2 Zad, bCd 4 Zad] (fun _ => by kernel_rfl))⟩
def Zdo.pk (k : Nat) : Pk Tryz.prog DD := pkP 87 (Zag Tryz.f87 [Zff.pk k] [(1000, Zdo.Zhv)] [] [] (fun t => Nat.beq t 68) n0 [] false n00 nl0 [] nli) Tryz.func87 mixed (al0 (by kernel_rfl)) Zdo.i Zdo.r [] true (fun x => Zdo.f k (x.1) (x.2)) (fun _ _ => rfl) fun _ => by kernel_rfl
def Zt.f (k : Nat) (a0 : Zi) (a1 : Unit) (a2 : Int) : Option (Int × Zi) := (Zdo.f k (⟨pack 12 false a0.f_t.Zo, pack 12 0 a0.f_t.Zk⟩ : Ze) a2).bind fun t1 => (cond (t1.2 == 0) (some (t1.2, (⟨a0.Zbc, a0.f_l, (⟨pack 12 false t1.1.Zo, pack 12 0 t1.1.Zk⟩ : Ze)⟩ : Zi))) (some (t1.2, (⟨a0.Zbc, a0.f_l, (⟨pack 12 false a0.f_t.Zo, pack 12 0 a0.f_t.Zk⟩ : Ze)⟩ : Zi))))
def Zt.un (s : St U) : Option (Zi × Unit × Int) := match s.get 0, lk s.o 7000000000000, s.get 1, s.get 2, s.get 1000000000000000 with | .ptr 7000000000000 0, some (.lit (.flat (.int .i64 x1) :: x5 :: x3)), .fn 87 [], .flat (.int .i64 x6), .ptr 7000000000000 0 => (Zfv s.o 3 x5).bind fun ex2 => ((Zad.full x3).bind fun x4 => (some ((⟨x1, ex2.2, x4⟩ : Zi), (), x6))) | _, _, _, _, _ => none
def Zt.mk (x : (Zi × Unit × Int)) : St U := ⟨[(0, .ptr 7000000000000 0), (1, .fn 87 []), (2, .flat (.int .i64 x.2.2)), (1000000000000000, .ptr 7000000000000 0)], [(7000000000000, .lit ((.flat (.int .i64 x.1.Zbc)) :: (.tip 7000000000002 C.Zd x.1.f_l) :: Zad.enc x.1.f_t)), (7000000000002, .tip 3)]⟩
def Zt.fin (y : (Int × Zi)) : St U := ⟨[(0, .flat (.int .i64 y.1)), (1000000000000000, .ptr 7000000000000 0)], [(7000000000000, .lit ((.flat (.int .i64 y.2.Zbc)) :: (.tip 7000000000002 C.Zd y.2.f_l) :: Zad.enc y.2.f_t)), (7000000000002, .tip 3)]⟩
def Zt.D (k : Nat) : Zkg U := { X := (Zi × Unit × Int), Y := (Int × Zi), nt := 28, gh := [0], un := Zt.un, f := fun x => Zt.f k (x.1) (x.2.1) (x.2.2), fin := Zt.fin, cl := false, clo := fun h => by cases h }
def Zt.re (s : St U) : Option (Int × Zi) := match s.get 0, s.get 1000000000000000, lk s.o 7000000000000 with | .flat (.int .i64 x1), .ptr 7000000000000 0, some (.lit (.flat (.int .i64 x2) :: x6 :: x4)) => (Zfv s.o 3 x6).bind fun ex3 => ((Zad.full x4).bind fun x5 => (some (x1, (⟨x2, ex3.2, x5⟩ : Zi)))) | _, _, _ => none
def Zt.jl : List (Nat × JDen U) := []
def Zt.fl (k : Nat) : List (Nat × Zkg U) := [(87, (Zdo.pk k).d)]
def Zt.ll (k : Nat) : List (Nat × Zwe U) := []
def Zt.E (k : Nat) : Env U := { P := Tryz.prog, D := DD, fd := lk (Zt.fl k), sf := lk sl0, ld := lk (Zt.ll k), jd := lk Zt.jl, mode := lk [], elc := lk ec, mpc := lk mc, rts := Tryz.f74.resultTypes.toList, dyn := fun t => false, Zuu := fun d => false, results := Tryz.f74.results.toList, gh := [0], own := false, io := fun g i => false, lds := nl0, fn := lk [] }
theorem Zt.ok (k : Nat) : Zhp (Zt.E k) := Ycu lawful (Zt.fl k) sl0 (Zt.ll k) Zt.jl _ _ _ _ _ _ _ _ _ _ _ [] (fun _ => none) (by
  intro p hp
  simp only [Zt.fl, List.mem_cons, List.not_mem_nil, or_false] at hp
  rcases hp with rfl
  · exact ⟨(Zdo.pk k).snd, Zfk Tryz.func87 (by kernel_rfl) (by kernel_rfl)⟩) Zvb (by
  intro p hp
  simp [Zt.jl] at hp) (fun _ h => (List.not_mem_nil h).elim)
theorem Zt.eq (k : Nat) (x : (Zi × Unit × Int)) : Zth (Zt.E k) (codeOf Tryz.f74) (Zt.mk x) Zt.re = (Zt.D k).f x := by kernel_rfl
theorem Zt.fit (s : St U) (x : (Zi × Unit × Int)) (h : Zt.un s = some x) : Fits s (Zt.mk x) := by
  unfold Zt.un at h
  split at h
  · obtain ⟨ex2, hex2, hh1⟩ := Option.bind_eq_some_iff.1 h
    obtain ⟨x4, hx4, hh2⟩ := Option.bind_eq_some_iff.1 hh1
    cases hh2
    refine Zfq [(7000000000002, ex2.1)] ?_ ?_ Ybf rfl
    · exact List.forall_mem_cons.2 ⟨FV.one (FV.ptr (by assumption)), List.forall_mem_cons.2 ⟨FV.one (FV.same (by assumption) rfl), List.forall_mem_cons.2 ⟨FV.one (FV.same (by assumption) rfl), List.forall_mem_cons.2 ⟨FV.one (FV.ptr (by assumption)), fun _ hp => (List.not_mem_nil hp).elim⟩⟩⟩⟩
    · exact List.forall_mem_cons.2 ⟨FO.cells (show lk (St.o _) 7000000000000 = some _ from by assumption) (FCs.cons (Zxp rfl rfl) (FCs.cons ((Zds hex2 rfl).1) (FCs.tail (Cd.Zoc hx4) rfl))), List.forall_mem_cons.2 ⟨(Zds hex2 rfl).2, fun _ hp => (List.not_mem_nil hp).elim⟩⟩
  · cases h
theorem Zt.Yfr (s : St U) (y : (Int × Zi)) (h : Zt.re s = some y) : Fits s (Zt.fin y) := by
  unfold Zt.re at h
  split at h
  · obtain ⟨ex3, hex3, hh1⟩ := Option.bind_eq_some_iff.1 h
    obtain ⟨x5, hx5, hh2⟩ := Option.bind_eq_some_iff.1 hh1
    cases hh2
    refine Zfq [(7000000000002, ex3.1)] ?_ ?_ Ybf rfl
    · exact List.forall_mem_cons.2 ⟨FV.one (FV.same (by assumption) rfl), List.forall_mem_cons.2 ⟨FV.one (FV.ptr (by assumption)), fun _ hp => (List.not_mem_nil hp).elim⟩⟩
    · exact List.forall_mem_cons.2 ⟨FO.cells (show lk (St.o _) 7000000000000 = some _ from by assumption) (FCs.cons (Zxp rfl rfl) (FCs.cons ((Zds hex3 rfl).1) (FCs.tail (Cd.Zoc hx5) rfl))), List.forall_mem_cons.2 ⟨(Zds hex3 rfl).2, fun _ hp => (List.not_mem_nil hp).elim⟩⟩
  · cases h
theorem Zt.sound (k : Nat) : Sound Tryz.prog DD 74 (Zt.D k) :=
  Zsl (E := Zt.E k) (fn := Tryz.f74) (c := codeOf Tryz.f74) (Zt.ok k) mixed rfl Tryz.func74 (by kernel_rfl) (by kernel_rfl) (Zbe (l := []) (by kernel_rfl) Zau) (Zt.D k) Zt.mk Zt.re (by kernel_rfl) (by kernel_rfl) Zt.fit Zt.Yfr (Zt.eq k)
def Zt.pk (k : Nat) : Pk Tryz.prog DD := ⟨74, Zt.D k, Zt.sound k, Zfk Tryz.func74 (by kernel_rfl) (by kernel_rfl)⟩
def Zcz.f (k : Nat) (a0 : Zi) (a1 : Int) : Option (Int × Zi) := (Zt.f k (⟨a0.Zbc, a0.f_l, (⟨pack 12 false a0.f_t.Zo, pack 12 0 a0.f_t.Zk⟩ : Ze)⟩ : Zi) () a1).bind fun t1 => (some (t1.1, (⟨t1.2.Zbc, t1.2.f_l, (⟨pack 12 false t1.2.f_t.Zo, pack 12 0 t1.2.f_t.Zk⟩ : Ze)⟩ : Zi)))
def Zcz.i : Lay U (Zi × Int) := (Ztk 1000000000000000 7000000000000 (Zhb (Zgv 0 (Zbb 7000000000000 7000000000000)) (Zgv 1 (tAt (Zgt .i64))))).lay (fun _ => by kernel_rfl)
def Zcz.r : Lay U (Int × Zi) := (Zhb (Zgv 0 (tAt (Zgt .i64))) (Zgv 1000000000000000 (Zbb 7000000000000 7000000000000))).lay (fun _ => by kernel_rfl)
def Zcz.pk (k : Nat) : Pk Tryz.prog DD := pkP 34 (Zag Tryz.f34 [Zt.pk k] [] [] [] n0 n0 [0] false n00 nl0 [] nli) Tryz.func34 mixed (al0 (by kernel_rfl)) Zcz.i Zcz.r [0] false (fun x => Zcz.f k (x.1) (x.2)) (fun h => by cases h) fun _ => by kernel_rfl
def Zdg.f (k : Nat) (a0 : Int) : Option Int := ((cond (decide (a0 < 0)) (some (a0, true)) (some (a0, decide (a0 ≥ 16)))) : Option (Int × Bool)).bind fun y3 => (cond (y3.2) (some 0) (cond (decide (y3.1 ≤ 3)) (some 1) (cond (decide (y3.1 ≤ 6)) (some 2) (cond (decide (y3.1 ≤ 8)) (some 3) (some 4)))))
def Zdg.i : Lay U Int := (Zgv 0 (tAt (Zgt .i64))).lay (fun _ => by kernel_rfl)
def Zdg.r : Lay U Int := (Zgv 0 (tAt (Zgt .i64))).lay (fun _ => by kernel_rfl)
def Zdg.Zhv : Jk U := ⟨(Int × Bool), Zhj (lay [(0, sAt (Zgt .i64)), (3, sAt Zgy)] [] (fun _ => by kernel_rfl))⟩
def Zdg.pk (k : Nat) : Pk Tryz.prog DD := pkP 44 (Zag Tryz.f44 [] [(1000, Zdg.Zhv)] [] [] n0 n0 [] false n00 nl0 [] nli) Tryz.func44 mixed (al0 (by kernel_rfl)) Zdg.i Zdg.r [] true (fun x => Zdg.f k (x)) (fun _ _ => rfl) fun _ => by kernel_rfl
end
end Go.Proofs.YtbchcjlllddlpaaGreat
