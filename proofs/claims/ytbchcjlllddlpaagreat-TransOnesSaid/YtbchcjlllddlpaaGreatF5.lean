import Derived.Test.YtbchcjlllddlpaaGreatF4
namespace Go.Proofs.YtbchcjlllddlpaaGreat
open Go Go.Ev
noncomputable section
set_option linter.unusedVariables false
set_option linter.unusedSimpArgs false
set_option maxRecDepth 100000
def Zds.f (k : Nat) (a0 : Ze) (a1 : Int) : Option (Ze × Int) := (((Zcq.f k (⟨pack 12 false a0.Zm, pack 12 0 a0.Zi⟩ : Ze) a1).bind fun t1 => (cond (!t1) (some (a1, true, (⟨pack 12 false a0.Zm, pack 12 0 a0.Zi⟩ : Ze), (⟨[false, false, false, false, false, false, false, false, false, false, false, false], [0, 0, 0, 0, 0, 0, 0, 0, 0, 0, 0, 0]⟩ : Ze))) (cond (decide (a1 > 0)) (cond (inb (IntKind.wrap .i64 (a1 - 1)) 12) (cond (Nat.blt (Int.toNat (IntKind.wrap .i64 (a1 - 1))) 12) (some (a1, !(List.getD (pack 12 false a0.Zm) (Int.toNat (IntKind.wrap .i64 (a1 - 1))) false), (⟨pack 12 false a0.Zm, pack 12 0 a0.Zi⟩ : Ze), (⟨[false, false, false, false, false, false, false, false, false, false, false, false], [0, 0, 0, 0, 0, 0, 0, 0, 0, 0, 0, 0]⟩ : Ze))) none) none) (some (a1, false, (⟨pack 12 false a0.Zm, pack 12 0 a0.Zi⟩ : Ze), (⟨[false, false, false, false, false, false, false, false, false, false, false, false], [0, 0, 0, 0, 0, 0, 0, 0, 0, 0, 0, 0]⟩ : Ze)))))) : Option (Int × Bool × Ze × Ze)).bind fun y6 => (cond (y6.2.1) (some ((⟨[false, false, false, false, false, false, false, false, false, false, false, false], [0, 0, 0, 0, 0, 0, 0, 0, 0, 0, 0, 0]⟩ : Ze), 8)) (cond (inb y6.1 12) (cond (Nat.blt (Int.toNat y6.1) 12) (cond (inb y6.1 12) (cond (Nat.blt (Int.toNat y6.1) 12) (cond (inb y6.1 12) (cond (Nat.blt (Int.toNat y6.1) 12) (some ((⟨Zne (Int.toNat y6.1) true 0 (pack 12 false y6.2.2.1.Zm), Zne (Int.toNat y6.1) (IntKind.wrap .i64 ((List.getD (pack 12 0 y6.2.2.1.Zi) (Int.toNat y6.1) 0) + 1)) 0 (pack 12 0 y6.2.2.1.Zi)⟩ : Ze), 0)) none) none) none) none) none) none))
def Zds.i : Lay U (Ze × Int) := (Zgy (Zgt 0 (tAt (vCd Zac))) (Zgt 1 (tAt (Zgo .i64)))).lay (fun _ => by kernel_rfl)
def Zds.r : Lay U (Ze × Int) := (Zii 0 (Zhq (tAt (vCd Zac)) (Zih (tAt (Zgo .i64))))).lay (fun _ => by kernel_rfl)
def Zds.Zhv : Jk U := ⟨(Int × Bool × Ze × Ze), Zhk (lay [(2, Zha 2 0), (4, Zha 4 0), (1, sAt (Zgo .i64)), (21, sAt Zgw)] [bCd 2 Zac, bCd 4 Zac] (fun _ => by kernel_rfl))⟩
def Zds.pk (k : Nat) : Pk Tryz.prog DD := pkP 75 (Zae Tryz.f75 [Zcq.pk k] [(1000, Zds.Zhv)] [] [] (fun t => Nat.beq t 68 || Nat.beq t 69) n0 [] false n00 nl0 [] nli) Tryz.func75 mixed (al0 (by kernel_rfl)) Zds.i Zds.r [] true (fun x => Zds.f k (x.1) (x.2)) (fun _ _ => rfl) fun _ => by kernel_rfl
def Zt.f (k : Nat) (a0 : Zg) (a1 : Unit) (a2 : Int) : Option (Int × Zg) := (Zds.f k (⟨pack 12 false a0.f_t.Zm, pack 12 0 a0.f_t.Zi⟩ : Ze) a2).bind fun t1 => (cond (t1.2 == 0) (some (t1.2, (⟨a0.Zbb, a0.f_l, (⟨pack 12 false t1.1.Zm, pack 12 0 t1.1.Zi⟩ : Ze)⟩ : Zg))) (some (t1.2, (⟨a0.Zbb, a0.f_l, (⟨pack 12 false a0.f_t.Zm, pack 12 0 a0.f_t.Zi⟩ : Ze)⟩ : Zg))))
def Zt.un (s : St U) : Option (Zg × Unit × Int) := match s.get 0, lk s.o 7000000000000, s.get 1, s.get 2, s.get 1000000000000000 with | .ptr 7000000000000 0, some (.lit (.flat (.int .i64 x1) :: x5 :: x3)), .fn 75 [], .flat (.int .i64 x6), .ptr 7000000000000 0 => (Zfs s.o 3 x5).bind fun ex2 => ((Zac.full x3).bind fun x4 => (some ((⟨x1, ex2.2, x4⟩ : Zg), (), x6))) | _, _, _, _, _ => none
def Zt.mk (x : (Zg × Unit × Int)) : St U := ⟨[(0, .ptr 7000000000000 0), (1, .fn 75 []), (2, .flat (.int .i64 x.2.2)), (1000000000000000, .ptr 7000000000000 0)], [(7000000000000, .lit ((.flat (.int .i64 x.1.Zbb)) :: (.tip 7000000000002 C.Zd x.1.f_l) :: Zac.enc x.1.f_t)), (7000000000002, .tip 3)]⟩
def Zt.fin (y : (Int × Zg)) : St U := ⟨[(0, .flat (.int .i64 y.1)), (1000000000000000, .ptr 7000000000000 0)], [(7000000000000, .lit ((.flat (.int .i64 y.2.Zbb)) :: (.tip 7000000000002 C.Zd y.2.f_l) :: Zac.enc y.2.f_t)), (7000000000002, .tip 3)]⟩
def Zt.D (k : Nat) : Zjz U := { X := (Zg × Unit × Int), Y := (Int × Zg), nt := 28, gh := [0], un := Zt.un, f := fun x => Zt.f k (x.1) (x.2.1) (x.2.2), fin := Zt.fin, cl := false, clo := fun h => by cases h }
def Zt.re (s : St U) : Option (Int × Zg) := match s.get 0, s.get 1000000000000000, lk s.o 7000000000000 with | .flat (.int .i64 x1), .ptr 7000000000000 0, some (.lit (.flat (.int .i64 x2) :: x6 :: x4)) => (Zfs s.o 3 x6).bind fun ex3 => ((Zac.full x4).bind fun x5 => (some (x1, (⟨x2, ex3.2, x5⟩ : Zg)))) | _, _, _ => none
def Zt.jl : List (Nat × JDen U) := []
def Zt.fl (k : Nat) : List (Nat × Zjz U) := [(75, (Zds.pk k).d)]
def Zt.ll (k : Nat) : List (Nat × Zvm U) := []
def Zt.E (k : Nat) : Env U := { P := Tryz.prog, D := DD, fd := lk (Zt.fl k), sf := lk sl0, ld := lk (Zt.ll k), jd := lk Zt.jl, mode := lk [], elc := lk ec, mpc := lk mc, rts := Tryz.f74.resultTypes.toList, dyn := fun t => false, Zug := fun d => false, results := Tryz.f74.results.toList, gh := [0], own := false, io := fun g i => false, lds := nl0, fn := lk [] }
theorem Zt.ok (k : Nat) : Zhj (Zt.E k) := Ycg lawful (Zt.fl k) sl0 (Zt.ll k) Zt.jl _ _ _ _ _ _ _ _ _ _ _ [] (fun _ => none) (by
  intro p hp
  simp only [Zt.fl, List.mem_cons, List.not_mem_nil, or_false] at hp
  rcases hp with rfl
  · exact ⟨(Zds.pk k).snd, Zfi Tryz.func75 (by kernel_rfl) (by kernel_rfl)⟩) Zup (by
  intro p hp
  simp [Zt.jl] at hp) (fun _ h => (List.not_mem_nil h).elim)
theorem Zt.eq (k : Nat) (x : (Zg × Unit × Int)) : Zsp (Zt.E k) (codeOf Tryz.f74) (Zt.mk x) Zt.re = (Zt.D k).f x := by kernel_rfl
theorem Zt.fit (s : St U) (x : (Zg × Unit × Int)) (h : Zt.un s = some x) : Fits s (Zt.mk x) := by
  unfold Zt.un at h
  split at h
  · obtain ⟨ex2, hex2, hh1⟩ := Option.bind_eq_some_iff.1 h
    obtain ⟨x4, hx4, hh2⟩ := Option.bind_eq_some_iff.1 hh1
    cases hh2
    refine Zfn [(7000000000002, ex2.1)] ?_ ?_ Yas rfl
    · exact List.forall_mem_cons.2 ⟨FV.one (FV.ptr (by assumption)), List.forall_mem_cons.2 ⟨FV.one (FV.same (by assumption) rfl), List.forall_mem_cons.2 ⟨FV.one (FV.same (by assumption) rfl), List.forall_mem_cons.2 ⟨FV.one (FV.ptr (by assumption)), fun _ hp => (List.not_mem_nil hp).elim⟩⟩⟩⟩
    · exact List.forall_mem_cons.2 ⟨FO.cells (show lk (St.o _) 7000000000000 = some _ from by assumption) (FCs.cons (Zwq rfl rfl) (FCs.cons ((Zdm hex2 rfl).1) (FCs.tail (Cd.Znp hx4) rfl))), List.forall_mem_cons.2 ⟨(Zdm hex2 rfl).2, fun _ hp => (List.not_mem_nil hp).elim⟩⟩
  · cases h
theorem Zt.Yfh (s : St U) (y : (Int × Zg)) (h : Zt.re s = some y) : Fits s (Zt.fin y) := by
  unfold Zt.re at h
  split at h
  · obtain ⟨ex3, hex3, hh1⟩ := Option.bind_eq_some_iff.1 h
    obtain ⟨x5, hx5, hh2⟩ := Option.bind_eq_some_iff.1 hh1
    cases hh2
    refine Zfn [(7000000000002, ex3.1)] ?_ ?_ Yas rfl
    · exact List.forall_mem_cons.2 ⟨FV.one (FV.same (by assumption) rfl), List.forall_mem_cons.2 ⟨FV.one (FV.ptr (by assumption)), fun _ hp => (List.not_mem_nil hp).elim⟩⟩
    · exact List.forall_mem_cons.2 ⟨FO.cells (show lk (St.o _) 7000000000000 = some _ from by assumption) (FCs.cons (Zwq rfl rfl) (FCs.cons ((Zdm hex3 rfl).1) (FCs.tail (Cd.Znp hx5) rfl))), List.forall_mem_cons.2 ⟨(Zdm hex3 rfl).2, fun _ hp => (List.not_mem_nil hp).elim⟩⟩
  · cases h
theorem Zt.sound (k : Nat) : Sound Tryz.prog DD 74 (Zt.D k) :=
  Zrw (E := Zt.E k) (fn := Tryz.f74) (c := codeOf Tryz.f74) (Zt.ok k) mixed rfl Tryz.func74 (by kernel_rfl) (by kernel_rfl) (Zbd (l := []) (by kernel_rfl) Zat) (Zt.D k) Zt.mk Zt.re (by kernel_rfl) (by kernel_rfl) Zt.fit Zt.Yfh (Zt.eq k)
def Zt.pk (k : Nat) : Pk Tryz.prog DD := ⟨74, Zt.D k, Zt.sound k, Zfi Tryz.func74 (by kernel_rfl) (by kernel_rfl)⟩
def Zdc.f (k : Nat) (a0 : Zg) (a1 : Int) : Option (Int × Zg) := (Zt.f k (⟨a0.Zbb, a0.f_l, (⟨pack 12 false a0.f_t.Zm, pack 12 0 a0.f_t.Zi⟩ : Ze)⟩ : Zg) () a1).bind fun t1 => (some (t1.1, (⟨t1.2.Zbb, t1.2.f_l, (⟨pack 12 false t1.2.f_t.Zm, pack 12 0 t1.2.f_t.Zi⟩ : Ze)⟩ : Zg)))
def Zdc.i : Lay U (Zg × Int) := (Zsv 1000000000000000 7000000000000 (Zgy (Zgt 0 (Zba 7000000000000 7000000000000)) (Zgt 1 (tAt (Zgo .i64))))).lay (fun _ => by kernel_rfl)
def Zdc.r : Lay U (Int × Zg) := (Zgy (Zgt 0 (tAt (Zgo .i64))) (Zgt 1000000000000000 (Zba 7000000000000 7000000000000))).lay (fun _ => by kernel_rfl)
def Zdc.pk (k : Nat) : Pk Tryz.prog DD := pkP 22 (Zae Tryz.f22 [Zt.pk k] [] [] [] n0 n0 [0] false n00 nl0 [] nli) Tryz.func22 mixed (al0 (by kernel_rfl)) Zdc.i Zdc.r [0] false (fun x => Zdc.f k (x.1) (x.2)) (fun h => by cases h) fun _ => by kernel_rfl
def Zbr.f (k : Nat) (a0 : Zd) (a1 : Int) : Option Bool := some (a0.Zje == a1)
def Zbr.i : Lay U (Zd × Int) := (Zgy (Zgt 0 (tAt (vCd Zra))) (Zgt 1 (tAt (vRp (Cd.int .i64))))).lay (fun _ => by kernel_rfl)
def Zbr.r : Lay U Bool := (Zgt 0 (tAt Zgw)).lay (fun _ => by kernel_rfl)
def Zbr.pk (k : Nat) : Pk Tryz.prog DD := pkP 132 (Zae Tryz.f132 [] [] [] [] n0 n0 [] false n00 nl0 [] nli) Tryz.func132 mixed (al0 (by kernel_rfl)) Zbr.i Zbr.r [] true (fun x => Zbr.f k (x.1) (x.2)) (fun _ _ => rfl) fun _ => by kernel_rfl
def Za.l2.once (k : Nat) (x : (List Zd × Int × Int × Int)) : Option ((List Zd × Int × Int × Int) ⊕ (Unit ⊕ Int)) := match x with | (x1, x2, x3, x4) => cond (decide (x4 < x3)) (cond (inb x4 (List.length x1)) ((Zbr.f k (⟨(List.getD x1 (Int.toNat x4) Zd.zero).Zbj, (List.getD x1 (Int.toNat x4) Zd.zero).Zby, (List.getD x1 (Int.toNat x4) Zd.zero).Zje⟩ : Zd) x2).bind fun t5 => (cond (t5) (some (.inr (.inr x4))) (some (.inl (x1, x2, x3, IntKind.wrap .i64 (x4 + 1)))))) none) (some (.inr (.inl ())))
def Za.f (k : Nat) (a0 : List Zd) (a1 : Int) : Option Int := (iter (Za.l2.once k) k (a0, a1, (List.length a0 : Int), 0)).bind fun | .inl y7 => (some (-1)) | .inr y8 => (some y8)
def Za.un (s : St U) : Option (List Zd × Int) := match s.get 0, s.get 1 with | .row C.Zd x1, .fn 132 [.rp [.flat (.int .i64 x2)] 0] => some (x1, x2) | _, _ => none
def Za.mk (x : (List Zd × Int)) : St U := ⟨[(0, .row C.Zd x.1), (1, .fn 132 [.rp [.flat (.int .i64 x.2)] 0])], []⟩
def Za.fin (y : Int) : St U := ⟨[(0, .flat (.int .i64 y))], []⟩
def Za.D (k : Nat) : Zjz U := { X := (List Zd × Int), Y := Int, nt := 19, gh := [], un := Za.un, f := fun x => Za.f k (x.1) (x.2), fin := Za.fin, cl := true, clo := fun _ _ => rfl }
def Za.re (s : St U) : Option Int := match s.get 0 with | .flat (.int .i64 x1) => some x1 | _ => none
def Za.l2.mk (x : (List Zd × Int × Int × Int)) : St U := match x with | (x1, x2, x3, x4) => ⟨[(0, .row C.Zd x1), (1, .fn 132 [.rp [.flat (.int .i64 x2)] 0]), (7, .flat (.int .i64 x3)), (8, .flat (.int .i64 x4))], []⟩
def Za.l2.un (s : St U) : Option (List Zd × Int × Int × Int) := (Zpr (s.get 0)).bind fun q0 => (match s.get 1, s.get 7, s.get 8 with | .fn 132 [.rp [.flat (.int .i64 x2)] 0], .flat (.int .i64 x3), .flat (.int .i64 x4) => some (q0, x2, x3, x4) | _, _, _ => none)
def Za.l2.fin (y : Unit ⊕ Int) : Out U := match y with | .inl () => .exit 0 ⟨[], []⟩ | .inr z => .ret (⟨[(0, .flat (.int .i64 z))], []⟩)
def Za.l2.Zms {ρ : Type} (y : Unit ⊕ Int) (K : Out U → Option ρ) : Option ρ := match y with | .inl () => K (.exit 0 ⟨[], []⟩) | .inr z => K (.ret (⟨[(0, .flat (.int .i64 z))], []⟩))
theorem Za.l2.Zic {ρ : Type} (y : Unit ⊕ Int) (K : Out U → Option ρ) : Za.l2.Zms y K = K (Za.l2.fin y) := by
  unfold Za.l2.Zms Za.l2.fin
  first | rfl | (split <;> rfl)
def Za.l2.re : Out U → Option (Unit ⊕ Int) | .exit 0 s => (some (.inl ())) | .ret s => (match s.get 0 with | .flat (.int .i64 x1) => some (.inr x1) | _ => none) | _ => none
def Za.l2.L (k : Nat) : Zvm U := { X := (List Zd × Int × Int × Int), Y := Unit ⊕ Int, un := Za.l2.un, f := iter (Za.l2.once k) k, fin := Za.l2.fin, Zms := Za.l2.Zms, Zic := Za.l2.Zic }
def Za.jl : List (Nat × JDen U) := []
def Za.fl (k : Nat) : List (Nat × Zjz U) := [(132, (Zbr.pk k).d)]
def Za.ll (k : Nat) : List (Nat × Zvm U) := [(2, Za.l2.L k)]
def Za.E (k : Nat) : Env U := { P := Tryz.prog, D := DD, fd := lk (Za.fl k), sf := lk sl0, ld := lk (Za.ll k), jd := lk Za.jl, mode := lk [], elc := lk ec, mpc := lk mc, rts := Tryz.f165.resultTypes.toList, dyn := fun t => false, Zug := fun d => false, results := Tryz.f165.results.toList, gh := [], own := false, io := fun g i => false, lds := nl0, fn := lk [] }
theorem Za.ok (k : Nat) : Zhj (Za.E k) := Ycg lawful (Za.fl k) sl0 (Za.ll k) Za.jl _ _ _ _ _ _ _ _ _ _ _ [] (fun _ => none) (by
  intro p hp
  simp only [Za.fl, List.mem_cons, List.not_mem_nil, or_false] at hp
  rcases hp with rfl
  · exact ⟨(Zbr.pk k).snd, Zfi Tryz.func132 (by kernel_rfl) (by kernel_rfl)⟩) Zup (by
  intro p hp
  simp [Za.jl] at hp) (fun _ h => (List.not_mem_nil h).elim)
theorem Za.l2.eq (k : Nat) (x : (List Zd × Int × Int × Int)) : evC (Za.E k) (Zhc Tryz.f165 2) (Za.l2.mk x) (Zrs Za.l2.un Za.l2.re) = Za.l2.once k x := by kernel_rfl
theorem Za.l2.fit (s : St U) (x : (List Zd × Int × Int × Int)) (h : Za.l2.un s = some x) : Fits s (Za.l2.mk x) := by
  unfold Za.l2.un at h
  obtain ⟨q0, eq0, h1⟩ := Option.bind_eq_some_iff.1 h
  split at h1
  · cases h1
    refine Zfn [] ?_ ?_ Zos rfl
    · exact List.forall_mem_cons.2 ⟨FV.one (Zyq eq0), List.forall_mem_cons.2 ⟨FV.one (FV.same (by assumption) rfl), List.forall_mem_cons.2 ⟨FV.one (FV.same (by assumption) rfl), List.forall_mem_cons.2 ⟨FV.one (FV.same (by assumption) rfl), fun _ hp => (List.not_mem_nil hp).elim⟩⟩⟩⟩
    · exact fun _ hp => (List.not_mem_nil hp).elim
  · cases h1
theorem Za.l2.fitO (o : Out U) (y : Unit ⊕ Int) (h : Za.l2.re o = some y) : Zxy o (Za.l2.fin y) := by
  unfold Za.l2.re at h
  split at h
  · cases h
    refine Ylh (Zfn [] ?_ ?_ Zos rfl)
    · exact fun _ hp => (List.not_mem_nil hp).elim
    · exact fun _ hp => (List.not_mem_nil hp).elim
  · split at h
    · cases h
      refine Ypy (Zfn [] ?_ ?_ Zos rfl)
      · exact List.forall_mem_cons.2 ⟨FV.one (FV.same (by assumption) rfl), fun _ hp => (List.not_mem_nil hp).elim⟩
      · exact fun _ hp => (List.not_mem_nil hp).elim
    · cases h
  · cases h
theorem Za.l2.sound (k : Nat) : Zhi (Za.E k) Tryz.f165.ntmps Tryz.f165 (.loop (Zhc Tryz.f165 2)) (Za.l2.L k) :=
  Yka (Za.ok k) mixed rfl (by kernel_rfl) (Zbd (l := []) (by kernel_rfl) Zat) Za.l2.un Za.l2.mk Za.l2.fin Za.l2.re (Za.l2.once k) k Za.l2.fit Za.l2.fitO (Za.l2.eq k) Za.l2.Zms Za.l2.Zic
theorem Za.eq (k : Nat) (x : (List Zd × Int)) : Zsp (Za.E k) (codeOf Tryz.f165) (Za.mk x) Za.re = (Za.D k).f x := by kernel_rfl
theorem Za.fit (s : St U) (x : (List Zd × Int)) (h : Za.un s = some x) : Fits s (Za.mk x) := by
  unfold Za.un at h
  split at h
  · cases h
    refine Zfn [] ?_ ?_ Zos rfl
    · exact List.forall_mem_cons.2 ⟨FV.one (FV.same (by assumption) rfl), List.forall_mem_cons.2 ⟨FV.one (FV.same (by assumption) rfl), fun _ hp => (List.not_mem_nil hp).elim⟩⟩
    · exact fun _ hp => (List.not_mem_nil hp).elim
  · cases h
theorem Za.Yfh (s : St U) (y : Int) (h : Za.re s = some y) : Fits s (Za.fin y) := by
  unfold Za.re at h
  split at h
  · cases h
    refine Zfn [] ?_ ?_ Zos rfl
    · exact List.forall_mem_cons.2 ⟨FV.one (FV.same (by assumption) rfl), fun _ hp => (List.not_mem_nil hp).elim⟩
    · exact fun _ hp => (List.not_mem_nil hp).elim
  · cases h
theorem Za.sound (k : Nat) : Sound Tryz.prog DD 165 (Za.D k) :=
  Zrw (E := Za.E k) (fn := Tryz.f165) (c := codeOf Tryz.f165) (Za.ok k) mixed rfl Tryz.func165 (by kernel_rfl) (by kernel_rfl) (Zbd (l := [.loop (Zhc Tryz.f165 2)]) (by kernel_rfl) (Zbp (key := 2) (by kernel_rfl) rfl (Za.l2.sound k) Zat)) (Za.D k) Za.mk Za.re (by kernel_rfl) (by kernel_rfl) Za.fit Za.Yfh (Za.eq k)
def Za.pk (k : Nat) : Pk Tryz.prog DD := ⟨165, Za.D k, Za.sound k, Zfi Tryz.func165 (by kernel_rfl) (by kernel_rfl)⟩
def Zf.f (k : Nat) (a0 : List Zd) (a1 : Int) : Option Bool := (Za.f k a0 a1).bind fun t1 => (some (decide (t1 ≥ 0)))
def Zf.un (s : St U) : Option (List Zd × Int) := match s.get 0, s.get 1 with | .row C.Zd x1, .fn 132 [.rp [.flat (.int .i64 x2)] 0] => some (x1, x2) | _, _ => none
def Zf.mk (x : (List Zd × Int)) : St U := ⟨[(0, .row C.Zd x.1), (1, .fn 132 [.rp [.flat (.int .i64 x.2)] 0])], []⟩
def Zf.fin (y : Bool) : St U := ⟨[(0, .flat (.bool y))], []⟩
def Zf.D (k : Nat) : Zjz U := { X := (List Zd × Int), Y := Bool, nt := 9, gh := [], un := Zf.un, f := fun x => Zf.f k (x.1) (x.2), fin := Zf.fin, cl := true, clo := fun _ _ => rfl }
def Zf.re (s : St U) : Option Bool := match s.get 0 with | .flat (.bool x1) => some x1 | _ => none
def Zf.jl : List (Nat × JDen U) := []
def Zf.fl (k : Nat) : List (Nat × Zjz U) := [(165, Za.D k)]
def Zf.ll (k : Nat) : List (Nat × Zvm U) := []
def Zf.E (k : Nat) : Env U := { P := Tryz.prog, D := DD, fd := lk (Zf.fl k), sf := lk sl0, ld := lk (Zf.ll k), jd := lk Zf.jl, mode := lk [], elc := lk ec, mpc := lk mc, rts := Tryz.f131.resultTypes.toList, dyn := fun t => false, Zug := fun d => false, results := Tryz.f131.results.toList, gh := [], own := false, io := fun g i => false, lds := nl0, fn := lk [] }
theorem Zf.ok (k : Nat) : Zhj (Zf.E k) := Ycg lawful (Zf.fl k) sl0 (Zf.ll k) Zf.jl _ _ _ _ _ _ _ _ _ _ _ [] (fun _ => none) (by
  intro p hp
  simp only [Zf.fl, List.mem_cons, List.not_mem_nil, or_false] at hp
  rcases hp with rfl
  · exact ⟨Za.sound k, Zfi Tryz.func165 (by kernel_rfl) (by kernel_rfl)⟩) Zup (by
  intro p hp
  simp [Zf.jl] at hp) (fun _ h => (List.not_mem_nil h).elim)
theorem Zf.eq (k : Nat) (x : (List Zd × Int)) : Zsp (Zf.E k) (codeOf Tryz.f131) (Zf.mk x) Zf.re = (Zf.D k).f x := by kernel_rfl
theorem Zf.fit (s : St U) (x : (List Zd × Int)) (h : Zf.un s = some x) : Fits s (Zf.mk x) := by
  unfold Zf.un at h
  split at h
  · cases h
    refine Zfn [] ?_ ?_ Zos rfl
    · exact List.forall_mem_cons.2 ⟨FV.one (FV.same (by assumption) rfl), List.forall_mem_cons.2 ⟨FV.one (FV.same (by assumption) rfl), fun _ hp => (List.not_mem_nil hp).elim⟩⟩
    · exact fun _ hp => (List.not_mem_nil hp).elim
  · cases h
theorem Zf.Yfh (s : St U) (y : Bool) (h : Zf.re s = some y) : Fits s (Zf.fin y) := by
  unfold Zf.re at h
  split at h
  · cases h
    refine Zfn [] ?_ ?_ Zos rfl
    · exact List.forall_mem_cons.2 ⟨FV.one (FV.same (by assumption) rfl), fun _ hp => (List.not_mem_nil hp).elim⟩
    · exact fun _ hp => (List.not_mem_nil hp).elim
  · cases h
theorem Zf.sound (k : Nat) : Sound Tryz.prog DD 131 (Zf.D k) :=
  Zrw (E := Zf.E k) (fn := Tryz.f131) (c := codeOf Tryz.f131) (Zf.ok k) mixed rfl Tryz.func131 (by kernel_rfl) (by kernel_rfl) (Zbd (l := []) (by kernel_rfl) Zat) (Zf.D k) Zf.mk Zf.re (by kernel_rfl) (by kernel_rfl) Zf.fit Zf.Yfh (Zf.eq k)
def Zf.pk (k : Nat) : Pk Tryz.prog DD := ⟨131, Zf.D k, Zf.sound k, Zfi Tryz.func131 (by kernel_rfl) (by kernel_rfl)⟩
def Zbc.l3.once (k : Nat) (x : (List Zc × List Zc × Int × Int)) : Option ((List Zc × List Zc × Int × Int) ⊕ (List Zc)) := match x with | (x1, x2, x3, x4) => cond (decide (x4 < x3)) (cond (inb x4 (List.length x2)) ((Zgh.f k ((List.getD x2 (Int.toNat x4) Zc.zero).Zu)).bind fun t5 => (cond (Zjc (List.length x1 + List.length [(⟨(List.getD x2 (Int.toNat x4) Zc.zero).Zdt, t5, (List.getD x2 (Int.toNat x4) Zc.zero).Zeg⟩ : Zc)]) 48) (some (.inl (x1 ++ [(⟨(List.getD x2 (Int.toNat x4) Zc.zero).Zdt, t5, (List.getD x2 (Int.toNat x4) Zc.zero).Zeg⟩ : Zc)], x2, x3, IntKind.wrap .i64 (x4 + 1)))) none)) none) (some (.inr x1))
def Zbc.f (k : Nat) (a0 : List Zc) : Option (List Zc) := (iter (Zbc.l3.once k) k (([] : List Zc), a0, (List.length a0 : Int), 0)).bind fun y7 => (some y7)
def Zbc.i : Lay U (List Zc) := (Zgt 0 (tAt (Zhd DD C.Zc))).lay (fun _ => by kernel_rfl)
def Zbc.r : Lay U (List Zc) := (Zgt 0 (tAt (Zhd DD C.Zc))).lay (fun _ => by kernel_rfl)
def Zbc.l3.i : Lay U (List Zc × List Zc × Int × Int) := (lay [(3, sAt (Zjm DD 1003003 C.Zc 6)), (6, sAt (Zhd DD C.Zc)), (7, sAt (Zgo .i64)), (8, sAt (Zgo .i64))] [] (fun _ => by kernel_rfl))
def Zbc.l3.o : Ziv U (List Zc) := Zij 0 (lay [(3, sAt (Zjm DD 1003003 C.Zc 6))] [] (fun _ => by kernel_rfl))
def Zbc.E (k : Nat) : Env U := mkE Tryz.f133 [Zgh.pk k] [] [(3, ldn Zbc.l3.i Zbc.l3.o (iter (Zbc.l3.once k) k))] [] n0 n0 [] false n00 nl0 [] nli
theorem Zbc.l3.sound (k : Nat) : Zhi (Zbc.E k) Tryz.f133.ntmps Tryz.f133 (.loop (Zhc Tryz.f133 3)) (ldn Zbc.l3.i Zbc.l3.o (iter (Zbc.l3.once k) k)) :=
  Zik (Zae _ _ _ _ _ _ _ _ _ _ _ _ _) mixed rfl (by kernel_rfl) (Zbd (l := []) (by kernel_rfl) Zat) Zbc.l3.i Zbc.l3.o (Zbc.l3.once k) k (fun _ => by kernel_rfl)
def Zbc.pk (k : Nat) : Pk Tryz.prog DD := pkP (E := Zbc.E k) 133 (Zae _ _ _ _ _ _ _ _ _ _ _ _ _) Tryz.func133 mixed (Zbd (l := [.loop (Zhc Tryz.f133 3)]) (by kernel_rfl) (Zbp (key := 3) (by kernel_rfl) rfl (Zbc.l3.sound k) Zat)) Zbc.i Zbc.r [] true (fun x => Zbc.f k (x)) (fun _ _ => rfl) fun _ => by kernel_rfl
def Zl.f (k : Nat) (a0 : List Zc) : Option (List Zc) := cond (Zjc (List.length ([] : List Zc) + List.length a0) 48) (some (([] : List Zc) ++ a0)) none
def Zl.un (s : St U) : Option (List Zc) := match s.get 0 with | .row C.Zc x1 => some x1 | _ => none
def Zl.mk (x : List Zc) : St U := ⟨[(0, .row C.Zc x)], []⟩
def Zl.fin (y : List Zc) : St U := ⟨[(0, .row C.Zc y)], []⟩
def Zl.D (k : Nat) : Zjz U := { X := List Zc, Y := List Zc, nt := 8, gh := [], un := Zl.un, f := fun x => Zl.f k (x), fin := Zl.fin, cl := true, clo := fun _ _ => rfl }
def Zl.re (s : St U) : Option (List Zc) := match s.get 0 with | .row C.Zc x1 => some x1 | _ => none
def Zl.jl : List (Nat × JDen U) := []
def Zl.fl (k : Nat) : List (Nat × Zjz U) := []
def Zl.ll (k : Nat) : List (Nat × Zvm U) := []
def Zl.E (k : Nat) : Env U := { P := Tryz.prog, D := DD, fd := lk (Zl.fl k), sf := lk sl0, ld := lk (Zl.ll k), jd := lk Zl.jl, mode := lk [], elc := lk ec, mpc := lk mc, rts := Tryz.f109.resultTypes.toList, dyn := fun t => false, Zug := fun d => false, results := Tryz.f109.results.toList, gh := [], own := false, io := fun g i => false, lds := nl0, fn := lk [] }
theorem Zl.ok (k : Nat) : Zhj (Zl.E k) := Ycg lawful (Zl.fl k) sl0 (Zl.ll k) Zl.jl _ _ _ _ _ _ _ _ _ _ _ [] (fun _ => none) (by
  intro p hp
  simp [Zl.fl] at hp) Zup (by
  intro p hp
  simp [Zl.jl] at hp) (fun _ h => (List.not_mem_nil h).elim)
theorem Zl.Yfh (s : St U) (y : List Zc) (h : Zl.re s = some y) : Fits s (Zl.fin y) := by
  unfold Zl.re at h
  split at h
  · cases h
    refine Zfn [] ?_ ?_ Zos rfl
    · exact List.forall_mem_cons.2 ⟨FV.one (FV.same (by assumption) rfl), fun _ hp => (List.not_mem_nil hp).elim⟩
    · exact fun _ hp => (List.not_mem_nil hp).elim
  · cases h
def Zl.mkn (g : Bool) (x : List Zc) : St U := ⟨[(0, .Zsz g C.Zc x)], []⟩
theorem Zl.eq (k : Nat) (x : List Zc) : Zsp (Zl.E k) (codeOf Tryz.f109) (Zl.mkn true x) Zl.re = (Zl.D k).f x := by kernel_rfl
theorem Zl.eqN (k : Nat) : Zsp (Zl.E k) (codeOf Tryz.f109) (Zl.mkn false []) Zl.re = (Zl.D k).f [] := by kernel_rfl
theorem Zl.sound (k : Nat) : Sound Tryz.prog DD 109 (Zl.D k) :=
  Zqw (E := Zl.E k) (fn := Tryz.f109) (c := codeOf Tryz.f109) (Zl.ok k) mixed rfl Tryz.func109 (by kernel_rfl) (by kernel_rfl) (Zbd (l := []) (by kernel_rfl) Zat) C.Zc (Zl.D k) Zl.mkn (fun x => x) Zl.re (by kernel_rfl) (by kernel_rfl)
    (by intro m x h; replace h : Zl.un m = some x := h; unfold Zl.un at h; split at h; · cases h; assumption
        · cases h)
    (fun _ _ => rfl) Zl.Yfh (Zl.eq k) (by intro x h; replace h : x = [] := h; subst h; exact Zl.eqN k)
def Zl.pk (k : Nat) : Pk Tryz.prog DD := ⟨109, Zl.D k, Zl.sound k, Zfi Tryz.func109 (by kernel_rfl) (by kernel_rfl)⟩
def Zcz.f (k : Nat) (a0 : Zg) (a1 : Zd) : Option (Int × Int × Zg) := (Zcq.f k (⟨pack 12 false a0.f_t.Zm, pack 12 0 a0.f_t.Zi⟩ : Ze) a1.Zbj).bind fun t1 => (cond (!t1) (some (0, 8, (⟨a0.Zbb, a0.f_l, (⟨pack 12 false a0.f_t.Zm, pack 12 0 a0.f_t.Zi⟩ : Ze)⟩ : Zg))) (cond ((List.length a0.f_l : Int) == 40) (some (0, 5, (⟨a0.Zbb, a0.f_l, (⟨pack 12 false a0.f_t.Zm, pack 12 0 a0.f_t.Zi⟩ : Ze)⟩ : Zg))) ((Zl.f k a1.Zby).bind fun t2 => (cond (Zjc (List.length a0.f_l + List.length [(⟨a1.Zbj, t2, a1.Zje⟩ : Zd)]) 40) (some (IntKind.wrap .i64 ((List.length (a0.f_l ++ [(⟨a1.Zbj, t2, a1.Zje⟩ : Zd)]) : Int) - 1), 0, (⟨a0.Zbb, a0.f_l ++ [(⟨a1.Zbj, t2, a1.Zje⟩ : Zd)], (⟨pack 12 false a0.f_t.Zm, pack 12 0 a0.f_t.Zi⟩ : Ze)⟩ : Zg))) none))))
def Zcz.i : Lay U (Zg × Zd) := (Zsv 1000000000000000 7000000000000 (Zgy (Zgt 0 (Zba 7000000000000 7000000000000)) (Zgt 1 (tAt (vCd Zra))))).lay (fun _ => by kernel_rfl)
def Zcz.r : Lay U (Int × Int × Zg) := (Zim (Zgy (Zii 0 (Zhq (tAt (Zgo .i64)) (Zih (tAt (Zgo .i64))))) (Zgt 1000000000000000 (Zba 7000000000000 7000000000000))) (fun x => ((x.1.1, x.1.2, x.2) : (Int × Int × Zg))) (fun x => ((x.1, x.2.1), x.2.2)) (fun _ => rfl)).lay (fun _ => by kernel_rfl)
def Zcz.pk (k : Nat) : Pk Tryz.prog DD := pkP 56 (Zae Tryz.f56 [Zcq.pk k, Zl.pk k] [] [] [] n0 n0 [0] false n00 nl0 [] nli) Tryz.func56 mixed (al0 (by kernel_rfl)) Zcz.i Zcz.r [0] false (fun x => Zcz.f k (x.1) (x.2)) (fun h => by cases h) fun _ => by kernel_rfl
def Zbk.f (k : Nat) (a0 : Zg) (a1 : Int) (a2 : Int) : Option (Int × Int × Zg) := ((cond (decide (a1 < 0)) (some (a2, true, a0.Zbb, a0.f_l, (⟨pack 12 false a0.f_t.Zm, pack 12 0 a0.f_t.Zi⟩ : Ze), a1)) (some (a2, decide (a1 ≥ (List.length a0.f_l : Int)), a0.Zbb, a0.f_l, (⟨pack 12 false a0.f_t.Zm, pack 12 0 a0.f_t.Zi⟩ : Ze), a1))) : Option (Int × Bool × Int × List Zd × Ze × Int)).bind fun y31 => (cond (y31.2.1) (some (0, 10, (⟨y31.2.2.1, y31.2.2.2.1, (⟨pack 12 false y31.2.2.2.2.1.Zm, pack 12 0 y31.2.2.2.2.1.Zi⟩ : Ze)⟩ : Zg))) (((cond (inb y31.2.2.2.2.2 (List.length y31.2.2.2.1)) (cond (decide (((List.getD y31.2.2.2.1 (Int.toNat y31.2.2.2.2.2) Zd.zero).Zje) ≥ 0)) (some (y31.1, y31.2.2.2.2.2, true, y31.2.2.1, y31.2.2.2.1, (⟨pack 12 false y31.2.2.2.2.1.Zm, pack 12 0 y31.2.2.2.2.1.Zi⟩ : Ze))) ((Zf.f k y31.2.2.2.1 y31.2.2.2.2.2).bind fun t62 => (some (y31.1, y31.2.2.2.2.2, t62, y31.2.2.1, y31.2.2.2.1, (⟨pack 12 false y31.2.2.2.2.1.Zm, pack 12 0 y31.2.2.2.2.1.Zi⟩ : Ze))))) none) : Option (Int × Int × Bool × Int × List Zd × Ze)).bind fun y63 => (cond (y63.2.2.1) (some (0, 13, (⟨y63.2.2.2.1, y63.2.2.2.2.1, (⟨pack 12 false y63.2.2.2.2.2.Zm, pack 12 0 y63.2.2.2.2.2.Zi⟩ : Ze)⟩ : Zg))) (cond (inb y63.2.1 (List.length y63.2.2.2.2.1)) ((Zbc.f k ((List.getD y63.2.2.2.2.1 (Int.toNat y63.2.1) Zd.zero).Zby)).bind fun t64 => ((Zcz.f k (⟨y63.2.2.2.1, y63.2.2.2.2.1, (⟨pack 12 false y63.2.2.2.2.2.Zm, pack 12 0 y63.2.2.2.2.2.Zi⟩ : Ze)⟩ : Zg) (⟨y63.1, t64, y63.2.1⟩ : Zd)).bind fun t65 => (some (t65.1, t65.2.1, (⟨t65.2.2.Zbb, t65.2.2.f_l, (⟨pack 12 false t65.2.2.f_t.Zm, pack 12 0 t65.2.2.f_t.Zi⟩ : Ze)⟩ : Zg))))) none))))
def Zbk.i : Lay U (Zg × Int × Int) := (Zsv 1000000000000000 7000000000000 (Zgy (Zgt 0 (Zba 7000000000000 7000000000000)) (Zgy (Zgt 1 (tAt (Zgo .i64))) (Zgt 2 (tAt (Zgo .i64)))))).lay (fun _ => by kernel_rfl)
def Zbk.r : Lay U (Int × Int × Zg) := (Zim (Zgy (Zii 0 (Zhq (tAt (Zgo .i64)) (Zih (tAt (Zgo .i64))))) (Zgt 1000000000000000 (Zba 7000000000000 7000000000000))) (fun x => ((x.1.1, x.1.2, x.2) : (Int × Int × Zg))) (fun x => ((x.1, x.2.1), x.2.2)) (fun _ => rfl)).lay (fun _ => by kernel_rfl)
def Zbk.Ybp : Jk U := ⟨(Int × Bool × Int × List Zd × Ze × Int), Zhk (lay [(0, Zha 7000000000000 0), (4, Zha 4 0), (1000000000000000, Zha 7000000000000 0), (2, sAt (Zgo .i64)), (11, sAt Zgw)] [Zjg 7000000000000 [(Zgo .i64), (Zjm DD 700102300000001 C.Zd 3)] Zac, Zhn 4 [(Zgo .i64)]] (fun _ => by kernel_rfl))⟩
def Zbk.j5000 : Jk U := ⟨(Int × Int × Bool × Int × List Zd × Ze), Zhk (lay [(0, Zha 7000000000000 0), (1000000000000000, Zha 7000000000000 0), (2, sAt (Zgo .i64)), (4, sRp [(Zgo .i64)] 0), (23, sAt Zgw)] [Zjg 7000000000000 [(Zgo .i64), (Zjm DD 700102500000001 C.Zd 3)] Zac] (fun _ => by kernel_rfl))⟩
def Zbk.pk (k : Nat) : Pk Tryz.prog DD := pkP 82 (Zae Tryz.f82 [Zf.pk k, Zbc.pk k, Zcz.pk k] [(3000, Zbk.Ybp), (5000, Zbk.j5000)] [] [] n0 n0 [0] false n00 nl0 [] nli) Tryz.func82 mixed (al0 (by kernel_rfl)) Zbk.i Zbk.r [0] false (fun x => Zbk.f k (x.1) (x.2.1) (x.2.2)) (fun h => by cases h) fun _ => by kernel_rfl
def Zdi.f (k : Nat) (a0 : Ze) (a1 : Int) : Option (Ze × Int) := (((Zfd.f k a1).bind fun t1 => (cond (!t1) (some (a1, true, (⟨pack 12 false a0.Zm, pack 12 0 a0.Zi⟩ : Ze), (⟨[false, false, false, false, false, false, false, false, false, false, false, false], [0, 0, 0, 0, 0, 0, 0, 0, 0, 0, 0, 0]⟩ : Ze))) (cond (inb a1 12) (cond (Nat.blt (Int.toNat a1) 12) (cond (!(List.getD (pack 12 false a0.Zm) (Int.toNat a1) false)) (some (a1, true, (⟨pack 12 false a0.Zm, pack 12 0 a0.Zi⟩ : Ze), (⟨[false, false, false, false, false, false, false, false, false, false, false, false], [0, 0, 0, 0, 0, 0, 0, 0, 0, 0, 0, 0]⟩ : Ze))) ((Zfd.f k (IntKind.wrap .i64 (a1 + 1))).bind fun t6 => (cond (t6) (cond (inb (IntKind.wrap .i64 (a1 + 1)) 12) (cond (Nat.blt (Int.toNat (IntKind.wrap .i64 (a1 + 1))) 12) (some (a1, List.getD (pack 12 false a0.Zm) (Int.toNat (IntKind.wrap .i64 (a1 + 1))) false, (⟨pack 12 false a0.Zm, pack 12 0 a0.Zi⟩ : Ze), (⟨[false, false, false, false, false, false, false, false, false, false, false, false], [0, 0, 0, 0, 0, 0, 0, 0, 0, 0, 0, 0]⟩ : Ze))) none) none) (some (a1, false, (⟨pack 12 false a0.Zm, pack 12 0 a0.Zi⟩ : Ze), (⟨[false, false, false, false, false, false, false, false, false, false, false, false], [0, 0, 0, 0, 0, 0, 0, 0, 0, 0, 0, 0]⟩ : Ze)))))) none) none))) : Option (Int × Bool × Ze × Ze)).bind fun y7 => (cond (y7.2.1) (some ((⟨[false, false, false, false, false, false, false, false, false, false, false, false], [0, 0, 0, 0, 0, 0, 0, 0, 0, 0, 0, 0]⟩ : Ze), 8)) (cond (inb y7.1 12) (cond (Nat.blt (Int.toNat y7.1) 12) (some ((⟨Zne (Int.toNat y7.1) false 0 (pack 12 false y7.2.2.1.Zm), pack 12 0 y7.2.2.1.Zi⟩ : Ze), 0)) none) none))
def Zdi.i : Lay U (Ze × Int) := (Zgy (Zgt 0 (tAt (vCd Zac))) (Zgt 1 (tAt (Zgo .i64)))).lay (fun _ => by kernel_rfl)
def Zdi.r : Lay U (Ze × Int) := (Zii 0 (Zhq (tAt (vCd Zac)) (Zih (tAt (Zgo .i64))))).lay (fun _ => by kernel_rfl)
def Zdi.Zhv : Jk U := ⟨(Int × Bool × Ze × Ze), Zhk (lay [(2, Zha 2 0), (4, Zha 4 0), (1, sAt (Zgo .i64)), (27, sAt Zgw)] [bCd 2 Zac, bCd 4 Zac] (fun _ => by kernel_rfl))⟩
def Zdi.pk (k : Nat) : Pk Tryz.prog DD := pkP 87 (Zae Tryz.f87 [Zfd.pk k] [(1000, Zdi.Zhv)] [] [] (fun t => Nat.beq t 68) n0 [] false n00 nl0 [] nli) Tryz.func87 mixed (al0 (by kernel_rfl)) Zdi.i Zdi.r [] true (fun x => Zdi.f k (x.1) (x.2)) (fun _ _ => rfl) fun _ => by kernel_rfl
def Zs.f (k : Nat) (a0 : Zg) (a1 : Unit) (a2 : Int) : Option (Int × Zg) := (Zdi.f k (⟨pack 12 false a0.f_t.Zm, pack 12 0 a0.f_t.Zi⟩ : Ze) a2).bind fun t1 => (cond (t1.2 == 0) (some (t1.2, (⟨a0.Zbb, a0.f_l, (⟨pack 12 false t1.1.Zm, pack 12 0 t1.1.Zi⟩ : Ze)⟩ : Zg))) (some (t1.2, (⟨a0.Zbb, a0.f_l, (⟨pack 12 false a0.f_t.Zm, pack 12 0 a0.f_t.Zi⟩ : Ze)⟩ : Zg))))
def Zs.un (s : St U) : Option (Zg × Unit × Int) := match s.get 0, lk s.o 7000000000000, s.get 1, s.get 2, s.get 1000000000000000 with | .ptr 7000000000000 0, some (.lit (.flat (.int .i64 x1) :: x5 :: x3)), .fn 87 [], .flat (.int .i64 x6), .ptr 7000000000000 0 => (Zfs s.o 3 x5).bind fun ex2 => ((Zac.full x3).bind fun x4 => (some ((⟨x1, ex2.2, x4⟩ : Zg), (), x6))) | _, _, _, _, _ => none
def Zs.mk (x : (Zg × Unit × Int)) : St U := ⟨[(0, .ptr 7000000000000 0), (1, .fn 87 []), (2, .flat (.int .i64 x.2.2)), (1000000000000000, .ptr 7000000000000 0)], [(7000000000000, .lit ((.flat (.int .i64 x.1.Zbb)) :: (.tip 7000000000002 C.Zd x.1.f_l) :: Zac.enc x.1.f_t)), (7000000000002, .tip 3)]⟩
def Zs.fin (y : (Int × Zg)) : St U := ⟨[(0, .flat (.int .i64 y.1)), (1000000000000000, .ptr 7000000000000 0)], [(7000000000000, .lit ((.flat (.int .i64 y.2.Zbb)) :: (.tip 7000000000002 C.Zd y.2.f_l) :: Zac.enc y.2.f_t)), (7000000000002, .tip 3)]⟩
def Zs.D (k : Nat) : Zjz U := { X := (Zg × Unit × Int), Y := (Int × Zg), nt := 28, gh := [0], un := Zs.un, f := fun x => Zs.f k (x.1) (x.2.1) (x.2.2), fin := Zs.fin, cl := false, clo := fun h => by cases h }
def Zs.re (s : St U) : Option (Int × Zg) := match s.get 0, s.get 1000000000000000, lk s.o 7000000000000 with | .flat (.int .i64 x1), .ptr 7000000000000 0, some (.lit (.flat (.int .i64 x2) :: x6 :: x4)) => (Zfs s.o 3 x6).bind fun ex3 => ((Zac.full x4).bind fun x5 => (some (x1, (⟨x2, ex3.2, x5⟩ : Zg)))) | _, _, _ => none
def Zs.jl : List (Nat × JDen U) := []
def Zs.fl (k : Nat) : List (Nat × Zjz U) := [(87, (Zdi.pk k).d)]
def Zs.ll (k : Nat) : List (Nat × Zvm U) := []
def Zs.E (k : Nat) : Env U := { P := Tryz.prog, D := DD, fd := lk (Zs.fl k), sf := lk sl0, ld := lk (Zs.ll k), jd := lk Zs.jl, mode := lk [], elc := lk ec, mpc := lk mc, rts := Tryz.f74.resultTypes.toList, dyn := fun t => false, Zug := fun d => false, results := Tryz.f74.results.toList, gh := [0], own := false, io := fun g i => false, lds := nl0, fn := lk [] }
theorem Zs.ok (k : Nat) : Zhj (Zs.E k) := Ycg lawful (Zs.fl k) sl0 (Zs.ll k) Zs.jl _ _ _ _ _ _ _ _ _ _ _ [] (fun _ => none) (by
  intro p hp
  simp only [Zs.fl, List.mem_cons, List.not_mem_nil, or_false] at hp
  rcases hp with rfl
  · exact ⟨(Zdi.pk k).snd, Zfi Tryz.func87 (by kernel_rfl) (by kernel_rfl)⟩) Zup (by
  intro p hp
  simp [Zs.jl] at hp) (fun _ h => (List.not_mem_nil h).elim)
theorem Zs.eq (k : Nat) (x : (Zg × Unit × Int)) : Zsp (Zs.E k) (codeOf Tryz.f74) (Zs.mk x) Zs.re = (Zs.D k).f x := by kernel_rfl
theorem Zs.fit (s : St U) (x : (Zg × Unit × Int)) (h : Zs.un s = some x) : Fits s (Zs.mk x) := by
  unfold Zs.un at h
  split at h
  · obtain ⟨ex2, hex2, hh1⟩ := Option.bind_eq_some_iff.1 h
    obtain ⟨x4, hx4, hh2⟩ := Option.bind_eq_some_iff.1 hh1
    cases hh2
    refine Zfn [(7000000000002, ex2.1)] ?_ ?_ Yas rfl
    · exact List.forall_mem_cons.2 ⟨FV.one (FV.ptr (by assumption)), List.forall_mem_cons.2 ⟨FV.one (FV.same (by assumption) rfl), List.forall_mem_cons.2 ⟨FV.one (FV.same (by assumption) rfl), List.forall_mem_cons.2 ⟨FV.one (FV.ptr (by assumption)), fun _ hp => (List.not_mem_nil hp).elim⟩⟩⟩⟩
    · exact List.forall_mem_cons.2 ⟨FO.cells (show lk (St.o _) 7000000000000 = some _ from by assumption) (FCs.cons (Zwq rfl rfl) (FCs.cons ((Zdm hex2 rfl).1) (FCs.tail (Cd.Znp hx4) rfl))), List.forall_mem_cons.2 ⟨(Zdm hex2 rfl).2, fun _ hp => (List.not_mem_nil hp).elim⟩⟩
  · cases h
theorem Zs.Yfh (s : St U) (y : (Int × Zg)) (h : Zs.re s = some y) : Fits s (Zs.fin y) := by
  unfold Zs.re at h
  split at h
  · obtain ⟨ex3, hex3, hh1⟩ := Option.bind_eq_some_iff.1 h
    obtain ⟨x5, hx5, hh2⟩ := Option.bind_eq_some_iff.1 hh1
    cases hh2
    refine Zfn [(7000000000002, ex3.1)] ?_ ?_ Yas rfl
    · exact List.forall_mem_cons.2 ⟨FV.one (FV.same (by assumption) rfl), List.forall_mem_cons.2 ⟨FV.one (FV.ptr (by assumption)), fun _ hp => (List.not_mem_nil hp).elim⟩⟩
    · exact List.forall_mem_cons.2 ⟨FO.cells (show lk (St.o _) 7000000000000 = some _ from by assumption) (FCs.cons (Zwq rfl rfl) (FCs.cons ((Zdm hex3 rfl).1) (FCs.tail (Cd.Znp hx5) rfl))), List.forall_mem_cons.2 ⟨(Zdm hex3 rfl).2, fun _ hp => (List.not_mem_nil hp).elim⟩⟩
  · cases h
theorem Zs.sound (k : Nat) : Sound Tryz.prog DD 74 (Zs.D k) :=
  Zrw (E := Zs.E k) (fn := Tryz.f74) (c := codeOf Tryz.f74) (Zs.ok k) mixed rfl Tryz.func74 (by kernel_rfl) (by kernel_rfl) (Zbd (l := []) (by kernel_rfl) Zat) (Zs.D k) Zs.mk Zs.re (by kernel_rfl) (by kernel_rfl) Zs.fit Zs.Yfh (Zs.eq k)
def Zs.pk (k : Nat) : Pk Tryz.prog DD := ⟨74, Zs.D k, Zs.sound k, Zfi Tryz.func74 (by kernel_rfl) (by kernel_rfl)⟩
def Zcv.f (k : Nat) (a0 : Zg) (a1 : Int) : Option (Int × Zg) := (Zs.f k (⟨a0.Zbb, a0.f_l, (⟨pack 12 false a0.f_t.Zm, pack 12 0 a0.f_t.Zi⟩ : Ze)⟩ : Zg) () a1).bind fun t1 => (some (t1.1, (⟨t1.2.Zbb, t1.2.f_l, (⟨pack 12 false t1.2.f_t.Zm, pack 12 0 t1.2.f_t.Zi⟩ : Ze)⟩ : Zg)))
def Zcv.i : Lay U (Zg × Int) := (Zsv 1000000000000000 7000000000000 (Zgy (Zgt 0 (Zba 7000000000000 7000000000000)) (Zgt 1 (tAt (Zgo .i64))))).lay (fun _ => by kernel_rfl)
def Zcv.r : Lay U (Int × Zg) := (Zgy (Zgt 0 (tAt (Zgo .i64))) (Zgt 1000000000000000 (Zba 7000000000000 7000000000000))).lay (fun _ => by kernel_rfl)
def Zcv.pk (k : Nat) : Pk Tryz.prog DD := pkP 34 (Zae Tryz.f34 [Zs.pk k] [] [] [] n0 n0 [0] false n00 nl0 [] nli) Tryz.func34 mixed (al0 (by kernel_rfl)) Zcv.i Zcv.r [0] false (fun x => Zcv.f k (x.1) (x.2)) (fun h => by cases h) fun _ => by kernel_rfl
def Zdo.f (k : Nat) (a0 : Int) : Option Int := ((cond (decide (a0 < 0)) (some (a0, true)) (some (a0, decide (a0 ≥ 16)))) : Option (Int × Bool)).bind fun y3 => (cond (y3.2) (some 0) (cond (decide (y3.1 ≤ 3)) (some 1) (cond (decide (y3.1 ≤ 6)) (some 2) (cond (decide (y3.1 ≤ 8)) (some 3) (some 4)))))
def Zdo.i : Lay U Int := (Zgt 0 (tAt (Zgo .i64))).lay (fun _ => by kernel_rfl)
def Zdo.r : Lay U Int := (Zgt 0 (tAt (Zgo .i64))).lay (fun _ => by kernel_rfl)
def Zdo.Zhv : Jk U := ⟨(Int × Bool), Zhk (lay [(0, sAt (Zgo .i64)), (3, sAt Zgw)] [] (fun _ => by kernel_rfl))⟩
def Zdo.pk (k : Nat) : Pk Tryz.prog DD := pkP 44 (Zae Tryz.f44 [] [(1000, Zdo.Zhv)] [] [] n0 n0 [] false n00 nl0 [] nli) Tryz.func44 mixed (al0 (by kernel_rfl)) Zdo.i Zdo.r [] true (fun x => Zdo.f k (x)) (fun _ _ => rfl) fun _ => by kernel_rfl
end
end Go.Proofs.YtbchcjlllddlpaaGreat
