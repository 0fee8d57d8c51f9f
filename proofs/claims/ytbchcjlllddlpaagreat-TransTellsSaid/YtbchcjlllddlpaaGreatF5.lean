import Derived.Test.YtbchcjlllddlpaaGreatF4
namespace Go.Proofs.YtbchcjlllddlpaaGreat
open Go Go.Ev
noncomputable section
set_option linter.unusedVariables false
set_option linter.unusedSimpArgs false
set_option maxRecDepth 100000
def Zdi.f (k : Nat) (a0 : Zg) (a1 : Int) : Option Bool := (Zfs.f k a1).bind fun t1 => (cond (t1) (cond (inb a1 12) (cond (Nat.blt (Int.toNat a1) 12) (some (!(List.getD (pack 12 false a0.Zl) (Int.toNat a1) false))) none) none) (some false))
def Zdi.i : Lay U (Zg × Int) := (Zhi (Zhc 0 (tAt (vCd Zal))) (Zhc 1 (tAt (Zhb .i64)))).lay (fun _ => by kernel_rfl)
def Zdi.r : Lay U Bool := (Zhc 0 (tAt Zhh)).lay (fun _ => by kernel_rfl)
def Zdi.pk (k : Nat) : Pk Tryz.prog DD := pkP 59 (Zak Tryz.f59 [Zfs.pk k] [] [] [] (fun t => Nat.beq t 68) n0 [] false n00 nl0 [] nli) Tryz.func59 mixed (al0 (by kernel_rfl)) Zdi.i Zdi.r [] true (fun x => Zdi.f k (x.1) (x.2)) (fun _ _ => rfl) fun _ => by kernel_rfl
def Zel.f (k : Nat) (a0 : Zg) (a1 : Int) : Option (Zg × Int) := (((Zdi.f k (⟨pack 12 false a0.Zl, pack 12 0 a0.Zj⟩ : Zg) a1).bind fun t1 => (cond (!t1) (some (a1, true, (⟨pack 12 false a0.Zl, pack 12 0 a0.Zj⟩ : Zg), (⟨[false, false, false, false, false, false, false, false, false, false, false, false], [0, 0, 0, 0, 0, 0, 0, 0, 0, 0, 0, 0]⟩ : Zg))) (cond (decide (a1 > 0)) (cond (inb (IntKind.wrap .i64 (a1 - 1)) 12) (cond (Nat.blt (Int.toNat (IntKind.wrap .i64 (a1 - 1))) 12) (some (a1, !(List.getD (pack 12 false a0.Zl) (Int.toNat (IntKind.wrap .i64 (a1 - 1))) false), (⟨pack 12 false a0.Zl, pack 12 0 a0.Zj⟩ : Zg), (⟨[false, false, false, false, false, false, false, false, false, false, false, false], [0, 0, 0, 0, 0, 0, 0, 0, 0, 0, 0, 0]⟩ : Zg))) none) none) (some (a1, false, (⟨pack 12 false a0.Zl, pack 12 0 a0.Zj⟩ : Zg), (⟨[false, false, false, false, false, false, false, false, false, false, false, false], [0, 0, 0, 0, 0, 0, 0, 0, 0, 0, 0, 0]⟩ : Zg)))))) : Option (Int × Bool × Zg × Zg)).bind fun y6 => (cond (y6.2.1) (some ((⟨[false, false, false, false, false, false, false, false, false, false, false, false], [0, 0, 0, 0, 0, 0, 0, 0, 0, 0, 0, 0]⟩ : Zg), 8)) (cond (inb y6.1 12) (cond (Nat.blt (Int.toNat y6.1) 12) (cond (inb y6.1 12) (cond (Nat.blt (Int.toNat y6.1) 12) (cond (inb y6.1 12) (cond (Nat.blt (Int.toNat y6.1) 12) (some ((⟨Zmw (Int.toNat y6.1) true 0 (pack 12 false y6.2.2.1.Zl), Zmw (Int.toNat y6.1) (IntKind.wrap .i64 ((List.getD (pack 12 0 y6.2.2.1.Zj) (Int.toNat y6.1) 0) + 1)) 0 (pack 12 0 y6.2.2.1.Zj)⟩ : Zg), 0)) none) none) none) none) none) none))
def Zel.i : Lay U (Zg × Int) := (Zhi (Zhc 0 (tAt (vCd Zal))) (Zhc 1 (tAt (Zhb .i64)))).lay (fun _ => by kernel_rfl)
def Zel.r : Lay U (Zg × Int) := (Ziq 0 (Zhz (tAt (vCd Zal)) (Zin (tAt (Zhb .i64))))).lay (fun _ => by kernel_rfl)
def Zel.Zig : Jk U := ⟨(Int × Bool × Zg × Zg), Zht (lay [(2, Zhe 2 0), (4, Zhe 4 0), (1, sAt (Zhb .i64)), (21, sAt Zhh)] [bCd 2 Zal, bCd 4 Zal] (fun _ => by kernel_rfl))⟩
def Zel.pk (k : Nat) : Pk Tryz.prog DD := pkP 75 (Zak Tryz.f75 [Zdi.pk k] [(1000, Zel.Zig)] [] [] (fun t => Nat.beq t 68 || Nat.beq t 69) n0 [] false n00 nl0 [] nli) Tryz.func75 mixed (al0 (by kernel_rfl)) Zel.i Zel.r [] true (fun x => Zel.f k (x.1) (x.2)) (fun _ _ => rfl) fun _ => by kernel_rfl
def Zy.f (k : Nat) (a0 : Zk) (a1 : Unit) (a2 : Int) : Option (Int × Zk) := (Zel.f k (⟨pack 12 false a0.f_t.Zl, pack 12 0 a0.f_t.Zj⟩ : Zg) a2).bind fun t1 => (cond (t1.2 == 0) (some (t1.2, (⟨a0.Zbk, a0.f_l, (⟨pack 12 false t1.1.Zl, pack 12 0 t1.1.Zj⟩ : Zg)⟩ : Zk))) (some (t1.2, (⟨a0.Zbk, a0.f_l, (⟨pack 12 false a0.f_t.Zl, pack 12 0 a0.f_t.Zj⟩ : Zg)⟩ : Zk))))
def Zy.un (s : St U) : Option (Zk × Unit × Int) := match s.get 0, lk s.o 7000000000000, s.get 1, s.get 2, s.get 1000000000000000 with | .ptr 7000000000000 0, some (.lit (.flat (.int .i64 x1) :: x5 :: x3)), .fn 75 [], .flat (.int .i64 x6), .ptr 7000000000000 0 => (Zgh s.o 3 x5).bind fun ex2 => ((Zal.full x3).bind fun x4 => (some ((⟨x1, ex2.2, x4⟩ : Zk), (), x6))) | _, _, _, _, _ => none
def Zy.mk (x : (Zk × Unit × Int)) : St U := ⟨[(0, .ptr 7000000000000 0), (1, .fn 75 []), (2, .flat (.int .i64 x.2.2)), (1000000000000000, .ptr 7000000000000 0)], [(7000000000000, .lit ((.flat (.int .i64 x.1.Zbk)) :: (.tip 7000000000002 C.Ze x.1.f_l) :: Zal.enc x.1.f_t)), (7000000000002, .tip 3)]⟩
def Zy.fin (y : (Int × Zk)) : St U := ⟨[(0, .flat (.int .i64 y.1)), (1000000000000000, .ptr 7000000000000 0)], [(7000000000000, .lit ((.flat (.int .i64 y.2.Zbk)) :: (.tip 7000000000002 C.Ze y.2.f_l) :: Zal.enc y.2.f_t)), (7000000000002, .tip 3)]⟩
def Zy.D (k : Nat) : Zka U := { X := (Zk × Unit × Int), Y := (Int × Zk), nt := 28, gh := [0], un := Zy.un, f := fun x => Zy.f k (x.1) (x.2.1) (x.2.2), fin := Zy.fin, cl := false, clo := fun h => by cases h }
def Zy.re (s : St U) : Option (Int × Zk) := match s.get 0, s.get 1000000000000000, lk s.o 7000000000000 with | .flat (.int .i64 x1), .ptr 7000000000000 0, some (.lit (.flat (.int .i64 x2) :: x6 :: x4)) => (Zgh s.o 3 x6).bind fun ex3 => ((Zal.full x4).bind fun x5 => (some (x1, (⟨x2, ex3.2, x5⟩ : Zk)))) | _, _, _ => none
def Zy.jl : List (Nat × JDen U) := []
def Zy.fl (k : Nat) : List (Nat × Zka U) := [(75, (Zel.pk k).d)]
def Zy.ll (k : Nat) : List (Nat × Zvv U) := []
def Zy.E (k : Nat) : Env U := { P := Tryz.prog, D := DD, fd := lk (Zy.fl k), sf := lk sl0, ld := lk (Zy.ll k), jd := lk Zy.jl, mode := lk [], elc := lk ec, mpc := lk mc, rts := Tryz.f74.resultTypes.toList, dyn := fun t => false, Zuk := fun d => false, results := Tryz.f74.results.toList, gh := [0], own := false, io := fun g i => false, lds := nl0, fn := lk [] }
theorem Zy.ok (k : Nat) : Zic (Zy.E k) := Ycp lawful (Zy.fl k) sl0 (Zy.ll k) Zy.jl _ _ _ _ _ _ _ _ _ _ _ [] (fun _ => none) (by
  intro p hp
  simp only [Zy.fl, List.mem_cons, List.not_mem_nil, or_false] at hp
  rcases hp with rfl
  · exact ⟨(Zel.pk k).snd, Zey Tryz.func75 (by kernel_rfl) (by kernel_rfl)⟩) Zuu (by
  intro p hp
  simp [Zy.jl] at hp) (fun _ h => (List.not_mem_nil h).elim)
theorem Zy.eq (k : Nat) (x : (Zk × Unit × Int)) : Zpz (Zy.E k) (codeOf Tryz.f74) (Zy.mk x) Zy.re = (Zy.D k).f x := by kernel_rfl
theorem Zy.fit (s : St U) (x : (Zk × Unit × Int)) (h : Zy.un s = some x) : Fits s (Zy.mk x) := by
  unfold Zy.un at h
  split at h
  · obtain ⟨ex2, hex2, hh1⟩ := Option.bind_eq_some_iff.1 h
    obtain ⟨x4, hx4, hh2⟩ := Option.bind_eq_some_iff.1 hh1
    cases hh2
    refine Zgc [(7000000000002, ex2.1)] ?_ ?_ Ybb rfl
    · exact List.forall_mem_cons.2 ⟨FV.one (FV.ptr (by assumption)), List.forall_mem_cons.2 ⟨FV.one (FV.same (by assumption) rfl), List.forall_mem_cons.2 ⟨FV.one (FV.same (by assumption) rfl), List.forall_mem_cons.2 ⟨FV.one (FV.ptr (by assumption)), fun _ hp => (List.not_mem_nil hp).elim⟩⟩⟩⟩
    · exact List.forall_mem_cons.2 ⟨FO.cells (show lk (St.o _) 7000000000000 = some _ from by assumption) (FCs.cons (Zxd rfl rfl) (FCs.cons ((Zef hex2 rfl).1) (FCs.tail (Cd.Znv hx4) rfl))), List.forall_mem_cons.2 ⟨(Zef hex2 rfl).2, fun _ hp => (List.not_mem_nil hp).elim⟩⟩
  · cases h
theorem Zy.Ygd (s : St U) (y : (Int × Zk)) (h : Zy.re s = some y) : Fits s (Zy.fin y) := by
  unfold Zy.re at h
  split at h
  · obtain ⟨ex3, hex3, hh1⟩ := Option.bind_eq_some_iff.1 h
    obtain ⟨x5, hx5, hh2⟩ := Option.bind_eq_some_iff.1 hh1
    cases hh2
    refine Zgc [(7000000000002, ex3.1)] ?_ ?_ Ybb rfl
    · exact List.forall_mem_cons.2 ⟨FV.one (FV.same (by assumption) rfl), List.forall_mem_cons.2 ⟨FV.one (FV.ptr (by assumption)), fun _ hp => (List.not_mem_nil hp).elim⟩⟩
    · exact List.forall_mem_cons.2 ⟨FO.cells (show lk (St.o _) 7000000000000 = some _ from by assumption) (FCs.cons (Zxd rfl rfl) (FCs.cons ((Zef hex3 rfl).1) (FCs.tail (Cd.Znv hx5) rfl))), List.forall_mem_cons.2 ⟨(Zef hex3 rfl).2, fun _ hp => (List.not_mem_nil hp).elim⟩⟩
  · cases h
theorem Zy.sound (k : Nat) : Sound Tryz.prog DD 74 (Zy.D k) :=
  Zsl (E := Zy.E k) (fn := Tryz.f74) (c := codeOf Tryz.f74) (Zy.ok k) mixed rfl Tryz.func74 (by kernel_rfl) (by kernel_rfl) (Zbf (l := []) (by kernel_rfl) Zba) (Zy.D k) Zy.mk Zy.re (by kernel_rfl) (by kernel_rfl) Zy.fit Zy.Ygd (Zy.eq k)
def Zy.pk (k : Nat) : Pk Tryz.prog DD := ⟨74, Zy.D k, Zy.sound k, Zey Tryz.func74 (by kernel_rfl) (by kernel_rfl)⟩
def Zdw.f (k : Nat) (a0 : Zk) (a1 : Int) : Option (Int × Zk) := (Zy.f k (⟨a0.Zbk, a0.f_l, (⟨pack 12 false a0.f_t.Zl, pack 12 0 a0.f_t.Zj⟩ : Zg)⟩ : Zk) () a1).bind fun t1 => (some (t1.1, (⟨t1.2.Zbk, t1.2.f_l, (⟨pack 12 false t1.2.f_t.Zl, pack 12 0 t1.2.f_t.Zj⟩ : Zg)⟩ : Zk)))
def Zdw.i : Lay U (Zk × Int) := (Zph 1000000000000000 7000000000000 (Zhi (Zhc 0 (Zbm 7000000000000 7000000000000)) (Zhc 1 (tAt (Zhb .i64))))).lay (fun _ => by kernel_rfl)
def Zdw.r : Lay U (Int × Zk) := (Zhi (Zhc 0 (tAt (Zhb .i64))) (Zhc 1000000000000000 (Zbm 7000000000000 7000000000000))).lay (fun _ => by kernel_rfl)
def Zdw.pk (k : Nat) : Pk Tryz.prog DD := pkP 22 (Zak Tryz.f22 [Zy.pk k] [] [] [] n0 n0 [0] false n00 nl0 [] nli) Tryz.func22 mixed (al0 (by kernel_rfl)) Zdw.i Zdw.r [0] false (fun x => Zdw.f k (x.1) (x.2)) (fun h => by cases h) fun _ => by kernel_rfl
def Zcg.f (k : Nat) (a0 : Ze) (a1 : Int) : Option Bool := some (a0.Zjn == a1)
def Zcg.i : Lay U (Ze × Int) := (Zhi (Zhc 0 (tAt (vCd Zrj))) (Zhc 1 (tAt (vRp (Cd.int .i64))))).lay (fun _ => by kernel_rfl)
def Zcg.r : Lay U Bool := (Zhc 0 (tAt Zhh)).lay (fun _ => by kernel_rfl)
def Zcg.pk (k : Nat) : Pk Tryz.prog DD := pkP 132 (Zak Tryz.f132 [] [] [] [] n0 n0 [] false n00 nl0 [] nli) Tryz.func132 mixed (al0 (by kernel_rfl)) Zcg.i Zcg.r [] true (fun x => Zcg.f k (x.1) (x.2)) (fun _ _ => rfl) fun _ => by kernel_rfl
def Zb.l2.once (k : Nat) (x : (List Ze × Int × Int × Int)) : Option ((List Ze × Int × Int × Int) ⊕ (Unit ⊕ Int)) := match x with | (x1, x2, x3, x4) => cond (decide (x4 < x3)) (cond (inb x4 (List.length x1)) ((Zcg.f k (⟨(List.getD x1 (Int.toNat x4) Ze.zero).Zbi, (List.getD x1 (Int.toNat x4) Ze.zero).Zcr, (List.getD x1 (Int.toNat x4) Ze.zero).Zjn⟩ : Ze) x2).bind fun t5 => (cond (t5) (some (.inr (.inr x4))) (some (.inl (x1, x2, x3, IntKind.wrap .i64 (x4 + 1)))))) none) (some (.inr (.inl ())))
def Zb.f (k : Nat) (a0 : List Ze) (a1 : Int) : Option Int := (iter (Zb.l2.once k) k (a0, a1, (List.length a0 : Int), 0)).bind fun | .inl y7 => (some (-1)) | .inr y8 => (some y8)
def Zb.un (s : St U) : Option (List Ze × Int) := match s.get 0, s.get 1 with | .row C.Ze x1, .fn 132 [.rp [.flat (.int .i64 x2)] 0] => some (x1, x2) | _, _ => none
def Zb.mk (x : (List Ze × Int)) : St U := ⟨[(0, .row C.Ze x.1), (1, .fn 132 [.rp [.flat (.int .i64 x.2)] 0])], []⟩
def Zb.fin (y : Int) : St U := ⟨[(0, .flat (.int .i64 y))], []⟩
def Zb.D (k : Nat) : Zka U := { X := (List Ze × Int), Y := Int, nt := 19, gh := [], un := Zb.un, f := fun x => Zb.f k (x.1) (x.2), fin := Zb.fin, cl := true, clo := fun _ _ => rfl }
def Zb.re (s : St U) : Option Int := match s.get 0 with | .flat (.int .i64 x1) => some x1 | _ => none
def Zb.l2.mk (x : (List Ze × Int × Int × Int)) : St U := match x with | (x1, x2, x3, x4) => ⟨[(0, .row C.Ze x1), (1, .fn 132 [.rp [.flat (.int .i64 x2)] 0]), (7, .flat (.int .i64 x3)), (8, .flat (.int .i64 x4))], []⟩
def Zb.l2.un (s : St U) : Option (List Ze × Int × Int × Int) := (Zqa (s.get 0)).bind fun q0 => (match s.get 1, s.get 7, s.get 8 with | .fn 132 [.rp [.flat (.int .i64 x2)] 0], .flat (.int .i64 x3), .flat (.int .i64 x4) => some (q0, x2, x3, x4) | _, _, _ => none)
def Zb.l2.fin (y : Unit ⊕ Int) : Out U := match y with | .inl () => .exit 0 ⟨[], []⟩ | .inr z => .ret (⟨[(0, .flat (.int .i64 z))], []⟩)
def Zb.l2.Znd {ρ : Type} (y : Unit ⊕ Int) (K : Out U → Option ρ) : Option ρ := match y with | .inl () => K (.exit 0 ⟨[], []⟩) | .inr z => K (.ret (⟨[(0, .flat (.int .i64 z))], []⟩))
theorem Zb.l2.Ziu {ρ : Type} (y : Unit ⊕ Int) (K : Out U → Option ρ) : Zb.l2.Znd y K = K (Zb.l2.fin y) := by
  unfold Zb.l2.Znd Zb.l2.fin
  first | rfl | (split <;> rfl)
def Zb.l2.re : Out U → Option (Unit ⊕ Int) | .exit 0 s => (some (.inl ())) | .ret s => (match s.get 0 with | .flat (.int .i64 x1) => some (.inr x1) | _ => none) | _ => none
def Zb.l2.L (k : Nat) : Zvv U := { X := (List Ze × Int × Int × Int), Y := Unit ⊕ Int, un := Zb.l2.un, f := iter (Zb.l2.once k) k, fin := Zb.l2.fin, Znd := Zb.l2.Znd, Ziu := Zb.l2.Ziu }
def Zb.jl : List (Nat × JDen U) := []
def Zb.fl (k : Nat) : List (Nat × Zka U) := [(132, (Zcg.pk k).d)]
def Zb.ll (k : Nat) : List (Nat × Zvv U) := [(2, Zb.l2.L k)]
def Zb.E (k : Nat) : Env U := { P := Tryz.prog, D := DD, fd := lk (Zb.fl k), sf := lk sl0, ld := lk (Zb.ll k), jd := lk Zb.jl, mode := lk [], elc := lk ec, mpc := lk mc, rts := Tryz.f165.resultTypes.toList, dyn := fun t => false, Zuk := fun d => false, results := Tryz.f165.results.toList, gh := [], own := false, io := fun g i => false, lds := nl0, fn := lk [] }
theorem Zb.ok (k : Nat) : Zic (Zb.E k) := Ycp lawful (Zb.fl k) sl0 (Zb.ll k) Zb.jl _ _ _ _ _ _ _ _ _ _ _ [] (fun _ => none) (by
  intro p hp
  simp only [Zb.fl, List.mem_cons, List.not_mem_nil, or_false] at hp
  rcases hp with rfl
  · exact ⟨(Zcg.pk k).snd, Zey Tryz.func132 (by kernel_rfl) (by kernel_rfl)⟩) Zuu (by
  intro p hp
  simp [Zb.jl] at hp) (fun _ h => (List.not_mem_nil h).elim)
theorem Zb.l2.eq (k : Nat) (x : (List Ze × Int × Int × Int)) : evC (Zb.E k) (Zhj Tryz.f165 2) (Zb.l2.mk x) (Ypz Zb.l2.un Zb.l2.re) = Zb.l2.once k x := by kernel_rfl
theorem Zb.l2.fit (s : St U) (x : (List Ze × Int × Int × Int)) (h : Zb.l2.un s = some x) : Fits s (Zb.l2.mk x) := by
  unfold Zb.l2.un at h
  obtain ⟨q0, eq0, h1⟩ := Option.bind_eq_some_iff.1 h
  split at h1
  · cases h1
    refine Zgc [] ?_ ?_ Zpd rfl
    · exact List.forall_mem_cons.2 ⟨FV.one (Zzb eq0), List.forall_mem_cons.2 ⟨FV.one (FV.same (by assumption) rfl), List.forall_mem_cons.2 ⟨FV.one (FV.same (by assumption) rfl), List.forall_mem_cons.2 ⟨FV.one (FV.same (by assumption) rfl), fun _ hp => (List.not_mem_nil hp).elim⟩⟩⟩⟩
    · exact fun _ hp => (List.not_mem_nil hp).elim
  · cases h1
theorem Zb.l2.fitO (o : Out U) (y : Unit ⊕ Int) (h : Zb.l2.re o = some y) : Zyh o (Zb.l2.fin y) := by
  unfold Zb.l2.re at h
  split at h
  · cases h
    refine Ylz (Zgc [] ?_ ?_ Zpd rfl)
    · exact fun _ hp => (List.not_mem_nil hp).elim
    · exact fun _ hp => (List.not_mem_nil hp).elim
  · split at h
    · cases h
      refine Yqe (Zgc [] ?_ ?_ Zpd rfl)
      · exact List.forall_mem_cons.2 ⟨FV.one (FV.same (by assumption) rfl), fun _ hp => (List.not_mem_nil hp).elim⟩
      · exact fun _ hp => (List.not_mem_nil hp).elim
    · cases h
  · cases h
theorem Zb.l2.sound (k : Nat) : Zhu (Zb.E k) Tryz.f165.ntmps Tryz.f165 (.loop (Zhj Tryz.f165 2)) (Zb.l2.L k) :=
  Ykn (Zb.ok k) mixed rfl (by kernel_rfl) (Zbf (l := []) (by kernel_rfl) Zba) Zb.l2.un Zb.l2.mk Zb.l2.fin Zb.l2.re (Zb.l2.once k) k Zb.l2.fit Zb.l2.fitO (Zb.l2.eq k) Zb.l2.Znd Zb.l2.Ziu
theorem Zb.eq (k : Nat) (x : (List Ze × Int)) : Zpz (Zb.E k) (codeOf Tryz.f165) (Zb.mk x) Zb.re = (Zb.D k).f x := by kernel_rfl
theorem Zb.fit (s : St U) (x : (List Ze × Int)) (h : Zb.un s = some x) : Fits s (Zb.mk x) := by
  unfold Zb.un at h
  split at h
  · cases h
    refine Zgc [] ?_ ?_ Zpd rfl
    · exact List.forall_mem_cons.2 ⟨FV.one (FV.same (by assumption) rfl), List.forall_mem_cons.2 ⟨FV.one (FV.same (by assumption) rfl), fun _ hp => (List.not_mem_nil hp).elim⟩⟩
    · exact fun _ hp => (List.not_mem_nil hp).elim
  · cases h
theorem Zb.Ygd (s : St U) (y : Int) (h : Zb.re s = some y) : Fits s (Zb.fin y) := by
  unfold Zb.re at h
  split at h
  · cases h
    refine Zgc [] ?_ ?_ Zpd rfl
    · exact List.forall_mem_cons.2 ⟨FV.one (FV.same (by assumption) rfl), fun _ hp => (List.not_mem_nil hp).elim⟩
    · exact fun _ hp => (List.not_mem_nil hp).elim
  · cases h
theorem Zb.sound (k : Nat) : Sound Tryz.prog DD 165 (Zb.D k) :=
  Zsl (E := Zb.E k) (fn := Tryz.f165) (c := codeOf Tryz.f165) (Zb.ok k) mixed rfl Tryz.func165 (by kernel_rfl) (by kernel_rfl) (Zbf (l := [.loop (Zhj Tryz.f165 2)]) (by kernel_rfl) (Zbv (key := 2) (by kernel_rfl) rfl (Zb.l2.sound k) Zba)) (Zb.D k) Zb.mk Zb.re (by kernel_rfl) (by kernel_rfl) Zb.fit Zb.Ygd (Zb.eq k)
def Zb.pk (k : Nat) : Pk Tryz.prog DD := ⟨165, Zb.D k, Zb.sound k, Zey Tryz.func165 (by kernel_rfl) (by kernel_rfl)⟩
def Zi.f (k : Nat) (a0 : List Ze) (a1 : Int) : Option Bool := (Zb.f k a0 a1).bind fun t1 => (some (decide (t1 ≥ 0)))
def Zi.un (s : St U) : Option (List Ze × Int) := match s.get 0, s.get 1 with | .row C.Ze x1, .fn 132 [.rp [.flat (.int .i64 x2)] 0] => some (x1, x2) | _, _ => none
def Zi.mk (x : (List Ze × Int)) : St U := ⟨[(0, .row C.Ze x.1), (1, .fn 132 [.rp [.flat (.int .i64 x.2)] 0])], []⟩
def Zi.fin (y : Bool) : St U := ⟨[(0, .flat (.bool y))], []⟩
def Zi.D (k : Nat) : Zka U := { X := (List Ze × Int), Y := Bool, nt := 9, gh := [], un := Zi.un, f := fun x => Zi.f k (x.1) (x.2), fin := Zi.fin, cl := true, clo := fun _ _ => rfl }
def Zi.re (s : St U) : Option Bool := match s.get 0 with | .flat (.bool x1) => some x1 | _ => none
def Zi.jl : List (Nat × JDen U) := []
def Zi.fl (k : Nat) : List (Nat × Zka U) := [(165, Zb.D k)]
def Zi.ll (k : Nat) : List (Nat × Zvv U) := []
def Zi.E (k : Nat) : Env U := { P := Tryz.prog, D := DD, fd := lk (Zi.fl k), sf := lk sl0, ld := lk (Zi.ll k), jd := lk Zi.jl, mode := lk [], elc := lk ec, mpc := lk mc, rts := Tryz.f131.resultTypes.toList, dyn := fun t => false, Zuk := fun d => false, results := Tryz.f131.results.toList, gh := [], own := false, io := fun g i => false, lds := nl0, fn := lk [] }
theorem Zi.ok (k : Nat) : Zic (Zi.E k) := Ycp lawful (Zi.fl k) sl0 (Zi.ll k) Zi.jl _ _ _ _ _ _ _ _ _ _ _ [] (fun _ => none) (by
  intro p hp
  simp only [Zi.fl, List.mem_cons, List.not_mem_nil, or_false] at hp
  rcases hp with rfl
  · exact ⟨Zb.sound k, Zey Tryz.func165 (by kernel_rfl) (by kernel_rfl)⟩) Zuu (by
  intro p hp
  simp [Zi.jl] at hp) (fun _ h => (List.not_mem_nil h).elim)
theorem Zi.eq (k : Nat) (x : (List Ze × Int)) : Zpz (Zi.E k) (codeOf Tryz.f131) (Zi.mk x) Zi.re = (Zi.D k).f x := by kernel_rfl
theorem Zi.fit (s : St U) (x : (List Ze × Int)) (h : Zi.un s = some x) : Fits s (Zi.mk x) := by
  unfold Zi.un at h
  split at h
  · cases h
    refine Zgc [] ?_ ?_ Zpd rfl
    · exact List.forall_mem_cons.2 ⟨FV.one (FV.same (by assumption) rfl), List.forall_mem_cons.2 ⟨FV.one (FV.same (by assumption) rfl), fun _ hp => (List.not_mem_nil hp).elim⟩⟩
    · exact fun _ hp => (List.not_mem_nil hp).elim
  · cases h
theorem Zi.Ygd (s : St U) (y : Bool) (h : Zi.re s = some y) : Fits s (Zi.fin y) := by
  unfold Zi.re at h
  split at h
  · cases h
    refine Zgc [] ?_ ?_ Zpd rfl
    · exact List.forall_mem_cons.2 ⟨FV.one (FV.same (by assumption) rfl), fun _ hp => (List.not_mem_nil hp).elim⟩
    · exact fun _ hp => (List.not_mem_nil hp).elim
  · cases h
theorem Zi.sound (k : Nat) : Sound Tryz.prog DD 131 (Zi.D k) :=
  Zsl (E := Zi.E k) (fn := Tryz.f131) (c := codeOf Tryz.f131) (Zi.ok k) mixed rfl Tryz.func131 (by kernel_rfl) (by kernel_rfl) (Zbf (l := []) (by kernel_rfl) Zba) (Zi.D k) Zi.mk Zi.re (by kernel_rfl) (by kernel_rfl) Zi.fit Zi.Ygd (Zi.eq k)
def Zi.pk (k : Nat) : Pk Tryz.prog DD := ⟨131, Zi.D k, Zi.sound k, Zey Tryz.func131 (by kernel_rfl) (by kernel_rfl)⟩
def Zbo.l3.once (k : Nat) (x : (List Zd × List Zd × Int × Int)) : Option ((List Zd × List Zd × Int × Int) ⊕ (List Zd)) := match x with | (x1, x2, x3, x4) => cond (decide (x4 < x3)) (cond (inb x4 (List.length x2)) ((Zgz.f k ((List.getD x2 (Int.toNat x4) Zd.zero).Zv)).bind fun t5 => (cond (Zje (List.length x1 + List.length [(⟨(List.getD x2 (Int.toNat x4) Zd.zero).Zdu, t5, (List.getD x2 (Int.toNat x4) Zd.zero).Zeg⟩ : Zd)]) 48) (some (.inl (x1 ++ [(⟨(List.getD x2 (Int.toNat x4) Zd.zero).Zdu, t5, (List.getD x2 (Int.toNat x4) Zd.zero).Zeg⟩ : Zd)], x2, x3, IntKind.wrap .i64 (x4 + 1)))) none)) none) (some (.inr x1))
def Zbo.f (k : Nat) (a0 : List Zd) : Option (List Zd) := (iter (Zbo.l3.once k) k (([] : List Zd), a0, (List.length a0 : Int), 0)).bind fun y7 => (some y7)
def Zbo.i : Lay U (List Zd) := (Zhc 0 (tAt (Zhl DD C.Zd))).lay (fun _ => by kernel_rfl)
def Zbo.r : Lay U (List Zd) := (Zhc 0 (tAt (Zhl DD C.Zd))).lay (fun _ => by kernel_rfl)
def Zbo.l3.i : Lay U (List Zd × List Zd × Int × Int) := (lay [(3, sAt (Zik DD 1003003 C.Zd 6)), (6, sAt (Zhl DD C.Zd)), (7, sAt (Zhb .i64)), (8, sAt (Zhb .i64))] [] (fun _ => by kernel_rfl))
def Zbo.l3.o : Zjc U (List Zd) := Zil 0 (lay [(3, sAt (Zik DD 1003003 C.Zd 6))] [] (fun _ => by kernel_rfl))
def Zbo.E (k : Nat) : Env U := mkE Tryz.f133 [Zgz.pk k] [] [(3, ldn Zbo.l3.i Zbo.l3.o (iter (Zbo.l3.once k) k))] [] n0 n0 [] false n00 nl0 [] nli
theorem Zbo.l3.sound (k : Nat) : Zhu (Zbo.E k) Tryz.f133.ntmps Tryz.f133 (.loop (Zhj Tryz.f133 3)) (ldn Zbo.l3.i Zbo.l3.o (iter (Zbo.l3.once k) k)) :=
  Zim (Zak _ _ _ _ _ _ _ _ _ _ _ _ _) mixed rfl (by kernel_rfl) (Zbf (l := []) (by kernel_rfl) Zba) Zbo.l3.i Zbo.l3.o (Zbo.l3.once k) k (fun _ => by kernel_rfl)
def Zbo.pk (k : Nat) : Pk Tryz.prog DD := pkP (E := Zbo.E k) 133 (Zak _ _ _ _ _ _ _ _ _ _ _ _ _) Tryz.func133 mixed (Zbf (l := [.loop (Zhj Tryz.f133 3)]) (by kernel_rfl) (Zbv (key := 3) (by kernel_rfl) rfl (Zbo.l3.sound k) Zba)) Zbo.i Zbo.r [] true (fun x => Zbo.f k (x)) (fun _ _ => rfl) fun _ => by kernel_rfl
def Zp.f (k : Nat) (a0 : List Zd) : Option (List Zd) := cond (Zje (List.length ([] : List Zd) + List.length a0) 48) (some (([] : List Zd) ++ a0)) none
def Zp.un (s : St U) : Option (List Zd) := match s.get 0 with | .row C.Zd x1 => some x1 | _ => none
def Zp.mk (x : List Zd) : St U := ⟨[(0, .row C.Zd x)], []⟩
def Zp.fin (y : List Zd) : St U := ⟨[(0, .row C.Zd y)], []⟩
def Zp.D (k : Nat) : Zka U := { X := List Zd, Y := List Zd, nt := 8, gh := [], un := Zp.un, f := fun x => Zp.f k (x), fin := Zp.fin, cl := true, clo := fun _ _ => rfl }
def Zp.re (s : St U) : Option (List Zd) := match s.get 0 with | .row C.Zd x1 => some x1 | _ => none
def Zp.jl : List (Nat × JDen U) := []
def Zp.fl (k : Nat) : List (Nat × Zka U) := []
def Zp.ll (k : Nat) : List (Nat × Zvv U) := []
def Zp.E (k : Nat) : Env U := { P := Tryz.prog, D := DD, fd := lk (Zp.fl k), sf := lk sl0, ld := lk (Zp.ll k), jd := lk Zp.jl, mode := lk [], elc := lk ec, mpc := lk mc, rts := Tryz.f109.resultTypes.toList, dyn := fun t => false, Zuk := fun d => false, results := Tryz.f109.results.toList, gh := [], own := false, io := fun g i => false, lds := nl0, fn := lk [] }
theorem Zp.ok (k : Nat) : Zic (Zp.E k) := Ycp lawful (Zp.fl k) sl0 (Zp.ll k) Zp.jl _ _ _ _ _ _ _ _ _ _ _ [] (fun _ => none) (by
  intro p hp
  simp [Zp.fl] at hp) Zuu (by
  intro p hp
  simp [Zp.jl] at hp) (fun _ h => (List.not_mem_nil h).elim)
theorem Zp.Ygd (s : St U) (y : List Zd) (h : Zp.re s = some y) : Fits s (Zp.fin y) := by
  unfold Zp.re at h
  split at h
  · cases h
    refine Zgc [] ?_ ?_ Zpd rfl
    · exact List.forall_mem_cons.2 ⟨FV.one (FV.same (by assumption) rfl), fun _ hp => (List.not_mem_nil hp).elim⟩
    · exact fun _ hp => (List.not_mem_nil hp).elim
  · cases h
def Zp.mkn (g : Bool) (x : List Zd) : St U := ⟨[(0, .Zth g C.Zd x)], []⟩
theorem Zp.eq (k : Nat) (x : List Zd) : Zpz (Zp.E k) (codeOf Tryz.f109) (Zp.mkn true x) Zp.re = (Zp.D k).f x := by kernel_rfl
theorem Zp.eqN (k : Nat) : Zpz (Zp.E k) (codeOf Tryz.f109) (Zp.mkn false []) Zp.re = (Zp.D k).f [] := by kernel_rfl
theorem Zp.sound (k : Nat) : Sound Tryz.prog DD 109 (Zp.D k) :=
  Zre (E := Zp.E k) (fn := Tryz.f109) (c := codeOf Tryz.f109) (Zp.ok k) mixed rfl Tryz.func109 (by kernel_rfl) (by kernel_rfl) (Zbf (l := []) (by kernel_rfl) Zba) C.Zd (Zp.D k) Zp.mkn (fun x => x) Zp.re (by kernel_rfl) (by kernel_rfl)
    (by intro m x h; replace h : Zp.un m = some x := h; unfold Zp.un at h; split at h; · cases h; assumption
        · cases h)
    (fun _ _ => rfl) Zp.Ygd (Zp.eq k) (by intro x h; replace h : x = [] := h; subst h; exact Zp.eqN k)
def Zp.pk (k : Nat) : Pk Tryz.prog DD := ⟨109, Zp.D k, Zp.sound k, Zey Tryz.func109 (by kernel_rfl) (by kernel_rfl)⟩
def Zdt.f (k : Nat) (a0 : Zk) (a1 : Ze) : Option (Int × Int × Zk) := (Zdi.f k (⟨pack 12 false a0.f_t.Zl, pack 12 0 a0.f_t.Zj⟩ : Zg) a1.Zbi).bind fun t1 => (cond (!t1) (some (0, 8, (⟨a0.Zbk, a0.f_l, (⟨pack 12 false a0.f_t.Zl, pack 12 0 a0.f_t.Zj⟩ : Zg)⟩ : Zk))) (cond ((List.length a0.f_l : Int) == 40) (some (0, 5, (⟨a0.Zbk, a0.f_l, (⟨pack 12 false a0.f_t.Zl, pack 12 0 a0.f_t.Zj⟩ : Zg)⟩ : Zk))) ((Zp.f k a1.Zcr).bind fun t2 => (cond (Zje (List.length a0.f_l + List.length [(⟨a1.Zbi, t2, a1.Zjn⟩ : Ze)]) 40) (some (IntKind.wrap .i64 ((List.length (a0.f_l ++ [(⟨a1.Zbi, t2, a1.Zjn⟩ : Ze)]) : Int) - 1), 0, (⟨a0.Zbk, a0.f_l ++ [(⟨a1.Zbi, t2, a1.Zjn⟩ : Ze)], (⟨pack 12 false a0.f_t.Zl, pack 12 0 a0.f_t.Zj⟩ : Zg)⟩ : Zk))) none))))
def Zdt.i : Lay U (Zk × Ze) := (Zph 1000000000000000 7000000000000 (Zhi (Zhc 0 (Zbm 7000000000000 7000000000000)) (Zhc 1 (tAt (vCd Zrj))))).lay (fun _ => by kernel_rfl)
def Zdt.r : Lay U (Int × Int × Zk) := (Zis (Zhi (Ziq 0 (Zhz (tAt (Zhb .i64)) (Zin (tAt (Zhb .i64))))) (Zhc 1000000000000000 (Zbm 7000000000000 7000000000000))) (fun x => ((x.1.1, x.1.2, x.2) : (Int × Int × Zk))) (fun x => ((x.1, x.2.1), x.2.2)) (fun _ => rfl)).lay (fun _ => by kernel_rfl)
def Zdt.pk (k : Nat) : Pk Tryz.prog DD := pkP 56 (Zak Tryz.f56 [Zdi.pk k, Zp.pk k] [] [] [] n0 n0 [0] false n00 nl0 [] nli) Tryz.func56 mixed (al0 (by kernel_rfl)) Zdt.i Zdt.r [0] false (fun x => Zdt.f k (x.1) (x.2)) (fun h => by cases h) fun _ => by kernel_rfl
def Zby.f (k : Nat) (a0 : Zk) (a1 : Int) (a2 : Int) : Option (Int × Int × Zk) := ((cond (decide (a1 < 0)) (some (a2, true, a0.Zbk, a0.f_l, (⟨pack 12 false a0.f_t.Zl, pack 12 0 a0.f_t.Zj⟩ : Zg), a1)) (some (a2, decide (a1 ≥ (List.length a0.f_l : Int)), a0.Zbk, a0.f_l, (⟨pack 12 false a0.f_t.Zl, pack 12 0 a0.f_t.Zj⟩ : Zg), a1))) : Option (Int × Bool × Int × List Ze × Zg × Int)).bind fun y31 => (cond (y31.2.1) (some (0, 10, (⟨y31.2.2.1, y31.2.2.2.1, (⟨pack 12 false y31.2.2.2.2.1.Zl, pack 12 0 y31.2.2.2.2.1.Zj⟩ : Zg)⟩ : Zk))) (((cond (inb y31.2.2.2.2.2 (List.length y31.2.2.2.1)) (cond (decide (((List.getD y31.2.2.2.1 (Int.toNat y31.2.2.2.2.2) Ze.zero).Zjn) ≥ 0)) (some (y31.1, y31.2.2.2.2.2, true, y31.2.2.1, y31.2.2.2.1, (⟨pack 12 false y31.2.2.2.2.1.Zl, pack 12 0 y31.2.2.2.2.1.Zj⟩ : Zg))) ((Zi.f k y31.2.2.2.1 y31.2.2.2.2.2).bind fun t62 => (some (y31.1, y31.2.2.2.2.2, t62, y31.2.2.1, y31.2.2.2.1, (⟨pack 12 false y31.2.2.2.2.1.Zl, pack 12 0 y31.2.2.2.2.1.Zj⟩ : Zg))))) none) : Option (Int × Int × Bool × Int × List Ze × Zg)).bind fun y63 => (cond (y63.2.2.1) (some (0, 13, (⟨y63.2.2.2.1, y63.2.2.2.2.1, (⟨pack 12 false y63.2.2.2.2.2.Zl, pack 12 0 y63.2.2.2.2.2.Zj⟩ : Zg)⟩ : Zk))) (cond (inb y63.2.1 (List.length y63.2.2.2.2.1)) ((Zbo.f k ((List.getD y63.2.2.2.2.1 (Int.toNat y63.2.1) Ze.zero).Zcr)).bind fun t64 => ((Zdt.f k (⟨y63.2.2.2.1, y63.2.2.2.2.1, (⟨pack 12 false y63.2.2.2.2.2.Zl, pack 12 0 y63.2.2.2.2.2.Zj⟩ : Zg)⟩ : Zk) (⟨y63.1, t64, y63.2.1⟩ : Ze)).bind fun t65 => (some (t65.1, t65.2.1, (⟨t65.2.2.Zbk, t65.2.2.f_l, (⟨pack 12 false t65.2.2.f_t.Zl, pack 12 0 t65.2.2.f_t.Zj⟩ : Zg)⟩ : Zk))))) none))))
def Zby.i : Lay U (Zk × Int × Int) := (Zph 1000000000000000 7000000000000 (Zhi (Zhc 0 (Zbm 7000000000000 7000000000000)) (Zhi (Zhc 1 (tAt (Zhb .i64))) (Zhc 2 (tAt (Zhb .i64)))))).lay (fun _ => by kernel_rfl)
def Zby.r : Lay U (Int × Int × Zk) := (Zis (Zhi (Ziq 0 (Zhz (tAt (Zhb .i64)) (Zin (tAt (Zhb .i64))))) (Zhc 1000000000000000 (Zbm 7000000000000 7000000000000))) (fun x => ((x.1.1, x.1.2, x.2) : (Int × Int × Zk))) (fun x => ((x.1, x.2.1), x.2.2)) (fun _ => rfl)).lay (fun _ => by kernel_rfl)
def Zby.Yby : Jk U := ⟨(Int × Bool × Int × List Ze × Zg × Int), Zht (lay [(0, Zhe 7000000000000 0), (4, Zhe 4 0), (1000000000000000, Zhe 7000000000000 0), (2, sAt (Zhb .i64)), (11, sAt Zhh)] [Ziw 7000000000000 [(Zhb .i64), (Zik DD 700102300000001 C.Ze 3)] Zal, Zhq 4 [(Zhb .i64)]] (fun _ => by kernel_rfl))⟩
def Zby.j5000 : Jk U := ⟨(Int × Int × Bool × Int × List Ze × Zg), Zht (lay [(0, Zhe 7000000000000 0), (1000000000000000, Zhe 7000000000000 0), (2, sAt (Zhb .i64)), (4, sRp [(Zhb .i64)] 0), (23, sAt Zhh)] [Ziw 7000000000000 [(Zhb .i64), (Zik DD 700102500000001 C.Ze 3)] Zal] (fun _ => by kernel_rfl))⟩
def Zby.pk (k : Nat) : Pk Tryz.prog DD := pkP 82 (Zak Tryz.f82 [Zi.pk k, Zbo.pk k, Zdt.pk k] [(3000, Zby.Yby), (5000, Zby.j5000)] [] [] n0 n0 [0] false n00 nl0 [] nli) Tryz.func82 mixed (al0 (by kernel_rfl)) Zby.i Zby.r [0] false (fun x => Zby.f k (x.1) (x.2.1) (x.2.2)) (fun h => by cases h) fun _ => by kernel_rfl
def Zec.f (k : Nat) (a0 : Zg) (a1 : Int) : Option (Zg × Int) := (((Zfs.f k a1).bind fun t1 => (cond (!t1) (some (a1, true, (⟨pack 12 false a0.Zl, pack 12 0 a0.Zj⟩ : Zg), (⟨[false, false, false, false, false, false, false, false, false, false, false, false], [0, 0, 0, 0, 0, 0, 0, 0, 0, 0, 0, 0]⟩ : Zg))) (cond (inb a1 12) (cond (Nat.blt (Int.toNat a1) 12) (cond (!(List.getD (pack 12 false a0.Zl) (Int.toNat a1) false)) (some (a1, true, (⟨pack 12 false a0.Zl, pack 12 0 a0.Zj⟩ : Zg), (⟨[false, false, false, false, false, false, false, false, false, false, false, false], [0, 0, 0, 0, 0, 0, 0, 0, 0, 0, 0, 0]⟩ : Zg))) ((Zfs.f k (IntKind.wrap .i64 (a1 + 1))).bind fun t6 => (cond (t6) (cond (inb (IntKind.wrap .i64 (a1 + 1)) 12) (cond (Nat.blt (Int.toNat (IntKind.wrap .i64 (a1 + 1))) 12) (some (a1, List.getD (pack 12 false a0.Zl) (Int.toNat (IntKind.wrap .i64 (a1 + 1))) false, (⟨pack 12 false a0.Zl, pack 12 0 a0.Zj⟩ : Zg), (⟨[false, false, false, false, false, false, false, false, false, false, false, false], [0, 0, 0, 0, 0, 0, 0, 0, 0, 0, 0, 0]⟩ : Zg))) none) none) (some (a1, false, (⟨pack 12 false a0.Zl, pack 12 0 a0.Zj⟩ : Zg), (⟨[false, false, false, false, false, false, false, false, false, false, false, false], [0, 0, 0, 0, 0, 0, 0, 0, 0, 0, 0, 0]⟩ : Zg)))))) none) none))) : Option (Int × Bool × Zg × Zg)).bind fun y7 => (cond (y7.2.1) (some ((⟨[false, false, false, false, false, false, false, false, false, false, false, false], [0, 0, 0, 0, 0, 0, 0, 0, 0, 0, 0, 0]⟩ : Zg), 8)) (cond (inb y7.1 12) (cond (Nat.blt (Int.toNat y7.1) 12) (some ((⟨Zmw (Int.toNat y7.1) false 0 (pack 12 false y7.2.2.1.Zl), pack 12 0 y7.2.2.1.Zj⟩ : Zg), 0)) none) none))
def Zec.i : Lay U (Zg × Int) := (Zhi (Zhc 0 (tAt (vCd Zal))) (Zhc 1 (tAt (Zhb .i64)))).lay (fun _ => by kernel_rfl)
def Zec.r : Lay U (Zg × Int) := (Ziq 0 (Zhz (tAt (vCd Zal)) (Zin (tAt (Zhb .i64))))).lay (fun _ => by kernel_rfl)
def Zec.Zig : Jk U := ⟨(Int × Bool × Zg × Zg), Zht (lay [(2, Zhe 2 0), (4, Zhe 4 0), (1, sAt (Zhb .i64)), (27, sAt Zhh)] [bCd 2 Zal, bCd 4 Zal] (fun _ => by kernel_rfl))⟩
def Zec.pk (k : Nat) : Pk Tryz.prog DD := pkP 87 (Zak Tryz.f87 [Zfs.pk k] [(1000, Zec.Zig)] [] [] (fun t => Nat.beq t 68) n0 [] false n00 nl0 [] nli) Tryz.func87 mixed (al0 (by kernel_rfl)) Zec.i Zec.r [] true (fun x => Zec.f k (x.1) (x.2)) (fun _ _ => rfl) fun _ => by kernel_rfl
def Zx.f (k : Nat) (a0 : Zk) (a1 : Unit) (a2 : Int) : Option (Int × Zk) := (Zec.f k (⟨pack 12 false a0.f_t.Zl, pack 12 0 a0.f_t.Zj⟩ : Zg) a2).bind fun t1 => (cond (t1.2 == 0) (some (t1.2, (⟨a0.Zbk, a0.f_l, (⟨pack 12 false t1.1.Zl, pack 12 0 t1.1.Zj⟩ : Zg)⟩ : Zk))) (some (t1.2, (⟨a0.Zbk, a0.f_l, (⟨pack 12 false a0.f_t.Zl, pack 12 0 a0.f_t.Zj⟩ : Zg)⟩ : Zk))))
def Zx.un (s : St U) : Option (Zk × Unit × Int) := match s.get 0, lk s.o 7000000000000, s.get 1, s.get 2, s.get 1000000000000000 with | .ptr 7000000000000 0, some (.lit (.flat (.int .i64 x1) :: x5 :: x3)), .fn 87 [], .flat (.int .i64 x6), .ptr 7000000000000 0 => (Zgh s.o 3 x5).bind fun ex2 => ((Zal.full x3).bind fun x4 => (some ((⟨x1, ex2.2, x4⟩ : Zk), (), x6))) | _, _, _, _, _ => none
def Zx.mk (x : (Zk × Unit × Int)) : St U := ⟨[(0, .ptr 7000000000000 0), (1, .fn 87 []), (2, .flat (.int .i64 x.2.2)), (1000000000000000, .ptr 7000000000000 0)], [(7000000000000, .lit ((.flat (.int .i64 x.1.Zbk)) :: (.tip 7000000000002 C.Ze x.1.f_l) :: Zal.enc x.1.f_t)), (7000000000002, .tip 3)]⟩
def Zx.fin (y : (Int × Zk)) : St U := ⟨[(0, .flat (.int .i64 y.1)), (1000000000000000, .ptr 7000000000000 0)], [(7000000000000, .lit ((.flat (.int .i64 y.2.Zbk)) :: (.tip 7000000000002 C.Ze y.2.f_l) :: Zal.enc y.2.f_t)), (7000000000002, .tip 3)]⟩
def Zx.D (k : Nat) : Zka U := { X := (Zk × Unit × Int), Y := (Int × Zk), nt := 28, gh := [0], un := Zx.un, f := fun x => Zx.f k (x.1) (x.2.1) (x.2.2), fin := Zx.fin, cl := false, clo := fun h => by cases h }
def Zx.re (s : St U) : Option (Int × Zk) := match s.get 0, s.get 1000000000000000, lk s.o 7000000000000 with | .flat (.int .i64 x1), .ptr 7000000000000 0, some (.lit (.flat (.int .i64 x2) :: x6 :: x4)) => (Zgh s.o 3 x6).bind fun ex3 => ((Zal.full x4).bind fun x5 => (some (x1, (⟨x2, ex3.2, x5⟩ : Zk)))) | _, _, _ => none
def Zx.jl : List (Nat × JDen U) := []
def Zx.fl (k : Nat) : List (Nat × Zka U) := [(87, (Zec.pk k).d)]
def Zx.ll (k : Nat) : List (Nat × Zvv U) := []
def Zx.E (k : Nat) : Env U := { P := Tryz.prog, D := DD, fd := lk (Zx.fl k), sf := lk sl0, ld := lk (Zx.ll k), jd := lk Zx.jl, mode := lk [], elc := lk ec, mpc := lk mc, rts := Tryz.f74.resultTypes.toList, dyn := fun t => false, Zuk := fun d => false, results := Tryz.f74.results.toList, gh := [0], own := false, io := fun g i => false, lds := nl0, fn := lk [] }
theorem Zx.ok (k : Nat) : Zic (Zx.E k) := Ycp lawful (Zx.fl k) sl0 (Zx.ll k) Zx.jl _ _ _ _ _ _ _ _ _ _ _ [] (fun _ => none) (by
  intro p hp
  simp only [Zx.fl, List.mem_cons, List.not_mem_nil, or_false] at hp
  rcases hp with rfl
  · exact ⟨(Zec.pk k).snd, Zey Tryz.func87 (by kernel_rfl) (by kernel_rfl)⟩) Zuu (by
  intro p hp
  simp [Zx.jl] at hp) (fun _ h => (List.not_mem_nil h).elim)
theorem Zx.eq (k : Nat) (x : (Zk × Unit × Int)) : Zpz (Zx.E k) (codeOf Tryz.f74) (Zx.mk x) Zx.re = (Zx.D k).f x := by kernel_rfl
theorem Zx.fit (s : St U) (x : (Zk × Unit × Int)) (h : Zx.un s = some x) : Fits s (Zx.mk x) := by
  unfold Zx.un at h
  split at h
  · obtain ⟨ex2, hex2, hh1⟩ := Option.bind_eq_some_iff.1 h
    obtain ⟨x4, hx4, hh2⟩ := Option.bind_eq_some_iff.1 hh1
    cases hh2
    refine Zgc [(7000000000002, ex2.1)] ?_ ?_ Ybb rfl
    · exact List.forall_mem_cons.2 ⟨FV.one (FV.ptr (by assumption)), List.forall_mem_cons.2 ⟨FV.one (FV.same (by assumption) rfl), List.forall_mem_cons.2 ⟨FV.one (FV.same (by assumption) rfl), List.forall_mem_cons.2 ⟨FV.one (FV.ptr (by assumption)), fun _ hp => (List.not_mem_nil hp).elim⟩⟩⟩⟩
    · exact List.forall_mem_cons.2 ⟨FO.cells (show lk (St.o _) 7000000000000 = some _ from by assumption) (FCs.cons (Zxd rfl rfl) (FCs.cons ((Zef hex2 rfl).1) (FCs.tail (Cd.Znv hx4) rfl))), List.forall_mem_cons.2 ⟨(Zef hex2 rfl).2, fun _ hp => (List.not_mem_nil hp).elim⟩⟩
  · cases h
theorem Zx.Ygd (s : St U) (y : (Int × Zk)) (h : Zx.re s = some y) : Fits s (Zx.fin y) := by
  unfold Zx.re at h
  split at h
  · obtain ⟨ex3, hex3, hh1⟩ := Option.bind_eq_some_iff.1 h
    obtain ⟨x5, hx5, hh2⟩ := Option.bind_eq_some_iff.1 hh1
    cases hh2
    refine Zgc [(7000000000002, ex3.1)] ?_ ?_ Ybb rfl
    · exact List.forall_mem_cons.2 ⟨FV.one (FV.same (by assumption) rfl), List.forall_mem_cons.2 ⟨FV.one (FV.ptr (by assumption)), fun _ hp => (List.not_mem_nil hp).elim⟩⟩
    · exact List.forall_mem_cons.2 ⟨FO.cells (show lk (St.o _) 7000000000000 = some _ from by assumption) (FCs.cons (Zxd rfl rfl) (FCs.cons ((Zef hex3 rfl).1) (FCs.tail (Cd.Znv hx5) rfl))), List.forall_mem_cons.2 ⟨(Zef hex3 rfl).2, fun _ hp => (List.not_mem_nil hp).elim⟩⟩
  · cases h
theorem Zx.sound (k : Nat) : Sound Tryz.prog DD 74 (Zx.D k) :=
  Zsl (E := Zx.E k) (fn := Tryz.f74) (c := codeOf Tryz.f74) (Zx.ok k) mixed rfl Tryz.func74 (by kernel_rfl) (by kernel_rfl) (Zbf (l := []) (by kernel_rfl) Zba) (Zx.D k) Zx.mk Zx.re (by kernel_rfl) (by kernel_rfl) Zx.fit Zx.Ygd (Zx.eq k)
def Zx.pk (k : Nat) : Pk Tryz.prog DD := ⟨74, Zx.D k, Zx.sound k, Zey Tryz.func74 (by kernel_rfl) (by kernel_rfl)⟩
def Zdo.f (k : Nat) (a0 : Zk) (a1 : Int) : Option (Int × Zk) := (Zx.f k (⟨a0.Zbk, a0.f_l, (⟨pack 12 false a0.f_t.Zl, pack 12 0 a0.f_t.Zj⟩ : Zg)⟩ : Zk) () a1).bind fun t1 => (some (t1.1, (⟨t1.2.Zbk, t1.2.f_l, (⟨pack 12 false t1.2.f_t.Zl, pack 12 0 t1.2.f_t.Zj⟩ : Zg)⟩ : Zk)))
def Zdo.i : Lay U (Zk × Int) := (Zph 1000000000000000 7000000000000 (Zhi (Zhc 0 (Zbm 7000000000000 7000000000000)) (Zhc 1 (tAt (Zhb .i64))))).lay (fun _ => by kernel_rfl)
def Zdo.r : Lay U (Int × Zk) := (Zhi (Zhc 0 (tAt (Zhb .i64))) (Zhc 1000000000000000 (Zbm 7000000000000 7000000000000))).lay (fun _ => by kernel_rfl)
def Zdo.pk (k : Nat) : Pk Tryz.prog DD := pkP 34 (Zak Tryz.f34 [Zx.pk k] [] [] [] n0 n0 [0] false n00 nl0 [] nli) Tryz.func34 mixed (al0 (by kernel_rfl)) Zdo.i Zdo.r [0] false (fun x => Zdo.f k (x.1) (x.2)) (fun h => by cases h) fun _ => by kernel_rfl
end
end Go.Proofs.YtbchcjlllddlpaaGreat
