import Derived.Test.YtbchcjlllddlpaaGreatF7
namespace Go.Proofs.YtbchcjlllddlpaaGreat
open Go Go.Ev
noncomputable section
set_option linter.unusedVariables false
set_option linter.unusedSimpArgs false
set_option maxRecDepth 100000
def Zbn.f (k : Nat)  : Option Bool := (Zbw.f k 500 2).bind fun t1 => ((Zbw.f k (-500) 2).bind fun t2 => (anyP ([((0, 0), t1), ((8, 0), t2)] : List ((Int × Int) × Za)) (fun t3 => ((Zay.f k).bind fun t4 => ((Zcx.f k (puts Zcu t3 []) t4 0).bind fun t5 => (cond (t5.2.2.1 == 0) (cond ((List.length t5.1 : Int) == 2) ((some (Zii (Zcu (0, 0)) t5.1)).bind fun t6 => ((some (Option.getD t6 (⟨false, (0, 0), 0⟩ : Za))).bind fun t7 => ((Zbw.f k 500 2).bind fun t8 => (cond ((t7.Zhd == t8.Zhd) && ((t7.f_C.1 == t8.f_C.1) && ((t7.f_C.2 == t8.f_C.2) && (t7.Zm == t8.Zm)))) ((Zbw.f k 0 2).bind fun t9 => (cond ((t5.2.1.Zhd == t9.Zhd) && ((t5.2.1.f_C.1 == t9.f_C.1) && ((t5.2.1.f_C.2 == t9.f_C.2) && (t5.2.1.Zm == t9.Zm)))) (some true) (some false))) (some false))))) (some false)) (some false)))))))
def Zbn.i : Lay U Unit := (Ykc).lay (fun _ => by kernel_rfl)
def Zbn.r : Lay U Bool := (Zhc 0 (tAt Zhh)).lay (fun _ => by kernel_rfl)
def Zbn.D (k : Nat) : Zka U := fdn Zbn.i Zbn.r Tryz.f37.ntmps [] true (fun x => Zbn.f k ) (fun _ _ => rfl)
def Zbn.E (k : Nat) : Env U := mkE Tryz.f37 [Zbw.pk k, Zay.pk k, Zcx.pk k] [] [] [] n0 n0 [] false n00 nl0 [] (fun r => match r with | 1 => some (5, [3, 6]) | _ => none)
theorem Zbn.eq (k : Nat) (x : Unit) : Zpz (Zbn.E k) (codeOf Tryz.f37) (Zbn.i.put x) Zbn.r.un = Zbn.f k  := by kernel_rfl
theorem Zbn.sound (k : Nat) : Sound Tryz.prog DD 37 (Zbn.D k) :=
  funP (E := Zbn.E k) (fn := Tryz.f37) (c := codeOf Tryz.f37) (Zak _ _ _ _ _ _ _ _ _ _ _ _ _) mixed rfl Tryz.func37 (by kernel_rfl) (by kernel_rfl) (Zbf (l := []) (by kernel_rfl) Zba) Zbn.i Zbn.r [] true (fun x => Zbn.f k ) (fun _ _ => rfl) (by kernel_rfl) (Zbn.eq k)
def Zbn.pk (k : Nat) : Pk Tryz.prog DD := ⟨37, Zbn.D k, Zbn.sound k, Zey Tryz.func37 (by kernel_rfl) (by kernel_rfl)⟩
def Zgd.f (k : Nat) (a0 : Zd) (a1 : Bool) : Option (Int × Int) := (((Zeh.f k a0.Zdu).bind fun t1 => (cond (t1 == 4) (some (!a1, a0.Zdu, a0.Zv.Zhd, a0.Zv.f_C.1, a0.Zv.f_C.2, a0.Zv.Zm, a0.Zeg, 0, 0)) (some (false, a0.Zdu, a0.Zv.Zhd, a0.Zv.f_C.1, a0.Zv.f_C.2, a0.Zv.Zm, a0.Zeg, 0, 0)))) : Option (Bool × Int × Bool × Int × Int × Int × Int × Int × Int)).bind fun y11 => (cond (y11.1) ((Zfe.f k).bind fun t12 => (some (t12, 0))) (some (y11.2.1, IntKind.wrap .i64 (y11.2.2.2.2.2.2.1 + 1))))
def Zgd.i : Lay U (Zd × Bool) := (Zhi (Zhc 0 (tAt (vCd Ydf))) (Zhc 1 (tAt Zhh))).lay (fun _ => by kernel_rfl)
def Zgd.r : Lay U (Int × Int) := (Zhc 0 (tAt (vCd (Cd.pair (Cd.int .i64) (Cd.int .i64))))).lay (fun _ => by kernel_rfl)
def Zgd.Zig : Jk U := ⟨(Bool × Int × Bool × Int × Int × Int × Int × Int × Int), Zht (lay [(2, Zhe 2 0), (4, Zhe 4 0), (12, sAt Zhh)] [Zhq 2 [(Zhb .i64), Zhh, (Zhb .u64), (Zhb .u64), (Zhb .i64), (Zhb .i64)], Zhq 4 [(Zhb .i64), (Zhb .i64)]] (fun _ => by kernel_rfl))⟩
def Zgd.pk (k : Nat) : Pk Tryz.prog DD := pkP 58 (Zak Tryz.f58 [Zeh.pk k, Zfe.pk k] [(1000, Zgd.Zig)] [] [] n0 n0 [] false n00 nl0 [] nli) Tryz.func58 mixed (al0 (by kernel_rfl)) Zgd.i Zgd.r [] true (fun x => Zgd.f k (x.1) (x.2)) (fun _ _ => rfl) fun _ => by kernel_rfl
def Zei.f (k : Nat) (a0 : Int) (a1 : Int) : Option Bool := cond (decide (a0 ≥ 0)) (cond (decide (a0 ≤ 9)) (cond (decide (a1 ≥ 0)) (some (decide (a1 ≤ 4))) (some false)) (some false)) (some false)
def Zei.i : Lay U (Int × Int) := (Zhi (Zhc 0 (tAt (Zhb .i64))) (Zhc 1 (tAt (Zhb .i64)))).lay (fun _ => by kernel_rfl)
def Zei.r : Lay U Bool := (Zhc 0 (tAt Zhh)).lay (fun _ => by kernel_rfl)
def Zei.pk (k : Nat) : Pk Tryz.prog DD := pkP 137 (Zak Tryz.f137 [] [] [] [] n0 n0 [] false n00 nl0 [] nli) Tryz.func137 mixed (al0 (by kernel_rfl)) Zei.i Zei.r [] true (fun x => Zei.f k (x.1) (x.2)) (fun _ _ => rfl) fun _ => by kernel_rfl
def Zdk.f (k : Nat) (a0 : Bool) (a1 : List Int) (a2 : List Int) (a3 : Int) : Option (List Int) := (Zaf.f k a1 a2).bind fun t1 => ((Zam.f k t1.2 t1.2).bind fun t2 => ((Zao.f k t2 a2).bind fun t3 => (((cond (a3 == 1) (some (t1.1, decide ((List.length t1.2 : Int) > 0))) (cond (a3 == 2) (cond (a0) (some (t1.1, decide ((List.length t1.2 : Int) > 0))) (some (t1.1, false))) (cond (a3 == 3) (some (t1.1, decide (t3 ≥ 0))) (cond (a3 == 4) (cond (decide (t3 > 0)) (some (t1.1, true)) (cond (t3 == 0) ((Zcf.f k t1.1 0).bind fun t6 => (some (t1.1, (Int.tmod t6 2) == 1))) (some (t1.1, false)))) (some (t1.1, false)))))) : Option (List Int × Bool)).bind fun y7 => (cond (y7.2) ((Zam.f k y7.1 [1]).bind fun t8 => (some t8)) (some y7.1)))))
def Zdk.i : Lay U (Bool × List Int × List Int × Int) := (Zhi (Zhc 0 (tAt Zhh)) (Zhi (Zhc 1 (tAt (Zhl DD C.i64))) (Zhi (Zhc 2 (tAt (Zhl DD C.i64))) (Zhc 3 (tAt (Zhb .i64)))))).lay (fun _ => by kernel_rfl)
def Zdk.r : Lay U (List Int) := (Zhc 0 (tAt (Zhl DD C.i64))).lay (fun _ => by kernel_rfl)
def Zdk.j5001 : Jk U := ⟨(List Int × Bool), Zht (lay [(9, sAt (Zhl DD C.i64)), (12, sAt Zhh)] [] (fun _ => by kernel_rfl))⟩
def Zdk.pk (k : Nat) : Pk Tryz.prog DD := pkP 138 (Zak Tryz.f138 [Zaf.pk k, Zam.pk k, Zao.pk k, Zcf.pk k] [(5001, Zdk.j5001)] [] [] n0 n0 [] false n00 nl0 [] nli) Tryz.func138 mixed (al0 (by kernel_rfl)) Zdk.i Zdk.r [] true (fun x => Zdk.f k (x.1) (x.2.1) (x.2.2.1) (x.2.2.2)) (fun _ _ => rfl) fun _ => by kernel_rfl
def Zdr.f (k : Nat) (a0 : Za) (a1 : Za) (a2 : Int) (a3 : Int) : Option (Za × Int) := (((Zav.f k a0).bind fun t1 => (cond (!t1) (some (a2, a3, true, a0.Zhd, a0.f_C.1, a0.f_C.2, a0.Zm, a1.Zhd, a1.f_C.1, a1.f_C.2, a1.Zm, false, 0, 0, 0)) ((Zav.f k a1).bind fun t17 => (cond (!t17) (some (a2, a3, true, a0.Zhd, a0.f_C.1, a0.f_C.2, a0.Zm, a1.Zhd, a1.f_C.1, a1.f_C.2, a1.Zm, false, 0, 0, 0)) ((Zei.f k a2 a3).bind fun t18 => (some (a2, a3, !t18, a0.Zhd, a0.f_C.1, a0.f_C.2, a0.Zm, a1.Zhd, a1.f_C.1, a1.f_C.2, a1.Zm, false, 0, 0, 0))))))) : Option (Int × Int × Bool × Bool × Int × Int × Int × Bool × Int × Int × Int × Bool × Int × Int × Int)).bind fun y19 => (cond (y19.2.2.1) (some ((⟨false, (0, 0), 0⟩ : Za), 1)) ((Zdb.f k (y19.2.2.2.2.1, y19.2.2.2.2.2.1)).bind fun t20 => ((Zdb.f k (y19.2.2.2.2.2.2.2.2.1, y19.2.2.2.2.2.2.2.2.2.1)).bind fun t21 => ((Zad.f k t20 t21).bind fun t22 => ((Zde.f k y19.1).bind fun t23 => ((Zad.f k t22 t23).bind fun t24 => ((Zde.f k (IntKind.wrap .i64 (y19.2.2.2.2.2.2.1 + y19.2.2.2.2.2.2.2.2.2.2.1))).bind fun t25 => ((Zdk.f k (!(y19.2.2.2.1 == y19.2.2.2.2.2.2.2.1)) t24 t25 y19.2.1).bind fun t26 => ((Zct.f k (!(y19.2.2.2.1 == y19.2.2.2.2.2.2.2.1)) t26 y19.1).bind fun t27 => (some (t27.1, t27.2)))))))))))
def Zdr.i : Lay U (Za × Za × Int × Int) := (Zhi (Zhc 0 (tAt (vCd Zau))) (Zhi (Zhc 1 (tAt (vCd Zau))) (Zhi (Zhc 2 (tAt (Zhb .i64))) (Zhc 3 (tAt (Zhb .i64)))))).lay (fun _ => by kernel_rfl)
def Zdr.r : Lay U (Za × Int) := (Ziq 0 (Zhz (tAt (vCd Zau)) (Zin (tAt (Zhb .i64))))).lay (fun _ => by kernel_rfl)
def Zdr.Zig : Jk U := ⟨(Int × Int × Bool × Bool × Int × Int × Int × Bool × Int × Int × Int × Bool × Int × Int × Int), Zht (lay [(4, Zhe 4 0), (5, Zhe 5 0), (8, Zhe 8 0), (2, sAt (Zhb .i64)), (3, sAt (Zhb .i64)), (24, sAt Zhh)] [Zhq 4 [Zhh, (Zhb .u64), (Zhb .u64), (Zhb .i64)], Zhq 5 [Zhh, (Zhb .u64), (Zhb .u64), (Zhb .i64)], Zhq 8 [Zhh, (Zhb .u64), (Zhb .u64), (Zhb .i64)]] (fun _ => by kernel_rfl))⟩
def Zdr.pk (k : Nat) : Pk Tryz.prog DD := pkP 95 (Zak Tryz.f95 [Zav.pk k, Zei.pk k, Zdb.pk k, Zad.pk k, Zde.pk k, Zdk.pk k, Zct.pk k] [(1000, Zdr.Zig)] [] [] n0 n0 [] false n00 nl0 [] nli) Tryz.func95 mixed (al0 (by kernel_rfl)) Zdr.i Zdr.r [] true (fun x => Zdr.f k (x.1) (x.2.1) (x.2.2.1) (x.2.2.2)) (fun _ _ => rfl) fun _ => by kernel_rfl
def Zew.f (k : Nat) (a0 : (Int × Int)) (a1 : (Int × Int)) : Option Bool := cond (decide (a0.1 < a1.1)) (some true) (cond (a0.1 == a1.1) (some (decide (a0.2 < a1.2))) (some false))
def Zew.i : Lay U ((Int × Int) × (Int × Int)) := (Zhi (Zhc 0 (tAt (vCd (Cd.pair (Cd.int .i64) (Cd.int .i64))))) (Zhc 1 (tAt (vCd (Cd.pair (Cd.int .i64) (Cd.int .i64)))))).lay (fun _ => by kernel_rfl)
def Zew.r : Lay U Bool := (Zhc 0 (tAt Zhh)).lay (fun _ => by kernel_rfl)
def Zew.pk (k : Nat) : Pk Tryz.prog DD := pkP 134 (Zak Tryz.f134 [] [] [] [] n0 n0 [] false n00 nl0 [] nli) Tryz.func134 mixed (al0 (by kernel_rfl)) Zew.i Zew.r [] true (fun x => Zew.f k (x.1) (x.2)) (fun _ _ => rfl) fun _ => by kernel_rfl
def Zdg.f (k : Nat) (a0 : Zk) : Option (Zg × Zk) := some ((⟨pack 12 false a0.f_t.Zl, pack 12 0 a0.f_t.Zj⟩ : Zg), (⟨a0.Zbk, a0.f_l, (⟨pack 12 false a0.f_t.Zl, pack 12 0 a0.f_t.Zj⟩ : Zg)⟩ : Zk))
def Zdg.i : Lay U Zk := (Zph 1000000000000000 7000000000000 (Zhc 0 (Zbm 7000000000000 7000000000000))).lay (fun _ => by kernel_rfl)
def Zdg.r : Lay U (Zg × Zk) := (Zhi (Zhc 0 (tAt (vCd Zal))) (Zhc 1000000000000000 (Zbm 7000000000000 7000000000000))).lay (fun _ => by kernel_rfl)
def Zdg.pk (k : Nat) : Pk Tryz.prog DD := pkP 30 (Zak Tryz.f30 [] [] [] [] n0 n0 [0] false n00 nl0 [] nli) Tryz.func30 mixed (al0 (by kernel_rfl)) Zdg.i Zdg.r [0] false (fun x => Zdg.f k (x)) (fun h => by cases h) fun _ => by kernel_rfl
def Zr.f (k : Nat) (a0 : List Ze) : Option (List Ze) := cond (Zje (List.length ([] : List Ze) + List.length a0) 40) (some (([] : List Ze) ++ a0)) none
def Zr.un (s : St U) : Option (List Ze) := match s.get 0 with | .row C.Ze x1 => some x1 | _ => none
def Zr.mk (x : List Ze) : St U := ⟨[(0, .row C.Ze x)], []⟩
def Zr.fin (y : List Ze) : St U := ⟨[(0, .row C.Ze y)], []⟩
def Zr.D (k : Nat) : Zka U := { X := List Ze, Y := List Ze, nt := 8, gh := [], un := Zr.un, f := fun x => Zr.f k (x), fin := Zr.fin, cl := true, clo := fun _ _ => rfl }
def Zr.re (s : St U) : Option (List Ze) := match s.get 0 with | .row C.Ze x1 => some x1 | _ => none
def Zr.jl : List (Nat × JDen U) := []
def Zr.fl (k : Nat) : List (Nat × Zka U) := []
def Zr.ll (k : Nat) : List (Nat × Zvv U) := []
def Zr.E (k : Nat) : Env U := { P := Tryz.prog, D := DD, fd := lk (Zr.fl k), sf := lk sl0, ld := lk (Zr.ll k), jd := lk Zr.jl, mode := lk [], elc := lk ec, mpc := lk mc, rts := Tryz.f111.resultTypes.toList, dyn := fun t => false, Zuk := fun d => false, results := Tryz.f111.results.toList, gh := [], own := false, io := fun g i => false, lds := nl0, fn := lk [] }
theorem Zr.ok (k : Nat) : Zic (Zr.E k) := Ycp lawful (Zr.fl k) sl0 (Zr.ll k) Zr.jl _ _ _ _ _ _ _ _ _ _ _ [] (fun _ => none) (by
  intro p hp
  simp [Zr.fl] at hp) Zuu (by
  intro p hp
  simp [Zr.jl] at hp) (fun _ h => (List.not_mem_nil h).elim)
theorem Zr.Ygd (s : St U) (y : List Ze) (h : Zr.re s = some y) : Fits s (Zr.fin y) := by
  unfold Zr.re at h
  split at h
  · cases h
    refine Zgc [] ?_ ?_ Zpd rfl
    · exact List.forall_mem_cons.2 ⟨FV.one (FV.same (by assumption) rfl), fun _ hp => (List.not_mem_nil hp).elim⟩
    · exact fun _ hp => (List.not_mem_nil hp).elim
  · cases h
def Zr.mkn (g : Bool) (x : List Ze) : St U := ⟨[(0, .Zth g C.Ze x)], []⟩
theorem Zr.eq (k : Nat) (x : List Ze) : Zpz (Zr.E k) (codeOf Tryz.f111) (Zr.mkn true x) Zr.re = (Zr.D k).f x := by kernel_rfl
theorem Zr.eqN (k : Nat) : Zpz (Zr.E k) (codeOf Tryz.f111) (Zr.mkn false []) Zr.re = (Zr.D k).f [] := by kernel_rfl
theorem Zr.sound (k : Nat) : Sound Tryz.prog DD 111 (Zr.D k) :=
  Zre (E := Zr.E k) (fn := Tryz.f111) (c := codeOf Tryz.f111) (Zr.ok k) mixed rfl Tryz.func111 (by kernel_rfl) (by kernel_rfl) (Zbf (l := []) (by kernel_rfl) Zba) C.Ze (Zr.D k) Zr.mkn (fun x => x) Zr.re (by kernel_rfl) (by kernel_rfl)
    (by intro m x h; replace h : Zr.un m = some x := h; unfold Zr.un at h; split at h; · cases h; assumption
        · cases h)
    (fun _ _ => rfl) Zr.Ygd (Zr.eq k) (by intro x h; replace h : x = [] := h; subst h; exact Zr.eqN k)
def Zr.pk (k : Nat) : Pk Tryz.prog DD := ⟨111, Zr.D k, Zr.sound k, Zey Tryz.func111 (by kernel_rfl) (by kernel_rfl)⟩
def Zek.f (k : Nat) (a0 : List Ze) : Option (List Ze) := cond (decide ((List.length a0 : Int) = (List.length a0 : Int)) && inS 0 (List.length a0 : Int) (List.length a0)) (some (List.take (Int.toNat (List.length a0 : Int)) a0)) none
def Zek.i : Lay U (List Ze) := (Zhc 0 (tAt (Zhl DD C.Ze))).lay (fun _ => by kernel_rfl)
def Zek.r : Lay U (List Ze) := (Zhc 0 (tAt (Zhl DD C.Ze))).lay (fun _ => by kernel_rfl)
def Zek.pk (k : Nat) : Pk Tryz.prog DD := pkP 110 (Zak Tryz.f110 [] [] [] [] n0 n0 [] false n00 nl0 [] nli) Tryz.func110 mixed (al0 (by kernel_rfl)) Zek.i Zek.r [] true (fun x => Zek.f k (x)) (fun _ _ => rfl) fun _ => by kernel_rfl
def Zdh.f (k : Nat) (a0 : List Zd) : Option (List Zd) := cond (decide ((List.length a0 : Int) = (List.length a0 : Int)) && inS 0 (List.length a0 : Int) (List.length a0)) (some (List.take (Int.toNat (List.length a0 : Int)) a0)) none
def Zdh.i : Lay U (List Zd) := (Zhc 0 (tAt (Zhl DD C.Zd))).lay (fun _ => by kernel_rfl)
def Zdh.r : Lay U (List Zd) := (Zhc 0 (tAt (Zhl DD C.Zd))).lay (fun _ => by kernel_rfl)
def Zdh.pk (k : Nat) : Pk Tryz.prog DD := pkP 112 (Zak Tryz.f112 [] [] [] [] n0 n0 [] false n00 nl0 [] nli) Tryz.func112 mixed (al0 (by kernel_rfl)) Zdh.i Zdh.r [] true (fun x => Zdh.f k (x)) (fun _ _ => rfl) fun _ => by kernel_rfl
def Zn.f (k : Nat) (a0 : List Ze) : Option (List Ze) := cond (Zje (List.length ([] : List Ze) + List.length a0) 40) (some (([] : List Ze) ++ a0)) none
def Zn.un (s : St U) : Option (List Ze) := match s.get 0 with | .row C.Ze x1 => some x1 | _ => none
def Zn.mk (x : List Ze) : St U := ⟨[(0, .row C.Ze x)], []⟩
def Zn.fin (y : List Ze) : St U := ⟨[(0, .vs 6000000000000)], [(6000000000000, .vec C.Ze y)]⟩
def Zn.D (k : Nat) : Zka U := { X := List Ze, Y := List Ze, nt := 8, gh := [], un := Zn.un, f := fun x => Zn.f k (x), fin := Zn.fin, cl := false, clo := fun h => by cases h }
def Zn.re (s : St U) : Option (List Ze) := (Zpw s.o (s.get 0)).bind fun ex1 => (some ex1.2)
def Zn.jl : List (Nat × JDen U) := []
def Zn.fl (k : Nat) : List (Nat × Zka U) := []
def Zn.ll (k : Nat) : List (Nat × Zvv U) := []
def Zn.E (k : Nat) : Env U := { P := Tryz.prog, D := DD, fd := lk (Zn.fl k), sf := lk sl0, ld := lk (Zn.ll k), jd := lk Zn.jl, mode := lk [], elc := lk ec, mpc := lk mc, rts := Tryz.f111.resultTypes.toList, dyn := fun t => false, Zuk := fun d => Nat.beq d 5, results := Tryz.f111.results.toList, gh := [], own := true, io := fun g i => false, lds := nl0, fn := lk [] }
theorem Zn.ok (k : Nat) : Zic (Zn.E k) := Ycp lawful (Zn.fl k) sl0 (Zn.ll k) Zn.jl _ _ _ _ _ _ _ _ _ _ _ [] (fun _ => none) (by
  intro p hp
  simp [Zn.fl] at hp) Zuu (by
  intro p hp
  simp [Zn.jl] at hp) (fun _ h => (List.not_mem_nil h).elim)
theorem Zn.Ygd (s : St U) (y : List Ze) (h : Zn.re s = some y) : Fits s (Zn.fin y) := by
  unfold Zn.re at h
  obtain ⟨ex1, hex1, hh1⟩ := Option.bind_eq_some_iff.1 h
  cases hh1
  refine Zgc [(6000000000000, ex1.1)] ?_ ?_ Ybb rfl
  · exact List.forall_mem_cons.2 ⟨FV.one ((Zpv hex1 rfl).1), fun _ hp => (List.not_mem_nil hp).elim⟩
  · exact List.forall_mem_cons.2 ⟨(Zpv hex1 rfl).2, fun _ hp => (List.not_mem_nil hp).elim⟩
def Zn.mkn (g : Bool) (x : List Ze) : St U := ⟨[(0, .Zth g C.Ze x)], []⟩
theorem Zn.eq (k : Nat) (x : List Ze) : Zpz (Zn.E k) (codeOf Tryz.f111) (Zn.mkn true x) Zn.re = (Zn.D k).f x := by kernel_rfl
theorem Zn.eqN (k : Nat) : Zpz (Zn.E k) (codeOf Tryz.f111) (Zn.mkn false []) Zn.re = (Zn.D k).f [] := by kernel_rfl
theorem Zn.sound (k : Nat) : Sound Tryz.prog DD 111 (Zn.D k) :=
  Zre (E := Zn.E k) (fn := Tryz.f111) (c := codeOf Tryz.f111) (Zn.ok k) mixed rfl Tryz.func111 (by kernel_rfl) (by kernel_rfl) (Zbf (l := []) (by kernel_rfl) Zba) C.Ze (Zn.D k) Zn.mkn (fun x => x) Zn.re (by kernel_rfl) (by kernel_rfl)
    (by intro m x h; replace h : Zn.un m = some x := h; unfold Zn.un at h; split at h; · cases h; assumption
        · cases h)
    (fun _ _ => rfl) Zn.Ygd (Zn.eq k) (by intro x h; replace h : x = [] := h; subst h; exact Zn.eqN k)
def Zn.pk (k : Nat) : Pk Tryz.prog DD := ⟨111, Zn.D k, Zn.sound k, Zey Tryz.func111 (by kernel_rfl) (by kernel_rfl)⟩
def Zcc.f (k : Nat) (a0 : List Ze) : Option (List Ze) := cond (decide ((List.length a0 : Int) = (List.length a0 : Int)) && decide ((List.length a0 : Int) = (List.length a0 : Int))) (some a0) none
def Zcc.i : Lay U (List Ze) := (Zhc 0 (tAt (Zox DD 7000000000000 C.Ze))).lay (fun _ => by kernel_rfl)
def Zcc.r : Lay U (List Ze) := (Zhc 0 (tAt (Zox DD 6000000000000 C.Ze))).lay (fun _ => by kernel_rfl)
def Zcc.pk (k : Nat) : Pk Tryz.prog DD := pkP 110 (Zak Tryz.f110 [] [] [] [] n0 n0 [] true n00 nl0 [] nli) Tryz.func110 mixed (al0 (by kernel_rfl)) Zcc.i Zcc.r [] false (fun x => Zcc.f k (x)) (fun h => by cases h) fun _ => by kernel_rfl
def Zaj.l5.once (k : Nat) (x : (Int × Int × List Ze × Int × List Ze × Zg)) : Option ((Int × Int × List Ze × Int × List Ze × Zg) ⊕ ((List Ze × Int × List Ze × Zg))) := match x with | (x4, x5, x3, x6, x7, x32) => cond (decide (x5 < x4)) (cond (inb x5 (List.length x3)) (cond (Nat.blt (Int.toNat x5) (List.length x3)) ((Zp.f k ((List.getD x3 (Int.toNat x5) Ze.zero).Zcr)).bind fun t33 => ((Zdh.f k t33).bind fun t34 => (cond (inb x5 (List.length x3)) (cond (Nat.blt (Int.toNat x5) (List.length x3)) (some (.inl (x4, IntKind.wrap .i64 (x5 + 1), List.set x3 (Int.toNat x5) (⟨(List.getD x3 (Int.toNat x5) Ze.zero).Zbi, t34, (List.getD x3 (Int.toNat x5) Ze.zero).Zjn⟩ : Ze), x6, x7, (⟨pack 12 false x32.Zl, pack 12 0 x32.Zj⟩ : Zg)))) none) none))) none) none) (some (.inr (x3, x6, x7, (⟨pack 12 false x32.Zl, pack 12 0 x32.Zj⟩ : Zg))))
def Zaj.f (k : Nat) (a0 : Zk) : Option (List Ze × Zk) := (Zn.f k a0.f_l).bind fun t1 => ((Zcc.f k t1).bind fun t2 => ((iter (Zaj.l5.once k) k ((List.length t2 : Int), 0, t2, a0.Zbk, a0.f_l, (⟨pack 12 false a0.f_t.Zl, pack 12 0 a0.f_t.Zj⟩ : Zg))).bind fun y63 => (some (y63.1, (⟨y63.2.1, y63.2.2.1, (⟨pack 12 false y63.2.2.2.Zl, pack 12 0 y63.2.2.2.Zj⟩ : Zg)⟩ : Zk)))))
def Zaj.i : Lay U Zk := (Zph 1000000000000000 7000000000000 (Zhc 0 (Zbm 7000000000000 7000000000000))).lay (fun _ => by kernel_rfl)
def Zaj.r : Lay U (List Ze × Zk) := (Zhi (Zhc 0 (tAt (Zhl DD C.Ze))) (Zhc 1000000000000000 (Zbm 7000000000000 7000000000000))).lay (fun _ => by kernel_rfl)
def Zaj.l5.i : Lay U (Int × Int × List Ze × Int × List Ze × Zg) := ((Zis (Zno [(1000000000000000, Zhe 7000000000000 0), (3, sAt (Zox DD 1005003 C.Ze)), (14, sAt (Zhb .i64)), (15, sAt (Zhb .i64))] [Ziw 7000000000000 [(Zhb .i64), (Zik DD 700002000500001 C.Ze 3)] Zal]) (fun x => ((x.2.1, x.2.2.1, x.1, x.2.2.2.1, x.2.2.2.2.1, x.2.2.2.2.2) : (Int × Int × List Ze × Int × List Ze × Zg))) (fun x => (x.2.2.1, x.1, x.2.1, x.2.2.2.1, x.2.2.2.2.1, x.2.2.2.2.2)) (fun _ => rfl)).lay (fun _ => by kernel_rfl))
def Zaj.l5.o : Zjc U ((List Ze × Int × List Ze × Zg)) := Zil 0 (lay [(1000000000000000, Zhe 7000000000000 0), (3, sAt (Zox DD 1005003 C.Ze))] [Ziw 7000000000000 [(Zhb .i64), (Zik DD 700002000500001 C.Ze 3)] Zal] (fun _ => by kernel_rfl))
def Zaj.E (k : Nat) : Env U := mkE Tryz.f57 [Zn.pk k, Zcc.pk k, Zp.pk k, Zdh.pk k] [] [(5, ldn Zaj.l5.i Zaj.l5.o (iter (Zaj.l5.once k) k))] [] n0 (fun d => Nat.beq d 11 || Nat.beq d 12) [0] false (fun g i => (Nat.beq g 110 && Nat.beq i 0)) nl0 [] nli
theorem Zaj.l5.sound (k : Nat) : Zhu (Zaj.E k) Tryz.f57.ntmps Tryz.f57 (.loop (Zhj Tryz.f57 5)) (ldn Zaj.l5.i Zaj.l5.o (iter (Zaj.l5.once k) k)) :=
  Zim (Zak _ _ _ _ _ _ _ _ _ _ _ _ _) mixed rfl (by kernel_rfl) (Zbf (l := []) (by kernel_rfl) Zba) Zaj.l5.i Zaj.l5.o (Zaj.l5.once k) k (fun _ => by kernel_rfl)
def Zaj.pk (k : Nat) : Pk Tryz.prog DD := pkP (E := Zaj.E k) 57 (Zak _ _ _ _ _ _ _ _ _ _ _ _ _) Tryz.func57 mixed (Zbf (l := [.loop (Zhj Tryz.f57 5)]) (by kernel_rfl) (Zbv (key := 5) (by kernel_rfl) rfl (Zaj.l5.sound k) Zba)) Zaj.i Zaj.r [0] false (fun x => Zaj.f k (x)) (fun h => by cases h) fun _ => by kernel_rfl
def Zee.f (k : Nat) (a0 : Zk) : Option (Int × Zk) := some (a0.Zbk, (⟨a0.Zbk, a0.f_l, (⟨pack 12 false a0.f_t.Zl, pack 12 0 a0.f_t.Zj⟩ : Zg)⟩ : Zk))
def Zee.i : Lay U Zk := (Zph 1000000000000000 7000000000000 (Zhc 0 (Zbm 7000000000000 7000000000000))).lay (fun _ => by kernel_rfl)
def Zee.r : Lay U (Int × Zk) := (Zhi (Zhc 0 (tAt (Zhb .i64))) (Zhc 1000000000000000 (Zbm 7000000000000 7000000000000))).lay (fun _ => by kernel_rfl)
def Zee.pk (k : Nat) : Pk Tryz.prog DD := pkP 61 (Zak Tryz.f61 [] [] [] [] n0 n0 [0] false n00 nl0 [] nli) Tryz.func61 mixed (al0 (by kernel_rfl)) Zee.i Zee.r [0] false (fun x => Zee.f k (x)) (fun h => by cases h) fun _ => by kernel_rfl
end
end Go.Proofs.YtbchcjlllddlpaaGreat
