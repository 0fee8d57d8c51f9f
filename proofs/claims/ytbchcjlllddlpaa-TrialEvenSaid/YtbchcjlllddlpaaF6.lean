import Derived.Test.YtbchcjlllddlpaaF5
namespace Go.Proofs.Ytbchcjlllddlpaa
open Go Go.Ev
noncomputable section
set_option linter.unusedVariables false
set_option linter.unusedSimpArgs false
set_option maxRecDepth 100000
def Zel.f (k : Nat) (a0 : Zi) (a1 : Zi) : Option (Zi × Int) := (((Zcm.f k (⟨a0.Wbe, (a0.f_C.1, a0.f_C.2), a0.Zu⟩ : Zi)).bind fun t1 => (cond (!t1) (some (true, a0.Wbe, a0.f_C.1, a0.f_C.2, a0.Zu, a1.Wbe, a1.f_C.1, a1.f_C.2, a1.Zu, false, 0, 0, 0)) ((Zcm.f k (⟨a1.Wbe, (a1.f_C.1, a1.f_C.2), a1.Zu⟩ : Zi)).bind fun t15 => (some (!t15, a0.Wbe, a0.f_C.1, a0.f_C.2, a0.Zu, a1.Wbe, a1.f_C.1, a1.f_C.2, a1.Zu, false, 0, 0, 0))))) : Option (Bool × Bool × Int × Int × Int × Bool × Int × Int × Int × Bool × Int × Int × Int)).bind fun y16 => (cond (y16.1) (some ((⟨false, (0, 0), 0⟩ : Zi), 1)) ((Zez.f k (⟨y16.2.1, (y16.2.2.1, y16.2.2.2.1), y16.2.2.2.2.1⟩ : Zi) (if y16.2.2.2.2.2.2.2.2.1 > y16.2.2.2.2.1 then y16.2.2.2.2.2.2.2.2.1 else y16.2.2.2.2.1)).bind fun t17 => ((Zez.f k (⟨y16.2.2.2.2.2.1, (y16.2.2.2.2.2.2.1, y16.2.2.2.2.2.2.2.1), y16.2.2.2.2.2.2.2.2.1⟩ : Zi) (if y16.2.2.2.2.2.2.2.2.1 > y16.2.2.2.2.1 then y16.2.2.2.2.2.2.2.2.1 else y16.2.2.2.2.1)).bind fun t18 => (cond (y16.2.1 == y16.2.2.2.2.2.1) ((Zeu.f k (t17.1, t17.2.1, t17.2.2.1, t17.2.2.2) (t18.1, t18.2.1, t18.2.2.1, t18.2.2.2)).bind fun t19 => ((Zds.f k y16.2.1 (t19.1, t19.2.1, t19.2.2.1, t19.2.2.2) (if y16.2.2.2.2.2.2.2.2.1 > y16.2.2.2.2.1 then y16.2.2.2.2.2.2.2.2.1 else y16.2.2.2.2.1)).bind fun t20 => (some ((⟨t20.1.Wbe, (t20.1.f_C.1, t20.1.f_C.2), t20.1.Zu⟩ : Zi), t20.2)))) ((Zby.f k (t17.1, t17.2.1, t17.2.2.1, t17.2.2.2) (t18.1, t18.2.1, t18.2.2.1, t18.2.2.2)).bind fun t21 => (cond (decide (t21 ≥ 0)) ((Zeh.f k (t17.1, t17.2.1, t17.2.2.1, t17.2.2.2) (t18.1, t18.2.1, t18.2.2.1, t18.2.2.2)).bind fun t22 => ((Zds.f k y16.2.1 (t22.1, t22.2.1, t22.2.2.1, t22.2.2.2) (if y16.2.2.2.2.2.2.2.2.1 > y16.2.2.2.2.1 then y16.2.2.2.2.2.2.2.2.1 else y16.2.2.2.2.1)).bind fun t23 => (some ((⟨t23.1.Wbe, (t23.1.f_C.1, t23.1.f_C.2), t23.1.Zu⟩ : Zi), t23.2)))) ((Zeh.f k (t18.1, t18.2.1, t18.2.2.1, t18.2.2.2) (t17.1, t17.2.1, t17.2.2.1, t17.2.2.2)).bind fun t24 => ((Zds.f k y16.2.2.2.2.2.1 (t24.1, t24.2.1, t24.2.2.1, t24.2.2.2) (if y16.2.2.2.2.2.2.2.2.1 > y16.2.2.2.2.1 then y16.2.2.2.2.2.2.2.2.1 else y16.2.2.2.2.1)).bind fun t25 => (some ((⟨t25.1.Wbe, (t25.1.f_C.1, t25.1.f_C.2), t25.1.Zu⟩ : Zi), t25.2))))))))))
def Zel.i : Lay U (Zi × Zi) := (Wbq (Wbd 0 (tAt (vCd Zbn))) (Wbd 1 (tAt (vCd Zbn)))).lay (fun _ => by kernel_rfl)
def Zel.r : Lay U (Zi × Int) := (Wfa 0 (Wdi (tAt (vCd Zbn)) (Wes (tAt (Waz .i64))))).lay (fun _ => by kernel_rfl)
def Zel.Wdb : Jk U := ⟨(Bool × Bool × Int × Int × Int × Bool × Int × Int × Int × Bool × Int × Int × Int), Wcb (lay [(2, Wbi 2 0), (3, Wbi 3 0), (4, Wbi 4 0), (16, sAt Wbh)] [Wcw 2 [Wbh, (Waz .u64), (Waz .u64), (Waz .i64)], Wcw 3 [Wbh, (Waz .u64), (Waz .u64), (Waz .i64)], Wcw 4 [Wbh, (Waz .u64), (Waz .u64), (Waz .i64)]] (fun _ => by kernel_rfl))⟩
def Zel.pk (k : Nat) : Pk Try.prog DD := pkP 13 (Zap Try.f13 [Zcm.pk k, Zez.pk k, Zeu.pk k, Zds.pk k, Zby.pk k, Zeh.pk k] [(1000, Zel.Wdb)] [] [] n0 n0 [] false n00 nl0 [] nli) Try.func13 mixed (al0 (by kernel_rfl)) Zel.i Zel.r [] true (fun x => Zel.f k (x.1) (x.2)) (fun _ _ => rfl) fun _ => by kernel_rfl
def Zae.l4.once (k : Nat) (x : (List Zd × Int × List Zd × Int × Int)) : Option ((List Zd × Int × List Zd × Int × Int) ⊕ ((List Zd × Int) ⊕ Int)) := match x with | (x5, x6, x7, x8, x9) => cond (decide (x9 < x8)) (cond (inb x9 (List.length x7)) ((Zbo.f k (⟨(List.getD x7 (Int.toNat x9) Zd.zero).Zde, (⟨((List.getD x7 (Int.toNat x9) Zd.zero).Zq).Wbe, ((((List.getD x7 (Int.toNat x9) Zd.zero).Zq).f_C).1, (((List.getD x7 (Int.toNat x9) Zd.zero).Zq).f_C).2), ((List.getD x7 (Int.toNat x9) Zd.zero).Zq).Zu⟩ : Zi), (List.getD x7 (Int.toNat x9) Zd.zero).Zdo⟩ : Zd) x6).bind fun t10 => (cond (!t10) (some (.inr (.inr 1))) (some (.inl (x5, x6, x7, x8, IntKind.wrap .i64 (x9 + 1)))))) none) (some (.inr (.inl (x5, x6))))
def Zae.l11.once (k : Nat) (x : (List Zd × Int × Int × Bool × Int × Int × Int)) : Option ((List Zd × Int × Int × Bool × Int × Int × Int) ⊕ ((Bool × Int × Int × Int) ⊕ Int)) := match x with | (x20, x21, x22, x16, x17, x18, x19) => cond (decide (x22 < x21)) (cond (inb x22 (List.length x20)) ((Zel.f k (⟨x16, (x17, x18), x19⟩ : Zi) (⟨((List.getD x20 (Int.toNat x22) Zd.zero).Zq).Wbe, ((((List.getD x20 (Int.toNat x22) Zd.zero).Zq).f_C).1, (((List.getD x20 (Int.toNat x22) Zd.zero).Zq).f_C).2), ((List.getD x20 (Int.toNat x22) Zd.zero).Zq).Zu⟩ : Zi)).bind fun t23 => (cond (t23.2 != 0) (some (.inr (.inr t23.2))) (some (.inl (x20, x21, IntKind.wrap .i64 (x22 + 1), t23.1.Wbe, t23.1.f_C.1, t23.1.f_C.2, t23.1.Zu))))) none) (some (.inr (.inl (x16, x17, x18, x19))))
def Zae.f (k : Nat) (a0 : List Zd) (a1 : Int) : Option Int := ((cond ((List.length a0 : Int) == 0) (some (a0, a1, true)) (some (a0, a1, decide ((List.length a0 : Int) > 8)))) : Option (List Zd × Int × Bool)).bind fun y4 => (cond (y4.2.2) (some 1) ((iter (Zae.l4.once k) k (y4.1, y4.2.1, y4.1, (List.length y4.1 : Int), 0)).bind fun | .inl y14 => ((Wgo.f k 0 y14.2).bind fun t15 => ((iter (Zae.l11.once k) k (y14.1, (List.length y14.1 : Int), 0, t15.Wbe, t15.f_C.1, t15.f_C.2, t15.Zu)).bind fun | .inl y29 => ((Zcs.f k (⟨y29.1, (y29.2.1, y29.2.2.1), y29.2.2.2⟩ : Zi)).bind fun t30 => (cond (t30 != 0) (some 9) (some 0))) | .inr y31 => (some y31))) | .inr y32 => (some y32)))
def Zae.i : Lay U (List Zd × Int) := (Wbq (Wbd 0 (tAt (Wbn DD C.Zd))) (Wbd 1 (tAt (Waz .i64)))).lay (fun _ => by kernel_rfl)
def Zae.r : Lay U Int := (Wbd 0 (tAt (Waz .i64))).lay (fun _ => by kernel_rfl)
def Zae.l4.i : Lay U (List Zd × Int × List Zd × Int × Int) := (lay [(0, sAt (Wbn DD C.Zd)), (1, sAt (Waz .i64)), (19, sAt (Wbn DD C.Zd)), (20, sAt (Waz .i64)), (21, sAt (Waz .i64))] [] (fun _ => by kernel_rfl))
def Zae.l4.o : Wdu U ((List Zd × Int) ⊕ Int) := oOr (Wdj 0 (lay [(0, sAt (Wbn DD C.Zd)), (1, sAt (Waz .i64))] [] (fun _ => by kernel_rfl))) (Wsr Zae.r)
def Zae.l11.i : Lay U (List Zd × Int × Int × Bool × Int × Int × Int) := (lay [(7, Wbi 7 0), (32, sAt (Wbn DD C.Zd)), (33, sAt (Waz .i64)), (34, sAt (Waz .i64))] [Wcw 7 [Wbh, (Waz .u64), (Waz .u64), (Waz .i64)]] (fun _ => by kernel_rfl))
def Zae.l11.o : Wdu U ((Bool × Int × Int × Int) ⊕ Int) := oOr (Wdj 2 (lay [(7, Wbi 7 0)] [Wcw 7 [Wbh, (Waz .u64), (Waz .u64), (Waz .i64)]] (fun _ => by kernel_rfl))) (Wsr Zae.r)
def Zae.Wdb : Jk U := ⟨(List Zd × Int × Bool), Wcb (lay [(0, sAt (Wbn DD C.Zd)), (1, sAt (Waz .i64)), (18, sAt Wbh)] [] (fun _ => by kernel_rfl))⟩
def Zae.E (k : Nat) : Env U := mkE Try.f69 [Zbo.pk k, Wgo.pk k, Zel.pk k, Zcs.pk k] [(1000, Zae.Wdb)] [(4, ldn Zae.l4.i Zae.l4.o (iter (Zae.l4.once k) k)), (11, ldn Zae.l11.i Zae.l11.o (iter (Zae.l11.once k) k))] [] n0 n0 [] false n00 nl0 [] nli
theorem Zae.l4.sound (k : Nat) : Wbz (Zae.E k) Try.f69.ntmps Try.f69 (.loop (Wbj Try.f69 4)) (ldn Zae.l4.i Zae.l4.o (iter (Zae.l4.once k) k)) :=
  Wdk (Zap _ _ _ _ _ _ _ _ _ _ _ _ _) mixed rfl (by kernel_rfl) (Zbc (l := []) (by kernel_rfl) Zat) Zae.l4.i Zae.l4.o (Zae.l4.once k) k (fun _ => by kernel_rfl)
theorem Zae.l11.sound (k : Nat) : Wbz (Zae.E k) Try.f69.ntmps Try.f69 (.loop (Wbj Try.f69 11)) (ldn Zae.l11.i Zae.l11.o (iter (Zae.l11.once k) k)) :=
  Wdk (Zap _ _ _ _ _ _ _ _ _ _ _ _ _) mixed rfl (by kernel_rfl) (Zbc (l := []) (by kernel_rfl) Zat) Zae.l11.i Zae.l11.o (Zae.l11.once k) k (fun _ => by kernel_rfl)
def Zae.pk (k : Nat) : Pk Try.prog DD := pkP (E := Zae.E k) 69 (Zap _ _ _ _ _ _ _ _ _ _ _ _ _) Try.func69 mixed (Zbc (l := [.loop (Wbj Try.f69 4), .loop (Wbj Try.f69 11)]) (by kernel_rfl) (Zbi (key := 4) (by kernel_rfl) rfl (Zae.l4.sound k) (Zbi (key := 11) (by kernel_rfl) rfl (Zae.l11.sound k) Zat))) Zae.i Zae.r [] true (fun x => Zae.f k (x.1) (x.2)) (fun _ _ => rfl) fun _ => by kernel_rfl
def Zcd.f (k : Nat) (a0 : Zf) (a1 : Int) (a2 : List Zd) : Option (Int × Int × Zf) := (Zae.f k a2 a0.Zac).bind fun t1 => (cond (t1 != 0) (some (0, t1, (⟨a0.Zac, a0.f_l, (⟨pack 12 false a0.f_t.Zk, pack 12 0 a0.f_t.Zj⟩ : Ze)⟩ : Zf))) ((Zcl.f k (⟨a0.Zac, a0.f_l, (⟨pack 12 false a0.f_t.Zk, pack 12 0 a0.f_t.Zj⟩ : Ze)⟩ : Zf) (⟨a1, a2, (-1)⟩ : Za)).bind fun t2 => (some (t2.1, t2.2.1, (⟨t2.2.2.Zac, t2.2.2.f_l, (⟨pack 12 false t2.2.2.f_t.Zk, pack 12 0 t2.2.2.f_t.Zj⟩ : Ze)⟩ : Zf)))))
def Zcd.i : Lay U (Zf × Int × List Zd) := (Wwo 1000000000000000 7000000000000 (Wbq (Wbd 0 (Zaw 7000000000000 7000000000000)) (Wbq (Wbd 1 (tAt (Waz .i64))) (Wbd 2 (tAt (Wbn DD C.Zd)))))).lay (fun _ => by kernel_rfl)
def Zcd.r : Lay U (Int × Int × Zf) := (Wdf (Wbq (Wfa 0 (Wdi (tAt (Waz .i64)) (Wes (tAt (Waz .i64))))) (Wbd 1000000000000000 (Zaw 7000000000000 7000000000000))) (fun x => ((x.1.1, x.1.2, x.2) : (Int × Int × Zf))) (fun x => ((x.1, x.2.1), x.2.2)) (fun _ => rfl)).lay (fun _ => by kernel_rfl)
def Zcd.pk (k : Nat) : Pk Try.prog DD := pkP 29 (Zap Try.f29 [Zae.pk k, Zcl.pk k] [] [] [] n0 n0 [0] false n00 nl0 [] nli) Try.func29 mixed (al0 (by kernel_rfl)) Zcd.i Zcd.r [0] false (fun x => Zcd.f k (x.1) (x.2.1) (x.2.2)) (fun h => by cases h) fun _ => by kernel_rfl
def Zal.l6.once (k : Nat) (x : (List Zp × Int × Int × List Za × Ze × Int × List Za × Zh)) : Option ((List Zp × Int × Int × List Za × Ze × Int × List Za × Zh) ⊕ ((Int × List Za × Ze × Int × List Za × Zh))) := match x with | (x3, x58, x4, x5, x30, x31, x32, x57) => ((cond (decide (x58 < (List.length x3 : Int))) (some (x3, x58, decide (x58 < 14), x4, x5, (⟨pack 12 false x30.Zk, pack 12 0 x30.Zj⟩ : Ze), x31, x32, (⟨pack 12 false x57.Zk, pack 12 0 x57.Zj⟩ : Zh))) (some (x3, x58, false, x4, x5, (⟨pack 12 false x30.Zk, pack 12 0 x30.Zj⟩ : Ze), x31, x32, (⟨pack 12 false x57.Zk, pack 12 0 x57.Zj⟩ : Zh)))) : Option (List Zp × Int × Bool × Int × List Za × Ze × Int × List Za × Zh)).bind fun Wcj => (cond (Wcj.2.2.1) (((cond (inb Wcj.2.1 (List.length Wcj.1)) ((Zaj.f k ((List.getD Wcj.1 (Int.toNat Wcj.2.1) Zp.zero).Zdr) 8).bind fun t117 => (cond (t117 == 0) ((Zaj.f k ((List.getD Wcj.1 (Int.toNat Wcj.2.1) Zp.zero).f_B) 3).bind fun t118 => ((Zco.f k (⟨Wcj.2.2.2.1, Wcj.2.2.2.2.1, (⟨pack 12 false Wcj.2.2.2.2.2.1.Zk, pack 12 0 Wcj.2.2.2.2.2.1.Zj⟩ : Ze)⟩ : Zf) t118).bind fun t119 => (some (Wcj.1, Wcj.2.1, t119.2.Zac, t119.2.f_l, (⟨pack 12 false t119.2.f_t.Zk, pack 12 0 t119.2.f_t.Zj⟩ : Ze), Wcj.2.2.2.2.2.2.1, Wcj.2.2.2.2.2.2.2.1, (⟨pack 12 false Wcj.2.2.2.2.2.2.2.2.Zk, pack 12 0 Wcj.2.2.2.2.2.2.2.2.Zj⟩ : Zh))))) (cond (t117 == 1) ((Zaj.f k ((List.getD Wcj.1 (Int.toNat Wcj.2.1) Zp.zero).f_N) 5).bind fun t176 => ((Zaj.f k ((List.getD Wcj.1 (Int.toNat Wcj.2.1) Zp.zero).f_B) 3).bind fun t177 => ((Zaz.f k (⟨Wcj.2.2.2.1, Wcj.2.2.2.2.1, (⟨pack 12 false Wcj.2.2.2.2.2.1.Zk, pack 12 0 Wcj.2.2.2.2.2.1.Zj⟩ : Ze)⟩ : Zf) t176 t177).bind fun t178 => (some (Wcj.1, Wcj.2.1, t178.2.2.Zac, t178.2.2.f_l, (⟨pack 12 false t178.2.2.f_t.Zk, pack 12 0 t178.2.2.f_t.Zj⟩ : Ze), Wcj.2.2.2.2.2.2.1, Wcj.2.2.2.2.2.2.2.1, (⟨pack 12 false Wcj.2.2.2.2.2.2.2.2.Zk, pack 12 0 Wcj.2.2.2.2.2.2.2.2.Zj⟩ : Zh)))))) (cond (t117 == 2) ((Zaj.f k ((List.getD Wcj.1 (Int.toNat Wcj.2.1) Zp.zero).f_B) 3).bind fun t179 => ((Zci.f k (⟨Wcj.2.2.2.1, Wcj.2.2.2.2.1, (⟨pack 12 false Wcj.2.2.2.2.2.1.Zk, pack 12 0 Wcj.2.2.2.2.2.1.Zj⟩ : Ze)⟩ : Zf) t179).bind fun t180 => (some (Wcj.1, Wcj.2.1, t180.2.Zac, t180.2.f_l, (⟨pack 12 false t180.2.f_t.Zk, pack 12 0 t180.2.f_t.Zj⟩ : Ze), Wcj.2.2.2.2.2.2.1, Wcj.2.2.2.2.2.2.2.1, (⟨pack 12 false Wcj.2.2.2.2.2.2.2.2.Zk, pack 12 0 Wcj.2.2.2.2.2.2.2.2.Zj⟩ : Zh))))) ((Zaj.f k ((List.getD Wcj.1 (Int.toNat Wcj.2.1) Zp.zero).f_B) 3).bind fun t181 => ((Zv.f k ((List.getD Wcj.1 (Int.toNat Wcj.2.1) Zp.zero).f_L) Wcj.2.2.2.2.2.2.1 0 4).bind fun t182 => ((Zcd.f k (⟨Wcj.2.2.2.1, Wcj.2.2.2.2.1, (⟨pack 12 false Wcj.2.2.2.2.2.1.Zk, pack 12 0 Wcj.2.2.2.2.2.1.Zj⟩ : Ze)⟩ : Zf) t181 t182).bind fun t183 => (some (Wcj.1, Wcj.2.1, t183.2.2.Zac, t183.2.2.f_l, (⟨pack 12 false t183.2.2.f_t.Zk, pack 12 0 t183.2.2.f_t.Zj⟩ : Ze), Wcj.2.2.2.2.2.2.1, Wcj.2.2.2.2.2.2.2.1, (⟨pack 12 false Wcj.2.2.2.2.2.2.2.2.Zk, pack 12 0 Wcj.2.2.2.2.2.2.2.2.Zj⟩ : Zh)))))))))) none) : Option (List Zp × Int × Int × List Za × Ze × Int × List Za × Zh)).bind fun y184 => (some (.inl (y184.1, IntKind.wrap .i64 (y184.2.1 + 1), y184.2.2.1, y184.2.2.2.1, (⟨pack 12 false y184.2.2.2.2.1.Zk, pack 12 0 y184.2.2.2.2.1.Zj⟩ : Ze), y184.2.2.2.2.2.1, y184.2.2.2.2.2.2.1, (⟨pack 12 false y184.2.2.2.2.2.2.2.Zk, pack 12 0 y184.2.2.2.2.2.2.2.Zj⟩ : Zh))))) (some (.inr (Wcj.2.2.2.1, Wcj.2.2.2.2.1, (⟨pack 12 false Wcj.2.2.2.2.2.1.Zk, pack 12 0 Wcj.2.2.2.2.2.1.Zj⟩ : Ze), Wcj.2.2.2.2.2.2.1, Wcj.2.2.2.2.2.2.2.1, (⟨pack 12 false Wcj.2.2.2.2.2.2.2.2.Zk, pack 12 0 Wcj.2.2.2.2.2.2.2.2.Zj⟩ : Zh)))))
def Zal.f (k : Nat) (a0 : List Zp) (a1 : Int) : Option (Zf × Zx) := (Zen.f k a1).bind fun t1 => ((Zau.f k a0 a1).bind fun t2 => ((iter (Zal.l6.once k) k (a0, 0, t1.Zac, t1.f_l, (⟨pack 12 false t1.f_t.Zk, pack 12 0 t1.f_t.Zj⟩ : Ze), t2.Zu, t2.f_L, (⟨pack 12 false t2.f_T.Zk, pack 12 0 t2.f_T.Zj⟩ : Zh))).bind fun y239 => (some ((⟨y239.1, y239.2.1, (⟨pack 12 false y239.2.2.1.Zk, pack 12 0 y239.2.2.1.Zj⟩ : Ze)⟩ : Zf), (⟨y239.2.2.2.1, y239.2.2.2.2.1, (⟨pack 12 false y239.2.2.2.2.2.Zk, pack 12 0 y239.2.2.2.2.2.Zj⟩ : Zh)⟩ : Zx)))))
def Zal.i : Lay U (List Zp × Int) := (Wbq (Wbd 0 (tAt (Wbn DD C.Zp))) (Wbd 1 (tAt (Waz .i64)))).lay (fun _ => by kernel_rfl)
def Zal.r : Lay U (Zf × Zx) := (Wfa 0 (Wdi (Zaw 120000000000007 6000000000000) (Wes (Zbf 250000000000006 6000000001000)))).lay (fun _ => by kernel_rfl)
def Zal.l6.i : Lay U (List Zp × Int × Int × List Za × Ze × Int × List Za × Zh) := (lay [(6, Wbi 120000000000007 0), (7, Wbi 250000000000006 0), (0, sAt (Wbn DD C.Zp)), (8, sAt (Waz .i64))] [Wcq 120000000000007 [(Waz .i64), (Wde DD 12000002000600701 C.Za 3)] Zw, Wcq 250000000000006 [(Waz .i64), (Wde DD 25000002000600601 C.Za 3)] Zas] (fun _ => by kernel_rfl))
def Zal.l6.o : Wdu U ((Int × List Za × Ze × Int × List Za × Zh)) := Wdj 0 (lay [(6, Wbi 120000000000007 0), (7, Wbi 250000000000006 0)] [Wcq 120000000000007 [(Waz .i64), (Wde DD 12000002000600701 C.Za 3)] Zw, Wcq 250000000000006 [(Waz .i64), (Wde DD 25000002000600601 C.Za 3)] Zas] (fun _ => by kernel_rfl))
def Zal.j6000 : Jk U := ⟨(List Zp × Int × Bool × Int × List Za × Ze × Int × List Za × Zh), Wcb (lay [(6, Wbi 120000000000007 0), (7, Wbi 250000000000006 0), (0, sAt (Wbn DD C.Zp)), (8, sAt (Waz .i64)), (25, sAt Wbh)] [Wcq 120000000000007 [(Waz .i64), (Wde DD 12000102600000701 C.Za 3)] Zw, Wcq 250000000000006 [(Waz .i64), (Wde DD 25000102600000601 C.Za 3)] Zas] (fun _ => by kernel_rfl))⟩
def Zal.j8001 : Jk U := ⟨(List Zp × Int × Int × List Za × Ze × Int × List Za × Zh), Wcb (lay [(6, Wbi 120000000000007 0), (7, Wbi 250000000000006 0), (0, sAt (Wbn DD C.Zp)), (8, sAt (Waz .i64))] [Wcq 120000000000007 [(Waz .i64), (Wde DD 12000102800100701 C.Za 3)] Zw, Wcq 250000000000006 [(Waz .i64), (Wde DD 25000102800100601 C.Za 3)] Zas] (fun _ => by kernel_rfl))⟩
def Zal.E (k : Nat) : Env U := mkE Try.f6 [Zen.pk k, Zau.pk k, Zaj.pk k, Zco.pk k, Zaz.pk k, Zci.pk k, Zv.pk k, Zcd.pk k] [(6000, Zal.j6000), (8001, Zal.j8001)] [(6, ldn Zal.l6.i Zal.l6.o (iter (Zal.l6.once k) k))] [] n0 n0 [] false n00 nl0 [] nli
theorem Zal.l6.sound (k : Nat) : Wbz (Zal.E k) Try.f6.ntmps Try.f6 (.loop (Wbj Try.f6 6)) (ldn Zal.l6.i Zal.l6.o (iter (Zal.l6.once k) k)) :=
  Wdk (Zap _ _ _ _ _ _ _ _ _ _ _ _ _) mixed rfl (by kernel_rfl) (Zbc (l := []) (by kernel_rfl) Zat) Zal.l6.i Zal.l6.o (Zal.l6.once k) k (fun _ => by kernel_rfl)
def Zal.pk (k : Nat) : Pk Try.prog DD := pkP (E := Zal.E k) 6 (Zap _ _ _ _ _ _ _ _ _ _ _ _ _) Try.func6 mixed (Zbc (l := [.loop (Wbj Try.f6 6)]) (by kernel_rfl) (Zbi (key := 6) (by kernel_rfl) rfl (Zal.l6.sound k) Zat)) Zal.i Zal.r [] false (fun x => Zal.f k (x.1) (x.2)) (fun h => by cases h) fun _ => by kernel_rfl
def Zbd.f (k : Nat) (a0 : Zf) : Option (Ze × Zf) := some ((⟨pack 12 false a0.f_t.Zk, pack 12 0 a0.f_t.Zj⟩ : Ze), (⟨a0.Zac, a0.f_l, (⟨pack 12 false a0.f_t.Zk, pack 12 0 a0.f_t.Zj⟩ : Ze)⟩ : Zf))
def Zbd.i : Lay U Zf := (Wwo 1000000000000000 7000000000000 (Wbd 0 (Zaw 7000000000000 7000000000000))).lay (fun _ => by kernel_rfl)
def Zbd.r : Lay U (Ze × Zf) := (Wbq (Wbd 0 (tAt (vCd Zw))) (Wbd 1000000000000000 (Zaw 7000000000000 7000000000000))).lay (fun _ => by kernel_rfl)
def Zbd.pk (k : Nat) : Pk Try.prog DD := pkP 14 (Zap Try.f14 [] [] [] [] n0 n0 [0] false n00 nl0 [] nli) Try.func14 mixed (al0 (by kernel_rfl)) Zbd.i Zbd.r [0] false (fun x => Zbd.f k (x)) (fun h => by cases h) fun _ => by kernel_rfl
def Zn.f (k : Nat) (a0 : List Za) : Option (List Za) := cond (Weh (List.length ([] : List Za) + List.length a0) 40) (some (([] : List Za) ++ a0)) none
def Zn.un (s : St U) : Option (List Za) := match s.get 0 with | .row C.Za x1 => some x1 | _ => none
def Zn.mk (x : List Za) : St U := ⟨[(0, .row C.Za x)], []⟩
def Zn.fin (y : List Za) : St U := ⟨[(0, .row C.Za y)], []⟩
def Zn.D (k : Nat) : Wfe U := { X := List Za, Y := List Za, nt := 8, gh := [], un := Zn.un, f := fun x => Zn.f k (x), fin := Zn.fin, cl := true, clo := fun _ _ => rfl }
def Zn.re (s : St U) : Option (List Za) := match s.get 0 with | .row C.Za x1 => some x1 | _ => none
def Zn.jl : List (Nat × JDen U) := []
def Zn.fl (k : Nat) : List (Nat × Wfe U) := []
def Zn.ll (k : Nat) : List (Nat × Wrb U) := []
def Zn.E (k : Nat) : Env U := { P := Try.prog, D := DD, fd := lk (Zn.fl k), sf := lk sl0, ld := lk (Zn.ll k), jd := lk Zn.jl, mode := lk [], elc := lk ec, mpc := lk mc, rts := Try.f44.resultTypes.toList, dyn := fun t => false, Wpm := fun d => false, results := Try.f44.results.toList, gh := [], own := false, io := fun g i => false, lds := nl0, fn := lk [] }
theorem Zn.ok (k : Nat) : Wbx (Zn.E k) := Wxq lawful (Zn.fl k) sl0 (Zn.ll k) Zn.jl _ _ _ _ _ _ _ _ _ _ _ [] (fun _ => none) (by
  intro p hp
  simp [Zn.fl] at hp) Wqd (by
  intro p hp
  simp [Zn.jl] at hp) (fun _ h => (List.not_mem_nil h).elim)
theorem Zn.Qaq (s : St U) (y : List Za) (h : Zn.re s = some y) : Fits s (Zn.fin y) := by
  unfold Zn.re at h
  split at h
  · cases h
    refine Zep [] ?_ ?_ Wka rfl
    · exact List.forall_mem_cons.2 ⟨FV.one (FV.same (by assumption) rfl), fun _ hp => (List.not_mem_nil hp).elim⟩
    · exact fun _ hp => (List.not_mem_nil hp).elim
  · cases h
def Zn.mkn (g : Bool) (x : List Za) : St U := ⟨[(0, .Wov g C.Za x)], []⟩
theorem Zn.eq (k : Nat) (x : List Za) : Wol (Zn.E k) (codeOf Try.f44) (Zn.mkn true x) Zn.re = (Zn.D k).f x := by kernel_rfl
theorem Zn.eqN (k : Nat) : Wol (Zn.E k) (codeOf Try.f44) (Zn.mkn false []) Zn.re = (Zn.D k).f [] := by kernel_rfl
theorem Zn.sound (k : Nat) : Sound Try.prog DD 44 (Zn.D k) :=
  Wlx (E := Zn.E k) (fn := Try.f44) (c := codeOf Try.f44) (Zn.ok k) mixed rfl Try.func44 (by kernel_rfl) (by kernel_rfl) (Zbc (l := []) (by kernel_rfl) Zat) C.Za (Zn.D k) Zn.mkn (fun x => x) Zn.re (by kernel_rfl) (by kernel_rfl)
    (by intro m x h; replace h : Zn.un m = some x := h; unfold Zn.un at h; split at h; · cases h; assumption
        · cases h)
    (fun _ _ => rfl) Zn.Qaq (Zn.eq k) (by intro x h; replace h : x = [] := h; subst h; exact Zn.eqN k)
def Zn.pk (k : Nat) : Pk Try.prog DD := ⟨44, Zn.D k, Zn.sound k, Zet Try.func44 (by kernel_rfl) (by kernel_rfl)⟩
def Zdb.f (k : Nat) (a0 : List Za) : Option (List Za) := cond (decide ((List.length a0 : Int) = (List.length a0 : Int)) && inS 0 (List.length a0 : Int) (List.length a0)) (some (List.take (Int.toNat (List.length a0 : Int)) a0)) none
def Zdb.i : Lay U (List Za) := (Wbd 0 (tAt (Wbn DD C.Za))).lay (fun _ => by kernel_rfl)
def Zdb.r : Lay U (List Za) := (Wbd 0 (tAt (Wbn DD C.Za))).lay (fun _ => by kernel_rfl)
def Zdb.pk (k : Nat) : Pk Try.prog DD := pkP 43 (Zap Try.f43 [] [] [] [] n0 n0 [] false n00 nl0 [] nli) Try.func43 mixed (al0 (by kernel_rfl)) Zdb.i Zdb.r [] true (fun x => Zdb.f k (x)) (fun _ _ => rfl) fun _ => by kernel_rfl
def Zbz.f (k : Nat) (a0 : List Zd) : Option (List Zd) := cond (decide ((List.length a0 : Int) = (List.length a0 : Int)) && inS 0 (List.length a0 : Int) (List.length a0)) (some (List.take (Int.toNat (List.length a0 : Int)) a0)) none
def Zbz.i : Lay U (List Zd) := (Wbd 0 (tAt (Wbn DD C.Zd))).lay (fun _ => by kernel_rfl)
def Zbz.r : Lay U (List Zd) := (Wbd 0 (tAt (Wbn DD C.Zd))).lay (fun _ => by kernel_rfl)
def Zbz.pk (k : Nat) : Pk Try.prog DD := pkP 45 (Zap Try.f45 [] [] [] [] n0 n0 [] false n00 nl0 [] nli) Try.func45 mixed (al0 (by kernel_rfl)) Zbz.i Zbz.r [] true (fun x => Zbz.f k (x)) (fun _ _ => rfl) fun _ => by kernel_rfl
def Zl.f (k : Nat) (a0 : List Za) : Option (List Za) := cond (Weh (List.length ([] : List Za) + List.length a0) 40) (some (([] : List Za) ++ a0)) none
def Zl.un (s : St U) : Option (List Za) := match s.get 0 with | .row C.Za x1 => some x1 | _ => none
def Zl.mk (x : List Za) : St U := ⟨[(0, .row C.Za x)], []⟩
def Zl.fin (y : List Za) : St U := ⟨[(0, .vs 6000000000000)], [(6000000000000, .vec C.Za y)]⟩
def Zl.D (k : Nat) : Wfe U := { X := List Za, Y := List Za, nt := 8, gh := [], un := Zl.un, f := fun x => Zl.f k (x), fin := Zl.fin, cl := false, clo := fun h => by cases h }
def Zl.re (s : St U) : Option (List Za) := (Wkl s.o (s.get 0)).bind fun ex1 => (some ex1.2)
def Zl.jl : List (Nat × JDen U) := []
def Zl.fl (k : Nat) : List (Nat × Wfe U) := []
def Zl.ll (k : Nat) : List (Nat × Wrb U) := []
def Zl.E (k : Nat) : Env U := { P := Try.prog, D := DD, fd := lk (Zl.fl k), sf := lk sl0, ld := lk (Zl.ll k), jd := lk Zl.jl, mode := lk [], elc := lk ec, mpc := lk mc, rts := Try.f44.resultTypes.toList, dyn := fun t => false, Wpm := fun d => Nat.beq d 5, results := Try.f44.results.toList, gh := [], own := true, io := fun g i => false, lds := nl0, fn := lk [] }
theorem Zl.ok (k : Nat) : Wbx (Zl.E k) := Wxq lawful (Zl.fl k) sl0 (Zl.ll k) Zl.jl _ _ _ _ _ _ _ _ _ _ _ [] (fun _ => none) (by
  intro p hp
  simp [Zl.fl] at hp) Wqd (by
  intro p hp
  simp [Zl.jl] at hp) (fun _ h => (List.not_mem_nil h).elim)
theorem Zl.Qaq (s : St U) (y : List Za) (h : Zl.re s = some y) : Fits s (Zl.fin y) := by
  unfold Zl.re at h
  obtain ⟨ex1, hex1, hh1⟩ := Option.bind_eq_some_iff.1 h
  cases hh1
  refine Zep [(6000000000000, ex1.1)] ?_ ?_ Wwh rfl
  · exact List.forall_mem_cons.2 ⟨FV.one ((Wkk hex1 rfl).1), fun _ hp => (List.not_mem_nil hp).elim⟩
  · exact List.forall_mem_cons.2 ⟨(Wkk hex1 rfl).2, fun _ hp => (List.not_mem_nil hp).elim⟩
def Zl.mkn (g : Bool) (x : List Za) : St U := ⟨[(0, .Wov g C.Za x)], []⟩
theorem Zl.eq (k : Nat) (x : List Za) : Wol (Zl.E k) (codeOf Try.f44) (Zl.mkn true x) Zl.re = (Zl.D k).f x := by kernel_rfl
theorem Zl.eqN (k : Nat) : Wol (Zl.E k) (codeOf Try.f44) (Zl.mkn false []) Zl.re = (Zl.D k).f [] := by kernel_rfl
theorem Zl.sound (k : Nat) : Sound Try.prog DD 44 (Zl.D k) :=
  Wlx (E := Zl.E k) (fn := Try.f44) (c := codeOf Try.f44) (Zl.ok k) mixed rfl Try.func44 (by kernel_rfl) (by kernel_rfl) (Zbc (l := []) (by kernel_rfl) Zat) C.Za (Zl.D k) Zl.mkn (fun x => x) Zl.re (by kernel_rfl) (by kernel_rfl)
    (by intro m x h; replace h : Zl.un m = some x := h; unfold Zl.un at h; split at h; · cases h; assumption
        · cases h)
    (fun _ _ => rfl) Zl.Qaq (Zl.eq k) (by intro x h; replace h : x = [] := h; subst h; exact Zl.eqN k)
def Zl.pk (k : Nat) : Pk Try.prog DD := ⟨44, Zl.D k, Zl.sound k, Zet Try.func44 (by kernel_rfl) (by kernel_rfl)⟩
def Zbh.f (k : Nat) (a0 : List Za) : Option (List Za) := cond (decide ((List.length a0 : Int) = (List.length a0 : Int)) && decide ((List.length a0 : Int) = (List.length a0 : Int))) (some a0) none
def Zbh.i : Lay U (List Za) := (Wbd 0 (tAt (Wid DD 7000000000000 C.Za))).lay (fun _ => by kernel_rfl)
def Zbh.r : Lay U (List Za) := (Wbd 0 (tAt (Wid DD 6000000000000 C.Za))).lay (fun _ => by kernel_rfl)
def Zbh.pk (k : Nat) : Pk Try.prog DD := pkP 43 (Zap Try.f43 [] [] [] [] n0 n0 [] true n00 nl0 [] nli) Try.func43 mixed (al0 (by kernel_rfl)) Zbh.i Zbh.r [] false (fun x => Zbh.f k (x)) (fun h => by cases h) fun _ => by kernel_rfl
def Zaa.l5.once (k : Nat) (x : (Int × Int × List Za × Int × List Za × Ze)) : Option ((Int × Int × List Za × Int × List Za × Ze) ⊕ ((List Za × Int × List Za × Ze))) := match x with | (x4, x5, x3, x6, x7, x32) => cond (decide (x5 < x4)) (cond (inb x5 (List.length x3)) (cond (Nat.blt (Int.toNat x5) (List.length x3)) ((Zm.f k ((List.getD x3 (Int.toNat x5) Za.zero).Zay)).bind fun t33 => ((Zbz.f k t33).bind fun t34 => (cond (inb x5 (List.length x3)) (cond (Nat.blt (Int.toNat x5) (List.length x3)) (some (.inl (x4, IntKind.wrap .i64 (x5 + 1), List.set x3 (Int.toNat x5) (⟨(List.getD x3 (Int.toNat x5) Za.zero).Zad, t34, (List.getD x3 (Int.toNat x5) Za.zero).Wbm⟩ : Za), x6, x7, (⟨pack 12 false x32.Zk, pack 12 0 x32.Zj⟩ : Ze)))) none) none))) none) none) (some (.inr (x3, x6, x7, (⟨pack 12 false x32.Zk, pack 12 0 x32.Zj⟩ : Ze))))
def Zaa.f (k : Nat) (a0 : Zf) : Option (List Za × Zf) := (Zl.f k a0.f_l).bind fun t1 => ((Zbh.f k t1).bind fun t2 => ((iter (Zaa.l5.once k) k ((List.length t2 : Int), 0, t2, a0.Zac, a0.f_l, (⟨pack 12 false a0.f_t.Zk, pack 12 0 a0.f_t.Zj⟩ : Ze))).bind fun y63 => (some (y63.1, (⟨y63.2.1, y63.2.2.1, (⟨pack 12 false y63.2.2.2.Zk, pack 12 0 y63.2.2.2.Zj⟩ : Ze)⟩ : Zf)))))
def Zaa.i : Lay U Zf := (Wwo 1000000000000000 7000000000000 (Wbd 0 (Zaw 7000000000000 7000000000000))).lay (fun _ => by kernel_rfl)
def Zaa.r : Lay U (List Za × Zf) := (Wbq (Wbd 0 (tAt (Wbn DD C.Za))) (Wbd 1000000000000000 (Zaw 7000000000000 7000000000000))).lay (fun _ => by kernel_rfl)
def Zaa.l5.i : Lay U (Int × Int × List Za × Int × List Za × Ze) := ((Wdf (Wgi [(1000000000000000, Wbi 7000000000000 0), (3, sAt (Wid DD 1005003 C.Za)), (14, sAt (Waz .i64)), (15, sAt (Waz .i64))] [Wcq 7000000000000 [(Waz .i64), (Wde DD 700002000500001 C.Za 3)] Zw]) (fun x => ((x.2.1, x.2.2.1, x.1, x.2.2.2.1, x.2.2.2.2.1, x.2.2.2.2.2) : (Int × Int × List Za × Int × List Za × Ze))) (fun x => (x.2.2.1, x.1, x.2.1, x.2.2.2.1, x.2.2.2.2.1, x.2.2.2.2.2)) (fun _ => rfl)).lay (fun _ => by kernel_rfl))
def Zaa.l5.o : Wdu U ((List Za × Int × List Za × Ze)) := Wdj 0 (lay [(1000000000000000, Wbi 7000000000000 0), (3, sAt (Wid DD 1005003 C.Za))] [Wcq 7000000000000 [(Waz .i64), (Wde DD 700002000500001 C.Za 3)] Zw] (fun _ => by kernel_rfl))
def Zaa.E (k : Nat) : Env U := mkE Try.f16 [Zl.pk k, Zbh.pk k, Zm.pk k, Zbz.pk k] [] [(5, ldn Zaa.l5.i Zaa.l5.o (iter (Zaa.l5.once k) k))] [] n0 (fun d => Nat.beq d 11 || Nat.beq d 12) [0] false (fun g i => (Nat.beq g 43 && Nat.beq i 0)) nl0 [] nli
theorem Zaa.l5.sound (k : Nat) : Wbz (Zaa.E k) Try.f16.ntmps Try.f16 (.loop (Wbj Try.f16 5)) (ldn Zaa.l5.i Zaa.l5.o (iter (Zaa.l5.once k) k)) :=
  Wdk (Zap _ _ _ _ _ _ _ _ _ _ _ _ _) mixed rfl (by kernel_rfl) (Zbc (l := []) (by kernel_rfl) Zat) Zaa.l5.i Zaa.l5.o (Zaa.l5.once k) k (fun _ => by kernel_rfl)
def Zaa.pk (k : Nat) : Pk Try.prog DD := pkP (E := Zaa.E k) 16 (Zap _ _ _ _ _ _ _ _ _ _ _ _ _) Try.func16 mixed (Zbc (l := [.loop (Wbj Try.f16 5)]) (by kernel_rfl) (Zbi (key := 5) (by kernel_rfl) rfl (Zaa.l5.sound k) Zat)) Zaa.i Zaa.r [0] false (fun x => Zaa.f k (x)) (fun h => by cases h) fun _ => by kernel_rfl
def Zdw.f (k : Nat)  : Option Int := some 8
def Zdw.i : Lay U Unit := (pcUnit).lay (fun _ => by kernel_rfl)
def Zdw.r : Lay U Int := (Wbd 0 (tAt (Waz .i64))).lay (fun _ => by kernel_rfl)
def Zdw.pk (k : Nat) : Pk Try.prog DD := pkP 76 (Zap Try.f76 [] [] [] [] n0 n0 [] false n00 nl0 [] nli) Try.func76 mixed (al0 (by kernel_rfl)) Zdw.i Zdw.r [] true (fun x => Zdw.f k ) (fun _ _ => rfl) fun _ => by kernel_rfl
def Zeq.f (k : Nat) (a0 : Zd) (a1 : Bool) : Option (Int × Int) := (((Zct.f k a0.Zde).bind fun t1 => (cond (t1 == 4) (some (!a1, a0.Zde, a0.Zq.Wbe, a0.Zq.f_C.1, a0.Zq.f_C.2, a0.Zq.Zu, a0.Zdo, 0, 0)) (some (false, a0.Zde, a0.Zq.Wbe, a0.Zq.f_C.1, a0.Zq.f_C.2, a0.Zq.Zu, a0.Zdo, 0, 0)))) : Option (Bool × Int × Bool × Int × Int × Int × Int × Int × Int)).bind fun y11 => (cond (y11.1) ((Zdw.f k).bind fun t12 => (some (t12, 0))) (some (y11.2.1, IntKind.wrap .i64 (y11.2.2.2.2.2.2.1 + 1))))
def Zeq.i : Lay U (Zd × Bool) := (Wbq (Wbd 0 (tAt (vCd Wyb))) (Wbd 1 (tAt Wbh))).lay (fun _ => by kernel_rfl)
def Zeq.r : Lay U (Int × Int) := (Wbd 0 (tAt (vCd (Cd.pair (Cd.int .i64) (Cd.int .i64))))).lay (fun _ => by kernel_rfl)
def Zeq.Wdb : Jk U := ⟨(Bool × Int × Bool × Int × Int × Int × Int × Int × Int), Wcb (lay [(2, Wbi 2 0), (4, Wbi 4 0), (12, sAt Wbh)] [Wcw 2 [(Waz .i64), Wbh, (Waz .u64), (Waz .u64), (Waz .i64), (Waz .i64)], Wcw 4 [(Waz .i64), (Waz .i64)]] (fun _ => by kernel_rfl))⟩
def Zeq.pk (k : Nat) : Pk Try.prog DD := pkP 31 (Zap Try.f31 [Zct.pk k, Zdw.pk k] [(1000, Zeq.Wdb)] [] [] n0 n0 [] false n00 nl0 [] nli) Try.func31 mixed (al0 (by kernel_rfl)) Zeq.i Zeq.r [] true (fun x => Zeq.f k (x.1) (x.2)) (fun _ _ => rfl) fun _ => by kernel_rfl
def Zbe.f (k : Nat) (a0 : Zf) : Option (Int × Zf) := some (a0.Zac, (⟨a0.Zac, a0.f_l, (⟨pack 12 false a0.f_t.Zk, pack 12 0 a0.f_t.Zj⟩ : Ze)⟩ : Zf))
def Zbe.i : Lay U Zf := (Wwo 1000000000000000 7000000000000 (Wbd 0 (Zaw 7000000000000 7000000000000))).lay (fun _ => by kernel_rfl)
def Zbe.r : Lay U (Int × Zf) := (Wbq (Wbd 0 (tAt (Waz .i64))) (Wbd 1000000000000000 (Zaw 7000000000000 7000000000000))).lay (fun _ => by kernel_rfl)
def Zbe.pk (k : Nat) : Pk Try.prog DD := pkP 11 (Zap Try.f11 [] [] [] [] n0 n0 [0] false n00 nl0 [] nli) Try.func11 mixed (al0 (by kernel_rfl)) Zbe.i Zbe.r [0] false (fun x => Zbe.f k (x)) (fun h => by cases h) fun _ => by kernel_rfl
end
end Go.Proofs.Ytbchcjlllddlpaa
