import Derived.Test.YtlaogfkgkpgofaaF3
/-! Functions, told; their equations with the evaluator; that they are sound. Written by gen.py. -/
namespace Go.Proofs.Ytlaogfkgkpgofaa
open Go Go.Ev
noncomputable section
set_option linter.unusedVariables false
set_option linter.unusedSimpArgs false
set_option maxRecDepth 100000
/-! ### (*pyx/rate.Table).Keys: function 54 -/
noncomputable def rate_Table_Keys.f (k : Nat) (a0 : Srate_Table) : Option (List Srate_Key × Srate_Table) := cond (okLen (List.length (List.map (fun p => p.1) a0.f_l)) 16) ((slices_Clip_rate_Key.f k (srt_Srate_Key (List.map (fun p => p.1) a0.f_l))).bind fun t1 => (some (t1, (⟨a0.f_l⟩ : Srate_Table)))) none
noncomputable def rate_Table_Keys.un (s : St U) : Option Srate_Table := match s.get 0, lk s.o 7000000000000, s.get 1000000000000000 with | .ptr 7000000000000 0, some (.lit [x2]), .ptr 7000000000000 0 => (map_Srate_Key_Sapi_Dec_t s.o x2).bind fun ex1 => (some (⟨ex1.2⟩ : Srate_Table)) | _, _, _ => none
noncomputable def rate_Table_Keys.mk (x : Srate_Table) : St U := ⟨[(0, .ptr 7000000000000 0), (1000000000000000, .ptr 7000000000000 0)], [(7000000000000, .lit [.mp 7000000000001]), (7000000000001, .map true true true C.Srate_Key C.Sapi_Dec x.f_l)]⟩
noncomputable def rate_Table_Keys.fin (y : (List Srate_Key × Srate_Table)) : St U := ⟨[(0, .row C.Srate_Key y.1), (1000000000000000, .ptr 7000000000000 0)], [(7000000000000, .lit [.mp 7000000000001]), (7000000000001, .map true true true C.Srate_Key C.Sapi_Dec y.2.f_l)]⟩
noncomputable def rate_Table_Keys.D (k : Nat) : FDen U := { X := Srate_Table, Y := (List Srate_Key × Srate_Table), nt := 12, gh := [0], un := rate_Table_Keys.un, f := fun x => rate_Table_Keys.f k (x), fin := rate_Table_Keys.fin, cl := false, clo := fun h => by cases h }
noncomputable def rate_Table_Keys.re (s : St U) : Option (List Srate_Key × Srate_Table) := match s.get 0, s.get 1000000000000000, lk s.o 7000000000000 with | .row C.Srate_Key x1, .ptr 7000000000000 0, some (.lit [x3]) => (map_Srate_Key_Sapi_Dec_t s.o x3).bind fun ex2 => (some (x1, (⟨ex2.2⟩ : Srate_Table))) | _, _, _ => none
noncomputable def rate_Table_Keys.jl : List (Nat × JDen U) := []
noncomputable def rate_Table_Keys.fl (k : Nat) : List (Nat × FDen U) := [(97, slices_Clip_rate_Key.D k)]
noncomputable def rate_Table_Keys.ll (k : Nat) : List (Nat × LDen U) := []
noncomputable def rate_Table_Keys.E (k : Nat) : Env U := { P := Try.prog, D := DD, fd := lk (rate_Table_Keys.fl k), sf := lk sl1, ld := lk (rate_Table_Keys.ll k), jd := lk rate_Table_Keys.jl, mode := lk [], elc := lk ec, mpc := lk mc, rts := Try.f54.resultTypes.toList, dyn := fun t => false, vecs := fun d => false, results := Try.f54.results.toList, gh := [0], own := false, io := fun g i => false }
theorem rate_Table_Keys.ok (k : Nat) : EnvOk (rate_Table_Keys.E k) := envOk lawful (rate_Table_Keys.fl k) sl1 (rate_Table_Keys.ll k) rate_Table_Keys.jl _ _ _ _ _ _ _ _ _ _ (by
  intro p hp
  simp only [rate_Table_Keys.fl, List.mem_cons, List.not_mem_nil, or_false] at hp
  rcases hp with rfl
  · exact ⟨slices_Clip_rate_Key.sound k, enter_of Try.func97 (by kernel_rfl) (by kernel_rfl)⟩) sl1_ok (by
  intro p hp
  simp [rate_Table_Keys.jl] at hp)
theorem rate_Table_Keys.eq (k : Nat) (x : Srate_Table) : runF (rate_Table_Keys.E k) (codeOf Try.f54) (rate_Table_Keys.mk x) rate_Table_Keys.re = (rate_Table_Keys.D k).f x := by kernel_rfl
theorem rate_Table_Keys.fit (s : St U) (x : Srate_Table) (h : rate_Table_Keys.un s = some x) : Fits s (rate_Table_Keys.mk x) := by
  unfold rate_Table_Keys.un at h
  split at h
  · obtain ⟨ex1, hex1, hh1⟩ := Option.bind_eq_some_iff.1 h
    cases hh1
    refine fits_ren [(7000000000001, ex1.1)] ?_ ?_ ren_one rfl
    · exact List.forall_mem_cons.2 ⟨FV.one (FV.ptr (by assumption)), List.forall_mem_cons.2 ⟨FV.one (FV.ptr (by assumption)), fun _ hp => (List.not_mem_nil hp).elim⟩⟩
    · exact List.forall_mem_cons.2 ⟨FO.cells (show lk (St.o _) 7000000000000 = some _ from by assumption) (FCs.cons ((map_Srate_Key_Sapi_Dec_t_fit hex1 rfl).1) (FCs.nil)), List.forall_mem_cons.2 ⟨(map_Srate_Key_Sapi_Dec_t_fit hex1 rfl).2, fun _ hp => (List.not_mem_nil hp).elim⟩⟩
  · cases h
theorem rate_Table_Keys.fitR (s : St U) (y : (List Srate_Key × Srate_Table)) (h : rate_Table_Keys.re s = some y) : Fits s (rate_Table_Keys.fin y) := by
  unfold rate_Table_Keys.re at h
  split at h
  · obtain ⟨ex2, hex2, hh1⟩ := Option.bind_eq_some_iff.1 h
    cases hh1
    refine fits_ren [(7000000000001, ex2.1)] ?_ ?_ ren_one rfl
    · exact List.forall_mem_cons.2 ⟨FV.one (FV.same (by assumption) rfl), List.forall_mem_cons.2 ⟨FV.one (FV.ptr (by assumption)), fun _ hp => (List.not_mem_nil hp).elim⟩⟩
    · exact List.forall_mem_cons.2 ⟨FO.cells (show lk (St.o _) 7000000000000 = some _ from by assumption) (FCs.cons ((map_Srate_Key_Sapi_Dec_t_fit hex2 rfl).1) (FCs.nil)), List.forall_mem_cons.2 ⟨(map_Srate_Key_Sapi_Dec_t_fit hex2 rfl).2, fun _ hp => (List.not_mem_nil hp).elim⟩⟩
  · cases h
theorem rate_Table_Keys.sound (k : Nat) : Sound Try.prog DD 54 (rate_Table_Keys.D k) :=
  fun_sound (E := rate_Table_Keys.E k) (fn := Try.f54) (c := codeOf Try.f54) (rate_Table_Keys.ok k) mixed rfl Try.func54 (by kernel_rfl) (by kernel_rfl) (allL_of (l := []) (by kernel_rfl) allL_nil) (rate_Table_Keys.D k) rate_Table_Keys.mk rate_Table_Keys.re (by kernel_rfl) (by kernel_rfl) rate_Table_Keys.fit rate_Table_Keys.fitR (rate_Table_Keys.eq k)
/-! ### pyx/pyxlaw16.RateTells: function 12 -/
noncomputable def pyxlaw16_RateTells.l6.once (k : Nat) (x : (List Int × List Int × List Int × Int × Int × List (Srate_Key × Sapi_Dec) × Spyxref11_Rates)) : Option ((List Int × List Int × List Int × Int × Int × List (Srate_Key × Sapi_Dec) × Spyxref11_Rates) ⊕ ((List (Srate_Key × Sapi_Dec) × Spyxref11_Rates) ⊕ Bool)) := match x with | (x10, x11, x14, x15, x16, x12, x13) => cond (decide (x16 < x15)) (cond (inb x16 (List.length x14)) ((pyxhand_Pick.f k (List.getD x14 (Int.toNat x16) 0) 15).bind fun t17 => ((pyxhand_Pick.f k (IntKind.wrap .i64 (Int.tdiv (List.getD x14 (Int.toNat x16) 0) 15)) 5).bind fun t18 => ((pyxhand_Pick.f k (List.getD x14 (Int.toNat x16) 0) 90000).bind fun t19 => ((pyxref1_Of.f k (IntKind.wrap .i64 (1 + t19)) 3).bind fun t20 => (((cond (decide (x16 < (List.length x10 : Int))) (some (x10, x11, x16, List.getD x14 (Int.toNat x16) 0, x14, x15, x16, decide (x16 < (List.length x11 : Int)), x12, (⟨pack 36 false x13.f_Has, pack 36 Sapi_Dec.zero x13.f_D⟩ : Spyxref11_Rates), IntKind.wrap .i64 (t17 - 1), IntKind.wrap .i64 (t18 - 1), t20.f_Neg, t20.f_C.1, t20.f_C.2, t20.f_Scale)) (some (x10, x11, x16, List.getD x14 (Int.toNat x16) 0, x14, x15, x16, false, x12, (⟨pack 36 false x13.f_Has, pack 36 Sapi_Dec.zero x13.f_D⟩ : Spyxref11_Rates), IntKind.wrap .i64 (t17 - 1), IntKind.wrap .i64 (t18 - 1), t20.f_Neg, t20.f_C.1, t20.f_C.2, t20.f_Scale))) : Option (List Int × List Int × Int × Int × List Int × Int × Int × Bool × List (Srate_Key × Sapi_Dec) × Spyxref11_Rates × Int × Int × Bool × Int × Int × Int)).bind fun y37 => (((cond (y37.2.2.2.2.2.2.2.1) (cond (inb y37.2.2.1 (List.length y37.1)) (cond (inb y37.2.2.1 (List.length y37.2.1)) ((pyxhand_Dec.f k (List.getD y37.1 (Int.toNat y37.2.2.1) 0) (List.getD y37.2.1 (Int.toNat y37.2.2.1) 0) y37.2.2.2.1).bind fun t38 => (some (y37.1, y37.2.1, y37.2.2.2.2.1, y37.2.2.2.2.2.1, y37.2.2.2.2.2.2.1, y37.2.2.2.2.2.2.2.2.1, (⟨pack 36 false y37.2.2.2.2.2.2.2.2.2.1.f_Has, pack 36 Sapi_Dec.zero y37.2.2.2.2.2.2.2.2.2.1.f_D⟩ : Spyxref11_Rates), y37.2.2.2.2.2.2.2.2.2.2.1, y37.2.2.2.2.2.2.2.2.2.2.2.1, t38.f_Neg, t38.f_C.1, t38.f_C.2, t38.f_Scale))) none) none) (some (y37.1, y37.2.1, y37.2.2.2.2.1, y37.2.2.2.2.2.1, y37.2.2.2.2.2.2.1, y37.2.2.2.2.2.2.2.2.1, (⟨pack 36 false y37.2.2.2.2.2.2.2.2.2.1.f_Has, pack 36 Sapi_Dec.zero y37.2.2.2.2.2.2.2.2.2.1.f_D⟩ : Spyxref11_Rates), y37.2.2.2.2.2.2.2.2.2.2.1, y37.2.2.2.2.2.2.2.2.2.2.2.1, y37.2.2.2.2.2.2.2.2.2.2.2.2.1, y37.2.2.2.2.2.2.2.2.2.2.2.2.2.1, y37.2.2.2.2.2.2.2.2.2.2.2.2.2.2.1, y37.2.2.2.2.2.2.2.2.2.2.2.2.2.2.2))) : Option (List Int × List Int × List Int × Int × Int × List (Srate_Key × Sapi_Dec) × Spyxref11_Rates × Int × Int × Bool × Int × Int × Int)).bind fun y52 => ((rate_Table_Set.f k (⟨y52.2.2.2.2.2.1⟩ : Srate_Table) (⟨y52.2.2.2.2.2.2.2.1, y52.2.2.2.2.2.2.2.2.1⟩ : Srate_Key) (⟨y52.2.2.2.2.2.2.2.2.2.1, (y52.2.2.2.2.2.2.2.2.2.2.1, y52.2.2.2.2.2.2.2.2.2.2.2.1), y52.2.2.2.2.2.2.2.2.2.2.2.2⟩ : Sapi_Dec)).bind fun t53 => ((pyxref11_Rates_Set.f k (⟨pack 36 false y52.2.2.2.2.2.2.1.f_Has, pack 36 Sapi_Dec.zero y52.2.2.2.2.2.2.1.f_D⟩ : Spyxref11_Rates) y52.2.2.2.2.2.2.2.1 y52.2.2.2.2.2.2.2.2.1 (⟨y52.2.2.2.2.2.2.2.2.2.1, (y52.2.2.2.2.2.2.2.2.2.2.1, y52.2.2.2.2.2.2.2.2.2.2.2.1), y52.2.2.2.2.2.2.2.2.2.2.2.2⟩ : Sapi_Dec)).bind fun t54 => (cond (t53.1 != t54.1) (some (.inr (.inr false))) ((rate_Table_Get.f k (⟨t53.2.f_l⟩ : Srate_Table) (⟨y52.2.2.2.2.2.2.2.1, y52.2.2.2.2.2.2.2.2.1⟩ : Srate_Key)).bind fun t55 => ((pyxref11_Rates_Get.f k (⟨pack 36 false t54.2.f_Has, pack 36 Sapi_Dec.zero t54.2.f_D⟩ : Spyxref11_Rates) y52.2.2.2.2.2.2.2.1 y52.2.2.2.2.2.2.2.2.1).bind fun t56 => (((cond (!((t55.1.f_Neg == t56.1.f_Neg) && ((t55.1.f_C.1 == t56.1.f_C.1) && ((t55.1.f_C.2 == t56.1.f_C.2) && (t55.1.f_Scale == t56.1.f_Scale))))) (some (y52.1, y52.2.1, y52.2.2.1, y52.2.2.2.1, y52.2.2.2.2.1, true, t55.2.2.f_l, (⟨pack 36 false t56.2.2.f_Has, pack 36 Sapi_Dec.zero t56.2.2.f_D⟩ : Spyxref11_Rates))) (some (y52.1, y52.2.1, y52.2.2.1, y52.2.2.2.1, y52.2.2.2.2.1, t55.2.1 != t56.2.1, t55.2.2.f_l, (⟨pack 36 false t56.2.2.f_Has, pack 36 Sapi_Dec.zero t56.2.2.f_D⟩ : Spyxref11_Rates)))) : Option (List Int × List Int × List Int × Int × Int × Bool × List (Srate_Key × Sapi_Dec) × Spyxref11_Rates)).bind fun y65 => (cond (y65.2.2.2.2.2.1) (some (.inr (.inr false))) (some (.inl (y65.1, y65.2.1, y65.2.2.1, y65.2.2.2.1, IntKind.wrap .i64 (y65.2.2.2.2.1 + 1), y65.2.2.2.2.2.2.1, (⟨pack 36 false y65.2.2.2.2.2.2.2.f_Has, pack 36 Sapi_Dec.zero y65.2.2.2.2.2.2.2.f_D⟩ : Spyxref11_Rates))))))))))))))))) none) (some (.inr (.inl (x12, (⟨pack 36 false x13.f_Has, pack 36 Sapi_Dec.zero x13.f_D⟩ : Spyxref11_Rates)))))
noncomputable def pyxlaw16_RateTells.l25.once (k : Nat) (x : (Int × List Srate_Key × Int × Int × List (Srate_Key × Sapi_Dec) × Spyxref11_Rates)) : Option ((Int × List Srate_Key × Int × Int × List (Srate_Key × Sapi_Dec) × Spyxref11_Rates) ⊕ ((Int × List Srate_Key × Int × List (Srate_Key × Sapi_Dec) × Spyxref11_Rates) ⊕ Bool)) := match x with | (x78, x79, x80, x81, x76, x77) => cond (decide (x81 < 3)) ((((rate_Table_Get.f k (⟨x76⟩ : Srate_Table) (⟨x80, x81⟩ : Srate_Key)).bind fun t82 => ((pyxref11_Rates_Get.f k (⟨pack 36 false x77.f_Has, pack 36 Sapi_Dec.zero x77.f_D⟩ : Spyxref11_Rates) x80 x81).bind fun t83 => (((cond (!((t82.1.f_Neg == t83.1.f_Neg) && ((t82.1.f_C.1 == t83.1.f_C.1) && ((t82.1.f_C.2 == t83.1.f_C.2) && (t82.1.f_Scale == t83.1.f_Scale))))) (some (x78, x79, x80, x81, t82.2.1, true, t82.2.2.f_l, (⟨pack 36 false t83.2.2.f_Has, pack 36 Sapi_Dec.zero t83.2.2.f_D⟩ : Spyxref11_Rates))) (cond (t82.2.1 != t83.2.1) (some (x78, x79, x80, x81, t82.2.1, true, t82.2.2.f_l, (⟨pack 36 false t83.2.2.f_Has, pack 36 Sapi_Dec.zero t83.2.2.f_D⟩ : Spyxref11_Rates))) (cond (t82.2.1 == 0) (cond (decide (x78 ≥ (List.length x79 : Int))) (some (x78, x79, x80, x81, t82.2.1, true, t82.2.2.f_l, (⟨pack 36 false t83.2.2.f_Has, pack 36 Sapi_Dec.zero t83.2.2.f_D⟩ : Spyxref11_Rates))) (cond (inb x78 (List.length x79)) (some (x78, x79, x80, x81, t82.2.1, !((((List.getD x79 (Int.toNat x78) Srate_Key.zero).f_Period) == x80) && (((List.getD x79 (Int.toNat x78) Srate_Key.zero).f_Kind) == x81)), t82.2.2.f_l, (⟨pack 36 false t83.2.2.f_Has, pack 36 Sapi_Dec.zero t83.2.2.f_D⟩ : Spyxref11_Rates))) none)) (some (x78, x79, x80, x81, t82.2.1, false, t82.2.2.f_l, (⟨pack 36 false t83.2.2.f_Has, pack 36 Sapi_Dec.zero t83.2.2.f_D⟩ : Spyxref11_Rates)))))) : Option (Int × List Srate_Key × Int × Int × Int × Bool × List (Srate_Key × Sapi_Dec) × Spyxref11_Rates)).bind fun y92 => (cond (y92.2.2.2.2.2.1) (some (.inr false)) (cond (y92.2.2.2.2.1 == 0) (some (.inl (IntKind.wrap .i64 (y92.1 + 1), y92.2.1, y92.2.2.1, y92.2.2.2.1, y92.2.2.2.2.2.2.1, (⟨pack 36 false y92.2.2.2.2.2.2.2.f_Has, pack 36 Sapi_Dec.zero y92.2.2.2.2.2.2.2.f_D⟩ : Spyxref11_Rates)))) (some (.inl (y92.1, y92.2.1, y92.2.2.1, y92.2.2.2.1, y92.2.2.2.2.2.2.1, (⟨pack 36 false y92.2.2.2.2.2.2.2.f_Has, pack 36 Sapi_Dec.zero y92.2.2.2.2.2.2.2.f_D⟩ : Spyxref11_Rates))))))))) : Option ((Int × List Srate_Key × Int × Int × List (Srate_Key × Sapi_Dec) × Spyxref11_Rates) ⊕ Bool)).bind fun | .inl y100 => (some (.inl (y100.1, y100.2.1, y100.2.2.1, IntKind.wrap .i64 (y100.2.2.2.1 + 1), y100.2.2.2.2.1, (⟨pack 36 false y100.2.2.2.2.2.f_Has, pack 36 Sapi_Dec.zero y100.2.2.2.2.2.f_D⟩ : Spyxref11_Rates)))) | .inr y101 => (some (.inr (.inr y101)))) (some (.inr (.inl (x78, x79, x80, x76, (⟨pack 36 false x77.f_Has, pack 36 Sapi_Dec.zero x77.f_D⟩ : Spyxref11_Rates)))))
noncomputable def pyxlaw16_RateTells.l22.once (k : Nat) (x : (Int × List Srate_Key × Int × List (Srate_Key × Sapi_Dec) × Spyxref11_Rates)) : Option ((Int × List Srate_Key × Int × List (Srate_Key × Sapi_Dec) × Spyxref11_Rates) ⊕ ((Int × List Srate_Key) ⊕ Bool)) := match x with | (x73, x74, x75, x71, x72) => cond (decide (x75 < 12)) ((iter (pyxlaw16_RateTells.l25.once k) k (x73, x74, x75, 0, x71, (⟨pack 36 false x72.f_Has, pack 36 Sapi_Dec.zero x72.f_D⟩ : Spyxref11_Rates))).bind fun | .inl y108 => (some (.inl (y108.1, y108.2.1, IntKind.wrap .i64 (y108.2.2.1 + 1), y108.2.2.2.1, (⟨pack 36 false y108.2.2.2.2.f_Has, pack 36 Sapi_Dec.zero y108.2.2.2.2.f_D⟩ : Spyxref11_Rates)))) | .inr y109 => (some (.inr (.inr y109)))) (some (.inr (.inl (x73, x74))))
noncomputable def pyxlaw16_RateTells.f (k : Nat) (a0 : List Int) (a1 : List Int) (a2 : List Int) : Option Bool := (rate_New.f k).bind fun t1 => ((((pyxlaw16_known.f k).bind fun t2 => (cond (!t2) (some (a0, a1, a2, true, t1.f_l, (⟨[false, false, false, false, false, false, false, false, false, false, false, false, false, false, false, false, false, false, false, false, false, false, false, false, false, false, false, false, false, false, false, false, false, false, false, false], [(⟨false, (0, 0), 0⟩ : Sapi_Dec), (⟨false, (0, 0), 0⟩ : Sapi_Dec), (⟨false, (0, 0), 0⟩ : Sapi_Dec), (⟨false, (0, 0), 0⟩ : Sapi_Dec), (⟨false, (0, 0), 0⟩ : Sapi_Dec), (⟨false, (0, 0), 0⟩ : Sapi_Dec), (⟨false, (0, 0), 0⟩ : Sapi_Dec), (⟨false, (0, 0), 0⟩ : Sapi_Dec), (⟨false, (0, 0), 0⟩ : Sapi_Dec), (⟨false, (0, 0), 0⟩ : Sapi_Dec), (⟨false, (0, 0), 0⟩ : Sapi_Dec), (⟨false, (0, 0), 0⟩ : Sapi_Dec), (⟨false, (0, 0), 0⟩ : Sapi_Dec), (⟨false, (0, 0), 0⟩ : Sapi_Dec), (⟨false, (0, 0), 0⟩ : Sapi_Dec), (⟨false, (0, 0), 0⟩ : Sapi_Dec), (⟨false, (0, 0), 0⟩ : Sapi_Dec), (⟨false, (0, 0), 0⟩ : Sapi_Dec), (⟨false, (0, 0), 0⟩ : Sapi_Dec), (⟨false, (0, 0), 0⟩ : Sapi_Dec), (⟨false, (0, 0), 0⟩ : Sapi_Dec), (⟨false, (0, 0), 0⟩ : Sapi_Dec), (⟨false, (0, 0), 0⟩ : Sapi_Dec), (⟨false, (0, 0), 0⟩ : Sapi_Dec), (⟨false, (0, 0), 0⟩ : Sapi_Dec), (⟨false, (0, 0), 0⟩ : Sapi_Dec), (⟨false, (0, 0), 0⟩ : Sapi_Dec), (⟨false, (0, 0), 0⟩ : Sapi_Dec), (⟨false, (0, 0), 0⟩ : Sapi_Dec), (⟨false, (0, 0), 0⟩ : Sapi_Dec), (⟨false, (0, 0), 0⟩ : Sapi_Dec), (⟨false, (0, 0), 0⟩ : Sapi_Dec), (⟨false, (0, 0), 0⟩ : Sapi_Dec), (⟨false, (0, 0), 0⟩ : Sapi_Dec), (⟨false, (0, 0), 0⟩ : Sapi_Dec), (⟨false, (0, 0), 0⟩ : Sapi_Dec)]⟩ : Spyxref11_Rates))) (some (a0, a1, a2, false, t1.f_l, (⟨[false, false, false, false, false, false, false, false, false, false, false, false, false, false, false, false, false, false, false, false, false, false, false, false, false, false, false, false, false, false, false, false, false, false, false, false], [(⟨false, (0, 0), 0⟩ : Sapi_Dec), (⟨false, (0, 0), 0⟩ : Sapi_Dec), (⟨false, (0, 0), 0⟩ : Sapi_Dec), (⟨false, (0, 0), 0⟩ : Sapi_Dec), (⟨false, (0, 0), 0⟩ : Sapi_Dec), (⟨false, (0, 0), 0⟩ : Sapi_Dec), (⟨false, (0, 0), 0⟩ : Sapi_Dec), (⟨false, (0, 0), 0⟩ : Sapi_Dec), (⟨false, (0, 0), 0⟩ : Sapi_Dec), (⟨false, (0, 0), 0⟩ : Sapi_Dec), (⟨false, (0, 0), 0⟩ : Sapi_Dec), (⟨false, (0, 0), 0⟩ : Sapi_Dec), (⟨false, (0, 0), 0⟩ : Sapi_Dec), (⟨false, (0, 0), 0⟩ : Sapi_Dec), (⟨false, (0, 0), 0⟩ : Sapi_Dec), (⟨false, (0, 0), 0⟩ : Sapi_Dec), (⟨false, (0, 0), 0⟩ : Sapi_Dec), (⟨false, (0, 0), 0⟩ : Sapi_Dec), (⟨false, (0, 0), 0⟩ : Sapi_Dec), (⟨false, (0, 0), 0⟩ : Sapi_Dec), (⟨false, (0, 0), 0⟩ : Sapi_Dec), (⟨false, (0, 0), 0⟩ : Sapi_Dec), (⟨false, (0, 0), 0⟩ : Sapi_Dec), (⟨false, (0, 0), 0⟩ : Sapi_Dec), (⟨false, (0, 0), 0⟩ : Sapi_Dec), (⟨false, (0, 0), 0⟩ : Sapi_Dec), (⟨false, (0, 0), 0⟩ : Sapi_Dec), (⟨false, (0, 0), 0⟩ : Sapi_Dec), (⟨false, (0, 0), 0⟩ : Sapi_Dec), (⟨false, (0, 0), 0⟩ : Sapi_Dec), (⟨false, (0, 0), 0⟩ : Sapi_Dec), (⟨false, (0, 0), 0⟩ : Sapi_Dec), (⟨false, (0, 0), 0⟩ : Sapi_Dec), (⟨false, (0, 0), 0⟩ : Sapi_Dec), (⟨false, (0, 0), 0⟩ : Sapi_Dec), (⟨false, (0, 0), 0⟩ : Sapi_Dec)]⟩ : Spyxref11_Rates))))) : Option (List Int × List Int × List Int × Bool × List (Srate_Key × Sapi_Dec) × Spyxref11_Rates)).bind fun y9 => (cond (y9.2.2.2.1) (some false) ((iter (pyxlaw16_RateTells.l6.once k) k (y9.2.1, y9.2.2.1, y9.1, (List.length y9.1 : Int), 0, y9.2.2.2.2.1, (⟨pack 36 false y9.2.2.2.2.2.f_Has, pack 36 Sapi_Dec.zero y9.2.2.2.2.2.f_D⟩ : Spyxref11_Rates))).bind fun | .inl y69 => ((rate_Table_Keys.f k (⟨y69.1⟩ : Srate_Table)).bind fun t70 => ((iter (pyxlaw16_RateTells.l22.once k) k (0, t70.1, 0, t70.2.f_l, (⟨pack 36 false y69.2.f_Has, pack 36 Sapi_Dec.zero y69.2.f_D⟩ : Spyxref11_Rates))).bind fun | .inl y113 => (some (y113.1 == (List.length y113.2 : Int))) | .inr y114 => (some y114))) | .inr y115 => (some y115))))
noncomputable def pyxlaw16_RateTells.un (s : St U) : Option (List Int × List Int × List Int) := match s.get 0, s.get 1, s.get 2 with | .row C.i64 x1, .row C.i64 x2, .row C.i64 x3 => some (x1, x2, x3) | _, _, _ => none
noncomputable def pyxlaw16_RateTells.mk (x : (List Int × List Int × List Int)) : St U := ⟨[(0, .row C.i64 x.1), (1, .row C.i64 x.2.1), (2, .row C.i64 x.2.2)], []⟩
noncomputable def pyxlaw16_RateTells.fin (y : Bool) : St U := ⟨[(0, .flat (.bool y))], []⟩
noncomputable def pyxlaw16_RateTells.D (k : Nat) : FDen U := { X := (List Int × List Int × List Int), Y := Bool, nt := 170, gh := [], un := pyxlaw16_RateTells.un, f := fun x => pyxlaw16_RateTells.f k (x.1) (x.2.1) (x.2.2), fin := pyxlaw16_RateTells.fin, cl := true, clo := fun _ _ => rfl }
noncomputable def pyxlaw16_RateTells.re (s : St U) : Option Bool := match s.get 0 with | .flat (.bool x1) => some x1 | _ => none
noncomputable def pyxlaw16_RateTells.l6.mk (x : (List Int × List Int × List Int × Int × Int × List (Srate_Key × Sapi_Dec) × Spyxref11_Rates)) : St U := match x with | (x10, x11, x14, x15, x16, x12, x13) => ⟨[(7, .ptr 260000000000003 0), (8, .ptr 27 0), (1, .row C.i64 x10), (2, .row C.i64 x11), (34, .row C.i64 x14), (35, .flat (.int .i64 x15)), (36, .flat (.int .i64 x16))], [(260000000000003, .lit [.mp 26000002000600300]), (26000002000600300, .map true true true C.Srate_Key C.Sapi_Dec x12), (27, .lit (cd_Spyxref11_Rates.enc x13))]⟩
noncomputable def pyxlaw16_RateTells.l6.un (s : St U) : Option (List Int × List Int × List Int × Int × Int × List (Srate_Key × Sapi_Dec) × Spyxref11_Rates) := (row_i64 (s.get 1)).bind fun q0 => ((row_i64 (s.get 2)).bind fun q1 => ((row_i64 (s.get 34)).bind fun q2 => ((Cd.ofLit cd_Spyxref11_Rates s.o 27).bind fun q3 => (match s.get 7, s.get 8, s.get 35, s.get 36, lk s.o 260000000000003 with | .ptr 260000000000003 0, .ptr 27 0, .flat (.int .i64 x15), .flat (.int .i64 x16), some (.lit [u260000000000003_0]) => (map_Srate_Key_Sapi_Dec_t s.o u260000000000003_0).bind fun w260000000000003_0 => (some (q0, q1, q2, x15, x16, w260000000000003_0.2, q3)) | _, _, _, _, _ => none))))
noncomputable def pyxlaw16_RateTells.l6.fin (y : (List (Srate_Key × Sapi_Dec) × Spyxref11_Rates) ⊕ Bool) : Out U := match y with | .inl (x66, x67) => .exit 0 ⟨[(7, .ptr 260000000000003 0), (8, .ptr 27 0)], [(260000000000003, .lit [.mp 26000002000600300]), (26000002000600300, .map true true true C.Srate_Key C.Sapi_Dec x66), (27, .lit (cd_Spyxref11_Rates.enc x67))]⟩ | .inr z => .ret (⟨[(0, .flat (.bool z))], []⟩)
noncomputable def pyxlaw16_RateTells.l6.finK {ρ : Type} (y : (List (Srate_Key × Sapi_Dec) × Spyxref11_Rates) ⊕ Bool) (K : Out U → Option ρ) : Option ρ := match y with | .inl (x66, x67) => K (.exit 0 ⟨[(7, .ptr 260000000000003 0), (8, .ptr 27 0)], [(260000000000003, .lit [.mp 26000002000600300]), (26000002000600300, .map true true true C.Srate_Key C.Sapi_Dec x66), (27, .lit (cd_Spyxref11_Rates.enc x67))]⟩) | .inr z => K (.ret (⟨[(0, .flat (.bool z))], []⟩))
theorem pyxlaw16_RateTells.l6.finK_eq {ρ : Type} (y : (List (Srate_Key × Sapi_Dec) × Spyxref11_Rates) ⊕ Bool) (K : Out U → Option ρ) : pyxlaw16_RateTells.l6.finK y K = K (pyxlaw16_RateTells.l6.fin y) := by
  unfold pyxlaw16_RateTells.l6.finK pyxlaw16_RateTells.l6.fin
  first | rfl | (split <;> rfl)
noncomputable def pyxlaw16_RateTells.l6.re : Out U → Option ((List (Srate_Key × Sapi_Dec) × Spyxref11_Rates) ⊕ Bool) | .exit 0 s => ((Cd.ofLit cd_Spyxref11_Rates s.o 27).bind fun q0 => (match s.get 7, s.get 8, lk s.o 260000000000003 with | .ptr 260000000000003 0, .ptr 27 0, some (.lit [u260000000000003_0]) => (map_Srate_Key_Sapi_Dec_t s.o u260000000000003_0).bind fun w260000000000003_0 => (some (.inl (w260000000000003_0.2, q0))) | _, _, _ => none)) | .ret s => (match s.get 0 with | .flat (.bool x1) => some (.inr x1) | _ => none) | _ => none
noncomputable def pyxlaw16_RateTells.l6.L (k : Nat) : LDen U := { X := (List Int × List Int × List Int × Int × Int × List (Srate_Key × Sapi_Dec) × Spyxref11_Rates), Y := (List (Srate_Key × Sapi_Dec) × Spyxref11_Rates) ⊕ Bool, un := pyxlaw16_RateTells.l6.un, f := iter (pyxlaw16_RateTells.l6.once k) k, fin := pyxlaw16_RateTells.l6.fin, finK := pyxlaw16_RateTells.l6.finK, finK_eq := pyxlaw16_RateTells.l6.finK_eq }
noncomputable def pyxlaw16_RateTells.l25.mk (x : (Int × List Srate_Key × Int × Int × List (Srate_Key × Sapi_Dec) × Spyxref11_Rates)) : St U := match x with | (x78, x79, x80, x81, x76, x77) => ⟨[(7, .ptr 260000000000003 0), (8, .ptr 27 0), (17, .flat (.int .i64 x78)), (18, .row C.Srate_Key x79), (19, .flat (.int .i64 x80)), (20, .flat (.int .i64 x81))], [(260000000000003, .lit [.mp 26000002002500300]), (26000002002500300, .map true true true C.Srate_Key C.Sapi_Dec x76), (27, .lit (cd_Spyxref11_Rates.enc x77))]⟩
noncomputable def pyxlaw16_RateTells.l25.un (s : St U) : Option (Int × List Srate_Key × Int × Int × List (Srate_Key × Sapi_Dec) × Spyxref11_Rates) := (row_Srate_Key (s.get 18)).bind fun q0 => ((Cd.ofLit cd_Spyxref11_Rates s.o 27).bind fun q1 => (match s.get 7, s.get 8, s.get 17, s.get 19, s.get 20, lk s.o 260000000000003 with | .ptr 260000000000003 0, .ptr 27 0, .flat (.int .i64 x78), .flat (.int .i64 x80), .flat (.int .i64 x81), some (.lit [u260000000000003_0]) => (map_Srate_Key_Sapi_Dec_t s.o u260000000000003_0).bind fun w260000000000003_0 => (some (x78, q0, x80, x81, w260000000000003_0.2, q1)) | _, _, _, _, _, _ => none))
noncomputable def pyxlaw16_RateTells.l25.fin (y : (Int × List Srate_Key × Int × List (Srate_Key × Sapi_Dec) × Spyxref11_Rates) ⊕ Bool) : Out U := match y with | .inl (x104, x105, x106, x102, x103) => .exit 4 ⟨[(7, .ptr 260000000000003 0), (8, .ptr 27 0), (17, .flat (.int .i64 x104)), (18, .row C.Srate_Key x105), (19, .flat (.int .i64 x106))], [(260000000000003, .lit [.mp 26000002002500300]), (26000002002500300, .map true true true C.Srate_Key C.Sapi_Dec x102), (27, .lit (cd_Spyxref11_Rates.enc x103))]⟩ | .inr z => .ret (⟨[(0, .flat (.bool z))], []⟩)
noncomputable def pyxlaw16_RateTells.l25.finK {ρ : Type} (y : (Int × List Srate_Key × Int × List (Srate_Key × Sapi_Dec) × Spyxref11_Rates) ⊕ Bool) (K : Out U → Option ρ) : Option ρ := match y with | .inl (x104, x105, x106, x102, x103) => K (.exit 4 ⟨[(7, .ptr 260000000000003 0), (8, .ptr 27 0), (17, .flat (.int .i64 x104)), (18, .row C.Srate_Key x105), (19, .flat (.int .i64 x106))], [(260000000000003, .lit [.mp 26000002002500300]), (26000002002500300, .map true true true C.Srate_Key C.Sapi_Dec x102), (27, .lit (cd_Spyxref11_Rates.enc x103))]⟩) | .inr z => K (.ret (⟨[(0, .flat (.bool z))], []⟩))
theorem pyxlaw16_RateTells.l25.finK_eq {ρ : Type} (y : (Int × List Srate_Key × Int × List (Srate_Key × Sapi_Dec) × Spyxref11_Rates) ⊕ Bool) (K : Out U → Option ρ) : pyxlaw16_RateTells.l25.finK y K = K (pyxlaw16_RateTells.l25.fin y) := by
  unfold pyxlaw16_RateTells.l25.finK pyxlaw16_RateTells.l25.fin
  first | rfl | (split <;> rfl)
noncomputable def pyxlaw16_RateTells.l25.re : Out U → Option ((Int × List Srate_Key × Int × List (Srate_Key × Sapi_Dec) × Spyxref11_Rates) ⊕ Bool) | .exit 4 s => ((row_Srate_Key (s.get 18)).bind fun q0 => ((Cd.ofLit cd_Spyxref11_Rates s.o 27).bind fun q1 => (match s.get 7, s.get 8, s.get 17, s.get 19, lk s.o 260000000000003 with | .ptr 260000000000003 0, .ptr 27 0, .flat (.int .i64 x104), .flat (.int .i64 x106), some (.lit [u260000000000003_0]) => (map_Srate_Key_Sapi_Dec_t s.o u260000000000003_0).bind fun w260000000000003_0 => (some (.inl (x104, q0, x106, w260000000000003_0.2, q1))) | _, _, _, _, _ => none))) | .ret s => (match s.get 0 with | .flat (.bool x1) => some (.inr x1) | _ => none) | _ => none
noncomputable def pyxlaw16_RateTells.l25.L (k : Nat) : LDen U := { X := (Int × List Srate_Key × Int × Int × List (Srate_Key × Sapi_Dec) × Spyxref11_Rates), Y := (Int × List Srate_Key × Int × List (Srate_Key × Sapi_Dec) × Spyxref11_Rates) ⊕ Bool, un := pyxlaw16_RateTells.l25.un, f := iter (pyxlaw16_RateTells.l25.once k) k, fin := pyxlaw16_RateTells.l25.fin, finK := pyxlaw16_RateTells.l25.finK, finK_eq := pyxlaw16_RateTells.l25.finK_eq }
noncomputable def pyxlaw16_RateTells.l22.mk (x : (Int × List Srate_Key × Int × List (Srate_Key × Sapi_Dec) × Spyxref11_Rates)) : St U := match x with | (x73, x74, x75, x71, x72) => ⟨[(7, .ptr 260000000000003 0), (8, .ptr 27 0), (17, .flat (.int .i64 x73)), (18, .row C.Srate_Key x74), (19, .flat (.int .i64 x75))], [(260000000000003, .lit [.mp 26000002002200300]), (26000002002200300, .map true true true C.Srate_Key C.Sapi_Dec x71), (27, .lit (cd_Spyxref11_Rates.enc x72))]⟩
noncomputable def pyxlaw16_RateTells.l22.un (s : St U) : Option (Int × List Srate_Key × Int × List (Srate_Key × Sapi_Dec) × Spyxref11_Rates) := (row_Srate_Key (s.get 18)).bind fun q0 => ((Cd.ofLit cd_Spyxref11_Rates s.o 27).bind fun q1 => (match s.get 7, s.get 8, s.get 17, s.get 19, lk s.o 260000000000003 with | .ptr 260000000000003 0, .ptr 27 0, .flat (.int .i64 x73), .flat (.int .i64 x75), some (.lit [u260000000000003_0]) => (map_Srate_Key_Sapi_Dec_t s.o u260000000000003_0).bind fun w260000000000003_0 => (some (x73, q0, x75, w260000000000003_0.2, q1)) | _, _, _, _, _ => none))
noncomputable def pyxlaw16_RateTells.l22.fin (y : (Int × List Srate_Key) ⊕ Bool) : Out U := match y with | .inl (x110, x111) => .exit 2 ⟨[(17, .flat (.int .i64 x110)), (18, .row C.Srate_Key x111)], []⟩ | .inr z => .ret (⟨[(0, .flat (.bool z))], []⟩)
noncomputable def pyxlaw16_RateTells.l22.finK {ρ : Type} (y : (Int × List Srate_Key) ⊕ Bool) (K : Out U → Option ρ) : Option ρ := match y with | .inl (x110, x111) => K (.exit 2 ⟨[(17, .flat (.int .i64 x110)), (18, .row C.Srate_Key x111)], []⟩) | .inr z => K (.ret (⟨[(0, .flat (.bool z))], []⟩))
theorem pyxlaw16_RateTells.l22.finK_eq {ρ : Type} (y : (Int × List Srate_Key) ⊕ Bool) (K : Out U → Option ρ) : pyxlaw16_RateTells.l22.finK y K = K (pyxlaw16_RateTells.l22.fin y) := by
  unfold pyxlaw16_RateTells.l22.finK pyxlaw16_RateTells.l22.fin
  first | rfl | (split <;> rfl)
noncomputable def pyxlaw16_RateTells.l22.re : Out U → Option ((Int × List Srate_Key) ⊕ Bool) | .exit 2 s => ((row_Srate_Key (s.get 18)).bind fun q0 => (match s.get 17 with | .flat (.int .i64 x110) => some (.inl (x110, q0)) | _ => none)) | .ret s => (match s.get 0 with | .flat (.bool x1) => some (.inr x1) | _ => none) | _ => none
noncomputable def pyxlaw16_RateTells.l22.L (k : Nat) : LDen U := { X := (Int × List Srate_Key × Int × List (Srate_Key × Sapi_Dec) × Spyxref11_Rates), Y := (Int × List Srate_Key) ⊕ Bool, un := pyxlaw16_RateTells.l22.un, f := iter (pyxlaw16_RateTells.l22.once k) k, fin := pyxlaw16_RateTells.l22.fin, finK := pyxlaw16_RateTells.l22.finK, finK_eq := pyxlaw16_RateTells.l22.finK_eq }
noncomputable def pyxlaw16_RateTells.j3000.fin (y : (List Int × List Int × List Int × Bool × List (Srate_Key × Sapi_Dec) × Spyxref11_Rates)) : Out U := match y with | (x3, x4, x5, x8, x6, x7) => .norm ⟨[(7, .ptr 260000000000003 0), (8, .ptr 27 0), (0, .row C.i64 x3), (1, .row C.i64 x4), (2, .row C.i64 x5), (33, .flat (.bool x8))], [(260000000000003, .lit [.mp 26000102300000300]), (26000102300000300, .map true true true C.Srate_Key C.Sapi_Dec x6), (27, .lit (cd_Spyxref11_Rates.enc x7))]⟩
noncomputable def pyxlaw16_RateTells.j3000.finK {ρ : Type} (y : (List Int × List Int × List Int × Bool × List (Srate_Key × Sapi_Dec) × Spyxref11_Rates)) (K : Out U → Option ρ) : Option ρ := match y with | (x3, x4, x5, x8, x6, x7) => K (.norm ⟨[(7, .ptr 260000000000003 0), (8, .ptr 27 0), (0, .row C.i64 x3), (1, .row C.i64 x4), (2, .row C.i64 x5), (33, .flat (.bool x8))], [(260000000000003, .lit [.mp 26000102300000300]), (26000102300000300, .map true true true C.Srate_Key C.Sapi_Dec x6), (27, .lit (cd_Spyxref11_Rates.enc x7))]⟩)
theorem pyxlaw16_RateTells.j3000.finK_eq {ρ : Type} (y : (List Int × List Int × List Int × Bool × List (Srate_Key × Sapi_Dec) × Spyxref11_Rates)) (K : Out U → Option ρ) : pyxlaw16_RateTells.j3000.finK y K = K (pyxlaw16_RateTells.j3000.fin y) := by
  unfold pyxlaw16_RateTells.j3000.finK pyxlaw16_RateTells.j3000.fin
  first | rfl | (split <;> rfl)
noncomputable def pyxlaw16_RateTells.j3000.re : Out U → Option ((List Int × List Int × List Int × Bool × List (Srate_Key × Sapi_Dec) × Spyxref11_Rates)) | .norm s => ((row_i64 (s.get 0)).bind fun q0 => ((row_i64 (s.get 1)).bind fun q1 => ((row_i64 (s.get 2)).bind fun q2 => ((Cd.ofLit cd_Spyxref11_Rates s.o 27).bind fun q3 => (match s.get 7, s.get 8, s.get 33, lk s.o 260000000000003 with | .ptr 260000000000003 0, .ptr 27 0, .flat (.bool x8), some (.lit [u260000000000003_0]) => (map_Srate_Key_Sapi_Dec_t s.o u260000000000003_0).bind fun w260000000000003_0 => (some (q0, q1, q2, x8, w260000000000003_0.2, q3)) | _, _, _, _ => none))))) | _ => none
noncomputable def pyxlaw16_RateTells.j3000.J : JDen U := { Y := (List Int × List Int × List Int × Bool × List (Srate_Key × Sapi_Dec) × Spyxref11_Rates), re := pyxlaw16_RateTells.j3000.re, fin := pyxlaw16_RateTells.j3000.fin, finK := pyxlaw16_RateTells.j3000.finK, finK_eq := pyxlaw16_RateTells.j3000.finK_eq }
theorem pyxlaw16_RateTells.j3000.fit (o : Out U) (y : (List Int × List Int × List Int × Bool × List (Srate_Key × Sapi_Dec) × Spyxref11_Rates)) (h : pyxlaw16_RateTells.j3000.re o = some y) : FitsO o (pyxlaw16_RateTells.j3000.fin y) := by
  unfold pyxlaw16_RateTells.j3000.re at h
  split at h
  · obtain ⟨q0, eq0, h1⟩ := Option.bind_eq_some_iff.1 h
    obtain ⟨q1, eq1, h2⟩ := Option.bind_eq_some_iff.1 h1
    obtain ⟨q2, eq2, h3⟩ := Option.bind_eq_some_iff.1 h2
    obtain ⟨q3, eq3, h4⟩ := Option.bind_eq_some_iff.1 h3
    split at h4
    · obtain ⟨w260000000000003_0, ew260000000000003_0, h5⟩ := Option.bind_eq_some_iff.1 h4
      cases h5
      refine fitsO_norm (fits_ren [(26000102300000300, w260000000000003_0.1)] ?_ ?_ ren_one rfl)
      · exact List.forall_mem_cons.2 ⟨FV.one (FV.ptr (by assumption)), List.forall_mem_cons.2 ⟨FV.one (FV.ptr (by assumption)), List.forall_mem_cons.2 ⟨FV.one (row_i64_fit eq0), List.forall_mem_cons.2 ⟨FV.one (row_i64_fit eq1), List.forall_mem_cons.2 ⟨FV.one (row_i64_fit eq2), List.forall_mem_cons.2 ⟨FV.one (FV.same (by assumption) rfl), fun _ hp => (List.not_mem_nil hp).elim⟩⟩⟩⟩⟩⟩
      · exact List.forall_mem_cons.2 ⟨(FO.cells (show lk (St.o _) 260000000000003 = some _ from by assumption) (FCs.cons ((map_Srate_Key_Sapi_Dec_t_fit ew260000000000003_0 rfl).1) (FCs.nil))), List.forall_mem_cons.2 ⟨(map_Srate_Key_Sapi_Dec_t_fit ew260000000000003_0 rfl).2, List.forall_mem_cons.2 ⟨(FO.same (Cd.ofLit_ok eq3) rfl), fun _ hp => (List.not_mem_nil hp).elim⟩⟩⟩
    · cases h4
  · cases h
noncomputable def pyxlaw16_RateTells.j10000.fin (y : (List Int × List Int × Int × Int × List Int × Int × Int × Bool × List (Srate_Key × Sapi_Dec) × Spyxref11_Rates × Int × Int × Bool × Int × Int × Int)) : Out U := match y with | (x21, x22, x25, x26, x33, x34, x35, x36, x23, x24, x27, x28, x29, x30, x31, x32) => .norm ⟨[(7, .ptr 260000000000003 0), (8, .ptr 27 0), (11, .ptr 11 0), (12, .ptr 12 0), (1, .row C.i64 x21), (2, .row C.i64 x22), (9, .flat (.int .i64 x25)), (10, .flat (.int .i64 x26)), (34, .row C.i64 x33), (35, .flat (.int .i64 x34)), (36, .flat (.int .i64 x35)), (62, .flat (.bool x36))], [(260000000000003, .lit [.mp 26000103000000300]), (26000103000000300, .map true true true C.Srate_Key C.Sapi_Dec x23), (27, .lit (cd_Spyxref11_Rates.enc x24)), (11, .lit [.flat (.int .i64 x27), .flat (.int .i64 x28)]), (12, .lit [.flat (.bool x29), .flat (.int .u64 x30), .flat (.int .u64 x31), .flat (.int .i64 x32)])]⟩
noncomputable def pyxlaw16_RateTells.j10000.finK {ρ : Type} (y : (List Int × List Int × Int × Int × List Int × Int × Int × Bool × List (Srate_Key × Sapi_Dec) × Spyxref11_Rates × Int × Int × Bool × Int × Int × Int)) (K : Out U → Option ρ) : Option ρ := match y with | (x21, x22, x25, x26, x33, x34, x35, x36, x23, x24, x27, x28, x29, x30, x31, x32) => K (.norm ⟨[(7, .ptr 260000000000003 0), (8, .ptr 27 0), (11, .ptr 11 0), (12, .ptr 12 0), (1, .row C.i64 x21), (2, .row C.i64 x22), (9, .flat (.int .i64 x25)), (10, .flat (.int .i64 x26)), (34, .row C.i64 x33), (35, .flat (.int .i64 x34)), (36, .flat (.int .i64 x35)), (62, .flat (.bool x36))], [(260000000000003, .lit [.mp 26000103000000300]), (26000103000000300, .map true true true C.Srate_Key C.Sapi_Dec x23), (27, .lit (cd_Spyxref11_Rates.enc x24)), (11, .lit [.flat (.int .i64 x27), .flat (.int .i64 x28)]), (12, .lit [.flat (.bool x29), .flat (.int .u64 x30), .flat (.int .u64 x31), .flat (.int .i64 x32)])]⟩)
theorem pyxlaw16_RateTells.j10000.finK_eq {ρ : Type} (y : (List Int × List Int × Int × Int × List Int × Int × Int × Bool × List (Srate_Key × Sapi_Dec) × Spyxref11_Rates × Int × Int × Bool × Int × Int × Int)) (K : Out U → Option ρ) : pyxlaw16_RateTells.j10000.finK y K = K (pyxlaw16_RateTells.j10000.fin y) := by
  unfold pyxlaw16_RateTells.j10000.finK pyxlaw16_RateTells.j10000.fin
  first | rfl | (split <;> rfl)
noncomputable def pyxlaw16_RateTells.j10000.re : Out U → Option ((List Int × List Int × Int × Int × List Int × Int × Int × Bool × List (Srate_Key × Sapi_Dec) × Spyxref11_Rates × Int × Int × Bool × Int × Int × Int)) | .norm s => ((row_i64 (s.get 1)).bind fun q0 => ((row_i64 (s.get 2)).bind fun q1 => ((row_i64 (s.get 34)).bind fun q2 => ((Cd.ofLit cd_Spyxref11_Rates s.o 27).bind fun q3 => (match s.get 7, s.get 8, s.get 11, s.get 12, s.get 9, s.get 10, s.get 35, s.get 36, s.get 62, lk s.o 260000000000003, lk s.o 11, lk s.o 12 with | .ptr 260000000000003 0, .ptr 27 0, .ptr 11 0, .ptr 12 0, .flat (.int .i64 x25), .flat (.int .i64 x26), .flat (.int .i64 x34), .flat (.int .i64 x35), .flat (.bool x36), some (.lit [u260000000000003_0]), some (.lit [.flat (.int .i64 x27), .flat (.int .i64 x28)]), some (.lit [.flat (.bool x29), .flat (.int .u64 x30), .flat (.int .u64 x31), .flat (.int .i64 x32)]) => (map_Srate_Key_Sapi_Dec_t s.o u260000000000003_0).bind fun w260000000000003_0 => (some (q0, q1, x25, x26, q2, x34, x35, x36, w260000000000003_0.2, q3, x27, x28, x29, x30, x31, x32)) | _, _, _, _, _, _, _, _, _, _, _, _ => none))))) | _ => none
noncomputable def pyxlaw16_RateTells.j10000.J : JDen U := { Y := (List Int × List Int × Int × Int × List Int × Int × Int × Bool × List (Srate_Key × Sapi_Dec) × Spyxref11_Rates × Int × Int × Bool × Int × Int × Int), re := pyxlaw16_RateTells.j10000.re, fin := pyxlaw16_RateTells.j10000.fin, finK := pyxlaw16_RateTells.j10000.finK, finK_eq := pyxlaw16_RateTells.j10000.finK_eq }
theorem pyxlaw16_RateTells.j10000.fit (o : Out U) (y : (List Int × List Int × Int × Int × List Int × Int × Int × Bool × List (Srate_Key × Sapi_Dec) × Spyxref11_Rates × Int × Int × Bool × Int × Int × Int)) (h : pyxlaw16_RateTells.j10000.re o = some y) : FitsO o (pyxlaw16_RateTells.j10000.fin y) := by
  unfold pyxlaw16_RateTells.j10000.re at h
  split at h
  · obtain ⟨q0, eq0, h1⟩ := Option.bind_eq_some_iff.1 h
    obtain ⟨q1, eq1, h2⟩ := Option.bind_eq_some_iff.1 h1
    obtain ⟨q2, eq2, h3⟩ := Option.bind_eq_some_iff.1 h2
    obtain ⟨q3, eq3, h4⟩ := Option.bind_eq_some_iff.1 h3
    split at h4
    · obtain ⟨w260000000000003_0, ew260000000000003_0, h5⟩ := Option.bind_eq_some_iff.1 h4
      cases h5
      refine fitsO_norm (fits_ren [(26000103000000300, w260000000000003_0.1)] ?_ ?_ ren_one rfl)
      · exact List.forall_mem_cons.2 ⟨FV.one (FV.ptr (by assumption)), List.forall_mem_cons.2 ⟨FV.one (FV.ptr (by assumption)), List.forall_mem_cons.2 ⟨FV.one (FV.ptr (by assumption)), List.forall_mem_cons.2 ⟨FV.one (FV.ptr (by assumption)), List.forall_mem_cons.2 ⟨FV.one (row_i64_fit eq0), List.forall_mem_cons.2 ⟨FV.one (row_i64_fit eq1), List.forall_mem_cons.2 ⟨FV.one (FV.same (by assumption) rfl), List.forall_mem_cons.2 ⟨FV.one (FV.same (by assumption) rfl), List.forall_mem_cons.2 ⟨FV.one (row_i64_fit eq2), List.forall_mem_cons.2 ⟨FV.one (FV.same (by assumption) rfl), List.forall_mem_cons.2 ⟨FV.one (FV.same (by assumption) rfl), List.forall_mem_cons.2 ⟨FV.one (FV.same (by assumption) rfl), fun _ hp => (List.not_mem_nil hp).elim⟩⟩⟩⟩⟩⟩⟩⟩⟩⟩⟩⟩
      · exact List.forall_mem_cons.2 ⟨(FO.cells (show lk (St.o _) 260000000000003 = some _ from by assumption) (FCs.cons ((map_Srate_Key_Sapi_Dec_t_fit ew260000000000003_0 rfl).1) (FCs.nil))), List.forall_mem_cons.2 ⟨(map_Srate_Key_Sapi_Dec_t_fit ew260000000000003_0 rfl).2, List.forall_mem_cons.2 ⟨(FO.same (Cd.ofLit_ok eq3) rfl), List.forall_mem_cons.2 ⟨(FO.same (show lk (St.o _) 11 = some _ from by assumption) rfl), List.forall_mem_cons.2 ⟨(FO.same (show lk (St.o _) 12 = some _ from by assumption) rfl), fun _ hp => (List.not_mem_nil hp).elim⟩⟩⟩⟩⟩
    · cases h4
  · cases h
noncomputable def pyxlaw16_RateTells.j11001.fin (y : (List Int × List Int × List Int × Int × Int × List (Srate_Key × Sapi_Dec) × Spyxref11_Rates × Int × Int × Bool × Int × Int × Int)) : Out U := match y with | (x39, x40, x49, x50, x51, x41, x42, x43, x44, x45, x46, x47, x48) => .norm ⟨[(7, .ptr 260000000000003 0), (8, .ptr 27 0), (11, .ptr 11 0), (12, .ptr 12 0), (1, .row C.i64 x39), (2, .row C.i64 x40), (34, .row C.i64 x49), (35, .flat (.int .i64 x50)), (36, .flat (.int .i64 x51))], [(260000000000003, .lit [.mp 26000103100100300]), (26000103100100300, .map true true true C.Srate_Key C.Sapi_Dec x41), (27, .lit (cd_Spyxref11_Rates.enc x42)), (11, .lit [.flat (.int .i64 x43), .flat (.int .i64 x44)]), (12, .lit [.flat (.bool x45), .flat (.int .u64 x46), .flat (.int .u64 x47), .flat (.int .i64 x48)])]⟩
noncomputable def pyxlaw16_RateTells.j11001.finK {ρ : Type} (y : (List Int × List Int × List Int × Int × Int × List (Srate_Key × Sapi_Dec) × Spyxref11_Rates × Int × Int × Bool × Int × Int × Int)) (K : Out U → Option ρ) : Option ρ := match y with | (x39, x40, x49, x50, x51, x41, x42, x43, x44, x45, x46, x47, x48) => K (.norm ⟨[(7, .ptr 260000000000003 0), (8, .ptr 27 0), (11, .ptr 11 0), (12, .ptr 12 0), (1, .row C.i64 x39), (2, .row C.i64 x40), (34, .row C.i64 x49), (35, .flat (.int .i64 x50)), (36, .flat (.int .i64 x51))], [(260000000000003, .lit [.mp 26000103100100300]), (26000103100100300, .map true true true C.Srate_Key C.Sapi_Dec x41), (27, .lit (cd_Spyxref11_Rates.enc x42)), (11, .lit [.flat (.int .i64 x43), .flat (.int .i64 x44)]), (12, .lit [.flat (.bool x45), .flat (.int .u64 x46), .flat (.int .u64 x47), .flat (.int .i64 x48)])]⟩)
theorem pyxlaw16_RateTells.j11001.finK_eq {ρ : Type} (y : (List Int × List Int × List Int × Int × Int × List (Srate_Key × Sapi_Dec) × Spyxref11_Rates × Int × Int × Bool × Int × Int × Int)) (K : Out U → Option ρ) : pyxlaw16_RateTells.j11001.finK y K = K (pyxlaw16_RateTells.j11001.fin y) := by
  unfold pyxlaw16_RateTells.j11001.finK pyxlaw16_RateTells.j11001.fin
  first | rfl | (split <;> rfl)
noncomputable def pyxlaw16_RateTells.j11001.re : Out U → Option ((List Int × List Int × List Int × Int × Int × List (Srate_Key × Sapi_Dec) × Spyxref11_Rates × Int × Int × Bool × Int × Int × Int)) | .norm s => ((row_i64 (s.get 1)).bind fun q0 => ((row_i64 (s.get 2)).bind fun q1 => ((row_i64 (s.get 34)).bind fun q2 => ((Cd.ofLit cd_Spyxref11_Rates s.o 27).bind fun q3 => (match s.get 7, s.get 8, s.get 11, s.get 12, s.get 35, s.get 36, lk s.o 260000000000003, lk s.o 11, lk s.o 12 with | .ptr 260000000000003 0, .ptr 27 0, .ptr 11 0, .ptr 12 0, .flat (.int .i64 x50), .flat (.int .i64 x51), some (.lit [u260000000000003_0]), some (.lit [.flat (.int .i64 x43), .flat (.int .i64 x44)]), some (.lit [.flat (.bool x45), .flat (.int .u64 x46), .flat (.int .u64 x47), .flat (.int .i64 x48)]) => (map_Srate_Key_Sapi_Dec_t s.o u260000000000003_0).bind fun w260000000000003_0 => (some (q0, q1, q2, x50, x51, w260000000000003_0.2, q3, x43, x44, x45, x46, x47, x48)) | _, _, _, _, _, _, _, _, _ => none))))) | _ => none
noncomputable def pyxlaw16_RateTells.j11001.J : JDen U := { Y := (List Int × List Int × List Int × Int × Int × List (Srate_Key × Sapi_Dec) × Spyxref11_Rates × Int × Int × Bool × Int × Int × Int), re := pyxlaw16_RateTells.j11001.re, fin := pyxlaw16_RateTells.j11001.fin, finK := pyxlaw16_RateTells.j11001.finK, finK_eq := pyxlaw16_RateTells.j11001.finK_eq }
theorem pyxlaw16_RateTells.j11001.fit (o : Out U) (y : (List Int × List Int × List Int × Int × Int × List (Srate_Key × Sapi_Dec) × Spyxref11_Rates × Int × Int × Bool × Int × Int × Int)) (h : pyxlaw16_RateTells.j11001.re o = some y) : FitsO o (pyxlaw16_RateTells.j11001.fin y) := by
  unfold pyxlaw16_RateTells.j11001.re at h
  split at h
  · obtain ⟨q0, eq0, h1⟩ := Option.bind_eq_some_iff.1 h
    obtain ⟨q1, eq1, h2⟩ := Option.bind_eq_some_iff.1 h1
    obtain ⟨q2, eq2, h3⟩ := Option.bind_eq_some_iff.1 h2
    obtain ⟨q3, eq3, h4⟩ := Option.bind_eq_some_iff.1 h3
    split at h4
    · obtain ⟨w260000000000003_0, ew260000000000003_0, h5⟩ := Option.bind_eq_some_iff.1 h4
      cases h5
      refine fitsO_norm (fits_ren [(26000103100100300, w260000000000003_0.1)] ?_ ?_ ren_one rfl)
      · exact List.forall_mem_cons.2 ⟨FV.one (FV.ptr (by assumption)), List.forall_mem_cons.2 ⟨FV.one (FV.ptr (by assumption)), List.forall_mem_cons.2 ⟨FV.one (FV.ptr (by assumption)), List.forall_mem_cons.2 ⟨FV.one (FV.ptr (by assumption)), List.forall_mem_cons.2 ⟨FV.one (row_i64_fit eq0), List.forall_mem_cons.2 ⟨FV.one (row_i64_fit eq1), List.forall_mem_cons.2 ⟨FV.one (row_i64_fit eq2), List.forall_mem_cons.2 ⟨FV.one (FV.same (by assumption) rfl), List.forall_mem_cons.2 ⟨FV.one (FV.same (by assumption) rfl), fun _ hp => (List.not_mem_nil hp).elim⟩⟩⟩⟩⟩⟩⟩⟩⟩
      · exact List.forall_mem_cons.2 ⟨(FO.cells (show lk (St.o _) 260000000000003 = some _ from by assumption) (FCs.cons ((map_Srate_Key_Sapi_Dec_t_fit ew260000000000003_0 rfl).1) (FCs.nil))), List.forall_mem_cons.2 ⟨(map_Srate_Key_Sapi_Dec_t_fit ew260000000000003_0 rfl).2, List.forall_mem_cons.2 ⟨(FO.same (Cd.ofLit_ok eq3) rfl), List.forall_mem_cons.2 ⟨(FO.same (show lk (St.o _) 11 = some _ from by assumption) rfl), List.forall_mem_cons.2 ⟨(FO.same (show lk (St.o _) 12 = some _ from by assumption) rfl), fun _ hp => (List.not_mem_nil hp).elim⟩⟩⟩⟩⟩
    · cases h4
  · cases h
noncomputable def pyxlaw16_RateTells.j16000.fin (y : (List Int × List Int × List Int × Int × Int × Bool × List (Srate_Key × Sapi_Dec) × Spyxref11_Rates)) : Out U := match y with | (x57, x58, x61, x62, x63, x64, x59, x60) => .norm ⟨[(7, .ptr 260000000000003 0), (8, .ptr 27 0), (1, .row C.i64 x57), (2, .row C.i64 x58), (34, .row C.i64 x61), (35, .flat (.int .i64 x62)), (36, .flat (.int .i64 x63)), (107, .flat (.bool x64))], [(260000000000003, .lit [.mp 26000103600000300]), (26000103600000300, .map true true true C.Srate_Key C.Sapi_Dec x59), (27, .lit (cd_Spyxref11_Rates.enc x60))]⟩
noncomputable def pyxlaw16_RateTells.j16000.finK {ρ : Type} (y : (List Int × List Int × List Int × Int × Int × Bool × List (Srate_Key × Sapi_Dec) × Spyxref11_Rates)) (K : Out U → Option ρ) : Option ρ := match y with | (x57, x58, x61, x62, x63, x64, x59, x60) => K (.norm ⟨[(7, .ptr 260000000000003 0), (8, .ptr 27 0), (1, .row C.i64 x57), (2, .row C.i64 x58), (34, .row C.i64 x61), (35, .flat (.int .i64 x62)), (36, .flat (.int .i64 x63)), (107, .flat (.bool x64))], [(260000000000003, .lit [.mp 26000103600000300]), (26000103600000300, .map true true true C.Srate_Key C.Sapi_Dec x59), (27, .lit (cd_Spyxref11_Rates.enc x60))]⟩)
theorem pyxlaw16_RateTells.j16000.finK_eq {ρ : Type} (y : (List Int × List Int × List Int × Int × Int × Bool × List (Srate_Key × Sapi_Dec) × Spyxref11_Rates)) (K : Out U → Option ρ) : pyxlaw16_RateTells.j16000.finK y K = K (pyxlaw16_RateTells.j16000.fin y) := by
  unfold pyxlaw16_RateTells.j16000.finK pyxlaw16_RateTells.j16000.fin
  first | rfl | (split <;> rfl)
noncomputable def pyxlaw16_RateTells.j16000.re : Out U → Option ((List Int × List Int × List Int × Int × Int × Bool × List (Srate_Key × Sapi_Dec) × Spyxref11_Rates)) | .norm s => ((row_i64 (s.get 1)).bind fun q0 => ((row_i64 (s.get 2)).bind fun q1 => ((row_i64 (s.get 34)).bind fun q2 => ((Cd.ofLit cd_Spyxref11_Rates s.o 27).bind fun q3 => (match s.get 7, s.get 8, s.get 35, s.get 36, s.get 107, lk s.o 260000000000003 with | .ptr 260000000000003 0, .ptr 27 0, .flat (.int .i64 x62), .flat (.int .i64 x63), .flat (.bool x64), some (.lit [u260000000000003_0]) => (map_Srate_Key_Sapi_Dec_t s.o u260000000000003_0).bind fun w260000000000003_0 => (some (q0, q1, q2, x62, x63, x64, w260000000000003_0.2, q3)) | _, _, _, _, _, _ => none))))) | _ => none
noncomputable def pyxlaw16_RateTells.j16000.J : JDen U := { Y := (List Int × List Int × List Int × Int × Int × Bool × List (Srate_Key × Sapi_Dec) × Spyxref11_Rates), re := pyxlaw16_RateTells.j16000.re, fin := pyxlaw16_RateTells.j16000.fin, finK := pyxlaw16_RateTells.j16000.finK, finK_eq := pyxlaw16_RateTells.j16000.finK_eq }
theorem pyxlaw16_RateTells.j16000.fit (o : Out U) (y : (List Int × List Int × List Int × Int × Int × Bool × List (Srate_Key × Sapi_Dec) × Spyxref11_Rates)) (h : pyxlaw16_RateTells.j16000.re o = some y) : FitsO o (pyxlaw16_RateTells.j16000.fin y) := by
  unfold pyxlaw16_RateTells.j16000.re at h
  split at h
  · obtain ⟨q0, eq0, h1⟩ := Option.bind_eq_some_iff.1 h
    obtain ⟨q1, eq1, h2⟩ := Option.bind_eq_some_iff.1 h1
    obtain ⟨q2, eq2, h3⟩ := Option.bind_eq_some_iff.1 h2
    obtain ⟨q3, eq3, h4⟩ := Option.bind_eq_some_iff.1 h3
    split at h4
    · obtain ⟨w260000000000003_0, ew260000000000003_0, h5⟩ := Option.bind_eq_some_iff.1 h4
      cases h5
      refine fitsO_norm (fits_ren [(26000103600000300, w260000000000003_0.1)] ?_ ?_ ren_one rfl)
      · exact List.forall_mem_cons.2 ⟨FV.one (FV.ptr (by assumption)), List.forall_mem_cons.2 ⟨FV.one (FV.ptr (by assumption)), List.forall_mem_cons.2 ⟨FV.one (row_i64_fit eq0), List.forall_mem_cons.2 ⟨FV.one (row_i64_fit eq1), List.forall_mem_cons.2 ⟨FV.one (row_i64_fit eq2), List.forall_mem_cons.2 ⟨FV.one (FV.same (by assumption) rfl), List.forall_mem_cons.2 ⟨FV.one (FV.same (by assumption) rfl), List.forall_mem_cons.2 ⟨FV.one (FV.same (by assumption) rfl), fun _ hp => (List.not_mem_nil hp).elim⟩⟩⟩⟩⟩⟩⟩⟩
      · exact List.forall_mem_cons.2 ⟨(FO.cells (show lk (St.o _) 260000000000003 = some _ from by assumption) (FCs.cons ((map_Srate_Key_Sapi_Dec_t_fit ew260000000000003_0 rfl).1) (FCs.nil))), List.forall_mem_cons.2 ⟨(map_Srate_Key_Sapi_Dec_t_fit ew260000000000003_0 rfl).2, List.forall_mem_cons.2 ⟨(FO.same (Cd.ofLit_ok eq3) rfl), fun _ hp => (List.not_mem_nil hp).elim⟩⟩⟩
    · cases h4
  · cases h
noncomputable def pyxlaw16_RateTells.j29000.fin (y : (Int × List Srate_Key × Int × Int × Int × Bool × List (Srate_Key × Sapi_Dec) × Spyxref11_Rates)) : Out U := match y with | (x86, x87, x88, x89, x90, x91, x84, x85) => .norm ⟨[(7, .ptr 260000000000003 0), (8, .ptr 27 0), (17, .flat (.int .i64 x86)), (18, .row C.Srate_Key x87), (19, .flat (.int .i64 x88)), (20, .flat (.int .i64 x89)), (22, .flat (.int .i64 x90)), (161, .flat (.bool x91))], [(260000000000003, .lit [.mp 26000104900000300]), (26000104900000300, .map true true true C.Srate_Key C.Sapi_Dec x84), (27, .lit (cd_Spyxref11_Rates.enc x85))]⟩
noncomputable def pyxlaw16_RateTells.j29000.finK {ρ : Type} (y : (Int × List Srate_Key × Int × Int × Int × Bool × List (Srate_Key × Sapi_Dec) × Spyxref11_Rates)) (K : Out U → Option ρ) : Option ρ := match y with | (x86, x87, x88, x89, x90, x91, x84, x85) => K (.norm ⟨[(7, .ptr 260000000000003 0), (8, .ptr 27 0), (17, .flat (.int .i64 x86)), (18, .row C.Srate_Key x87), (19, .flat (.int .i64 x88)), (20, .flat (.int .i64 x89)), (22, .flat (.int .i64 x90)), (161, .flat (.bool x91))], [(260000000000003, .lit [.mp 26000104900000300]), (26000104900000300, .map true true true C.Srate_Key C.Sapi_Dec x84), (27, .lit (cd_Spyxref11_Rates.enc x85))]⟩)
theorem pyxlaw16_RateTells.j29000.finK_eq {ρ : Type} (y : (Int × List Srate_Key × Int × Int × Int × Bool × List (Srate_Key × Sapi_Dec) × Spyxref11_Rates)) (K : Out U → Option ρ) : pyxlaw16_RateTells.j29000.finK y K = K (pyxlaw16_RateTells.j29000.fin y) := by
  unfold pyxlaw16_RateTells.j29000.finK pyxlaw16_RateTells.j29000.fin
  first | rfl | (split <;> rfl)
noncomputable def pyxlaw16_RateTells.j29000.re : Out U → Option ((Int × List Srate_Key × Int × Int × Int × Bool × List (Srate_Key × Sapi_Dec) × Spyxref11_Rates)) | .norm s => ((row_Srate_Key (s.get 18)).bind fun q0 => ((Cd.ofLit cd_Spyxref11_Rates s.o 27).bind fun q1 => (match s.get 7, s.get 8, s.get 17, s.get 19, s.get 20, s.get 22, s.get 161, lk s.o 260000000000003 with | .ptr 260000000000003 0, .ptr 27 0, .flat (.int .i64 x86), .flat (.int .i64 x88), .flat (.int .i64 x89), .flat (.int .i64 x90), .flat (.bool x91), some (.lit [u260000000000003_0]) => (map_Srate_Key_Sapi_Dec_t s.o u260000000000003_0).bind fun w260000000000003_0 => (some (x86, q0, x88, x89, x90, x91, w260000000000003_0.2, q1)) | _, _, _, _, _, _, _, _ => none))) | _ => none
noncomputable def pyxlaw16_RateTells.j29000.J : JDen U := { Y := (Int × List Srate_Key × Int × Int × Int × Bool × List (Srate_Key × Sapi_Dec) × Spyxref11_Rates), re := pyxlaw16_RateTells.j29000.re, fin := pyxlaw16_RateTells.j29000.fin, finK := pyxlaw16_RateTells.j29000.finK, finK_eq := pyxlaw16_RateTells.j29000.finK_eq }
theorem pyxlaw16_RateTells.j29000.fit (o : Out U) (y : (Int × List Srate_Key × Int × Int × Int × Bool × List (Srate_Key × Sapi_Dec) × Spyxref11_Rates)) (h : pyxlaw16_RateTells.j29000.re o = some y) : FitsO o (pyxlaw16_RateTells.j29000.fin y) := by
  unfold pyxlaw16_RateTells.j29000.re at h
  split at h
  · obtain ⟨q0, eq0, h1⟩ := Option.bind_eq_some_iff.1 h
    obtain ⟨q1, eq1, h2⟩ := Option.bind_eq_some_iff.1 h1
    split at h2
    · obtain ⟨w260000000000003_0, ew260000000000003_0, h3⟩ := Option.bind_eq_some_iff.1 h2
      cases h3
      refine fitsO_norm (fits_ren [(26000104900000300, w260000000000003_0.1)] ?_ ?_ ren_one rfl)
      · exact List.forall_mem_cons.2 ⟨FV.one (FV.ptr (by assumption)), List.forall_mem_cons.2 ⟨FV.one (FV.ptr (by assumption)), List.forall_mem_cons.2 ⟨FV.one (FV.same (by assumption) rfl), List.forall_mem_cons.2 ⟨FV.one (row_Srate_Key_fit eq0), List.forall_mem_cons.2 ⟨FV.one (FV.same (by assumption) rfl), List.forall_mem_cons.2 ⟨FV.one (FV.same (by assumption) rfl), List.forall_mem_cons.2 ⟨FV.one (FV.same (by assumption) rfl), List.forall_mem_cons.2 ⟨FV.one (FV.same (by assumption) rfl), fun _ hp => (List.not_mem_nil hp).elim⟩⟩⟩⟩⟩⟩⟩⟩
      · exact List.forall_mem_cons.2 ⟨(FO.cells (show lk (St.o _) 260000000000003 = some _ from by assumption) (FCs.cons ((map_Srate_Key_Sapi_Dec_t_fit ew260000000000003_0 rfl).1) (FCs.nil))), List.forall_mem_cons.2 ⟨(map_Srate_Key_Sapi_Dec_t_fit ew260000000000003_0 rfl).2, List.forall_mem_cons.2 ⟨(FO.same (Cd.ofLit_ok eq1) rfl), fun _ hp => (List.not_mem_nil hp).elim⟩⟩⟩
    · cases h2
  · cases h
noncomputable def pyxlaw16_RateTells.j27001.fin (y : (Int × List Srate_Key × Int × Int × List (Srate_Key × Sapi_Dec) × Spyxref11_Rates) ⊕ Bool) : Out U := match y with | .inl (x95, x96, x97, x98, x93, x94) => .norm ⟨[(7, .ptr 260000000000003 0), (8, .ptr 27 0), (17, .flat (.int .i64 x95)), (18, .row C.Srate_Key x96), (19, .flat (.int .i64 x97)), (20, .flat (.int .i64 x98))], [(260000000000003, .lit [.mp 26000104700100300]), (26000104700100300, .map true true true C.Srate_Key C.Sapi_Dec x93), (27, .lit (cd_Spyxref11_Rates.enc x94))]⟩ | .inr z => .ret (⟨[(0, .flat (.bool z))], []⟩)
noncomputable def pyxlaw16_RateTells.j27001.finK {ρ : Type} (y : (Int × List Srate_Key × Int × Int × List (Srate_Key × Sapi_Dec) × Spyxref11_Rates) ⊕ Bool) (K : Out U → Option ρ) : Option ρ := match y with | .inl (x95, x96, x97, x98, x93, x94) => K (.norm ⟨[(7, .ptr 260000000000003 0), (8, .ptr 27 0), (17, .flat (.int .i64 x95)), (18, .row C.Srate_Key x96), (19, .flat (.int .i64 x97)), (20, .flat (.int .i64 x98))], [(260000000000003, .lit [.mp 26000104700100300]), (26000104700100300, .map true true true C.Srate_Key C.Sapi_Dec x93), (27, .lit (cd_Spyxref11_Rates.enc x94))]⟩) | .inr z => K (.ret (⟨[(0, .flat (.bool z))], []⟩))
theorem pyxlaw16_RateTells.j27001.finK_eq {ρ : Type} (y : (Int × List Srate_Key × Int × Int × List (Srate_Key × Sapi_Dec) × Spyxref11_Rates) ⊕ Bool) (K : Out U → Option ρ) : pyxlaw16_RateTells.j27001.finK y K = K (pyxlaw16_RateTells.j27001.fin y) := by
  unfold pyxlaw16_RateTells.j27001.finK pyxlaw16_RateTells.j27001.fin
  first | rfl | (split <;> rfl)
noncomputable def pyxlaw16_RateTells.j27001.re : Out U → Option ((Int × List Srate_Key × Int × Int × List (Srate_Key × Sapi_Dec) × Spyxref11_Rates) ⊕ Bool) | .norm s => ((row_Srate_Key (s.get 18)).bind fun q0 => ((Cd.ofLit cd_Spyxref11_Rates s.o 27).bind fun q1 => (match s.get 7, s.get 8, s.get 17, s.get 19, s.get 20, lk s.o 260000000000003 with | .ptr 260000000000003 0, .ptr 27 0, .flat (.int .i64 x95), .flat (.int .i64 x97), .flat (.int .i64 x98), some (.lit [u260000000000003_0]) => (map_Srate_Key_Sapi_Dec_t s.o u260000000000003_0).bind fun w260000000000003_0 => (some (.inl (x95, q0, x97, x98, w260000000000003_0.2, q1))) | _, _, _, _, _, _ => none))) | .ret s => (match s.get 0 with | .flat (.bool x1) => some (.inr x1) | _ => none) | _ => none
noncomputable def pyxlaw16_RateTells.j27001.J : JDen U := { Y := (Int × List Srate_Key × Int × Int × List (Srate_Key × Sapi_Dec) × Spyxref11_Rates) ⊕ Bool, re := pyxlaw16_RateTells.j27001.re, fin := pyxlaw16_RateTells.j27001.fin, finK := pyxlaw16_RateTells.j27001.finK, finK_eq := pyxlaw16_RateTells.j27001.finK_eq }
theorem pyxlaw16_RateTells.j27001.fit (o : Out U) (y : (Int × List Srate_Key × Int × Int × List (Srate_Key × Sapi_Dec) × Spyxref11_Rates) ⊕ Bool) (h : pyxlaw16_RateTells.j27001.re o = some y) : FitsO o (pyxlaw16_RateTells.j27001.fin y) := by
  unfold pyxlaw16_RateTells.j27001.re at h
  split at h
  · obtain ⟨q0, eq0, h1⟩ := Option.bind_eq_some_iff.1 h
    obtain ⟨q1, eq1, h2⟩ := Option.bind_eq_some_iff.1 h1
    split at h2
    · obtain ⟨w260000000000003_0, ew260000000000003_0, h3⟩ := Option.bind_eq_some_iff.1 h2
      cases h3
      refine fitsO_norm (fits_ren [(26000104700100300, w260000000000003_0.1)] ?_ ?_ ren_one rfl)
      · exact List.forall_mem_cons.2 ⟨FV.one (FV.ptr (by assumption)), List.forall_mem_cons.2 ⟨FV.one (FV.ptr (by assumption)), List.forall_mem_cons.2 ⟨FV.one (FV.same (by assumption) rfl), List.forall_mem_cons.2 ⟨FV.one (row_Srate_Key_fit eq0), List.forall_mem_cons.2 ⟨FV.one (FV.same (by assumption) rfl), List.forall_mem_cons.2 ⟨FV.one (FV.same (by assumption) rfl), fun _ hp => (List.not_mem_nil hp).elim⟩⟩⟩⟩⟩⟩
      · exact List.forall_mem_cons.2 ⟨(FO.cells (show lk (St.o _) 260000000000003 = some _ from by assumption) (FCs.cons ((map_Srate_Key_Sapi_Dec_t_fit ew260000000000003_0 rfl).1) (FCs.nil))), List.forall_mem_cons.2 ⟨(map_Srate_Key_Sapi_Dec_t_fit ew260000000000003_0 rfl).2, List.forall_mem_cons.2 ⟨(FO.same (Cd.ofLit_ok eq1) rfl), fun _ hp => (List.not_mem_nil hp).elim⟩⟩⟩
    · cases h2
  · split at h
    · cases h
      refine fitsO_ret (fits_ren [] ?_ ?_ ren_nil rfl)
      · exact List.forall_mem_cons.2 ⟨FV.one (FV.same (by assumption) rfl), fun _ hp => (List.not_mem_nil hp).elim⟩
      · exact fun _ hp => (List.not_mem_nil hp).elim
    · cases h
  · cases h
noncomputable def pyxlaw16_RateTells.jl : List (Nat × JDen U) := [(3000, pyxlaw16_RateTells.j3000.J), (10000, pyxlaw16_RateTells.j10000.J), (11001, pyxlaw16_RateTells.j11001.J), (16000, pyxlaw16_RateTells.j16000.J), (29000, pyxlaw16_RateTells.j29000.J), (27001, pyxlaw16_RateTells.j27001.J)]
noncomputable def pyxlaw16_RateTells.fl (k : Nat) : List (Nat × FDen U) := [(51, rate_New.D k), (52, pyxlaw16_known.D k), (25, pyxhand_Pick.D k), (17, pyxref1_Of.D k), (21, pyxhand_Dec.D k), (53, rate_Table_Set.D k), (55, pyxref11_Rates_Set.D k), (56, rate_Table_Get.D k), (57, pyxref11_Rates_Get.D k), (54, rate_Table_Keys.D k)]
noncomputable def pyxlaw16_RateTells.ll (k : Nat) : List (Nat × LDen U) := [(6, pyxlaw16_RateTells.l6.L k), (25, pyxlaw16_RateTells.l25.L k), (22, pyxlaw16_RateTells.l22.L k)]
noncomputable def pyxlaw16_RateTells.E (k : Nat) : Env U := { P := Try.prog, D := DD, fd := lk (pyxlaw16_RateTells.fl k), sf := lk sl0, ld := lk (pyxlaw16_RateTells.ll k), jd := lk pyxlaw16_RateTells.jl, mode := lk [], elc := lk ec, mpc := lk mc, rts := Try.f12.resultTypes.toList, dyn := fun t => false, vecs := fun d => false, results := Try.f12.results.toList, gh := [], own := false, io := fun g i => false }
theorem pyxlaw16_RateTells.ok (k : Nat) : EnvOk (pyxlaw16_RateTells.E k) := envOk lawful (pyxlaw16_RateTells.fl k) sl0 (pyxlaw16_RateTells.ll k) pyxlaw16_RateTells.jl _ _ _ _ _ _ _ _ _ _ (by
  intro p hp
  simp only [pyxlaw16_RateTells.fl, List.mem_cons, List.not_mem_nil, or_false] at hp
  rcases hp with rfl | rfl | rfl | rfl | rfl | rfl | rfl | rfl | rfl | rfl
  · exact ⟨rate_New.sound k, enter_of Try.func51 (by kernel_rfl) (by kernel_rfl)⟩
  · exact ⟨pyxlaw16_known.sound k, enter_of Try.func52 (by kernel_rfl) (by kernel_rfl)⟩
  · exact ⟨pyxhand_Pick.sound k, enter_of Try.func25 (by kernel_rfl) (by kernel_rfl)⟩
  · exact ⟨pyxref1_Of.sound k, enter_of Try.func17 (by kernel_rfl) (by kernel_rfl)⟩
  · exact ⟨pyxhand_Dec.sound k, enter_of Try.func21 (by kernel_rfl) (by kernel_rfl)⟩
  · exact ⟨rate_Table_Set.sound k, enter_of Try.func53 (by kernel_rfl) (by kernel_rfl)⟩
  · exact ⟨pyxref11_Rates_Set.sound k, enter_of Try.func55 (by kernel_rfl) (by kernel_rfl)⟩
  · exact ⟨rate_Table_Get.sound k, enter_of Try.func56 (by kernel_rfl) (by kernel_rfl)⟩
  · exact ⟨pyxref11_Rates_Get.sound k, enter_of Try.func57 (by kernel_rfl) (by kernel_rfl)⟩
  · exact ⟨rate_Table_Keys.sound k, enter_of Try.func54 (by kernel_rfl) (by kernel_rfl)⟩) sl0_ok (by
  intro p hp
  simp only [pyxlaw16_RateTells.jl, List.mem_cons, List.not_mem_nil, or_false] at hp
  rcases hp with rfl | rfl | rfl | rfl | rfl | rfl
  · exact pyxlaw16_RateTells.j3000.fit
  · exact pyxlaw16_RateTells.j10000.fit
  · exact pyxlaw16_RateTells.j11001.fit
  · exact pyxlaw16_RateTells.j16000.fit
  · exact pyxlaw16_RateTells.j29000.fit
  · exact pyxlaw16_RateTells.j27001.fit)
theorem pyxlaw16_RateTells.l6.eq (k : Nat) (x : (List Int × List Int × List Int × Int × Int × List (Srate_Key × Sapi_Dec) × Spyxref11_Rates)) : evC (pyxlaw16_RateTells.E k) (loopAt Try.f12 6) (pyxlaw16_RateTells.l6.mk x) (headK pyxlaw16_RateTells.l6.un pyxlaw16_RateTells.l6.re) = pyxlaw16_RateTells.l6.once k x := by kernel_rfl
theorem pyxlaw16_RateTells.l6.fit (s : St U) (x : (List Int × List Int × List Int × Int × Int × List (Srate_Key × Sapi_Dec) × Spyxref11_Rates)) (h : pyxlaw16_RateTells.l6.un s = some x) : Fits s (pyxlaw16_RateTells.l6.mk x) := by
  unfold pyxlaw16_RateTells.l6.un at h
  obtain ⟨q0, eq0, h1⟩ := Option.bind_eq_some_iff.1 h
  obtain ⟨q1, eq1, h2⟩ := Option.bind_eq_some_iff.1 h1
  obtain ⟨q2, eq2, h3⟩ := Option.bind_eq_some_iff.1 h2
  obtain ⟨q3, eq3, h4⟩ := Option.bind_eq_some_iff.1 h3
  split at h4
  · obtain ⟨w260000000000003_0, ew260000000000003_0, h5⟩ := Option.bind_eq_some_iff.1 h4
    cases h5
    refine fits_ren [(26000002000600300, w260000000000003_0.1)] ?_ ?_ ren_one rfl
    · exact List.forall_mem_cons.2 ⟨FV.one (FV.ptr (by assumption)), List.forall_mem_cons.2 ⟨FV.one (FV.ptr (by assumption)), List.forall_mem_cons.2 ⟨FV.one (row_i64_fit eq0), List.forall_mem_cons.2 ⟨FV.one (row_i64_fit eq1), List.forall_mem_cons.2 ⟨FV.one (row_i64_fit eq2), List.forall_mem_cons.2 ⟨FV.one (FV.same (by assumption) rfl), List.forall_mem_cons.2 ⟨FV.one (FV.same (by assumption) rfl), fun _ hp => (List.not_mem_nil hp).elim⟩⟩⟩⟩⟩⟩⟩
    · exact List.forall_mem_cons.2 ⟨(FO.cells (show lk (St.o _) 260000000000003 = some _ from by assumption) (FCs.cons ((map_Srate_Key_Sapi_Dec_t_fit ew260000000000003_0 rfl).1) (FCs.nil))), List.forall_mem_cons.2 ⟨(map_Srate_Key_Sapi_Dec_t_fit ew260000000000003_0 rfl).2, List.forall_mem_cons.2 ⟨(FO.same (Cd.ofLit_ok eq3) rfl), fun _ hp => (List.not_mem_nil hp).elim⟩⟩⟩
  · cases h4
theorem pyxlaw16_RateTells.l6.fitO (o : Out U) (y : (List (Srate_Key × Sapi_Dec) × Spyxref11_Rates) ⊕ Bool) (h : pyxlaw16_RateTells.l6.re o = some y) : FitsO o (pyxlaw16_RateTells.l6.fin y) := by
  unfold pyxlaw16_RateTells.l6.re at h
  split at h
  · obtain ⟨q0, eq0, h1⟩ := Option.bind_eq_some_iff.1 h
    split at h1
    · obtain ⟨w260000000000003_0, ew260000000000003_0, h2⟩ := Option.bind_eq_some_iff.1 h1
      cases h2
      refine fitsO_exit (fits_ren [(26000002000600300, w260000000000003_0.1)] ?_ ?_ ren_one rfl)
      · exact List.forall_mem_cons.2 ⟨FV.one (FV.ptr (by assumption)), List.forall_mem_cons.2 ⟨FV.one (FV.ptr (by assumption)), fun _ hp => (List.not_mem_nil hp).elim⟩⟩
      · exact List.forall_mem_cons.2 ⟨(FO.cells (show lk (St.o _) 260000000000003 = some _ from by assumption) (FCs.cons ((map_Srate_Key_Sapi_Dec_t_fit ew260000000000003_0 rfl).1) (FCs.nil))), List.forall_mem_cons.2 ⟨(map_Srate_Key_Sapi_Dec_t_fit ew260000000000003_0 rfl).2, List.forall_mem_cons.2 ⟨(FO.same (Cd.ofLit_ok eq0) rfl), fun _ hp => (List.not_mem_nil hp).elim⟩⟩⟩
    · cases h1
  · split at h
    · cases h
      refine fitsO_ret (fits_ren [] ?_ ?_ ren_nil rfl)
      · exact List.forall_mem_cons.2 ⟨FV.one (FV.same (by assumption) rfl), fun _ hp => (List.not_mem_nil hp).elim⟩
      · exact fun _ hp => (List.not_mem_nil hp).elim
    · cases h
  · cases h
theorem pyxlaw16_RateTells.l6.sound (k : Nat) : LSound (pyxlaw16_RateTells.E k) Try.f12.ntmps Try.f12 (loopAt Try.f12 6) (pyxlaw16_RateTells.l6.L k) :=
  loop_sound (pyxlaw16_RateTells.ok k) mixed rfl (by kernel_rfl) (allL_of (l := []) (by kernel_rfl) allL_nil) pyxlaw16_RateTells.l6.un pyxlaw16_RateTells.l6.mk pyxlaw16_RateTells.l6.fin pyxlaw16_RateTells.l6.re (pyxlaw16_RateTells.l6.once k) k pyxlaw16_RateTells.l6.fit pyxlaw16_RateTells.l6.fitO (pyxlaw16_RateTells.l6.eq k) pyxlaw16_RateTells.l6.finK pyxlaw16_RateTells.l6.finK_eq
theorem pyxlaw16_RateTells.l25.eq (k : Nat) (x : (Int × List Srate_Key × Int × Int × List (Srate_Key × Sapi_Dec) × Spyxref11_Rates)) : evC (pyxlaw16_RateTells.E k) (loopAt Try.f12 25) (pyxlaw16_RateTells.l25.mk x) (headK pyxlaw16_RateTells.l25.un pyxlaw16_RateTells.l25.re) = pyxlaw16_RateTells.l25.once k x := by kernel_rfl
theorem pyxlaw16_RateTells.l25.fit (s : St U) (x : (Int × List Srate_Key × Int × Int × List (Srate_Key × Sapi_Dec) × Spyxref11_Rates)) (h : pyxlaw16_RateTells.l25.un s = some x) : Fits s (pyxlaw16_RateTells.l25.mk x) := by
  unfold pyxlaw16_RateTells.l25.un at h
  obtain ⟨q0, eq0, h1⟩ := Option.bind_eq_some_iff.1 h
  obtain ⟨q1, eq1, h2⟩ := Option.bind_eq_some_iff.1 h1
  split at h2
  · obtain ⟨w260000000000003_0, ew260000000000003_0, h3⟩ := Option.bind_eq_some_iff.1 h2
    cases h3
    refine fits_ren [(26000002002500300, w260000000000003_0.1)] ?_ ?_ ren_one rfl
    · exact List.forall_mem_cons.2 ⟨FV.one (FV.ptr (by assumption)), List.forall_mem_cons.2 ⟨FV.one (FV.ptr (by assumption)), List.forall_mem_cons.2 ⟨FV.one (FV.same (by assumption) rfl), List.forall_mem_cons.2 ⟨FV.one (row_Srate_Key_fit eq0), List.forall_mem_cons.2 ⟨FV.one (FV.same (by assumption) rfl), List.forall_mem_cons.2 ⟨FV.one (FV.same (by assumption) rfl), fun _ hp => (List.not_mem_nil hp).elim⟩⟩⟩⟩⟩⟩
    · exact List.forall_mem_cons.2 ⟨(FO.cells (show lk (St.o _) 260000000000003 = some _ from by assumption) (FCs.cons ((map_Srate_Key_Sapi_Dec_t_fit ew260000000000003_0 rfl).1) (FCs.nil))), List.forall_mem_cons.2 ⟨(map_Srate_Key_Sapi_Dec_t_fit ew260000000000003_0 rfl).2, List.forall_mem_cons.2 ⟨(FO.same (Cd.ofLit_ok eq1) rfl), fun _ hp => (List.not_mem_nil hp).elim⟩⟩⟩
  · cases h2
theorem pyxlaw16_RateTells.l25.fitO (o : Out U) (y : (Int × List Srate_Key × Int × List (Srate_Key × Sapi_Dec) × Spyxref11_Rates) ⊕ Bool) (h : pyxlaw16_RateTells.l25.re o = some y) : FitsO o (pyxlaw16_RateTells.l25.fin y) := by
  unfold pyxlaw16_RateTells.l25.re at h
  split at h
  · obtain ⟨q0, eq0, h1⟩ := Option.bind_eq_some_iff.1 h
    obtain ⟨q1, eq1, h2⟩ := Option.bind_eq_some_iff.1 h1
    split at h2
    · obtain ⟨w260000000000003_0, ew260000000000003_0, h3⟩ := Option.bind_eq_some_iff.1 h2
      cases h3
      refine fitsO_exit (fits_ren [(26000002002500300, w260000000000003_0.1)] ?_ ?_ ren_one rfl)
      · exact List.forall_mem_cons.2 ⟨FV.one (FV.ptr (by assumption)), List.forall_mem_cons.2 ⟨FV.one (FV.ptr (by assumption)), List.forall_mem_cons.2 ⟨FV.one (FV.same (by assumption) rfl), List.forall_mem_cons.2 ⟨FV.one (row_Srate_Key_fit eq0), List.forall_mem_cons.2 ⟨FV.one (FV.same (by assumption) rfl), fun _ hp => (List.not_mem_nil hp).elim⟩⟩⟩⟩⟩
      · exact List.forall_mem_cons.2 ⟨(FO.cells (show lk (St.o _) 260000000000003 = some _ from by assumption) (FCs.cons ((map_Srate_Key_Sapi_Dec_t_fit ew260000000000003_0 rfl).1) (FCs.nil))), List.forall_mem_cons.2 ⟨(map_Srate_Key_Sapi_Dec_t_fit ew260000000000003_0 rfl).2, List.forall_mem_cons.2 ⟨(FO.same (Cd.ofLit_ok eq1) rfl), fun _ hp => (List.not_mem_nil hp).elim⟩⟩⟩
    · cases h2
  · split at h
    · cases h
      refine fitsO_ret (fits_ren [] ?_ ?_ ren_nil rfl)
      · exact List.forall_mem_cons.2 ⟨FV.one (FV.same (by assumption) rfl), fun _ hp => (List.not_mem_nil hp).elim⟩
      · exact fun _ hp => (List.not_mem_nil hp).elim
    · cases h
  · cases h
theorem pyxlaw16_RateTells.l25.sound (k : Nat) : LSound (pyxlaw16_RateTells.E k) Try.f12.ntmps Try.f12 (loopAt Try.f12 25) (pyxlaw16_RateTells.l25.L k) :=
  loop_sound (pyxlaw16_RateTells.ok k) mixed rfl (by kernel_rfl) (allL_of (l := []) (by kernel_rfl) allL_nil) pyxlaw16_RateTells.l25.un pyxlaw16_RateTells.l25.mk pyxlaw16_RateTells.l25.fin pyxlaw16_RateTells.l25.re (pyxlaw16_RateTells.l25.once k) k pyxlaw16_RateTells.l25.fit pyxlaw16_RateTells.l25.fitO (pyxlaw16_RateTells.l25.eq k) pyxlaw16_RateTells.l25.finK pyxlaw16_RateTells.l25.finK_eq
theorem pyxlaw16_RateTells.l22.eq (k : Nat) (x : (Int × List Srate_Key × Int × List (Srate_Key × Sapi_Dec) × Spyxref11_Rates)) : evC (pyxlaw16_RateTells.E k) (loopAt Try.f12 22) (pyxlaw16_RateTells.l22.mk x) (headK pyxlaw16_RateTells.l22.un pyxlaw16_RateTells.l22.re) = pyxlaw16_RateTells.l22.once k x := by kernel_rfl
theorem pyxlaw16_RateTells.l22.fit (s : St U) (x : (Int × List Srate_Key × Int × List (Srate_Key × Sapi_Dec) × Spyxref11_Rates)) (h : pyxlaw16_RateTells.l22.un s = some x) : Fits s (pyxlaw16_RateTells.l22.mk x) := by
  unfold pyxlaw16_RateTells.l22.un at h
  obtain ⟨q0, eq0, h1⟩ := Option.bind_eq_some_iff.1 h
  obtain ⟨q1, eq1, h2⟩ := Option.bind_eq_some_iff.1 h1
  split at h2
  · obtain ⟨w260000000000003_0, ew260000000000003_0, h3⟩ := Option.bind_eq_some_iff.1 h2
    cases h3
    refine fits_ren [(26000002002200300, w260000000000003_0.1)] ?_ ?_ ren_one rfl
    · exact List.forall_mem_cons.2 ⟨FV.one (FV.ptr (by assumption)), List.forall_mem_cons.2 ⟨FV.one (FV.ptr (by assumption)), List.forall_mem_cons.2 ⟨FV.one (FV.same (by assumption) rfl), List.forall_mem_cons.2 ⟨FV.one (row_Srate_Key_fit eq0), List.forall_mem_cons.2 ⟨FV.one (FV.same (by assumption) rfl), fun _ hp => (List.not_mem_nil hp).elim⟩⟩⟩⟩⟩
    · exact List.forall_mem_cons.2 ⟨(FO.cells (show lk (St.o _) 260000000000003 = some _ from by assumption) (FCs.cons ((map_Srate_Key_Sapi_Dec_t_fit ew260000000000003_0 rfl).1) (FCs.nil))), List.forall_mem_cons.2 ⟨(map_Srate_Key_Sapi_Dec_t_fit ew260000000000003_0 rfl).2, List.forall_mem_cons.2 ⟨(FO.same (Cd.ofLit_ok eq1) rfl), fun _ hp => (List.not_mem_nil hp).elim⟩⟩⟩
  · cases h2
theorem pyxlaw16_RateTells.l22.fitO (o : Out U) (y : (Int × List Srate_Key) ⊕ Bool) (h : pyxlaw16_RateTells.l22.re o = some y) : FitsO o (pyxlaw16_RateTells.l22.fin y) := by
  unfold pyxlaw16_RateTells.l22.re at h
  split at h
  · obtain ⟨q0, eq0, h1⟩ := Option.bind_eq_some_iff.1 h
    split at h1
    · cases h1
      refine fitsO_exit (fits_ren [] ?_ ?_ ren_nil rfl)
      · exact List.forall_mem_cons.2 ⟨FV.one (FV.same (by assumption) rfl), List.forall_mem_cons.2 ⟨FV.one (row_Srate_Key_fit eq0), fun _ hp => (List.not_mem_nil hp).elim⟩⟩
      · exact fun _ hp => (List.not_mem_nil hp).elim
    · cases h1
  · split at h
    · cases h
      refine fitsO_ret (fits_ren [] ?_ ?_ ren_nil rfl)
      · exact List.forall_mem_cons.2 ⟨FV.one (FV.same (by assumption) rfl), fun _ hp => (List.not_mem_nil hp).elim⟩
      · exact fun _ hp => (List.not_mem_nil hp).elim
    · cases h
  · cases h
theorem pyxlaw16_RateTells.l22.sound (k : Nat) : LSound (pyxlaw16_RateTells.E k) Try.f12.ntmps Try.f12 (loopAt Try.f12 22) (pyxlaw16_RateTells.l22.L k) :=
  loop_sound (pyxlaw16_RateTells.ok k) mixed rfl (by kernel_rfl) (allL_of (l := [loopAt Try.f12 25]) (by kernel_rfl) (allL_cons (key := 25) (by kernel_rfl) rfl (pyxlaw16_RateTells.l25.sound k) allL_nil)) pyxlaw16_RateTells.l22.un pyxlaw16_RateTells.l22.mk pyxlaw16_RateTells.l22.fin pyxlaw16_RateTells.l22.re (pyxlaw16_RateTells.l22.once k) k pyxlaw16_RateTells.l22.fit pyxlaw16_RateTells.l22.fitO (pyxlaw16_RateTells.l22.eq k) pyxlaw16_RateTells.l22.finK pyxlaw16_RateTells.l22.finK_eq
theorem pyxlaw16_RateTells.eq (k : Nat) (x : (List Int × List Int × List Int)) : runF (pyxlaw16_RateTells.E k) (codeOf Try.f12) (pyxlaw16_RateTells.mk x) pyxlaw16_RateTells.re = (pyxlaw16_RateTells.D k).f x := by kernel_rfl
theorem pyxlaw16_RateTells.fit (s : St U) (x : (List Int × List Int × List Int)) (h : pyxlaw16_RateTells.un s = some x) : Fits s (pyxlaw16_RateTells.mk x) := by
  unfold pyxlaw16_RateTells.un at h
  split at h
  · cases h
    refine fits_ren [] ?_ ?_ ren_nil rfl
    · exact List.forall_mem_cons.2 ⟨FV.one (FV.same (by assumption) rfl), List.forall_mem_cons.2 ⟨FV.one (FV.same (by assumption) rfl), List.forall_mem_cons.2 ⟨FV.one (FV.same (by assumption) rfl), fun _ hp => (List.not_mem_nil hp).elim⟩⟩⟩
    · exact fun _ hp => (List.not_mem_nil hp).elim
  · cases h
theorem pyxlaw16_RateTells.fitR (s : St U) (y : Bool) (h : pyxlaw16_RateTells.re s = some y) : Fits s (pyxlaw16_RateTells.fin y) := by
  unfold pyxlaw16_RateTells.re at h
  split at h
  · cases h
    refine fits_ren [] ?_ ?_ ren_nil rfl
    · exact List.forall_mem_cons.2 ⟨FV.one (FV.same (by assumption) rfl), fun _ hp => (List.not_mem_nil hp).elim⟩
    · exact fun _ hp => (List.not_mem_nil hp).elim
  · cases h
theorem pyxlaw16_RateTells.sound (k : Nat) : Sound Try.prog DD 12 (pyxlaw16_RateTells.D k) :=
  fun_sound (E := pyxlaw16_RateTells.E k) (fn := Try.f12) (c := codeOf Try.f12) (pyxlaw16_RateTells.ok k) mixed rfl Try.func12 (by kernel_rfl) (by kernel_rfl) (allL_of (l := [loopAt Try.f12 6, loopAt Try.f12 22]) (by kernel_rfl) (allL_cons (key := 6) (by kernel_rfl) rfl (pyxlaw16_RateTells.l6.sound k) (allL_cons (key := 22) (by kernel_rfl) rfl (pyxlaw16_RateTells.l22.sound k) allL_nil))) (pyxlaw16_RateTells.D k) pyxlaw16_RateTells.mk pyxlaw16_RateTells.re (by kernel_rfl) (by kernel_rfl) pyxlaw16_RateTells.fit pyxlaw16_RateTells.fitR (pyxlaw16_RateTells.eq k)
end
end Go.Proofs.Ytlaogfkgkpgofaa
