import Derived.Test.YtlaogfkgkpgofaaU
/-! Functions, told; their equations with the evaluator; that they are sound. Written by gen.py. -/
namespace Go.Proofs.Ytlaogfkgkpgofaa
open Go Go.Ev
noncomputable section
set_option linter.unusedVariables false
set_option linter.unusedSimpArgs false
set_option maxRecDepth 100000
/-! ### pyx/pyxhand.Pick: function 25 -/
noncomputable def pyxhand_Pick.f (k : Nat) (a0 : Int) (a1 : Int) : Option Int := cond (a1 == 0) none (cond (decide ((Int.tmod a0 a1) < 0)) (some (IntKind.wrap .i64 ((Int.tmod a0 a1) + a1))) (some (Int.tmod a0 a1)))
noncomputable def pyxhand_Pick.i : Lay U (Int × Int) := (pcAnd (pcOne 0 (tAt (vInt .i64))) (pcOne 1 (tAt (vInt .i64)))).lay (fun _ => by kernel_rfl)
noncomputable def pyxhand_Pick.r : Lay U Int := (pcOne 0 (tAt (vInt .i64))).lay (fun _ => by kernel_rfl)
noncomputable def pyxhand_Pick.D (k : Nat) : FDen U := fdn pyxhand_Pick.i pyxhand_Pick.r Try.f25.ntmps [] true (fun x => pyxhand_Pick.f k (x.1) (x.2)) (fun _ _ => rfl)
noncomputable def pyxhand_Pick.E (k : Nat) : Env U := mkE Try.f25 [] [] [] [] n0 n0 [] false n00
theorem pyxhand_Pick.eq (k : Nat) (x : (Int × Int)) : runF (pyxhand_Pick.E k) (codeOf Try.f25) (pyxhand_Pick.i.put x) pyxhand_Pick.r.un = pyxhand_Pick.f k (x.1) (x.2) := by kernel_rfl
theorem pyxhand_Pick.sound (k : Nat) : Sound Try.prog DD 25 (pyxhand_Pick.D k) :=
  funP (E := pyxhand_Pick.E k) (fn := Try.f25) (c := codeOf Try.f25) (mkE_ok _ _ _ _ _ _ _ _ _ _) mixed rfl Try.func25 (by kernel_rfl) (by kernel_rfl) (allL_of (l := []) (by kernel_rfl) allL_nil) pyxhand_Pick.i pyxhand_Pick.r [] true (fun x => pyxhand_Pick.f k (x.1) (x.2)) (fun _ _ => rfl) (by kernel_rfl) (pyxhand_Pick.eq k)
noncomputable def pyxhand_Pick.pk (k : Nat) : Pk Try.prog DD := ⟨25, pyxhand_Pick.D k, pyxhand_Pick.sound k, enter_of Try.func25 (by kernel_rfl) (by kernel_rfl)⟩
/-! ### pyx/ledger.New: function 27 -/
noncomputable def ledger_New.f (k : Nat) (a0 : Int) : Option Sledger_Book := some (⟨(if (if 4 < a0 then 4 else a0) > 0 then (if 4 < a0 then 4 else a0) else 0), [], (⟨[false, false, false, false, false, false, false, false, false, false, false, false], [0, 0, 0, 0, 0, 0, 0, 0, 0, 0, 0, 0]⟩ : Speriod_Table)⟩ : Sledger_Book)
noncomputable def ledger_New.i : Lay U Int := (pcOne 0 (tAt (vInt .i64))).lay (fun _ => by kernel_rfl)
noncomputable def ledger_New.r : Lay U Sledger_Book := (pcOne 0 (io_Sledger_Book_rt 7 6000000000000)).lay (fun _ => by kernel_rfl)
noncomputable def ledger_New.D (k : Nat) : FDen U := fdn ledger_New.i ledger_New.r Try.f27.ntmps [] false (fun x => ledger_New.f k (x)) (fun h => by cases h)
noncomputable def ledger_New.E (k : Nat) : Env U := mkE Try.f27 [] [] [] [] n0 n0 [] false n00
theorem ledger_New.eq (k : Nat) (x : Int) : runF (ledger_New.E k) (codeOf Try.f27) (ledger_New.i.put x) ledger_New.r.un = ledger_New.f k (x) := by kernel_rfl
theorem ledger_New.sound (k : Nat) : Sound Try.prog DD 27 (ledger_New.D k) :=
  funP (E := ledger_New.E k) (fn := Try.f27) (c := codeOf Try.f27) (mkE_ok _ _ _ _ _ _ _ _ _ _) mixed rfl Try.func27 (by kernel_rfl) (by kernel_rfl) (allL_of (l := []) (by kernel_rfl) allL_nil) ledger_New.i ledger_New.r [] false (fun x => ledger_New.f k (x)) (fun h => by cases h) (by kernel_rfl) (ledger_New.eq k)
noncomputable def ledger_New.pk (k : Nat) : Pk Try.prog DD := ⟨27, ledger_New.D k, ledger_New.sound k, enter_of Try.func27 (by kernel_rfl) (by kernel_rfl)⟩
/-! ### pyx/pyxref1.Within: function 60 -/
noncomputable def pyxref1_Within.f (k : Nat) (a0 : Int) (a1 : Int) (a2 : Int) : Option Int := some (if (if a0 < a2 then a0 else a2) > a1 then (if a0 < a2 then a0 else a2) else a1)
noncomputable def pyxref1_Within.i : Lay U (Int × Int × Int) := (pcAnd (pcOne 0 (tAt (vInt .i64))) (pcAnd (pcOne 1 (tAt (vInt .i64))) (pcOne 2 (tAt (vInt .i64))))).lay (fun _ => by kernel_rfl)
noncomputable def pyxref1_Within.r : Lay U Int := (pcOne 0 (tAt (vInt .i64))).lay (fun _ => by kernel_rfl)
noncomputable def pyxref1_Within.D (k : Nat) : FDen U := fdn pyxref1_Within.i pyxref1_Within.r Try.f60.ntmps [] true (fun x => pyxref1_Within.f k (x.1) (x.2.1) (x.2.2)) (fun _ _ => rfl)
noncomputable def pyxref1_Within.E (k : Nat) : Env U := mkE Try.f60 [] [] [] [] n0 n0 [] false n00
theorem pyxref1_Within.eq (k : Nat) (x : (Int × Int × Int)) : runF (pyxref1_Within.E k) (codeOf Try.f60) (pyxref1_Within.i.put x) pyxref1_Within.r.un = pyxref1_Within.f k (x.1) (x.2.1) (x.2.2) := by kernel_rfl
theorem pyxref1_Within.sound (k : Nat) : Sound Try.prog DD 60 (pyxref1_Within.D k) :=
  funP (E := pyxref1_Within.E k) (fn := Try.f60) (c := codeOf Try.f60) (mkE_ok _ _ _ _ _ _ _ _ _ _) mixed rfl Try.func60 (by kernel_rfl) (by kernel_rfl) (allL_of (l := []) (by kernel_rfl) allL_nil) pyxref1_Within.i pyxref1_Within.r [] true (fun x => pyxref1_Within.f k (x.1) (x.2.1) (x.2.2)) (fun _ _ => rfl) (by kernel_rfl) (pyxref1_Within.eq k)
noncomputable def pyxref1_Within.pk (k : Nat) : Pk Try.prog DD := ⟨60, pyxref1_Within.D k, pyxref1_Within.sound k, enter_of Try.func60 (by kernel_rfl) (by kernel_rfl)⟩
/-! ### pyx/pyxref11.NewBook: function 38 -/
noncomputable def pyxref11_NewBook.f (k : Nat) (a0 : Int) : Option Spyxref11_Book := (pyxref1_Within.f k a0 0 4).bind fun t1 => (some (⟨t1, [], (⟨[false, false, false, false, false, false, false, false, false, false, false, false], [0, 0, 0, 0, 0, 0, 0, 0, 0, 0, 0, 0]⟩ : Spyxref11_Table)⟩ : Spyxref11_Book))
noncomputable def pyxref11_NewBook.i : Lay U Int := (pcOne 0 (tAt (vInt .i64))).lay (fun _ => by kernel_rfl)
noncomputable def pyxref11_NewBook.r : Lay U Spyxref11_Book := (pcOne 0 (io_Spyxref11_Book_rt 6 6000000000000)).lay (fun _ => by kernel_rfl)
noncomputable def pyxref11_NewBook.D (k : Nat) : FDen U := fdn pyxref11_NewBook.i pyxref11_NewBook.r Try.f38.ntmps [] false (fun x => pyxref11_NewBook.f k (x)) (fun h => by cases h)
noncomputable def pyxref11_NewBook.E (k : Nat) : Env U := mkE Try.f38 [pyxref1_Within.pk k] [] [] [] n0 n0 [] false n00
theorem pyxref11_NewBook.eq (k : Nat) (x : Int) : runF (pyxref11_NewBook.E k) (codeOf Try.f38) (pyxref11_NewBook.i.put x) pyxref11_NewBook.r.un = pyxref11_NewBook.f k (x) := by kernel_rfl
theorem pyxref11_NewBook.sound (k : Nat) : Sound Try.prog DD 38 (pyxref11_NewBook.D k) :=
  funP (E := pyxref11_NewBook.E k) (fn := Try.f38) (c := codeOf Try.f38) (mkE_ok _ _ _ _ _ _ _ _ _ _) mixed rfl Try.func38 (by kernel_rfl) (by kernel_rfl) (allL_of (l := []) (by kernel_rfl) allL_nil) pyxref11_NewBook.i pyxref11_NewBook.r [] false (fun x => pyxref11_NewBook.f k (x)) (fun h => by cases h) (by kernel_rfl) (pyxref11_NewBook.eq k)
noncomputable def pyxref11_NewBook.pk (k : Nat) : Pk Try.prog DD := ⟨38, pyxref11_NewBook.D k, pyxref11_NewBook.sound k, enter_of Try.func38 (by kernel_rfl) (by kernel_rfl)⟩
/-! ### pyx/pyxref11.Zero: function 35 -/
noncomputable def pyxref11_Zero.f (k : Nat) (a0 : Int) : Option Sapi_Dec := some (⟨false, (0, 0), a0⟩ : Sapi_Dec)
noncomputable def pyxref11_Zero.i : Lay U Int := (pcOne 0 (tAt (vInt .i64))).lay (fun _ => by kernel_rfl)
noncomputable def pyxref11_Zero.r : Lay U Sapi_Dec := (pcOne 0 (tAt (vCd cd_Sapi_Dec))).lay (fun _ => by kernel_rfl)
noncomputable def pyxref11_Zero.D (k : Nat) : FDen U := fdn pyxref11_Zero.i pyxref11_Zero.r Try.f35.ntmps [] true (fun x => pyxref11_Zero.f k (x)) (fun _ _ => rfl)
noncomputable def pyxref11_Zero.E (k : Nat) : Env U := mkE Try.f35 [] [] [] [] n0 n0 [] false n00
theorem pyxref11_Zero.eq (k : Nat) (x : Int) : runF (pyxref11_Zero.E k) (codeOf Try.f35) (pyxref11_Zero.i.put x) pyxref11_Zero.r.un = pyxref11_Zero.f k (x) := by kernel_rfl
theorem pyxref11_Zero.sound (k : Nat) : Sound Try.prog DD 35 (pyxref11_Zero.D k) :=
  funP (E := pyxref11_Zero.E k) (fn := Try.f35) (c := codeOf Try.f35) (mkE_ok _ _ _ _ _ _ _ _ _ _) mixed rfl Try.func35 (by kernel_rfl) (by kernel_rfl) (allL_of (l := []) (by kernel_rfl) allL_nil) pyxref11_Zero.i pyxref11_Zero.r [] true (fun x => pyxref11_Zero.f k (x)) (fun _ _ => rfl) (by kernel_rfl) (pyxref11_Zero.eq k)
noncomputable def pyxref11_Zero.pk (k : Nat) : Pk Try.prog DD := ⟨35, pyxref11_Zero.D k, pyxref11_Zero.sound k, enter_of Try.func35 (by kernel_rfl) (by kernel_rfl)⟩
/-! ### pyx/pyxref1.Word: function 59 -/
noncomputable def pyxref1_Word.l2.once (k : Nat) (x : (Int × List Int)) : Option ((Int × List Int) ⊕ (List Int)) := match x with | (x1, x2) => cond (decide (x1 > 0)) (cond (okLen (List.length x2 + List.length [IntKind.wrap .i64 (Int.tmod x1 10)]) 8) (some (.inl (IntKind.wrap .u64 (Int.tdiv x1 10), x2 ++ [IntKind.wrap .i64 (Int.tmod x1 10)]))) none) (some (.inr x2))
noncomputable def pyxref1_Word.f (k : Nat) (a0 : Int) : Option (List Int) := (iter (pyxref1_Word.l2.once k) k (a0, ([] : List Int))).bind fun y4 => (some y4)
noncomputable def pyxref1_Word.i : Lay U Int := (pcOne 0 (tAt (vInt .u64))).lay (fun _ => by kernel_rfl)
noncomputable def pyxref1_Word.r : Lay U (List Int) := (pcOne 0 (tAt (vRow DD C.i64))).lay (fun _ => by kernel_rfl)
noncomputable def pyxref1_Word.D (k : Nat) : FDen U := fdn pyxref1_Word.i pyxref1_Word.r Try.f59.ntmps [] true (fun x => pyxref1_Word.f k (x)) (fun _ _ => rfl)
noncomputable def pyxref1_Word.l2.i : Lay U (Int × List Int) := (lay [(0, sAt (vInt .u64)), (3, sAt (vTip DD 1002003 C.i64 1))] [] (fun _ => by kernel_rfl))
noncomputable def pyxref1_Word.l2.o : OLay U (List Int) := oExit 0 (lay [(3, sAt (vTip DD 1002003 C.i64 1))] [] (fun _ => by kernel_rfl))
noncomputable def pyxref1_Word.E (k : Nat) : Env U := mkE Try.f59 [] [] [(2, ldn pyxref1_Word.l2.i pyxref1_Word.l2.o (iter (pyxref1_Word.l2.once k) k))] [] n0 n0 [] false n00
theorem pyxref1_Word.l2.eq (k : Nat) (x : (Int × List Int)) : evC (pyxref1_Word.E k) (loopAt Try.f59 2) (pyxref1_Word.l2.i.put x) (headK pyxref1_Word.l2.i.un pyxref1_Word.l2.o.re) = pyxref1_Word.l2.once k x := by kernel_rfl
theorem pyxref1_Word.l2.sound (k : Nat) : LSound (pyxref1_Word.E k) Try.f59.ntmps Try.f59 (loopAt Try.f59 2) (ldn pyxref1_Word.l2.i pyxref1_Word.l2.o (iter (pyxref1_Word.l2.once k) k)) :=
  loopP (mkE_ok _ _ _ _ _ _ _ _ _ _) mixed rfl (by kernel_rfl) (allL_of (l := []) (by kernel_rfl) allL_nil) pyxref1_Word.l2.i pyxref1_Word.l2.o (pyxref1_Word.l2.once k) k (pyxref1_Word.l2.eq k)
theorem pyxref1_Word.eq (k : Nat) (x : Int) : runF (pyxref1_Word.E k) (codeOf Try.f59) (pyxref1_Word.i.put x) pyxref1_Word.r.un = pyxref1_Word.f k (x) := by kernel_rfl
theorem pyxref1_Word.sound (k : Nat) : Sound Try.prog DD 59 (pyxref1_Word.D k) :=
  funP (E := pyxref1_Word.E k) (fn := Try.f59) (c := codeOf Try.f59) (mkE_ok _ _ _ _ _ _ _ _ _ _) mixed rfl Try.func59 (by kernel_rfl) (by kernel_rfl) (allL_of (l := [loopAt Try.f59 2]) (by kernel_rfl) (allL_cons (key := 2) (by kernel_rfl) rfl (pyxref1_Word.l2.sound k) allL_nil)) pyxref1_Word.i pyxref1_Word.r [] true (fun x => pyxref1_Word.f k (x)) (fun _ _ => rfl) (by kernel_rfl) (pyxref1_Word.eq k)
noncomputable def pyxref1_Word.pk (k : Nat) : Pk Try.prog DD := ⟨59, pyxref1_Word.D k, pyxref1_Word.sound k, enter_of Try.func59 (by kernel_rfl) (by kernel_rfl)⟩
/-! ### pyx/pyxref1.digit: function 145 -/
noncomputable def pyxref1_digit.f (k : Nat) (a0 : List Int) (a1 : Int) : Option Int := cond (decide (a1 < (List.length a0 : Int))) (cond (inb a1 (List.length a0)) (some (List.getD a0 (Int.toNat a1) 0)) none) (some 0)
noncomputable def pyxref1_digit.i : Lay U (List Int × Int) := (pcAnd (pcOne 0 (tAt (vRow DD C.i64))) (pcOne 1 (tAt (vInt .i64)))).lay (fun _ => by kernel_rfl)
noncomputable def pyxref1_digit.r : Lay U Int := (pcOne 0 (tAt (vInt .i64))).lay (fun _ => by kernel_rfl)
noncomputable def pyxref1_digit.D (k : Nat) : FDen U := fdn pyxref1_digit.i pyxref1_digit.r Try.f145.ntmps [] true (fun x => pyxref1_digit.f k (x.1) (x.2)) (fun _ _ => rfl)
noncomputable def pyxref1_digit.E (k : Nat) : Env U := mkE Try.f145 [] [] [] [] n0 n0 [] false n00
theorem pyxref1_digit.eq (k : Nat) (x : (List Int × Int)) : runF (pyxref1_digit.E k) (codeOf Try.f145) (pyxref1_digit.i.put x) pyxref1_digit.r.un = pyxref1_digit.f k (x.1) (x.2) := by kernel_rfl
theorem pyxref1_digit.sound (k : Nat) : Sound Try.prog DD 145 (pyxref1_digit.D k) :=
  funP (E := pyxref1_digit.E k) (fn := Try.f145) (c := codeOf Try.f145) (mkE_ok _ _ _ _ _ _ _ _ _ _) mixed rfl Try.func145 (by kernel_rfl) (by kernel_rfl) (allL_of (l := []) (by kernel_rfl) allL_nil) pyxref1_digit.i pyxref1_digit.r [] true (fun x => pyxref1_digit.f k (x.1) (x.2)) (fun _ _ => rfl) (by kernel_rfl) (pyxref1_digit.eq k)
noncomputable def pyxref1_digit.pk (k : Nat) : Pk Try.prog DD := ⟨145, pyxref1_digit.D k, pyxref1_digit.sound k, enter_of Try.func145 (by kernel_rfl) (by kernel_rfl)⟩
/-! ### pyx/pyxref1.trim: function 146 -/
noncomputable def pyxref1_trim.l1.once (k : Nat) (x : List Int) : Option ((List Int) ⊕ (List Int)) := match x with | x1 => ((cond (decide ((List.length x1 : Int) > 0)) (cond (inb (IntKind.wrap .i64 ((List.length x1 : Int) - 1)) (List.length x1)) (some (x1, (List.getD x1 (Int.toNat (IntKind.wrap .i64 ((List.length x1 : Int) - 1))) 0) == 0)) none) (some (x1, false))) : Option (List Int × Bool)).bind fun y4 => (cond (y4.2) (cond (inS 0 (IntKind.wrap .i64 ((List.length y4.1 : Int) - 1)) (List.length y4.1)) (some (.inl (List.take (Int.toNat (IntKind.wrap .i64 ((List.length y4.1 : Int) - 1))) y4.1))) none) (some (.inr y4.1)))
noncomputable def pyxref1_trim.f (k : Nat) (a0 : List Int) : Option (List Int) := (iter (pyxref1_trim.l1.once k) k a0).bind fun y6 => (some y6)
noncomputable def pyxref1_trim.i : Lay U (List Int) := (pcOne 0 (tAt (vRow DD C.i64))).lay (fun _ => by kernel_rfl)
noncomputable def pyxref1_trim.r : Lay U (List Int) := (pcOne 0 (tAt (vRow DD C.i64))).lay (fun _ => by kernel_rfl)
noncomputable def pyxref1_trim.D (k : Nat) : FDen U := fdn pyxref1_trim.i pyxref1_trim.r Try.f146.ntmps [] true (fun x => pyxref1_trim.f k (x)) (fun _ _ => rfl)
noncomputable def pyxref1_trim.l1.i : Lay U (List Int) := (lay [(0, sAt (vRow DD C.i64))] [] (fun _ => by kernel_rfl))
noncomputable def pyxref1_trim.l1.o : OLay U (List Int) := oExit 0 (lay [(0, sAt (vRow DD C.i64))] [] (fun _ => by kernel_rfl))
noncomputable def pyxref1_trim.j1000 : Jk U := ⟨(List Int × Bool), oNorm (lay [(0, sAt (vRow DD C.i64)), (14, sAt vBool)] [] (fun _ => by kernel_rfl))⟩
noncomputable def pyxref1_trim.E (k : Nat) : Env U := mkE Try.f146 [] [(1000, pyxref1_trim.j1000)] [(1, ldn pyxref1_trim.l1.i pyxref1_trim.l1.o (iter (pyxref1_trim.l1.once k) k))] [] n0 n0 [] false n00
theorem pyxref1_trim.l1.eq (k : Nat) (x : List Int) : evC (pyxref1_trim.E k) (loopAt Try.f146 1) (pyxref1_trim.l1.i.put x) (headK pyxref1_trim.l1.i.un pyxref1_trim.l1.o.re) = pyxref1_trim.l1.once k x := by kernel_rfl
theorem pyxref1_trim.l1.sound (k : Nat) : LSound (pyxref1_trim.E k) Try.f146.ntmps Try.f146 (loopAt Try.f146 1) (ldn pyxref1_trim.l1.i pyxref1_trim.l1.o (iter (pyxref1_trim.l1.once k) k)) :=
  loopP (mkE_ok _ _ _ _ _ _ _ _ _ _) mixed rfl (by kernel_rfl) (allL_of (l := []) (by kernel_rfl) allL_nil) pyxref1_trim.l1.i pyxref1_trim.l1.o (pyxref1_trim.l1.once k) k (pyxref1_trim.l1.eq k)
theorem pyxref1_trim.eq (k : Nat) (x : List Int) : runF (pyxref1_trim.E k) (codeOf Try.f146) (pyxref1_trim.i.put x) pyxref1_trim.r.un = pyxref1_trim.f k (x) := by kernel_rfl
theorem pyxref1_trim.sound (k : Nat) : Sound Try.prog DD 146 (pyxref1_trim.D k) :=
  funP (E := pyxref1_trim.E k) (fn := Try.f146) (c := codeOf Try.f146) (mkE_ok _ _ _ _ _ _ _ _ _ _) mixed rfl Try.func146 (by kernel_rfl) (by kernel_rfl) (allL_of (l := [loopAt Try.f146 1]) (by kernel_rfl) (allL_cons (key := 1) (by kernel_rfl) rfl (pyxref1_trim.l1.sound k) allL_nil)) pyxref1_trim.i pyxref1_trim.r [] true (fun x => pyxref1_trim.f k (x)) (fun _ _ => rfl) (by kernel_rfl) (pyxref1_trim.eq k)
noncomputable def pyxref1_trim.pk (k : Nat) : Pk Try.prog DD := ⟨146, pyxref1_trim.D k, pyxref1_trim.sound k, enter_of Try.func146 (by kernel_rfl) (by kernel_rfl)⟩
/-! ### pyx/pyxref1.AddNat: function 117 -/
noncomputable def pyxref1_AddNat.l4.once (k : Nat) (x : (List Int × List Int × List Int × Int × Int)) : Option ((List Int × List Int × List Int × Int × Int) ⊕ (List Int)) := match x with | (x1, x2, x3, x4, x5) => ((cond (decide (x5 < (List.length x1 : Int))) (some (x1, x2, x3, x4, x5, true)) (cond (decide (x5 < (List.length x2 : Int))) (some (x1, x2, x3, x4, x5, true)) (some (x1, x2, x3, x4, x5, decide (x4 > 0))))) : Option (List Int × List Int × List Int × Int × Int × Bool)).bind fun y12 => (cond (y12.2.2.2.2.2) ((pyxref1_digit.f k y12.1 y12.2.2.2.2.1).bind fun t13 => ((pyxref1_digit.f k y12.2.1 y12.2.2.2.2.1).bind fun t14 => (cond (okLen (List.length y12.2.2.1 + List.length [Int.tmod (IntKind.wrap .i64 ((IntKind.wrap .i64 (t13 + t14)) + y12.2.2.2.1)) 10]) 8) (some (.inl (y12.1, y12.2.1, y12.2.2.1 ++ [Int.tmod (IntKind.wrap .i64 ((IntKind.wrap .i64 (t13 + t14)) + y12.2.2.2.1)) 10], IntKind.wrap .i64 (Int.tdiv (IntKind.wrap .i64 ((IntKind.wrap .i64 (t13 + t14)) + y12.2.2.2.1)) 10), IntKind.wrap .i64 (y12.2.2.2.2.1 + 1)))) none))) (some (.inr y12.2.2.1)))
noncomputable def pyxref1_AddNat.f (k : Nat) (a0 : List Int) (a1 : List Int) : Option (List Int) := (iter (pyxref1_AddNat.l4.once k) k (a0, a1, ([] : List Int), 0, 0)).bind fun y16 => ((pyxref1_trim.f k y16).bind fun t17 => (some t17))
noncomputable def pyxref1_AddNat.i : Lay U (List Int × List Int) := (pcAnd (pcOne 0 (tAt (vRow DD C.i64))) (pcOne 1 (tAt (vRow DD C.i64)))).lay (fun _ => by kernel_rfl)
noncomputable def pyxref1_AddNat.r : Lay U (List Int) := (pcOne 0 (tAt (vRow DD C.i64))).lay (fun _ => by kernel_rfl)
noncomputable def pyxref1_AddNat.D (k : Nat) : FDen U := fdn pyxref1_AddNat.i pyxref1_AddNat.r Try.f117.ntmps [] true (fun x => pyxref1_AddNat.f k (x.1) (x.2)) (fun _ _ => rfl)
noncomputable def pyxref1_AddNat.l4.i : Lay U (List Int × List Int × List Int × Int × Int) := (lay [(0, sAt (vRow DD C.i64)), (1, sAt (vRow DD C.i64)), (5, sAt (vTip DD 1004005 C.i64 1)), (6, sAt (vInt .i64)), (7, sAt (vInt .i64))] [] (fun _ => by kernel_rfl))
noncomputable def pyxref1_AddNat.l4.o : OLay U (List Int) := oExit 0 (lay [(5, sAt (vTip DD 1004005 C.i64 1))] [] (fun _ => by kernel_rfl))
noncomputable def pyxref1_AddNat.j4000 : Jk U := ⟨(List Int × List Int × List Int × Int × Int × Bool), oNorm (lay [(0, sAt (vRow DD C.i64)), (1, sAt (vRow DD C.i64)), (5, sAt (vTip DD 1005000005 C.i64 1)), (6, sAt (vInt .i64)), (7, sAt (vInt .i64)), (22, sAt vBool)] [] (fun _ => by kernel_rfl))⟩
noncomputable def pyxref1_AddNat.E (k : Nat) : Env U := mkE Try.f117 [pyxref1_digit.pk k, pyxref1_trim.pk k] [(4000, pyxref1_AddNat.j4000)] [(4, ldn pyxref1_AddNat.l4.i pyxref1_AddNat.l4.o (iter (pyxref1_AddNat.l4.once k) k))] [] n0 n0 [] false n00
theorem pyxref1_AddNat.l4.eq (k : Nat) (x : (List Int × List Int × List Int × Int × Int)) : evC (pyxref1_AddNat.E k) (loopAt Try.f117 4) (pyxref1_AddNat.l4.i.put x) (headK pyxref1_AddNat.l4.i.un pyxref1_AddNat.l4.o.re) = pyxref1_AddNat.l4.once k x := by kernel_rfl
theorem pyxref1_AddNat.l4.sound (k : Nat) : LSound (pyxref1_AddNat.E k) Try.f117.ntmps Try.f117 (loopAt Try.f117 4) (ldn pyxref1_AddNat.l4.i pyxref1_AddNat.l4.o (iter (pyxref1_AddNat.l4.once k) k)) :=
  loopP (mkE_ok _ _ _ _ _ _ _ _ _ _) mixed rfl (by kernel_rfl) (allL_of (l := []) (by kernel_rfl) allL_nil) pyxref1_AddNat.l4.i pyxref1_AddNat.l4.o (pyxref1_AddNat.l4.once k) k (pyxref1_AddNat.l4.eq k)
theorem pyxref1_AddNat.eq (k : Nat) (x : (List Int × List Int)) : runF (pyxref1_AddNat.E k) (codeOf Try.f117) (pyxref1_AddNat.i.put x) pyxref1_AddNat.r.un = pyxref1_AddNat.f k (x.1) (x.2) := by kernel_rfl
theorem pyxref1_AddNat.sound (k : Nat) : Sound Try.prog DD 117 (pyxref1_AddNat.D k) :=
  funP (E := pyxref1_AddNat.E k) (fn := Try.f117) (c := codeOf Try.f117) (mkE_ok _ _ _ _ _ _ _ _ _ _) mixed rfl Try.func117 (by kernel_rfl) (by kernel_rfl) (allL_of (l := [loopAt Try.f117 4]) (by kernel_rfl) (allL_cons (key := 4) (by kernel_rfl) rfl (pyxref1_AddNat.l4.sound k) allL_nil)) pyxref1_AddNat.i pyxref1_AddNat.r [] true (fun x => pyxref1_AddNat.f k (x.1) (x.2)) (fun _ _ => rfl) (by kernel_rfl) (pyxref1_AddNat.eq k)
noncomputable def pyxref1_AddNat.pk (k : Nat) : Pk Try.prog DD := ⟨117, pyxref1_AddNat.D k, pyxref1_AddNat.sound k, enter_of Try.func117 (by kernel_rfl) (by kernel_rfl)⟩
/-! ### pyx/pyxref1.radix: function 138 -/
noncomputable def pyxref1_radix.f (k : Nat)  : Option (List Int) := (pyxref1_Word.f k 18446744073709551615).bind fun t1 => ((pyxref1_AddNat.f k t1 [1]).bind fun t2 => (some t2))
noncomputable def pyxref1_radix.i : Lay U Unit := (pcUnit).lay (fun _ => by kernel_rfl)
noncomputable def pyxref1_radix.r : Lay U (List Int) := (pcOne 0 (tAt (vRow DD C.i64))).lay (fun _ => by kernel_rfl)
noncomputable def pyxref1_radix.D (k : Nat) : FDen U := fdn pyxref1_radix.i pyxref1_radix.r Try.f138.ntmps [] true (fun x => pyxref1_radix.f k ) (fun _ _ => rfl)
noncomputable def pyxref1_radix.E (k : Nat) : Env U := mkE Try.f138 [pyxref1_Word.pk k, pyxref1_AddNat.pk k] [] [] [] n0 n0 [] false n00
theorem pyxref1_radix.eq (k : Nat) (x : Unit) : runF (pyxref1_radix.E k) (codeOf Try.f138) (pyxref1_radix.i.put x) pyxref1_radix.r.un = pyxref1_radix.f k  := by kernel_rfl
theorem pyxref1_radix.sound (k : Nat) : Sound Try.prog DD 138 (pyxref1_radix.D k) :=
  funP (E := pyxref1_radix.E k) (fn := Try.f138) (c := codeOf Try.f138) (mkE_ok _ _ _ _ _ _ _ _ _ _) mixed rfl Try.func138 (by kernel_rfl) (by kernel_rfl) (allL_of (l := []) (by kernel_rfl) allL_nil) pyxref1_radix.i pyxref1_radix.r [] true (fun x => pyxref1_radix.f k ) (fun _ _ => rfl) (by kernel_rfl) (pyxref1_radix.eq k)
noncomputable def pyxref1_radix.pk (k : Nat) : Pk Try.prog DD := ⟨138, pyxref1_radix.D k, pyxref1_radix.sound k, enter_of Try.func138 (by kernel_rfl) (by kernel_rfl)⟩
/-! ### pyx/pyxref1.CmpNat: function 118 -/
noncomputable def pyxref1_CmpNat.l6.once (k : Nat) (x : (List Int × List Int × Int)) : Option ((List Int × List Int × Int) ⊕ (Unit ⊕ Int)) := match x with | (x1, x2, x3) => cond (decide (x3 ≥ 0)) (cond (inb x3 (List.length x1)) (cond (inb x3 (List.length x2)) (cond (decide ((List.getD x1 (Int.toNat x3) 0) < (List.getD x2 (Int.toNat x3) 0))) (some (.inr (.inr (-1)))) (cond (inb x3 (List.length x1)) (cond (inb x3 (List.length x2)) (cond (decide ((List.getD x1 (Int.toNat x3) 0) > (List.getD x2 (Int.toNat x3) 0))) (some (.inr (.inr 1))) (some (.inl (x1, x2, IntKind.wrap .i64 (x3 - 1))))) none) none)) none) none) (some (.inr (.inl ())))
noncomputable def pyxref1_CmpNat.f (k : Nat) (a0 : List Int) (a1 : List Int) : Option Int := cond ((List.length a0 : Int) != (List.length a1 : Int)) (cond (decide ((List.length a0 : Int) < (List.length a1 : Int))) (some (-1)) (some 1)) ((iter (pyxref1_CmpNat.l6.once k) k (a0, a1, IntKind.wrap .i64 ((List.length a0 : Int) - 1))).bind fun | .inl y5 => (some 0) | .inr y6 => (some y6))
noncomputable def pyxref1_CmpNat.i : Lay U (List Int × List Int) := (pcAnd (pcOne 0 (tAt (vRow DD C.i64))) (pcOne 1 (tAt (vRow DD C.i64)))).lay (fun _ => by kernel_rfl)
noncomputable def pyxref1_CmpNat.r : Lay U Int := (pcOne 0 (tAt (vInt .i64))).lay (fun _ => by kernel_rfl)
noncomputable def pyxref1_CmpNat.D (k : Nat) : FDen U := fdn pyxref1_CmpNat.i pyxref1_CmpNat.r Try.f118.ntmps [] true (fun x => pyxref1_CmpNat.f k (x.1) (x.2)) (fun _ _ => rfl)
noncomputable def pyxref1_CmpNat.l6.i : Lay U (List Int × List Int × Int) := (lay [(0, sAt (vRow DD C.i64)), (1, sAt (vRow DD C.i64)), (5, sAt (vInt .i64))] [] (fun _ => by kernel_rfl))
noncomputable def pyxref1_CmpNat.l6.o : OLay U (Unit ⊕ Int) := oOr (oExit 0 (lay [] [] (fun _ => by kernel_rfl))) (oRet pyxref1_CmpNat.r)
noncomputable def pyxref1_CmpNat.E (k : Nat) : Env U := mkE Try.f118 [] [] [(6, ldn pyxref1_CmpNat.l6.i pyxref1_CmpNat.l6.o (iter (pyxref1_CmpNat.l6.once k) k))] [] n0 n0 [] false n00
theorem pyxref1_CmpNat.l6.eq (k : Nat) (x : (List Int × List Int × Int)) : evC (pyxref1_CmpNat.E k) (loopAt Try.f118 6) (pyxref1_CmpNat.l6.i.put x) (headK pyxref1_CmpNat.l6.i.un pyxref1_CmpNat.l6.o.re) = pyxref1_CmpNat.l6.once k x := by kernel_rfl
theorem pyxref1_CmpNat.l6.sound (k : Nat) : LSound (pyxref1_CmpNat.E k) Try.f118.ntmps Try.f118 (loopAt Try.f118 6) (ldn pyxref1_CmpNat.l6.i pyxref1_CmpNat.l6.o (iter (pyxref1_CmpNat.l6.once k) k)) :=
  loopP (mkE_ok _ _ _ _ _ _ _ _ _ _) mixed rfl (by kernel_rfl) (allL_of (l := []) (by kernel_rfl) allL_nil) pyxref1_CmpNat.l6.i pyxref1_CmpNat.l6.o (pyxref1_CmpNat.l6.once k) k (pyxref1_CmpNat.l6.eq k)
theorem pyxref1_CmpNat.eq (k : Nat) (x : (List Int × List Int)) : runF (pyxref1_CmpNat.E k) (codeOf Try.f118) (pyxref1_CmpNat.i.put x) pyxref1_CmpNat.r.un = pyxref1_CmpNat.f k (x.1) (x.2) := by kernel_rfl
theorem pyxref1_CmpNat.sound (k : Nat) : Sound Try.prog DD 118 (pyxref1_CmpNat.D k) :=
  funP (E := pyxref1_CmpNat.E k) (fn := Try.f118) (c := codeOf Try.f118) (mkE_ok _ _ _ _ _ _ _ _ _ _) mixed rfl Try.func118 (by kernel_rfl) (by kernel_rfl) (allL_of (l := [loopAt Try.f118 6]) (by kernel_rfl) (allL_cons (key := 6) (by kernel_rfl) rfl (pyxref1_CmpNat.l6.sound k) allL_nil)) pyxref1_CmpNat.i pyxref1_CmpNat.r [] true (fun x => pyxref1_CmpNat.f k (x.1) (x.2)) (fun _ _ => rfl) (by kernel_rfl) (pyxref1_CmpNat.eq k)
noncomputable def pyxref1_CmpNat.pk (k : Nat) : Pk Try.prog DD := ⟨118, pyxref1_CmpNat.D k, pyxref1_CmpNat.sound k, enter_of Try.func118 (by kernel_rfl) (by kernel_rfl)⟩
/-! ### pyx/pyxref1.SubNat: function 119 -/
noncomputable def pyxref1_SubNat.l4.once (k : Nat) (x : (List Int × List Int × List Int × Int × Int)) : Option ((List Int × List Int × List Int × Int × Int) ⊕ (List Int)) := match x with | (x1, x2, x3, x4, x5) => cond (decide (x5 < (List.length x1 : Int))) (((cond (inb x5 (List.length x1)) ((pyxref1_digit.f k x2 x5).bind fun t6 => (((cond (decide ((IntKind.wrap .i64 ((IntKind.wrap .i64 ((List.getD x1 (Int.toNat x5) 0) - t6)) - x4)) < 0)) (some (x1, x2, x3, 1, x5, IntKind.wrap .i64 ((IntKind.wrap .i64 ((IntKind.wrap .i64 ((List.getD x1 (Int.toNat x5) 0) - t6)) - x4)) + 10))) (some (x1, x2, x3, 0, x5, IntKind.wrap .i64 ((IntKind.wrap .i64 ((List.getD x1 (Int.toNat x5) 0) - t6)) - x4)))) : Option (List Int × List Int × List Int × Int × Int × Int)).bind fun y13 => (cond (okLen (List.length y13.2.2.1 + List.length [y13.2.2.2.2.2]) 8) (some (y13.1, y13.2.1, y13.2.2.1 ++ [y13.2.2.2.2.2], y13.2.2.2.1, y13.2.2.2.2.1)) none))) none) : Option (List Int × List Int × List Int × Int × Int)).bind fun y19 => (some (.inl (y19.1, y19.2.1, y19.2.2.1, y19.2.2.2.1, IntKind.wrap .i64 (y19.2.2.2.2 + 1))))) (some (.inr x3))
noncomputable def pyxref1_SubNat.f (k : Nat) (a0 : List Int) (a1 : List Int) : Option (List Int) := (iter (pyxref1_SubNat.l4.once k) k (a0, a1, ([] : List Int), 0, 0)).bind fun y21 => ((pyxref1_trim.f k y21).bind fun t22 => (some t22))
noncomputable def pyxref1_SubNat.i : Lay U (List Int × List Int) := (pcAnd (pcOne 0 (tAt (vRow DD C.i64))) (pcOne 1 (tAt (vRow DD C.i64)))).lay (fun _ => by kernel_rfl)
noncomputable def pyxref1_SubNat.r : Lay U (List Int) := (pcOne 0 (tAt (vRow DD C.i64))).lay (fun _ => by kernel_rfl)
noncomputable def pyxref1_SubNat.D (k : Nat) : FDen U := fdn pyxref1_SubNat.i pyxref1_SubNat.r Try.f119.ntmps [] true (fun x => pyxref1_SubNat.f k (x.1) (x.2)) (fun _ _ => rfl)
noncomputable def pyxref1_SubNat.l4.i : Lay U (List Int × List Int × List Int × Int × Int) := (lay [(0, sAt (vRow DD C.i64)), (1, sAt (vRow DD C.i64)), (5, sAt (vTip DD 1004005 C.i64 1)), (6, sAt (vInt .i64)), (7, sAt (vInt .i64))] [] (fun _ => by kernel_rfl))
noncomputable def pyxref1_SubNat.l4.o : OLay U (List Int) := oExit 0 (lay [(5, sAt (vTip DD 1004005 C.i64 1))] [] (fun _ => by kernel_rfl))
noncomputable def pyxref1_SubNat.j9001 : Jk U := ⟨(List Int × List Int × List Int × Int × Int × Int), oNorm (lay [(0, sAt (vRow DD C.i64)), (1, sAt (vRow DD C.i64)), (5, sAt (vTip DD 1010001005 C.i64 1)), (6, sAt (vInt .i64)), (7, sAt (vInt .i64)), (8, sAt (vInt .i64))] [] (fun _ => by kernel_rfl))⟩
noncomputable def pyxref1_SubNat.j6001 : Jk U := ⟨(List Int × List Int × List Int × Int × Int), oNorm (lay [(0, sAt (vRow DD C.i64)), (1, sAt (vRow DD C.i64)), (5, sAt (vTip DD 1007001005 C.i64 1)), (6, sAt (vInt .i64)), (7, sAt (vInt .i64))] [] (fun _ => by kernel_rfl))⟩
noncomputable def pyxref1_SubNat.E (k : Nat) : Env U := mkE Try.f119 [pyxref1_digit.pk k, pyxref1_trim.pk k] [(9001, pyxref1_SubNat.j9001), (6001, pyxref1_SubNat.j6001)] [(4, ldn pyxref1_SubNat.l4.i pyxref1_SubNat.l4.o (iter (pyxref1_SubNat.l4.once k) k))] [] n0 n0 [] false n00
theorem pyxref1_SubNat.l4.eq (k : Nat) (x : (List Int × List Int × List Int × Int × Int)) : evC (pyxref1_SubNat.E k) (loopAt Try.f119 4) (pyxref1_SubNat.l4.i.put x) (headK pyxref1_SubNat.l4.i.un pyxref1_SubNat.l4.o.re) = pyxref1_SubNat.l4.once k x := by kernel_rfl
theorem pyxref1_SubNat.l4.sound (k : Nat) : LSound (pyxref1_SubNat.E k) Try.f119.ntmps Try.f119 (loopAt Try.f119 4) (ldn pyxref1_SubNat.l4.i pyxref1_SubNat.l4.o (iter (pyxref1_SubNat.l4.once k) k)) :=
  loopP (mkE_ok _ _ _ _ _ _ _ _ _ _) mixed rfl (by kernel_rfl) (allL_of (l := []) (by kernel_rfl) allL_nil) pyxref1_SubNat.l4.i pyxref1_SubNat.l4.o (pyxref1_SubNat.l4.once k) k (pyxref1_SubNat.l4.eq k)
theorem pyxref1_SubNat.eq (k : Nat) (x : (List Int × List Int)) : runF (pyxref1_SubNat.E k) (codeOf Try.f119) (pyxref1_SubNat.i.put x) pyxref1_SubNat.r.un = pyxref1_SubNat.f k (x.1) (x.2) := by kernel_rfl
theorem pyxref1_SubNat.sound (k : Nat) : Sound Try.prog DD 119 (pyxref1_SubNat.D k) :=
  funP (E := pyxref1_SubNat.E k) (fn := Try.f119) (c := codeOf Try.f119) (mkE_ok _ _ _ _ _ _ _ _ _ _) mixed rfl Try.func119 (by kernel_rfl) (by kernel_rfl) (allL_of (l := [loopAt Try.f119 4]) (by kernel_rfl) (allL_cons (key := 4) (by kernel_rfl) rfl (pyxref1_SubNat.l4.sound k) allL_nil)) pyxref1_SubNat.i pyxref1_SubNat.r [] true (fun x => pyxref1_SubNat.f k (x.1) (x.2)) (fun _ _ => rfl) (by kernel_rfl) (pyxref1_SubNat.eq k)
noncomputable def pyxref1_SubNat.pk (k : Nat) : Pk Try.prog DD := ⟨119, pyxref1_SubNat.D k, pyxref1_SubNat.sound k, enter_of Try.func119 (by kernel_rfl) (by kernel_rfl)⟩
/-! ### pyx/pyxref1.DivNat: function 137 -/
noncomputable def pyxref1_DivNat.l7.once (k : Nat) (x : (List Int × List Int × List Int × Int × List Int)) : Option ((List Int × List Int × List Int × Int × List Int) ⊕ ((List Int × List Int × List Int × Int × List Int))) := match x with | (x7, x8, x10, x11, x9) => (pyxref1_CmpNat.f k x10 x8).bind fun t12 => (cond (decide (t12 ≥ 0)) ((pyxref1_SubNat.f k x10 x8).bind fun t13 => (cond (inb x11 (List.length x9)) (cond (Nat.blt (Int.toNat x11) (List.length x9)) (cond (inb x11 (List.length x9)) (cond (Nat.blt (Int.toNat x11) (List.length x9)) (some (.inl (x7, x8, t13, x11, List.set x9 (Int.toNat x11) (IntKind.wrap .i64 ((List.getD x9 (Int.toNat x11) 0) + 1))))) none) none) none) none)) (some (.inr (x7, x8, x10, x11, x9))))
noncomputable def pyxref1_DivNat.l4.once (k : Nat) (x : (List Int × List Int × List Int × Int × List Int)) : Option ((List Int × List Int × List Int × Int × List Int) ⊕ ((List Int × List Int))) := match x with | (x1, x2, x4, x5, x3) => cond (decide (x5 ≥ 0)) (cond (inb x5 (List.length x1)) (cond (okLen (List.length [List.getD x1 (Int.toNat x5) 0] + List.length x4) 8) ((pyxref1_trim.f k ([List.getD x1 (Int.toNat x5) 0] ++ x4)).bind fun t6 => ((iter (pyxref1_DivNat.l7.once k) k (x1, x2, t6, x5, x3)).bind fun y19 => (some (.inl (y19.1, y19.2.1, y19.2.2.1, IntKind.wrap .i64 (y19.2.2.2.1 - 1), y19.2.2.2.2))))) none) none) (some (.inr (x4, x3)))
noncomputable def pyxref1_DivNat.f (k : Nat) (a0 : List Int) (a1 : List Int) : Option (List Int × List Int) := cond ((decide (0 ≤ (List.length a0 : Int)) && decide ((List.length a0 : Int) = (List.length a0 : Int))) && decide ((List.length a0 : Int) * 8 ≤ 140737488355328)) ((iter (pyxref1_DivNat.l4.once k) k (a0, a1, ([] : List Int), IntKind.wrap .i64 ((List.length a0 : Int) - 1), List.replicate (Int.toNat (List.length a0 : Int)) (0 : Int))).bind fun y22 => ((pyxref1_trim.f k y22.2).bind fun t23 => (some (t23, y22.1)))) none
noncomputable def pyxref1_DivNat.i : Lay U (List Int × List Int) := (pcAnd (pcOne 0 (tAt (vRow DD C.i64))) (pcOne 1 (tAt (vRow DD C.i64)))).lay (fun _ => by kernel_rfl)
noncomputable def pyxref1_DivNat.r : Lay U (List Int × List Int) := (pcTup 0 (tqCons (tAt (vRow DD C.i64)) (tqOne (tAt (vRow DD C.i64))))).lay (fun _ => by kernel_rfl)
noncomputable def pyxref1_DivNat.D (k : Nat) : FDen U := fdn pyxref1_DivNat.i pyxref1_DivNat.r Try.f137.ntmps [] true (fun x => pyxref1_DivNat.f k (x.1) (x.2)) (fun _ _ => rfl)
noncomputable def pyxref1_DivNat.l7.i : Lay U (List Int × List Int × List Int × Int × List Int) := ((pcIso (skPc [(0, sAt (vRow DD C.i64)), (1, sAt (vRow DD C.i64)), (6, sAt (vVec DD 1007006 C.i64)), (7, sAt (vRow DD C.i64)), (8, sAt (vInt .i64))] []) (fun x => ((x.1, x.2.1, x.2.2.2.1, x.2.2.2.2, x.2.2.1) : (List Int × List Int × List Int × Int × List Int))) (fun x => (x.1, x.2.1, x.2.2.2.2, x.2.2.1, x.2.2.2.1)) (fun _ => rfl)).lay (fun _ => by kernel_rfl))
noncomputable def pyxref1_DivNat.l7.o : OLay U ((List Int × List Int × List Int × Int × List Int)) := oExit 2 ((pcIso (skPc [(0, sAt (vRow DD C.i64)), (1, sAt (vRow DD C.i64)), (6, sAt (vVec DD 1007006 C.i64)), (7, sAt (vRow DD C.i64)), (8, sAt (vInt .i64))] []) (fun x => ((x.1, x.2.1, x.2.2.2.1, x.2.2.2.2, x.2.2.1) : (List Int × List Int × List Int × Int × List Int))) (fun x => (x.1, x.2.1, x.2.2.2.2, x.2.2.1, x.2.2.2.1)) (fun _ => rfl)).lay (fun _ => by kernel_rfl))
noncomputable def pyxref1_DivNat.l4.i : Lay U (List Int × List Int × List Int × Int × List Int) := ((pcIso (skPc [(0, sAt (vRow DD C.i64)), (1, sAt (vRow DD C.i64)), (6, sAt (vVec DD 1004006 C.i64)), (7, sAt (vRow DD C.i64)), (8, sAt (vInt .i64))] []) (fun x => ((x.1, x.2.1, x.2.2.2.1, x.2.2.2.2, x.2.2.1) : (List Int × List Int × List Int × Int × List Int))) (fun x => (x.1, x.2.1, x.2.2.2.2, x.2.2.1, x.2.2.2.1)) (fun _ => rfl)).lay (fun _ => by kernel_rfl))
noncomputable def pyxref1_DivNat.l4.o : OLay U ((List Int × List Int)) := oExit 0 ((pcIso (skPc [(6, sAt (vVec DD 1004006 C.i64)), (7, sAt (vRow DD C.i64))] []) (fun x => ((x.2, x.1) : (List Int × List Int))) (fun x => (x.2, x.1)) (fun _ => rfl)).lay (fun _ => by kernel_rfl))
noncomputable def pyxref1_DivNat.E (k : Nat) : Env U := mkE Try.f137 [pyxref1_trim.pk k, pyxref1_CmpNat.pk k, pyxref1_SubNat.pk k] [] [(7, ldn pyxref1_DivNat.l7.i pyxref1_DivNat.l7.o (iter (pyxref1_DivNat.l7.once k) k)), (4, ldn pyxref1_DivNat.l4.i pyxref1_DivNat.l4.o (iter (pyxref1_DivNat.l4.once k) k))] [] n0 (fun d => Nat.beq d 11) [] false n00
theorem pyxref1_DivNat.l7.eq (k : Nat) (x : (List Int × List Int × List Int × Int × List Int)) : evC (pyxref1_DivNat.E k) (loopAt Try.f137 7) (pyxref1_DivNat.l7.i.put x) (headK pyxref1_DivNat.l7.i.un pyxref1_DivNat.l7.o.re) = pyxref1_DivNat.l7.once k x := by kernel_rfl
theorem pyxref1_DivNat.l7.sound (k : Nat) : LSound (pyxref1_DivNat.E k) Try.f137.ntmps Try.f137 (loopAt Try.f137 7) (ldn pyxref1_DivNat.l7.i pyxref1_DivNat.l7.o (iter (pyxref1_DivNat.l7.once k) k)) :=
  loopP (mkE_ok _ _ _ _ _ _ _ _ _ _) mixed rfl (by kernel_rfl) (allL_of (l := []) (by kernel_rfl) allL_nil) pyxref1_DivNat.l7.i pyxref1_DivNat.l7.o (pyxref1_DivNat.l7.once k) k (pyxref1_DivNat.l7.eq k)
theorem pyxref1_DivNat.l4.eq (k : Nat) (x : (List Int × List Int × List Int × Int × List Int)) : evC (pyxref1_DivNat.E k) (loopAt Try.f137 4) (pyxref1_DivNat.l4.i.put x) (headK pyxref1_DivNat.l4.i.un pyxref1_DivNat.l4.o.re) = pyxref1_DivNat.l4.once k x := by kernel_rfl
theorem pyxref1_DivNat.l4.sound (k : Nat) : LSound (pyxref1_DivNat.E k) Try.f137.ntmps Try.f137 (loopAt Try.f137 4) (ldn pyxref1_DivNat.l4.i pyxref1_DivNat.l4.o (iter (pyxref1_DivNat.l4.once k) k)) :=
  loopP (mkE_ok _ _ _ _ _ _ _ _ _ _) mixed rfl (by kernel_rfl) (allL_of (l := [loopAt Try.f137 7]) (by kernel_rfl) (allL_cons (key := 7) (by kernel_rfl) rfl (pyxref1_DivNat.l7.sound k) allL_nil)) pyxref1_DivNat.l4.i pyxref1_DivNat.l4.o (pyxref1_DivNat.l4.once k) k (pyxref1_DivNat.l4.eq k)
theorem pyxref1_DivNat.eq (k : Nat) (x : (List Int × List Int)) : runF (pyxref1_DivNat.E k) (codeOf Try.f137) (pyxref1_DivNat.i.put x) pyxref1_DivNat.r.un = pyxref1_DivNat.f k (x.1) (x.2) := by kernel_rfl
theorem pyxref1_DivNat.sound (k : Nat) : Sound Try.prog DD 137 (pyxref1_DivNat.D k) :=
  funP (E := pyxref1_DivNat.E k) (fn := Try.f137) (c := codeOf Try.f137) (mkE_ok _ _ _ _ _ _ _ _ _ _) mixed rfl Try.func137 (by kernel_rfl) (by kernel_rfl) (allL_of (l := [loopAt Try.f137 4]) (by kernel_rfl) (allL_cons (key := 4) (by kernel_rfl) rfl (pyxref1_DivNat.l4.sound k) allL_nil)) pyxref1_DivNat.i pyxref1_DivNat.r [] true (fun x => pyxref1_DivNat.f k (x.1) (x.2)) (fun _ _ => rfl) (by kernel_rfl) (pyxref1_DivNat.eq k)
noncomputable def pyxref1_DivNat.pk (k : Nat) : Pk Try.prog DD := ⟨137, pyxref1_DivNat.D k, pyxref1_DivNat.sound k, enter_of Try.func137 (by kernel_rfl) (by kernel_rfl)⟩
/-! ### pyx/pyxref1.short: function 139 -/
noncomputable def pyxref1_short.l3.once (k : Nat) (x : (List Int × Int × Int)) : Option ((List Int × Int × Int) ⊕ (Int)) := match x with | (x1, x2, x3) => cond (decide (x3 ≥ 0)) (cond (inb x3 (List.length x1)) (some (.inl (x1, IntKind.wrap .u64 ((IntKind.wrap .u64 (10 * x2)) + (IntKind.wrap .u64 (List.getD x1 (Int.toNat x3) 0))), IntKind.wrap .i64 (x3 - 1)))) none) (some (.inr x2))
noncomputable def pyxref1_short.f (k : Nat) (a0 : List Int) : Option Int := (iter (pyxref1_short.l3.once k) k (a0, 0, IntKind.wrap .i64 ((List.length a0 : Int) - 1))).bind fun y5 => (some y5)
noncomputable def pyxref1_short.i : Lay U (List Int) := (pcOne 0 (tAt (vRow DD C.i64))).lay (fun _ => by kernel_rfl)
noncomputable def pyxref1_short.r : Lay U Int := (pcOne 0 (tAt (vInt .u64))).lay (fun _ => by kernel_rfl)
noncomputable def pyxref1_short.D (k : Nat) : FDen U := fdn pyxref1_short.i pyxref1_short.r Try.f139.ntmps [] true (fun x => pyxref1_short.f k (x)) (fun _ _ => rfl)
noncomputable def pyxref1_short.l3.i : Lay U (List Int × Int × Int) := (lay [(0, sAt (vRow DD C.i64)), (3, sAt (vInt .u64)), (4, sAt (vInt .i64))] [] (fun _ => by kernel_rfl))
noncomputable def pyxref1_short.l3.o : OLay U (Int) := oExit 0 (lay [(3, sAt (vInt .u64))] [] (fun _ => by kernel_rfl))
noncomputable def pyxref1_short.E (k : Nat) : Env U := mkE Try.f139 [] [] [(3, ldn pyxref1_short.l3.i pyxref1_short.l3.o (iter (pyxref1_short.l3.once k) k))] [] n0 n0 [] false n00
theorem pyxref1_short.l3.eq (k : Nat) (x : (List Int × Int × Int)) : evC (pyxref1_short.E k) (loopAt Try.f139 3) (pyxref1_short.l3.i.put x) (headK pyxref1_short.l3.i.un pyxref1_short.l3.o.re) = pyxref1_short.l3.once k x := by kernel_rfl
theorem pyxref1_short.l3.sound (k : Nat) : LSound (pyxref1_short.E k) Try.f139.ntmps Try.f139 (loopAt Try.f139 3) (ldn pyxref1_short.l3.i pyxref1_short.l3.o (iter (pyxref1_short.l3.once k) k)) :=
  loopP (mkE_ok _ _ _ _ _ _ _ _ _ _) mixed rfl (by kernel_rfl) (allL_of (l := []) (by kernel_rfl) allL_nil) pyxref1_short.l3.i pyxref1_short.l3.o (pyxref1_short.l3.once k) k (pyxref1_short.l3.eq k)
theorem pyxref1_short.eq (k : Nat) (x : List Int) : runF (pyxref1_short.E k) (codeOf Try.f139) (pyxref1_short.i.put x) pyxref1_short.r.un = pyxref1_short.f k (x) := by kernel_rfl
theorem pyxref1_short.sound (k : Nat) : Sound Try.prog DD 139 (pyxref1_short.D k) :=
  funP (E := pyxref1_short.E k) (fn := Try.f139) (c := codeOf Try.f139) (mkE_ok _ _ _ _ _ _ _ _ _ _) mixed rfl Try.func139 (by kernel_rfl) (by kernel_rfl) (allL_of (l := [loopAt Try.f139 3]) (by kernel_rfl) (allL_cons (key := 3) (by kernel_rfl) rfl (pyxref1_short.l3.sound k) allL_nil)) pyxref1_short.i pyxref1_short.r [] true (fun x => pyxref1_short.f k (x)) (fun _ _ => rfl) (by kernel_rfl) (pyxref1_short.eq k)
noncomputable def pyxref1_short.pk (k : Nat) : Pk Try.prog DD := ⟨139, pyxref1_short.D k, pyxref1_short.sound k, enter_of Try.func139 (by kernel_rfl) (by kernel_rfl)⟩
end
end Go.Proofs.Ytlaogfkgkpgofaa
