import Derived.Test.YthknecaigoilmaaF0
/-! Functions, told; their equations with the evaluator; that they are sound. Written by gen.py. -/
namespace Go.Proofs.Ythknecaigoilmaa
open Go Go.Ev
noncomputable section
set_option linter.unusedVariables false
set_option linter.unusedSimpArgs false
set_option maxRecDepth 100000
/-! ### pyx/rule.within: function 76 -/
noncomputable def rule_within.f (k : Nat) (a0 : Int) (a1 : Int) (a2 : Int) : Option Bool := cond (decide (a0 ≥ a1)) (some (decide (a0 ≤ a2))) (some false)
noncomputable def rule_within.i : Lay U (Int × Int × Int) := (pcAnd (pcOne 0 (tAt (vInt .i64))) (pcAnd (pcOne 1 (tAt (vInt .i64))) (pcOne 2 (tAt (vInt .i64))))).lay (fun _ => by kernel_rfl)
noncomputable def rule_within.r : Lay U Bool := (pcOne 0 (tAt vBool)).lay (fun _ => by kernel_rfl)
noncomputable def rule_within.D (k : Nat) : FDen U := fdn rule_within.i rule_within.r Try.f76.ntmps [] true (fun x => rule_within.f k (x.1) (x.2.1) (x.2.2)) (fun _ _ => rfl)
noncomputable def rule_within.E (k : Nat) : Env U := mkE Try.f76 [] [] [] [] n0 n0 [] false n00 nl0
theorem rule_within.eq (k : Nat) (x : (Int × Int × Int)) : runF (rule_within.E k) (codeOf Try.f76) (rule_within.i.put x) rule_within.r.un = rule_within.f k (x.1) (x.2.1) (x.2.2) := by kernel_rfl
theorem rule_within.sound (k : Nat) : Sound Try.prog DD 76 (rule_within.D k) :=
  funP (E := rule_within.E k) (fn := Try.f76) (c := codeOf Try.f76) (mkE_ok _ _ _ _ _ _ _ _ _ _ _) mixed rfl Try.func76 (by kernel_rfl) (by kernel_rfl) (allL_of (l := []) (by kernel_rfl) allL_nil) rule_within.i rule_within.r [] true (fun x => rule_within.f k (x.1) (x.2.1) (x.2.2)) (fun _ _ => rfl) (by kernel_rfl) (rule_within.eq k)
noncomputable def rule_within.pk (k : Nat) : Pk Try.prog DD := ⟨76, rule_within.D k, rule_within.sound k, enter_of Try.func76 (by kernel_rfl) (by kernel_rfl)⟩
/-! ### pyx/role.Right: function 84 -/
noncomputable def role_Right.l2.once (k : Nat) (x : (List Int × List Int × Int × Int)) : Option ((List Int × List Int × Int × Int) ⊕ ((List Int) ⊕ Bool)) := match x with | (x1, x2, x3, x4) => cond (decide (x4 < x3)) (cond (inb x4 (List.length x2)) (((cond (decide ((List.getD x2 (Int.toNat x4) 0) < (-1))) (some (x1, x2, x3, x4, true)) (some (x1, x2, x3, x4, decide ((List.getD x2 (Int.toNat x4) 0) ≥ x4)))) : Option (List Int × List Int × Int × Int × Bool)).bind fun y10 => (cond (y10.2.2.2.2) (some (.inr (.inr false))) (some (.inl (y10.1, y10.2.1, y10.2.2.1, IntKind.wrap .i64 (y10.2.2.2.1 + 1)))))) none) (some (.inr (.inl x1)))
noncomputable def role_Right.f (k : Nat) (a0 : List Int) : Option Bool := (iter (role_Right.l2.once k) k (a0, a0, (List.length a0 : Int), 0)).bind fun | .inl y13 => (some (decide ((List.length y13 : Int) ≤ 8))) | .inr y14 => (some y14)
noncomputable def role_Right.i : Lay U (List Int) := (pcOne 0 (tAt (vRow DD C.i64))).lay (fun _ => by kernel_rfl)
noncomputable def role_Right.r : Lay U Bool := (pcOne 0 (tAt vBool)).lay (fun _ => by kernel_rfl)
noncomputable def role_Right.D (k : Nat) : FDen U := fdn role_Right.i role_Right.r Try.f84.ntmps [] true (fun x => role_Right.f k (x)) (fun _ _ => rfl)
noncomputable def role_Right.l2.i : Lay U (List Int × List Int × Int × Int) := (lay [(0, sAt (vRow DD C.i64)), (5, sAt (vRow DD C.i64)), (6, sAt (vInt .i64)), (7, sAt (vInt .i64))] [] (fun _ => by kernel_rfl))
noncomputable def role_Right.l2.o : OLay U ((List Int) ⊕ Bool) := oOr (oExit 0 (lay [(0, sAt (vRow DD C.i64))] [] (fun _ => by kernel_rfl))) (oRet role_Right.r)
noncomputable def role_Right.j4000 : Jk U := ⟨(List Int × List Int × Int × Int × Bool), oNorm (lay [(0, sAt (vRow DD C.i64)), (5, sAt (vRow DD C.i64)), (6, sAt (vInt .i64)), (7, sAt (vInt .i64)), (18, sAt vBool)] [] (fun _ => by kernel_rfl))⟩
noncomputable def role_Right.E (k : Nat) : Env U := mkE Try.f84 [] [(4000, role_Right.j4000)] [(2, ldn role_Right.l2.i role_Right.l2.o (iter (role_Right.l2.once k) k))] [] n0 n0 [] false n00 nl0
theorem role_Right.l2.eq (k : Nat) (x : (List Int × List Int × Int × Int)) : evC (role_Right.E k) (loopAt Try.f84 2) (role_Right.l2.i.put x) (headK role_Right.l2.i.un role_Right.l2.o.re) = role_Right.l2.once k x := by kernel_rfl
theorem role_Right.l2.sound (k : Nat) : LSound (role_Right.E k) Try.f84.ntmps Try.f84 (loopAt Try.f84 2) (ldn role_Right.l2.i role_Right.l2.o (iter (role_Right.l2.once k) k)) :=
  loopP (mkE_ok _ _ _ _ _ _ _ _ _ _ _) mixed rfl (by kernel_rfl) (allL_of (l := []) (by kernel_rfl) allL_nil) role_Right.l2.i role_Right.l2.o (role_Right.l2.once k) k (role_Right.l2.eq k)
theorem role_Right.eq (k : Nat) (x : List Int) : runF (role_Right.E k) (codeOf Try.f84) (role_Right.i.put x) role_Right.r.un = role_Right.f k (x) := by kernel_rfl
theorem role_Right.sound (k : Nat) : Sound Try.prog DD 84 (role_Right.D k) :=
  funP (E := role_Right.E k) (fn := Try.f84) (c := codeOf Try.f84) (mkE_ok _ _ _ _ _ _ _ _ _ _ _) mixed rfl Try.func84 (by kernel_rfl) (by kernel_rfl) (allL_of (l := [loopAt Try.f84 2]) (by kernel_rfl) (allL_cons (key := 2) (by kernel_rfl) rfl (role_Right.l2.sound k) allL_nil)) role_Right.i role_Right.r [] true (fun x => role_Right.f k (x)) (fun _ _ => rfl) (by kernel_rfl) (role_Right.eq k)
noncomputable def role_Right.pk (k : Nat) : Pk Try.prog DD := ⟨84, role_Right.D k, role_Right.sound k, enter_of Try.func84 (by kernel_rfl) (by kernel_rfl)⟩
/-! ### pyx/rule.rightEnt: function 85 -/
noncomputable def rule_rightEnt.f (k : Nat) (a0 : Sapi_Ent) (a1 : Int) : Option Bool := (rule_within.f k a0.f_Level 0 3).bind fun t1 => (cond (t1) ((rule_within.f k a0.f_Scale 0 4).bind fun t2 => (cond (t2) ((rule_within.f k a0.f_Parent (-1) (IntKind.wrap .i64 (a1 - 1))).bind fun t3 => (cond (t3) ((rule_within.f k a0.f_Share 1 10000).bind fun t4 => (cond (t4) (cond (!(a0.f_Parent == (-1))) (some true) (some (a0.f_Share == 10000))) (some false))) (some false))) (some false))) (some false))
noncomputable def rule_rightEnt.i : Lay U (Sapi_Ent × Int) := (pcAnd (pcOne 0 (tAt (vCd cd_Sapi_Ent))) (pcOne 1 (tAt (vInt .i64)))).lay (fun _ => by kernel_rfl)
noncomputable def rule_rightEnt.r : Lay U Bool := (pcOne 0 (tAt vBool)).lay (fun _ => by kernel_rfl)
noncomputable def rule_rightEnt.D (k : Nat) : FDen U := fdn rule_rightEnt.i rule_rightEnt.r Try.f85.ntmps [] true (fun x => rule_rightEnt.f k (x.1) (x.2)) (fun _ _ => rfl)
noncomputable def rule_rightEnt.E (k : Nat) : Env U := mkE Try.f85 [rule_within.pk k] [] [] [] n0 n0 [] false n00 nl0
theorem rule_rightEnt.eq (k : Nat) (x : (Sapi_Ent × Int)) : runF (rule_rightEnt.E k) (codeOf Try.f85) (rule_rightEnt.i.put x) rule_rightEnt.r.un = rule_rightEnt.f k (x.1) (x.2) := by kernel_rfl
theorem rule_rightEnt.sound (k : Nat) : Sound Try.prog DD 85 (rule_rightEnt.D k) :=
  funP (E := rule_rightEnt.E k) (fn := Try.f85) (c := codeOf Try.f85) (mkE_ok _ _ _ _ _ _ _ _ _ _ _) mixed rfl Try.func85 (by kernel_rfl) (by kernel_rfl) (allL_of (l := []) (by kernel_rfl) allL_nil) rule_rightEnt.i rule_rightEnt.r [] true (fun x => rule_rightEnt.f k (x.1) (x.2)) (fun _ _ => rfl) (by kernel_rfl) (rule_rightEnt.eq k)
noncomputable def rule_rightEnt.pk (k : Nat) : Pk Try.prog DD := ⟨85, rule_rightEnt.D k, rule_rightEnt.sound k, enter_of Try.func85 (by kernel_rfl) (by kernel_rfl)⟩
/-! ### pyx/rule.Right$1: function 87 -/
noncomputable def rule_Right_1.f (k : Nat) (a0 : Int) (a1 : Sapi_Policy) : Option Bool := cond (a0 == 0) (some true) (cond (decide (IntKind.wrap .u64 ((List.length a1.f_Ents : Int)) < 0)) none (some (decide (a0 ≥ (IntKind.wrap .u64 (1 * 2 ^ (min (Int.toNat (IntKind.wrap .u64 ((List.length a1.f_Ents : Int)))) 64)))))))
noncomputable def rule_Right_1.i : Lay U (Int × Sapi_Policy) := (pcAnd (pcOne 0 (tAt (vInt .u64))) (pcOne 1 (tAt (vRp cd_Sapi_Policy)))).lay (fun _ => by kernel_rfl)
noncomputable def rule_Right_1.r : Lay U Bool := (pcOne 0 (tAt vBool)).lay (fun _ => by kernel_rfl)
noncomputable def rule_Right_1.D (k : Nat) : FDen U := fdn rule_Right_1.i rule_Right_1.r Try.f87.ntmps [] true (fun x => rule_Right_1.f k (x.1) (x.2)) (fun _ _ => rfl)
noncomputable def rule_Right_1.E (k : Nat) : Env U := mkE Try.f87 [] [] [] [] n0 n0 [] false n00 nl0
theorem rule_Right_1.eq (k : Nat) (x : (Int × Sapi_Policy)) : runF (rule_Right_1.E k) (codeOf Try.f87) (rule_Right_1.i.put x) rule_Right_1.r.un = rule_Right_1.f k (x.1) (x.2) := by kernel_rfl
theorem rule_Right_1.sound (k : Nat) : Sound Try.prog DD 87 (rule_Right_1.D k) :=
  funP (E := rule_Right_1.E k) (fn := Try.f87) (c := codeOf Try.f87) (mkE_ok _ _ _ _ _ _ _ _ _ _ _) mixed rfl Try.func87 (by kernel_rfl) (by kernel_rfl) (allL_of (l := []) (by kernel_rfl) allL_nil) rule_Right_1.i rule_Right_1.r [] true (fun x => rule_Right_1.f k (x.1) (x.2)) (fun _ _ => rfl) (by kernel_rfl) (rule_Right_1.eq k)
noncomputable def rule_Right_1.pk (k : Nat) : Pk Try.prog DD := ⟨87, rule_Right_1.D k, rule_Right_1.sound k, enter_of Try.func87 (by kernel_rfl) (by kernel_rfl)⟩
/-! ### slices.IndexFunc[[]uint64,uint64]: function 106 -/
noncomputable def slices_IndexFunc__uint64_uint64_c87.l2.once (k : Nat) (x : (List Int × List Sapi_Ent × List Int × List Sapi_Who × List Int × List Sapi_Rule × Int × Int)) : Option ((List Int × List Sapi_Ent × List Int × List Sapi_Who × List Int × List Sapi_Rule × Int × Int) ⊕ (Unit ⊕ Int)) := match x with | (x1, x2, x3, x4, x5, x6, x7, x8) => cond (decide (x8 < x7)) (cond (inb x8 (List.length x1)) ((rule_Right_1.f k (List.getD x1 (Int.toNat x8) 0) (⟨x2, x3, x4, x5, x6⟩ : Sapi_Policy)).bind fun t9 => (cond (t9) (some (.inr (.inr x8))) (some (.inl (x1, x2, x3, x4, x5, x6, x7, IntKind.wrap .i64 (x8 + 1)))))) none) (some (.inr (.inl ())))
noncomputable def slices_IndexFunc__uint64_uint64_c87.f (k : Nat) (a0 : List Int) (a1 : Sapi_Policy) : Option Int := (iter (slices_IndexFunc__uint64_uint64_c87.l2.once k) k (a0, a1.f_Ents, a1.f_Groups, a1.f_Who, a1.f_Up, a1.f_Rules, (List.length a0 : Int), 0)).bind fun | .inl y11 => (some (-1)) | .inr y12 => (some y12)
noncomputable def slices_IndexFunc__uint64_uint64_c87.un (s : St U) : Option (List Int × Sapi_Policy) := match s.get 0, s.get 1 with | .row C.u64 x1, .fn 87 [.rp [.row C.Sapi_Ent x2, .row C.u64 x3, .row C.Sapi_Who x4, .row C.i64 x5, .row C.Sapi_Rule x6] 0] => some (x1, (⟨x2, x3, x4, x5, x6⟩ : Sapi_Policy)) | _, _ => none
noncomputable def slices_IndexFunc__uint64_uint64_c87.mk (x : (List Int × Sapi_Policy)) : St U := ⟨[(0, .row C.u64 x.1), (1, .fn 87 [.rp [.row C.Sapi_Ent x.2.f_Ents, .row C.u64 x.2.f_Groups, .row C.Sapi_Who x.2.f_Who, .row C.i64 x.2.f_Up, .row C.Sapi_Rule x.2.f_Rules] 0])], []⟩
noncomputable def slices_IndexFunc__uint64_uint64_c87.fin (y : Int) : St U := ⟨[(0, .flat (.int .i64 y))], []⟩
noncomputable def slices_IndexFunc__uint64_uint64_c87.D (k : Nat) : FDen U := { X := (List Int × Sapi_Policy), Y := Int, nt := 19, gh := [], un := slices_IndexFunc__uint64_uint64_c87.un, f := fun x => slices_IndexFunc__uint64_uint64_c87.f k (x.1) (x.2), fin := slices_IndexFunc__uint64_uint64_c87.fin, cl := true, clo := fun _ _ => rfl }
noncomputable def slices_IndexFunc__uint64_uint64_c87.re (s : St U) : Option Int := match s.get 0 with | .flat (.int .i64 x1) => some x1 | _ => none
noncomputable def slices_IndexFunc__uint64_uint64_c87.l2.mk (x : (List Int × List Sapi_Ent × List Int × List Sapi_Who × List Int × List Sapi_Rule × Int × Int)) : St U := match x with | (x1, x2, x3, x4, x5, x6, x7, x8) => ⟨[(0, .row C.u64 x1), (1, .fn 87 [.rp [.row C.Sapi_Ent x2, .row C.u64 x3, .row C.Sapi_Who x4, .row C.i64 x5, .row C.Sapi_Rule x6] 0]), (7, .flat (.int .i64 x7)), (8, .flat (.int .i64 x8))], []⟩
noncomputable def slices_IndexFunc__uint64_uint64_c87.l2.un (s : St U) : Option (List Int × List Sapi_Ent × List Int × List Sapi_Who × List Int × List Sapi_Rule × Int × Int) := (row_u64 (s.get 0)).bind fun q0 => (match s.get 1, s.get 7, s.get 8 with | .fn 87 [.rp [.row C.Sapi_Ent x2, .row C.u64 x3, .row C.Sapi_Who x4, .row C.i64 x5, .row C.Sapi_Rule x6] 0], .flat (.int .i64 x7), .flat (.int .i64 x8) => some (q0, x2, x3, x4, x5, x6, x7, x8) | _, _, _ => none)
noncomputable def slices_IndexFunc__uint64_uint64_c87.l2.fin (y : Unit ⊕ Int) : Out U := match y with | .inl () => .exit 0 ⟨[], []⟩ | .inr z => .ret (⟨[(0, .flat (.int .i64 z))], []⟩)
noncomputable def slices_IndexFunc__uint64_uint64_c87.l2.finK {ρ : Type} (y : Unit ⊕ Int) (K : Out U → Option ρ) : Option ρ := match y with | .inl () => K (.exit 0 ⟨[], []⟩) | .inr z => K (.ret (⟨[(0, .flat (.int .i64 z))], []⟩))
theorem slices_IndexFunc__uint64_uint64_c87.l2.finK_eq {ρ : Type} (y : Unit ⊕ Int) (K : Out U → Option ρ) : slices_IndexFunc__uint64_uint64_c87.l2.finK y K = K (slices_IndexFunc__uint64_uint64_c87.l2.fin y) := by
  unfold slices_IndexFunc__uint64_uint64_c87.l2.finK slices_IndexFunc__uint64_uint64_c87.l2.fin
  first | rfl | (split <;> rfl)
noncomputable def slices_IndexFunc__uint64_uint64_c87.l2.re : Out U → Option (Unit ⊕ Int) | .exit 0 s => (some (.inl ())) | .ret s => (match s.get 0 with | .flat (.int .i64 x1) => some (.inr x1) | _ => none) | _ => none
noncomputable def slices_IndexFunc__uint64_uint64_c87.l2.L (k : Nat) : LDen U := { X := (List Int × List Sapi_Ent × List Int × List Sapi_Who × List Int × List Sapi_Rule × Int × Int), Y := Unit ⊕ Int, un := slices_IndexFunc__uint64_uint64_c87.l2.un, f := iter (slices_IndexFunc__uint64_uint64_c87.l2.once k) k, fin := slices_IndexFunc__uint64_uint64_c87.l2.fin, finK := slices_IndexFunc__uint64_uint64_c87.l2.finK, finK_eq := slices_IndexFunc__uint64_uint64_c87.l2.finK_eq }
noncomputable def slices_IndexFunc__uint64_uint64_c87.jl : List (Nat × JDen U) := []
noncomputable def slices_IndexFunc__uint64_uint64_c87.fl (k : Nat) : List (Nat × FDen U) := [(87, rule_Right_1.D k)]
noncomputable def slices_IndexFunc__uint64_uint64_c87.ll (k : Nat) : List (Nat × LDen U) := [(2, slices_IndexFunc__uint64_uint64_c87.l2.L k)]
noncomputable def slices_IndexFunc__uint64_uint64_c87.E (k : Nat) : Env U := { P := Try.prog, D := DD, fd := lk (slices_IndexFunc__uint64_uint64_c87.fl k), sf := lk sl0, ld := lk (slices_IndexFunc__uint64_uint64_c87.ll k), jd := lk slices_IndexFunc__uint64_uint64_c87.jl, mode := lk [], elc := lk ec, mpc := lk mc, rts := Try.f106.resultTypes.toList, dyn := fun t => false, vecs := fun d => false, results := Try.f106.results.toList, gh := [], own := false, io := fun g i => false, lds := nl0 }
theorem slices_IndexFunc__uint64_uint64_c87.ok (k : Nat) : EnvOk (slices_IndexFunc__uint64_uint64_c87.E k) := envOk lawful (slices_IndexFunc__uint64_uint64_c87.fl k) sl0 (slices_IndexFunc__uint64_uint64_c87.ll k) slices_IndexFunc__uint64_uint64_c87.jl _ _ _ _ _ _ _ _ _ _ _ (by
  intro p hp
  simp only [slices_IndexFunc__uint64_uint64_c87.fl, List.mem_cons, List.not_mem_nil, or_false] at hp
  rcases hp with rfl
  · exact ⟨rule_Right_1.sound k, enter_of Try.func87 (by kernel_rfl) (by kernel_rfl)⟩) sl0_ok (by
  intro p hp
  simp [slices_IndexFunc__uint64_uint64_c87.jl] at hp)
theorem slices_IndexFunc__uint64_uint64_c87.l2.eq (k : Nat) (x : (List Int × List Sapi_Ent × List Int × List Sapi_Who × List Int × List Sapi_Rule × Int × Int)) : evC (slices_IndexFunc__uint64_uint64_c87.E k) (loopAt Try.f106 2) (slices_IndexFunc__uint64_uint64_c87.l2.mk x) (headK slices_IndexFunc__uint64_uint64_c87.l2.un slices_IndexFunc__uint64_uint64_c87.l2.re) = slices_IndexFunc__uint64_uint64_c87.l2.once k x := by kernel_rfl
theorem slices_IndexFunc__uint64_uint64_c87.l2.fit (s : St U) (x : (List Int × List Sapi_Ent × List Int × List Sapi_Who × List Int × List Sapi_Rule × Int × Int)) (h : slices_IndexFunc__uint64_uint64_c87.l2.un s = some x) : Fits s (slices_IndexFunc__uint64_uint64_c87.l2.mk x) := by
  unfold slices_IndexFunc__uint64_uint64_c87.l2.un at h
  obtain ⟨q0, eq0, h1⟩ := Option.bind_eq_some_iff.1 h
  split at h1
  · cases h1
    refine fits_ren [] ?_ ?_ ren_nil rfl
    · exact List.forall_mem_cons.2 ⟨FV.one (row_u64_fit eq0), List.forall_mem_cons.2 ⟨FV.one (FV.same (by assumption) rfl), List.forall_mem_cons.2 ⟨FV.one (FV.same (by assumption) rfl), List.forall_mem_cons.2 ⟨FV.one (FV.same (by assumption) rfl), fun _ hp => (List.not_mem_nil hp).elim⟩⟩⟩⟩
    · exact fun _ hp => (List.not_mem_nil hp).elim
  · cases h1
theorem slices_IndexFunc__uint64_uint64_c87.l2.fitO (o : Out U) (y : Unit ⊕ Int) (h : slices_IndexFunc__uint64_uint64_c87.l2.re o = some y) : FitsO o (slices_IndexFunc__uint64_uint64_c87.l2.fin y) := by
  unfold slices_IndexFunc__uint64_uint64_c87.l2.re at h
  split at h
  · cases h
    refine fitsO_exit (fits_ren [] ?_ ?_ ren_nil rfl)
    · exact fun _ hp => (List.not_mem_nil hp).elim
    · exact fun _ hp => (List.not_mem_nil hp).elim
  · split at h
    · cases h
      refine fitsO_ret (fits_ren [] ?_ ?_ ren_nil rfl)
      · exact List.forall_mem_cons.2 ⟨FV.one (FV.same (by assumption) rfl), fun _ hp => (List.not_mem_nil hp).elim⟩
      · exact fun _ hp => (List.not_mem_nil hp).elim
    · cases h
  · cases h
theorem slices_IndexFunc__uint64_uint64_c87.l2.sound (k : Nat) : LSound (slices_IndexFunc__uint64_uint64_c87.E k) Try.f106.ntmps Try.f106 (loopAt Try.f106 2) (slices_IndexFunc__uint64_uint64_c87.l2.L k) :=
  loop_sound (slices_IndexFunc__uint64_uint64_c87.ok k) mixed rfl (by kernel_rfl) (allL_of (l := []) (by kernel_rfl) allL_nil) slices_IndexFunc__uint64_uint64_c87.l2.un slices_IndexFunc__uint64_uint64_c87.l2.mk slices_IndexFunc__uint64_uint64_c87.l2.fin slices_IndexFunc__uint64_uint64_c87.l2.re (slices_IndexFunc__uint64_uint64_c87.l2.once k) k slices_IndexFunc__uint64_uint64_c87.l2.fit slices_IndexFunc__uint64_uint64_c87.l2.fitO (slices_IndexFunc__uint64_uint64_c87.l2.eq k) slices_IndexFunc__uint64_uint64_c87.l2.finK slices_IndexFunc__uint64_uint64_c87.l2.finK_eq
theorem slices_IndexFunc__uint64_uint64_c87.eq (k : Nat) (x : (List Int × Sapi_Policy)) : runF (slices_IndexFunc__uint64_uint64_c87.E k) (codeOf Try.f106) (slices_IndexFunc__uint64_uint64_c87.mk x) slices_IndexFunc__uint64_uint64_c87.re = (slices_IndexFunc__uint64_uint64_c87.D k).f x := by kernel_rfl
theorem slices_IndexFunc__uint64_uint64_c87.fit (s : St U) (x : (List Int × Sapi_Policy)) (h : slices_IndexFunc__uint64_uint64_c87.un s = some x) : Fits s (slices_IndexFunc__uint64_uint64_c87.mk x) := by
  unfold slices_IndexFunc__uint64_uint64_c87.un at h
  split at h
  · cases h
    refine fits_ren [] ?_ ?_ ren_nil rfl
    · exact List.forall_mem_cons.2 ⟨FV.one (FV.same (by assumption) rfl), List.forall_mem_cons.2 ⟨FV.one (FV.same (by assumption) rfl), fun _ hp => (List.not_mem_nil hp).elim⟩⟩
    · exact fun _ hp => (List.not_mem_nil hp).elim
  · cases h
theorem slices_IndexFunc__uint64_uint64_c87.fitR (s : St U) (y : Int) (h : slices_IndexFunc__uint64_uint64_c87.re s = some y) : Fits s (slices_IndexFunc__uint64_uint64_c87.fin y) := by
  unfold slices_IndexFunc__uint64_uint64_c87.re at h
  split at h
  · cases h
    refine fits_ren [] ?_ ?_ ren_nil rfl
    · exact List.forall_mem_cons.2 ⟨FV.one (FV.same (by assumption) rfl), fun _ hp => (List.not_mem_nil hp).elim⟩
    · exact fun _ hp => (List.not_mem_nil hp).elim
  · cases h
theorem slices_IndexFunc__uint64_uint64_c87.sound (k : Nat) : Sound Try.prog DD 106 (slices_IndexFunc__uint64_uint64_c87.D k) :=
  fun_sound (E := slices_IndexFunc__uint64_uint64_c87.E k) (fn := Try.f106) (c := codeOf Try.f106) (slices_IndexFunc__uint64_uint64_c87.ok k) mixed rfl Try.func106 (by kernel_rfl) (by kernel_rfl) (allL_of (l := [loopAt Try.f106 2]) (by kernel_rfl) (allL_cons (key := 2) (by kernel_rfl) rfl (slices_IndexFunc__uint64_uint64_c87.l2.sound k) allL_nil)) (slices_IndexFunc__uint64_uint64_c87.D k) slices_IndexFunc__uint64_uint64_c87.mk slices_IndexFunc__uint64_uint64_c87.re (by kernel_rfl) (by kernel_rfl) slices_IndexFunc__uint64_uint64_c87.fit slices_IndexFunc__uint64_uint64_c87.fitR (slices_IndexFunc__uint64_uint64_c87.eq k)
noncomputable def slices_IndexFunc__uint64_uint64_c87.pk (k : Nat) : Pk Try.prog DD := ⟨106, slices_IndexFunc__uint64_uint64_c87.D k, slices_IndexFunc__uint64_uint64_c87.sound k, enter_of Try.func106 (by kernel_rfl) (by kernel_rfl)⟩
/-! ### slices.ContainsFunc[[]uint64,uint64]: function 86 -/
noncomputable def slices_ContainsFunc__uint64_uint64_c87.f (k : Nat) (a0 : List Int) (a1 : Sapi_Policy) : Option Bool := (slices_IndexFunc__uint64_uint64_c87.f k a0 (⟨a1.f_Ents, a1.f_Groups, a1.f_Who, a1.f_Up, a1.f_Rules⟩ : Sapi_Policy)).bind fun t1 => (some (decide (t1 ≥ 0)))
noncomputable def slices_ContainsFunc__uint64_uint64_c87.un (s : St U) : Option (List Int × Sapi_Policy) := match s.get 0, s.get 1 with | .row C.u64 x1, .fn 87 [.rp [.row C.Sapi_Ent x2, .row C.u64 x3, .row C.Sapi_Who x4, .row C.i64 x5, .row C.Sapi_Rule x6] 0] => some (x1, (⟨x2, x3, x4, x5, x6⟩ : Sapi_Policy)) | _, _ => none
noncomputable def slices_ContainsFunc__uint64_uint64_c87.mk (x : (List Int × Sapi_Policy)) : St U := ⟨[(0, .row C.u64 x.1), (1, .fn 87 [.rp [.row C.Sapi_Ent x.2.f_Ents, .row C.u64 x.2.f_Groups, .row C.Sapi_Who x.2.f_Who, .row C.i64 x.2.f_Up, .row C.Sapi_Rule x.2.f_Rules] 0])], []⟩
noncomputable def slices_ContainsFunc__uint64_uint64_c87.fin (y : Bool) : St U := ⟨[(0, .flat (.bool y))], []⟩
noncomputable def slices_ContainsFunc__uint64_uint64_c87.D (k : Nat) : FDen U := { X := (List Int × Sapi_Policy), Y := Bool, nt := 9, gh := [], un := slices_ContainsFunc__uint64_uint64_c87.un, f := fun x => slices_ContainsFunc__uint64_uint64_c87.f k (x.1) (x.2), fin := slices_ContainsFunc__uint64_uint64_c87.fin, cl := true, clo := fun _ _ => rfl }
noncomputable def slices_ContainsFunc__uint64_uint64_c87.re (s : St U) : Option Bool := match s.get 0 with | .flat (.bool x1) => some x1 | _ => none
noncomputable def slices_ContainsFunc__uint64_uint64_c87.jl : List (Nat × JDen U) := []
noncomputable def slices_ContainsFunc__uint64_uint64_c87.fl (k : Nat) : List (Nat × FDen U) := [(106, slices_IndexFunc__uint64_uint64_c87.D k)]
noncomputable def slices_ContainsFunc__uint64_uint64_c87.ll (k : Nat) : List (Nat × LDen U) := []
noncomputable def slices_ContainsFunc__uint64_uint64_c87.E (k : Nat) : Env U := { P := Try.prog, D := DD, fd := lk (slices_ContainsFunc__uint64_uint64_c87.fl k), sf := lk sl0, ld := lk (slices_ContainsFunc__uint64_uint64_c87.ll k), jd := lk slices_ContainsFunc__uint64_uint64_c87.jl, mode := lk [], elc := lk ec, mpc := lk mc, rts := Try.f86.resultTypes.toList, dyn := fun t => false, vecs := fun d => false, results := Try.f86.results.toList, gh := [], own := false, io := fun g i => false, lds := nl0 }
theorem slices_ContainsFunc__uint64_uint64_c87.ok (k : Nat) : EnvOk (slices_ContainsFunc__uint64_uint64_c87.E k) := envOk lawful (slices_ContainsFunc__uint64_uint64_c87.fl k) sl0 (slices_ContainsFunc__uint64_uint64_c87.ll k) slices_ContainsFunc__uint64_uint64_c87.jl _ _ _ _ _ _ _ _ _ _ _ (by
  intro p hp
  simp only [slices_ContainsFunc__uint64_uint64_c87.fl, List.mem_cons, List.not_mem_nil, or_false] at hp
  rcases hp with rfl
  · exact ⟨slices_IndexFunc__uint64_uint64_c87.sound k, enter_of Try.func106 (by kernel_rfl) (by kernel_rfl)⟩) sl0_ok (by
  intro p hp
  simp [slices_ContainsFunc__uint64_uint64_c87.jl] at hp)
theorem slices_ContainsFunc__uint64_uint64_c87.eq (k : Nat) (x : (List Int × Sapi_Policy)) : runF (slices_ContainsFunc__uint64_uint64_c87.E k) (codeOf Try.f86) (slices_ContainsFunc__uint64_uint64_c87.mk x) slices_ContainsFunc__uint64_uint64_c87.re = (slices_ContainsFunc__uint64_uint64_c87.D k).f x := by kernel_rfl
theorem slices_ContainsFunc__uint64_uint64_c87.fit (s : St U) (x : (List Int × Sapi_Policy)) (h : slices_ContainsFunc__uint64_uint64_c87.un s = some x) : Fits s (slices_ContainsFunc__uint64_uint64_c87.mk x) := by
  unfold slices_ContainsFunc__uint64_uint64_c87.un at h
  split at h
  · cases h
    refine fits_ren [] ?_ ?_ ren_nil rfl
    · exact List.forall_mem_cons.2 ⟨FV.one (FV.same (by assumption) rfl), List.forall_mem_cons.2 ⟨FV.one (FV.same (by assumption) rfl), fun _ hp => (List.not_mem_nil hp).elim⟩⟩
    · exact fun _ hp => (List.not_mem_nil hp).elim
  · cases h
theorem slices_ContainsFunc__uint64_uint64_c87.fitR (s : St U) (y : Bool) (h : slices_ContainsFunc__uint64_uint64_c87.re s = some y) : Fits s (slices_ContainsFunc__uint64_uint64_c87.fin y) := by
  unfold slices_ContainsFunc__uint64_uint64_c87.re at h
  split at h
  · cases h
    refine fits_ren [] ?_ ?_ ren_nil rfl
    · exact List.forall_mem_cons.2 ⟨FV.one (FV.same (by assumption) rfl), fun _ hp => (List.not_mem_nil hp).elim⟩
    · exact fun _ hp => (List.not_mem_nil hp).elim
  · cases h
theorem slices_ContainsFunc__uint64_uint64_c87.sound (k : Nat) : Sound Try.prog DD 86 (slices_ContainsFunc__uint64_uint64_c87.D k) :=
  fun_sound (E := slices_ContainsFunc__uint64_uint64_c87.E k) (fn := Try.f86) (c := codeOf Try.f86) (slices_ContainsFunc__uint64_uint64_c87.ok k) mixed rfl Try.func86 (by kernel_rfl) (by kernel_rfl) (allL_of (l := []) (by kernel_rfl) allL_nil) (slices_ContainsFunc__uint64_uint64_c87.D k) slices_ContainsFunc__uint64_uint64_c87.mk slices_ContainsFunc__uint64_uint64_c87.re (by kernel_rfl) (by kernel_rfl) slices_ContainsFunc__uint64_uint64_c87.fit slices_ContainsFunc__uint64_uint64_c87.fitR (slices_ContainsFunc__uint64_uint64_c87.eq k)
noncomputable def slices_ContainsFunc__uint64_uint64_c87.pk (k : Nat) : Pk Try.prog DD := ⟨86, slices_ContainsFunc__uint64_uint64_c87.D k, slices_ContainsFunc__uint64_uint64_c87.sound k, enter_of Try.func86 (by kernel_rfl) (by kernel_rfl)⟩
/-! ### pyx/label.bit: function 80 -/
noncomputable def label_bit.f (k : Nat) (a0 : Int) : Option Int := cond (decide (IntKind.wrap .u64 (a0) < 0)) none (some (IntKind.wrap .u64 (1 * 2 ^ (min (Int.toNat (IntKind.wrap .u64 (a0))) 64))))
noncomputable def label_bit.i : Lay U Int := (pcOne 0 (tAt (vInt .i64))).lay (fun _ => by kernel_rfl)
noncomputable def label_bit.r : Lay U Int := (pcOne 0 (tAt (vInt .u64))).lay (fun _ => by kernel_rfl)
noncomputable def label_bit.D (k : Nat) : FDen U := fdn label_bit.i label_bit.r Try.f80.ntmps [] true (fun x => label_bit.f k (x)) (fun _ _ => rfl)
noncomputable def label_bit.E (k : Nat) : Env U := mkE Try.f80 [] [] [] [] n0 n0 [] false n00 nl0
theorem label_bit.eq (k : Nat) (x : Int) : runF (label_bit.E k) (codeOf Try.f80) (label_bit.i.put x) label_bit.r.un = label_bit.f k (x) := by kernel_rfl
theorem label_bit.sound (k : Nat) : Sound Try.prog DD 80 (label_bit.D k) :=
  funP (E := label_bit.E k) (fn := Try.f80) (c := codeOf Try.f80) (mkE_ok _ _ _ _ _ _ _ _ _ _ _) mixed rfl Try.func80 (by kernel_rfl) (by kernel_rfl) (allL_of (l := []) (by kernel_rfl) allL_nil) label_bit.i label_bit.r [] true (fun x => label_bit.f k (x)) (fun _ _ => rfl) (by kernel_rfl) (label_bit.eq k)
noncomputable def label_bit.pk (k : Nat) : Pk Try.prog DD := ⟨80, label_bit.D k, label_bit.sound k, enter_of Try.func80 (by kernel_rfl) (by kernel_rfl)⟩
/-! ### pyx/label.Right: function 90 -/
noncomputable def label_Right.f (k : Nat) (a0 : Sapi_Label) : Option Bool := (label_bit.f k 8).bind fun t1 => (cond (decide (a0.f_Set < t1)) (cond (decide (a0.f_Level ≥ 0)) (some (decide (a0.f_Level ≤ 3))) (some false)) (some false))
noncomputable def label_Right.i : Lay U Sapi_Label := (pcOne 0 (tAt (vCd cd_Sapi_Label))).lay (fun _ => by kernel_rfl)
noncomputable def label_Right.r : Lay U Bool := (pcOne 0 (tAt vBool)).lay (fun _ => by kernel_rfl)
noncomputable def label_Right.D (k : Nat) : FDen U := fdn label_Right.i label_Right.r Try.f90.ntmps [] true (fun x => label_Right.f k (x)) (fun _ _ => rfl)
noncomputable def label_Right.E (k : Nat) : Env U := mkE Try.f90 [label_bit.pk k] [] [] [] n0 n0 [] false n00 nl0
theorem label_Right.eq (k : Nat) (x : Sapi_Label) : runF (label_Right.E k) (codeOf Try.f90) (label_Right.i.put x) label_Right.r.un = label_Right.f k (x) := by kernel_rfl
theorem label_Right.sound (k : Nat) : Sound Try.prog DD 90 (label_Right.D k) :=
  funP (E := label_Right.E k) (fn := Try.f90) (c := codeOf Try.f90) (mkE_ok _ _ _ _ _ _ _ _ _ _ _) mixed rfl Try.func90 (by kernel_rfl) (by kernel_rfl) (allL_of (l := []) (by kernel_rfl) allL_nil) label_Right.i label_Right.r [] true (fun x => label_Right.f k (x)) (fun _ _ => rfl) (by kernel_rfl) (label_Right.eq k)
noncomputable def label_Right.pk (k : Nat) : Pk Try.prog DD := ⟨90, label_Right.D k, label_Right.sound k, enter_of Try.func90 (by kernel_rfl) (by kernel_rfl)⟩
/-! ### pyx/rule.Right$2: function 89 -/
noncomputable def rule_Right_2.f (k : Nat) (a0 : Sapi_Who) : Option Bool := (label_Right.f k (⟨a0.f_Clear.f_Set, a0.f_Clear.f_Level⟩ : Sapi_Label)).bind fun t1 => (cond (!t1) (some true) (some (decide (a0.f_Roles ≥ 256))))
noncomputable def rule_Right_2.i : Lay U Sapi_Who := (pcOne 0 (tAt (vCd cd_Sapi_Who))).lay (fun _ => by kernel_rfl)
noncomputable def rule_Right_2.r : Lay U Bool := (pcOne 0 (tAt vBool)).lay (fun _ => by kernel_rfl)
noncomputable def rule_Right_2.D (k : Nat) : FDen U := fdn rule_Right_2.i rule_Right_2.r Try.f89.ntmps [] true (fun x => rule_Right_2.f k (x)) (fun _ _ => rfl)
noncomputable def rule_Right_2.E (k : Nat) : Env U := mkE Try.f89 [label_Right.pk k] [] [] [] n0 n0 [] false n00 nl0
theorem rule_Right_2.eq (k : Nat) (x : Sapi_Who) : runF (rule_Right_2.E k) (codeOf Try.f89) (rule_Right_2.i.put x) rule_Right_2.r.un = rule_Right_2.f k (x) := by kernel_rfl
theorem rule_Right_2.sound (k : Nat) : Sound Try.prog DD 89 (rule_Right_2.D k) :=
  funP (E := rule_Right_2.E k) (fn := Try.f89) (c := codeOf Try.f89) (mkE_ok _ _ _ _ _ _ _ _ _ _ _) mixed rfl Try.func89 (by kernel_rfl) (by kernel_rfl) (allL_of (l := []) (by kernel_rfl) allL_nil) rule_Right_2.i rule_Right_2.r [] true (fun x => rule_Right_2.f k (x)) (fun _ _ => rfl) (by kernel_rfl) (rule_Right_2.eq k)
noncomputable def rule_Right_2.pk (k : Nat) : Pk Try.prog DD := ⟨89, rule_Right_2.D k, rule_Right_2.sound k, enter_of Try.func89 (by kernel_rfl) (by kernel_rfl)⟩
/-! ### slices.IndexFunc[[]pyx/api.Who,pyx/api.Who]: function 107 -/
noncomputable def slices_IndexFunc_api_Who_c89.l2.once (k : Nat) (x : (List Sapi_Who × Int × Int)) : Option ((List Sapi_Who × Int × Int) ⊕ (Unit ⊕ Int)) := match x with | (x1, x2, x3) => cond (decide (x3 < x2)) (cond (inb x3 (List.length x1)) ((rule_Right_2.f k (⟨(⟨((List.getD x1 (Int.toNat x3) Sapi_Who.zero).f_Clear).f_Set, ((List.getD x1 (Int.toNat x3) Sapi_Who.zero).f_Clear).f_Level⟩ : Sapi_Label), (List.getD x1 (Int.toNat x3) Sapi_Who.zero).f_Roles⟩ : Sapi_Who)).bind fun t4 => (cond (t4) (some (.inr (.inr x3))) (some (.inl (x1, x2, IntKind.wrap .i64 (x3 + 1)))))) none) (some (.inr (.inl ())))
noncomputable def slices_IndexFunc_api_Who_c89.f (k : Nat) (a0 : List Sapi_Who) (a1 : Unit) : Option Int := (iter (slices_IndexFunc_api_Who_c89.l2.once k) k (a0, (List.length a0 : Int), 0)).bind fun | .inl y6 => (some (-1)) | .inr y7 => (some y7)
noncomputable def slices_IndexFunc_api_Who_c89.un (s : St U) : Option (List Sapi_Who × Unit) := match s.get 0, s.get 1 with | .row C.Sapi_Who x1, .fn 89 [] => some (x1, ()) | _, _ => none
noncomputable def slices_IndexFunc_api_Who_c89.mk (x : (List Sapi_Who × Unit)) : St U := ⟨[(0, .row C.Sapi_Who x.1), (1, .fn 89 [])], []⟩
noncomputable def slices_IndexFunc_api_Who_c89.fin (y : Int) : St U := ⟨[(0, .flat (.int .i64 y))], []⟩
noncomputable def slices_IndexFunc_api_Who_c89.D (k : Nat) : FDen U := { X := (List Sapi_Who × Unit), Y := Int, nt := 19, gh := [], un := slices_IndexFunc_api_Who_c89.un, f := fun x => slices_IndexFunc_api_Who_c89.f k (x.1) (x.2), fin := slices_IndexFunc_api_Who_c89.fin, cl := true, clo := fun _ _ => rfl }
noncomputable def slices_IndexFunc_api_Who_c89.re (s : St U) : Option Int := match s.get 0 with | .flat (.int .i64 x1) => some x1 | _ => none
noncomputable def slices_IndexFunc_api_Who_c89.l2.mk (x : (List Sapi_Who × Int × Int)) : St U := match x with | (x1, x2, x3) => ⟨[(0, .row C.Sapi_Who x1), (1, .fn 89 []), (7, .flat (.int .i64 x2)), (8, .flat (.int .i64 x3))], []⟩
noncomputable def slices_IndexFunc_api_Who_c89.l2.un (s : St U) : Option (List Sapi_Who × Int × Int) := (row_Sapi_Who (s.get 0)).bind fun q0 => (match s.get 1, s.get 7, s.get 8 with | .fn 89 [], .flat (.int .i64 x2), .flat (.int .i64 x3) => some (q0, x2, x3) | _, _, _ => none)
noncomputable def slices_IndexFunc_api_Who_c89.l2.fin (y : Unit ⊕ Int) : Out U := match y with | .inl () => .exit 0 ⟨[], []⟩ | .inr z => .ret (⟨[(0, .flat (.int .i64 z))], []⟩)
noncomputable def slices_IndexFunc_api_Who_c89.l2.finK {ρ : Type} (y : Unit ⊕ Int) (K : Out U → Option ρ) : Option ρ := match y with | .inl () => K (.exit 0 ⟨[], []⟩) | .inr z => K (.ret (⟨[(0, .flat (.int .i64 z))], []⟩))
theorem slices_IndexFunc_api_Who_c89.l2.finK_eq {ρ : Type} (y : Unit ⊕ Int) (K : Out U → Option ρ) : slices_IndexFunc_api_Who_c89.l2.finK y K = K (slices_IndexFunc_api_Who_c89.l2.fin y) := by
  unfold slices_IndexFunc_api_Who_c89.l2.finK slices_IndexFunc_api_Who_c89.l2.fin
  first | rfl | (split <;> rfl)
noncomputable def slices_IndexFunc_api_Who_c89.l2.re : Out U → Option (Unit ⊕ Int) | .exit 0 s => (some (.inl ())) | .ret s => (match s.get 0 with | .flat (.int .i64 x1) => some (.inr x1) | _ => none) | _ => none
noncomputable def slices_IndexFunc_api_Who_c89.l2.L (k : Nat) : LDen U := { X := (List Sapi_Who × Int × Int), Y := Unit ⊕ Int, un := slices_IndexFunc_api_Who_c89.l2.un, f := iter (slices_IndexFunc_api_Who_c89.l2.once k) k, fin := slices_IndexFunc_api_Who_c89.l2.fin, finK := slices_IndexFunc_api_Who_c89.l2.finK, finK_eq := slices_IndexFunc_api_Who_c89.l2.finK_eq }
noncomputable def slices_IndexFunc_api_Who_c89.jl : List (Nat × JDen U) := []
noncomputable def slices_IndexFunc_api_Who_c89.fl (k : Nat) : List (Nat × FDen U) := [(89, rule_Right_2.D k)]
noncomputable def slices_IndexFunc_api_Who_c89.ll (k : Nat) : List (Nat × LDen U) := [(2, slices_IndexFunc_api_Who_c89.l2.L k)]
noncomputable def slices_IndexFunc_api_Who_c89.E (k : Nat) : Env U := { P := Try.prog, D := DD, fd := lk (slices_IndexFunc_api_Who_c89.fl k), sf := lk sl0, ld := lk (slices_IndexFunc_api_Who_c89.ll k), jd := lk slices_IndexFunc_api_Who_c89.jl, mode := lk [], elc := lk ec, mpc := lk mc, rts := Try.f107.resultTypes.toList, dyn := fun t => false, vecs := fun d => false, results := Try.f107.results.toList, gh := [], own := false, io := fun g i => false, lds := nl0 }
theorem slices_IndexFunc_api_Who_c89.ok (k : Nat) : EnvOk (slices_IndexFunc_api_Who_c89.E k) := envOk lawful (slices_IndexFunc_api_Who_c89.fl k) sl0 (slices_IndexFunc_api_Who_c89.ll k) slices_IndexFunc_api_Who_c89.jl _ _ _ _ _ _ _ _ _ _ _ (by
  intro p hp
  simp only [slices_IndexFunc_api_Who_c89.fl, List.mem_cons, List.not_mem_nil, or_false] at hp
  rcases hp with rfl
  · exact ⟨rule_Right_2.sound k, enter_of Try.func89 (by kernel_rfl) (by kernel_rfl)⟩) sl0_ok (by
  intro p hp
  simp [slices_IndexFunc_api_Who_c89.jl] at hp)
theorem slices_IndexFunc_api_Who_c89.l2.eq (k : Nat) (x : (List Sapi_Who × Int × Int)) : evC (slices_IndexFunc_api_Who_c89.E k) (loopAt Try.f107 2) (slices_IndexFunc_api_Who_c89.l2.mk x) (headK slices_IndexFunc_api_Who_c89.l2.un slices_IndexFunc_api_Who_c89.l2.re) = slices_IndexFunc_api_Who_c89.l2.once k x := by kernel_rfl
theorem slices_IndexFunc_api_Who_c89.l2.fit (s : St U) (x : (List Sapi_Who × Int × Int)) (h : slices_IndexFunc_api_Who_c89.l2.un s = some x) : Fits s (slices_IndexFunc_api_Who_c89.l2.mk x) := by
  unfold slices_IndexFunc_api_Who_c89.l2.un at h
  obtain ⟨q0, eq0, h1⟩ := Option.bind_eq_some_iff.1 h
  split at h1
  · cases h1
    refine fits_ren [] ?_ ?_ ren_nil rfl
    · exact List.forall_mem_cons.2 ⟨FV.one (row_Sapi_Who_fit eq0), List.forall_mem_cons.2 ⟨FV.one (FV.same (by assumption) rfl), List.forall_mem_cons.2 ⟨FV.one (FV.same (by assumption) rfl), List.forall_mem_cons.2 ⟨FV.one (FV.same (by assumption) rfl), fun _ hp => (List.not_mem_nil hp).elim⟩⟩⟩⟩
    · exact fun _ hp => (List.not_mem_nil hp).elim
  · cases h1
theorem slices_IndexFunc_api_Who_c89.l2.fitO (o : Out U) (y : Unit ⊕ Int) (h : slices_IndexFunc_api_Who_c89.l2.re o = some y) : FitsO o (slices_IndexFunc_api_Who_c89.l2.fin y) := by
  unfold slices_IndexFunc_api_Who_c89.l2.re at h
  split at h
  · cases h
    refine fitsO_exit (fits_ren [] ?_ ?_ ren_nil rfl)
    · exact fun _ hp => (List.not_mem_nil hp).elim
    · exact fun _ hp => (List.not_mem_nil hp).elim
  · split at h
    · cases h
      refine fitsO_ret (fits_ren [] ?_ ?_ ren_nil rfl)
      · exact List.forall_mem_cons.2 ⟨FV.one (FV.same (by assumption) rfl), fun _ hp => (List.not_mem_nil hp).elim⟩
      · exact fun _ hp => (List.not_mem_nil hp).elim
    · cases h
  · cases h
theorem slices_IndexFunc_api_Who_c89.l2.sound (k : Nat) : LSound (slices_IndexFunc_api_Who_c89.E k) Try.f107.ntmps Try.f107 (loopAt Try.f107 2) (slices_IndexFunc_api_Who_c89.l2.L k) :=
  loop_sound (slices_IndexFunc_api_Who_c89.ok k) mixed rfl (by kernel_rfl) (allL_of (l := []) (by kernel_rfl) allL_nil) slices_IndexFunc_api_Who_c89.l2.un slices_IndexFunc_api_Who_c89.l2.mk slices_IndexFunc_api_Who_c89.l2.fin slices_IndexFunc_api_Who_c89.l2.re (slices_IndexFunc_api_Who_c89.l2.once k) k slices_IndexFunc_api_Who_c89.l2.fit slices_IndexFunc_api_Who_c89.l2.fitO (slices_IndexFunc_api_Who_c89.l2.eq k) slices_IndexFunc_api_Who_c89.l2.finK slices_IndexFunc_api_Who_c89.l2.finK_eq
theorem slices_IndexFunc_api_Who_c89.eq (k : Nat) (x : (List Sapi_Who × Unit)) : runF (slices_IndexFunc_api_Who_c89.E k) (codeOf Try.f107) (slices_IndexFunc_api_Who_c89.mk x) slices_IndexFunc_api_Who_c89.re = (slices_IndexFunc_api_Who_c89.D k).f x := by kernel_rfl
theorem slices_IndexFunc_api_Who_c89.fit (s : St U) (x : (List Sapi_Who × Unit)) (h : slices_IndexFunc_api_Who_c89.un s = some x) : Fits s (slices_IndexFunc_api_Who_c89.mk x) := by
  unfold slices_IndexFunc_api_Who_c89.un at h
  split at h
  · cases h
    refine fits_ren [] ?_ ?_ ren_nil rfl
    · exact List.forall_mem_cons.2 ⟨FV.one (FV.same (by assumption) rfl), List.forall_mem_cons.2 ⟨FV.one (FV.same (by assumption) rfl), fun _ hp => (List.not_mem_nil hp).elim⟩⟩
    · exact fun _ hp => (List.not_mem_nil hp).elim
  · cases h
theorem slices_IndexFunc_api_Who_c89.fitR (s : St U) (y : Int) (h : slices_IndexFunc_api_Who_c89.re s = some y) : Fits s (slices_IndexFunc_api_Who_c89.fin y) := by
  unfold slices_IndexFunc_api_Who_c89.re at h
  split at h
  · cases h
    refine fits_ren [] ?_ ?_ ren_nil rfl
    · exact List.forall_mem_cons.2 ⟨FV.one (FV.same (by assumption) rfl), fun _ hp => (List.not_mem_nil hp).elim⟩
    · exact fun _ hp => (List.not_mem_nil hp).elim
  · cases h
theorem slices_IndexFunc_api_Who_c89.sound (k : Nat) : Sound Try.prog DD 107 (slices_IndexFunc_api_Who_c89.D k) :=
  fun_sound (E := slices_IndexFunc_api_Who_c89.E k) (fn := Try.f107) (c := codeOf Try.f107) (slices_IndexFunc_api_Who_c89.ok k) mixed rfl Try.func107 (by kernel_rfl) (by kernel_rfl) (allL_of (l := [loopAt Try.f107 2]) (by kernel_rfl) (allL_cons (key := 2) (by kernel_rfl) rfl (slices_IndexFunc_api_Who_c89.l2.sound k) allL_nil)) (slices_IndexFunc_api_Who_c89.D k) slices_IndexFunc_api_Who_c89.mk slices_IndexFunc_api_Who_c89.re (by kernel_rfl) (by kernel_rfl) slices_IndexFunc_api_Who_c89.fit slices_IndexFunc_api_Who_c89.fitR (slices_IndexFunc_api_Who_c89.eq k)
noncomputable def slices_IndexFunc_api_Who_c89.pk (k : Nat) : Pk Try.prog DD := ⟨107, slices_IndexFunc_api_Who_c89.D k, slices_IndexFunc_api_Who_c89.sound k, enter_of Try.func107 (by kernel_rfl) (by kernel_rfl)⟩
/-! ### slices.ContainsFunc[[]pyx/api.Who,pyx/api.Who]: function 88 -/
noncomputable def slices_ContainsFunc_api_Who_c89.f (k : Nat) (a0 : List Sapi_Who) (a1 : Unit) : Option Bool := (slices_IndexFunc_api_Who_c89.f k a0 ()).bind fun t1 => (some (decide (t1 ≥ 0)))
noncomputable def slices_ContainsFunc_api_Who_c89.un (s : St U) : Option (List Sapi_Who × Unit) := match s.get 0, s.get 1 with | .row C.Sapi_Who x1, .fn 89 [] => some (x1, ()) | _, _ => none
noncomputable def slices_ContainsFunc_api_Who_c89.mk (x : (List Sapi_Who × Unit)) : St U := ⟨[(0, .row C.Sapi_Who x.1), (1, .fn 89 [])], []⟩
noncomputable def slices_ContainsFunc_api_Who_c89.fin (y : Bool) : St U := ⟨[(0, .flat (.bool y))], []⟩
noncomputable def slices_ContainsFunc_api_Who_c89.D (k : Nat) : FDen U := { X := (List Sapi_Who × Unit), Y := Bool, nt := 9, gh := [], un := slices_ContainsFunc_api_Who_c89.un, f := fun x => slices_ContainsFunc_api_Who_c89.f k (x.1) (x.2), fin := slices_ContainsFunc_api_Who_c89.fin, cl := true, clo := fun _ _ => rfl }
noncomputable def slices_ContainsFunc_api_Who_c89.re (s : St U) : Option Bool := match s.get 0 with | .flat (.bool x1) => some x1 | _ => none
noncomputable def slices_ContainsFunc_api_Who_c89.jl : List (Nat × JDen U) := []
noncomputable def slices_ContainsFunc_api_Who_c89.fl (k : Nat) : List (Nat × FDen U) := [(107, slices_IndexFunc_api_Who_c89.D k)]
noncomputable def slices_ContainsFunc_api_Who_c89.ll (k : Nat) : List (Nat × LDen U) := []
noncomputable def slices_ContainsFunc_api_Who_c89.E (k : Nat) : Env U := { P := Try.prog, D := DD, fd := lk (slices_ContainsFunc_api_Who_c89.fl k), sf := lk sl0, ld := lk (slices_ContainsFunc_api_Who_c89.ll k), jd := lk slices_ContainsFunc_api_Who_c89.jl, mode := lk [], elc := lk ec, mpc := lk mc, rts := Try.f88.resultTypes.toList, dyn := fun t => false, vecs := fun d => false, results := Try.f88.results.toList, gh := [], own := false, io := fun g i => false, lds := nl0 }
theorem slices_ContainsFunc_api_Who_c89.ok (k : Nat) : EnvOk (slices_ContainsFunc_api_Who_c89.E k) := envOk lawful (slices_ContainsFunc_api_Who_c89.fl k) sl0 (slices_ContainsFunc_api_Who_c89.ll k) slices_ContainsFunc_api_Who_c89.jl _ _ _ _ _ _ _ _ _ _ _ (by
  intro p hp
  simp only [slices_ContainsFunc_api_Who_c89.fl, List.mem_cons, List.not_mem_nil, or_false] at hp
  rcases hp with rfl
  · exact ⟨slices_IndexFunc_api_Who_c89.sound k, enter_of Try.func107 (by kernel_rfl) (by kernel_rfl)⟩) sl0_ok (by
  intro p hp
  simp [slices_ContainsFunc_api_Who_c89.jl] at hp)
theorem slices_ContainsFunc_api_Who_c89.eq (k : Nat) (x : (List Sapi_Who × Unit)) : runF (slices_ContainsFunc_api_Who_c89.E k) (codeOf Try.f88) (slices_ContainsFunc_api_Who_c89.mk x) slices_ContainsFunc_api_Who_c89.re = (slices_ContainsFunc_api_Who_c89.D k).f x := by kernel_rfl
theorem slices_ContainsFunc_api_Who_c89.fit (s : St U) (x : (List Sapi_Who × Unit)) (h : slices_ContainsFunc_api_Who_c89.un s = some x) : Fits s (slices_ContainsFunc_api_Who_c89.mk x) := by
  unfold slices_ContainsFunc_api_Who_c89.un at h
  split at h
  · cases h
    refine fits_ren [] ?_ ?_ ren_nil rfl
    · exact List.forall_mem_cons.2 ⟨FV.one (FV.same (by assumption) rfl), List.forall_mem_cons.2 ⟨FV.one (FV.same (by assumption) rfl), fun _ hp => (List.not_mem_nil hp).elim⟩⟩
    · exact fun _ hp => (List.not_mem_nil hp).elim
  · cases h
theorem slices_ContainsFunc_api_Who_c89.fitR (s : St U) (y : Bool) (h : slices_ContainsFunc_api_Who_c89.re s = some y) : Fits s (slices_ContainsFunc_api_Who_c89.fin y) := by
  unfold slices_ContainsFunc_api_Who_c89.re at h
  split at h
  · cases h
    refine fits_ren [] ?_ ?_ ren_nil rfl
    · exact List.forall_mem_cons.2 ⟨FV.one (FV.same (by assumption) rfl), fun _ hp => (List.not_mem_nil hp).elim⟩
    · exact fun _ hp => (List.not_mem_nil hp).elim
  · cases h
theorem slices_ContainsFunc_api_Who_c89.sound (k : Nat) : Sound Try.prog DD 88 (slices_ContainsFunc_api_Who_c89.D k) :=
  fun_sound (E := slices_ContainsFunc_api_Who_c89.E k) (fn := Try.f88) (c := codeOf Try.f88) (slices_ContainsFunc_api_Who_c89.ok k) mixed rfl Try.func88 (by kernel_rfl) (by kernel_rfl) (allL_of (l := []) (by kernel_rfl) allL_nil) (slices_ContainsFunc_api_Who_c89.D k) slices_ContainsFunc_api_Who_c89.mk slices_ContainsFunc_api_Who_c89.re (by kernel_rfl) (by kernel_rfl) slices_ContainsFunc_api_Who_c89.fit slices_ContainsFunc_api_Who_c89.fitR (slices_ContainsFunc_api_Who_c89.eq k)
noncomputable def slices_ContainsFunc_api_Who_c89.pk (k : Nat) : Pk Try.prog DD := ⟨88, slices_ContainsFunc_api_Who_c89.D k, slices_ContainsFunc_api_Who_c89.sound k, enter_of Try.func88 (by kernel_rfl) (by kernel_rfl)⟩
/-! ### pyx/limb.Of: function 26 -/
noncomputable def limb_Of.f (k : Nat) (a0 : Int) : Option (Int × Int) := some (a0, 0)
noncomputable def limb_Of.i : Lay U Int := (pcOne 0 (tAt (vInt .u64))).lay (fun _ => by kernel_rfl)
noncomputable def limb_Of.r : Lay U (Int × Int) := (pcOne 0 (tAt (vCd (Cd.pair (Cd.int .u64) (Cd.int .u64))))).lay (fun _ => by kernel_rfl)
noncomputable def limb_Of.D (k : Nat) : FDen U := fdn limb_Of.i limb_Of.r Try.f26.ntmps [] true (fun x => limb_Of.f k (x)) (fun _ _ => rfl)
noncomputable def limb_Of.E (k : Nat) : Env U := mkE Try.f26 [] [] [] [] n0 n0 [] false n00 nl0
theorem limb_Of.eq (k : Nat) (x : Int) : runF (limb_Of.E k) (codeOf Try.f26) (limb_Of.i.put x) limb_Of.r.un = limb_Of.f k (x) := by kernel_rfl
theorem limb_Of.sound (k : Nat) : Sound Try.prog DD 26 (limb_Of.D k) :=
  funP (E := limb_Of.E k) (fn := Try.f26) (c := codeOf Try.f26) (mkE_ok _ _ _ _ _ _ _ _ _ _ _) mixed rfl Try.func26 (by kernel_rfl) (by kernel_rfl) (allL_of (l := []) (by kernel_rfl) allL_nil) limb_Of.i limb_Of.r [] true (fun x => limb_Of.f k (x)) (fun _ _ => rfl) (by kernel_rfl) (limb_Of.eq k)
noncomputable def limb_Of.pk (k : Nat) : Pk Try.prog DD := ⟨26, limb_Of.D k, limb_Of.sound k, enter_of Try.func26 (by kernel_rfl) (by kernel_rfl)⟩
/-! ### pyx/limb.halves: function 66 -/
noncomputable def limb_halves.f (k : Nat) (a0 : (Int × Int)) : Option (Int × Int × Int × Int) := some (IntKind.wrap .u32 (a0.1), IntKind.wrap .u32 (Int.fdiv a0.1 (2 ^ 32)), IntKind.wrap .u32 (a0.2), IntKind.wrap .u32 (Int.fdiv a0.2 (2 ^ 32)))
noncomputable def limb_halves.i : Lay U (Int × Int) := (pcOne 0 (tAt (vCd (Cd.pair (Cd.int .u64) (Cd.int .u64))))).lay (fun _ => by kernel_rfl)
noncomputable def limb_halves.r : Lay U (Int × Int × Int × Int) := (pcOne 0 (tAt (vCd (Cd.pair (Cd.int .u32) (Cd.pair (Cd.int .u32) (Cd.pair (Cd.int .u32) (Cd.int .u32))))))).lay (fun _ => by kernel_rfl)
noncomputable def limb_halves.D (k : Nat) : FDen U := fdn limb_halves.i limb_halves.r Try.f66.ntmps [] true (fun x => limb_halves.f k (x)) (fun _ _ => rfl)
noncomputable def limb_halves.E (k : Nat) : Env U := mkE Try.f66 [] [] [] [] n0 n0 [] false n00 nl0
theorem limb_halves.eq (k : Nat) (x : (Int × Int)) : runF (limb_halves.E k) (codeOf Try.f66) (limb_halves.i.put x) limb_halves.r.un = limb_halves.f k (x) := by kernel_rfl
theorem limb_halves.sound (k : Nat) : Sound Try.prog DD 66 (limb_halves.D k) :=
  funP (E := limb_halves.E k) (fn := Try.f66) (c := codeOf Try.f66) (mkE_ok _ _ _ _ _ _ _ _ _ _ _) mixed rfl Try.func66 (by kernel_rfl) (by kernel_rfl) (allL_of (l := []) (by kernel_rfl) allL_nil) limb_halves.i limb_halves.r [] true (fun x => limb_halves.f k (x)) (fun _ _ => rfl) (by kernel_rfl) (limb_halves.eq k)
noncomputable def limb_halves.pk (k : Nat) : Pk Try.prog DD := ⟨66, limb_halves.D k, limb_halves.sound k, enter_of Try.func66 (by kernel_rfl) (by kernel_rfl)⟩
/-! ### pyx/limb.Mul: function 25 -/
noncomputable def limb_Mul.l8.once (k : Nat) (x : (Int × Int × Int × Int × Int × Int × Int × Int × Int × Int × Int × Int × Int × List Int × List Int × List Int)) : Option ((Int × Int × Int × Int × Int × Int × Int × Int × Int × Int × Int × Int × Int × List Int × List Int × List Int) ⊕ ((Int × Int × Int × Int × Int × Int × Int × List Int × List Int × List Int))) := match x with | (x14, x15, x16, x17, x18, x19, x20, x21, x22, x23, x24, x25, x26, x11, x12, x13) => cond (decide (x26 < 4)) (cond (inb x26 4) (cond (inb (IntKind.wrap .i64 (x14 + x26)) 8) (cond (Nat.blt (Int.toNat (IntKind.wrap .i64 (x14 + x26))) 8) (cond (inb (IntKind.wrap .i64 (x14 + x26)) 8) (cond (Nat.blt (Int.toNat (IntKind.wrap .i64 (x14 + x26))) 8) (some (.inl (x14, x15, Int.fdiv (IntKind.wrap .u64 ((IntKind.wrap .u64 ((IntKind.wrap .u64 ((IntKind.wrap .u64 (x15)) * (IntKind.wrap .u64 (List.getD [x22, x23, x24, x25] (Int.toNat x26) 0)))) + (List.getD x12 (Int.toNat (IntKind.wrap .i64 (x14 + x26))) 0))) + x16)) (2 ^ 32), x17, x18, x19, x20, x21, x22, x23, x24, x25, IntKind.wrap .i64 (x26 + 1), x11, List.set x12 (Int.toNat (IntKind.wrap .i64 (x14 + x26))) (IntKind.wrap .u64 (IntKind.wrap .u32 (IntKind.wrap .u64 ((IntKind.wrap .u64 ((IntKind.wrap .u64 ((IntKind.wrap .u64 (x15)) * (IntKind.wrap .u64 (List.getD [x22, x23, x24, x25] (Int.toNat x26) 0)))) + (List.getD x12 (Int.toNat (IntKind.wrap .i64 (x14 + x26))) 0))) + x16)))), x13))) none) none) none) none) none) (some (.inr (x14, x16, x17, x18, x19, x20, x21, x11, x12, x13)))
noncomputable def limb_Mul.l4.once (k : Nat) (x : (Int × Int × Int × Int × Int × List Int × List Int × List Int)) : Option ((Int × Int × Int × Int × Int × List Int × List Int × List Int) ⊕ ((List Int × List Int))) := match x with | (x6, x7, x8, x9, x10, x3, x4, x5) => cond (decide (x10 < 4)) (cond (inb x10 4) ((iter (limb_Mul.l8.once k) k (x10, List.getD [x6, x7, x8, x9] (Int.toNat x10) 0, 0, x6, x7, x8, x9, x10, List.getD x5 0 0, List.getD x5 1 0, List.getD x5 2 0, List.getD x5 3 0, 0, x3, x4, x5)).bind fun y37 => (cond (inb (IntKind.wrap .i64 (y37.1 + 4)) 8) (cond (Nat.blt (Int.toNat (IntKind.wrap .i64 (y37.1 + 4))) 8) (some (.inl (y37.2.2.1, y37.2.2.2.1, y37.2.2.2.2.1, y37.2.2.2.2.2.1, IntKind.wrap .i64 (y37.2.2.2.2.2.2.1 + 1), y37.2.2.2.2.2.2.2.1, List.set y37.2.2.2.2.2.2.2.2.1 (Int.toNat (IntKind.wrap .i64 (y37.1 + 4))) y37.2.1, y37.2.2.2.2.2.2.2.2.2))) none) none)) none) (some (.inr (x3, x4)))
noncomputable def limb_Mul.l18.once (k : Nat) (x : (Int × List Int × List Int × List Int)) : Option ((Int × List Int × List Int × List Int) ⊕ ((List Int × List Int))) := match x with | (x44, x41, x42, x43) => cond (decide (x44 < 4)) (cond (inb (IntKind.wrap .i64 (2 * x44)) 8) (cond (Nat.blt (Int.toNat (IntKind.wrap .i64 (2 * x44))) 8) (cond (inb (IntKind.wrap .i64 ((IntKind.wrap .i64 (2 * x44)) + 1)) 8) (cond (Nat.blt (Int.toNat (IntKind.wrap .i64 ((IntKind.wrap .i64 (2 * x44)) + 1))) 8) (cond (inb x44 4) (cond (Nat.blt (Int.toNat x44) 4) (some (.inl (IntKind.wrap .i64 (x44 + 1), x41, x42, List.set x43 (Int.toNat x44) (bits .or .u64 (List.getD x42 (Int.toNat (IntKind.wrap .i64 (2 * x44))) 0) (IntKind.wrap .u64 ((List.getD x42 (Int.toNat (IntKind.wrap .i64 ((IntKind.wrap .i64 (2 * x44)) + 1))) 0) * 2 ^ 32)))))) none) none) none) none) none) none) (some (.inr (x41, x43)))
noncomputable def limb_Mul.f (k : Nat) (a0 : (Int × Int)) (a1 : (Int × Int)) : Option (Int × Int × Int × Int) := (limb_halves.f k (a0.1, a0.2)).bind fun t1 => ((limb_halves.f k (a1.1, a1.2)).bind fun t2 => ((iter (limb_Mul.l4.once k) k (List.getD [t1.1, t1.2.1, t1.2.2.1, t1.2.2.2] 0 0, List.getD [t1.1, t1.2.1, t1.2.2.1, t1.2.2.2] 1 0, List.getD [t1.1, t1.2.1, t1.2.2.1, t1.2.2.2] 2 0, List.getD [t1.1, t1.2.1, t1.2.2.1, t1.2.2.2] 3 0, 0, [0, 0, 0, 0], [0, 0, 0, 0, 0, 0, 0, 0], [t2.1, t2.2.1, t2.2.2.1, t2.2.2.2])).bind fun y40 => ((iter (limb_Mul.l18.once k) k (0, y40.1, y40.2, [0, 0, 0, 0])).bind fun y47 => (some (List.getD [List.getD y47.2 0 0, List.getD y47.2 1 0, List.getD y47.2 2 0, List.getD y47.2 3 0] 0 0, List.getD [List.getD y47.2 0 0, List.getD y47.2 1 0, List.getD y47.2 2 0, List.getD y47.2 3 0] 1 0, List.getD [List.getD y47.2 0 0, List.getD y47.2 1 0, List.getD y47.2 2 0, List.getD y47.2 3 0] 2 0, List.getD [List.getD y47.2 0 0, List.getD y47.2 1 0, List.getD y47.2 2 0, List.getD y47.2 3 0] 3 0)))))
noncomputable def limb_Mul.i : Lay U ((Int × Int) × (Int × Int)) := (pcAnd (pcOne 0 (tAt (vCd (Cd.pair (Cd.int .u64) (Cd.int .u64))))) (pcOne 1 (tAt (vCd (Cd.pair (Cd.int .u64) (Cd.int .u64)))))).lay (fun _ => by kernel_rfl)
noncomputable def limb_Mul.r : Lay U (Int × Int × Int × Int) := (pcOne 0 (tAt (vCd (Cd.pair (Cd.int .u64) (Cd.pair (Cd.int .u64) (Cd.pair (Cd.int .u64) (Cd.int .u64))))))).lay (fun _ => by kernel_rfl)
noncomputable def limb_Mul.D (k : Nat) : FDen U := fdn limb_Mul.i limb_Mul.r Try.f25.ntmps [] true (fun x => limb_Mul.f k (x.1) (x.2)) (fun _ _ => rfl)
noncomputable def limb_Mul.l8.i : Lay U (Int × Int × Int × Int × Int × Int × Int × Int × Int × Int × Int × Int × Int × List Int × List Int × List Int) := (lay [(4, sPtr 4 0), (5, sPtr 5 0), (7, sPtr 7 0), (8, sAt (vInt .i64)), (9, sAt (vInt .u32)), (10, sAt (vInt .u64)), (20, sAgg [(vInt .u32), (vInt .u32), (vInt .u32), (vInt .u32)]), (21, sAt (vInt .i64)), (25, sAgg [(vInt .u32), (vInt .u32), (vInt .u32), (vInt .u32)]), (26, sAt (vInt .i64))] [bArr DD 4 4 C.u64, bArr DD 5 8 C.u64, bArr DD 7 4 C.u32] (fun _ => by kernel_rfl))
noncomputable def limb_Mul.l8.o : OLay U ((Int × Int × Int × Int × Int × Int × Int × List Int × List Int × List Int)) := oExit 2 (lay [(4, sPtr 4 0), (5, sPtr 5 0), (7, sPtr 7 0), (8, sAt (vInt .i64)), (10, sAt (vInt .u64)), (20, sAgg [(vInt .u32), (vInt .u32), (vInt .u32), (vInt .u32)]), (21, sAt (vInt .i64))] [bArr DD 4 4 C.u64, bArr DD 5 8 C.u64, bArr DD 7 4 C.u32] (fun _ => by kernel_rfl))
noncomputable def limb_Mul.l4.i : Lay U (Int × Int × Int × Int × Int × List Int × List Int × List Int) := (lay [(4, sPtr 4 0), (5, sPtr 5 0), (7, sPtr 7 0), (20, sAgg [(vInt .u32), (vInt .u32), (vInt .u32), (vInt .u32)]), (21, sAt (vInt .i64))] [bArr DD 4 4 C.u64, bArr DD 5 8 C.u64, bArr DD 7 4 C.u32] (fun _ => by kernel_rfl))
noncomputable def limb_Mul.l4.o : OLay U ((List Int × List Int)) := oExit 0 (lay [(4, sPtr 4 0), (5, sPtr 5 0)] [bArr DD 4 4 C.u64, bArr DD 5 8 C.u64] (fun _ => by kernel_rfl))
noncomputable def limb_Mul.l18.i : Lay U (Int × List Int × List Int × List Int) := (lay [(4, sPtr 4 0), (5, sPtr 5 0), (14, sPtr 14 0), (58, sAt (vInt .i64))] [bArr DD 4 4 C.u64, bArr DD 5 8 C.u64, bArr DD 14 4 C.u64] (fun _ => by kernel_rfl))
noncomputable def limb_Mul.l18.o : OLay U ((List Int × List Int)) := oExit 4 (lay [(4, sPtr 4 0), (14, sPtr 14 0)] [bArr DD 4 4 C.u64, bArr DD 14 4 C.u64] (fun _ => by kernel_rfl))
noncomputable def limb_Mul.E (k : Nat) : Env U := mkE Try.f25 [limb_halves.pk k] [] [(8, ldn limb_Mul.l8.i limb_Mul.l8.o (iter (limb_Mul.l8.once k) k)), (4, ldn limb_Mul.l4.i limb_Mul.l4.o (iter (limb_Mul.l4.once k) k)), (18, ldn limb_Mul.l18.i limb_Mul.l18.o (iter (limb_Mul.l18.once k) k))] [(30, (4, C.u64)), (93, (8, C.u64)), (95, (4, C.u32))] n0 n0 [] false n00 nl0
theorem limb_Mul.l8.eq (k : Nat) (x : (Int × Int × Int × Int × Int × Int × Int × Int × Int × Int × Int × Int × Int × List Int × List Int × List Int)) : evC (limb_Mul.E k) (loopAt Try.f25 8) (limb_Mul.l8.i.put x) (headK limb_Mul.l8.i.un limb_Mul.l8.o.re) = limb_Mul.l8.once k x := by kernel_rfl
theorem limb_Mul.l8.sound (k : Nat) : LSound (limb_Mul.E k) Try.f25.ntmps Try.f25 (loopAt Try.f25 8) (ldn limb_Mul.l8.i limb_Mul.l8.o (iter (limb_Mul.l8.once k) k)) :=
  loopP (mkE_ok _ _ _ _ _ _ _ _ _ _ _) mixed rfl (by kernel_rfl) (allL_of (l := []) (by kernel_rfl) allL_nil) limb_Mul.l8.i limb_Mul.l8.o (limb_Mul.l8.once k) k (limb_Mul.l8.eq k)
theorem limb_Mul.l4.eq (k : Nat) (x : (Int × Int × Int × Int × Int × List Int × List Int × List Int)) : evC (limb_Mul.E k) (loopAt Try.f25 4) (limb_Mul.l4.i.put x) (headK limb_Mul.l4.i.un limb_Mul.l4.o.re) = limb_Mul.l4.once k x := by kernel_rfl
theorem limb_Mul.l4.sound (k : Nat) : LSound (limb_Mul.E k) Try.f25.ntmps Try.f25 (loopAt Try.f25 4) (ldn limb_Mul.l4.i limb_Mul.l4.o (iter (limb_Mul.l4.once k) k)) :=
  loopP (mkE_ok _ _ _ _ _ _ _ _ _ _ _) mixed rfl (by kernel_rfl) (allL_of (l := [loopAt Try.f25 8]) (by kernel_rfl) (allL_cons (key := 8) (by kernel_rfl) rfl (limb_Mul.l8.sound k) allL_nil)) limb_Mul.l4.i limb_Mul.l4.o (limb_Mul.l4.once k) k (limb_Mul.l4.eq k)
theorem limb_Mul.l18.eq (k : Nat) (x : (Int × List Int × List Int × List Int)) : evC (limb_Mul.E k) (loopAt Try.f25 18) (limb_Mul.l18.i.put x) (headK limb_Mul.l18.i.un limb_Mul.l18.o.re) = limb_Mul.l18.once k x := by kernel_rfl
theorem limb_Mul.l18.sound (k : Nat) : LSound (limb_Mul.E k) Try.f25.ntmps Try.f25 (loopAt Try.f25 18) (ldn limb_Mul.l18.i limb_Mul.l18.o (iter (limb_Mul.l18.once k) k)) :=
  loopP (mkE_ok _ _ _ _ _ _ _ _ _ _ _) mixed rfl (by kernel_rfl) (allL_of (l := []) (by kernel_rfl) allL_nil) limb_Mul.l18.i limb_Mul.l18.o (limb_Mul.l18.once k) k (limb_Mul.l18.eq k)
theorem limb_Mul.eq (k : Nat) (x : ((Int × Int) × (Int × Int))) : runF (limb_Mul.E k) (codeOf Try.f25) (limb_Mul.i.put x) limb_Mul.r.un = limb_Mul.f k (x.1) (x.2) := by kernel_rfl
theorem limb_Mul.sound (k : Nat) : Sound Try.prog DD 25 (limb_Mul.D k) :=
  funP (E := limb_Mul.E k) (fn := Try.f25) (c := codeOf Try.f25) (mkE_ok _ _ _ _ _ _ _ _ _ _ _) mixed rfl Try.func25 (by kernel_rfl) (by kernel_rfl) (allL_of (l := [loopAt Try.f25 4, loopAt Try.f25 18]) (by kernel_rfl) (allL_cons (key := 4) (by kernel_rfl) rfl (limb_Mul.l4.sound k) (allL_cons (key := 18) (by kernel_rfl) rfl (limb_Mul.l18.sound k) allL_nil))) limb_Mul.i limb_Mul.r [] true (fun x => limb_Mul.f k (x.1) (x.2)) (fun _ _ => rfl) (by kernel_rfl) (limb_Mul.eq k)
noncomputable def limb_Mul.pk (k : Nat) : Pk Try.prog DD := ⟨25, limb_Mul.D k, limb_Mul.sound k, enter_of Try.func25 (by kernel_rfl) (by kernel_rfl)⟩
end
end Go.Proofs.Ythknecaigoilmaa
