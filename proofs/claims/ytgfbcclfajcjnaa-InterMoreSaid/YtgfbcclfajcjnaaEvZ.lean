import Derived.Test.YtgfbcclfajcjnaaEvY
universe u
namespace Go.Ev
set_option linter.unusedVariables false
set_option linter.unusedSimpArgs false
open Go.RowKit (Below)
variable {U : Univ} {ρ : Type}
section
variable {E : Env U} {nt : Nat} {fn : Func}
def headK {X Y : Type} (un : St U → Option X) (unY : Out U → Option Y) : Out U → Option (X ⊕ Y)
  | .norm s => (un s).map .inl
  | o => (unY o).map .inr
theorem loop_sound (he : EnvOk E) (hmix : E.P.follows .mixedOrders = true) (hres : E.results = fn.results.toList) {c : Code} (hd : dstB nt c = true)
    (hl : ∀ c', c' ∈ loopsOf c → ∀ k d, lkey c' = some k → E.ld k = some d → LSound E nt fn c' d) {X Y : Type} (un : St U → Option X) (mk : X → St U) (fin : Y → Out U) (unY : Out U → Option Y)
    (once : X → Option (X ⊕ Y)) (k : Nat) (h1 : ∀ s x, un s = some x → Fits s (mk x)) (h2 : ∀ o y, unY o = some y → FitsO o (fin y))
    (hbody : ∀ x, evC E c (mk x) (headK un unY) = once x) (finK : {ρ : Type} → Y → (Out U → Option ρ) → Option ρ) (finK_eq : ∀ {ρ : Type} (y : Y) (K : Out U → Option ρ), finK y K = K (fin y)) :
    LSound E nt fn (.loop c) { X := X, Y := Y, un := un, f := iter once k, fin := fin, finK := finK, finK_eq := finK_eq } := by
  intro w0 N0 s x y hun hf a R Q h hq
  refine wp_loop_rounds k ?_
  have key : ∀ (n : Nat) (x : X) (a : Act) (R : Rl), iter once n x = some y → SR E.D nt w0 N0 R (mk x) a → Code.rounds E.P c Q n a R.w := by
    intro n
    induction n with
    | zero => intro x a R h; cases h
    | succ n ih =>
      intro x a R hx hs
      rw [rounds_succ]
      simp only [iter] at hx
      obtain ⟨z, hz, hx⟩ := Option.bind_eq_some_iff.1 hx
      refine evC_sound he hmix hres c (mk x) a R _ z _ hd hl hs ((hbody x).trans hz) (fun o ho a' R' => ?_)
      cases o with
      | norm s' =>
        intro hs'
        simp only [headK, Option.map_eq_some_iff] at ho
        obtain ⟨x', hx', rfl⟩ := ho
        obtain ⟨R2, hw, hs2⟩ := hs'.fits he.law (h1 s' x' hx')
        show Code.rounds E.P c Q n a' R'.w
        rw [← hw]
        exact ih x' a' R2 hx hs2
      | exit id s' =>
        intro hs'
        simp only [headK, Option.map_eq_some_iff] at ho
        obtain ⟨y', hy', rfl⟩ := ho
        simp only [Option.some.injEq] at hx
        subst hx
        exact (post_fits (Q := Q) (fn := fn) he (h2 _ _ hy') (fun R' => hq a' R') : Post E nt w0 N0 fn Q a' R' (.exit id s')) hs'
      | ret s' =>
        intro y2 hs' hdf hr
        simp only [headK, Option.map_eq_some_iff] at ho
        obtain ⟨y', hy', rfl⟩ := ho
        simp only [Option.some.injEq] at hx
        subst hx
        exact (post_fits (Q := Q) (fn := fn) he (h2 _ _ hy') (fun R' => hq a' R') : Post E nt w0 N0 fn Q a' R' (.ret s')) y2 hs' hdf hr
  obtain ⟨R2, hw, hs2⟩ := h.fits he.law (h1 s x hun)
  rw [← hw]
  exact key k x a R2 hf hs2
theorem fun_sound (he : EnvOk E) (hmix : E.P.follows .mixedOrders = true) (hres : E.results = fn.results.toList) {f : FuncId} {c : Code} (hf : E.P.funcs[f]? = some fn) (hb : fn.body = some c)
    (hd : dstB fn.ntmps c = true) (hl : ∀ c', c' ∈ loopsOf c → ∀ k d, lkey c' = some k → E.ld k = some d → LSound E fn.ntmps fn c' d)
    (d : FDen U) (mk : d.X → St U) (re : St U → Option d.Y) (hnt : d.nt = fn.ntmps) (hgb : Nat.ble fn.ntmps gb = true) (h1 : ∀ m x, d.un m = some x → Fits m (mk x)) (h2 : ∀ m y, re m = some y → Fits m (d.fin y))
    (heq : ∀ x, runF E c (mk x) re = d.f x) : Sound E.P E.D f d := by
  refine ⟨by rw [hnt]; exact Nat.le_of_ble_eq_true hgb, fun m x y hun hfx C R vs hC hgh hsz hs => ?_⟩
  obtain ⟨R2, hw, hs2⟩ := hs.fits he.law (h1 m x hun)
  refine calls_of_wp hf hb ?_
  have hk : runF E c (mk x) re = some y := (heq x).trans hfx
  rw [hnt] at hs2
  rw [← hw]
  refine evC_sound (w0 := C) (N0 := R.N) he hmix hres c _ _ R2 _ y _ hd hl hs2 hk (fun o ho a' R' => ?_)
  cases o with
  | norm s' =>
    intro hs
    simp only at ho
    split at ho
    · rename_i v hv
      obtain ⟨u, hu1, hu2⟩ := resS_run (fn := fn) he hres hs hv
      obtain ⟨R3, hw3, hs3⟩ := hu2.fits he.law (h2 _ _ ho)
      exact ⟨hs.defers, u, hu1, u, R3, rfl, hw3, hs3⟩
    · cases ho
  | exit id s' => cases ho
  | ret m' =>
    intro u hs' hdf hr
    obtain ⟨R3, hw3, hs3⟩ := hs'.fits he.law (h2 _ _ ho)
    exact ⟨hdf, u, hr, u, R3, rfl, hw3, hs3⟩
theorem enter_of {P : Program} {f : FuncId} {fn : Func} (hf : P.funcs[f]? = some fn) (hn : (fn.name == "runtime.NumGoroutine") = false) (hb : fn.body.isNone = false) (args : Array Value) (w : World) :
    (callFunc f args).run P w = .ok (.enter f args) w := by
  have hb' : fn.body.isNone = false := hb
  simp only [callFunc, program, Sem.run_bind, Sem.run, Result.andThen_ok, hf, hn, hb', Bool.false_eq_true, if_false, Sem.run_pure]
theorem envOk {P : Program} {D : Codec U} (L : Lawful D) (fl : List (Nat × FDen U)) (sl : List (Nat × SDen U)) (ll : List (Nat × LDen U)) (jl : List (Nat × JDen U)) (md : List (Nat × (Nat × U.C))) (ec : List (Nat × U.C)) (mc : List (Nat × (U.C × U.C))) (dy : TypeId → Bool) (vc : Nat → Bool) (rs : List ResultVar) (rt : List TypeId)
    (gh : List Nat) (ow : Bool) (io : FuncId → Nat → Bool) (ld : Nat → List Nat) (nl : List (Nat × FDen U)) (li : Nat → Option (List (Nat × List Nat))) (fz : List (Nat × (U.C × U.C)))
    (hf : ∀ p ∈ fl, Sound P D p.1 p.2 ∧ ∀ args w, (callFunc p.1 args).run P w = .ok (.enter p.1 args) w)
    (hs : ∀ p ∈ sl, SfOk P D p.1 p.2 ∧ ∀ args w, (callFunc p.1 args).run P w = .ok (.enter p.1 args) w)
    (hj : ∀ p ∈ jl, ∀ o y, p.2.re o = some y → FitsO o (p.2.fin y))
    (hn : ∀ p ∈ nl, Sound P D p.1 p.2 ∧ ∀ args w, (callFunc p.1 args).run P w = .ok (.enter p.1 args) w) :
    EnvOk { P := P, D := D, fd := lk fl, sf := lk sl, ld := lk ll, jd := lk jl, mode := lk md, elc := lk ec, mpc := lk mc, dyn := dy, vecs := vc, results := rs, rts := rt, gh := gh, own := ow, io := io, lds := ld, fn := lk nl, lit := li, fz := lk fz } :=
  { lz := rfl, law := L, fd := fun f d h => (hf (f, d) (lk_mem h)).1, jd := fun k j h => hj (k, j) (lk_mem h), enter := fun f d h => (hf (f, d) (lk_mem h)).2, sf := fun f d h => hs (f, d) (lk_mem h), fn := fun f d h => hn (f, d) (lk_mem h) }
theorem fits_ren {s m : St U} (ren : List (Nat × Option Nat)) (h1 : ∀ p ∈ m.t, FV ren (s.get p.1) p.2) (h2 : ∀ p ∈ m.o, FO ren s p.1 p.2)
    (h4 : ∀ c c' a, lk ren c = some (some a) → lk ren c' = some (some a) → c = c') (h3 : keepOk m = true) : Fits s m := ⟨⟨ren, h1, h2, h4⟩, h3⟩
theorem ren_nil : ∀ (c c' a : Nat), lk ([] : List (Nat × Option Nat)) c = some (some a) → lk ([] : List (Nat × Option Nat)) c' = some (some a) → c = c' := fun _ _ _ h => by cases h
theorem ren_one {d : Nat} {x : Option Nat} : ∀ (c c' a : Nat), lk [(d, x)] c = some (some a) → lk [(d, x)] c' = some (some a) → c = c' := fun c c' a h h' => by
  have e : ∀ k, lk [(d, x)] k = some (some a) → d = k := fun k hk => by
    simp only [lk] at hk
    cases hb : Nat.beq d k with
    | true => exact Nat.eq_of_beq_eq_true hb
    | false => rw [hb] at hk; cases hk
  rw [← e c h, ← e c' h']
def apart : List (Option Nat) → Bool
  | [] => true
  | x :: r => (r.all fun y => !(x == y && x.isSome)) && apart r
theorem lk_snd {α : Type u} : ∀ {l : List (Nat × α)} {n : Nat} {v : α}, lk l n = some v → v ∈ l.map (·.2) := fun h => List.mem_map.2 ⟨_, lk_mem h, rfl⟩
theorem ren_apart : ∀ {ren : List (Nat × Option Nat)}, apart (ren.map (·.2)) = true → ∀ c c' a, lk ren c = some (some a) → lk ren c' = some (some a) → c = c'
  | [], _, _, _, _, h, _ => by cases h
  | (k, x) :: r, hap, c, c', a, h, h' => by
    simp only [List.map_cons, apart, Bool.and_eq_true] at hap
    have no : ∀ d, x = some a → lk r d = some (some a) → False := fun d hx hd => by
      have := List.all_eq_true.mp hap.1 _ (lk_snd hd)
      simp [hx] at this
    simp only [lk] at h h'
    cases hb : Nat.beq k c with
    | true =>
      cases hb' : Nat.beq k c' with
      | true => rw [← Nat.eq_of_beq_eq_true hb, ← Nat.eq_of_beq_eq_true hb']
      | false =>
        rw [hb, cond_true] at h
        rw [hb', cond_false] at h'
        exact (no c' (Option.some.inj h) h').elim
    | false =>
      cases hb' : Nat.beq k c' with
      | true =>
        rw [hb, cond_false] at h
        rw [hb', cond_true] at h'
        exact (no c (Option.some.inj h') h).elim
      | false =>
        rw [hb, cond_false] at h
        rw [hb', cond_false] at h'
        exact ren_apart hap.2 c c' a h h'
theorem FV.same {ren : List (Nat × Option Nat)} {v m : AV U} (h : v = m) (hc : c1 m = true) : FV0 ren v m := .inl ⟨(by subst h; cases v <;> first | rfl | cases hc), by unfold AV.plainV; rw [hc]; rfl⟩
theorem FV.ptr {ren : List (Nat × Option Nat)} {v : AV U} {id off : Nat} (h : v = .ptr id off) : FV0 ren v (.ptr id off) := .inl ⟨by subst h; rfl, rfl⟩
theorem FV.row {ren : List (Nat × Option Nat)} {v m : AV U} (h : v.drop = m) (hc : c1 m = true) : FV0 ren v m := .inl ⟨h.symm, by unfold AV.plainV; rw [hc]; rfl⟩
theorem FV.nilRow {ren : List (Nat × Option Nat)} {v : AV U} {c : U.C} (h : v = .flat (.slice none 0 0)) : FV0 ren v (.row c []) := .inr (.inl ⟨c, rfl, h⟩)
theorem FV.tip {ren : List (Nat × Option Nat)} {v : AV U} {aid cid : Nat} {c : U.C} {l : List (U.El c)} (h : v = .tip aid c l) (hr : lk ren cid = some (some aid)) : FV0 ren v (.tip cid c l) := .inr (.inr (.inl ⟨cid, c, l, rfl, .inl ⟨aid, h, hr⟩⟩))
theorem FV.nilTip {ren : List (Nat × Option Nat)} {v : AV U} {cid : Nat} {c : U.C} (h : v = .flat (.slice none 0 0)) (hr : lk ren cid = some none) : FV0 ren v (.tip cid c []) := .inr (.inr (.inl ⟨cid, c, [], rfl, .inr ⟨rfl, h, hr⟩⟩))
theorem FV.vs {ren : List (Nat × Option Nat)} {v : AV U} {aid cid : Nat} (h : v = .vs aid) (hr : lk ren cid = some (some aid)) : FV0 ren v (.vs cid) := .inr (.inr (.inr (.inl ⟨cid, rfl, .inl ⟨aid, h, hr⟩⟩)))
theorem FV.nilVs {ren : List (Nat × Option Nat)} {v : AV U} {cid : Nat} (h : v = .flat (.slice none 0 0)) (hr : lk ren cid = some none) : FV0 ren v (.vs cid) := .inr (.inr (.inr (.inl ⟨cid, rfl, .inr ⟨h, hr⟩⟩)))
theorem FV.mp {ren : List (Nat × Option Nat)} {v : AV U} {aid cid : Nat} (h : v = .mp aid) (hr : lk ren cid = some (some aid)) : FV0 ren v (.mp cid) := .inr (.inr (.inr (.inr ⟨cid, rfl, .inl ⟨aid, h, hr⟩⟩)))
theorem FV.nilMp {ren : List (Nat × Option Nat)} {v : AV U} {cid : Nat} (h : v = .flat (.map none)) (hr : lk ren cid = some none) : FV0 ren v (.mp cid) := .inr (.inr (.inr (.inr ⟨cid, rfl, .inr ⟨h, hr⟩⟩)))
theorem FV.one {ren : List (Nat × Option Nat)} {v m : AV U} (h : FV0 ren v m) : FV ren v m := .inl (.inl h)
theorem FVA.one {ren : List (Nat × Option Nat)} {v m : AV U} (h : FV0 ren v m) : FVA ren v m := .inl h
theorem c0_same {ren : List (Nat × Option Nat)} {v w : AV U} (h : v = w) (hc : c0 w = true) : FV0 ren v w := .inl ⟨(by subst h; cases v <;> first | rfl | cases hc), by unfold AV.plainV; rw [c1_of_c0 hc]; rfl⟩
theorem FO.same {ren : List (Nat × Option Nat)} {s : St U} {id : Nat} {cs : List (AV U)} (h : lk s.o id = some (.lit cs)) (hc : cs.all c0 = true) : FO ren s id (.lit cs) :=
  ⟨cs, h, rfl, fun i v w hv hw => by rw [hv] at hw; cases hw; exact c0_same rfl (List.all_eq_true.mp hc v (List.mem_of_getElem? hv))⟩
def FCs (ren : List (Nat × Option Nat)) : List (AV U) → List (AV U) → Prop
  | [], [] => True
  | v :: vs, w :: ws => FV0 ren v w ∧ FCs ren vs ws
  | _, _ => False
theorem FCs.spec {ren : List (Nat × Option Nat)} : ∀ {vs ws : List (AV U)}, FCs ren vs ws → vs.length = ws.length ∧ ∀ (i : Nat) (v w : AV U), vs[i]? = some v → ws[i]? = some w → FV0 ren v w
  | [], [], _ => ⟨rfl, fun i v w hv => by simp at hv⟩
  | v :: vs, w :: ws, h => by
    obtain ⟨h1, h2⟩ := FCs.spec h.2
    refine ⟨by simp [h1], fun i a b ha hb => ?_⟩
    cases i with
    | zero => simp at ha hb; subst ha; subst hb; exact h.1
    | succ i => exact h2 i a b (by simpa using ha) (by simpa using hb)
  | [], _ :: _, h => h.elim
  | _ :: _, [], h => h.elim
theorem FCs.nil {ren : List (Nat × Option Nat)} : FCs ren ([] : List (AV U)) [] := True.intro
theorem FCs.cons {ren : List (Nat × Option Nat)} {v w : AV U} {vs ws : List (AV U)} (h : FV0 ren v w) (h' : FCs ren vs ws) : FCs ren (v :: vs) (w :: ws) := ⟨h, h'⟩
theorem FCs.tail {ren : List (Nat × Option Nat)} {vs ws : List (AV U)} (h : vs = ws) (hc : ws.all c0 = true) : FCs ren vs ws := by
  subst h
  induction vs with
  | nil => exact True.intro
  | cons v vs ih =>
    simp only [List.all_cons, Bool.and_eq_true] at hc
    exact ⟨c0_same rfl hc.1, ih hc.2⟩
theorem FO.cells {ren : List (Nat × Option Nat)} {s : St U} {id : Nat} {cs' cs : List (AV U)} (h : lk s.o id = some (.lit cs')) (hc : FCs ren cs' cs) : FO ren s id (.lit cs) :=
  ⟨cs', h, hc.spec.1, fun i v w hv hw => hc.spec.2 i v w hv hw⟩
def FTs (ren : List (Nat × Option Nat)) : List (AV U) → List (AV U) → Prop
  | [], [] => True
  | v :: vs, w :: ws => FVA ren v w ∧ FTs ren vs ws
  | _, _ => False
theorem FTs.spec {ren : List (Nat × Option Nat)} : ∀ {vs ws : List (AV U)}, FTs ren vs ws → vs.length = ws.length ∧ ∀ (i : Nat) (v w : AV U), vs[i]? = some v → ws[i]? = some w → FVA ren v w
  | [], [], _ => ⟨rfl, fun i v w hv => by simp at hv⟩
  | v :: vs, w :: ws, h => by
    obtain ⟨h1, h2⟩ := FTs.spec h.2
    refine ⟨by simp [h1], fun i a b ha hb => ?_⟩
    cases i with
    | zero => simp at ha hb; subst ha; subst hb; exact h.1
    | succ i => exact h2 i a b (by simpa using ha) (by simpa using hb)
  | [], _ :: _, h => h.elim
  | _ :: _, [], h => h.elim
theorem FTs.nil {ren : List (Nat × Option Nat)} : FTs ren ([] : List (AV U)) [] := True.intro
theorem FTs.cons {ren : List (Nat × Option Nat)} {v w : AV U} {vs ws : List (AV U)} (h : FVA ren v w) (h' : FTs ren vs ws) : FTs ren (v :: vs) (w :: ws) := ⟨h, h'⟩
theorem FV.tup {ren : List (Nat × Option Nat)} {v : AV U} {xs ys : List (AV U)} (h : v = .tup xs) (hc : FTs ren xs ys) : FV ren v (.tup ys) :=
  .inr ⟨xs, ys, h, rfl, hc.spec.1, fun i a b ha hb => hc.spec.2 i a b ha hb⟩
theorem fitsO_norm {s m : St U} (h : Fits s m) : FitsO (.norm s) (.norm m) := h
theorem fitsO_exit {s m : St U} {id : Nat} (h : Fits s m) : FitsO (.exit id s) (.exit id m) := ⟨rfl, h⟩
theorem fitsO_ret {s m : St U} (h : Fits s m) : FitsO (.ret s) (.ret m) := h
def AllL (E : Env U) (nt : Nat) (fn : Func) (l : List Code) : Prop := ∀ c', c' ∈ l → ∀ k d, lkey c' = some k → E.ld k = some d → LSound E nt fn c' d
theorem allL_nil : AllL E nt fn [] := fun c' h => by cases h
theorem allL_cons {c : Code} {l : List Code} {key : Nat} {d0 : LDen U} (hk : lkey c = some key) (hd : E.ld key = some d0) (h : LSound E nt fn c d0) (hl : AllL E nt fn l) : AllL E nt fn (c :: l) := by
  intro c' hc k d h1 h2
  rcases List.mem_cons.1 hc with rfl | hc
  · rw [hk] at h1
    cases h1
    rw [hd] at h2
    cases h2
    exact h
  · exact hl c' hc k d h1 h2
theorem allL_of {c : Code} {l : List Code} (hb : loopsOf c = l) (h : AllL E nt fn l) : AllL E nt fn (loopsOf c) := by rw [hb]; exact h
def codeOf (fn : Func) : Code := fn.body.getD .skip
def loopsAll : Code → List Code
  | .seq a b => loopsAll a ++ loopsAll b
  | .cond _ a b => loopsAll a ++ loopsAll b
  | .block _ c => loopsAll c
  | .loop c => c :: loopsAll c
  | _ => []
def loopAt (fn : Func) (key : Nat) : Code := ((loopsAll (codeOf fn)).find? fun c => match keyOf c with | some k => Nat.beq k key | none => false).getD .skip
end
end Go.Ev
