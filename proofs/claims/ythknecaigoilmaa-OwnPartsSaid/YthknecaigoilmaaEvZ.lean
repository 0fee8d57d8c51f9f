import Derived.Test.YthknecaigoilmaaEvY
/-! Loops and functions, out of their equations. -/
universe u
namespace Go.Ev
set_option linter.unusedVariables false
set_option linter.unusedSimpArgs false
open Go.RowKit (Below)
variable {U : Univ} {ρ : Type}

section
variable {E : Env U} {nt : Nat} {fn : Func}

/-- What a loop's body ends with: the next round's state, or how the loop is left. -/
def headK {X Y : Type} (un : St U → Option X) (unY : Out U → Option Y) : Out U → Option (X ⊕ Y)
  | .norm s => (un s).map .inl
  | o => (unY o).map .inr

/-- A loop, out of its body's equation. -/
theorem loop_sound (he : EnvOk E) (hmix : E.P.follows .mixedOrders = true) (hres : E.results = fn.results.toList) {c : Code} (hd : dstB nt c = true)
    (hl : ∀ c', c' ∈ loopsOf c → ∀ k d, keyOf c' = some k → E.ld k = some d → LSound E nt fn c' d) {X Y : Type} (un : St U → Option X) (mk : X → St U) (fin : Y → Out U) (unY : Out U → Option Y)
    (once : X → Option (X ⊕ Y)) (k : Nat) (h1 : ∀ s x, un s = some x → Fits s (mk x)) (h2 : ∀ o y, unY o = some y → FitsO o (fin y))
    (hbody : ∀ x, evC E c (mk x) (headK un unY) = once x) (finK : {ρ : Type} → Y → (Out U → Option ρ) → Option ρ) (finK_eq : ∀ {ρ : Type} (y : Y) (K : Out U → Option ρ), finK y K = K (fin y)) :
    LSound E nt fn c { X := X, Y := Y, un := un, f := iter once k, fin := fin, finK := finK, finK_eq := finK_eq } := by
  intro w0 N0 s x y hun hf a R Q h hq
  refine wp_loop_rounds k ?_
  have key : ∀ (n : Nat) (x : X) (a : Act) (R : Rl), iter once n x = some y → SR E.D nt w0 N0 R (mk x) a → Code.rounds E.P c Q n a R.w := by
    intro n
    induction n with
    | zero => intro x a R h; cases h
    | succ n ih =>
      intro x a R hx hs
      rw [rounds_succ]
      simp only [iter] at hx
      obtain ⟨z, hz, hx⟩ := Option.bind_eq_some_iff.1 hx
      refine evC_sound he hmix hres c (mk x) a R _ z _ hd hl hs ((hbody x).trans hz) (fun o ho a' R' => ?_)
      cases o with
      | norm s' =>
        intro hs'
        simp only [headK, Option.map_eq_some_iff] at ho
        obtain ⟨x', hx', rfl⟩ := ho
        obtain ⟨R2, hw, hs2⟩ := hs'.fits he.law (h1 s' x' hx')
        show Code.rounds E.P c Q n a' R'.w
        rw [← hw]
        exact ih x' a' R2 hx hs2
      | exit id s' =>
        intro hs'
        simp only [headK, Option.map_eq_some_iff] at ho
        obtain ⟨y', hy', rfl⟩ := ho
        simp only [Option.some.injEq] at hx
        subst hx
        have hfit := h2 _ _ hy'
        have hp : ∀ R', Post E nt w0 N0 fn Q a' R' (fin y') := fun R' => hq a' R'
        cases hfy : fin y' with
        | exit id' m =>
          rw [hfy] at hfit hp
          obtain ⟨rfl, hfit⟩ := hfit
          obtain ⟨R2, hw, hs2⟩ := hs'.fits he.law hfit
          show Q (.exit id) a' R'.w
          rw [← hw]
          exact hp R2 hs2
        | norm m => rw [hfy] at hfit; exact hfit.elim
        | ret v => rw [hfy] at hfit; exact hfit.elim
      | ret v =>
        intro s' y2 hs' hv hr
        simp only [headK, Option.map_eq_some_iff] at ho
        obtain ⟨y', hy', rfl⟩ := ho
        simp only [Option.some.injEq] at hx
        subst hx
        have hfit := h2 _ _ hy'
        have hp : Post E nt w0 N0 fn Q a' R' (fin y') := hq a' R'
        cases hfy : fin y' with
        | ret v' =>
          rw [hfy] at hfit hp
          have : v = v' := hfit
          subst this
          exact hp s' y2 hs' hv hr
        | norm m => rw [hfy] at hfit; exact hfit.elim
        | exit id' m => rw [hfy] at hfit; exact hfit.elim
  obtain ⟨R2, hw, hs2⟩ := h.fits he.law (h1 s x hun)
  rw [← hw]
  exact key k x a R2 hf hs2

theorem startT_get : ∀ (args : List (AV U)) (i n : Nat), lk (startT args i) n = if i ≤ n then args[n - i]? else none
  | [], i, n => by simp [startT, lk]
  | v :: r, i, n => by
    unfold startT
    simp only [lk]
    cases hb : Nat.beq i n with
    | true =>
      have := Nat.eq_of_beq_eq_true hb
      subst this
      simp
    | false =>
      have hne : i ≠ n := fun e => by subst e; rw [Nat.beq_refl] at hb; cases hb
      simp only [cond_false]
      rw [startT_get r (i + 1) n]
      by_cases h : i + 1 ≤ n
      · rw [if_pos h, if_pos (by omega), show n - i = (n - (i + 1)) + 1 by omega, List.getElem?_cons_succ]
      · rw [if_neg h, if_neg (by omega)]

theorem fun_sound (he : EnvOk E) (hmix : E.P.follows .mixedOrders = true) (hres : E.results = fn.results.toList) {f : FuncId} {c : Code} (hf : E.P.funcs[f]? = some fn) (hb : fn.body = some c)
    (hd : dstB fn.ntmps c = true) (hl : ∀ c', c' ∈ loopsOf c → ∀ k d, keyOf c' = some k → E.ld k = some d → LSound E fn.ntmps fn c' d)
    (d : FDen U) (mkA : d.X → List (AV U)) (unR : AV U → Option d.Y) (h1 : ∀ args x, d.un args = some x → args = mkA x) (h2 : ∀ v y, unR v = some y → v = d.fin y) (h3 : ∀ y, c1 (d.fin y) = true)
    (hsz : ∀ x, (mkA x).length ≤ fn.ntmps) (heq : ∀ x, runF E c (mkA x) unR = d.f x) : Sound E.P E.D f d := by
  intro args x y hun hfx R vs hN hlen hargs hcl
  have := h1 args x hun
  subst this
  refine calls_of_wp hf hb ?_
  have hk : runF E c (mkA x) unR = some y := (heq x).trans hfx
  let R0 : Rl := { w := R.w, N := R.N, blk := fun _ => none, hdr := fun _ => none }
  have hsz' : vs.size ≤ fn.ntmps := by rw [← hlen]; exact hsz x
  have h0 : SR E.D fn.ntmps R.w R.N R0 ⟨startT (mkA x) 0, []⟩ { tmps := vs ++ Array.replicate (fn.ntmps - vs.size) undef, defers := [] } := by
    refine { objs := fun id o ho => (by cases ho), none := fun id _ => ⟨rfl, rfl⟩, own := fun id o B es ho => (by cases ho), inj := fun id id' o o' B es es' ho => (by cases ho),
             keep := .refl _ _, nn := fun _ _ _ h => h, nlt := hN, size := by simp; omega, defers := rfl, tm := fun n => ?_ }
    simp only [St.get, startT_get, Nat.zero_le, if_true, Nat.sub_zero]
    cases hg : (mkA x)[n]? with
    | none => exact .undef _
    | some v =>
      have hlt := (List.getElem?_eq_some_iff.1 hg).1
      have hvs : vs[n]? = some (vs[n]'(by omega)) := Array.getElem?_eq_getElem (by omega)
      have hv := hargs n v _ hg hvs
      rw [Array.getD_eq_getD_getElem?, Array.getElem?_append_left (by omega), hvs]
      exact hv.closed (R := R) (R' := R0) he.law rfl (fun _ _ _ h => h) (List.all_eq_true.mp hcl v (List.mem_of_getElem? hg))
  have fin : ∀ (v : AV U) (R' : Rl) (s' : St U) (a' : Act) (u : Value), SR E.D fn.ntmps R.w R.N R' s' a' → unR v = some y → VR E.D R' v u →
      ∃ v', Ending.returned u = .returned v' ∧ VR E.D { R with w := R'.w } (d.fin y) v' ∧ Below R.w.heap.size R.w R'.w := by
    intro v R' s' a' u hs hv hvr
    have := h2 v y hv
    subst this
    exact ⟨u, rfl, hvr.closed (R := R') (R' := { R with w := R'.w }) he.law rfl (fun B i hlt hB => hs.nn B i (hN B i hB) hB) (h3 y), hs.keep⟩
  refine evC_sound (w0 := R.w) (N0 := R.N) he hmix hres c _ _ R0 _ y _ hd hl h0 hk (fun o ho a' R' => ?_)
  cases o with
  | norm s' =>
    intro hs
    simp only at ho
    split at ho
    · rename_i v hv
      obtain ⟨u, hu1, hu2⟩ := resV_run (fn := fn) he hres hs hv
      exact ⟨hs.defers, u, hu1, fin v R' s' a' u hs ho hu2⟩
    · cases ho
  | exit id s' => cases ho
  | ret v =>
    intro s' u hs hv hr
    exact ⟨hs.defers, u, hr, fin v R' s' a' u hs ho hv⟩

theorem enter_of {P : Program} {f : FuncId} {fn : Func} (hf : P.funcs[f]? = some fn) (hn : (fn.name == "runtime.NumGoroutine") = false) (hb : fn.body.isNone = false) (args : Array Value) (w : World) :
    (callFunc f args).run P w = .ok (.enter f args) w := by
  have hb' : fn.body.isNone = false := hb
  simp only [callFunc, program, Sem.run_bind, Sem.run, Result.andThen_ok, hf, hn, hb', Bool.false_eq_true, if_false, Sem.run_pure]

/-- An environment, out of lists. -/
theorem envOk {P : Program} {D : Codec U} (L : Lawful D) (fl : List (Nat × FDen U)) (ll : List (Nat × LDen U)) (jl : List (Nat × JDen U)) (md : List (Nat × (Nat × U.C))) (ec : List (Nat × U.C)) (dy : TypeId → Bool) (vc : Nat → Bool) (rs : List ResultVar)
    (hf : ∀ p ∈ fl, Sound P D p.1 p.2 ∧ ∀ args w, (callFunc p.1 args).run P w = .ok (.enter p.1 args) w)
    (hj : ∀ p ∈ jl, ∀ o y, p.2.re o = some y → FitsO o (p.2.fin y)) :
    EnvOk { P := P, D := D, fd := lk fl, ld := lk ll, jd := lk jl, mode := lk md, elc := lk ec, dyn := dy, vecs := vc, results := rs } :=
  { law := L, fd := fun f d h => (hf (f, d) (lk_mem h)).1, jd := fun k j h => hj (k, j) (lk_mem h), enter := fun f d h => (hf (f, d) (lk_mem h)).2 }

theorem fits_ren {s m : St U} (ren : List (Nat × Option Nat)) (h1 : ∀ p ∈ m.t, FV ren (s.get p.1) p.2) (h2 : ∀ p ∈ m.o, FO ren s p.1 p.2)
    (h4 : ∀ c c' a, lk ren c = some (some a) → lk ren c' = some (some a) → c = c') (h3 : keepOk m = true) : Fits s m := ⟨⟨ren, h1, h2, h4⟩, h3⟩
theorem ren_nil : ∀ (c c' a : Nat), lk ([] : List (Nat × Option Nat)) c = some (some a) → lk ([] : List (Nat × Option Nat)) c' = some (some a) → c = c' := fun _ _ _ h => by cases h
theorem ren_one {d : Nat} {x : Option Nat} : ∀ (c c' a : Nat), lk [(d, x)] c = some (some a) → lk [(d, x)] c' = some (some a) → c = c' := fun c c' a h h' => by
  have e : ∀ k, lk [(d, x)] k = some (some a) → d = k := fun k hk => by
    simp only [lk] at hk
    cases hb : Nat.beq d k with
    | true => exact Nat.eq_of_beq_eq_true hb
    | false => rw [hb] at hk; cases hk
  rw [← e c h, ← e c' h']
def apart : List (Option Nat) → Bool
  | [] => true
  | x :: r => (r.all fun y => !(x == y && x.isSome)) && apart r

theorem lk_snd {α : Type u} : ∀ {l : List (Nat × α)} {n : Nat} {v : α}, lk l n = some v → v ∈ l.map (·.2) := fun h => List.mem_map.2 ⟨_, lk_mem h, rfl⟩

theorem ren_apart : ∀ {ren : List (Nat × Option Nat)}, apart (ren.map (·.2)) = true → ∀ c c' a, lk ren c = some (some a) → lk ren c' = some (some a) → c = c'
  | [], _, _, _, _, h, _ => by cases h
  | (k, x) :: r, hap, c, c', a, h, h' => by
    simp only [List.map_cons, apart, Bool.and_eq_true] at hap
    have no : ∀ d, x = some a → lk r d = some (some a) → False := fun d hx hd => by
      have := List.all_eq_true.mp hap.1 _ (lk_snd hd)
      simp [hx] at this
    simp only [lk] at h h'
    cases hb : Nat.beq k c with
    | true =>
      cases hb' : Nat.beq k c' with
      | true => rw [← Nat.eq_of_beq_eq_true hb, ← Nat.eq_of_beq_eq_true hb']
      | false =>
        rw [hb, cond_true] at h
        rw [hb', cond_false] at h'
        exact (no c' (Option.some.inj h) h').elim
    | false =>
      cases hb' : Nat.beq k c' with
      | true =>
        rw [hb, cond_false] at h
        rw [hb', cond_true] at h'
        exact (no c (Option.some.inj h') h).elim
      | false =>
        rw [hb, cond_false] at h
        rw [hb', cond_false] at h'
        exact ren_apart hap.2 c c' a h h'

theorem FV.same {ren : List (Nat × Option Nat)} {v m : AV U} (h : v = m) (hn : ∀ id c l, m ≠ .tip id c l) (hv : ∀ id, m ≠ .vs id) : FV ren v m := .inl ⟨h.symm, hn, hv⟩
theorem FV.row {ren : List (Nat × Option Nat)} {v m : AV U} (h : v.drop = m) (hv : ∀ id, m ≠ .vs id) : FV ren v m := .inr (.inl ⟨h.symm, hv⟩)
theorem FV.nilRow {ren : List (Nat × Option Nat)} {v : AV U} {c : U.C} (h : v = .flat (.slice none 0 0)) : FV ren v (.row c []) := .inr (.inr (.inl ⟨c, rfl, h⟩))
theorem FV.tip {ren : List (Nat × Option Nat)} {v : AV U} {aid cid : Nat} {c : U.C} {l : List (U.El c)} (h : v = .tip aid c l) (hr : lk ren cid = some (some aid)) : FV ren v (.tip cid c l) := .inr (.inr (.inr (.inl ⟨cid, c, l, rfl, .inl ⟨aid, h, hr⟩⟩)))
theorem FV.nilTip {ren : List (Nat × Option Nat)} {v : AV U} {cid : Nat} {c : U.C} (h : v = .flat (.slice none 0 0)) (hr : lk ren cid = some none) : FV ren v (.tip cid c []) := .inr (.inr (.inr (.inl ⟨cid, c, [], rfl, .inr ⟨rfl, h, hr⟩⟩)))
theorem FV.vs {ren : List (Nat × Option Nat)} {v : AV U} {aid cid : Nat} (h : v = .vs aid) (hr : lk ren cid = some (some aid)) : FV ren v (.vs cid) := .inr (.inr (.inr (.inr ⟨cid, rfl, .inl ⟨aid, h, hr⟩⟩)))
theorem FV.nilVs {ren : List (Nat × Option Nat)} {v : AV U} {cid : Nat} (h : v = .flat (.slice none 0 0)) (hr : lk ren cid = some none) : FV ren v (.vs cid) := .inr (.inr (.inr (.inr ⟨cid, rfl, .inr ⟨h, hr⟩⟩)))
theorem fitsO_norm {s m : St U} (h : Fits s m) : FitsO (.norm s) (.norm m) := h
theorem fitsO_exit {s m : St U} {id : Nat} (h : Fits s m) : FitsO (.exit id s) (.exit id m) := ⟨rfl, h⟩
theorem fitsO_ret {v : AV U} : FitsO (.ret v : Out U) (.ret v) := rfl

def AllL (E : Env U) (nt : Nat) (fn : Func) (l : List Code) : Prop := ∀ c', c' ∈ l → ∀ k d, keyOf c' = some k → E.ld k = some d → LSound E nt fn c' d
theorem allL_nil : AllL E nt fn [] := fun c' h => by cases h
theorem allL_cons {c : Code} {l : List Code} {key : Nat} {d0 : LDen U} (hk : keyOf c = some key) (hd : E.ld key = some d0) (h : LSound E nt fn c d0) (hl : AllL E nt fn l) : AllL E nt fn (c :: l) := by
  intro c' hc k d h1 h2
  rcases List.mem_cons.1 hc with rfl | hc
  · rw [hk] at h1
    cases h1
    rw [hd] at h2
    cases h2
    exact h
  · exact hl c' hc k d h1 h2
theorem allL_of {c : Code} {l : List Code} (hb : loopsOf c = l) (h : AllL E nt fn l) : AllL E nt fn (loopsOf c) := by rw [hb]; exact h

def codeOf (fn : Func) : Code := fn.body.getD .skip
/-- All loops' bodies, the inner ones too. -/
def loopsAll : Code → List Code
  | .seq a b => loopsAll a ++ loopsAll b
  | .cond _ a b => loopsAll a ++ loopsAll b
  | .block _ c => loopsAll c
  | .loop c => c :: loopsAll c
  | _ => []
def loopAt (fn : Func) (key : Nat) : Code := ((loopsAll (codeOf fn)).find? fun c => match keyOf c with | some k => Nat.beq k key | none => false).getD .skip
end
end Go.Ev
