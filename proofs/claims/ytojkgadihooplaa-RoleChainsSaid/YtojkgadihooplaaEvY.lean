import Derived.Test.YtojkgadihooplaaEvX
/-! Code; loops; functions. -/
universe u
namespace Go.Ev
open Go.RowKit (Below)
variable {U : Univ} {ρ : Type}

/-- The slots that a code writes lie in the frame. -/
def dstB (nt : Nat) : Code → Bool
  | .region _ ops _ => ops.toList.all fun o => match o.dst with | some d => Nat.blt d nt | none => true
  | .seq a b => dstB nt a && dstB nt b
  | .cond _ a b => dstB nt a && dstB nt b
  | .block _ c => dstB nt c
  | .loop c => dstB nt c
  | .scope c => dstB nt c
  | _ => true

def loopsOf : Code → List Code
  | .seq a b => loopsOf a ++ loopsOf b
  | .cond _ a b => loopsOf a ++ loopsOf b
  | .block _ c => loopsOf c
  | .loop c => [c]
  | .scope c => loopsOf c
  | _ => []

section
variable {E : Env U} {nt : Nat} {w0 : World} {N0 : Nat → Nat → Prop} {fn : Func}

def resOne (tmps : Array Value) : ResultVar → Sem Value
  | .tmp t => pure (tmps.getD t undef)
  | .cell b t => do loadVar t (← asAddr (tmps.getD b undef))

theorem results_eq (fn : Func) (tmps : Array Value) : results fn tmps = (do
    let vs ← fn.results.mapM (resOne tmps)
    pure (if h : vs.size = 1 then vs[0] else .tuple vs)) := rfl

theorem run_results {P : Program} {w : World} {fn : Func} {tmps : Array Value} {ys : List Value} (h : (fn.results.toList.mapM (resOne tmps)).run P w = .ok ys w) :
    (results fn tmps).run P w = .ok (if h : ys.toArray.size = 1 then ys.toArray[0] else .tuple ys.toArray) w := by
  rw [results_eq, Array.mapM_eq_mapM_toList, Sem.run_bind, Sem.run_map, h]
  rfl

theorem res_run (he : EnvOk E) {R : Rl} {s : St U} {a : Act} (h : SR E.D nt w0 N0 R s a) : ∀ (rs : List ResultVar) (vs : List (AV U)), resA E s rs = some vs →
    ∃ ys : List Value, (rs.mapM (resOne a.tmps)).run E.P R.w = .ok ys R.w ∧ vs.length = ys.length ∧
      ∀ (i : Nat) (v : AV U) (y : Value), vs[i]? = some v → ys[i]? = some y → VR E.D R v y
  | [], vs, hr => by simp [resA] at hr; subst hr; exact ⟨[], rfl, rfl, fun i v y hv => by simp at hv⟩
  | .tmp t :: rs, vs, hr => by
    unfold resA at hr
    simp only [Option.map_eq_some_iff] at hr
    obtain ⟨vs', hr', rfl⟩ := hr
    obtain ⟨ys, h1, h2, h3⟩ := res_run he h rs vs' hr'
    refine ⟨a.tmps.getD t undef :: ys, ?_, by simp [h2], fun i v y hv hy => ?_⟩
    · rw [List.mapM_cons]
      simp only [resOne, Sem.run_bind, Sem.run_pure, Result.andThen_ok]
      rw [h1]
      rfl
    · cases i with
      | zero => cases hv; cases hy; exact (h.tm t).drop
      | succ i => exact h3 i v y (by simpa using hv) (by simpa using hy)
  | .cell b t :: rs, vs, hr => by
    unfold resA at hr
    split at hr
    · rename_i v vs' hv hr'
      simp only [Option.some.injEq] at hr
      subst hr
      obtain ⟨ys, h1, h2, h3⟩ := res_run he h rs vs' hr'
      obtain ⟨bb, y, hb, hy, hvr⟩ := load_core he h (h.tm b) hv
      refine ⟨y :: ys, ?_, by simp [h2], fun i v y hv hy => ?_⟩
      · rw [List.mapM_cons]
        have h0 : (resOne a.tmps (.cell b t)).run E.P R.w = .ok y R.w := by
          simp only [resOne, Sem.run_bind, hb, asAddr, Sem.run_pure, Result.andThen_ok, hy]
        simp only [Sem.run_bind, h0, Result.andThen_ok]
        rw [h1]
        rfl
      · cases i with
        | zero => cases hv; cases hy; exact hvr
        | succ i => exact h3 i v y (by simpa using hv) (by simpa using hy)
    · cases hr

theorem resV_run (he : EnvOk E) (hres : E.results = fn.results.toList) {R : Rl} {s : St U} {a : Act} (h : SR E.D nt w0 N0 R s a) {v : AV U} (hr : resV E s = some v) :
    ∃ y, (results fn a.tmps).run E.P R.w = .ok y R.w ∧ VR E.D R v y := by
  unfold resV at hr
  split at hr
  · rename_i v' hv
    cases hr
    obtain ⟨ys, h1, h2, h3⟩ := res_run he h E.results [v] hv
    obtain ⟨y, rfl⟩ : ∃ y, ys = [y] := by
      cases ys with
      | nil => simp at h2
      | cons y ys => cases ys with | nil => exact ⟨y, rfl⟩ | cons z ys => simp at h2
    refine ⟨y, ?_, h3 0 v y rfl rfl⟩
    rw [hres] at h1
    rw [run_results h1]
    rfl
  · rename_i vs hne hv
    cases hr
    obtain ⟨ys, h1, h2, h3⟩ := res_run he h E.results vs hv
    refine ⟨.tuple ys.toArray, ?_, .tup (by simpa using h2) (fun i x y hx hy => h3 i x y hx (by simpa using hy))⟩
    rw [hres] at h1
    rw [run_results h1]
    have : ¬ ys.length = 1 := by
      intro e
      cases vs with
      | nil => simp only [List.length_nil] at h2; omega
      | cons v vs => cases vs with
        | nil => exact hne v rfl
        | cons _ _ => simp only [List.length_cons] at h2; omega
    simp [this]
  · cases hr

/-- What follows, where the code leaves in one of its ways. -/
def Post (E : Env U) (nt : Nat) (w0 : World) (N0 : Nat → Nat → Prop) (fn : Func) (Q : Exit → Act → World → Prop) (a : Act) (R : Rl) : Out U → Prop
  | .norm s => SR E.D nt w0 N0 R s a → Q .normal a R.w
  | .exit id s => SR E.D nt w0 N0 R s a → Q (.exit id) a R.w
  | .ret v => ∀ s y, SR E.D nt w0 N0 R s a → VR E.D R v y → (results fn a.tmps).run E.P R.w = .ok y R.w → Q .ret a R.w

/-- A loop that is told. -/
def LSound (E : Env U) (nt : Nat) (fn : Func) (c : Code) (d : LDen U) : Prop :=
  ∀ (w0 : World) (N0 : Nat → Nat → Prop) (s : St U) (x : d.X) (y : d.Y), d.un s = some x → d.f x = some y → ∀ (a : Act) (R : Rl) (Q : Exit → Act → World → Prop), SR E.D nt w0 N0 R s a →
    (∀ a' R', Post E nt w0 N0 fn Q a' R' (d.fin y)) → (Code.loop c).wp E.P Q a R.w

theorem evC_sound (he : EnvOk E) (hmix : E.P.follows .mixedOrders = true) (hres : E.results = fn.results.toList) :
    ∀ (c : Code) (s : St U) (a : Act) (R : Rl) (K : Out U → Option ρ) (r : ρ) (Q : Exit → Act → World → Prop), dstB nt c = true →
      (∀ c', c' ∈ loopsOf c → ∀ k d, keyOf c' = some k → E.ld k = some d → LSound E nt fn c' d) →
      SR E.D nt w0 N0 R s a → evC E c s K = some r → (∀ o, K o = some r → ∀ a' R', Post E nt w0 N0 fn Q a' R' o) → c.wp E.P Q a R.w := by
  intro c
  induction c with
  | skip =>
    intro s a R K r Q _ _ h hk hq
    simp only [evC] at hk
    exact wp_skip (hq _ hk a R h)
  | region id ops draw =>
    intro s a R K r Q hd _ h hk hq
    have hd' : DstOk nt ops := by
      intro i o d hi ho
      have := List.all_eq_true.mp hd o (List.mem_of_getElem? (show ops.toList[i]? = some o by simpa using hi))
      simp only [ho] at this
      exact Nat.le_of_ble_eq_true this
    simp only [evC] at hk
    split at hk
    · refine wp_region ?_
      rw [List.range_eq_range']
      have := regC_sound (Q := Q) he hd' ops.toList 0 s a R (fun k o hk => by simpa using hk) h hk (fun s' a' R' _ hs hk' => hq _ hk' a' R' hs)
      simpa using this
    · obtain ⟨hok, hk⟩ := cond_none hk
      exact draw_sound he hmix hd' h hok hk (fun s' a' R' _ hs hk' => hq _ hk' a' R' hs)
  | seq x y ihx ihy =>
    intro s a R K r Q hd hl h hk hq
    simp only [dstB, Bool.and_eq_true] at hd
    simp only [evC] at hk
    refine wp_seq (ihx s a R _ r _ hd.1 (fun c' hc' => hl c' (by simp [loopsOf, hc'])) h hk (fun o ho a' R' => ?_))
    cases o with
    | norm s' => exact fun hs => ihy s' a' R' K r Q hd.2 (fun c' hc' => hl c' (by simp [loopsOf, hc'])) hs ho hq
    | exit id s' => exact fun hs => hq _ ho a' R' hs
    | ret v => exact fun s' y hs hv hr => hq _ ho a' R' s' y hs hv hr
  | cond c x y ihx ihy =>
    intro s a R K r Q hd hl h hk hq
    simp only [dstB, Bool.and_eq_true] at hd
    simp only [evC] at hk
    split at hk
    · rename_i t ht
      have hc := h.op c
      rw [ht] at hc
      have hc' := hc.flat_inv
      rcases cond_some hk with ⟨rfl, hk⟩ | ⟨rfl, hk⟩
      · exact wp_cond_true hc' (ihx s a R K r Q hd.1 (fun c' hc' => hl c' (by simp [loopsOf, hc'])) h hk hq)
      · exact wp_cond_false hc' (ihy s a R K r Q hd.2 (fun c' hc' => hl c' (by simp [loopsOf, hc'])) h hk hq)
    · cases hk
  | block id c ih =>
    intro s a R K r Q hd hl h hk hq
    simp only [evC] at hk
    refine wp_block (ih s a R _ r _ hd hl h hk (fun o ho a' R' => ?_))
    cases o with
    | norm s' => exact fun hs => hq _ ho a' R' hs
    | exit id' s' =>
      intro hs
      simp only [Exit.inBlock]
      cases hb : Nat.beq id' id with
      | true =>
        have := Nat.eq_of_beq_eq_true hb
        subst this
        simp only [hb, cond_true] at ho
        simp only [if_true]
        exact hq _ ho a' R' hs
      | false =>
        simp only [hb, cond_false] at ho
        rw [if_neg (fun e => by subst e; rw [Nat.beq_refl] at hb; cases hb)]
        exact hq _ ho a' R' hs
    | ret v => exact fun s' y hs hv hr => hq _ ho a' R' s' y hs hv hr
  | loop c ih =>
    intro s a R K r Q hd hl h hk hq
    simp only [evC] at hk
    split at hk
    · cases hk
    · rename_i k hkey
      split at hk
      · cases hk
      · rename_i d hdd
        split at hk
        · cases hk
        · rename_i x hx
          obtain ⟨y, hy, hk⟩ := Option.bind_eq_some_iff.1 hk
          exact hl c (by simp [loopsOf]) k d hkey hdd w0 N0 s x y hx hy a R Q h (fun a' R' => hq _ ((d.finK_eq y K).symm.trans hk) a' R')
  | exit id =>
    intro s a R K r Q _ _ h hk hq
    simp only [evC] at hk
    exact wp_exit (hq _ hk a R h)
  | scope c ih => intro s a R K r Q _ _ h hk hq; simp only [evC] at hk; cases hk
  | label l =>
    intro s a R K r Q _ _ h hk hq
    simp only [evC] at hk
    exact wp_label (hq _ hk a R h)
  | ret =>
    intro s a R K r Q _ _ h hk hq
    simp only [evC] at hk
    split at hk
    · rename_i v hv
      obtain ⟨y, h1, h2⟩ := resV_run he hres h hv
      exact wp_ret (hq _ hk a R s y h h2 h1)
    · cases hk
  | rangeFunc f ps as b _ _ => intro s a R K r Q _ _ h hk hq; simp only [evC] at hk; cases hk
  | goto l => intro s a R K r Q _ _ h hk hq; simp only [evC] at hk; cases hk
  | refuse w => intro s a R K r Q _ _ h hk hq; simp only [evC] at hk; cases hk
end
end Go.Ev
