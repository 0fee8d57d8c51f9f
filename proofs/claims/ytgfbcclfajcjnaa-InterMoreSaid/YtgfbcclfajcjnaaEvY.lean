import Derived.Test.YtgfbcclfajcjnaaEvF
universe u
namespace Go.Ev
set_option linter.unusedVariables false
set_option linter.unusedSimpArgs false
open Go.RowKit (Below)
variable {U : Univ} {ρ : Type}
def dstB (nt : Nat) : Code → Bool
  | .region _ ops _ => ops.toList.all fun o => match o.dst with | some d => Nat.blt d nt | none => true
  | .seq a b => dstB nt a && dstB nt b
  | .cond _ a b => dstB nt a && dstB nt b
  | .block _ c => dstB nt c
  | .loop c => dstB nt c
  | .scope c => dstB nt c
  | _ => true
def loopsOf : Code → List Code
  | .seq a b => (match ukey a b with | some _ => [.seq a b] | none => []) ++ (loopsOf a ++ loopsOf b)
  | .cond _ a b => loopsOf a ++ loopsOf b
  | .block _ c => loopsOf c
  | .loop c => [.loop c]
  | .scope c => loopsOf c
  | _ => []
section
variable {E : Env U} {nt : Nat} {w0 : Cx} {N0 : Nat → Nat → Prop} {fn : Func}
def resOne (tmps : Array Value) : ResultVar → Sem Value
  | .tmp t => pure (tmps.getD t undef)
  | .cell b t => do loadVar t (← asAddr (tmps.getD b undef))
theorem results_eq (fn : Func) (tmps : Array Value) : results fn tmps = (do
    let vs ← fn.results.mapM (resOne tmps)
    pure (if h : vs.size = 1 then vs[0] else .tuple vs)) := rfl
theorem run_results {P : Program} {w : World} {fn : Func} {tmps : Array Value} {ys : List Value} (h : (fn.results.toList.mapM (resOne tmps)).run P w = .ok ys w) :
    (results fn tmps).run P w = .ok (if h : ys.toArray.size = 1 then ys.toArray[0] else .tuple ys.toArray) w := by
  rw [results_eq, Array.mapM_eq_mapM_toList, Sem.run_bind, Sem.run_map, h]
  rfl
theorem res_run (he : EnvOk E) {R : Rl} {s : St U} {a : Act} (h : SR E.D nt w0 N0 R s a) : ∀ (rs : List ResultVar) (vs : List (AV U)), resA E s rs = some vs →
    ∃ ys : List Value, (rs.mapM (resOne a.tmps)).run E.P R.w = .ok ys R.w ∧ vs.length = ys.length ∧
      ∀ (i : Nat) (v : AV U) (y : Value), vs[i]? = some v → ys[i]? = some y → VR E.D R v y
  | [], vs, hr => by simp [resA] at hr; subst hr; exact ⟨[], rfl, rfl, fun i v y hv => by simp at hv⟩
  | .tmp t :: rs, vs, hr => by
    unfold resA at hr
    simp only [Option.map_eq_some_iff] at hr
    obtain ⟨vs', hr', rfl⟩ := hr
    obtain ⟨ys, h1, h2, h3⟩ := res_run he h rs vs' hr'
    refine ⟨a.tmps.getD t undef :: ys, ?_, by simp [h2], fun i v y hv hy => ?_⟩
    · rw [List.mapM_cons]
      simp only [resOne, Sem.run_bind, Sem.run_pure, Result.andThen_ok]
      rw [h1]
      rfl
    · cases i with
      | zero => cases hv; cases hy; exact (show VR E.D R (s.op (.tmp t)) (a.tmps.getD t undef) from h.op (.tmp t)).drop
      | succ i => exact h3 i v y (by simpa using hv) (by simpa using hy)
  | .cell b t :: rs, vs, hr => by
    unfold resA at hr
    split at hr
    · rename_i v vs' hv hr'
      simp only [Option.some.injEq] at hr
      subst hr
      obtain ⟨ys, h1, h2, h3⟩ := res_run he h rs vs' hr'
      obtain ⟨bb, y, hb, hy, hvr⟩ := load_core he h (show VR E.D R (s.op (.tmp b)) (a.tmps.getD b undef) from h.op (.tmp b)) hv
      refine ⟨y :: ys, ?_, by simp [h2], fun i v y hv hy => ?_⟩
      · rw [List.mapM_cons]
        have h0 : (resOne a.tmps (.cell b t)).run E.P R.w = .ok y R.w := by
          simp only [resOne, Sem.run_bind, hb, asAddr, Sem.run_pure, Result.andThen_ok, hy]
        simp only [Sem.run_bind, h0, Result.andThen_ok]
        rw [h1]
        rfl
      · cases i with
        | zero => cases hv; cases hy; exact hvr.tidy.drop
        | succ i => exact h3 i v y (by simpa using hv) (by simpa using hy)
    · cases hr
theorem tidys_spec {R : Rl} : ∀ (ts : List TypeId) (vs : List (AV U)) (ys : List Value), vs.length = ys.length → (∀ (i : Nat) (v : AV U) (y : Value), vs[i]? = some v → ys[i]? = some y → VR E.D R v y) →
    (tidys E ts vs).length = ys.length ∧ ∀ (i : Nat) (v : AV U) (y : Value), (tidys E ts vs)[i]? = some v → ys[i]? = some y → VR E.D R v y
  | [], vs, ys, h, hv => by simp only [tidys]; exact ⟨h, hv⟩
  | t :: ts, [], ys, h, hv => by simp only [tidys]; exact ⟨h, hv⟩
  | t :: ts, v :: vs, [], h, hv => by simp at h
  | t :: ts, v :: vs, y :: ys, h, hv => by
    obtain ⟨h1, h2⟩ := tidys_spec ts vs ys (by simpa using h) (fun i v y a b => hv (i + 1) v y (by simpa using a) (by simpa using b))
    simp only [tidys]
    refine ⟨by simp [h1], fun i w z hw hz => ?_⟩
    cases i with
    | zero => cases hw; cases hz; exact (hv 0 v y rfl rfl).tidy
    | succ i => exact h2 i w z (by simpa using hw) (by simpa using hz)
theorem res_run' (he : EnvOk E) {R : Rl} {s : St U} {a : Act} (h : SR E.D nt w0 N0 R s a) (rs : List ResultVar) (vs : List (AV U)) (hr : (resA E s rs).map (tidys E E.rts) = some vs) :
    ∃ ys : List Value, (rs.mapM (resOne a.tmps)).run E.P R.w = .ok ys R.w ∧ vs.length = ys.length ∧
      ∀ (i : Nat) (v : AV U) (y : Value), vs[i]? = some v → ys[i]? = some y → VR E.D R v y := by
  obtain ⟨vs', hr', rfl⟩ := Option.map_eq_some_iff.1 hr
  obtain ⟨ys, h1, h2, h3⟩ := res_run he h rs vs' hr'
  obtain ⟨h4, h5⟩ := tidys_spec E.rts vs' ys h2 h3
  exact ⟨ys, h1, h4, h5⟩
theorem resV_run (he : EnvOk E) (hres : E.results = fn.results.toList) {R : Rl} {s : St U} {a : Act} (h : SR E.D nt w0 N0 R s a) {v : AV U} (hr : resV E s = some v) :
    ∃ y, (results fn a.tmps).run E.P R.w = .ok y R.w ∧ VR E.D R v y := by
  unfold resV at hr
  split at hr
  · rename_i v' hv
    cases hr
    obtain ⟨ys, h1, h2, h3⟩ := res_run' he h E.results [_] hv
    obtain ⟨y, rfl⟩ : ∃ y, ys = [y] := by
      cases ys with
      | nil => simp at h2
      | cons y ys => cases ys with | nil => exact ⟨y, rfl⟩ | cons z ys => simp at h2
    refine ⟨y, ?_, h3 0 v y rfl rfl⟩
    rw [hres] at h1
    rw [run_results h1]
    rfl
  · rename_i vs hne hv
    cases hr
    obtain ⟨ys, h1, h2, h3⟩ := res_run' he h E.results vs hv
    refine ⟨.tuple ys.toArray, ?_, .tup (by simpa using h2) (fun i x y hx hy => h3 i x y hx (by simpa using hy))⟩
    rw [hres] at h1
    rw [run_results h1]
    have : ¬ ys.length = 1 := by
      intro e
      cases vs with
      | nil => simp only [List.length_nil] at h2; omega
      | cons v vs => cases vs with
        | nil => exact hne v rfl
        | cons _ _ => simp only [List.length_cons] at h2; omega
    simp [this]
  · cases hr
def Post (E : Env U) (nt : Nat) (w0 : Cx) (N0 : Nat → Nat → Prop) (fn : Func) (Q : Exit → Act → World → Prop) (a : Act) (R : Rl) : Out U → Prop
  | .norm s => SR E.D nt w0 N0 R s a → Q .normal a R.w
  | .exit id s => SR E.D nt w0 N0 R s a → Q (.exit id) a R.w
  | .ret s => ∀ y, SR E.D 1 w0 N0 R s { tmps := #[y], defers := [] } → a.defers = [] → (results fn a.tmps).run E.P R.w = .ok y R.w → Q .ret a R.w
theorem lk_gh {s : St U} : ∀ {l : List Nat} {n : Nat} {v : AV U}, lk (l.map fun i => (gb + i, s.get (gb + i))) n = some v → gb ≤ n ∧ v = s.get n
  | [], n, v, h => by cases h
  | i :: l, n, v, h => by
    rcases lk_cons h with ⟨rfl, rfl⟩ | h
    · exact ⟨by omega, rfl⟩
    · exact lk_gh h
theorem resS_run (he : EnvOk E) (hres : E.results = fn.results.toList) {R : Rl} {s m : St U} {a : Act} (h : SR E.D nt w0 N0 R s a) (hr : resS E s = some m) :
    ∃ y, (results fn a.tmps).run E.P R.w = .ok y R.w ∧ SR E.D 1 w0 N0 R m { tmps := #[y], defers := [] } := by
  unfold resS at hr
  split at hr
  · rename_i v hv
    cases hr
    obtain ⟨y, h1, h2⟩ := resV_run (fn := fn) he hres h hv
    refine ⟨y, h1, { toSO := h.toSO, size := rfl, defers := rfl, ntle := by unfold gb; omega, tm := fun n => ?_ }⟩
    show VR E.D R ((lk ((0, v) :: _) n).getD .undef) _
    cases hn : lk ((0, v) :: E.gh.map fun i => (gb + i, s.get (gb + i))) n with
    | none => exact .undef _
    | some u =>
      rcases lk_cons hn with ⟨rfl, rfl⟩ | hn
      · rw [tv_lt (by unfold gb; omega)]; exact h2
      · obtain ⟨hge, rfl⟩ := lk_gh hn
        have := h.tm n
        unfold tv at this ⊢
        rw [if_neg (by omega)] at this ⊢
        exact this
  · cases hr
theorem lk_map {α β : Type u} (f : α → β) : ∀ (l : List (Nat × α)) (n : Nat), lk (l.map fun p => (p.1, f p.2)) n = (lk l n).map f
  | [], _ => rfl
  | (k, v) :: r, n => by
    simp only [List.map_cons, lk]
    cases Nat.beq k n with
    | true => rfl
    | false => simp only [cond_false]; exact lk_map f r n
theorem SR.freeze {D : Codec U} (L : Lawful D) {nt : Nat} {w0 : Cx} {N0 : Nat → Nat → Prop} {R : Rl} {s : St U} {a : Act} (h : SR D nt w0 N0 R s a) (id : Nat) :
    ∃ R' : Rl, R'.w = R.w ∧ R.le R' ∧ SR D nt w0 N0 R' (s.freeze id) a ∧ ∀ c l, lk s.o id = some (.vec c l) → ∀ y, VR D R' (.vs id) y → VR D R' (.row c l) y := by
  unfold St.freeze
  split
  · rename_i c l hid
    obtain ⟨b, cap, hhd, hor⟩ := h.objs id _ hid
    have key : ∃ R' : Rl, R'.w = R.w ∧ R.le R' ∧ VR D R' (.row c l) (.slice b l.length cap) ∧ R'.blk = R.blk ∧ R'.hdr = R.hdr ∧ R'.ar = R.ar ∧
        (∀ b i, R'.N b i → R.N b i) ∧ (∀ b i, R.N b i → ¬ R'.N b i → ∃ es, R.blk id = some (b, es)) := by
      rcases hor with ⟨rfl, rfl⟩ | ⟨B, arr, el, rfl, hblk, hheap, hl, hsz, hcv⟩
      · exact ⟨R, rfl, .refl R, .rownil, rfl, rfl, rfl, fun _ _ h => h, fun _ _ h1 h2 => absurd h1 h2⟩
      · let R' : Rl := { R with N := fun b i => R.N b i ∧ b ≠ B }
        have hle : R.le R' := ⟨fun _ _ e => e, fun _ _ e => e, fun _ _ _ e => e, Nat.le_refl _, fun b i _ hN => ⟨rfl, fun hh => hN hh.1⟩⟩
        have hrow : RowAt D R' B 0 c l := by
          intro i x hx j v hv
          have hjl : j < D.size c := by have := (List.getElem?_eq_some_iff.1 hv).1; rwa [L.enc_len] at this
          have hil : i < l.length := (List.getElem?_eq_some_iff.1 hx).1
          have hlt : i * D.size c + j < arr.size := by
            have h1 : (i + 1) * D.size c ≤ l.length * D.size c := Nat.mul_le_mul_right _ hil
            have h2 : l.length * D.size c ≤ cap * D.size c := Nat.mul_le_mul_right _ hl
            rw [Nat.succ_mul] at h1
            omega
          have hu := Array.getElem?_eq_getElem hlt
          refine ⟨_, ?_, fun hh => hh.2 rfl, (hcv i x hx j v _ hv hu).mono hle⟩
          rw [Nat.zero_add]
          simp [World.cell?, R', hheap, hu]
        refine ⟨R', rfl, hle, hrow.vr (Array.getElem?_eq_some_iff.1 hheap).1 hl, rfl, rfl, rfl, fun _ _ h => h.1, fun b i h1 h2 => ?_⟩
        by_cases hb : b = B
        · subst hb; exact ⟨_, hblk⟩
        · exact absurd ⟨h1, hb⟩ h2
    obtain ⟨R', hw, hle, hrv, hbk, hhr, har, hsub, hback⟩ := key
    refine ⟨R', hw, hle, ?_, fun c2 l2 h2 y hy => by
      rw [hid] at h2
      cases h2
      obtain ⟨b', m, cap', e1, hy⟩ := hy.vs_inv
      rw [hhr, hhd] at e1
      cases e1
      rw [hy]
      exact hrv⟩
    have hN : ∀ k o b es, lk s.o k = some o → o.alive → k ≠ id → R.blk k = some (b, es) → ∀ i, R.N b i → R'.N b i := by
      intro k o b es ho ha hne hb i hi
      refine Classical.byContradiction fun hc => ?_
      obtain ⟨es', hb'⟩ := hback b i hi hc
      exact hne (h.inj k id o _ b es es' ho hid ha True.intro hb hb')
    have hlo : ∀ k, lk ((id, Obj.dead) :: s.o) k = if id = k then some .dead else lk s.o k := fun k => lk_setO s id k .dead
    refine { objs := fun k o ho => ?_, none := fun k hk => ?_, own := fun k o b es ho ha hb => ?_, inj := fun k k' o o' b es es' h1 h2 a1 a2 b1 b2 => ?_, keep := by rw [hw]; exact h.keep, le0 := h.toSO.le0' hle, nn := fun b i hlt hg hn => ?_, nlt := fun b i hn => by rw [hw]; exact h.nlt b i (hsub b i hn), ri := h.ri.of (fun k hk => by rw [hlo] at hk; split at hk; cases hk; exact hk) har (by rw [hw]; exact Nat.le_refl _) (fun n B e hb => .inl ⟨n, e, by rw [← hbk]; exact hb⟩),
             size := h.size, defers := h.defers, ntle := h.ntle, tm := fun n => ?_ }
    · rw [hlo] at ho
      split at ho
      · cases ho; exact True.intro
      · rename_i hne
        by_cases ha : o.alive
        · exact (h.objs k o ho).mono hle (fun b es hb => ⟨by rw [hw], hN k o b es ho ha (fun e => hne e.symm) hb⟩) (fun hn => by rw [hbk]; exact hn) ⟨by rw [har], fun b hb => ⟨by rw [hw], fun i hi => Classical.byContradiction fun hc => by
            obtain ⟨es', hb'⟩ := hback b i hi hc
            exact h.ri.sep k b id es' hb hb'⟩⟩
        · cases o <;> first | exact True.intro | exact absurd True.intro ha
    · rw [hlo] at hk
      split at hk
      · cases hk
      · rw [hbk, hhr]; exact h.none k hk
    · rw [hlo] at ho
      split at ho
      · cases ho; exact ha.elim
      · rename_i hne
        rw [hbk] at hb
        obtain ⟨q1, q2⟩ := h.own k o b es ho ha hb
        rw [hw]
        exact ⟨fun hwh i => hN k o b es ho ha (fun e => hne e.symm) hb i (q1 hwh i), q2⟩
    · rw [hlo] at h1 h2
      rw [hbk] at b1 b2
      split at h1
      · cases h1; exact a1.elim
      · split at h2
        · cases h2; exact a2.elim
        · exact h.inj k k' o o' b es es' h1 h2 a1 a2 b1 b2
    · refine Classical.byContradiction fun hc => ?_
      obtain ⟨es', hb'⟩ := hback b i (h.nn b i hlt hg hn) hc
      rcases (h.own id _ b es' hid True.intro hb').2.1 with this | this
      · omega
      · exact hg this
    · have ht := h.tm n
      simp only [St.get]
      rw [lk_map (frzV id (.row c l)) s.t n]
      unfold St.get at ht
      cases hg : lk s.t n with
      | none => exact .undef _
      | some v =>
        rw [hg] at ht
        simp only [Option.map_some, Option.getD_some] at ht ⊢
        unfold frzV
        split
        · rename_i i
          obtain ⟨b', m, cap', e1, hy⟩ := ht.vs_inv
          cases hb : Nat.beq i id with
          | true =>
            have := Nat.eq_of_beq_eq_true hb
            subst this
            rw [hhd] at e1
            cases e1
            rw [hy]
            exact hrv
          | false => exact ht.mono hle
        · exact ht.mono hle
  · rename_i hno
    exact ⟨R, rfl, .refl R, h, fun c l hc => (hno c l hc).elim⟩
theorem SR.sub {D : Codec U} {nt : Nat} {w0 : Cx} {N0 : Nat → Nat → Prop} {R : Rl} {s : St U} {a : Act} (h : SR D nt w0 N0 R s a) (id : Nat) (r : AV U) (hr : ∀ y, VR D R (.vs id) y → VR D R r y) :
    SR D nt w0 N0 R { t := s.t, o := s.o.map fun p => (p.1, frzO id r p.2) } a := by
  have hm : ∀ k o, lk (s.o.map fun p => (p.1, frzO id r p.2)) k = some o → ∃ o', lk s.o k = some o' ∧ frzO id r o' = o := fun k o ho => by
    rw [lk_map (frzO id r) s.o k, Option.map_eq_some_iff] at ho
    exact ho
  have hal : ∀ o : Obj U, (frzO id r o).alive → o.alive := fun o ha => by cases o <;> exact ha
  have hwh : ∀ o : Obj U, (frzO id r o).whole → o.whole := fun o ha => by cases o <;> exact ha
  refine { objs := fun k o ho => ?_, none := fun k hk => h.none k ?_, own := fun k o b es ho ha hb => ?_, inj := fun k k' o o' b es es' h1 h2 a1 a2 b1 b2 => ?_, keep := h.keep, le0 := h.le0, nn := h.nn, nlt := h.nlt, ri := h.ri.of (fun k hk => by rw [lk_map (frzO id r) s.o k, Option.map_eq_none_iff] at hk; exact hk) rfl (Nat.le_refl _) (fun n B e hb => .inl ⟨n, e, hb⟩),
           size := h.size, defers := h.defers, ntle := h.ntle, tm := h.tm }
  · obtain ⟨o', h1, rfl⟩ := hm k o ho
    have h2 := h.objs k o' h1
    cases o' with
    | lit cs =>
      obtain ⟨B, es, arr, el, q1, q2, q3, q4⟩ := h2
      refine ⟨B, es, arr, el, q1, q2, by simpa using q3, fun i x y hx hy => ?_⟩
      rw [List.getElem?_map, Option.map_eq_some_iff] at hx
      obtain ⟨x', hx', rfl⟩ := hx
      have hv := q4 i x' y hx' hy
      unfold frzV
      split
      · rename_i j
        cases hb : Nat.beq j id with
        | true =>
          have := Nat.eq_of_beq_eq_true hb
          subst this
          exact hr y hv
        | false => exact hv
      · exact hv
    | _ => exact h2
  · rw [lk_map (frzO id r) s.o k, Option.map_eq_none_iff] at hk
    exact hk
  · obtain ⟨o', h1, rfl⟩ := hm k o ho
    obtain ⟨q1, q2⟩ := h.own k o' b es h1 (hal o' ha) hb
    exact ⟨fun hh => q1 (hwh o' hh), q2⟩
  · obtain ⟨p, p1, rfl⟩ := hm k o h1
    obtain ⟨p', p2, rfl⟩ := hm k' o' h2
    exact h.inj k k' p p' b es es' p1 p2 (hal p a1) (hal p' a2) b1 b2
theorem SR.freezeC {D : Codec U} (L : Lawful D) {nt : Nat} {w0 : Cx} {N0 : Nat → Nat → Prop} {R : Rl} {s : St U} {a : Act} (h : SR D nt w0 N0 R s a) (id : Nat) :
    ∃ R' : Rl, R'.w = R.w ∧ R.le R' ∧ SR D nt w0 N0 R' (s.freezeC id) a := by
  unfold St.freezeC
  split
  · rename_i c l hid
    obtain ⟨R', h1, h2, h3, h4⟩ := h.freeze L id
    exact ⟨R', h1, h2, h3.sub id (.row c l) (h4 c l hid)⟩
  · exact ⟨R, rfl, .refl R, h⟩
theorem SR.frzCs {D : Codec U} (L : Lawful D) {nt : Nat} {w0 : Cx} {N0 : Nat → Nat → Prop} {a : Act} : ∀ (cs : List (AV U)) {R : Rl} {s : St U}, SR D nt w0 N0 R s a → ∃ R' : Rl, R'.w = R.w ∧ R.le R' ∧ SR D nt w0 N0 R' (Ev.frzCs s cs) a
  | [], R, s, h => ⟨R, rfl, .refl R, h⟩
  | v :: cs, R, s, h => by
    unfold Ev.frzCs
    split
    · rename_i he
      cases he
    · rename_i id r he
      cases he
      obtain ⟨R1, w1, l1, h1⟩ := h.freezeC L id
      obtain ⟨R2, w2, l2, h2⟩ := SR.frzCs L _ h1
      exact ⟨R2, w2.trans w1, l1.trans l2, h2⟩
    · rename_i he
      cases he
      exact SR.frzCs L _ h
theorem SR.frzL {D : Codec U} (L : Lawful D) {nt : Nat} {w0 : Cx} {N0 : Nat → Nat → Prop} {R : Rl} {s : St U} {a : Act} (h : SR D nt w0 N0 R s a) (n : Nat) :
    ∃ R' : Rl, R'.w = R.w ∧ R.le R' ∧ SR D nt w0 N0 R' (Ev.frzL s n) a := by
  unfold Ev.frzL
  split
  · split
    · exact SR.frzCs L _ h
    · exact ⟨R, rfl, .refl R, h⟩
  · exact ⟨R, rfl, .refl R, h⟩
theorem SR.frzLds {D : Codec U} (L : Lawful D) {nt : Nat} {w0 : Cx} {N0 : Nat → Nat → Prop} {a : Act} : ∀ (l : List Nat) {R : Rl} {s : St U}, SR D nt w0 N0 R s a → ∃ R' : Rl, R'.w = R.w ∧ R.le R' ∧ SR D nt w0 N0 R' (Ev.frzLds s l) a
  | [], R, s, h => ⟨R, rfl, .refl R, h⟩
  | n :: l, R, s, h => by
    obtain ⟨R1, w1, l1, h1⟩ := h.frzL L n
    obtain ⟨R2, w2, l2, h2⟩ := SR.frzLds L l h1
    exact ⟨R2, w2.trans w1, l1.trans l2, h2⟩
theorem SR.frzT {D : Codec U} (L : Lawful D) {nt : Nat} {w0 : Cx} {N0 : Nat → Nat → Prop} {R : Rl} {s : St U} {a : Act} (h : SR D nt w0 N0 R s a) (x : Operand) :
    ∃ R' : Rl, R'.w = R.w ∧ R.le R' ∧ SR D nt w0 N0 R' (Ev.frzT s x) a := by
  unfold Ev.frzT
  split
  · split
    · rename_i id _
      obtain ⟨R', q1, q2, q3, _⟩ := h.freeze L id
      exact ⟨R', q1, q2, q3⟩
    · exact ⟨R, rfl, .refl R, h⟩
  · exact ⟨R, rfl, .refl R, h⟩
theorem SR.frzAll {D : Codec U} (L : Lawful D) {nt : Nat} {w0 : Cx} {N0 : Nat → Nat → Prop} {a : Act} : ∀ (l : List Operand) {R : Rl} {s : St U}, SR D nt w0 N0 R s a → ∃ R' : Rl, R'.w = R.w ∧ R.le R' ∧ SR D nt w0 N0 R' (Ev.frzAll s l) a
  | [], R, s, h => ⟨R, rfl, .refl R, h⟩
  | x :: l, R, s, h => by
    obtain ⟨R1, w1, l1, h1⟩ := h.frzT L x
    obtain ⟨R2, w2, l2, h2⟩ := SR.frzAll L l h1
    exact ⟨R2, w2.trans w1, l1.trans l2, h2⟩
theorem SR.freezeB {D : Codec U} (L : Lawful D) {nt : Nat} {w0 : Cx} {N0 : Nat → Nat → Prop} {R : Rl} {s : St U} {a : Act} (h : SR D nt w0 N0 R s a) (id : Nat) :
    ∃ R' : Rl, R'.w = R.w ∧ R.le R' ∧ SR D nt w0 N0 R' (s.freezeB id) a := by
  unfold St.freezeB
  split
  · rename_i cs hid
    obtain ⟨B, es, arr, el, hblk, hheap, hsz, hcv⟩ := h.objs id _ hid
    have key : ∃ R' : Rl, R'.w = R.w ∧ R.le R' ∧ (∀ off, VR D R' (.rp (cs.map AV.drop) off) (.pointer (some ⟨B, off, none⟩))) ∧ R'.blk = R.blk ∧ R'.hdr = R.hdr ∧ R'.ar = R.ar ∧
        (∀ b i, R'.N b i → R.N b i) ∧ (∀ b i, R.N b i → ¬ R'.N b i → ∃ es, R.blk id = some (b, es)) := by
      let R' : Rl := { R with N := fun b i => R.N b i ∧ b ≠ B }
      have hle : R.le R' := ⟨fun _ _ e => e, fun _ _ e => e, fun _ _ _ e => e, Nat.le_refl _, fun b i _ hN => ⟨rfl, fun hh => hN hh.1⟩⟩
      refine ⟨R', rfl, hle, fun off => ?_, rfl, rfl, rfl, fun _ _ h => h.1, fun b i h1 h2 => ?_⟩
      · have hv : ∀ (i : Nat) (x : AV U), (cs.map AV.drop)[i]? = some x → R'.w.cell? ⟨B, 0 + i, none⟩ = some (arr.getD i undef) ∧ VR D R' x (arr.getD i undef) := by
          intro i x hx
          rw [List.getElem?_map] at hx
          obtain ⟨x0, hx0, rfl⟩ := Option.map_eq_some_iff.1 hx
          have hlt : i < arr.size := by have := (List.getElem?_eq_some_iff.1 hx0).1; omega
          have hu := Array.getElem?_eq_getElem hlt
          have hd : arr.getD i undef = arr[i] := by simp [Array.getD, hlt]
          rw [hd]
          refine ⟨?_, ((hcv i x0 _ hx0 hu).mono hle).drop⟩
          rw [Nat.zero_add]
          simp [World.cell?, R', hheap, hu]
        have := VR.rp (D := D) (R := R') (cs := cs.map AV.drop) (off := off) (B := B) (o := 0) (fun i => arr.getD i undef) (Array.getElem?_eq_some_iff.1 hheap).1 (fun i x hx => ⟨(hv i x hx).1, fun hh => hh.2 rfl⟩) (fun i x hx => (hv i x hx).2)
        rwa [Nat.zero_add] at this
      · by_cases hb : b = B
        · subst hb; exact ⟨_, hblk⟩
        · exact absurd ⟨h1, hb⟩ h2
    obtain ⟨R', hw, hle, hrv, hbk, hhr, har, hsub, hback⟩ := key
    refine ⟨R', hw, hle, ?_⟩
    have hN : ∀ k o b es, lk s.o k = some o → o.alive → k ≠ id → R.blk k = some (b, es) → ∀ i, R.N b i → R'.N b i := by
      intro k o b es ho ha hne hb i hi
      refine Classical.byContradiction fun hc => ?_
      obtain ⟨es', hb'⟩ := hback b i hi hc
      exact hne (h.inj k id o _ b es es' ho hid ha True.intro hb hb')
    have hlo : ∀ k, lk ((id, Obj.dead) :: s.o) k = if id = k then some .dead else lk s.o k := fun k => lk_setO s id k .dead
    refine { objs := fun k o ho => ?_, none := fun k hk => ?_, own := fun k o b es ho ha hb => ?_, inj := fun k k' o o' b es es' h1 h2 a1 a2 b1 b2 => ?_, keep := by rw [hw]; exact h.keep, le0 := h.toSO.le0' hle, nn := fun b i hlt hg hn => ?_, nlt := fun b i hn => by rw [hw]; exact h.nlt b i (hsub b i hn), ri := h.ri.of (fun k hk => by rw [hlo] at hk; split at hk; cases hk; exact hk) har (by rw [hw]; exact Nat.le_refl _) (fun n B e hb => .inl ⟨n, e, by rw [← hbk]; exact hb⟩),
             size := h.size, defers := h.defers, ntle := h.ntle, tm := fun n => ?_ }
    · rw [hlo] at ho
      split at ho
      · cases ho; exact True.intro
      · rename_i hne
        by_cases ha : o.alive
        · exact (h.objs k o ho).mono hle (fun b es hb => ⟨by rw [hw], hN k o b es ho ha (fun e => hne e.symm) hb⟩) (fun hn => by rw [hbk]; exact hn) ⟨by rw [har], fun b hb => ⟨by rw [hw], fun i hi => Classical.byContradiction fun hc => by
            obtain ⟨es', hb'⟩ := hback b i hi hc
            exact h.ri.sep k b id es' hb hb'⟩⟩
        · cases o <;> first | exact True.intro | exact absurd True.intro ha
    · rw [hlo] at hk
      split at hk
      · cases hk
      · rw [hbk, hhr]; exact h.none k hk
    · rw [hlo] at ho
      split at ho
      · cases ho; exact ha.elim
      · rename_i hne
        rw [hbk] at hb
        obtain ⟨q1, q2⟩ := h.own k o b es ho ha hb
        rw [hw]
        exact ⟨fun hwh i => hN k o b es ho ha (fun e => hne e.symm) hb i (q1 hwh i), q2⟩
    · rw [hlo] at h1 h2
      rw [hbk] at b1 b2
      split at h1
      · cases h1; exact a1.elim
      · split at h2
        · cases h2; exact a2.elim
        · exact h.inj k k' o o' b es es' h1 h2 a1 a2 b1 b2
    · refine Classical.byContradiction fun hc => ?_
      obtain ⟨es', hb'⟩ := hback b i (h.nn b i hlt hg hn) hc
      rcases (h.own id _ b es' hid True.intro hb').2.1 with this | this
      · omega
      · exact hg this
    · have ht := h.tm n
      simp only [St.get]
      rw [lk_map (frzB id (cs.map AV.drop)) s.t n]
      unfold St.get at ht
      cases hg : lk s.t n with
      | none => exact .undef _
      | some v =>
        rw [hg] at ht
        simp only [Option.map_some, Option.getD_some] at ht ⊢
        unfold frzB
        split
        · rename_i i off
          obtain ⟨b', es', e1, hy⟩ := ht.ptr_inv
          cases hb : Nat.beq i id with
          | true =>
            have := Nat.eq_of_beq_eq_true hb
            subst this
            rw [hblk] at e1
            cases e1
            rw [hy]
            exact hrv off
          | false => exact ht.mono hle
        · exact ht.mono hle
  · exact ⟨R, rfl, .refl R, h⟩
theorem SR.freezeM {D : Codec U} {nt : Nat} {w0 : Cx} {N0 : Nat → Nat → Prop} {R : Rl} {s : St U} {a : Act} (h : SR D nt w0 N0 R s a) (id : Nat) :
    ∃ R' : Rl, R'.w = R.w ∧ R.le R' ∧ SR D nt w0 N0 R' (s.freezeM id) a := by
  unfold St.freezeM
  split
  · rename_i w ka va ck cv l hid
    obtain ⟨R', h1, h2, h3, h4⟩ := h.deadM hid
    refine ⟨R', h1, h2, { toSO := h3.toSO, size := h3.size, defers := h3.defers, ntle := h3.ntle, tm := fun n => ?_ }⟩
    have ht := h3.tm n
    have ht0 := h.tm n
    change VR D R' (St.get s n) _ at ht
    unfold St.get at ht ht0 ⊢
    simp only
    rw [show (s.t.map fun p => (p.1, frzW id (.fm ka va ck cv l) p.2)) = s.t.map fun p => (p.1, (frzW id (.fm ka va ck cv l)) p.2) from rfl, lkmap (frzW id (.fm ka va ck cv l)) s.t n]
    cases hg : lk s.t n with
    | none => exact .undef _
    | some v =>
      rw [hg] at ht ht0
      simp only [Option.map_some, Option.getD_some] at ht ht0 ⊢
      unfold frzW
      split
      · rename_i i
        cases hb : Nat.beq i id with
        | true =>
          have := Nat.eq_of_beq_eq_true hb
          subst this
          exact h4 _ ht0
        | false => exact ht
      · exact ht
  · exact ⟨R, rfl, .refl R, h⟩
theorem SR.frzU {D : Codec U} (L : Lawful D) {nt : Nat} {w0 : Cx} {N0 : Nat → Nat → Prop} {R : Rl} {s : St U} {a : Act} (h : SR D nt w0 N0 R s a) (x : Operand) :
    ∃ R' : Rl, R'.w = R.w ∧ R.le R' ∧ SR D nt w0 N0 R' (Ev.frzU s x) a := by
  unfold Ev.frzU
  split
  · split
    · exact h.freezeB L _
    · exact h.freezeM _
    · exact ⟨R, rfl, .refl R, h⟩
  · exact ⟨R, rfl, .refl R, h⟩
theorem SR.frzCaps {D : Codec U} (L : Lawful D) {nt : Nat} {w0 : Cx} {N0 : Nat → Nat → Prop} {a : Act} : ∀ (l : List Operand) {R : Rl} {s : St U}, SR D nt w0 N0 R s a → ∃ R' : Rl, R'.w = R.w ∧ R.le R' ∧ SR D nt w0 N0 R' (Ev.frzCaps s l) a
  | [], R, s, h => ⟨R, rfl, .refl R, h⟩
  | x :: l, R, s, h => by
    obtain ⟨R1, w1, l1, h1⟩ := h.frzU L x
    obtain ⟨R2, w2, l2, h2⟩ := SR.frzCaps L l h1
    exact ⟨R2, w2.trans w1, l1.trans l2, h2⟩
theorem SR.frzRes {D : Codec U} (L : Lawful D) {nt : Nat} {w0 : Cx} {N0 : Nat → Nat → Prop} {a : Act} : ∀ (l : List ResultVar) {R : Rl} {s : St U}, SR D nt w0 N0 R s a → ∃ R' : Rl, R'.w = R.w ∧ R.le R' ∧ SR D nt w0 N0 R' (Ev.frzRes s l) a
  | [], R, s, h => ⟨R, rfl, .refl R, h⟩
  | .tmp t :: l, R, s, h => by
    obtain ⟨R1, w1, l1, h1⟩ := h.frzT L (.tmp t)
    obtain ⟨R2, w2, l2, h2⟩ := SR.frzRes L l h1
    exact ⟨R2, w2.trans w1, l1.trans l2, h2⟩
  | .cell x t :: l, R, s, h => SR.frzRes L l h
theorem SR.freezeN {E : Env U} (L : Lawful E.D) {nt : Nat} {w0 : Cx} {N0 : Nat → Nat → Prop} {R : Rl} {s : St U} {a : Act} (h : SR E.D nt w0 N0 R s a) (ty : TypeId) (id : Nat) :
    ∃ R' : Rl, R'.w = R.w ∧ R.le R' ∧ SR E.D nt w0 N0 R' (s.freezeN E ty id) a := by
  unfold St.freezeN
  split
  · rename_i A ka ck l hid
    split
    · exact ⟨R, rfl, .refl R, h⟩
    · rename_i v hv
      obtain ⟨b, es, clock, e1, e2, e3, _⟩ := h.objs id _ hid
      let R' : Rl := { R with N := fun B i => R.N B i ∧ B ≠ b ∧ B ∉ R.ar A }
      have hle : R.le R' := ⟨fun _ _ e => e, fun _ _ e => e, fun _ _ _ e => e, Nat.le_refl _, fun B i _ hN => ⟨rfl, fun hh => hN hh.1⟩⟩
      have hrv : ∀ y, VR E.D R (.mp id) y → VR E.D R' (viewA E (lk s.o) ty (.mp id)) y := fun y hy => viewA_at L h hle rfl hy fun id' A' ka' ck' l' b' e hob hb _ hh => by
        cases e
        rw [hid] at hob
        cases hob
        rcases hb with hb | hb
        · rw [e2] at hb
          cases hb
          exact hh.2.1 rfl
        · exact hh.2.2 hb
      refine ⟨R', rfl, hle, ?_⟩
      have hlo : ∀ k, lk ((A, Obj.dead) :: (id, Obj.dead) :: s.o) k = if A = k then some .dead else if id = k then some .dead else lk s.o k := fun k => by
        have h1 := lk_setO (s.setO id .dead) A k .dead
        have h2 := lk_setO s id k .dead
        rw [h2] at h1
        exact h1
      have keepN : ∀ k o B es', lk s.o k = some o → o.alive → k ≠ id → R.blk k = some (B, es') → B ≠ b ∧ B ∉ R.ar A := fun k o B es' ho ha hne hb =>
        ⟨fun e => hne (h.inj k id o _ B es' 0 ho hid ha True.intro hb (e ▸ e2)), fun hm => h.ri.sep A B k es' hm hb⟩
      refine { objs := fun k o ho => ?_, none := fun k hk => ?_, own := fun k o B es' ho ha hb => ?_, inj := fun k k' o o' B es1 es2 h1 h2 a1 a2 b1 b2 => ?_, keep := h.keep, le0 := h.toSO.le0' hle, nn := fun B i hlt hg hn => ⟨h.nn B i hlt hg hn, fun e => ?_, fun hm => ?_⟩, nlt := fun B i hn => h.nlt B i hn.1,
               ri := h.ri.of (fun k hk => by rw [hlo] at hk; split at hk; cases hk; split at hk; cases hk; exact hk) rfl (Nat.le_refl _) (fun n B e hb => .inl ⟨n, e, hb⟩), size := h.size, defers := h.defers, ntle := h.ntle, tm := fun n => ?_ }
      · rw [hlo] at ho
        split at ho
        · cases ho; exact True.intro
        · rename_i hA
          split at ho
          · cases ho; exact True.intro
          · rename_i hne
            by_cases ha : o.alive
            · exact (h.objs k o ho).mono hle (fun B es' hb => ⟨rfl, fun i hi => ⟨hi, keepN k o B es' ho ha (fun e => hne e.symm) hb⟩⟩) (fun hn => hn)
                ⟨rfl, fun B hB => ⟨rfl, fun i hi => ⟨hi, fun e => h.ri.sep k B id 0 hB (e ▸ e2), fun hm => hA (h.ri.inj A k B hm hB)⟩⟩⟩
            · cases o <;> first | exact True.intro | exact absurd True.intro ha
      · rw [hlo] at hk
        split at hk
        · cases hk
        · split at hk
          · cases hk
          · exact h.none k hk
      · rw [hlo] at ho
        split at ho
        · cases ho; exact ha.elim
        · split at ho
          · cases ho; exact ha.elim
          · rename_i hne
            obtain ⟨q1, q2⟩ := h.own k o B es' ho ha hb
            exact ⟨fun hwh i => ⟨q1 hwh i, keepN k o B es' ho ha (fun e => hne e.symm) hb⟩, q2⟩
      · rw [hlo] at h1 h2
        split at h1
        · cases h1; exact a1.elim
        · split at h1
          · cases h1; exact a1.elim
          · split at h2
            · cases h2; exact a2.elim
            · split at h2
              · cases h2; exact a2.elim
              · exact h.inj k k' o o' B es1 es2 h1 h2 a1 a2 b1 b2
      · subst e
        rcases (h.own id _ B 0 hid True.intro e2).2.1 with this | this
        · omega
        · exact hg this
      · rcases (h.ri.lt A B hm).1 with this | this
        · omega
        · exact hg this
      · have ht := h.tm n
        simp only [St.get]
        rw [lkmap (frzW id (viewA E (lk s.o) ty (.mp id))) s.t n]
        unfold St.get at ht
        cases hg : lk s.t n with
        | none => exact .undef _
        | some u =>
          rw [hg] at ht
          simp only [Option.map_some, Option.getD_some] at ht ⊢
          unfold frzW
          split
          · rename_i i
            cases hb : Nat.beq i id with
            | true =>
              have := Nat.eq_of_beq_eq_true hb
              subst this
              exact hrv _ ht
            | false => exact ht.mono hle
          · exact ht.mono hle
  · exact ⟨R, rfl, .refl R, h⟩
theorem SR.frzN {E : Env U} (L : Lawful E.D) {nt : Nat} {w0 : Cx} {N0 : Nat → Nat → Prop} {R : Rl} {s : St U} {a : Act} (h : SR E.D nt w0 N0 R s a) (ty : TypeId) (x : Operand) :
    ∃ R' : Rl, R'.w = R.w ∧ R.le R' ∧ SR E.D nt w0 N0 R' (Ev.frzN E ty s x) a := by
  unfold Ev.frzN
  split
  · split
    · exact h.freezeN L ty _
    · exact ⟨R, rfl, .refl R, h⟩
  · exact ⟨R, rfl, .refl R, h⟩
theorem SR.fzRes {E : Env U} (L : Lawful E.D) {nt : Nat} {w0 : Cx} {N0 : Nat → Nat → Prop} {a : Act} : ∀ (l : List ResultVar) (ts : List TypeId) {R : Rl} {s : St U}, SR E.D nt w0 N0 R s a → ∃ R' : Rl, R'.w = R.w ∧ R.le R' ∧ SR E.D nt w0 N0 R' (Ev.fzRes E l ts s) a
  | [], ts, R, s, h => ⟨R, rfl, .refl R, by unfold Ev.fzRes; exact h⟩
  | .tmp t :: l, [], R, s, h => ⟨R, rfl, .refl R, by unfold Ev.fzRes; exact h⟩
  | .cell x t :: l, [], R, s, h => ⟨R, rfl, .refl R, by unfold Ev.fzRes; exact h⟩
  | .cell x t :: l, ty :: ts, R, s, h => by unfold Ev.fzRes; exact SR.fzRes L l ts h
  | .tmp t :: l, ty :: ts, R, s, h => by
    unfold Ev.fzRes
    split
    · obtain ⟨R0, q0, l0, h0⟩ := h.frzN L ty (.tmp t)
      obtain ⟨R1, w1, l1, h1⟩ := h0.frzU L (.tmp t)
      replace w1 := w1.trans q0
      replace l1 := l0.trans l1
      have h2 : SR E.D nt w0 N0 R1 ((Ev.frzU (Ev.frzN E ty s (.tmp t)) (.tmp t)).set t (nilA E ty ((Ev.frzU (Ev.frzN E ty s (.tmp t)) (.tmp t)).get t))) a := by
        refine { toSO := h1.toSO, size := h1.size, defers := h1.defers, ntle := h1.ntle, tm := fun n => ?_ }
        rw [get_set]
        split
        · rename_i e; subst e; exact (h1.tm t).nilA
        · exact h1.tm n
      obtain ⟨R2, w2, l2, h3⟩ := SR.fzRes L l ts h2
      exact ⟨R2, w2.trans w1, l1.trans l2, h3⟩
    · exact SR.fzRes L l ts h
def LSound (E : Env U) (nt : Nat) (fn : Func) (c : Code) (d : LDen U) : Prop :=
  ∀ (w0 : Cx) (N0 : Nat → Nat → Prop) (s : St U) (x : d.X) (y : d.Y), d.un s = some x → d.f x = some y → ∀ (a : Act) (R : Rl) (Q : Exit → Act → World → Prop), SR E.D nt w0 N0 R s a →
    (∀ a' R', Post E nt w0 N0 fn Q a' R' (d.fin y)) → c.wp E.P Q a R.w
theorem post_fits (he : EnvOk E) {Q : Exit → Act → World → Prop} {a : Act} {R : Rl} {o m : Out U} (hf : FitsO o m) (hp : ∀ R', Post E nt w0 N0 fn Q a R' m) : Post E nt w0 N0 fn Q a R o := by
  cases o with
  | norm s =>
    cases m with
    | norm m =>
      intro hs
      obtain ⟨R2, hw, hs2⟩ := hs.fits he.law (show Fits s m from hf)
      show Q .normal a R.w
      rw [← hw]
      exact hp R2 hs2
    | exit id m => exact (show False from hf).elim
    | ret v => exact (show False from hf).elim
  | exit id s =>
    cases m with
    | norm m => exact (show False from hf).elim
    | exit id' m =>
      intro hs
      obtain ⟨rfl, hf⟩ : id = id' ∧ Fits s m := hf
      obtain ⟨R2, hw, hs2⟩ := hs.fits he.law hf
      show Q (.exit id) a R.w
      rw [← hw]
      exact hp R2 hs2
    | ret v => exact (show False from hf).elim
  | ret s =>
    cases m with
    | norm m => exact (show False from hf).elim
    | exit id m => exact (show False from hf).elim
    | ret m =>
      intro y hs hd hr
      obtain ⟨R2, hw, hs2⟩ := hs.fits he.law (show Fits s m from hf)
      have := hp R2 y hs2 hd
      rw [hw] at this
      exact this hr
theorem join_post (he : EnvOk E) {ρ : Type} {k : Nat} {run : {σ : Type} → (Out U → Option σ) → Option σ} {K : Out U → Option ρ} {r : ρ} {Q : Exit → Act → World → Prop} {T : Prop}
    (_ : True) (hk : joinK (E.jd k) run K = some r) (hq : ∀ o, K o = some r → ∀ a' R', Post E nt w0 N0 fn Q a' R' o)
    (h : ∀ {σ : Type} (K : Out U → Option σ) (r : σ), run K = some r → (∀ o, K o = some r → ∀ a' R', Post E nt w0 N0 fn Q a' R' o) → T) : T := by
  unfold joinK at hk
  split at hk
  · exact h K r hk hq
  · rename_i j hj
    obtain ⟨y, hy, hk⟩ := Option.bind_eq_some_iff.1 hk
    refine h j.re y hy fun o ho a' R' => post_fits he (he.jd _ _ hj o y ho) fun R' => hq _ ((j.finK_eq y K).symm.trans hk) a' R'
theorem evC_sound (he : EnvOk E) (hmix : E.P.follows .mixedOrders = true) (hres : E.results = fn.results.toList) :
    ∀ (c : Code) {ρ : Type} (s : St U) (a : Act) (R : Rl) (K : Out U → Option ρ) (r : ρ) (Q : Exit → Act → World → Prop), dstB nt c = true →
      (∀ c', c' ∈ loopsOf c → ∀ k d, lkey c' = some k → E.ld k = some d → LSound E nt fn c' d) →
      SR E.D nt w0 N0 R s a → evC E c s K = some r → (∀ o, K o = some r → ∀ a' R', Post E nt w0 N0 fn Q a' R' o) → c.wp E.P Q a R.w := by
  intro c
  induction c with
  | skip =>
    intro ρ s a R K r Q _ _ h hk hq
    simp only [evC] at hk
    exact wp_skip (hq _ hk a R h)
  | region id ops draw =>
    intro ρ s a R K r Q hd _ h hk hq
    have hd' : DstOk nt ops := by
      intro i o d hi ho
      have := List.all_eq_true.mp hd o (List.mem_of_getElem? (show ops.toList[i]? = some o by simpa using hi))
      simp only [ho] at this
      exact Nat.le_of_ble_eq_true this
    simp only [evC] at hk
    refine join_post he trivial hk hq fun {σ} K r hk hq => ?_
    obtain ⟨R00, hw00, hle00, h00⟩ := h.frzAll he.law (escOf E ops.toList)
    obtain ⟨R01, hw01, hle01, h01⟩ := h00.frzCaps he.law (capsOf E ops.toList)
    obtain ⟨R0, hw0', hle0', h0⟩ := h01.frzLds he.law (E.lds id)
    have hw0 : R0.w = R.w := (hw0'.trans hw01).trans hw00
    have hle0 : R.le R0 := (hle00.trans hle01).trans hle0'
    rw [← hw0]
    clear h
    have h := h0
    split at hk
    · refine wp_region ?_
      rw [List.range_eq_range']
      have := regC_sound (Q := Q) he hd' ops.toList 0 _ a R0 (fun k o hk => by simpa using hk) h hk (fun s' a' R' _ hs hk' => hq _ hk' a' R' hs)
      simpa using this
    · obtain ⟨hok, hk⟩ := cond_none hk
      split at hk
      · exact draw_sound he hmix hd' h hok hk (fun s' a' R' _ hs hk' => hq _ hk' a' R' hs)
      · obtain ⟨hlit, hk⟩ := cond_none hk
        exact draw_lit he hmix hd' h hok hlit hk (fun s' a' R' _ hs hk' => hq _ hk' a' R' hs)
  | seq x y ihx ihy =>
    intro ρ s a R K r Q hd hl h hk hq
    simp only [dstB, Bool.and_eq_true] at hd
    simp only [evC] at hk
    split at hk
    · rename_i d hdd
      obtain ⟨k, hk1, hk2⟩ := Option.bind_eq_some_iff.1 hdd
      split at hk
      · cases hk
      · rename_i z hz
        obtain ⟨y', hy, hk⟩ := Option.bind_eq_some_iff.1 hk
        exact hl (.seq x y) (by simp [loopsOf, hk1]) k d hk1 hk2 w0 N0 s z y' hz hy a R Q h (fun a' R' => hq _ ((d.finK_eq y' K).symm.trans hk) a' R')
    · refine wp_seq (ihx s a R _ r _ hd.1 (fun c' hc' => hl c' (by simp [loopsOf, hc'])) h hk (fun o ho a' R' => ?_))
      cases o with
      | norm s' => exact fun hs => ihy s' a' R' K r Q hd.2 (fun c' hc' => hl c' (by simp [loopsOf, hc'])) hs ho hq
      | exit id s' => exact fun hs => hq _ ho a' R' hs
      | ret v => exact fun y hs hd hr => hq _ ho a' R' y hs hd hr
  | cond c x y ihx ihy =>
    intro ρ s a R K r Q hd hl h hk hq
    simp only [dstB, Bool.and_eq_true] at hd
    simp only [evC] at hk
    split at hk
    · rename_i t ht
      have hc := h.op c
      rw [ht] at hc
      have hc' := hc.flat_inv
      refine join_post he trivial hk hq fun {σ} K r hk hq => ?_
      rcases cond_some hk with ⟨rfl, hk⟩ | ⟨rfl, hk⟩
      · exact wp_cond_true hc' (ihx s a R K r Q hd.1 (fun c' hc' => hl c' (by simp [loopsOf, hc'])) h hk hq)
      · exact wp_cond_false hc' (ihy s a R K r Q hd.2 (fun c' hc' => hl c' (by simp [loopsOf, hc'])) h hk hq)
    · cases hk
  | block id c ih =>
    intro ρ s a R K r Q hd hl h hk hq
    simp only [evC] at hk
    refine join_post he trivial hk hq fun {σ} K r hk hq => ?_
    refine wp_block (ih s a R _ r _ hd hl h hk (fun o ho a' R' => ?_))
    cases o with
    | norm s' => exact fun hs => hq _ ho a' R' hs
    | exit id' s' =>
      intro hs
      simp only [Exit.inBlock]
      cases hb : Nat.beq id' id with
      | true =>
        have := Nat.eq_of_beq_eq_true hb
        subst this
        simp only [hb, cond_true] at ho
        simp only [if_true]
        exact hq _ ho a' R' hs
      | false =>
        simp only [hb, cond_false] at ho
        rw [if_neg (fun e => by subst e; rw [Nat.beq_refl] at hb; cases hb)]
        exact hq _ ho a' R' hs
    | ret v => exact fun y hs hd hr => hq _ ho a' R' y hs hd hr
  | loop c ih =>
    intro ρ s a R K r Q hd hl h hk hq
    simp only [evC] at hk
    split at hk
    · cases hk
    · rename_i k hkey
      split at hk
      · cases hk
      · rename_i d hdd
        split at hk
        · cases hk
        · rename_i x hx
          obtain ⟨y, hy, hk⟩ := Option.bind_eq_some_iff.1 hk
          exact hl (.loop c) (by simp [loopsOf]) k d hkey hdd w0 N0 s x y hx hy a R Q h (fun a' R' => hq _ ((d.finK_eq y K).symm.trans hk) a' R')
  | exit id =>
    intro ρ s a R K r Q _ _ h hk hq
    simp only [evC] at hk
    exact wp_exit (hq _ hk a R h)
  | scope c ih => intro ρ s a R K r Q _ _ h hk hq; simp only [evC] at hk; cases hk
  | label l =>
    intro ρ s a R K r Q _ _ h hk hq
    simp only [evC] at hk
    exact wp_label (hq _ hk a R h)
  | ret =>
    intro ρ s a R K r Q _ _ h hk hq
    simp only [evC] at hk
    split at hk
    · rename_i m hm
      obtain ⟨R00, hw00, hle00, h00⟩ : ∃ R0 : Rl, R0.w = R.w ∧ R.le R0 ∧ SR E.D nt w0 N0 R0 (bif E.own then s else frzRes s E.results) a := by
        cases E.own with
        | true => exact ⟨R, rfl, .refl R, h⟩
        | false => exact h.frzRes he.law E.results
      obtain ⟨R0, hw0, hle0, h0⟩ := h00.fzRes he.law E.results E.rts
      have hw0 := hw0.trans hw00
      rw [← hw0]
      obtain ⟨y, h1, h2⟩ := resS_run (fn := fn) he hres h0 hm
      exact wp_ret (hq _ hk a R0 y h2 h0.defers h1)
    · cases hk
  | rangeFunc f ps as b _ _ => intro ρ s a R K r Q _ _ h hk hq; simp only [evC] at hk; cases hk
  | goto l => intro ρ s a R K r Q _ _ h hk hq; simp only [evC] at hk; cases hk
  | refuse w => intro ρ s a R K r Q _ _ h hk hq; simp only [evC] at hk; cases hk
end
end Go.Ev
