import Derived.Test.YthknecaigoilmaaEvQ
/-! Values that are built; builtins; calls; then any operation. -/
universe u
namespace Go.Ev
open Go.RowKit (Below)
variable {U : Univ} {ρ : Type}

theorem fold_set (off : Nat) : ∀ (l : List Value) (k : Nat) (cs : Array Value), off + k + l.length ≤ cs.size →
    ((l.zipIdx k).foldl (fun cs (p : Value × Nat) => cs.setIfInBounds (off + p.2) p.1) cs).size = cs.size ∧
    ∀ i, ((l.zipIdx k).foldl (fun cs (p : Value × Nat) => cs.setIfInBounds (off + p.2) p.1) cs)[i]? = if off + k ≤ i ∧ i < off + k + l.length then l[i - (off + k)]? else cs[i]?
  | [], k, cs, _ => ⟨rfl, fun i => by rw [if_neg (by intro h; have := h.2; simp at this; omega)]; rfl⟩
  | v :: l, k, cs, h => by
    simp only [List.length_cons] at h
    obtain ⟨h1, h2⟩ := fold_set off l (k + 1) (cs.setIfInBounds (off + k) v) (by simp; omega)
    simp only [List.zipIdx_cons, List.foldl_cons]
    refine ⟨by simpa using h1, fun i => ?_⟩
    rw [h2 i]
    by_cases hi : i = off + k
    · subst hi
      rw [if_neg (by omega), if_pos (by simp), Array.getElem?_setIfInBounds]
      simp [show off + k < cs.size by omega]
    · by_cases hin : off + (k + 1) ≤ i ∧ i < off + (k + 1) + l.length
      · rw [if_pos hin, if_pos (by simp; omega), show i - (off + k) = (i - (off + (k + 1))) + 1 by omega, List.getElem?_cons_succ]
      · rw [if_neg hin, if_neg (by simp; omega), Array.getElem?_setIfInBounds, if_neg (fun e => hi e.symm)]

theorem fill_spec {D : Codec U} {R : Rl} (place : Nat → Option (Nat × Nat)) : ∀ (parts : List (Nat × AV U)) (parts' : List (Nat × Value)) (cs cs2 : List (AV U)) (ys : Array Value),
    parts.length = parts'.length → (∀ (i : Nat) (p : Nat × AV U) (p' : Nat × Value), parts[i]? = some p → parts'[i]? = some p' → p.1 = p'.1 ∧ VR D R p.2 p'.2 ∧ p.2.cells.all okCell = true) →
    cs.length = ys.size → (∀ (i : Nat) (x : AV U) (y : Value), cs[i]? = some x → ys[i]? = some y → VR D R x y) → fillA place cs parts = some cs2 →
    ∃ ys2, Instr.fill place ys parts' = some ys2 ∧ cs2.length = ys2.size ∧ ∀ (i : Nat) (x : AV U) (y : Value), cs2[i]? = some x → ys2[i]? = some y → VR D R x y
  | [], [], cs, cs2, ys, _, _, hl, hv, h => by
    simp only [fillA, Option.some.injEq] at h
    subst h
    exact ⟨ys, rfl, hl, hv⟩
  | [], _ :: _, _, _, _, hl, _, _, _, _ => by simp at hl
  | _ :: _, [], _, _, _, hl, _, _, _, _ => by simp at hl
  | (i, v) :: parts, (i', v') :: parts', cs, cs2, ys, hpl, hp, hl, hv, h => by
    obtain ⟨rfl, hvr, hok⟩ := hp 0 _ _ rfl rfl
    obtain ⟨hcl, hcv⟩ := hvr.cells hok
    replace hcl : v.cells.length = v'.cells.size := hcl
    simp only [fillA] at h
    simp only [Instr.fill]
    split at h
    · cases h
    · rename_i off size hpl'
      simp only [hpl']
      obtain ⟨hc, h⟩ := cond_none h
      simp only [Bool.and_eq_true] at hc
      have h1 := Nat.eq_of_beq_eq_true hc.1
      have h2 := Nat.le_of_ble_eq_true hc.2
      rw [if_neg (by simp; omega)]
      have hf := fold_set off v'.cells.toList 0 ys (by simp; omega)
      have harr : v'.cells.zipIdx.foldl (fun cs (x : Value × Nat) => match x with | (c, j) => cs.setIfInBounds (off + j) c) ys = (v'.cells.toList.zipIdx 0).foldl (fun cs (p : Value × Nat) => cs.setIfInBounds (off + p.2) p.1) ys := by
        rw [← Array.foldl_toList, Array.toList_zipIdx]
      rw [harr]
      refine fill_spec place parts parts' _ cs2 _ (by simpa using hpl) (fun i p p' hp1 hp2 => hp (i + 1) p p' (by simpa using hp1) (by simpa using hp2)) ?_ ?_ h
      · rw [over_len (by omega), hf.1, hl]
      · intro k x y hx hy
        rw [over_get (by omega)] at hx
        rw [hf.2 k] at hy
        split at hx
        · rename_i hin
          rw [if_pos (by simp; omega)] at hy
          exact (hcv _ x y hx (by simpa using hy)).1
        · rename_i hin
          rw [if_neg (by simp; omega)] at hy
          exact hv k x y hx hy

section
variable {E : Env U} {nt : Nat} {w0 : World} {N0 : Nat → Prop} {R : Rl} {s : St U} {a : Act}

theorem run_places {P : Program} (w : World) : ∀ (fs : List Field) (ps : List (Nat × Nat)), placesA P fs = some ps →
    (fs.mapM fun f => do pure (f.offset, ← sizeOf f.type) : Sem (List (Nat × Nat))).run P w = .ok ps w
  | [], ps, h => by simp [placesA] at h; subst h; simp
  | f :: fs, ps, h => by
    unfold placesA at h
    rw [List.mapM_cons] at h
    cases hs : szOf P f.type with
    | none => simp [hs] at h
    | some n =>
      cases hr : placesA P fs with
      | none => unfold placesA at hr; simp [hs, hr] at h
      | some r =>
        have hr' := hr
        unfold placesA at hr'
        simp [hs, hr'] at h
        subst h
        have ih := run_places w fs r hr
        rw [List.mapM_cons]
        simp only [Sem.run_bind, run_sizeOf' w hs, Result.andThen_ok, Sem.run_pure]
        rw [ih]
        rfl

theorem told_build {o : Oper} {t : TypeId} {parts : Array (Nat × Operand)} {K : AV U → Eff U → Option ρ} {r : ρ} (h : SR E.D nt w0 N0 R s a) (ho : o.op = .build t parts)
    (hk : opK E o s.op (lk s.o) K = some r) : Told E nt w0 N0 R s a o K r := by
  unfold opK at hk
  simp only [ho] at hk
  obtain ⟨v, hv, hk⟩ := kont_some hk
  unfold buildA at hv
  split at hv
  · cases hv
  · rename_i z hz
    obtain ⟨i, u, hi, hu, rfl⟩ := zeroCells_inv hz
    obtain ⟨hok, hv⟩ := cond_none hv
    have hparts : ∀ (j : Nat) (p : Nat × AV U) (p' : Nat × Value), (parts.toList.map fun p => (p.1, s.op p.2))[j]? = some p → ((parts.map fun (x : Nat × Operand) => (x.1, a.eval x.2)).toList)[j]? = some p' →
        p.1 = p'.1 ∧ VR E.D R p.2 p'.2 ∧ p.2.cells.all okCell = true := by
      intro j p p' hp hp'
      have hpm := List.all_eq_true.mp hok p (List.mem_of_getElem? hp)
      simp only [List.getElem?_map, Option.map_eq_some_iff] at hp
      obtain ⟨q, hq, rfl⟩ := hp
      simp only [Array.toList_map, List.getElem?_map, Option.map_eq_some_iff] at hp'
      obtain ⟨q', hq', rfl⟩ := hp'
      rw [hq] at hq'
      cases hq'
      exact ⟨rfl, h.op q.2, hpm⟩
    have hz0 : ∀ (j : Nat) (x : AV U) (y : Value), (u.cells.toList.map (AV.flat (U := U)))[j]? = some x → u.cells[j]? = some y → VR E.D R x y := by
      intro j x y hx hy
      simp only [List.getElem?_map, Option.map_eq_some_iff] at hx
      obtain ⟨q, hq, rfl⟩ := hx
      have : u.cells.toList[j]? = some y := by simpa using hy
      rw [hq] at this
      cases this
      exact .flat _
    split at hv
    · rename_i fs hud
      split at hv
      · rename_i ps hps
        simp only [Option.map_eq_some_iff] at hv
        obtain ⟨cs2, hf, rfl⟩ := hv
        obtain ⟨ys2, h1, h2, h3⟩ := fill_spec (D := E.D) (R := R) _ _ _ _ cs2 u.cells (by simp) hparts (by simp) hz0 hf
        refine told_value h hk ?_ (.agg h2 h3)
        simp only [execOp, ho]
        refine run_value ?_
        have hpl := run_places (P := E.P) R.w fs.toList ps hps
        simp only [Instr.build, zeroValue, Sem.run_bind, run_typeInfo' R.w hi, Result.andThen_ok, hu, Sem.run_pure, run_underlying' R.w hud, Array.mapM_eq_mapM_toList, Sem.run_map, hpl]
        simp only [List.getElem?_toArray]
        rw [h1]
        rfl
      · cases hv
    · rename_i len e hud
      split at hv
      · rename_i sz hs
        simp only [Option.map_eq_some_iff] at hv
        obtain ⟨cs2, hf, rfl⟩ := hv
        obtain ⟨ys2, h1, h2, h3⟩ := fill_spec (D := E.D) (R := R) _ _ _ _ cs2 u.cells (by simp) hparts (by simp) hz0 hf
        refine told_value h hk ?_ (.agg h2 h3)
        simp only [execOp, ho]
        refine run_value ?_
        simp only [Instr.build, zeroValue, Sem.run_bind, run_typeInfo' R.w hi, Result.andThen_ok, hu, Sem.run_pure, run_underlying' R.w hud, run_sizeOf' R.w hs]
        rw [h1]
        rfl
      · cases hv
    · cases hv

theorem run_best {P : Program} {w : World} (op : Builtin) (k : IntKind) : ∀ (xs : List (AV U)) (ys : List Value) (x : Int) (v : AV U), best op k x xs = some v → xs.length = ys.length →
    (∀ (i : Nat) (p : AV U) (q : Value), xs[i]? = some p → ys[i]? = some q → VR E.D R p q) →
    (op = .max → (ys.foldlM Builtin.max2 (.int k x)).run P w = .ok (match v with | .flat u => u | _ => undef) w) ∧
    (op = .min → (ys.foldlM Builtin.min2 (.int k x)).run P w = .ok (match v with | .flat u => u | _ => undef) w) ∧ ∃ u, v = .flat u
  | [], [], x, v, h, _, _ => by
    simp only [best, Option.some.injEq] at h
    subst h
    exact ⟨fun _ => rfl, fun _ => rfl, _, rfl⟩
  | [], _ :: _, _, _, _, hl, _ => by simp at hl
  | _ :: _, [], _, _, _, hl, _ => by simp at hl
  | p :: xs, q :: ys, x, v, h, hl, hv => by
    have hpq := hv 0 p q rfl rfl
    unfold best at h
    split at h
    · rename_i e; cases e
    · rename_i k' y r' e
      cases e
      have hq := hpq.flat_inv
      subst hq
      split at h
      · obtain ⟨h1, h2, h3⟩ := run_best (P := P) (w := w) .max k xs ys _ v h (by simpa using hl) (fun i p q hp hq => hv (i + 1) p q (by simpa using hp) (by simpa using hq))
        exact ⟨fun _ => (by simp only [List.foldlM_cons, Sem.run_bind, Builtin.max2, Sem.run_pure, Result.andThen_ok]; exact h1 rfl), fun e => (by cases e), h3⟩
      · obtain ⟨h1, h2, h3⟩ := run_best (P := P) (w := w) .min k xs ys _ v h (by simpa using hl) (fun i p q hp hq => hv (i + 1) p q (by simpa using hp) (by simpa using hq))
        exact ⟨fun e => (by cases e), fun _ => (by simp only [List.foldlM_cons, Sem.run_bind, Builtin.min2, Sem.run_pure, Result.andThen_ok]; exact h2 rfl), h3⟩
      · cases h
    · cases h

theorem map_get {c : Call} (h : SR E.D nt w0 N0 R s a) : ∀ (i : Nat) (p : AV U) (q : Value), (c.args.toList.map s.op)[i]? = some p → (c.args.map a.eval)[i]? = some q → VR E.D R p q := by
  intro i p q hp hq
  simp only [List.getElem?_map, Option.map_eq_some_iff] at hp
  obtain ⟨z, hz, rfl⟩ := hp
  have : c.args[i]? = some z := by simpa using hz
  simp only [Array.getElem?_map, this, Option.map_some, Option.some.injEq] at hq
  subst hq
  exact h.op z

theorem run_builtin {w : World} {o : Oper} {c : Call} {b : Builtin} {y : Value} (ho : o.op = .call c) (hc : c.callee = .builtin b)
    (hrun : (builtin b c.argTypes o.type (c.args.map fun | .const _ => true | _ => false) (c.args.map a.eval)).run E.P w = .ok (.value y) w) :
    (execOp a.eval o).run E.P w = .ok (.value y) w := by
  simp only [execOp, ho, resolve, hc, Sem.run_bind, Sem.run_pure, Result.andThen_ok, invoke]
  exact hrun

theorem told_builtin {o : Oper} {c : Call} {b : Builtin} {K : AV U → Eff U → Option ρ} {r : ρ} (h : SR E.D nt w0 N0 R s a) (ho : o.op = .call c) (hc : c.callee = .builtin b)
    (hk : kont (builtinA E b c.argTypes (c.args.toList.map s.op)) (fun v => K v []) = some r) : Told E nt w0 N0 R s a o K r := by
  obtain ⟨v, hv, hk2⟩ := kont_some hk
  have hm := map_get (c := c) h
  unfold builtinA at hv
  split at hv
  · split at hv
    · rename_i t ht
      split at hv
      · rename_i e cc l hu hargs
        cases hv
        rw [hargs] at hm
        have hsz : c.args.size = 1 := by have := congrArg List.length hargs; simpa using this
        have h0 : (c.args.map a.eval)[0]? = some ((c.args.map a.eval)[0]'(by simp [hsz])) := Array.getElem?_eq_getElem _
        have := hm 0 _ _ rfl h0
        refine told_value h hk2 (run_builtin ho hc ?_) (.flat _)
        simp only [builtin]
        refine run_value ?_
        rcases this.row_inv with ⟨rfl, _, _, hy⟩ | ⟨B, o', cap, f, hy, _⟩
        · simp only [Builtin.len_, ht, h0, hy]
          simp [run_underlying' R.w hu, goInt]
        · simp only [Builtin.len_, ht, h0, hy]
          simp [run_underlying' R.w hu, goInt]
      · rename_i n e x hu hargs
        cases hv
        have hsz : c.args.size = 1 := by have := congrArg List.length hargs; simpa using this
        have h0 : (c.args.map a.eval)[0]? = some ((c.args.map a.eval)[0]'(by simp [hsz])) := Array.getElem?_eq_getElem _
        refine told_value h hk2 (run_builtin ho hc ?_) (.flat _)
        simp only [builtin]
        refine run_value ?_
        simp only [Builtin.len_, ht, h0]
        simp [run_underlying' R.w hu, goInt]
      · cases hv
    · cases hv
  · split at hv
    · rename_i k x xs hargs
      obtain ⟨z, zs, hz⟩ : ∃ z zs, (c.args.map a.eval).toList = z :: zs := by
        cases hl : (c.args.map a.eval).toList with
        | nil => have h1 := congrArg List.length hargs; have h2 := congrArg List.length hl; simp only [List.length_map, Array.length_toList, Array.size_map, List.length_cons, List.length_nil] at h1 h2; omega
        | cons z zs => exact ⟨z, zs, rfl⟩
      rw [hargs] at hm
      have hz0 : z = .int k x := (hm 0 _ _ rfl (by rw [← Array.getElem?_toList, hz]; rfl)).flat_inv
      have hlen : xs.length = zs.length := by
        have h1 := congrArg List.length hargs; have h2 := congrArg List.length hz; simp only [List.length_map, Array.length_toList, Array.size_map, List.length_cons] at h1 h2; exact Nat.succ.inj (h1.symm.trans h2)
      obtain ⟨h1, h2, u, rfl⟩ := run_best (E := E) (R := R) (P := E.P) (w := R.w) .max k xs zs x v hv hlen (fun i p q hp hq => hm (i + 1) p q (by simpa using hp) (by rw [← Array.getElem?_toList, hz]; simpa using hq))
      refine told_value h hk2 (run_builtin ho hc ?_) (.flat u)
      simp only [builtin]
      refine run_value ?_
      simp only [Builtin.max_, hz, hz0]
      exact h1 rfl
    · cases hv
  · split at hv
    · rename_i k x xs hargs
      obtain ⟨z, zs, hz⟩ : ∃ z zs, (c.args.map a.eval).toList = z :: zs := by
        cases hl : (c.args.map a.eval).toList with
        | nil => have h1 := congrArg List.length hargs; have h2 := congrArg List.length hl; simp only [List.length_map, Array.length_toList, Array.size_map, List.length_cons, List.length_nil] at h1 h2; omega
        | cons z zs => exact ⟨z, zs, rfl⟩
      rw [hargs] at hm
      have hz0 : z = .int k x := (hm 0 _ _ rfl (by rw [← Array.getElem?_toList, hz]; rfl)).flat_inv
      have hlen : xs.length = zs.length := by
        have h1 := congrArg List.length hargs; have h2 := congrArg List.length hz; simp only [List.length_map, Array.length_toList, Array.size_map, List.length_cons] at h1 h2; exact Nat.succ.inj (h1.symm.trans h2)
      obtain ⟨h1, h2, u, rfl⟩ := run_best (E := E) (R := R) (P := E.P) (w := R.w) .min k xs zs x v hv hlen (fun i p q hp hq => hm (i + 1) p q (by simpa using hp) (by rw [← Array.getElem?_toList, hz]; simpa using hq))
      refine told_value h hk2 (run_builtin ho hc ?_) (.flat u)
      simp only [builtin]
      refine run_value ?_
      simp only [Builtin.min_, hz, hz0]
      exact h2 rfl
    · cases hv
  · cases hv

theorem told_call (he : EnvOk E) {o : Oper} {c : Call} {K : AV U → Eff U → Option ρ} {r : ρ} (h : SR E.D nt w0 N0 R s a) (ho : o.op = .call c)
    (hk : opK E o s.op (lk s.o) K = some r) : Told E nt w0 N0 R s a o K r := by
  unfold opK at hk
  simp only [ho] at hk
  split at hk
  · rename_i b hc
    exact told_builtin h ho hc hk
  · rename_i g hc
    split at hk
    · rename_i f caps e1
      have hg := h.op g
      rw [e1] at hg
      obtain ⟨ys, hy, hyl, hyv⟩ := hg.fn_inv
      obtain ⟨d, hd, hk2⟩ := kont_some hk
      obtain ⟨hcl, hk3⟩ := cond_none hk2
      obtain ⟨x, hx, hk4⟩ := kont_some hk3
      obtain ⟨y, hfy, hk5⟩ := Option.bind_eq_some_iff.1 hk4
      have hargs : ∀ (i : Nat) (p : AV U) (q : Value), (c.args.toList.map s.op ++ caps)[i]? = some p → (c.args.map a.eval ++ ys)[i]? = some q → VR E.D R p q := by
        intro i p q hp hq
        rw [List.getElem?_append] at hp
        rw [Array.getElem?_append] at hq
        simp only [List.length_map, Array.length_toList] at hp
        simp only [Array.size_map] at hq
        split at hp
        · rename_i hlt
          rw [if_pos hlt] at hq
          exact map_get h i p q hp hq
        · rename_i hge
          rw [if_neg hge] at hq
          exact hyv _ p q hp hq
      have hS := he.fd f d hd _ x y hx hfy R (c.args.map a.eval ++ ys) (fun B hB => h.nlt B hB) (by simp [hyl]) hargs hcl
      refine ⟨d.fin y, [], hk5, fun next Q hnext => ?_⟩
      unfold Oper.wp
      have hrun : (execOp a.eval o).run E.P R.w = .ok (.enter f (c.args.map a.eval ++ ys)) R.w := by
        simp only [execOp, ho, resolve, hc, hy, Deferred.ofValue, Sem.run_bind, Sem.run_pure, Result.andThen_ok, invoke]
        rw [show (#[] : Array Value) ++ Array.map a.eval c.args = Array.map a.eval c.args from by simp]
        exact he.enter f d hd _ _
      rw [hrun]
      refine Calls.mono hS (fun e w' ⟨v, hev, hvr, hbl⟩ => ?_)
      subst hev
      have hle : R.le { R with w := w' } := ⟨fun _ _ e => e, fun _ _ e => e, hbl.size, fun B hB hN => ⟨hbl.block B hB, hN⟩⟩
      exact hnext v { R with w := w' } hle hvr (h.calls hbl hle)
    · cases hk
  · cases hk

/-- Any operation. -/
theorem opK_told (he : EnvOk E) {o : Oper} {K : AV U → Eff U → Option ρ} {r : ρ} (h : SR E.D nt w0 N0 R s a) (hk : opK E o s.op (lk s.o) K = some r) : Told E nt w0 N0 R s a o K r := by
  cases ho : o.op with
  | move x => exact told_move h (.inl ho) (by simpa [opK, ho] using hk)
  | assign x => exact told_move h (.inr ho) (by simpa [opK, ho] using hk)
  | pick c x y => exact told_pick h ho hk
  | alloc t => exact told_alloc he h ho hk
  | box t x => exact told_box he h ho hk
  | build t parts => exact told_build h ho hk
  | load t x => exact told_load he h ho hk
  | store t x y => exact told_store he h ho hk
  | binOp op t x y t' => exact told_binOp h ho hk
  | unOp op t x => exact told_unOp h ho hk
  | convert src dst x => exact told_convert h ho hk
  | fieldAddr t x f => exact told_fieldAddr h ho hk
  | field t x f => exact told_field h ho hk
  | indexAddr t x i => exact told_indexAddr h ho hk
  | index t x i => exact told_index he h ho hk
  | extract x i => exact told_extract h ho hk
  | call c => exact told_call he h ho hk
  | _ => unfold opK at hk; simp only [ho] at hk; cases hk
end
end Go.Ev
