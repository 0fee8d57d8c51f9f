import Derived.Test.YtgfbcclfajcjnaaEvJ
import Derived.Laws.Append
import Derived.Laws.AppendOwn
universe u
namespace Go.Ev
set_option linter.unusedVariables false
set_option linter.unusedSimpArgs false
open Go.RowKit (Below)
variable {U : Univ} {ρ : Type}
theorem fold_set (off : Nat) : ∀ (l : List Value) (k : Nat) (cs : Array Value), off + k + l.length ≤ cs.size →
    ((l.zipIdx k).foldl (fun cs (p : Value × Nat) => cs.setIfInBounds (off + p.2) p.1) cs).size = cs.size ∧
    ∀ i, ((l.zipIdx k).foldl (fun cs (p : Value × Nat) => cs.setIfInBounds (off + p.2) p.1) cs)[i]? = if off + k ≤ i ∧ i < off + k + l.length then l[i - (off + k)]? else cs[i]?
  | [], k, cs, _ => ⟨rfl, fun i => by rw [if_neg (by intro h; have := h.2; simp at this; omega)]; rfl⟩
  | v :: l, k, cs, h => by
    simp only [List.length_cons] at h
    obtain ⟨h1, h2⟩ := fold_set off l (k + 1) (cs.setIfInBounds (off + k) v) (by simp; omega)
    simp only [List.zipIdx_cons, List.foldl_cons]
    refine ⟨by simpa using h1, fun i => ?_⟩
    rw [h2 i]
    by_cases hi : i = off + k
    · subst hi
      rw [if_neg (by omega), if_pos (by simp), Array.getElem?_setIfInBounds]
      simp [show off + k < cs.size by omega]
    · by_cases hin : off + (k + 1) ≤ i ∧ i < off + (k + 1) + l.length
      · rw [if_pos hin, if_pos (by simp; omega), show i - (off + k) = (i - (off + (k + 1))) + 1 by omega, List.getElem?_cons_succ]
      · rw [if_neg hin, if_neg (by simp; omega), Array.getElem?_setIfInBounds, if_neg (fun e => hi e.symm)]
theorem fill_spec {D : Codec U} {R : Rl} (place : Nat → Option (Nat × Nat)) : ∀ (parts : List (Nat × AV U)) (parts' : List (Nat × Value)) (cs cs2 : List (AV U)) (ys : Array Value),
    parts.length = parts'.length → (∀ (i : Nat) (p : Nat × AV U) (p' : Nat × Value), parts[i]? = some p → parts'[i]? = some p' → p.1 = p'.1 ∧ VR D R p.2 p'.2 ∧ p.2.cells.all okCell = true) →
    cs.length = ys.size → (∀ (i : Nat) (x : AV U) (y : Value), cs[i]? = some x → ys[i]? = some y → VR D R x y) → fillA place cs parts = some cs2 →
    ∃ ys2, Instr.fill place ys parts' = some ys2 ∧ cs2.length = ys2.size ∧ ∀ (i : Nat) (x : AV U) (y : Value), cs2[i]? = some x → ys2[i]? = some y → VR D R x y
  | [], [], cs, cs2, ys, _, _, hl, hv, h => by
    simp only [fillA, Option.some.injEq] at h
    subst h
    exact ⟨ys, rfl, hl, hv⟩
  | [], _ :: _, _, _, _, hl, _, _, _, _ => by simp at hl
  | _ :: _, [], _, _, _, hl, _, _, _, _ => by simp at hl
  | (i, v) :: parts, (i', v') :: parts', cs, cs2, ys, hpl, hp, hl, hv, h => by
    obtain ⟨rfl, hvr, hok⟩ := hp 0 _ _ rfl rfl
    obtain ⟨hcl, hcv⟩ := hvr.cells hok
    replace hcl : v.cells.length = v'.cells.size := hcl
    simp only [fillA] at h
    simp only [Instr.fill]
    split at h
    · cases h
    · rename_i off size hpl'
      simp only [hpl']
      obtain ⟨hc, h⟩ := cond_none h
      simp only [Bool.and_eq_true] at hc
      have h1 := Nat.eq_of_beq_eq_true hc.1
      have h2 := Nat.le_of_ble_eq_true hc.2
      rw [if_neg (by simp; omega)]
      have hf := fold_set off v'.cells.toList 0 ys (by simp; omega)
      have harr : v'.cells.zipIdx.foldl (fun cs (x : Value × Nat) => match x with | (c, j) => cs.setIfInBounds (off + j) c) ys = (v'.cells.toList.zipIdx 0).foldl (fun cs (p : Value × Nat) => cs.setIfInBounds (off + p.2) p.1) ys := by
        rw [← Array.foldl_toList, Array.toList_zipIdx]
      rw [harr]
      refine fill_spec place parts parts' _ cs2 _ (by simpa using hpl) (fun i p p' hp1 hp2 => hp (i + 1) p p' (by simpa using hp1) (by simpa using hp2)) ?_ ?_ h
      · rw [over_len (by omega), hf.1, hl]
      · intro k x y hx hy
        rw [over_get (by omega)] at hx
        rw [hf.2 k] at hy
        split at hx
        · rename_i hin
          rw [if_pos (by simp; omega)] at hy
          exact (hcv _ x y hx (by simpa using hy)).1
        · rename_i hin
          rw [if_neg (by simp; omega)] at hy
          exact hv k x y hx hy
section
variable {E : Env U} {nt : Nat} {w0 : Cx} {N0 : Nat → Nat → Prop} {R : Rl} {s : St U} {a : Act}
theorem run_places {P : Program} (w : World) : ∀ (fs : List Field) (ps : List (Nat × Nat)), placesA P fs = some ps →
    (fs.mapM fun f => do pure (f.offset, ← sizeOf f.type) : Sem (List (Nat × Nat))).run P w = .ok ps w
  | [], ps, h => by simp [placesA] at h; subst h; simp
  | f :: fs, ps, h => by
    unfold placesA at h
    rw [List.mapM_cons] at h
    cases hs : szOf P f.type with
    | none => simp [hs] at h
    | some n =>
      cases hr : placesA P fs with
      | none => unfold placesA at hr; simp [hs, hr] at h
      | some r =>
        have hr' := hr
        unfold placesA at hr'
        simp [hs, hr'] at h
        subst h
        have ih := run_places w fs r hr
        rw [List.mapM_cons]
        simp only [Sem.run_bind, run_sizeOf' w hs, Result.andThen_ok, Sem.run_pure]
        rw [ih]
        rfl
theorem told_build {o : Oper} {t : TypeId} {parts : Array (Nat × Operand)} {K : AV U → Eff U → Option ρ} {r : ρ} (h : SR E.D nt w0 N0 R s a) (ho : o.op = .build t parts)
    (hk : opK E o s.op (lk s.o) K = some r) : Told E nt w0 N0 R s a o K r := by
  unfold opK at hk
  simp only [ho] at hk
  obtain ⟨v, hv, hk⟩ := kont_some hk
  unfold buildA at hv
  split at hv
  · cases hv
  · rename_i z hz
    obtain ⟨i, u, hi, hu, hzl, hzr⟩ := rawCells_inv hz
    obtain ⟨hok, hv⟩ := cond_none hv
    have hparts : ∀ (j : Nat) (p : Nat × AV U) (p' : Nat × Value), (parts.toList.map fun p => (p.1, (s.op p.2).drop))[j]? = some p → ((parts.map fun (x : Nat × Operand) => (x.1, a.eval x.2)).toList)[j]? = some p' →
        p.1 = p'.1 ∧ VR E.D R p.2 p'.2 ∧ p.2.cells.all okCell = true := by
      intro j p p' hp hp'
      have hpm := List.all_eq_true.mp hok p (List.mem_of_getElem? hp)
      simp only [List.getElem?_map, Option.map_eq_some_iff] at hp
      obtain ⟨q, hq, rfl⟩ := hp
      simp only [Array.toList_map, List.getElem?_map, Option.map_eq_some_iff] at hp'
      obtain ⟨q', hq', rfl⟩ := hp'
      rw [hq] at hq'
      cases hq'
      exact ⟨rfl, (h.op q.2).drop, hpm⟩
    have hz0 : ∀ (j : Nat) (x : AV U) (y : Value), z[j]? = some x → u.cells[j]? = some y → VR E.D R x y := fun j x y hx hy => hzr _ _ j x y hx hy
    split at hv
    · rename_i fs hud
      split at hv
      · rename_i ps hps
        simp only [Option.map_eq_some_iff] at hv
        obtain ⟨cs2, hf, rfl⟩ := hv
        obtain ⟨ys2, h1, h2, h3⟩ := fill_spec (D := E.D) (R := R) _ _ _ _ cs2 u.cells (by simp) hparts hzl hz0 hf
        refine told_value h hk ?_ (.agg h2 h3)
        simp only [execOp, ho]
        refine run_value ?_
        have hpl := run_places (P := E.P) R.w fs.toList ps hps
        simp only [Instr.build, zeroValue, Sem.run_bind, run_typeInfo' R.w hi, Result.andThen_ok, hu, Sem.run_pure, run_underlying' R.w hud, Array.mapM_eq_mapM_toList, Sem.run_map, hpl]
        simp only [List.getElem?_toArray]
        rw [h1]
        rfl
      · cases hv
    · rename_i len e hud
      split at hv
      · rename_i sz hs
        simp only [Option.map_eq_some_iff] at hv
        obtain ⟨cs2, hf, rfl⟩ := hv
        obtain ⟨ys2, h1, h2, h3⟩ := fill_spec (D := E.D) (R := R) _ _ _ _ cs2 u.cells (by simp) hparts hzl hz0 hf
        refine told_value h hk ?_ (.agg h2 h3)
        simp only [execOp, ho]
        refine run_value ?_
        simp only [Instr.build, zeroValue, Sem.run_bind, run_typeInfo' R.w hi, Result.andThen_ok, hu, Sem.run_pure, run_underlying' R.w hud, run_sizeOf' R.w hs]
        rw [h1]
        rfl
      · cases hv
    · cases hv
theorem run_best {P : Program} {w : World} (op : Builtin) (k : IntKind) : ∀ (xs : List (AV U)) (ys : List Value) (x : Int) (v : AV U), best op k x xs = some v → xs.length = ys.length →
    (∀ (i : Nat) (p : AV U) (q : Value), xs[i]? = some p → ys[i]? = some q → VR E.D R p q) →
    (op = .max → (ys.foldlM Builtin.max2 (.int k x)).run P w = .ok (match v with | .flat u => u | _ => undef) w) ∧
    (op = .min → (ys.foldlM Builtin.min2 (.int k x)).run P w = .ok (match v with | .flat u => u | _ => undef) w) ∧ ∃ u, v = .flat u
  | [], [], x, v, h, _, _ => by
    simp only [best, Option.some.injEq] at h
    subst h
    exact ⟨fun _ => rfl, fun _ => rfl, _, rfl⟩
  | [], _ :: _, _, _, _, hl, _ => by simp at hl
  | _ :: _, [], _, _, _, hl, _ => by simp at hl
  | p :: xs, q :: ys, x, v, h, hl, hv => by
    have hpq := hv 0 p q rfl rfl
    unfold best at h
    split at h
    · rename_i e; cases e
    · rename_i k' y r' e
      cases e
      have hq := hpq.flat_inv
      subst hq
      split at h
      · obtain ⟨h1, h2, h3⟩ := run_best (P := P) (w := w) .max k xs ys _ v h (by simpa using hl) (fun i p q hp hq => hv (i + 1) p q (by simpa using hp) (by simpa using hq))
        exact ⟨fun _ => (by simp only [List.foldlM_cons, Sem.run_bind, Builtin.max2, Sem.run_pure, Result.andThen_ok]; exact h1 rfl), fun e => (by cases e), h3⟩
      · obtain ⟨h1, h2, h3⟩ := run_best (P := P) (w := w) .min k xs ys _ v h (by simpa using hl) (fun i p q hp hq => hv (i + 1) p q (by simpa using hp) (by simpa using hq))
        exact ⟨fun e => (by cases e), fun _ => (by simp only [List.foldlM_cons, Sem.run_bind, Builtin.min2, Sem.run_pure, Result.andThen_ok]; exact h2 rfl), h3⟩
      · cases h
    · cases h
theorem map_get {c : Call} {g : AV U → AV U} (hg : ∀ x y, VR E.D R x y → VR E.D R (g x) y) (h : SR E.D nt w0 N0 R s a) : ∀ (i : Nat) (p : AV U) (q : Value), (c.args.toList.map fun x => g (s.op x))[i]? = some p → (c.args.map a.eval)[i]? = some q → VR E.D R p q := by
  intro i p q hp hq
  simp only [List.getElem?_map, Option.map_eq_some_iff] at hp
  obtain ⟨z, hz, rfl⟩ := hp
  have : c.args[i]? = some z := by simpa using hz
  simp only [Array.getElem?_map, this, Option.map_some, Option.some.injEq] at hq
  subst hq
  exact hg _ _ (h.op z)
theorem run_builtin {w : World} {o : Oper} {c : Call} {b : Builtin} {y : Value} (ho : o.op = .call c) (hc : c.callee = .builtin b)
    (hrun : (builtin b c.argTypes o.type (c.args.map fun | .const _ => true | _ => false) (c.args.map a.eval)).run E.P w = .ok (.value y) w) :
    (execOp a.eval o).run E.P w = .ok (.value y) w := by
  simp only [execOp, ho, resolve, hc, Sem.run_bind, Sem.run_pure, Result.andThen_ok, invoke]
  exact hrun
theorem told_builtin {o : Oper} {c : Call} {b : Builtin} {K : AV U → Eff U → Option ρ} {r : ρ} {g : AV U → AV U} (hg : ∀ x y, VR E.D R x y → VR E.D R (g x) y) (h : SR E.D nt w0 N0 R s a) (ho : o.op = .call c) (hc : c.callee = .builtin b)
    (hk : kont (builtinA E b c.argTypes (c.args.toList.map fun x => g (s.op x))) (fun v => K v []) = some r) : Told E nt w0 N0 R s a o K r := by
  obtain ⟨v, hv, hk2⟩ := kont_some hk
  have hm := map_get (c := c) hg h
  unfold builtinA at hv
  split at hv
  · split at hv
    · rename_i t ht
      split at hv
      · rename_i e cc l hu hargs
        cases hv
        rw [hargs] at hm
        have hsz : c.args.size = 1 := by have := congrArg List.length hargs; simpa using this
        have h0 : (c.args.map a.eval)[0]? = some ((c.args.map a.eval)[0]'(by simp [hsz])) := Array.getElem?_eq_getElem _
        have := hm 0 _ _ rfl h0
        refine told_value h hk2 (run_builtin ho hc ?_) (.flat _)
        simp only [builtin]
        refine run_value ?_
        rcases this.row_inv with ⟨rfl, _, _, hy⟩ | ⟨B, o', cap, f, hy, _⟩
        · simp only [Builtin.len_, ht, h0, hy]
          simp [run_underlying' R.w hu, goInt]
        · simp only [Builtin.len_, ht, h0, hy]
          simp [run_underlying' R.w hu, goInt]
      · rename_i n e x hu hargs
        cases hv
        have hsz : c.args.size = 1 := by have := congrArg List.length hargs; simpa using this
        have h0 : (c.args.map a.eval)[0]? = some ((c.args.map a.eval)[0]'(by simp [hsz])) := Array.getElem?_eq_getElem _
        refine told_value h hk2 (run_builtin ho hc ?_) (.flat _)
        simp only [builtin]
        refine run_value ?_
        simp only [Builtin.len_, ht, h0]
        simp [run_underlying' R.w hu, goInt]
      · cases hv
    · cases hv
  · split at hv
    · rename_i k x xs hargs
      obtain ⟨z, zs, hz⟩ : ∃ z zs, (c.args.map a.eval).toList = z :: zs := by
        cases hl : (c.args.map a.eval).toList with
        | nil => have h1 := congrArg List.length hargs; have h2 := congrArg List.length hl; simp only [List.length_map, Array.length_toList, Array.size_map, List.length_cons, List.length_nil] at h1 h2; omega
        | cons z zs => exact ⟨z, zs, rfl⟩
      rw [hargs] at hm
      have hz0 : z = .int k x := (hm 0 _ _ rfl (by rw [← Array.getElem?_toList, hz]; rfl)).flat_inv
      have hlen : xs.length = zs.length := by
        have h1 := congrArg List.length hargs; have h2 := congrArg List.length hz; simp only [List.length_map, Array.length_toList, Array.size_map, List.length_cons] at h1 h2; exact Nat.succ.inj (h1.symm.trans h2)
      obtain ⟨h1, h2, u, rfl⟩ := run_best (E := E) (R := R) (P := E.P) (w := R.w) .max k xs zs x v hv hlen (fun i p q hp hq => hm (i + 1) p q (by simpa using hp) (by rw [← Array.getElem?_toList, hz]; simpa using hq))
      refine told_value h hk2 (run_builtin ho hc ?_) (.flat u)
      simp only [builtin]
      refine run_value ?_
      simp only [Builtin.max_, hz, hz0]
      exact h1 rfl
    · cases hv
  · split at hv
    · rename_i k x xs hargs
      obtain ⟨z, zs, hz⟩ : ∃ z zs, (c.args.map a.eval).toList = z :: zs := by
        cases hl : (c.args.map a.eval).toList with
        | nil => have h1 := congrArg List.length hargs; have h2 := congrArg List.length hl; simp only [List.length_map, Array.length_toList, Array.size_map, List.length_cons, List.length_nil] at h1 h2; omega
        | cons z zs => exact ⟨z, zs, rfl⟩
      rw [hargs] at hm
      have hz0 : z = .int k x := (hm 0 _ _ rfl (by rw [← Array.getElem?_toList, hz]; rfl)).flat_inv
      have hlen : xs.length = zs.length := by
        have h1 := congrArg List.length hargs; have h2 := congrArg List.length hz; simp only [List.length_map, Array.length_toList, Array.size_map, List.length_cons] at h1 h2; exact Nat.succ.inj (h1.symm.trans h2)
      obtain ⟨h1, h2, u, rfl⟩ := run_best (E := E) (R := R) (P := E.P) (w := R.w) .min k xs zs x v hv hlen (fun i p q hp hq => hm (i + 1) p q (by simpa using hp) (by rw [← Array.getElem?_toList, hz]; simpa using hq))
      refine told_value h hk2 (run_builtin ho hc ?_) (.flat u)
      simp only [builtin]
      refine run_value ?_
      simp only [Builtin.min_, hz, hz0]
      exact h2 rfl
    · cases hv
  · cases hv
def RowAt (D : Codec U) (R : Rl) (B o : Nat) (c : U.C) (l : List (U.El c)) : Prop :=
  ∀ (i : Nat) (x : U.El c), l[i]? = some x → ∀ (j : Nat) (v : AV U), (D.enc c x)[j]? = some v →
    ∃ u, R.w.cell? ⟨B, o + (i * D.size c + j), none⟩ = some u ∧ ¬ R.N B (o + (i * D.size c + j)) ∧ VR D R v u
theorem RowAt.vr {D : Codec U} {R : Rl} {B o cap : Nat} {c : U.C} {l : List (U.El c)} (h : RowAt D R B o c l) (hB : B < R.w.heap.size) (hl : l.length ≤ cap) : VR D R (.row c l) (.slice (some ⟨B, o, none⟩) l.length cap) := by
  refine .row (fun i j => (R.w.cell? ⟨B, o + (i * D.size c + j), none⟩).getD undef) hB hl (fun i x hx j v hv => ?_) (fun i x hx j v hv => ?_)
  · obtain ⟨u, h1, h2, _⟩ := h i x hx j v hv
    exact ⟨by rw [h1]; rfl, h2⟩
  · obtain ⟨u, h1, _, h3⟩ := h i x hx j v hv
    show VR D R v ((R.w.cell? ⟨B, o + (i * D.size c + j), none⟩).getD undef)
    rw [h1]
    exact h3
theorem elemOf_inv {E : Env U} {t e : TypeId} {c : U.C} {sz by_ : Nat} (h : elemOf E t = some (e, c, sz, by_)) :
    ∃ i v, E.P.underlying t = some (.slice e) ∧ E.P.info? e = some i ∧ i.zero = some v ∧ i.size = sz ∧ sz = E.D.size c ∧ 0 < sz ∧ i.bytes = by_ ∧ 0 < by_ ∧ v.cells.size = sz := by
  unfold elemOf at h
  split at h
  · rename_i e' c' hu hc
    split at h
    · rename_i i hi
      split at h
      · rename_i v hv
        obtain ⟨hh, h⟩ := cond_none h
        cases h
        simp only [Bool.and_eq_true] at hh
        have h1 := Nat.eq_of_beq_eq_true hh.1.1.1
        have h2 := Nat.le_of_ble_eq_true hh.1.1.2
        have h3 := Nat.le_of_ble_eq_true hh.1.2
        have h4 := Nat.eq_of_beq_eq_true hh.2
        exact ⟨i, v, hu, hi, hv, rfl, h1, h2, rfl, h3, h4⟩
      · cases h
    · cases h
  · cases h
theorem told_buildSlice (he : EnvOk E) {o : Oper} {t : TypeId} {n : Nat} {parts : Array (Nat × Operand)} {K : AV U → Eff U → Option ρ} {r : ρ} (h : SR E.D nt w0 N0 R s a) (ho : o.op = .buildSlice t n parts)
    (hk : opK E o s.op (lk s.o) K = some r) : Told E nt w0 N0 R s a o K r := by
  unfold opK at hk
  simp only [ho] at hk
  split at hk
  · rename_i d hd
    obtain ⟨⟨c, l⟩, hv, hk2⟩ := kont_some hk
    clear hk
    split at hk2
    · rename_i hf
      unfold buildSliceA at hv
      split at hv
      · cases hv
      · rename_i e c' sz by_ hel
        obtain ⟨i, zv, hu, hi, hz, hsz, hszc, hpos, _, _, hzs⟩ := elemOf_inv hel
        split at hv
        · cases hv
        · rename_i z hzz
          obtain ⟨i', u, hi', hu', hzl, hzr⟩ := zeroCells_inv hzz
          rw [hi] at hi'
          cases hi'
          rw [hz] at hu'
          cases hu'
          obtain ⟨hok, hv⟩ := cond_none hv
          rw [Bool.and_eq_true] at hok
          obtain ⟨hok, hsmall⟩ := hok
          replace hsmall := Nat.le_of_ble_eq_true hsmall
          split at hv
          · rename_i cs2 hfill
            split at hv
            · rename_i l' hl'
              cases hv
              have hparts : ∀ (j : Nat) (p : Nat × AV U) (p' : Nat × Value), (parts.toList.map fun p => (p.1, nilE E t (s.op p.2).drop))[j]? = some p → ((parts.map fun (x : Nat × Operand) => (x.1, a.eval x.2)).toList)[j]? = some p' →
                  p.1 = p'.1 ∧ VR E.D R p.2 p'.2 ∧ p.2.cells.all okCell = true := by
                intro j p p' hp hp'
                have hpm := List.all_eq_true.mp hok p (List.mem_of_getElem? hp)
                simp only [List.getElem?_map, Option.map_eq_some_iff] at hp
                obtain ⟨q, hq, rfl⟩ := hp
                simp only [Array.toList_map, List.getElem?_map, Option.map_eq_some_iff] at hp'
                obtain ⟨q', hq', rfl⟩ := hp'
                rw [hq] at hq'
                cases hq'
                exact ⟨rfl, (h.op q.2).drop.nilE, hpm⟩
              let zs : Array Value := (Array.range (n * sz)).map fun k => zv.cells[k % zv.cells.size]!
              have hzlen : (zerosA z (n * sz)).length = zs.size := by simp [zerosA, zs]
              have hz0 : ∀ (j : Nat) (x : AV U) (y : Value), (zerosA z (n * sz))[j]? = some x → zs[j]? = some y → VR E.D R x y := by
                intro j x y hx hy
                have hj : j < n * sz := by have := (List.getElem?_eq_some_iff.1 hx).1; simpa [zerosA] using this
                have hm : j % zv.cells.size < zv.cells.size := Nat.mod_lt _ (by omega)
                simp only [zerosA, List.getElem?_map, List.getElem?_range hj, Option.map_some, Option.some.injEq, hzl] at hx
                have hzj : zs[j]? = some (zv.cells[j % zv.cells.size]'hm) := by
                  simp [zs, Array.getElem?_map, Array.getElem?_range, hj, getElem!_pos, hm]
                rw [hzj] at hy
                cases hy
                subst hx
                have hzg : z[j % zv.cells.size]? = some (z[j % zv.cells.size]'(by omega)) := List.getElem?_eq_getElem (by omega)
                rw [hzg]
                exact hzr _ _ _ _ _ hzg (Array.getElem?_eq_getElem hm)
              obtain ⟨ys2, h1, h2, h3⟩ := fill_spec (D := E.D) (R := R) _ _ _ _ cs2 zs (by simp) hparts hzlen hz0 hfill
              obtain ⟨d1, d2, d3⟩ := decs_spec he.law n cs2 l hl'
              have hrun : (execOp a.eval o).run E.P R.w = .ok (.value (.slice (some ⟨R.w.heap.size, 0, none⟩) n n)) (R.w.alloc (.cells ys2 e)) := by
                simp only [execOp, ho]
                refine run_value ?_
                have hns : ¬ (n * i.size > 2 ^ 24) := by rw [hsz]; omega
                have h1' : Instr.fill (fun i_1 => some (i_1 * i.size, i.size)) ((Array.range (n * i.size)).map fun k => zv.cells[k % zv.cells.size]!) ((parts.map fun (x : Nat × Operand) => (x.1, a.eval x.2)).toList) = some ys2 := by rw [hsz]; exact h1
                by_cases h0 : n * i.size = 0
                · have hemp : ∀ f : Nat → Value, (Array.range (n * i.size)).map f = #[] := fun f => by rw [h0]; simp
                  rw [hemp] at h1'
                  have hemp0 : ∀ f : Nat → Value, (Array.range 0).map f = #[] := fun f => by simp
                  have h1'' : Instr.fill (fun i_1 => some (i_1 * i.size, i.size)) #[] (List.map (fun x => (x.fst, a.eval x.snd)) parts.toList) = some ys2 := by simpa using h1'
                  simp only [Instr.buildSlice, Sem.run_bind, run_underlying' R.w hu, Result.andThen_ok, sizeOf, run_typeInfo' R.w hi, Sem.run_pure, hns, h0, if_false, if_true, hemp0, Array.toList_map, h1'']
                  simp [newRow, Go.newObj, Sem.run]
                · simp [Instr.buildSlice, run_underlying' R.w hu, sizeOf, zeroValue, run_typeInfo' R.w hi, hns, h0, hz] at h1' ⊢
                  simp [h1', newRow, Go.newObj, Sem.run]
              cases hvd : E.vecs d with
              | true =>
                rw [hvd, cond_true] at hk2
                refine ⟨_, _, hk2, fun next Q hnext => ?_⟩
                unfold Oper.wp
                rw [hrun]
                have hn := h.none d hf
                have hcap : n * E.D.size c ≤ ys2.size := by omega
                let R' := R.fresh (.cells ys2 e) d (E.D.size c) (fun _ => True) (some (some ⟨R.w.heap.size, 0, none⟩, n, n))
                have hle : R.le R' := Rl.fresh_le hn.1 hn.2
                refine hnext _ R' hle (.vs (by simp [R', Rl.fresh])) (h.fresh hf ?_ (fun _ _ => True.intro))
                refine ⟨some ⟨R.w.heap.size, 0, none⟩, n, by simp [Rl.fresh, d1], .inr ⟨R.w.heap.size, ys2, e, rfl, by simp [Rl.fresh], ?_, Nat.le_of_eq d1, hcap, fun i x hx j v y hv' hy => ?_⟩⟩
                · show (R.w.heap.push _)[R.w.heap.size]? = _
                  simp
                · exact (h3 _ v y (d3 i x hx j v hv') hy).mono hle
              | false =>
                rw [hvd, cond_false] at hk2
                refine ⟨_, _, hk2, fun next Q hnext => ?_⟩
                unfold Oper.wp
                rw [hrun]
                have hn := h.none d hf
                have hcap : n * E.D.size c ≤ ys2.size := by omega
                let R' := R.fresh (.cells ys2 e) d (E.D.size c) (fun i => n * E.D.size c ≤ i) (some (some ⟨R.w.heap.size, 0, none⟩, n, n))
                have hle : R.le R' := Rl.fresh_le hn.1 hn.2
                have hcell : ∀ k (y : Value), ys2[k]? = some y → R'.w.cell? ⟨R.w.heap.size, k, none⟩ = some y := by
                  intro k y hy
                  have : R'.w.heap[R.w.heap.size]? = some (.cells ys2 e (0, 0)) := by
                    show (R.w.heap.push _)[R.w.heap.size]? = _
                    simp
                  simp [World.cell?, this, hy]
                have hrow : RowAt E.D R' R.w.heap.size 0 c l := by
                  intro i x hx j v hv'
                  have hc2 := d3 i x hx j v hv'
                  have hlt : i * E.D.size c + j < cs2.length := (List.getElem?_eq_some_iff.1 hc2).1
                  have hy : ys2[i * E.D.size c + j]? = some (ys2[i * E.D.size c + j]'(by omega)) := Array.getElem?_eq_getElem (by omega)
                  refine ⟨_, by rw [Nat.zero_add]; exact hcell _ _ hy, ?_, (h3 _ v _ hc2 hy).mono hle⟩
                  rw [Nat.zero_add]
                  rintro (hN | ⟨_, hN⟩)
                  · have := h.nlt _ _ hN; omega
                  · have hN : n * E.D.size c ≤ i * E.D.size c + j := hN
                    omega
                have hrv := hrow.vr (cap := n) (by show R.w.heap.size < (R.w.heap.push _).size; simp) (by omega)
                rw [d1] at hrv
                refine hnext _ R' hle (.tip (by simp [R', Rl.fresh]) hrv) (h.fresh hf ?_ (fun hw => hw.elim))
                refine ⟨some ⟨R.w.heap.size, 0, none⟩, n, n, by simp [Rl.fresh], .inr ⟨R.w.heap.size, ys2, e, rfl, by simp [Rl.fresh], ?_, Nat.le_refl _, hcap, fun i hi => .inr ⟨rfl, hi⟩⟩⟩
                show (R.w.heap.push _)[R.w.heap.size]? = _
                simp
            · cases hv
          · cases hv
    · cases hk2
  · cases hk
theorem RowAt.of {D : Codec U} {R : Rl} {c : U.C} {l : List (U.El c)} {B o cap : Nat} {f : Nat → Nat → Value}
    (hc : ∀ (i : Nat) (x : U.El c), l[i]? = some x → ∀ (j : Nat) (v : AV U), (D.enc c x)[j]? = some v → R.w.cell? ⟨B, o + (i * D.size c + j), none⟩ = some (f i j) ∧ ¬ R.N B (o + (i * D.size c + j)))
    (hv : ∀ (i : Nat) (x : U.El c), l[i]? = some x → ∀ (j : Nat) (v : AV U), (D.enc c x)[j]? = some v → VR D R v (f i j)) : RowAt D R B o c l :=
  fun i x hx j v hj => ⟨_, (hc i x hx j v hj).1, (hc i x hx j v hj).2, hv i x hx j v hj⟩
theorem RowAt.sub {D : Codec U} {R : Rl} {c : U.C} {l : List (U.El c)} {B o : Nat} (h : RowAt D R B o c l) (i j : Nat) : RowAt D R B (o + i * D.size c) c ((l.take j).drop i) := by
  intro k x hx m v hv
  rw [List.getElem?_drop] at hx
  have hx' : l[i + k]? = some x := by
    by_cases hlt : i + k < j
    · rwa [List.getElem?_take_of_lt hlt] at hx
    · rw [List.getElem?_eq_none (by simp; omega)] at hx; cases hx
  have := h (i + k) x hx' m v hv
  rw [show o + i * D.size c + (k * D.size c + m) = o + ((i + k) * D.size c + m) by rw [Nat.add_mul]; omega]
  exact this
theorem VR.sub {D : Codec U} {R : Rl} {c : U.C} {l : List (U.El c)} {b : Option Addr} {n cap : Nat} (h : VR D R (.row c l) (.slice b n cap)) {i j : Nat} (hij : i ≤ j) (hj : j ≤ l.length) :
    VR D R (.row c ((l.take j).drop i)) (.slice (if cap = i then b else b.map (·.add (i * D.size c))) (j - i) (cap - i)) := by
  by_cases he : j = i
  · subst he
    have : (l.take j).drop j = [] := by apply List.drop_eq_nil_of_le; simp; omega
    rw [this, Nat.sub_self]
    exact .rownil
  · rcases h.row_inv with ⟨rfl, _⟩ | ⟨B, o, cap', f, hy, hB, hl, hc, hv⟩
    · simp at hj; omega
    · cases hy
      have hs := ((RowAt.of hc hv (cap := cap)).sub i j).vr (cap := cap - i) hB (by simp; omega)
      have hlen : ((l.take j).drop i).length = j - i := by simp; omega
      rw [hlen] at hs
      rw [if_neg (by omega)]
      have hadd : (⟨B, o, none⟩ : Addr).add (i * D.size c) = ⟨B, o + i * D.size c, none⟩ := by
        unfold Addr.add
        split
        · rename_i h0; rw [h0]; rfl
        · rfl
      simp only [Option.map_some, hadd]
      exact hs
theorem VR.len {D : Codec U} {R : Rl} {c : U.C} {l : List (U.El c)} {y : Value} (h : VR D R (.row c l) y) : ∃ b cap, y = .slice b l.length cap ∧ l.length ≤ cap ∨ (l = [] ∧ y = .slice b 0 cap) := by
  rcases h.row_inv with ⟨rfl, b, cap, rfl⟩ | ⟨B, o, cap, f, rfl, hB, hl, hc, hv⟩
  · exact ⟨b, cap, .inr ⟨rfl, rfl⟩⟩
  · exact ⟨_, cap, .inl ⟨rfl, hl⟩⟩
theorem inS_spec {lo hi : Int} {n : Nat} (h : inS lo hi n = true) : 0 ≤ lo ∧ lo ≤ hi ∧ hi ≤ n := by
  unfold inS at h
  simp only [Bool.and_eq_true, decide_eq_true_eq] at h
  exact ⟨h.1.1, h.1.2, h.2⟩
theorem run_sliceBounds {P : Program} {w : World} {n cap : Nat} {lo hi : Option Value} {i j : Nat} (hlo : (lo = none ∧ i = 0) ∨ ∃ k, lo = some (.int k (i : Int))) (hhi : (hi = none ∧ j = n) ∨ ∃ k, hi = some (.int k (j : Int)))
    (hij : i ≤ j) (hjc : j ≤ cap) : (Instr.sliceBounds true n cap lo hi none).run P w = .ok (i, j, cap) w := by
  have hi' : ((i : Int) ≤ (j : Int)) := by omega
  have hj' : ((j : Int) ≤ (cap : Int)) := by omega
  rcases hlo with ⟨rfl, rfl⟩ | ⟨k, rfl⟩ <;> rcases hhi with ⟨rfl, rfl⟩ | ⟨k', rfl⟩ <;> simp [Instr.sliceBounds, Instr.sliceBound, asIntOf, hij, hjc] <;> (intro hh; omega)
theorem SR.drew {D : Codec U} {nt : Nat} {w0 : Cx} {N0 : Nat → Nat → Prop} {R : Rl} {s : St U} {a : Act} (h : SR D nt w0 N0 R s a) :
    R.le { R with w := { R.w with drawn := R.w.drawn + 1 } } ∧ SR D nt w0 N0 { R with w := { R.w with drawn := R.w.drawn + 1 } } s a := by
  have hb : Below R.w.heap.size R.w { R.w with drawn := R.w.drawn + 1 } := ⟨rfl, rfl, rfl, Nat.le_refl _, fun _ _ => rfl⟩
  have hle : R.le { R with w := { R.w with drawn := R.w.drawn + 1 } } := ⟨fun _ _ e => e, fun _ _ e => e, fun _ _ _ e => e, Nat.le_refl _, fun _ _ _ hN => ⟨rfl, hN⟩⟩
  exact ⟨hle, h.calls hb hle⟩
theorem SR.kill {D : Codec U} {nt : Nat} {w0 : Cx} {N0 : Nat → Nat → Prop} {R : Rl} {s : St U} {a : Act} (h : SR D nt w0 N0 R s a) {id : Nat} {o0 : Obj U} (hid : lk s.o id = some o0) :
    SR D nt w0 N0 R (s.setO id .dead) a := by
  refine { objs := fun n o ho => ?_, none := fun n hn => ?_, own := fun n o B es ho ha hb => ?_, inj := fun n m o o' B es es' h1 h2 a1 a2 b1 b2 => ?_, keep := h.keep, le0 := h.le0, nn := h.nn, nlt := h.nlt, ri := h.ri.of (fun k hk => by rw [lk_setO] at hk; split at hk; cases hk; exact hk) rfl (Nat.le_refl _) (fun n B e hb => .inl ⟨n, e, hb⟩), size := h.size, defers := h.defers, ntle := h.ntle, tm := h.tm }
  · rw [lk_setO] at ho
    split at ho
    · cases ho; exact True.intro
    · exact h.objs n o ho
  · rw [lk_setO] at hn
    split at hn
    · cases hn
    · exact h.none n hn
  · rw [lk_setO] at ho
    split at ho
    · cases ho; exact ha.elim
    · exact h.own n o B es ho ha hb
  · rw [lk_setO] at h1 h2
    split at h1
    · cases h1; exact a1.elim
    · split at h2
      · cases h2; exact a2.elim
      · exact h.inj n m o o' B es es' h1 h2 a1 a2 b1 b2
theorem SR.nilObj {D : Codec U} {nt : Nat} {w0 : Cx} {N0 : Nat → Nat → Prop} {R : Rl} {s : St U} {a : Act} (h : SR D nt w0 N0 R s a) {d : Nat} {ob : Obj U} {b0 : Option Addr} (hf : lk s.o d = none) (hor : OR D { R with hdr := fun k => if k = d then some (b0, 0, 0) else R.hdr k } d ob) :
    SR D nt w0 N0 { R with hdr := fun k => if k = d then some (b0, 0, 0) else R.hdr k } (s.setO d ob) a := by
  have hdn := h.none d hf
  have hle : R.le { R with hdr := fun k => if k = d then some (b0, 0, 0) else R.hdr k } := ⟨fun _ _ e => e, fun k p hp => by
    show (if k = d then _ else R.hdr k) = some p
    rw [if_neg (fun e => by subst e; rw [hdn.2] at hp; cases hp)]; exact hp, fun _ _ _ e => e, Nat.le_refl _, fun _ _ _ hN => ⟨rfl, hN⟩⟩
  refine { objs := fun n o ho => ?_, none := fun n hn => ?_, own := fun n o B es ho ha hb => ?_, inj := fun n m o o' B es es' h1 h2 a1 a2 b1 b2 => ?_, keep := h.keep, le0 := h.le0, nn := h.nn, nlt := h.nlt, ri := h.ri.of (fun k hk => by rw [lk_setO] at hk; split at hk; cases hk; exact hk) rfl (Nat.le_refl _) (fun n B e hb => .inl ⟨n, e, hb⟩), size := h.size, defers := h.defers, ntle := h.ntle, tm := fun n => (h.tm n).mono hle }
  · rw [lk_setO] at ho
    split at ho
    · rename_i e; subst e; cases ho; exact hor
    · by_cases ha : o.alive
      · exact (h.objs n o ho).mono hle (fun B e _ => ⟨rfl, fun _ hi => hi⟩) (fun h => h) ⟨rfl, fun _ _ => ⟨rfl, fun _ hi => hi⟩⟩
      · cases o <;> first | exact True.intro | exact absurd True.intro ha
  · rw [lk_setO] at hn
    split at hn
    · cases hn
    · rename_i e
      obtain ⟨h1, h2⟩ := h.none n hn
      exact ⟨h1, by show (if n = d then _ else R.hdr n) = none; rw [if_neg (fun x => e x.symm)]; exact h2⟩
  · rw [lk_setO] at ho
    split at ho
    · rename_i e; subst e
      have hb : R.blk d = some (B, es) := hb
      rw [hdn.1] at hb; cases hb
    · exact h.own n o B es ho ha hb
  · have b1 : R.blk n = some (B, es) := b1
    have b2 : R.blk m = some (B, es') := b2
    rw [lk_setO] at h1 h2
    split at h1
    · rename_i e; subst e; rw [hdn.1] at b1; cases b1
    · split at h2
      · rename_i e; subst e; rw [hdn.1] at b2; cases b2
      · exact h.inj n m o o' B es es' h1 h2 a1 a2 b1 b2
theorem SR.nilTip {D : Codec U} {nt : Nat} {w0 : Cx} {N0 : Nat → Nat → Prop} {R : Rl} {s : St U} {a : Act} (h : SR D nt w0 N0 R s a) {d sz : Nat} {b0 : Option Addr} (hf : lk s.o d = none) :
    SR D nt w0 N0 { R with hdr := fun k => if k = d then some (b0, 0, 0) else R.hdr k } (s.setO d (.tip sz)) a :=
  h.nilObj hf ⟨b0, 0, 0, by simp, .inl ⟨rfl, rfl⟩⟩
theorem SR.nilVec {D : Codec U} {nt : Nat} {w0 : Cx} {N0 : Nat → Nat → Prop} {R : Rl} {s : St U} {a : Act} (h : SR D nt w0 N0 R s a) {d : Nat} {c : U.C} {b0 : Option Addr} (hf : lk s.o d = none) :
    SR D nt w0 N0 { R with hdr := fun k => if k = d then some (b0, 0, 0) else R.hdr k } (s.setO d (.vec c [])) a :=
  h.nilObj hf ⟨b0, 0, by simp, .inl ⟨rfl, rfl⟩⟩
theorem SR.grow {D : Codec U} {nt : Nat} {w0 : Cx} {N0 : Nat → Nat → Prop} {R : Rl} {s : St U} {a : Act} (h : SR D nt w0 N0 R s a) {id d sz B n m cap : Nat} {arr arr' : Array Value} {el : TypeId} {w' : World}
    (hid : lk s.o id = some (.tip sz)) (hf : lk s.o d = none) (hb : R.blk id = some (B, sz)) (hw : w'.heap[B]? = some (.cells arr' el (0, 0))) (hold : R.w.heap[B]? = some (.cells arr el (0, 0)))
    (hsa : arr'.size = arr.size) (hcap : cap * sz ≤ arr.size) (hnm : n + m ≤ cap) (hbar : ∀ i, n * sz ≤ i → R.N B i)
    (hput : ∀ k, ¬ (n * sz ≤ k ∧ k < (n + m) * sz) → arr'[k]? = arr[k]?)
    (hsz : w'.heap.size = R.w.heap.size) (hk : ∀ k, k ≠ B → w'.heap[k]? = R.w.heap[k]?) (hos : w'.os = R.w.os) (htape : w'.tape = R.w.tape) (hout : w'.output = R.w.output) :
    ∃ R' : Rl, R'.w = w' ∧ R.le R' ∧ R'.hdr d = some (some ⟨B, 0, none⟩, n + m, cap) ∧ (∀ i, R'.N B i → (n + m) * sz ≤ i) ∧ SR D nt w0 N0 R' ((s.setO id .dead).setO d (.tip sz)) a := by
  have hdn := h.none d hf
  obtain ⟨-, hlo, hhi⟩ := h.own id _ B sz hid True.intro hb
  have hne : id ≠ d := fun e => by rw [e, hf] at hid; cases hid
  let R' : Rl := { w := w', N := fun b i => R.N b i ∧ ¬ (b = B ∧ i < (n + m) * sz), blk := fun k => if k = d then some (B, sz) else R.blk k, hdr := fun k => if k = d then some (some ⟨B, 0, none⟩, n + m, cap) else R.hdr k, ar := R.ar }
  have hle : R.le R' := by
    refine ⟨fun k p hp => ?_, fun k p hp => ?_, fun _ _ _ e => e, by simp [R', hsz], fun b i hb' hN => ⟨?_, fun hN' => hN hN'.1⟩⟩
    · show (if k = d then _ else R.blk k) = some p
      rw [if_neg (fun e => by subst e; rw [hdn.1] at hp; cases hp)]; exact hp
    · show (if k = d then _ else R.hdr k) = some p
      rw [if_neg (fun e => by subst e; rw [hdn.2] at hp; cases hp)]; exact hp
    · by_cases hbB : b = B
      · subst hbB
        have hi : ¬ (n * sz ≤ i ∧ i < (n + m) * sz) := fun hh => hN (hbar i hh.1)
        show obs w' _ _ = obs R.w _ _
        simp only [obs, World.cell?, hw, hold]
        simp [hput i hi]
      · exact obs_block (hk b hbB)
  refine ⟨R', rfl, hle, by simp [R'], fun i hi => by have := hi.2; simp at this; exact this, ?_⟩
  have look : ∀ k o, lk ((s.setO id .dead).setO d (.tip sz)).o k = some o → o.alive → (k = d ∧ o = .tip sz) ∨ (k ≠ d ∧ k ≠ id ∧ lk s.o k = some o) := by
    intro k o ho ha
    rw [lk_setO] at ho
    split at ho
    · rename_i e; cases ho; exact .inl ⟨e.symm, rfl⟩
    · rename_i e
      rw [lk_setO] at ho
      split at ho
      · cases ho; exact ha.elim
      · rename_i e'; exact .inr ⟨fun x => e x.symm, fun x => e' x.symm, ho⟩
  have hmul : (n + m) * sz ≤ cap * sz := Nat.mul_le_mul_right _ hnm
  refine { objs := fun k o ho => ?_, none := fun k hk' => ?_, own := fun k o b es ho ha hb' => ?_, inj := fun k k' o o' b es es' h1 h2 a1 a2 b1 b2 => ?_, keep := ?_, le0 := h.toSO.le0' hle, nn := fun b i hlt hg hN => ?_, nlt := fun b i hN => ?_, ri := h.ri.of (fun k hk => by simp only [lk_setO] at hk; split at hk; cases hk; split at hk; cases hk; exact hk) rfl (by simp [R', hsz]) (fun k b e hb' => by
      have hb'' : (if k = d then some (B, sz) else R.blk k) = some (b, e) := hb'
      split at hb''
      · cases hb''; exact .inl ⟨id, sz, hb⟩
      · exact .inl ⟨k, e, hb''⟩), size := h.size, defers := h.defers, ntle := h.ntle, tm := fun k => (h.tm k).mono hle }
  · by_cases ha : o.alive
    · rcases look k o ho ha with ⟨rfl, rfl⟩ | ⟨h1, h2, h3⟩
      · refine ⟨some ⟨B, 0, none⟩, n + m, cap, by simp [R'], .inr ⟨B, arr', el, rfl, by simp [R'], hw, hnm, by omega, fun i hi => ⟨hbar i ?_, fun hh => by omega⟩⟩⟩
        rw [Nat.add_mul] at hi; omega
      · refine (h.objs k o h3).mono hle (fun b e hb' => ?_) (fun hn => by show (if k = d then _ else R.blk k) = none; rw [if_neg h1]; exact hn) ⟨rfl, fun b hm => ⟨hk b (fun e => h.ri.sep k b id _ hm (e ▸ hb)), fun i hi => ⟨hi, fun hh => h.ri.sep k b id _ hm (hh.1 ▸ hb)⟩⟩⟩
        have hbB : b ≠ B := fun e' => by subst e'; exact h2 (h.inj k id o _ b e sz h3 hid ha True.intro hb' hb)
        exact ⟨hk b hbB, fun i hi => ⟨hi, fun hh => hbB hh.1⟩⟩
    · cases o <;> first | exact True.intro | exact absurd True.intro ha
  · rw [lk_setO] at hk'
    split at hk'
    · cases hk'
    · rename_i e
      rw [lk_setO] at hk'
      split at hk'
      · cases hk'
      · obtain ⟨h1, h2⟩ := h.none k hk'
        exact ⟨by show (if k = d then _ else R.blk k) = none; rw [if_neg (fun x => e x.symm)]; exact h1, by show (if k = d then _ else R.hdr k) = none; rw [if_neg (fun x => e x.symm)]; exact h2⟩
  · show (o.whole → ∀ i, R'.N b i) ∧ (w0.w.heap.size ≤ b ∨ w0.G b) ∧ b < w'.heap.size
    rw [hsz]
    have hb'' : (if k = d then some (B, sz) else R.blk k) = some (b, es) := hb'
    rcases look k o ho ha with ⟨rfl, rfl⟩ | ⟨h1, h2, h3⟩
    · rw [if_pos rfl] at hb''
      cases hb''
      exact ⟨fun hw => hw.elim, hlo, hhi⟩
    · rw [if_neg h1] at hb''
      obtain ⟨q1, q2, q3⟩ := h.own k o b es h3 ha hb''
      have hbB : b ≠ B := fun e' => by subst e'; exact h2 (h.inj k id o _ b es sz h3 hid ha True.intro hb'' hb)
      exact ⟨fun hw i => ⟨q1 hw i, fun hh => hbB hh.1⟩, q2, q3⟩
  · have c1 : (if k = d then some (B, sz) else R.blk k) = some (b, es) := b1
    have c2 : (if k' = d then some (B, sz) else R.blk k') = some (b, es') := b2
    rcases look k o h1 a1 with ⟨rfl, rfl⟩ | ⟨p1, p2, p3⟩ <;> rcases look k' o' h2 a2 with ⟨rfl, rfl⟩ | ⟨q1, q2, q3⟩
    · rfl
    · rw [if_pos rfl] at c1
      rw [if_neg q1] at c2
      cases c1
      exact absurd (h.inj k' id o' _ B es' sz q3 hid a2 True.intro c2 hb) q2
    · rw [if_pos rfl] at c2
      rw [if_neg p1] at c1
      cases c2
      exact absurd (h.inj k id o _ B es sz p3 hid a1 True.intro c1 hb) p2
    · rw [if_neg p1] at c1
      rw [if_neg q1] at c2
      exact h.inj k k' o o' b es es' p3 q3 a1 a2 c1 c2
  · exact h.keep.trans ⟨hos, htape, hout, by simp [hsz, R'], fun k hk' hg => hk k (fun e => by subst e; rcases hlo with hlo | hlo; omega; exact hg hlo)⟩
  · exact ⟨h.nn b i hlt hg hN, fun hh => by obtain ⟨e, _⟩ := hh; subst e; rcases hlo with hlo | hlo; omega; exact hg hlo⟩
  · have := h.nlt b i hN.1
    show b < w'.heap.size
    omega
theorem SR.growVec {D : Codec U} {nt : Nat} {w0 : Cx} {N0 : Nat → Nat → Prop} {R : Rl} {s : St U} {a : Act} (h : SR D nt w0 N0 R s a) {id d B n cap : Nat} {c : U.C} {l0 l : List (U.El c)} {arr' : Array Value} {el : TypeId} {w' : World}
    (hid : lk s.o id = some (.vec c l0)) (hf : lk s.o d = none) (hb : R.blk id = some (B, D.size c)) (hw : w'.heap[B]? = some (.cells arr' el (0, 0)))
    (hcap : cap * D.size c ≤ arr'.size) (hn : l.length = n) (hnc : n ≤ cap)
    (hsz : w'.heap.size = R.w.heap.size) (hk : ∀ k, k ≠ B → w'.heap[k]? = R.w.heap[k]?) (hos : w'.os = R.w.os) (htape : w'.tape = R.w.tape) (hout : w'.output = R.w.output)
    (hcv : ∀ (R' : Rl), R.le R' → ∀ (i : Nat) (x : U.El c), l[i]? = some x → ∀ (j : Nat) (v : AV U) (y : Value), (D.enc c x)[j]? = some v → arr'[i * D.size c + j]? = some y → VR D R' v y) :
    ∃ R' : Rl, R'.w = w' ∧ R.le R' ∧ R'.hdr d = some (some ⟨B, 0, none⟩, n, cap) ∧ SR D nt w0 N0 R' ((s.setO id .dead).setO d (.vec c l)) a := by
  have hdn := h.none d hf
  obtain ⟨hwh, hlo, hhi⟩ := h.own id _ B _ hid True.intro hb
  have hN := hwh True.intro
  let R' : Rl := { w := w', N := R.N, blk := fun k => if k = d then some (B, D.size c) else R.blk k, hdr := fun k => if k = d then some (some ⟨B, 0, none⟩, n, cap) else R.hdr k, ar := R.ar }
  have hle : R.le R' := by
    refine ⟨fun k p hp => ?_, fun k p hp => ?_, fun _ _ _ e => e, by simp [R', hsz], fun b i hb' hNb => ⟨?_, hNb⟩⟩
    · show (if k = d then _ else R.blk k) = some p
      rw [if_neg (fun e => by subst e; rw [hdn.1] at hp; cases hp)]; exact hp
    · show (if k = d then _ else R.hdr k) = some p
      rw [if_neg (fun e => by subst e; rw [hdn.2] at hp; cases hp)]; exact hp
    · exact obs_block (hk b (fun e => hNb (e ▸ hN i)))
  refine ⟨R', rfl, hle, by simp [R'], ?_⟩
  have look : ∀ k o, lk ((s.setO id .dead).setO d (.vec c l)).o k = some o → o.alive → (k = d ∧ o = .vec c l) ∨ (k ≠ d ∧ k ≠ id ∧ lk s.o k = some o) := by
    intro k o ho ha
    rw [lk_setO] at ho
    split at ho
    · rename_i e; cases ho; exact .inl ⟨e.symm, rfl⟩
    · rename_i e
      rw [lk_setO] at ho
      split at ho
      · cases ho; exact ha.elim
      · rename_i e'; exact .inr ⟨fun x => e x.symm, fun x => e' x.symm, ho⟩
  refine { objs := fun k o ho => ?_, none := fun k hk' => ?_, own := fun k o b es ho ha hb' => ?_, inj := fun k k' o o' b es es' h1 h2 a1 a2 b1 b2 => ?_, keep := ?_, le0 := h.toSO.le0' hle, nn := h.nn, nlt := fun b i hNb => ?_, ri := h.ri.of (fun k hk => by simp only [lk_setO] at hk; split at hk; cases hk; split at hk; cases hk; exact hk) rfl (by simp [R', hsz]) (fun k b e hb' => by
      have hb'' : (if k = d then some (B, D.size c) else R.blk k) = some (b, e) := hb'
      split at hb''
      · cases hb''; exact .inl ⟨id, _, hb⟩
      · exact .inl ⟨k, e, hb''⟩), size := h.size, defers := h.defers, ntle := h.ntle, tm := fun k => (h.tm k).mono hle }
  · by_cases ha : o.alive
    · rcases look k o ho ha with ⟨rfl, rfl⟩ | ⟨h1, h2, h3⟩
      · exact ⟨some ⟨B, 0, none⟩, cap, by simp [R', hn], .inr ⟨B, arr', el, rfl, by simp [R'], hw, by omega, hcap, fun i x hx j v y hv hy => hcv R' hle i x hx j v y hv hy⟩⟩
      · refine (h.objs k o h3).mono hle (fun b e hb' => ?_) (fun hn => by show (if k = d then _ else R.blk k) = none; rw [if_neg h1]; exact hn) ⟨rfl, fun b hm => ⟨hk b (fun e => h.ri.sep k b id _ hm (e ▸ hb)), fun i hi => hi⟩⟩
        have hbB : b ≠ B := fun e' => by subst e'; exact h2 (h.inj k id o _ b e _ h3 hid ha True.intro hb' hb)
        exact ⟨hk b hbB, fun i hi => hi⟩
    · cases o <;> first | exact True.intro | exact absurd True.intro ha
  · rw [lk_setO] at hk'
    split at hk'
    · cases hk'
    · rename_i e
      rw [lk_setO] at hk'
      split at hk'
      · cases hk'
      · obtain ⟨h1, h2⟩ := h.none k hk'
        exact ⟨by show (if k = d then _ else R.blk k) = none; rw [if_neg (fun x => e x.symm)]; exact h1, by show (if k = d then _ else R.hdr k) = none; rw [if_neg (fun x => e x.symm)]; exact h2⟩
  · show (o.whole → ∀ i, R.N b i) ∧ (w0.w.heap.size ≤ b ∨ w0.G b) ∧ b < w'.heap.size
    rw [hsz]
    have hb'' : (if k = d then some (B, D.size c) else R.blk k) = some (b, es) := hb'
    rcases look k o ho ha with ⟨rfl, rfl⟩ | ⟨h1, h2, h3⟩
    · rw [if_pos rfl] at hb''
      cases hb''
      exact ⟨fun _ => hN, hlo, hhi⟩
    · rw [if_neg h1] at hb''
      exact h.own k o b es h3 ha hb''
  · have c1 : (if k = d then some (B, D.size c) else R.blk k) = some (b, es) := b1
    have c2 : (if k' = d then some (B, D.size c) else R.blk k') = some (b, es') := b2
    rcases look k o h1 a1 with ⟨rfl, rfl⟩ | ⟨p1, p2, p3⟩ <;> rcases look k' o' h2 a2 with ⟨rfl, rfl⟩ | ⟨q1, q2, q3⟩
    · rfl
    · rw [if_pos rfl] at c1
      rw [if_neg q1] at c2
      cases c1
      exact absurd (h.inj k' id o' _ B es' _ q3 hid a2 True.intro c2 hb) q2
    · rw [if_pos rfl] at c2
      rw [if_neg p1] at c1
      cases c2
      exact absurd (h.inj k id o _ B es _ p3 hid a1 True.intro c1 hb) p2
    · rw [if_neg p1] at c1
      rw [if_neg q1] at c2
      exact h.inj k k' o o' b es es' p3 q3 a1 a2 c1 c2
  · exact h.keep.trans ⟨hos, htape, hout, by simp [hsz, R'], fun k hk' hg => hk k (fun e => by subst e; rcases hlo with hlo | hlo; omega; exact hg hlo)⟩
  · have := h.nlt b i hNb
    show b < w'.heap.size
    omega
theorem castL_inv {D : Codec U} {c c' : U.C} {l : List (U.El c')} {l' : List (U.El c)} (h : castL D c c' l = some l') : ∃ e : c' = c, l' = e ▸ l := by
  unfold castL at h
  split at h
  · rename_i e _; cases h; exact ⟨e, rfl⟩
  · cases h
theorem row_news {D : Codec U} (L : Lawful D) {R : Rl} {c : U.C} {l : List (U.El c)} {y : Value} (hsz : 0 < D.size c) (h : VR D R (.row c l) y) :
    ∃ b cap news, y = .slice b l.length cap ∧ news.length = l.length * D.size c ∧
      (∀ (P : Program) (w1 : World), w1.heap = R.w.heap → (Builtin.firstCells (D.size c) l.length (.slice b l.length cap)).run P w1 = .ok (List.toArray news) w1) ∧ (∀ u ∈ news, One u) ∧
      ∀ (i : Nat) (x : U.El c), l[i]? = some x → ∀ (j : Nat) (v : AV U), (D.enc c x)[j]? = some v → ∃ u, news[i * D.size c + j]? = some u ∧ VR D R v u := by
  rcases h.row_inv with ⟨rfl, b, cap, rfl⟩ | ⟨B, o, cap, f, rfl, hB, hl, hc, hv⟩
  · refine ⟨b, cap, [], rfl, by simp, fun P w1 _ => ?_, by simp, fun i x hx => by simp at hx⟩
    cases b with
    | none => exact run_firstCells_none (P := P) w1 _ _ _ _
    | some b => exact run_firstCells_some (P := P) w1 _ _ b _ _ [] (by simp) (by simp)
  · have hcell : ∀ k, k < l.length * D.size c → ∃ u, R.w.cell? ⟨B, o + k, none⟩ = some u ∧ One u := by
      intro k hk
      have hi : k / D.size c < l.length := Nat.div_lt_of_lt_mul (by rw [Nat.mul_comm]; exact hk)
      have hj : k % D.size c < (D.enc c (l[k / D.size c]'hi)).length := by rw [L.enc_len]; exact Nat.mod_lt _ hsz
      obtain ⟨h1, _⟩ := hc (k / D.size c) _ (List.getElem?_eq_getElem hi) (k % D.size c) _ (List.getElem?_eq_getElem hj)
      have h2 := hv (k / D.size c) _ (List.getElem?_eq_getElem hi) (k % D.size c) _ (List.getElem?_eq_getElem hj)
      rw [show k / D.size c * D.size c + k % D.size c = k by rw [Nat.mul_comm]; exact Nat.div_add_mod _ _] at h1
      exact ⟨_, h1, one_of_ok h2 (L.enc_ok _ _ _ (List.getElem_mem hj))⟩
    refine ⟨some ⟨B, o, none⟩, cap, (List.range (l.length * D.size c)).map fun k => (R.w.cell? ⟨B, o + k, none⟩).getD undef, rfl, by simp, fun P w1 hw => ?_, fun u hu => ?_, fun i x hx j v hj => ?_⟩
    · refine run_firstCells_some (P := P) w1 _ _ _ _ _ _ (by simp) (fun k u hk => ?_)
      simp only [List.getElem?_map, Option.map_eq_some_iff] at hk
      obtain ⟨k', hk', rfl⟩ := hk
      have hlt : k < l.length * D.size c := by have := (List.getElem?_eq_some_iff.1 hk').1; simpa using this
      rw [List.getElem?_range hlt] at hk'
      cases hk'
      obtain ⟨u, h1, _⟩ := hcell k hlt
      rw [h1]
      have hadd : (⟨B, o, none⟩ : Addr).add k = ⟨B, o + k, none⟩ := by
        unfold Addr.add
        split
        · rename_i h0; rw [h0]; rfl
        · rfl
      rw [hadd]
      have : w1.cell? ⟨B, o + k, none⟩ = R.w.cell? ⟨B, o + k, none⟩ := by simp only [World.cell?, hw]
      rw [this, h1]
      rfl
    · simp only [List.mem_map, List.mem_range] at hu
      obtain ⟨k, hk, rfl⟩ := hu
      obtain ⟨u, h1, h2⟩ := hcell k hk
      rw [h1]
      exact h2
    · obtain ⟨h1, _⟩ := hc i x hx j v hj
      have h2 := hv i x hx j v hj
      have hil : i < l.length := (List.getElem?_eq_some_iff.1 hx).1
      have hjl : j < D.size c := by have := (List.getElem?_eq_some_iff.1 hj).1; rwa [L.enc_len] at this
      have hlt : i * D.size c + j < l.length * D.size c := by
        have : (i + 1) * D.size c ≤ l.length * D.size c := Nat.mul_le_mul_right _ hil
        rw [Nat.succ_mul] at this
        omega
      refine ⟨f i j, ?_, h2⟩
      rw [List.getElem?_map, List.getElem?_range hlt, Option.map_some, h1]
      rfl
section
variable {P : Program} {w : World} {ts : Array TypeId} {args : Array Value} {t t' ty e e' : TypeId} {inf : TypeInfo} {z y : Value} {b b2 : Option Addr} {n cap m cap2 : Nat} {olds news : List Value}
theorem run_app_grow (h0 : ts[0]? = some t) (h1 : ts[1]? = some t') (a0 : args[0]? = some (.slice b n cap)) (a1 : args[1]? = some (.slice b2 m cap2))
    (ht : P.underlying t = some (.slice e)) (ht' : P.underlying t' = some (.slice e')) (hi : P.info? e = some inf) (hz : inf.zero = some z)
    (hfo : ∀ (w1 : World), w1.heap = w.heap → (Builtin.firstCells inf.size n (.slice b n cap)).run P w1 = .ok olds.toArray w1)
    (hfn : ∀ (w1 : World), w1.heap = w.heap → (Builtin.firstCells inf.size m (.slice b2 m cap2)).run P w1 = .ok news.toArray w1)
    (hg : cap < n + m) (h63 : ((n + m : Nat) : Int) ≤ 9223372036854775807) (hfit : Builtin.nextslicecap (n + m) cap * inf.bytes ≤ 281474976710656) :
    (Builtin.append_ ts ty args).run P w =
      .ok (.slice (some ⟨w.heap.size, 0, none⟩) (n + m) (grownCap w (n + m) cap e)) (w.drew.alloc (.cells (olds.toArray ++ news.toArray ++ Builtin.zeroCells z.cells (grownCap w (n + m) cap e - (n + m))) e)) := by
  have hn : ¬ (n + m ≤ cap) := by omega
  have h63' : ¬ (9223372036854775807 < ((n : Int) + (m : Int))) := by omega
  have h48' : ¬ (281474976710656 < Builtin.nextslicecap (n + m) cap * inf.bytes) := by omega
  have hf := hfn w.drew rfl
  have hfo := hfo w.drew rfl
  simp [Builtin.append_, h0, h1, a0, a1, run_underlying ht, run_underlying ht', sizeOf, typeInfo, zeroValue, hi, hz, Builtin.lenOf, hn, h63', h48', Question.forced, hf, hfo, newRow, grownCap]
  congr 2
  apply Array.ext'
  simp [List.append_assoc]
theorem run_app_room {a : Addr} {w' : World} (h0 : ts[0]? = some t) (h1 : ts[1]? = some t') (a0 : args[0]? = some (.slice (some a) n cap)) (a1 : args[1]? = some (.slice b2 m cap2))
    (ht : P.underlying t = some (.slice e)) (ht' : P.underlying t' = some (.slice e')) (hi : P.info? e = some inf)
    (hfn : ∀ (w1 : World), w1.heap = w.heap → (Builtin.firstCells inf.size m (.slice b2 m cap2)).run P w1 = .ok news.toArray w1)
    (hg : n + m ≤ cap) (hst : (storeCells (a.add (n * inf.size)) news).run P w = .ok () w') :
    (Builtin.append_ ts ty args).run P w = .ok (.slice (some a) (n + m) cap) w' := by
  have hf := hfn w rfl
  simp [Builtin.append_, h0, h1, a0, a1, run_underlying ht, run_underlying ht', sizeOf, typeInfo, hi, Builtin.lenOf, hg, hf, hst]
theorem run_app_nil (h0 : ts[0]? = some t) (h1 : ts[1]? = some t') (a0 : args[0]? = some (.slice none 0 0)) (a1 : args[1]? = some (.slice b2 0 cap2))
    (ht : P.underlying t = some (.slice e)) (ht' : P.underlying t' = some (.slice e')) (hi : P.info? e = some inf)
    (hfn : ∀ (w1 : World), w1.heap = w.heap → (Builtin.firstCells inf.size 0 (.slice b2 0 cap2)).run P w1 = .ok news.toArray w1) :
    (Builtin.append_ ts ty args).run P w = .ok (.slice none 0 0) w := by
  have hf := hfn w rfl
  simp [Builtin.append_, h0, h1, a0, a1, run_underlying ht, run_underlying ht', sizeOf, typeInfo, hi, Builtin.lenOf, hf]
theorem run_app_none (h0 : ts[0]? = some t) (h1 : ts[1]? = some t') (a0 : args[0]? = some (.slice b 0 0)) (a1 : args[1]? = some (.slice b2 0 cap2))
    (ht : P.underlying t = some (.slice e)) (ht' : P.underlying t' = some (.slice e')) (hi : P.info? e = some inf) (hnw : news = [])
    (hfn : ∀ (w1 : World), w1.heap = w.heap → (Builtin.firstCells inf.size 0 (.slice b2 0 cap2)).run P w1 = .ok news.toArray w1) :
    (Builtin.append_ ts ty args).run P w = .ok (.slice b 0 0) w := by
  cases b with
  | none => exact run_app_nil h0 h1 a0 a1 ht ht' hi hfn
  | some a =>
    have := run_app_room (ty := ty) (n := 0) (m := 0) h0 h1 a0 a1 ht ht' hi hfn (Nat.le_refl _) (w' := w) (by rw [hnw]; simp [storeCells])
    simpa using this
end
theorem fc_zero {P : Program} (w : World) (size : Nat) (b : Option Addr) (cap : Nat) : (Builtin.firstCells size 0 (.slice b 0 cap)).run P w = .ok #[] w := by
  cases b with
  | none => exact run_firstCells_none w _ _ _ _
  | some a =>
    have := run_firstCells_some (P := P) w size 0 a 0 cap [] (by simp) (fun j v h => by simp at h)
    simpa using this
theorem okLen_spec {n b : Nat} (h : okLen n b = true) : n * b ≤ 140737488355328 := of_decide_eq_true h
theorem map_get0 {c : Call} (h : SR E.D nt w0 N0 R s a) {l : List (AV U)} (hl : c.args.toList.map s.op = l) : ∀ (i : Nat) (p : AV U), l[i]? = some p → ∃ v, (c.args.map a.eval)[i]? = some v ∧ VR E.D R p v := by
  intro i p hp
  rw [← hl] at hp
  simp only [List.getElem?_map, Option.map_eq_some_iff] at hp
  obtain ⟨z, hz, rfl⟩ := hp
  have : c.args[i]? = some z := by simpa using hz
  exact ⟨a.eval z, by simp [Array.getElem?_map, this], h.op z⟩
theorem app_new (he : EnvOk E) {s1 : St U} {c : U.C} {l1 l2 : List (U.El c)} {d sz n m cap e : Nat} {z : Value} {olds news : List Value} (h : SR E.D nt w0 N0 R s1 a) (hf : lk s1.o d = none)
    (hsz : sz = E.D.size c) (hz : z.cells.size = sz) (hn : n = l1.length) (hm : m = l2.length) (hol : olds.length = n * sz) (hnl : news.length = m * sz)
    (ho : ∀ (i : Nat) (x : U.El c), l1[i]? = some x → ∀ (j : Nat) (v : AV U), (E.D.enc c x)[j]? = some v → ∃ u, olds[i * E.D.size c + j]? = some u ∧ VR E.D R v u)
    (hw : ∀ (i : Nat) (x : U.El c), l2[i]? = some x → ∀ (j : Nat) (v : AV U), (E.D.enc c x)[j]? = some v → ∃ u, news[i * E.D.size c + j]? = some u ∧ VR E.D R v u) :
    ∃ R' : Rl, R'.w = R.w.drew.alloc (.cells (olds.toArray ++ news.toArray ++ Builtin.zeroCells z.cells (grownCap R.w (n + m) cap e - (n + m))) e) ∧ R.le R' ∧
      VR E.D R' (.tip d c (l1 ++ l2)) (.slice (some ⟨R.w.heap.size, 0, none⟩) (n + m) (grownCap R.w (n + m) cap e)) ∧ SR E.D nt w0 N0 R' (s1.setO d (.tip sz)) a := by
  subst hsz
  obtain ⟨hle1, hd⟩ := h.drew
  have hge := grownCap_ge R.w (n + m) cap e
  generalize hG : grownCap R.w (n + m) cap e = G at *
  let arr : Array Value := olds.toArray ++ news.toArray ++ Builtin.zeroCells z.cells (G - (n + m))
  have hasz : arr.size = G * E.D.size c := by
    simp only [arr, Array.size_append, List.size_toArray, size_zeroCells, hz, hol, hnl, ← Nat.add_mul]
    congr 1
    omega
  have hdn := hd.none d hf
  let R1 : Rl := { R with w := { R.w with drawn := R.w.drawn + 1 } }
  let R' := R1.fresh (.cells arr e) d (E.D.size c) (fun i => (n + m) * E.D.size c ≤ i) (some (some ⟨R.w.heap.size, 0, none⟩, n + m, G))
  have hle2 : R1.le R' := Rl.fresh_le hdn.1 hdn.2
  have hle : R.le R' := hle1.trans hle2
  have hblk : R'.w.heap[R.w.heap.size]? = some (.cells arr e (0, 0)) := by
    show (R.w.heap.push _)[R.w.heap.size]? = _
    simp
  have hrow : RowAt E.D R' R.w.heap.size 0 c (l1 ++ l2) := by
    intro i x hx j v hv
    have hjl : j < E.D.size c := by have := (List.getElem?_eq_some_iff.1 hv).1; rwa [he.law.enc_len] at this
    have hil : i < n + m := by have := (List.getElem?_eq_some_iff.1 hx).1; simp at this; omega
    have hlt : i * E.D.size c + j < (n + m) * E.D.size c := by
      have : (i + 1) * E.D.size c ≤ (n + m) * E.D.size c := Nat.mul_le_mul_right _ hil
      rw [Nat.succ_mul] at this
      omega
    have hu : ∃ u, arr[i * E.D.size c + j]? = some u ∧ VR E.D R v u := by
      by_cases h1 : i < n
      · rw [List.getElem?_append_left (by omega)] at hx
        obtain ⟨u, hu, hvu⟩ := ho i x hx j v hv
        have hlt2 : i * E.D.size c + j < olds.length := (List.getElem?_eq_some_iff.1 hu).1
        refine ⟨u, ?_, hvu⟩
        simp only [arr]
        rw [Array.getElem?_append_left (by simp; omega), Array.getElem?_append_left (by simpa using hlt2)]
        simpa using hu
      · rw [List.getElem?_append_right (by omega)] at hx
        obtain ⟨u, hu, hvu⟩ := hw (i - l1.length) x hx j v hv
        have hlt2 : (i - l1.length) * E.D.size c + j < news.length := (List.getElem?_eq_some_iff.1 hu).1
        have hidx : i * E.D.size c + j = olds.length + ((i - l1.length) * E.D.size c + j) := by
          rw [hol, hn, ← Nat.add_assoc, ← Nat.add_mul]
          congr 2
          omega
        refine ⟨u, ?_, hvu⟩
        simp only [arr]
        rw [Array.getElem?_append_left (by simp; omega), Array.getElem?_append_right (by simp; omega)]
        simp only [List.size_toArray]
        rw [show i * E.D.size c + j - olds.length = (i - l1.length) * E.D.size c + j by omega]
        simpa using hu
    obtain ⟨u, hu, hvu⟩ := hu
    refine ⟨u, ?_, ?_, hvu.mono hle⟩
    · rw [Nat.zero_add]
      simp [World.cell?, hblk, hu]
    · rw [Nat.zero_add]
      rintro (hN | ⟨_, hN⟩)
      · have := hd.nlt _ _ hN
        simp at this
      · have hN : (n + m) * E.D.size c ≤ i * E.D.size c + j := hN
        omega
  have hrv := hrow.vr (cap := G) (by show R.w.heap.size < (R.w.heap.push _).size; simp) (by simp; omega)
  have hll : (l1 ++ l2).length = n + m := by simp; omega
  rw [hll] at hrv
  refine ⟨R', rfl, hle, .tip (by simp [R', Rl.fresh]) hrv, hd.fresh hf ?_ (fun hw => hw.elim)⟩
  exact ⟨some ⟨R.w.heap.size, 0, none⟩, n + m, G, by simp [Rl.fresh], .inr ⟨R.w.heap.size, arr, e, rfl, by simp [Rl.fresh], hblk, hge, by omega, fun i hi => .inr ⟨rfl, hi⟩⟩⟩
theorem app_newV (he : EnvOk E) {s1 : St U} {c : U.C} {l1 l2 : List (U.El c)} {d sz n m cap e : Nat} {z : Value} {olds news : List Value} (h : SR E.D nt w0 N0 R s1 a) (hf : lk s1.o d = none)
    (hsz : sz = E.D.size c) (hz : z.cells.size = sz) (hn : n = l1.length) (hm : m = l2.length) (hol : olds.length = n * sz) (hnl : news.length = m * sz)
    (ho : ∀ (i : Nat) (x : U.El c), l1[i]? = some x → ∀ (j : Nat) (v : AV U), (E.D.enc c x)[j]? = some v → ∃ u, olds[i * E.D.size c + j]? = some u ∧ VR E.D R v u)
    (hw : ∀ (i : Nat) (x : U.El c), l2[i]? = some x → ∀ (j : Nat) (v : AV U), (E.D.enc c x)[j]? = some v → ∃ u, news[i * E.D.size c + j]? = some u ∧ VR E.D R v u) :
    ∃ R' : Rl, R'.w = R.w.drew.alloc (.cells (olds.toArray ++ news.toArray ++ Builtin.zeroCells z.cells (grownCap R.w (n + m) cap e - (n + m))) e) ∧ R.le R' ∧
      VR E.D R' (.vs d) (.slice (some ⟨R.w.heap.size, 0, none⟩) (n + m) (grownCap R.w (n + m) cap e)) ∧ SR E.D nt w0 N0 R' (s1.setO d (.vec c (l1 ++ l2))) a := by
  subst hsz
  obtain ⟨hle1, hd⟩ := h.drew
  have hge := grownCap_ge R.w (n + m) cap e
  generalize hG : grownCap R.w (n + m) cap e = G at *
  let arr : Array Value := olds.toArray ++ news.toArray ++ Builtin.zeroCells z.cells (G - (n + m))
  have hasz : arr.size = G * E.D.size c := by
    simp only [arr, Array.size_append, List.size_toArray, size_zeroCells, hz, hol, hnl, ← Nat.add_mul]
    congr 1
    omega
  have hdn := hd.none d hf
  let R1 : Rl := { R with w := { R.w with drawn := R.w.drawn + 1 } }
  let R' := R1.fresh (.cells arr e) d (E.D.size c) (fun _ => True) (some (some ⟨R.w.heap.size, 0, none⟩, n + m, G))
  have hle2 : R1.le R' := Rl.fresh_le hdn.1 hdn.2
  have hle : R.le R' := hle1.trans hle2
  have hblk : R'.w.heap[R.w.heap.size]? = some (.cells arr e (0, 0)) := by
    show (R.w.heap.push _)[R.w.heap.size]? = _
    simp
  have hcell : ∀ (i : Nat) (x : U.El c), (l1 ++ l2)[i]? = some x → ∀ (j : Nat) (v : AV U) (y : Value), (E.D.enc c x)[j]? = some v → arr[i * E.D.size c + j]? = some y → VR E.D R' v y := by
    intro i x hx j v y hv hy
    have hu : ∃ u, arr[i * E.D.size c + j]? = some u ∧ VR E.D R v u := by
      by_cases h1 : i < n
      · rw [List.getElem?_append_left (by omega)] at hx
        obtain ⟨u, hu, hvu⟩ := ho i x hx j v hv
        have hlt2 : i * E.D.size c + j < olds.length := (List.getElem?_eq_some_iff.1 hu).1
        refine ⟨u, ?_, hvu⟩
        simp only [arr]
        rw [Array.getElem?_append_left (by simp; omega), Array.getElem?_append_left (by simpa using hlt2)]
        simpa using hu
      · rw [List.getElem?_append_right (by omega)] at hx
        obtain ⟨u, hu, hvu⟩ := hw (i - l1.length) x hx j v hv
        have hlt2 : (i - l1.length) * E.D.size c + j < news.length := (List.getElem?_eq_some_iff.1 hu).1
        have hidx : i * E.D.size c + j = olds.length + ((i - l1.length) * E.D.size c + j) := by
          rw [hol, hn, ← Nat.add_assoc, ← Nat.add_mul]
          congr 2
          omega
        refine ⟨u, ?_, hvu⟩
        simp only [arr]
        rw [Array.getElem?_append_left (by simp; omega), Array.getElem?_append_right (by simp; omega)]
        simp only [List.size_toArray]
        rw [show i * E.D.size c + j - olds.length = (i - l1.length) * E.D.size c + j by omega]
        simpa using hu
    obtain ⟨u, hu, hvu⟩ := hu
    rw [hu] at hy
    cases hy
    exact hvu.mono hle
  have hll : (l1 ++ l2).length = n + m := by simp; omega
  refine ⟨R', rfl, hle, .vs (by simp [R', Rl.fresh]), hd.fresh hf ?_ (fun _ _ => True.intro)⟩
  exact ⟨some ⟨R.w.heap.size, 0, none⟩, G, by simp [Rl.fresh]; omega, .inr ⟨R.w.heap.size, arr, e, rfl, by simp [Rl.fresh], hblk, by omega, by omega, hcell⟩⟩
theorem told_append (he : EnvOk E) {o : Oper} {c : Call} {K : AV U → Eff U → Option ρ} {r : ρ} (h : SR E.D nt w0 N0 R s a) (ho : o.op = .call c) (hc : c.callee = .builtin .append)
    (hk : appendC E (lk s.o) c.argTypes (c.args.toList.map s.op) o.dst K = some r) : Told E nt w0 N0 R s a o K r := by
  unfold appendC at hk
  split at hk
  case h_2 => cases hk
  rename_i t t' x y d e0 e1 ea ed
  split at hk
  case h_2 => cases hk
  rename_i e c' sz by_ e' hel hu'
  obtain ⟨inf, z, hu, hi, hz, hsz, hszc, hpos, hby, hbpos, hzs⟩ := elemOf_inv hel
  split at hk
  case h_2 => cases hk
  rename_i c2 l2 hyd
  split at hk
  · cases hk
  rename_i l2' hcast2
  obtain ⟨hcc2, hll2⟩ := castL_inv hcast2
  subst hcc2
  replace hll2 : l2 = l2' := hll2.symm
  subst hll2
  split at hk
  · cases hk
  rename_i hfd
  obtain ⟨vx, ax, hvx⟩ := map_get0 h ea 0 x rfl
  obtain ⟨vy, ay, hvy⟩ := map_get0 h ea 1 y rfl
  have hvy := hvy.drop
  rw [hyd] at hvy
  have hsz' : 0 < E.D.size c2 := by omega
  obtain ⟨b2, cap2, news, rfl, hnl, hfn, hone, hrel⟩ := row_news he.law hsz' hvy
  have run : ∀ {v : Value} {w' : World}, (Builtin.append_ c.argTypes o.type (c.args.map a.eval)).run E.P R.w = .ok v w' → (execOp a.eval o).run E.P R.w = .ok (.value v) w' := by
    intro v w' hr
    simp only [execOp, ho, resolve, hc, Sem.run_bind, Sem.run_pure, Result.andThen_ok, invoke]
    show (builtin .append c.argTypes o.type _ _).run E.P R.w = _
    simp only [builtin, Sem.run_bind, hr, Result.andThen_ok, Sem.run_pure]
  have hfn' : ∀ (w1 : World), w1.heap = R.w.heap → (Builtin.firstCells inf.size l2.length (.slice b2 l2.length cap2)).run E.P w1 = .ok news.toArray w1 := fun w1 hw => by
    rw [hsz, hszc]; exact hfn E.P w1 hw
  split at hk
  ·
    rename_i id c1 l1
    split at hk
    · cases hk
    rename_i l1' hcast1
    obtain ⟨hcc1, hll1⟩ := castL_inv hcast1
    subst hcc1
    replace hll1 : l1 = l1' := hll1.symm
    subst hll1
    split at hk
    case h_2 => cases hk
    rename_i sz' hid
    obtain ⟨hszz, hk⟩ := cond_none hk
    replace hszz := Nat.eq_of_beq_eq_true hszz
    subst hszz
    obtain ⟨hlen, hk⟩ := cond_none hk
    replace hlen := okLen_spec hlen
    have hne : id ≠ d := fun e => by rw [e, hfd] at hid; cases hid
    have hfd' : lk (s.setO id .dead).o d = none := by rw [lk_setO, if_neg hne]; exact hfd
    obtain ⟨b, n, cap, hhdr, hor⟩ := h.objs id _ hid
    obtain ⟨hvx1, hvx2⟩ : vx = .slice b n cap ∧ VR E.D R (.row c1 l1) (.slice b n cap) := by
      cases hvx with
      | tip h1 h2 => rw [hhdr] at h1; cases h1; exact ⟨rfl, h2⟩
    subst hvx1
    obtain ⟨b', cap', olds, hyo, hol, hfo, honeo, hrelo⟩ := row_news he.law hsz' hvx2
    cases hyo
    have hfo' : ∀ (w1 : World), w1.heap = R.w.heap → (Builtin.firstCells inf.size l1.length (.slice b l1.length cap)).run E.P w1 = .ok olds.toArray w1 := fun w1 hw => by
      rw [hsz, hszc]; exact hfo E.P w1 hw
    have hlen' : (l1.length + l2.length) * inf.bytes ≤ 140737488355328 := by rw [hby]; exact hlen
    have hsum : l1.length + l2.length ≤ 140737488355328 := Nat.le_trans (Nat.le_mul_of_pos_right _ (by omega)) hlen'
    by_cases hroom : l1.length + l2.length ≤ cap
    · rcases hor with ⟨hn0, rfl⟩ | ⟨B, arr, el, rfl, hblk, hheap, hnc, hcs, hbar⟩
      · have hl1 : l1 = [] := List.eq_nil_of_length_eq_zero hn0
        have hl2 : l2 = [] := List.eq_nil_of_length_eq_zero (by omega)
        subst hl1
        subst hl2
        have hrun := run (run_app_none (P := E.P) (ty := o.type) e0 e1 ax ay hu hu' hi (List.eq_nil_of_length_eq_zero (by simpa using hnl)) hfn')
        refine ⟨_, _, hk, fun next Q hnext => ?_⟩
        unfold Oper.wp
        rw [hrun]
        have hdn := h.none d hfd
        let R' : Rl := { R with hdr := fun k => if k = d then some (b, 0, 0) else R.hdr k }
        have hle : R.le R' := ⟨fun _ _ e => e, fun k p hp => by
          show (if k = d then _ else R.hdr k) = some p
          rw [if_neg (fun e => by subst e; rw [hdn.2] at hp; cases hp)]; exact hp, fun _ _ _ e => e, Nat.le_refl _, fun _ _ _ hN => ⟨rfl, hN⟩⟩
        exact hnext _ R' hle (.tip (by simp [R']) .rownil) ((h.kill hid).nilTip hfd')
      · have hst := run_storeCells (P := E.P) (B := B) (el := el) news R.w arr (l1.length * E.D.size c1) 0 hheap (by
          rw [hnl]
          have : (l1.length + l2.length) * E.D.size c1 ≤ cap * E.D.size c1 := Nat.mul_le_mul_right _ hroom
          rw [Nat.add_mul] at this
          rw [hszc] at hcs
          omega) hone
        obtain ⟨w', arr', h1, h2, h3, h4, h5, h6, h7, h8, h9⟩ := hst
        have hadd : (⟨B, 0, none⟩ : Addr).add (l1.length * inf.size) = ⟨B, l1.length * E.D.size c1, none⟩ := by
          rw [hsz, hszc]
          unfold Addr.add
          split
          · rename_i h0; rw [h0]
          · simp
        have hrun := run (run_app_room (P := E.P) (ty := o.type) e0 e1 ax ay hu hu' hi hfn' hroom (by rw [hadd]; exact h1))
        refine ⟨_, _, hk, fun next Q hnext => ?_⟩
        unfold Oper.wp
        rw [hrun]
        subst hszc
        obtain ⟨R', rfl, hle, hhd, hN, hsr⟩ := h.grow (d := d) (m := l2.length) (arr' := arr') hid hfd hblk h2 hheap h3 hcs hroom hbar (fun k hkk => by
          rw [h4 k, if_neg]
          rw [hnl]
          intro hh
          exact hkk ⟨by omega, by rw [Nat.add_mul]; omega⟩) h5 h6 h7 h8 h9
        have hrow : RowAt E.D R' B 0 c1 (l1 ++ l2) := by
          intro i x hx j v hv
          have hjl : j < E.D.size c1 := by have := (List.getElem?_eq_some_iff.1 hv).1; rwa [he.law.enc_len] at this
          have hil : i < l1.length + l2.length := by have := (List.getElem?_eq_some_iff.1 hx).1; simpa using this
          have hlt : i * E.D.size c1 + j < (l1.length + l2.length) * E.D.size c1 := by
            have : (i + 1) * E.D.size c1 ≤ (l1.length + l2.length) * E.D.size c1 := Nat.mul_le_mul_right _ hil
            rw [Nat.succ_mul] at this
            omega
          have hnot : ¬ R'.N B (0 + (i * E.D.size c1 + j)) := fun hh => by have := hN _ hh; omega
          by_cases h1' : i < l1.length
          · rw [List.getElem?_append_left h1'] at hx
            rcases hvx2.row_inv with ⟨rfl, _⟩ | ⟨B', o', cap'', f, hy', hB', hl', hc', hv'⟩
            · simp at h1'
            · cases hy'
              have := hle.keep _ _ hB' (hc' i x hx j v hv).2
              exact ⟨_, (obs_cell this.1).trans (hc' i x hx j v hv).1, hnot, (hv' i x hx j v hv).mono hle⟩
          · rw [List.getElem?_append_right (by omega)] at hx
            obtain ⟨u, hu1, hu2⟩ := hrel (i - l1.length) x hx j v hv
            have hlt2 : (i - l1.length) * E.D.size c1 + j < news.length := (List.getElem?_eq_some_iff.1 hu1).1
            have hidx : i * E.D.size c1 + j = l1.length * E.D.size c1 + ((i - l1.length) * E.D.size c1 + j) := by
              rw [← Nat.add_assoc, ← Nat.add_mul]
              congr 2
              omega
            refine ⟨u, ?_, hnot, hu2.mono hle⟩
            rw [Nat.zero_add]
            have hc3 : arr'[i * E.D.size c1 + j]? = some u := by
              rw [h4 (i * E.D.size c1 + j), if_pos ⟨by omega, by omega⟩, show i * E.D.size c1 + j - (l1.length * E.D.size c1 + 0) = (i - l1.length) * E.D.size c1 + j by omega]
              simpa using hu1
            simp [World.cell?, h2, hc3]
        have hBlt : B < R'.w.heap.size := (Array.getElem?_eq_some_iff.1 h2).1
        have hrv := hrow.vr (cap := cap) hBlt (by simp; omega)
        have hll : (l1 ++ l2).length = l1.length + l2.length := by simp
        rw [hll] at hrv
        exact hnext _ R' hle (.tip hhd hrv) hsr
    · have hg : cap < l1.length + l2.length := by omega
      have hrun := run (run_app_grow (P := E.P) (ty := o.type) e0 e1 ax ay hu hu' hi hz hfo' hfn' hg (by omega) (growslice_fits hg hlen'))
      refine ⟨_, _, hk, fun next Q hnext => ?_⟩
      unfold Oper.wp
      rw [hrun]
      obtain ⟨R', hw', hle, hvr, hsr⟩ := app_new (e := e) (z := z) (cap := cap) he (h.kill hid) hfd' hszc hzs rfl rfl (by rw [hol, hszc]) (by rw [hnl, hszc]) hrelo hrel
      rw [← hw']
      exact hnext _ R' hle hvr hsr
  ·
    rename_i id
    split at hk
    case h_2 => cases hk
    rename_i c1 l1 hid
    split at hk
    · cases hk
    rename_i l1' hcast1
    obtain ⟨hcc1, hll1⟩ := castL_inv hcast1
    subst hcc1
    replace hll1 : l1 = l1' := hll1.symm
    subst hll1
    obtain ⟨hlen, hk⟩ := cond_none hk
    replace hlen := okLen_spec hlen
    have hne : id ≠ d := fun e => by rw [e, hfd] at hid; cases hid
    have hfd' : lk (s.setO id .dead).o d = none := by rw [lk_setO, if_neg hne]; exact hfd
    obtain ⟨b, cap, hhdr, hor⟩ := h.objs id _ hid
    obtain ⟨b', n, cap', e3, hyv⟩ := hvx.vs_inv
    rw [hhdr] at e3
    cases e3
    subst hyv
    have hlen' : (l1.length + l2.length) * inf.bytes ≤ 140737488355328 := by rw [hby]; exact hlen
    have hsum : l1.length + l2.length ≤ 140737488355328 := Nat.le_trans (Nat.le_mul_of_pos_right _ (by omega)) hlen'
    rcases hor with ⟨rfl, rfl⟩ | ⟨B, arr, el, rfl, hblk, hheap, hnc, hcs, hcv⟩
    · refine ⟨_, _, hk, fun next Q hnext => ?_⟩
      unfold Oper.wp
      by_cases h0 : l2.length = 0
      · have hl2 : l2 = [] := List.eq_nil_of_length_eq_zero h0
        subst hl2
        have hrun := run (run_app_none (P := E.P) (ty := o.type) e0 e1 ax ay hu hu' hi (List.eq_nil_of_length_eq_zero (by simpa using hnl)) hfn')
        rw [hrun]
        have hdn := h.none d hfd
        let R' : Rl := { R with hdr := fun k => if k = d then some (b, 0, 0) else R.hdr k }
        have hle : R.le R' := ⟨fun _ _ e => e, fun k p hp => by
          show (if k = d then _ else R.hdr k) = some p
          rw [if_neg (fun e => by subst e; rw [hdn.2] at hp; cases hp)]; exact hp, fun _ _ _ e => e, Nat.le_refl _, fun _ _ _ hN => ⟨rfl, hN⟩⟩
        exact hnext _ R' hle (.vs (by simp [R'])) ((h.kill hid).nilVec hfd')
      · have hg : 0 < 0 + l2.length := by omega
        have hrun := run (run_app_grow (P := E.P) (ty := o.type) (olds := []) e0 e1 ax ay hu hu' hi hz (fun w1 _ => fc_zero w1 _ _ _) hfn' hg (by simp only [List.length_nil, Nat.zero_add] at hsum ⊢; omega) (growslice_fits hg (by simpa using hlen')))
        have hrun : (execOp a.eval o).run E.P R.w = _ := hrun
        rw [hrun]
        obtain ⟨R', hw', hle, hvr, hsr⟩ := app_newV (e := e) (z := z) (cap := 0) (n := ([] : List (U.El c1)).length) (m := l2.length) (l1 := []) (olds := []) he (h.kill hid) hfd' hszc hzs rfl rfl (by simp) (by rw [hnl, hszc]) (fun i x hx => by simp at hx) hrel
        rw [← hw']
        exact hnext _ R' hle hvr hsr
    ·
      have hmul : l1.length * E.D.size c1 ≤ cap * E.D.size c1 := Nat.mul_le_mul_right _ hnc
      let olds : List Value := arr.toList.take (l1.length * E.D.size c1)
      have hol : olds.length = l1.length * E.D.size c1 := by simp [olds]; omega
      have holds : ∀ (k : Nat) (u : Value), olds[k]? = some u → k < l1.length * E.D.size c1 ∧ arr[k]? = some u := by
        intro k u hk'
        have hlt : k < l1.length * E.D.size c1 := by have := (List.getElem?_eq_some_iff.1 hk').1; omega
        simp only [olds, List.getElem?_take_of_lt hlt] at hk'
        exact ⟨hlt, by simpa using hk'⟩
      have hfo' : ∀ (w1 : World), w1.heap = R.w.heap → (Builtin.firstCells inf.size l1.length (.slice (some ⟨B, 0, none⟩) l1.length cap)).run E.P w1 = .ok olds.toArray w1 := fun w1 hw => by
        rw [hsz, hszc]
        refine run_firstCells_some (P := E.P) w1 _ _ _ _ _ olds hol (fun k u hk' => ?_)
        rw [show (⟨B, 0, none⟩ : Addr).add k = ⟨B, k, none⟩ by unfold Addr.add; split <;> simp_all]
        simp [World.cell?, hw, hheap, (holds k u hk').2]
      have hrelo : ∀ (i : Nat) (x : U.El c1), l1[i]? = some x → ∀ (j : Nat) (v : AV U), (E.D.enc c1 x)[j]? = some v → ∃ u, olds[i * E.D.size c1 + j]? = some u ∧ VR E.D R v u := by
        intro i x hx j v hv
        have hjl : j < E.D.size c1 := by have := (List.getElem?_eq_some_iff.1 hv).1; rwa [he.law.enc_len] at this
        have hil : i < l1.length := (List.getElem?_eq_some_iff.1 hx).1
        have hlt : i * E.D.size c1 + j < l1.length * E.D.size c1 := by
          have : (i + 1) * E.D.size c1 ≤ l1.length * E.D.size c1 := Nat.mul_le_mul_right _ hil
          rw [Nat.succ_mul] at this
          omega
        have hu' : arr[i * E.D.size c1 + j]? = some (arr[i * E.D.size c1 + j]'(by omega)) := Array.getElem?_eq_getElem (by omega)
        refine ⟨_, ?_, hcv i x hx j v _ hv hu'⟩
        simp only [olds, List.getElem?_take_of_lt hlt]
        simp
      by_cases hroom : l1.length + l2.length ≤ cap
      · have hmul2 : (l1.length + l2.length) * E.D.size c1 ≤ cap * E.D.size c1 := Nat.mul_le_mul_right _ hroom
        have hst := run_storeCells (P := E.P) (B := B) (el := el) news R.w arr (l1.length * E.D.size c1) 0 hheap (by
          rw [hnl]
          rw [Nat.add_mul] at hmul2
          omega) hone
        obtain ⟨w', arr', h1, h2, h3, h4, h5, h6, h7, h8, h9⟩ := hst
        have hadd : (⟨B, 0, none⟩ : Addr).add (l1.length * inf.size) = ⟨B, l1.length * E.D.size c1, none⟩ := by
          rw [hsz, hszc]
          unfold Addr.add
          split
          · rename_i h0; rw [h0]
          · simp
        have hrun := run (run_app_room (P := E.P) (ty := o.type) e0 e1 ax ay hu hu' hi hfn' hroom (by rw [hadd]; exact h1))
        refine ⟨_, _, hk, fun next Q hnext => ?_⟩
        unfold Oper.wp
        rw [hrun]
        obtain ⟨R', rfl, hle, hhd, hsr⟩ := h.growVec (d := d) (n := l1.length + l2.length) (l := l1 ++ l2) (cap := cap) hid hfd hblk h2 (by omega) (by simp) hroom h5 h6 h7 h8 h9 (by
          intro R' hle i x hx j v y hv hy
          rw [h4] at hy
          have hjl : j < E.D.size c1 := by have := (List.getElem?_eq_some_iff.1 hv).1; rwa [he.law.enc_len] at this
          by_cases h1' : i < l1.length
          · rw [List.getElem?_append_left h1'] at hx
            have hlt : i * E.D.size c1 + j < l1.length * E.D.size c1 := by
              have : (i + 1) * E.D.size c1 ≤ l1.length * E.D.size c1 := Nat.mul_le_mul_right _ h1'
              rw [Nat.succ_mul] at this
              omega
            rw [if_neg (by omega)] at hy
            exact (hcv i x hx j v y hv hy).mono hle
          · rw [List.getElem?_append_right (by omega)] at hx
            obtain ⟨u, hu1, hu2⟩ := hrel (i - l1.length) x hx j v hv
            have hlt2 : (i - l1.length) * E.D.size c1 + j < news.length := (List.getElem?_eq_some_iff.1 hu1).1
            have hidx : i * E.D.size c1 + j = l1.length * E.D.size c1 + ((i - l1.length) * E.D.size c1 + j) := by
              rw [← Nat.add_assoc, ← Nat.add_mul]
              congr 2
              omega
            rw [if_pos ⟨by omega, by omega⟩, show i * E.D.size c1 + j - (l1.length * E.D.size c1 + 0) = (i - l1.length) * E.D.size c1 + j by omega] at hy
            rw [show news[(i - l1.length) * E.D.size c1 + j]? = some u from hu1] at hy
            cases hy
            exact hu2.mono hle)
        exact hnext _ R' hle (.vs hhd) hsr
      · have hg : cap < l1.length + l2.length := by omega
        have hrun := run (run_app_grow (P := E.P) (ty := o.type) e0 e1 ax ay hu hu' hi hz hfo' hfn' hg (by omega) (growslice_fits hg hlen'))
        refine ⟨_, _, hk, fun next Q hnext => ?_⟩
        unfold Oper.wp
        rw [hrun]
        obtain ⟨R', hw', hle, hvr, hsr⟩ := app_newV (e := e) (z := z) (cap := cap) he (h.kill hid) hfd' hszc hzs rfl rfl (by rw [hol, hszc]) (by rw [hnl, hszc]) hrelo hrel
        rw [← hw']
        exact hnext _ R' hle hvr hsr
  ·
    obtain ⟨hlen, hk⟩ := cond_none hk
    replace hlen := okLen_spec hlen
    have hvx1 := hvx.flat_inv
    subst hvx1
    have hlen' : (0 + l2.length) * inf.bytes ≤ 140737488355328 := by rw [hby, Nat.zero_add]; exact hlen
    have hsum : 0 + l2.length ≤ 140737488355328 := Nat.le_trans (Nat.le_mul_of_pos_right _ (by omega)) hlen'
    refine ⟨_, _, hk, fun next Q hnext => ?_⟩
    unfold Oper.wp
    by_cases h0 : l2.length = 0
    · have hl2 : l2 = [] := List.eq_nil_of_length_eq_zero h0
      subst hl2
      have hrun := run (run_app_nil (P := E.P) (ty := o.type) e0 e1 ax ay hu hu' hi hfn')
      rw [hrun]
      have hdn := h.none d hfd
      let R' : Rl := { R with hdr := fun k => if k = d then some (none, 0, 0) else R.hdr k }
      have hle : R.le R' := ⟨fun _ _ e => e, fun k p hp => by
        show (if k = d then _ else R.hdr k) = some p
        rw [if_neg (fun e => by subst e; rw [hdn.2] at hp; cases hp)]; exact hp, fun _ _ _ e => e, Nat.le_refl _, fun _ _ _ hN => ⟨rfl, hN⟩⟩
      exact hnext _ R' hle (.tip (by simp [R']) .rownil) (h.nilTip hfd)
    · have hg : 0 < 0 + l2.length := by omega
      have hrun := run (run_app_grow (P := E.P) (ty := o.type) (olds := []) e0 e1 ax ay hu hu' hi hz (fun w1 _ => run_firstCells_none (P := E.P) w1 _ _ _ _) hfn' hg (by omega) (growslice_fits hg hlen'))
      rw [hrun]
      obtain ⟨R', hw', hle, hvr, hsr⟩ := app_new (e := e) (z := z) (cap := 0) (n := 0) (m := l2.length) (l1 := []) (olds := []) he h hfd hszc hzs rfl rfl (by simp) (by rw [hnl, hszc]) (fun i x hx => by simp at hx) hrel
      rw [← hw']
      exact hnext _ R' hle hvr hsr
  · cases hk
theorem told_slice {o : Oper} {t : TypeId} {x : Operand} {lo hi mx : Option Operand} {K : AV U → Eff U → Option ρ} {r : ρ} (h : SR E.D nt w0 N0 R s a) (ho : o.op = .slice t x lo hi mx)
    (hk : opK E o s.op (lk s.o) K = some r) : Told E nt w0 N0 R s a o K r := by
  unfold opK at hk
  simp only [ho] at hk
  unfold sliceC at hk
  split at hk
  · rename_i e c' sz by_ hel
    obtain ⟨inf, zv, hu, hif, _, hsz, _, _⟩ := elemOf_inv hel
    split at hk
    · rename_i c l hxl
      obtain ⟨hsc, hk⟩ := cond_none hk
      replace hsc := Nat.eq_of_beq_eq_true hsc
      have hx := (h.op x).drop.nilA (E := E) (t := t)
      rw [hxl] at hx
      have hlen : ∃ b n cap, a.eval x = .slice b n cap ∧ n = l.length ∧ l.length ≤ cap := by
        rcases hx.row_inv with ⟨rfl, b, cap, hy⟩ | ⟨B, o', cap, f, hy, hB, hl, hc, hv⟩
        · exact ⟨b, 0, cap, hy, rfl, Nat.zero_le _⟩
        · exact ⟨_, _, cap, hy, rfl, hl⟩
      obtain ⟨b, n, cap, hy, rfl, hcap⟩ := hlen
      rw [hy] at hx
      have fin : ∀ {i j : Nat} {v : AV U}, v = .row c ((l.take j).drop i) → ((lo.map a.eval = none ∧ i = 0) ∨ ∃ k, lo.map a.eval = some (.int k (i : Int))) → ((hi.map a.eval = none ∧ j = l.length) ∨ ∃ k, hi.map a.eval = some (.int k (j : Int))) →
          i ≤ j → j ≤ l.length → K v [] = some r → Told E nt w0 N0 R s a o K r := by
        rintro i j v rfl h1 h2 hij hj hk
        refine told_value h hk ?_ (hx.sub hij hj)
        simp only [execOp, ho]
        refine run_value ?_
        have hb := run_sliceBounds (P := E.P) (w := R.w) (n := l.length) (cap := cap) h1 h2 hij (by omega)
        simp only [Option.map_none]
        simp [Instr.sliceAt, Instr.slice, run_underlying' R.w hu, hy, hb, sizeOf, run_typeInfo' R.w hif, hsz, hsc]
      have hop : ∀ {z : Option Operand} {k : IntKind} {n : Int}, z.map s.op = some (.flat (.int k n)) → z.map a.eval = some (.int k n) := by
        intro z k n hz
        cases z with
        | none => cases hz
        | some q =>
          simp only [Option.map_some, Option.some.injEq] at hz ⊢
          have := h.op q
          rw [hz] at this
          exact this.flat_inv
      have hno : ∀ {z : Option Operand}, z.map s.op = none → z.map a.eval = none := by
        intro z hz
        cases z with
        | none => rfl
        | some q => cases hz
      split at hk
      · rename_i e1 e2
        exact fin (i := 0) (j := l.length) (by simp) (.inl ⟨hno e1, rfl⟩) (.inl ⟨hno e2, rfl⟩) (Nat.zero_le _) (Nat.le_refl _) hk
      · rename_i k i e1 e2
        obtain ⟨hin, hk⟩ := cond_none hk
        obtain ⟨a1, a2, a3⟩ := inS_spec hin
        exact fin (i := i.toNat) (j := l.length) (by simp) (.inr ⟨k, by rw [hop e1]; congr; omega⟩) (.inl ⟨hno e2, rfl⟩) (by omega) (Nat.le_refl _) hk
      · rename_i k j e1 e2
        obtain ⟨hin, hk⟩ := cond_none hk
        obtain ⟨a1, a2, a3⟩ := inS_spec hin
        exact fin (i := 0) (j := j.toNat) (by simp) (.inl ⟨hno e1, rfl⟩) (.inr ⟨k, by rw [hop e2]; congr; omega⟩) (by omega) (by omega) hk
      · rename_i k i k' j e1 e2
        obtain ⟨hin, hk⟩ := cond_none hk
        obtain ⟨a1, a2, a3⟩ := inS_spec hin
        exact fin (i := i.toNat) (j := j.toNat) rfl (.inr ⟨k, by rw [hop e1]; congr; omega⟩) (.inr ⟨k', by rw [hop e2]; congr; omega⟩) (by omega) (by omega) hk
      · cases hk
    · cases hk
  · cases hk
theorem told_len {o : Oper} {c : Call} {K : AV U → Eff U → Option ρ} {r : ρ} (h : SR E.D nt w0 N0 R s a) (ho : o.op = .call c) (hc : c.callee = .builtin .len)
    (hk : lenC E (lk s.o) c.argTypes (c.args.toList.map s.op) (fun v => K v []) = some r) : Told E nt w0 N0 R s a o K r := by
  unfold lenC at hk
  split at hk
  · rename_i id hargs
    split at hk
    · rename_i t ht
      split at hk
      · rename_i e c' l hu hob
        obtain ⟨vx, ax, hvx⟩ := map_get0 h hargs 0 (.vs id) rfl
        obtain ⟨b, n, cap, e1, hy⟩ := hvx.vs_inv
        obtain ⟨b', cap', e2, _⟩ := h.objs id _ hob
        rw [e1] at e2
        cases e2
        subst hy
        refine told_value h hk (run_builtin ho hc ?_) (.flat _)
        simp only [builtin]
        refine run_value ?_
        simp only [Builtin.len_, ht, ax]
        simp [run_underlying' R.w hu, goInt]
      · cases hk
    · cases hk
  · rename_i id hargs
    split at hk
    · rename_i t ht
      split at hk
      · rename_i k' e' w' ka va ck cv l hu hob
        obtain ⟨vx, ax, hvx⟩ := map_get0 h hargs 0 (.mp id) rfl
        obtain ⟨B, e1, hy⟩ := hvx.mp_inv
        obtain ⟨B', e2, hor⟩ := h.objs id _ hob
        rw [e1] at e2
        have hBB : B = B' := by
          cases B <;> cases B' <;> simp at e2
          · rfl
          · rw [e2]
        subst hBB
        subst hy
        refine told_value h hk (run_builtin ho hc ?_) (.flat _)
        simp only [builtin]
        refine run_value ?_
        simp only [Builtin.len_, ht, ax]
        rcases hor with ⟨rfl, rfl, _⟩ | ⟨b, es, clock, rfl, _, hheap, hl, _⟩
        · simp [run_underlying' R.w hu, goInt]
        · simp [run_underlying' R.w hu, goInt, run_getObj_map _ _ _ _ hheap, hl]
      · cases hk
    · cases hk
  · rename_i ka va ck cv l hargs
    split at hk
    · rename_i t ht
      split at hk
      · rename_i k' e' hu
        obtain ⟨vx, ax, hvx⟩ := map_get0 h hargs 0 (.fm ka va ck cv l) rfl
        obtain ⟨B, l', rfl, hl', hor⟩ := hvx.fm_inv
        have hle : l'.length = l.length := by
          rcases hl' with rfl | ⟨hp, _⟩
          · rfl
          · exact hp.length_eq
        refine told_value h hk (run_builtin ho hc ?_) (.flat _)
        simp only [builtin]
        refine run_value ?_
        simp only [Builtin.len_, ht, ax]
        rcases hor with ⟨rfl, rfl⟩ | ⟨b, es, clock, rfl, hheap, hl, _⟩
        · simp [run_underlying' R.w hu, goInt, ← hle]
        · simp [run_underlying' R.w hu, goInt, run_getObj_map _ _ _ _ hheap, hl, hle]
      · cases hk
    · cases hk
  · refine told_builtin (g := fun v => nilA E (c.argTypes.getD 0 0) v.drop) (fun _ _ h => h.drop.nilA) h ho hc ?_
    have : (c.args.toList.map s.op).map (fun v => nilA E (c.argTypes.getD 0 0) v.drop) = c.args.toList.map fun x => nilA E (c.argTypes.getD 0 0) (s.op x).drop := by simp
    rw [this] at hk
    revert hk
    cases builtinA E .len c.argTypes (c.args.toList.map fun x => nilA E (c.argTypes.getD 0 0) (s.op x).drop) with
    | none => intro hk; cases hk
    | some v => exact fun hk => hk
set_option maxRecDepth 20000 in
theorem told_makeSlice (he : EnvOk E) {o : Oper} {t : TypeId} {x y : Operand} {K : AV U → Eff U → Option ρ} {r : ρ} (h : SR E.D nt w0 N0 R s a) (ho : o.op = .makeSlice t x y)
    (hk : opK E o s.op (lk s.o) K = some r) : Told E nt w0 N0 R s a o K r := by
  unfold opK at hk
  simp only [ho] at hk
  unfold makeSliceC at hk
  split at hk
  case h_2 => cases hk
  rename_i e c sz by_ d n m hel hd hxn hym
  obtain ⟨inf, zv, hu, hi, hz, hsz, hszc, hpos, hby, hbpos, hzs⟩ := elemOf_inv hel
  split at hk
  · cases hk
  rename_i z hzz
  obtain ⟨i', u, hi', hu', hzl, hzr⟩ := zeroCells_inv hzz
  rw [hi] at hi'
  cases hi'
  rw [hz] at hu'
  cases hu'
  split at hk
  case h_2 => cases hk
  rename_i q hq
  split at hk
  case h_2 => cases hk
  rename_i hfd
  obtain ⟨hc, hk2⟩ := cond_none hk
  clear hk
  simp only [Bool.and_eq_true, decide_eq_true_eq] at hc
  obtain ⟨⟨h0, rfl⟩, hsmall⟩ := hc
  obtain ⟨N, rfl⟩ := Int.eq_ofNat_of_zero_le h0
  have hsmallN : N * by_ ≤ 140737488355328 := by
    have h2 : ((N * by_ : Nat) : Int) ≤ 140737488355328 := by rw [Int.natCast_mul]; exact hsmall
    omega
  have hN : N ≤ 140737488355328 := Nat.le_trans (Nat.le_mul_of_pos_right _ (by omega)) hsmallN
  have hx := h.op x
  rw [hxn] at hx
  have hx := hx.flat_inv
  have hy := h.op y
  rw [hym] at hy
  have hy := hy.flat_inv
  let arr : Array Value := (Array.range (N * sz)).map fun k => zv.cells[k % zv.cells.size]!
  have hasz : arr.size = N * sz := by simp [arr]
  have hw : IntKind.i64.wrap (N : Int) = (N : Int) := by rw [IntKind.wrap_i64]; omega
  have hrun : (execOp a.eval o).run E.P R.w = .ok (.value (.slice (some ⟨R.w.heap.size, 0, none⟩) N N)) (R.w.alloc (.cells arr e)) := by
    simp only [execOp, ho]
    refine run_value ?_
    have hb1 : ¬ ((by_ : Int) * (N : Int) > 2 ^ 48) := by
      have : (by_ : Int) * (N : Int) = ((N * by_ : Nat) : Int) := by rw [Nat.mul_comm]; simp
      rw [this]; omega
    have hemp : N * sz = 0 → arr = #[] := fun h0 => by apply Array.eq_empty_of_size_eq_zero; omega
    have hb2 : ¬ (281474976710656 < (by_ : Int) * (N : Int)) := by
      have : (by_ : Int) * (N : Int) = ((N * by_ : Nat) : Int) := by rw [Nat.mul_comm]; simp
      rw [this]; omega
    have hN0 : ¬ ((N : Int) < 0) := by omega
    by_cases h00 : N * inf.size = 0
    · have harr := hemp (by rw [← hsz]; exact h00)
      have hz0 : ∀ f : Nat → Value, (Array.range 0).map f = #[] := fun f => by simp
      simp [Instr.makeSlice, hx, hy, asInt, asIntOf, run_underlying' R.w hu, run_typeInfo' R.w hi, hby, hw, hb2, hN0, sizeOf, h00, newRow, Go.newObj, Sem.run, harr, hz0]
    · simp [Instr.makeSlice, hx, hy, asInt, asIntOf, run_underlying' R.w hu, run_typeInfo' R.w hi, hby, hw, hb2, hN0, sizeOf, h00, zeroValue, hz, newRow, Go.newObj, Sem.run]
      simp [arr, hsz]
  obtain ⟨d1, d2, d3⟩ := decs_spec he.law 1 z [q] hq
  have hcell : ∀ (i : Nat) (x : U.El c), (List.replicate ((N : Int).toNat) q)[i]? = some x → ∀ (j : Nat) (v : AV U), (E.D.enc c x)[j]? = some v → ∃ y, arr[i * E.D.size c + j]? = some y ∧ VR E.D R v y := by
    intro i x hx j v hv
    have hil : i < N := by have := (List.getElem?_eq_some_iff.1 hx).1; simpa using this
    have hxq : x = q := by
      rw [List.getElem?_replicate] at hx
      split at hx
      · cases hx; rfl
      · cases hx
    subst hxq
    have hjl : j < E.D.size c := by have := (List.getElem?_eq_some_iff.1 hv).1; rwa [he.law.enc_len] at this
    have hlt : i * E.D.size c + j < N * sz := by
      have : (i + 1) * E.D.size c ≤ N * E.D.size c := Nat.mul_le_mul_right _ hil
      rw [Nat.succ_mul] at this
      rw [hszc]
      omega
    have hzj := d3 0 x rfl j v hv
    rw [Nat.zero_mul, Nat.zero_add] at hzj
    have hmod : (i * E.D.size c + j) % zv.cells.size = j := by
      rw [hzs, hszc, Nat.add_comm, Nat.add_mul_mod_self_right, Nat.mod_eq_of_lt hjl]
    have hjz : j < zv.cells.size := by rw [hzs, hszc]; exact hjl
    refine ⟨zv.cells[j]'hjz, ?_, hzr _ _ j v _ hzj (Array.getElem?_eq_getElem hjz)⟩
    have : arr[i * E.D.size c + j]? = some (zv.cells[(i * E.D.size c + j) % zv.cells.size]!) := by
      simp only [arr, Array.getElem?_map, Array.getElem?_range, if_pos hlt, Option.map_some]
    rw [this, hmod, getElem!_pos zv.cells j hjz]
  have hn := h.none d hfd
  have hcap : N * E.D.size c ≤ arr.size := by rw [hasz, hszc]; exact Nat.le_refl _
  have htn : ((N : Int).toNat) = N := by omega
  cases hvd : E.vecs d with
  | true =>
    rw [hvd, cond_true] at hk2
    refine ⟨_, _, hk2, fun next Q hnext => ?_⟩
    unfold Oper.wp
    rw [hrun]
    let R' := R.fresh (.cells arr e) d (E.D.size c) (fun _ => True) (some (some ⟨R.w.heap.size, 0, none⟩, N, N))
    have hle : R.le R' := Rl.fresh_le hn.1 hn.2
    refine hnext _ R' hle (.vs (by simp [R', Rl.fresh])) (h.fresh hfd ?_ (fun _ _ => True.intro))
    refine ⟨some ⟨R.w.heap.size, 0, none⟩, N, by simp [Rl.fresh], .inr ⟨R.w.heap.size, arr, e, rfl, by simp [Rl.fresh], ?_, by simp, hcap, fun i x hx j v y hv hy => ?_⟩⟩
    · show (R.w.heap.push _)[R.w.heap.size]? = _
      simp
    · obtain ⟨y', h1, h2⟩ := hcell i x hx j v hv
      rw [h1] at hy
      cases hy
      exact h2.mono hle
  | false =>
    rw [hvd, cond_false] at hk2
    refine ⟨_, _, hk2, fun next Q hnext => ?_⟩
    unfold Oper.wp
    rw [hrun]
    let R' := R.fresh (.cells arr e) d sz (fun i => N * E.D.size c ≤ i) (some (some ⟨R.w.heap.size, 0, none⟩, N, N))
    have hle : R.le R' := Rl.fresh_le hn.1 hn.2
    have hblk : R'.w.heap[R.w.heap.size]? = some (.cells arr e (0, 0)) := by
      show (R.w.heap.push _)[R.w.heap.size]? = _
      simp
    have hrow : RowAt E.D R' R.w.heap.size 0 c (List.replicate ((N : Int).toNat) q) := by
      intro i x hx j v hv
      obtain ⟨y', h1, h2⟩ := hcell i x hx j v hv
      have hlt : i * E.D.size c + j < arr.size := (Array.getElem?_eq_some_iff.1 h1).1
      refine ⟨y', by rw [Nat.zero_add]; simp [World.cell?, hblk, h1], ?_, h2.mono hle⟩
      rw [Nat.zero_add]
      rintro (hN' | ⟨_, hN'⟩)
      · have := h.nlt _ _ hN'; omega
      · have hN' : N * E.D.size c ≤ i * E.D.size c + j := hN'
        rw [hasz, hszc] at hlt
        omega
    have hrv := hrow.vr (cap := N) (by show R.w.heap.size < (R.w.heap.push _).size; simp) (by simp)
    rw [List.length_replicate, htn] at hrv
    refine hnext _ R' hle (.tip (by simp [R', Rl.fresh]) (by rw [htn]; exact hrv)) (h.fresh hfd ?_ (fun hw => hw.elim))
    exact ⟨some ⟨R.w.heap.size, 0, none⟩, N, N, by simp [Rl.fresh], .inr ⟨R.w.heap.size, arr, e, rfl, by simp [Rl.fresh], hblk, Nat.le_refl _, by rw [hasz]; exact Nat.le_refl _, fun i hi => .inr ⟨rfl, by rw [hszc] at hi; exact hi⟩⟩⟩
theorem startT_get : ∀ (args : List (AV U)) (i n : Nat), lk (startT args i) n = if i ≤ n then args[n - i]? else none
  | [], i, n => by simp [startT, lk]
  | v :: r, i, n => by
    unfold startT
    simp only [lk]
    cases hb : Nat.beq i n with
    | true =>
      have := Nat.eq_of_beq_eq_true hb
      subst this
      simp
    | false =>
      have hne : i ≠ n := fun e => by subst e; rw [Nat.beq_refl] at hb; cases hb
      simp only [cond_false]
      rw [startT_get r (i + 1) n]
      by_cases h : i + 1 ≤ n
      · rw [if_pos h, if_pos (by omega), show n - i = (n - (i + 1)) + 1 by omega, List.getElem?_cons_succ]
      · rw [if_neg h, if_neg (by omega)]
theorem sr_start {D : Codec U} (L : Lawful D) {R : Rl} {nt : Nat} {args : List (AV U)} {vs : Array Value} (hN : ∀ B i, R.N B i → B < R.w.heap.size) (hlen : args.length = vs.size)
    (hargs : ∀ (i : Nat) (p : AV U) (q : Value), args[i]? = some p → vs[i]? = some q → VR D R p q) (hc : args.all c1 = true) (hsz : vs.size ≤ nt) (hnt : nt ≤ gb) :
    SR D nt ⟨R.w, fun _ => False, vs⟩ R.N { R with blk := fun _ => none, hdr := fun _ => none, ar := fun _ => [] } ⟨startT args 0, []⟩ { tmps := vs ++ Array.replicate (nt - vs.size) undef, defers := [] } := by
  refine { objs := fun id o ho => (by cases ho), none := fun id _ => ⟨rfl, rfl⟩, own := fun id o B es ho => (by cases ho), inj := fun id id' o o' B es es' ho => (by cases ho),
           keep := .refl _ _ _, le0 := fun B i _ h => ⟨rfl, h⟩, nn := fun _ _ _ _ h => h, nlt := hN, ri := .nil (fun _ => rfl) (fun _ _ _ e => (by cases e)), size := by simp; omega, defers := rfl, ntle := hnt, tm := fun n => ?_ }
  simp only [St.get, startT_get, Nat.zero_le, if_true, Nat.sub_zero]
  cases hg : args[n]? with
  | none => exact .undef _
  | some v =>
    have hlt := (List.getElem?_eq_some_iff.1 hg).1
    have hvs : vs[n]? = some (vs[n]'(by omega)) := Array.getElem?_eq_getElem (by omega)
    have hv := hargs n v _ hg hvs
    rw [tv_lt (by omega), Array.getD_eq_getD_getElem?, Array.getElem?_append_left (by omega), hvs]
    exact hv.closed (R := R) (R' := { R with blk := fun _ => none, hdr := fun _ => none, ar := fun _ => [] }) L rfl (fun _ _ _ h => h) (List.all_eq_true.mp hc v (List.mem_of_getElem? hg))
theorem told_call (he : EnvOk E) {o : Oper} {c : Call} {K : AV U → Eff U → Option ρ} {r : ρ} (h : SR E.D nt w0 N0 R s a) (ho : o.op = .call c)
    (hk : opK E o s.op (lk s.o) K = some r) : Told E nt w0 N0 R s a o K r := by
  unfold opK at hk
  simp only [ho] at hk
  split at hk
  · rename_i hc
    exact told_append he h ho hc hk
  · rename_i hc
    exact told_len h ho hc hk
  · rename_i b hne hne2 hc
    exact told_builtin (g := AV.drop) (fun _ _ h => h.drop) h ho hc hk
  · rename_i g hc
    split at hk
    · rename_i f caps e1
      have hg := h.op g
      rw [e1] at hg
      obtain ⟨ys, hy, hyl, hyv⟩ := hg.fn_inv
      obtain ⟨d, hd, hk2⟩ := kont_some hk
      obtain ⟨hcl, hk3⟩ := cond_none hk2
      obtain ⟨x, hx, hk4⟩ := kont_some hk3
      obtain ⟨y, hfy, hk5⟩ := Option.bind_eq_some_iff.1 hk4
      have hargs : ∀ (i : Nat) (p : AV U) (q : Value), (argsA E c s.op ++ caps)[i]? = some p → (c.args.map a.eval ++ ys)[i]? = some q → VR E.D R p q := by
        intro i p q hp hq
        rw [List.getElem?_append] at hp
        rw [Array.getElem?_append] at hq
        simp only [argsA, argsFrom_len, Array.length_toList] at hp
        simp only [Array.size_map] at hq
        split at hp
        · rename_i hlt
          rw [if_pos hlt] at hq
          rw [argsFrom_get, Option.map_eq_some_iff] at hp
          obtain ⟨x, hx, rfl⟩ := hp
          rw [Array.getElem?_map, show c.args[i]? = some x by simpa using hx] at hq
          simp only [Option.map_some, Option.some.injEq] at hq
          subst hq
          exact (h.op x).drop.nilA
        · rename_i hge
          rw [if_neg hge] at hq
          exact hyv _ p q hp hq
      simp only [Bool.and_eq_true] at hcl
      obtain ⟨⟨hcl1, hcl2⟩, hcl3⟩ := hcl
      have hlen : (argsA E c s.op ++ caps).length = (c.args.map a.eval ++ ys).size := by simp [hyl, argsA, argsFrom_len]
      have hsz : (c.args.map a.eval ++ ys).size ≤ d.nt := by rw [← hlen]; exact Nat.le_of_ble_eq_true hcl3
      refine ⟨(d.fin y).get 0, [], hk5, fun next Q hnext => ?_⟩
      unfold Oper.wp
      have hrun : (execOp a.eval o).run E.P R.w = .ok (.enter f (c.args.map a.eval ++ ys)) R.w := by
        simp only [execOp, ho, resolve, hc, hy, Deferred.ofValue, Sem.run_bind, Sem.run_pure, Result.andThen_ok, invoke]
        rw [show (#[] : Array Value) ++ Array.map a.eval c.args = Array.map a.eval c.args from by simp]
        exact (he.fa hd).2 _ _
      rw [hrun]
      have hS := (he.fa hd).1.2 ⟨startT (argsA E c s.op ++ caps) 0, []⟩ x y hx hfy ⟨R.w, fun _ => False, c.args.map a.eval ++ ys⟩ { R with blk := fun _ => none, hdr := fun _ => none, ar := fun _ => [] } (c.args.map a.eval ++ ys) rfl rfl hsz
        (sr_start he.law (R := R) (fun B i hB => h.nlt B i hB) hlen hargs hcl1 hsz (he.fa hd).1.1)
      refine Calls.mono hS (fun e w' ⟨v, R', hev, hw', hs'⟩ => ?_)
      subst hev
      subst hw'
      have hbl : Below R.w.heap.size R.w R'.w := ⟨hs'.keep.os, hs'.keep.tape, hs'.keep.output, hs'.keep.size, fun k hk => hs'.keep.block k hk (fun h => h)⟩
      have hle : R.le { R with w := R'.w } := ⟨fun _ _ e => e, fun _ _ e => e, fun _ _ _ e => e, hbl.size, fun B i hB hN => ⟨obs_block (hbl.block B hB), hN⟩⟩
      have hvr : VR E.D R' ((d.fin y).get 0) v := by
        have := hs'.tm 0
        rw [tv_lt (by unfold gb; omega)] at this
        exact this
      have hvr : VR E.D { R with w := R'.w } ((d.fin y).get 0) v := hvr.closed (R := R') (R' := { R with w := R'.w }) he.law rfl (fun B i hB hN => hs'.nn B i (h.nlt B i hN) (fun h => h) hN) (d.clo hcl2 y)
      exact hnext v { R with w := R'.w } hle hvr (h.calls hbl hle)
    · cases hk
  · cases hk
theorem told_move {o : Oper} {x : Operand} {K : AV U → Eff U → Option ρ} {r : ρ} (h : SR E.D nt w0 N0 R s a) (ho : o.op = .move x ∨ o.op = .assign x) (hk : moveC E (lk s.o) o.type o.dst (s.op x) K = some r) :
    Told E nt w0 N0 R s a o K r := by
  have hrun : (execOp a.eval o).run E.P R.w = .ok (.value (a.eval x)) R.w := by rcases ho with ho | ho <;> simp [execOp, ho]
  have hx := h.op x
  unfold moveC at hk
  split at hk
  · rename_i hv
    rw [hv] at hx
    have hy := hx.flat_inv
    split at hk
    · rename_i c d hc hd
      split at hk
      · rename_i hfd
        have hdn := h.none d hfd
        let R' : Rl := { R with hdr := fun k => if k = d then some (none, 0, 0) else R.hdr k }
        have hle : R.le R' := ⟨fun _ _ e => e, fun k p hp => by
          show (if k = d then _ else R.hdr k) = some p
          rw [if_neg (fun e => by subst e; rw [hdn.2] at hp; cases hp)]; exact hp, fun _ _ _ e => e, Nat.le_refl _, fun _ _ _ hN => ⟨rfl, hN⟩⟩
        cases hvd : E.vecs d with
        | true =>
          rw [hvd, cond_true] at hk
          refine ⟨_, _, hk, fun next Q hnext => ?_⟩
          unfold Oper.wp
          rw [hrun, hy]
          exact hnext _ R' hle (.vs (by simp [R'])) (h.nilVec hfd)
        | false =>
          rw [hvd, cond_false] at hk
          refine ⟨_, _, hk, fun next Q hnext => ?_⟩
          unfold Oper.wp
          rw [hrun, hy]
          exact hnext _ R' hle (.tip (by simp [R']) .rownil) (h.nilTip hfd)
      · cases ho' : E.own with
        | true => rw [ho'] at hk; exact told_value h hk hrun (h.op x)
        | false => rw [ho'] at hk; exact told_value h hk hrun (by rw [hy]; exact .rownil)
    · exact told_value h hk hrun (h.op x)
  · exact told_value h hk hrun hx
theorem told_makeFunc {o : Oper} {fn : Fn} {first caps : Array Operand} {K : AV U → Eff U → Option ρ} {r : ρ} (h : SR E.D nt w0 N0 R s a) (ho : o.op = .makeFunc fn first caps)
    (hk : opK E o s.op (lk s.o) K = some r) : Told E nt w0 N0 R s a o K r := by
  unfold opK at hk
  simp only [ho] at hk
  split at hk
  · rename_i g hf
    have hf' : first = #[] := by cases first; simp_all
    subst hf'
    refine told_value (y := .func (.func g) #[] (caps.map a.eval)) h hk ?_ (.fn (by simp) (fun i x y hx hy => ?_))
    · simp only [execOp, ho]
      refine run_value ?_
      simp [Instr.makeFunc]
    · simp only [List.getElem?_map, Option.map_eq_some_iff] at hx
      obtain ⟨z, hz, rfl⟩ := hx
      have : caps[i]? = some z := by simpa using hz
      simp only [Array.getElem?_map, this, Option.map_some, Option.some.injEq] at hy
      subst hy
      exact h.op z
  · cases hk
theorem opK_told (he : EnvOk E) {o : Oper} {K : AV U → Eff U → Option ρ} {r : ρ} (h : SR E.D nt w0 N0 R s a) (hk : opK E o s.op (lk s.o) K = some r) : Told E nt w0 N0 R s a o K r := by
  cases ho : o.op with
  | move x => exact told_move h (.inl ho) (by simpa only [opK, ho] using hk)
  | assign x => exact told_move h (.inr ho) (by simpa only [opK, ho] using hk)
  | pick c x y => exact told_pick h ho hk
  | alloc t => exact told_alloc he h ho hk
  | box t x => exact told_box he h ho hk
  | build t parts => exact told_build h ho hk
  | buildSlice t n parts => exact told_buildSlice he h ho hk
  | slice t x lo hi mx => exact told_slice h ho hk
  | makeSlice t x y => exact told_makeSlice he h ho hk
  | load t x => exact told_load he h ho hk
  | store t x y => exact told_store he h ho hk
  | binOp op t x y t' => exact told_binOp h ho hk
  | unOp op t x => exact told_unOp h ho hk
  | convert src dst x => exact told_convert h ho hk
  | fieldAddr t x f => exact told_fieldAddr h ho hk
  | field t x f => exact told_field h ho hk
  | indexAddr t x i => exact told_indexAddr h ho hk
  | index t x i => exact told_index he h ho hk
  | extract x i => exact told_extract h ho hk
  | lookup t x ix ok =>
    simp only [opK, ho] at hk
    obtain ⟨v, res, h1, h2, h3⟩ := lookK_run he (h.op x) (h.op ix).drop hk
    exact told_value h h1 (by simp only [execOp, ho]; exact run_value h3) h2
  | nilCheck x => exact told_nilCheck h ho hk
  | makeFunc fn first caps => exact told_makeFunc h ho hk
  | call c => exact told_call he h ho hk
  | _ => unfold opK at hk; simp only [ho] at hk; cases hk
end
end Go.Ev
