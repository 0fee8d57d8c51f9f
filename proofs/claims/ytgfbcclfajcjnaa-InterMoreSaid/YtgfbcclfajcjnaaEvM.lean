import Derived.Test.YtgfbcclfajcjnaaEvK
universe u
namespace Go.Ev
set_option linter.unusedVariables false
set_option linter.unusedSimpArgs false
open Go.RowKit (Below)
variable {U : Univ} {ρ : Type}
section
variable {E : Env U} {nt : Nat} {w0 : Cx} {N0 : Nat → Nat → Prop} {R : Rl} {s : St U} {a : Act}
theorem VR.sm_inv {D : Codec U} {R : Rl} {A : Nat} {j : Option Nat} {y : Value} (h : VR D R (.sm A j) y) : (j = none ∧ y = .map none) ∨ ∃ k b, j = some k ∧ (R.ar A)[k]? = some b ∧ y = .map (some b) := by
  cases h with
  | smn => exact .inl ⟨rfl, rfl⟩
  | sm h => exact .inr ⟨_, _, rfl, h, rfl⟩
theorem zeroMap_run {et : TypeId} (h : zeroMap E.P et = true) : (zeroValue et).run E.P R.w = .ok (.map none) R.w := by
  unfold zeroMap at h
  split at h
  · rename_i i hi
    split at h
    · rename_i hz
      simp [zeroValue, run_typeInfo' R.w hi, hz]
    · cases h
  · cases h
theorem look_om (he : EnvOk E) {A b clock : Nat} {es : Array MapEntry} {t kt et : TypeId} {ka ok : Bool} {ck : U.C} {l : List (U.El ck × Nat)} {k : U.El ck} {X : Value} (hu : E.P.underlying t = some (.map kt et))
    (hheap : R.w.heap[b]? = some (.map es clock)) (hl : es.size = l.length)
    (hrel : ∀ (i : Nat) (x : U.El ck × Nat) (e : MapEntry), l[i]? = some x → es[i]? = some e → VR E.D R (packV ka (E.D.enc ck x.1)) e.key ∧ VR E.D R (.sm A (some x.2)) e.val)
    (hkey : KeyOk E R kt ck ka k X) (hz : zeroMap E.P et = true) :
    ∃ res, VR E.D R (.sm A (mget (E.D.keq ck k) l)) res ∧ (Instr.lookup t (.map (some b)) X ok).run E.P R.w = .ok (if ok then .tuple #[res, .bool (mget (E.D.keq ck k) l).isSome] else res) R.w := by
  have hzr := zeroMap_run (R := R) hz
  obtain ⟨hf, hc, hfound, _⟩ := keyOk_find he.law hkey hl (fun i x e hx he' => (hrel i x e hx he').1)
  have hc := hc es.isEmpty
  have hmg := mget_fidx (eq := E.D.keq ck k) (l := l) (i := 0)
  cases hfi : fidx (E.D.keq ck k) l 0 with
  | none =>
    rw [hfi] at hf hmg
    refine ⟨.map none, by rw [hmg]; exact .smn, ?_⟩
    rw [hmg]
    simp only [Instr.lookup, Sem.run_bind, run_underlying' R.w hu, Result.andThen_ok, Sem.run_pure, MapKept.run_getObj_map hheap, hc, hf, hzr]
    all_goals (cases ok <;> rfl)
  | some j =>
    obtain ⟨_, hjl, p, hp, _⟩ := fidx_ge hfi
    simp only [Nat.sub_zero] at hp
    have hje : j < es.size := by omega
    have hej : es[j]? = some es[j] := Array.getElem?_eq_getElem hje
    rw [hfi] at hf hmg
    simp only [Nat.sub_zero, hp, Option.map_some] at hmg
    have hej2 : es.toList[j]? = some es[j] := by simp [hej]
    simp only [hej2, Option.map_some] at hf
    refine ⟨es[j].val, by rw [hmg]; exact (hrel j p _ hp hej).2, ?_⟩
    rw [hmg]
    simp only [Instr.lookup, Sem.run_bind, run_underlying' R.w hu, Result.andThen_ok, Sem.run_pure, MapKept.run_getObj_map hheap, hc, hf, Option.map_some]
    all_goals (cases ok <;> rfl)
theorem pair_vr {ok : Bool} {v : AV U} {b : Bool} {res : Value} (h : VR E.D R v res) :
    VR E.D R (match ok with | true => .tup [v, .flat (.bool b)] | false => v) (if ok then .tuple #[res, .bool b] else res) := by
  cases ok with
  | true =>
    simp only [if_true]
    refine .tup (by simp) (fun i u v hu hv => ?_)
    match i, hu, hv with
    | 0, hu, hv => simp at hu hv; subst hu; subst hv; exact h
    | 1, hu, hv => simp at hu hv; subst hu; subst hv; exact .flat _
  | false => simpa using h
theorem ar_holds (h : SR E.D nt w0 N0 R s a) {A : Nat} {ka va : Bool} {ck cv : U.C} {L : List (List (U.El ck × U.El cv))} (hA : lk s.o A = some (.ar ka va ck cv L)) {j : Option Nat} {y : Value} (hy : VR E.D R (.sm A j) y) :
    ∃ B, y = .map B ∧ HoldsM E.D R B ka va ck cv (arAt L j) := by
  obtain ⟨h1, _, h3⟩ := h.objs A _ hA
  rcases hy.sm_inv with ⟨rfl, rfl⟩ | ⟨k, b, rfl, hb, rfl⟩
  · exact ⟨none, rfl, .inl ⟨rfl, rfl⟩⟩
  · have hlt : k < L.length := by rw [← h1]; exact (List.getElem?_eq_some_iff.1 hb).1
    have hlk : L[k]? = some L[k] := List.getElem?_eq_getElem hlt
    obtain ⟨_, es, clock, k2, k3, k4⟩ := h3 k b _ hb hlk
    refine ⟨some b, rfl, .inr ⟨b, es, clock, rfl, k2, ?_⟩⟩
    have : arAt L (some k) = L[k] := by simp [arAt, List.getD_eq_getElem?_getD, hlk]
    rw [this]
    exact ⟨k3, k4⟩
theorem arLook_told (he : EnvOk E) (h : SR E.D nt w0 N0 R s a) {o : Oper} {t : TypeId} {x ix : Operand} {ok : Bool} {K : AV U → Eff U → Option ρ} {r : ρ} (ho : o.op = .lookup t x ix ok)
    (hk : arLook E (lk s.o) t (s.op x) (s.op ix).drop ok K = some r) : Told E nt w0 N0 R s a o K r := by
  unfold arLook at hk
  split at hk
  · rename_i kt et id hu hx
    split at hk
    · rename_i A ka ck l hob
      split at hk
      · rename_i k hkc
        obtain ⟨hz, hk9⟩ := cond_none hk
        have hxv := h.op x
        rw [hx] at hxv
        obtain ⟨B, hhd, hy⟩ := hxv.mp_inv
        obtain ⟨b, es, clock, e1, _, e3, ⟨e4, _⟩, e5⟩ := h.objs id _ hob
        rw [hhd] at e1
        have hBB : B = some b := by cases B <;> simp at e1; rw [e1]
        subst hBB
        have hkey := keyC_ok he.law hkc (h.op ix).drop
        obtain ⟨res, h1, h2⟩ := look_om he (ok := ok) hu e3 e4 e5 hkey hz
        exact told_value h hk9 (by simp only [execOp, ho, hy]; exact run_value h2) (pair_vr h1)
      · cases hk
    · cases hk
  · rename_i kt et A j hu hx
    split at hk
    · rename_i ka va ck cv L hob
      split at hk
      · rename_i k z hkc hz
        split at hk
        · rename_i q hq
          obtain ⟨hsh, hk9⟩ := cond_none hk
          have hxv := h.op x
          rw [hx] at hxv
          obtain ⟨B, hy, hor⟩ := ar_holds h hob hxv
          have hkey := keyC_ok he.law hkc (h.op ix).drop
          obtain ⟨res, h1, h2⟩ := look_run he (ok := ok) hu hor hkey hz hq hsh
          exact told_value h hk9 (by simp only [execOp, ho, hy]; exact run_value h2) (look_vr h1)
        · cases hk
      · cases hk
    · cases hk
  · cases hk
theorem SR.newAr {D : Codec U} (h : SR D nt w0 N0 R s a) {A : Nat} {ka va : Bool} {ck cv : U.C} (hA : lk s.o A = none) : SR D nt w0 N0 R (s.setO A (.ar ka va ck cv [])) a := by
  have hn := h.none A hA
  have har := h.ri.nr A hA
  refine { objs := fun n o ho => ?_, none := fun n hn' => ?_, own := fun n o B es ho ha hb => ?_, inj := fun n m o o' B es es' h1 h2 a1 a2 b1 b2 => ?_, keep := h.keep, le0 := h.le0, nn := h.nn, nlt := h.nlt, ri := h.ri.of (fun k hk => by rw [lk_setO] at hk; split at hk; cases hk; exact hk) rfl (Nat.le_refl _) (fun n B e hb => .inl ⟨n, e, hb⟩), size := h.size, defers := h.defers, ntle := h.ntle, tm := h.tm }
  · rw [lk_setO] at ho
    split at ho
    · rename_i e; subst e; cases ho
      exact ⟨by rw [har]; rfl, by rw [har]; exact List.nodup_nil, fun j b l hj => by rw [har] at hj; simp at hj⟩
    · exact h.objs n o ho
  · rw [lk_setO] at hn'
    split at hn'
    · cases hn'
    · exact h.none n hn'
  · rw [lk_setO] at ho
    split at ho
    · rename_i e; subst e; rw [hn.1] at hb; cases hb
    · exact h.own n o B es ho ha hb
  · rw [lk_setO] at h1 h2
    split at h1
    · rename_i e; subst e; rw [hn.1] at b1; cases b1
    · split at h2
      · rename_i e; subst e; rw [hn.1] at b2; cases b2
      · exact h.inj n m o o' B es es' h1 h2 a1 a2 b1 b2
theorem SR.pushAr {D : Codec U} (h : SR D nt w0 N0 R s a) {A : Nat} {ka va : Bool} {ck cv : U.C} {L : List (List (U.El ck × U.El cv))} (hA : lk s.o A = some (.ar ka va ck cv L)) :
    ∃ R' : Rl, R'.w = R.w.alloc (.map #[] 0) ∧ R.le R' ∧ (R'.ar A)[L.length]? = some R.w.heap.size ∧ SR D nt w0 N0 R' (s.setO A (.ar ka va ck cv (L ++ [[]]))) a := by
  let R' : Rl := { w := R.w.alloc (.map #[] 0), N := fun B i => R.N B i ∨ B = R.w.heap.size, blk := R.blk, hdr := R.hdr, ar := fun n => if n = A then R.ar A ++ [R.w.heap.size] else R.ar n }
  obtain ⟨o1, o2, o3⟩ := h.objs A _ hA
  have hA' : R'.ar A = R.ar A ++ [R.w.heap.size] := if_pos rfl
  have hN' : ∀ n, n ≠ A → R'.ar n = R.ar n := fun n hn => if_neg hn
  have hsz : R'.w.heap.size = R.w.heap.size + 1 := by simp [R']
  have hold : ∀ k, k < R.w.heap.size → R'.w.heap[k]? = R.w.heap[k]? := fun k hk => Below.heap_alloc _ _ _ hk
  have hle : R.le R' := by
    refine ⟨fun _ _ e => e, fun _ _ e => e, fun n j b e => ?_, by omega, fun B i hB hN => ⟨obs_block (hold B hB), ?_⟩⟩
    · by_cases hn : n = A
      · subst hn
        rw [hA', List.getElem?_append_left (List.getElem?_eq_some_iff.1 e).1]
        exact e
      · rw [hN' n hn]; exact e
    · rintro (h1 | h1)
      · exact hN h1
      · omega
  have hmem : ∀ n b, b ∈ R'.ar n → b ∈ R.ar n ∨ (n = A ∧ b = R.w.heap.size) := fun n b hb => by
    by_cases hn : n = A
    · subst hn
      rw [hA', List.mem_append, List.mem_singleton] at hb
      exact hb.elim .inl fun e => .inr ⟨rfl, e⟩
    · rw [hN' n hn] at hb; exact .inl hb
  refine ⟨R', rfl, hle, by rw [hA', ← o1, List.getElem?_append_right (Nat.le_refl _), Nat.sub_self]; rfl, ?_⟩
  refine { objs := fun n o ho => ?_, none := fun n hn => ?_, own := fun n o B es ho ha hb => ?_, inj := fun n m o o' B es es' h1 h2 a1 a2 b1 b2 => ?_, keep := ?_, le0 := h.toSO.le0' hle, nn := fun B i hlt hg hB => .inl (h.nn B i hlt hg hB), nlt := ?_, ri := ?ri, size := h.size, defers := h.defers, ntle := h.ntle, tm := fun n => (h.tm n).mono hle }
  case ri =>
    refine ⟨fun n hn => ?_, fun n b hb => ?_, fun n b k es hb hk => ?_, fun n m b h1 h2 => ?_, fun k b es hk => by have := h.ri.blt k b es hk; omega⟩
    · rw [lk_setO] at hn
      split at hn
      · cases hn
      · rename_i hne
        rw [hN' n (fun e => hne e.symm)]
        exact h.ri.nr n hn
    · rw [hsz]
      rcases hmem n b hb with hb | ⟨_, rfl⟩
      · exact ⟨(h.ri.lt n b hb).1, by have := (h.ri.lt n b hb).2; omega⟩
      · exact ⟨.inl h.keep.size, by omega⟩
    · rcases hmem n b hb with hb | ⟨_, rfl⟩
      · exact h.ri.sep n b k es hb hk
      · have := h.ri.blt k _ es hk
        omega
    · rcases hmem n b h1 with h1 | ⟨e1, e2⟩ <;> rcases hmem m b h2 with h2 | ⟨e3, e4⟩
      · exact h.ri.inj n m b h1 h2
      · have := (h.ri.lt n b h1).2; omega
      · have := (h.ri.lt m b h2).2; omega
      · rw [e1, e3]
  · rw [lk_setO] at ho
    split at ho
    · rename_i e; subst e; cases ho
      refine ⟨by rw [hA']; simp [o1], ?_, fun j b l hj hl => ?_⟩
      · rw [hA', List.nodup_append]
        refine ⟨o2, by simp, fun x hx y hy => ?_⟩
        simp at hy
        subst hy
        have := (h.ri.lt A x hx).2
        omega
      · rw [hA'] at hj
        by_cases hlt : j < L.length
        · rw [List.getElem?_append_left (by omega)] at hj
          rw [List.getElem?_append_left hlt] at hl
          obtain ⟨k1, es, clock, k2, k3, k4⟩ := o3 j b l hj hl
          exact ⟨fun i => .inl (k1 i), es, clock, by rw [hold b (h.ri.lt A b (List.mem_of_getElem? hj)).2]; exact k2, k3, fun i x e hx he => ⟨(k4 i x e hx he).1.mono hle, (k4 i x e hx he).2.mono hle⟩⟩
        · rw [List.getElem?_append_right (by omega)] at hj
          rw [List.getElem?_append_right (by omega)] at hl
          have hj0 : j - L.length = 0 := by have := (List.getElem?_eq_some_iff.1 hl).1; simp at this; omega
          rw [o1, hj0] at hj
          rw [hj0] at hl
          simp at hj hl
          subst hj; subst hl
          exact ⟨fun i => .inr rfl, #[], 0, (MapKept.heap_alloc R.w _).1, ⟨rfl, MapKept.stamped_empty 0⟩, fun i x e hx => by simp at hx⟩
    · rename_i hne
      by_cases ha : o.alive
      · exact (h.objs n o ho).mono hle (fun B e hb => ⟨hold B (h.own n o B e ho ha hb).2.2, fun i hi => .inl hi⟩) (fun hn => hn) ⟨hN' n (fun e => hne e.symm), fun b hb => ⟨hold b (h.ri.lt n b hb).2, fun i hi => .inl hi⟩⟩
      · cases o <;> first | exact True.intro | exact absurd True.intro ha
  · rw [lk_setO] at hn
    split at hn
    · cases hn
    · exact h.none n hn
  · rw [hsz]
    rw [lk_setO] at ho
    have key : ∀ o', lk s.o n = some o' → o'.alive → (o.whole → o'.whole) → (o.whole → ∀ i, R'.N B i) ∧ (w0.w.heap.size ≤ B ∨ w0.G B) ∧ B < R.w.heap.size + 1 := fun o' h1 h2 h3 => by
      obtain ⟨q1, q2, q3⟩ := h.own n o' B es h1 h2 hb
      exact ⟨fun hw i => .inl (q1 (h3 hw) i), q2, by omega⟩
    split at ho
    · rename_i e; subst e; cases ho
      exact key _ hA True.intro (fun h => h)
    · exact key o ho ha (fun h => h)
  · have fix : ∀ k ok, lk (s.setO A (.ar ka va ck cv (L ++ [[]]))).o k = some ok → ok.alive → ∃ ok', lk s.o k = some ok' ∧ ok'.alive := by
      intro k ok hk' hak
      rw [lk_setO] at hk'
      split at hk'
      · rename_i e'; subst e'; exact ⟨_, hA, True.intro⟩
      · exact ⟨ok, hk', hak⟩
    obtain ⟨p, hp, hpa⟩ := fix n o h1 a1
    obtain ⟨q, hq, hqa⟩ := fix m o' h2 a2
    exact h.inj n m p q B es es' hp hq hpa hqa b1 b2
  · exact h.keep.below (Below.alloc (.refl _ _) (Nat.le_refl _) _) h.keep.size
  · rintro B i (hB | hB)
    · have := h.nlt B i hB; omega
    · omega
theorem SR.writeAr {D : Codec U} (h : SR D nt w0 N0 R s a) {A j b : Nat} {ka va : Bool} {ck cv : U.C} {L : List (List (U.El ck × U.El cv))} (hA : lk s.o A = some (.ar ka va ck cv L)) (hb : (R.ar A)[j]? = some b)
    {es : Array MapEntry} {clock : Nat} (hheap : R.w.heap[b]? = some (.map es clock)) {es' : Array MapEntry} {clock' : Nat} {l' : List (U.El ck × U.El cv)} (hsz' : es'.size = l'.length) (hst' : MapKept.Stamped es' clock')
    (hrel : ∀ R' : Rl, R.le R' → ∀ (i : Nat) (p : U.El ck × U.El cv) (e : MapEntry), l'[i]? = some p → es'[i]? = some e → VR D R' (packV ka (D.enc ck p.1)) e.key ∧ VR D R' (packV va (D.enc cv p.2)) e.val) :
    R.le { R with w := { R.w with heap := R.w.heap.setIfInBounds b (.map es' clock') } } ∧ SR D nt w0 N0 { R with w := { R.w with heap := R.w.heap.setIfInBounds b (.map es' clock') } } (s.setO A (.ar ka va ck cv (L.set j l'))) a := by
  obtain ⟨o1, o2, o3⟩ := h.objs A _ hA
  have hbm := List.mem_of_getElem? hb
  have hjl : j < L.length := by rw [← o1]; exact (List.getElem?_eq_some_iff.1 hb).1
  obtain ⟨k1, _⟩ := o3 j b L[j] hb (List.getElem?_eq_getElem hjl)
  obtain ⟨g1, g2⟩ := MapKept.heap_set (o' := .map es' clock') hheap
  generalize hR' : ({ R with w := { R.w with heap := R.w.heap.setIfInBounds b (.map es' clock') } } : Rl) = R'
  have hw : R'.w = { R.w with heap := R.w.heap.setIfInBounds b (.map es' clock') } := by rw [← hR']
  have hN : R'.N = R.N := by rw [← hR']
  have hbk : R'.blk = R.blk := by rw [← hR']
  have hhd : R'.hdr = R.hdr := by rw [← hR']
  have har : R'.ar = R.ar := by rw [← hR']
  have hsz : R'.w.heap.size = R.w.heap.size := by rw [hw]; simp
  have g1' : R'.w.heap[b]? = some (.map es' clock') := by rw [hw]; exact g1
  have g2' : ∀ k, k ≠ b → R'.w.heap[k]? = R.w.heap[k]? := by rw [hw]; exact g2
  have hle : R.le R' := ⟨fun _ _ e => by rw [hbk]; exact e, fun _ _ e => by rw [hhd]; exact e, fun _ _ _ e => by rw [har]; exact e, by omega, fun B i hB hn => ⟨obs_block (g2' B (fun e => hn (e ▸ k1 i))), by rw [hN]; exact hn⟩⟩
  refine ⟨hle, ?_⟩
  have hblt := (h.ri.lt A b hbm)
  refine { objs := fun n o ho => ?_, none := fun n hn => ?_, own := fun n o B es ho ha hb' => ?_, inj := fun n m o o' B es es' h1 h2 a1 a2 b1 b2 => ?_, keep := ?_, le0 := h.toSO.le0' hle, nn := by rw [hN]; exact h.nn, nlt := fun B i hB => by rw [hN] at hB; rw [hsz]; exact h.nlt B i hB,
           ri := h.ri.of (fun k hk => by rw [lk_setO] at hk; split at hk; cases hk; exact hk) har (by omega) (fun n B e hb' => .inl ⟨n, e, by rw [← hbk]; exact hb'⟩), size := h.size, defers := h.defers, ntle := h.ntle, tm := fun n => (h.tm n).mono hle }
  · rw [lk_setO] at ho
    split at ho
    · rename_i e; subst e; cases ho
      refine ⟨by rw [har, List.length_set]; exact o1, by rw [har]; exact o2, fun k b' l hk hl => ?_⟩
      rw [har] at hk
      by_cases hkj : j = k
      · subst hkj
        rw [hb] at hk
        cases hk
        rw [List.getElem?_set_self hjl] at hl
        cases hl
        exact ⟨fun i => by rw [hN]; exact k1 i, es', clock', g1', ⟨hsz', hst'⟩, hrel R' hle⟩
      · rw [List.getElem?_set_ne hkj] at hl
        obtain ⟨q1, es2, c2, q2, q3, q4⟩ := o3 k b' l hk hl
        have hne : b' ≠ b := fun e => by
          subst e
          obtain ⟨hk1, hk2⟩ := List.getElem?_eq_some_iff.1 hk
          obtain ⟨hj1, hj2⟩ := List.getElem?_eq_some_iff.1 hb
          exact hkj ((List.getElem_inj o2).1 (hj2.trans hk2.symm))
        exact ⟨fun i => by rw [hN]; exact q1 i, es2, c2, by rw [g2' b' hne]; exact q2, q3, fun i x e hx he => ⟨(q4 i x e hx he).1.mono hle, (q4 i x e hx he).2.mono hle⟩⟩
    · rename_i hne
      by_cases ha : o.alive
      · exact (h.objs n o ho).mono hle (fun B e hb' => ⟨g2' B (fun e' => h.ri.sep A b n e hbm (e' ▸ hb')), fun i hi => by rw [hN]; exact hi⟩) (fun hn => by rw [hbk]; exact hn)
          ⟨by rw [har], fun b' hb' => ⟨g2' b' (fun e => hne (h.ri.inj A n b hbm (e ▸ hb'))), fun i hi => by rw [hN]; exact hi⟩⟩
      · cases o <;> first | exact True.intro | exact absurd True.intro ha
  · rw [lk_setO] at hn
    split at hn
    · cases hn
    · rw [hbk, hhd]; exact h.none n hn
  · rw [hbk] at hb'
    rw [hsz, hN]
    rw [lk_setO] at ho
    split at ho
    · rename_i e; subst e; cases ho
      exact ⟨fun hw => hw.elim, (h.own A _ B es hA True.intro hb').2⟩
    · exact h.own n o B es ho ha hb'
  · rw [hbk] at b1 b2
    have fix : ∀ k ok, lk (s.setO A (.ar ka va ck cv (L.set j l'))).o k = some ok → ok.alive → ∃ ok', lk s.o k = some ok' ∧ ok'.alive := by
      intro k ok hk' hak
      rw [lk_setO] at hk'
      split at hk'
      · rename_i e'; subst e'; exact ⟨_, hA, True.intro⟩
      · exact ⟨ok, hk', hak⟩
    obtain ⟨p, hp, hpa⟩ := fix n o h1 a1
    obtain ⟨q, hq, hqa⟩ := fix m o' h2 a2
    exact h.inj n m p q B es es' hp hq hpa hqa b1 b2
  · refine h.keep.trans ⟨by rw [hw], by rw [hw], by rw [hw], by omega, fun k hk hg => g2' k (fun e => ?_)⟩
    subst e
    rcases hblt.1 with h1 | h1
    · omega
    · exact hg h1
theorem upd_run {β : Type} (he : EnvOk E) {t kt et : TypeId} (hu : E.P.underlying t = some (.map kt et)) {b clock : Nat} {es : Array MapEntry} {ka : Bool} {ck : U.C} {l : List (U.El ck × β)} {kk : U.El ck} {x : β} {X Y : Value}
    (hheap : R.w.heap[b]? = some (.map es clock)) (hl : es.size = l.length) (hst : MapKept.Stamped es clock) {V : Rl → β → Value → Prop} (hV : ∀ R R' x y, R.le R' → V R x y → V R' x y)
    (hrel : ∀ (i : Nat) (x : U.El ck × β) (e : MapEntry), l[i]? = some x → es[i]? = some e → VR E.D R (packV ka (E.D.enc ck x.1)) e.key ∧ V R x.2 e.val) (hkey : KeyOk E R kt ck ka kk X) (hval : V R x Y) :
    ∃ es' clock', es'.size = (mput (E.D.keq ck kk) kk x l).length ∧ MapKept.Stamped es' clock' ∧
      (∀ (R' : Rl), R.le R' → ∀ (i : Nat) (p : U.El ck × β) (e : MapEntry), (mput (E.D.keq ck kk) kk x l)[i]? = some p → es'[i]? = some e → VR E.D R' (packV ka (E.D.enc ck p.1)) e.key ∧ V R' p.2 e.val) ∧
      (Instr.mapUpdate t (.map (some b)) X Y).run E.P R.w = .ok () { R.w with heap := R.w.heap.setIfInBounds b (.map es' clock') } := by
  obtain ⟨hf, hc, hfound, hmiss⟩ := keyOk_find he.law hkey hl (fun i x e hx he' => (hrel i x e hx he').1)
  have hc := hc false
  have hput := mput_fidx (eq := E.D.keq ck kk) (k := kk) (v := x) (l := l) (i := 0)
  cases hfi : fidx (E.D.keq ck kk) l 0 with
  | none =>
    rw [hfi] at hf hput
    refine ⟨es.push { key := X, val := Y, born := clock }, clock + 1, by rw [hput]; simp [hl], MapKept.stamped_push hst (fun e he' => ?_), fun R' hle i p e hp he' => ?_, ?_⟩
    · obtain ⟨i, hi⟩ := List.getElem?_of_mem he'
      have hi2 : es[i]? = some e := by simpa using hi
      have hlt : i < es.size := (Array.getElem?_eq_some_iff.1 hi2).1
      have hp := List.getElem?_eq_getElem (show i < l.length by omega)
      exact hmiss i _ e hp hi2 (fidx_none hfi _ (List.mem_of_getElem? hp))
    · rw [hput] at hp
      by_cases hlt : i < l.length
      · rw [List.getElem?_append_left hlt] at hp
        rw [Array.getElem?_push, if_neg (by omega)] at he'
        exact ⟨(hrel i p e hp he').1.mono hle, hV _ _ _ _ hle (hrel i p e hp he').2⟩
      · rw [List.getElem?_append_right (by omega)] at hp
        have hi : i = l.length := by
          have := (List.getElem?_eq_some_iff.1 hp).1
          simp at this
          omega
        subst hi
        rw [Array.getElem?_push, if_pos hl.symm] at he'
        simp at hp he'
        subst hp; subst he'
        exact ⟨hkey.vr.mono hle, hV _ _ _ _ hle hval⟩
    · simp only [Instr.mapUpdate, Sem.run_bind, run_underlying' R.w hu, Result.andThen_ok, Sem.run_pure, MapKept.run_getObj_map hheap, hc, hf, MapKept.run_setObj_map _ hheap]
  | some j =>
    obtain ⟨_, hjl, p0, hp0, hp1⟩ := fidx_ge hfi
    simp only [Nat.sub_zero] at hp0
    have hje : j < es.size := by omega
    have hej : es[j]? = some es[j] := Array.getElem?_eq_getElem hje
    obtain ⟨hk1, hk2, hk3⟩ := hfound j p0 _ hp0 hej hp1
    rw [hfi] at hf hput
    simp only [Nat.sub_zero] at hput
    obtain ⟨p2, hp2, hput⟩ := hput
    rw [hp0] at hp2
    cases hp2
    have hej2 : es.toList[j]? = some es[j] := by simp [hej]
    simp only [hej2, Option.map_some] at hf
    refine ⟨es.modify j fun e => { e with key := X, val := Y }, clock, by rw [hput]; simp [hl], MapKept.stamped_modify hst j _ (fun _ _ => rfl) (fun e he' hee => ?_), fun R' hle i p e hp he' => ?_, ?_⟩
    · rw [hej] at hee
      cases hee
      exact hk1.symm
    · rw [hput] at hp
      rw [Array.getElem?_modify] at he'
      by_cases hij : j = i
      · subst hij
        rw [List.getElem?_set_self (by omega)] at hp
        rw [if_pos rfl, hej] at he'
        simp at hp he'
        subst hp; subst he'
        refine ⟨?_, hV _ _ _ _ hle hval⟩
        have := hkey.vr
        rw [hk3] at this
        exact this.mono hle
      · rw [List.getElem?_set_ne hij] at hp
        rw [if_neg hij] at he'
        exact ⟨(hrel i p e hp he').1.mono hle, hV _ _ _ _ hle (hrel i p e hp he').2⟩
    · have hkt : (Instr.keyThatStays es[j].key X).run E.P R.w = .ok X R.w := by
        rw [hk1]
        simp [Instr.keyThatStays, hk2]
      simp only [Instr.mapUpdate, Sem.run_bind, run_underlying' R.w hu, Result.andThen_ok, Sem.run_pure, MapKept.run_getObj_map hheap, hc, hf, Option.map_some, hej, Option.getD_some, hkt, MapKept.run_setObj_map _ hheap]
theorem arUpd_told (he : EnvOk E) (h : SR E.D nt w0 N0 R s a) {o : Oper} {t : TypeId} {m k v : Operand} {K : AV U → Eff U → Option ρ} {r : ρ} (ho : o.op = .mapUpdate t m k v)
    (hk : arUpd E (lk s.o) t (s.op m) (s.op k).drop (s.op v).drop K = some r) : Told E nt w0 N0 R s a o K r := by
  have hvv := (h.op v).drop
  have fin : ∀ {w' : World} {us : Eff U}, K .undef us = some r → (Instr.mapUpdate t (a.eval m) (a.eval k) (a.eval v)).run E.P R.w = .ok () w' → R.le { R with w := w' } → SR E.D nt w0 N0 { R with w := w' } (s.upd us) a → Told E nt w0 N0 R s a o K r := by
    intro w' us hk hrun hle hsr
    refine ⟨_, _, hk, fun next Q hnext => ?_⟩
    unfold Oper.wp
    have hrun2 : (execOp a.eval o).run E.P R.w = .ok .skip w' := by
      simp only [execOp, ho, Sem.run_bind, hrun, Result.andThen_ok, Sem.run_pure] <;> rfl
    rw [hrun2]
    exact hnext _ _ hle (.undef _) hsr
  unfold arUpd at hk
  split at hk
  · rename_i kt et id hu hx
    split at hk
    · rename_i A ka ck l A' j hob hv
      split at hk
      · rename_i kk hkc
        obtain ⟨hA, hk⟩ := cond_none hk
        have := Nat.eq_of_beq_eq_true hA
        subst this
        obtain ⟨j, rfl, hk⟩ := kont_some hk
        rw [hv] at hvv
        have hxv := h.op m
        rw [hx] at hxv
        obtain ⟨B, hhd, hy⟩ := hxv.mp_inv
        obtain ⟨b, es, clock, e1, e2, e3, ⟨e4, e5⟩, e6⟩ := h.objs id _ hob
        have hBB : B = some b := by rw [hhd] at e1; cases B <;> simp at e1; rw [e1]
        subst hBB
        have hkey := keyC_ok he.law hkc (h.op k).drop
        obtain ⟨es', clock', q1, q2, q3, q4⟩ := upd_run (V := fun R x y => VR E.D R (.sm A' (some x)) y) he hu e3 e4 e5 (fun _ _ _ _ hle hv => hv.mono hle) e6 hkey hvv
        obtain ⟨g1, g2⟩ := MapKept.heap_set (o' := .map es' clock') e3
        have hle : R.le { R with w := { R.w with heap := R.w.heap.setIfInBounds b (.map es' clock') } } := ⟨fun _ _ e => e, fun _ _ e => e, fun _ _ _ e => e, by simp, fun B i hB hn => ⟨obs_block (w' := { R.w with heap := R.w.heap.setIfInBounds b (.map es' clock') }) (g2 B (fun e => hn (e ▸ (h.own id _ b 0 hob True.intro e2).1 True.intro i))), hn⟩⟩
        obtain ⟨hle', hsr⟩ := h.write (ob := .om A' ka ck (mput (E.D.keq ck kk) kk j l)) (w' := { R.w with heap := R.w.heap.setIfInBounds b (.map es' clock') }) hob True.intro True.intro True.intro e2 (by simp) g2 rfl rfl rfl
          ⟨b, es', clock', e1, e2, g1, ⟨q1, q2⟩, fun i p e hp he' => q3 { R with w := { R.w with heap := R.w.heap.setIfInBounds b (.map es' clock') } } hle i p e hp he'⟩
        exact fin hk (by rw [hy]; exact q4) hle' hsr
      · cases hk
    · cases hk
  · rename_i kt et A j hu hx
    split at hk
    · rename_i ka va ck cv L hob
      split at hk
      · rename_i kk x hkc hdv
        obtain ⟨j, rfl, hk⟩ := kont_some hk
        have hxv := h.op m
        rw [hx] at hxv
        rcases hxv.sm_inv with ⟨e, _⟩ | ⟨_, b, e, hb, hy⟩
        · cases e
        cases e
        obtain ⟨o1, o2, o3⟩ := h.objs A _ hob
        have hjl : j < L.length := by rw [← o1]; exact (List.getElem?_eq_some_iff.1 hb).1
        have hLj : L.getD j [] = L[j] := by simp [List.getD_eq_getElem?_getD, List.getElem?_eq_getElem hjl]
        obtain ⟨k1, es, clock, k2, ⟨k3, k4⟩, k5⟩ := o3 j b L[j] hb (List.getElem?_eq_getElem hjl)
        have hk : K .undef [(A, .ar ka va ck cv (L.set j (mput (E.D.keq ck kk) kk x (L.getD j []))))] = some r := hk
        rw [hLj] at hk
        have hkey := keyC_ok he.law hkc (h.op k).drop
        have hval := datum_vr (L := he.law) hdv hvv
        obtain ⟨es', clock', q1, q2, q3, q4⟩ := upd_run (V := fun R x y => VR E.D R (packV va (E.D.enc cv x)) y) he hu k2 k3 k4 (fun _ _ _ _ hle hv => hv.mono hle) k5 hkey hval
        obtain ⟨hle, hsr⟩ := h.writeAr hob hb k2 q1 q2 q3
        exact fin hk (by rw [hy]; exact q4) hle hsr
      · cases hk
    · cases hk
  · cases hk
theorem arMake_told (h : SR E.D nt w0 N0 R s a) {o : Oper} {t : TypeId} {K : AV U → Eff U → Option ρ} {r : ρ} (ho : o.op = .makeMap t none)
    (hk : arMake E (lk s.o) t o.dst K = some r) : Told E nt w0 N0 R s a o K r := by
  have hrun : (execOp a.eval o).run E.P R.w = .ok (.value (.map (some R.w.heap.size))) (R.w.alloc (.map #[] 0)) := by
    simp only [execOp, ho, Option.map_none]
    exact run_value rfl
  unfold arMake at hk
  split at hk
  · rename_i kt et d hu hd
    split at hk
    · rename_i A c1 c2 hars
      split at hk
      · rename_i ka va ck cv L hob
        refine ⟨_, _, hk, fun next Q hnext => ?_⟩
        unfold Oper.wp
        rw [hrun]
        obtain ⟨R', hw, hle, hb, hsr⟩ := h.pushAr hob
        rw [← hw]
        exact hnext _ R' hle (.sm hb) hsr
      · cases hk
    · split at hk
      · rename_i A ck et' homs
        split at hk
        · cases hk
        · rename_i hfd
          have hn := h.none d hfd
          have hle : R.le (R.fresh (.map #[] 0) d 0 (fun _ => True) (some (some ⟨R.w.heap.size, 0, none⟩, 0, 0))) := Rl.fresh_le hn.1 hn.2
          have hs1 : SR E.D nt w0 N0 (R.fresh (.map #[] 0) d 0 (fun _ => True) (some (some ⟨R.w.heap.size, 0, none⟩, 0, 0))) (s.setO d (.om A (isAggB E.P kt) ck [])) a :=
            h.freshG hfd ⟨R.w.heap.size, #[], 0, by simp [Rl.fresh], by simp [Rl.fresh], (MapKept.heap_alloc R.w _).1, ⟨rfl, MapKept.stamped_empty 0⟩, fun i x e hx => by simp at hx⟩ (fun _ _ => True.intro)
          split at hk
          · refine ⟨_, _, hk, fun next Q hnext => ?_⟩
            unfold Oper.wp
            rw [hrun]
            exact hnext _ _ hle (.mp (B := some R.w.heap.size) (by simp [Rl.fresh])) hs1
          · rename_i hA
            split at hk
            · rename_i ck' cv' kt' et'' _ _
              obtain ⟨hne, hk⟩ := cond_none' hk
              refine ⟨_, _, hk, fun next Q hnext => ?_⟩
              unfold Oper.wp
              rw [hrun]
              refine hnext _ _ hle (.mp (B := some R.w.heap.size) (by simp [Rl.fresh])) (hs1.newAr ?_)
              rw [lk_setO, if_neg (fun e => by subst e; rw [Nat.beq_refl] at hne; cases hne)]
              exact hA
            · cases hk
          · cases hk
      · cases hk
  · cases hk
theorem eqF_flat : ∀ (ks : List Nat) (xs ys : List (AV U)) (b : Bool), eqF ks xs ys = some b → (∀ x ∈ xs, ∃ v, x = .flat v) ∧ ∀ y ∈ ys, ∃ v, y = .flat v := by
  have one : ∀ (k : Nat) (x y : AV U) (b : Bool), eqV k x y = some b → (∃ v, x = .flat v) ∧ ∃ v, y = .flat v := fun k x y b h => by
    unfold eqV at h
    split at h
    · exact ⟨⟨_, rfl⟩, _, rfl⟩
    · exact ⟨⟨_, rfl⟩, _, rfl⟩
    · exact ⟨⟨_, rfl⟩, _, rfl⟩
    · cases h
  have go : ∀ (ks : List Nat) (xs ys : List (AV U)) (b : Bool), eqL ks xs ys = some b → (∀ x ∈ xs, ∃ v, x = .flat v) ∧ ∀ y ∈ ys, ∃ v, y = .flat v := by
    intro ks
    induction ks with
    | nil => intro xs ys b h; cases xs <;> cases ys <;> simp [eqL] at h; simp
    | cons k ks ih =>
      intro xs ys b h
      cases xs with
      | nil => cases ys <;> simp [eqL] at h
      | cons x xs => cases ys with
        | nil => simp [eqL] at h
        | cons y ys =>
          simp only [eqL] at h
          split at h
          · rename_i a c ha hb
            obtain ⟨h1, h2⟩ := one k x y a ha
            obtain ⟨h3, h4⟩ := ih xs ys c hb
            exact ⟨fun z hz => by rcases List.mem_cons.1 hz with rfl | hz; exact h1; exact h3 z hz, fun z hz => by rcases List.mem_cons.1 hz with rfl | hz; exact h2; exact h4 z hz⟩
          · cases h
  exact fun ks xs ys b h => go ks xs ys b (eqF_eqL ks xs ys b h)
theorem flat_any {D : Codec U} {R R' : Rl} {x : AV U} {y : Value} (h : ∃ v, x = .flat v) (hv : VR D R x y) : VR D R' x y := by
  obtain ⟨v, rfl⟩ := h
  rw [hv.flat_inv]
  exact .flat _
def unb (R : Rl) : Rl := { R with N := fun B i => R.N B i ∧ ∀ es c, R.w.heap[B]? ≠ some (.map es c) }
theorem unb_le (R : Rl) : R.le (unb R) := ⟨fun _ _ e => e, fun _ _ e => e, fun _ _ _ e => e, Nat.le_refl _, fun B i hB hN => ⟨rfl, fun hh => hN hh.1⟩⟩
theorem viewA_at (L0 : Lawful E.D) (h : SR E.D nt w0 N0 R s a) {R1 : Rl} (hle : R.le R1) (hw : R1.w = R.w) {t : TypeId} {v : AV U} {y : Value} (hv : VR E.D R v y)
    (hN : ∀ id A ka ck l b, v = .mp id → lk s.o id = some (.om A ka ck l) → (R.blk id = some (b, 0) ∨ b ∈ R.ar A) → (∃ es c, R.w.heap[b]? = some (.map es c)) → ¬ R1.N b 0) : VR E.D R1 (viewA E (lk s.o) t v) y := by
  have hm := hv.mono hle
  unfold viewA
  split
  · rename_i id
    split
    · rename_i A ka ck l hob
      split
      · rename_i ka' va' ck' cv' L c' cF hA hfz
        split
        · rename_i g hg
          obtain ⟨B, hhd, rfl⟩ := hv.mp_inv
          obtain ⟨b, es, clock, e1, e2, e3, ⟨e4, e5⟩, e6⟩ := h.objs id _ hob
          have hBB : B = some b := by rw [hhd] at e1; cases B <;> simp at e1; rw [e1]
          subst hBB
          have hget : ∀ (i : Nat) (x : U.El ck × U.El cF), (l.map fun p => (p.1, g (L.getD p.2 [])))[i]? = some x → ∃ p, l[i]? = some p ∧ x = (p.1, g (L.getD p.2 [])) := fun i x hx => by
            rw [List.getElem?_map] at hx
            obtain ⟨p, hp, e⟩ := Option.map_eq_some_iff.1 hx
            exact ⟨p, hp, e.symm⟩
          refine .fm (b := b) (es := es) (clock := clock) (by rw [hw]; exact (Array.getElem?_eq_some_iff.1 e3).1) (by rw [hw]; exact e3) (hN id A ka ck l b rfl hob (.inl e2) ⟨_, _, e3⟩) (by simpa using e4) e5 (fun i x e hx hee => ?_) (fun i x e hx hee => ?_)
          · obtain ⟨p, hp, rfl⟩ := hget i x hx
            exact (e6 i p e hp hee).1.mono hle
          · obtain ⟨p, hp, rfl⟩ := hget i x hx
            have h1 := (e6 i p e hp hee).2
            rw [L0.nst_ok _ _ _ _ _ _ hg]
            show VR E.D R1 (.fm ka' va' ck' cv' (L.getD p.2 [])) e.val
            rcases h1.sm_inv with ⟨e, _⟩ | ⟨k, b', e, hb', hy⟩
            · cases e
            cases e
            rw [hy]
            obtain ⟨B, hB, hor⟩ := ar_holds h hA (.sm hb' : VR E.D R (.sm A (some p.2)) _)
            cases hB
            have hat : arAt L (some p.2) = L.getD p.2 [] := rfl
            rw [hat] at hor
            rcases hor with ⟨hn, _⟩ | ⟨b2, es2, clock2, hb2, q2, ⟨q3, q4⟩, q5⟩
            · cases hn
            cases hb2
            exact .fm (by rw [hw]; exact (Array.getElem?_eq_some_iff.1 q2).1) (by rw [hw]; exact q2) (hN id A ka ck l b' rfl hob (.inr (List.mem_of_getElem? hb')) ⟨_, _, q2⟩) q3 q4 (fun i x e h1 h2 => (q5 i x e h1 h2).1.mono hle) (fun i x e h1 h2 => (q5 i x e h1 h2).2.mono hle)
        · exact hm
      · exact hm
    · exact hm
  · exact hm
theorem viewA_vr (he : EnvOk E) (h : SR E.D nt w0 N0 R s a) {t : TypeId} {v : AV U} {y : Value} (hv : VR E.D R v y) : VR E.D (unb R) (viewA E (lk s.o) t v) y :=
  viewA_at he.law h (unb_le R) rfl hv fun _ _ _ _ _ b _ _ _ ⟨es, c, hm⟩ hh => hh.2 es c hm
theorem viewL_len {ob : Nat → Option (Obj U)} {ts : Array TypeId} : ∀ (l : List (AV U)) (i : Nat), (viewL E ob ts l i).length = l.length
  | [], _ => rfl
  | _ :: r, i => by simp [viewL, viewL_len r (i + 1)]
theorem viewL_get {ob : Nat → Option (Obj U)} {ts : Array TypeId} : ∀ (l : List (AV U)) (i j : Nat), (viewL E ob ts l i)[j]? = (l[j]?).map fun v => viewA E ob (ts.getD (i + j) 0) v
  | [], _, j => by simp [viewL]
  | v :: r, i, 0 => by simp [viewL]
  | v :: r, i, j + 1 => by
    simp only [viewL, List.getElem?_cons_succ]
    rw [viewL_get r (i + 1) j, show i + 1 + j = i + (j + 1) by omega]
theorem c2_vr {D : Codec U} (L : Lawful D) {R R' : Rl} (hw : R'.w = R.w) (hN : ∀ B i, B < R.w.heap.size → R'.N B i → R.N B i ∨ ∃ es c, R.w.heap[B]? = some (.map es c)) {x : AV U} {y : Value} (hc : c2 D x = true) (h : VR D R x y) : VR D R' x y := by
  cases h with
  | undef => exact .undef _
  | flat => exact .flat _
  | rownil => exact .rownil
  | row f hB hl hcl hv =>
    rename_i c l B o cap
    obtain ⟨ks, hks⟩ := Option.isSome_iff_exists.1 (show (D.kinds c).isSome = true from hc)
    refine .row f (by rw [hw]; exact hB) hl (fun i x hx j v hj => ?_) (fun i x hx j v hj => ?_)
    · obtain ⟨h1, h2⟩ := hcl i x hx j v hj
      refine ⟨by rw [hw]; exact h1, fun hh => ?_⟩
      rcases hN _ _ hB hh with h3 | ⟨es, cc, h3⟩
      · exact h2 h3
      · simp [World.cell?, h3] at h1
    · exact flat_any ((eqF_flat ks _ _ _ (L.keq_ok c ks x x hks)).1 v (List.mem_of_getElem? hj)) (hv i x hx j v hj)
  | _ => cases hc
theorem callB_told (he : EnvOk E) {o : Oper} {c : Call} {K : AV U → Eff U → Option ρ} {r : ρ} (h : SR E.D nt w0 N0 R s a) (ho : o.op = .call c)
    (hk : callB E (lk s.o) c s.op K = some r) : Told E nt w0 N0 R s a o K r := by
  unfold callB at hk
  split at hk
  · rename_i g hc
    split at hk
    · rename_i f caps e1
      have hg := h.op g
      rw [e1] at hg
      obtain ⟨ys, hy, hyl, hyv⟩ := hg.fn_inv
      obtain ⟨d, hd, hk2⟩ := kont_some hk
      obtain ⟨hcl, hk3⟩ := cond_none hk2
      obtain ⟨x, hx, hk4⟩ := kont_some hk3
      obtain ⟨y, hfy, hk5⟩ := Option.bind_eq_some_iff.1 hk4
      obtain ⟨hc2, hk5⟩ := cond_none hk5
      have hargs : ∀ (i : Nat) (p : AV U) (q : Value), (viewL E (lk s.o) c.argTypes (argsA E c s.op) 0 ++ caps)[i]? = some p → (c.args.map a.eval ++ ys)[i]? = some q → VR E.D (unb R) p q := by
        intro i p q hp hq
        rw [List.getElem?_append] at hp
        rw [Array.getElem?_append] at hq
        simp only [viewL_len, argsA, argsFrom_len, Array.length_toList] at hp
        simp only [Array.size_map] at hq
        split at hp
        · rename_i hlt
          rw [if_pos hlt] at hq
          rw [viewL_get, argsFrom_get, Option.map_eq_some_iff] at hp
          obtain ⟨x, hx, rfl⟩ := hp
          obtain ⟨x', hx', rfl⟩ := Option.map_eq_some_iff.1 hx
          rw [Array.getElem?_map, show c.args[i]? = some x' by simpa using hx'] at hq
          simp only [Option.map_some, Option.some.injEq] at hq
          subst hq
          exact viewA_vr he h (h.op x').drop.nilA
        · rename_i hge
          rw [if_neg hge] at hq
          exact (hyv _ p q hp hq).mono (unb_le R)
      simp only [Bool.and_eq_true] at hcl
      obtain ⟨hcl1, hcl3⟩ := hcl
      have hlen : (viewL E (lk s.o) c.argTypes (argsA E c s.op) 0 ++ caps).length = (c.args.map a.eval ++ ys).size := by simp [hyl, viewL_len, argsA, argsFrom_len]
      have hsz : (c.args.map a.eval ++ ys).size ≤ d.nt := by rw [← hlen]; exact Nat.le_of_ble_eq_true hcl3
      refine ⟨(d.fin y).get 0, [], hk5, fun next Q hnext => ?_⟩
      unfold Oper.wp
      have hrun : (execOp a.eval o).run E.P R.w = .ok (.enter f (c.args.map a.eval ++ ys)) R.w := by
        simp only [execOp, ho, resolve, hc, hy, Deferred.ofValue, Sem.run_bind, Sem.run_pure, Result.andThen_ok, invoke]
        rw [show (#[] : Array Value) ++ Array.map a.eval c.args = Array.map a.eval c.args from by simp]
        exact (he.fa hd).2 _ _
      rw [hrun]
      have hS := (he.fa hd).1.2 ⟨startT (viewL E (lk s.o) c.argTypes (argsA E c s.op) 0 ++ caps) 0, []⟩ x y hx hfy ⟨R.w, fun _ => False, c.args.map a.eval ++ ys⟩ { unb R with blk := fun _ => none, hdr := fun _ => none, ar := fun _ => [] } (c.args.map a.eval ++ ys) rfl rfl hsz
        (sr_start he.law (R := unb R) (fun B i hB => h.nlt B i hB.1) hlen hargs hcl1 hsz (he.fa hd).1.1)
      refine Calls.mono hS (fun e w' ⟨v, R', hev, hw', hs'⟩ => ?_)
      subst hev
      subst hw'
      have hbl : Below R.w.heap.size R.w R'.w := ⟨hs'.keep.os, hs'.keep.tape, hs'.keep.output, hs'.keep.size, fun k hk => hs'.keep.block k hk (fun h => h)⟩
      have hle : R.le { R with w := R'.w } := ⟨fun _ _ e => e, fun _ _ e => e, fun _ _ _ e => e, hbl.size, fun B i hB hN => ⟨obs_block (hbl.block B hB), hN⟩⟩
      have hvr : VR E.D R' ((d.fin y).get 0) v := by
        have := hs'.tm 0
        rw [tv_lt (by unfold gb; omega)] at this
        exact this
      have hvr : VR E.D { R with w := R'.w } ((d.fin y).get 0) v := c2_vr he.law (R := R') (R' := { R with w := R'.w }) rfl (fun B i hB hN => by
        have hlt := h.nlt B i hN
        by_cases hm : ∃ es c, R.w.heap[B]? = some (.map es c)
        · obtain ⟨es, c, hm⟩ := hm
          exact .inr ⟨es, c, by rw [hbl.block B hlt]; exact hm⟩
        · exact .inl (hs'.nn B i hlt (fun h => h) ⟨hN, fun es c e => hm ⟨es, c, e⟩⟩)) hc2 hvr
      exact hnext v { R with w := R'.w } hle hvr (h.calls hbl hle)
    · cases hk
  · cases hk
theorem arK_told (he : EnvOk E) {o : Oper} {K : AV U → Eff U → Option ρ} {r : ρ} (h : SR E.D nt w0 N0 R s a) (hk : arK E o s.op (lk s.o) K = some r) : Told E nt w0 N0 R s a o K r := by
  unfold arK at hk
  split at hk
  · rename_i t x ix ok ho
    exact arLook_told he h ho hk
  · rename_i t m k v ho
    exact arUpd_told he h ho hk
  · rename_i t ho
    exact arMake_told h ho hk
  · rename_i c ho
    exact callB_told he h ho hk
  · cases hk
end
end Go.Ev
