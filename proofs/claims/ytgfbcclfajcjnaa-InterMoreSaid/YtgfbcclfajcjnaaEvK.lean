import Derived.Test.YtgfbcclfajcjnaaEvH
universe u
namespace Go.Ev
set_option linter.unusedVariables false
set_option linter.unusedSimpArgs false
open Go.RowKit (Below)
variable {U : Univ} {ρ : Type}
section
variable {E : Env U} {nt : Nat} {w0 : Cx} {N0 : Nat → Nat → Prop} {R : Rl} {s : St U} {a : Act}
theorem lookupX_told (he : EnvOk E) (h : SR E.D nt w0 N0 R s a) {o : Oper} {t : TypeId} {x ix : Operand} {ok : Bool} {K : AV U → Eff U → Option ρ} {r : ρ} (ho : o.op = .lookup t x ix ok)
    (hk : lookupX E (lk s.o) t (s.op x) (s.op ix).drop ok K = some r) : Told E nt w0 N0 R s a o K r := by
  unfold lookupX at hk
  split at hk
  · rename_i kt et id hu hx
    split at hk
    · rename_i w ka va ck cv l hob
      split at hk
      · rename_i k z hkc hz
        split at hk
        · rename_i q hq
          obtain ⟨hsh, hk9⟩ := cond_none hk
          have hxv := h.op x
          rw [hx] at hxv
          obtain ⟨B, hhd, hy⟩ := hxv.mp_inv
          obtain ⟨B', hhd', hor⟩ := h.objs id _ hob
          rw [hhd] at hhd'
          have hBB : B = B' := by
            cases B <;> cases B' <;> simp at hhd'
            · rfl
            · rw [hhd']
          subst hBB
          have hkey := keyC_ok he.law hkc (h.op ix).drop
          obtain ⟨res, h1, h2⟩ := look_run he (ok := ok) hu (show HoldsM E.D R B ka va ck cv l from by
            rcases hor with ⟨h1, h2, _⟩ | ⟨b, es, clock, h1, _, h2⟩
            · exact .inl ⟨h1, h2⟩
            · exact .inr ⟨b, es, clock, h1, h2⟩) hkey hz hq hsh
          exact told_value h hk9 (by simp only [execOp, ho, hy]; exact run_value h2) (look_vr h1)
        · cases hk
      · cases hk
    · cases hk
  · cases hk
theorem makeMapX_told (h : SR E.D nt w0 N0 R s a) {o : Oper} {t : TypeId} {K : AV U → Eff U → Option ρ} {r : ρ} (ho : o.op = .makeMap t none)
    (hk : makeMapX E (lk s.o) t o.dst K = some r) : Told E nt w0 N0 R s a o K r := by
  unfold makeMapX at hk
  split at hk
  · rename_i kt et ck cv d hu hmp hd
    split at hk
    · rename_i hfd
      refine ⟨_, _, hk, fun next Q hnext => ?_⟩
      unfold Oper.wp
      have hrun : (execOp a.eval o).run E.P R.w = .ok (.value (.map (some R.w.heap.size))) (R.w.alloc (.map #[] 0)) := by
        simp only [execOp, ho, Option.map_none]
        exact run_value rfl
      rw [hrun]
      have hn := h.none d hfd
      have hle : R.le (R.fresh (.map #[] 0) d 0 (fun _ => True) (some (some ⟨R.w.heap.size, 0, none⟩, 0, 0))) := Rl.fresh_le hn.1 hn.2
      refine hnext _ _ hle (.mp (B := some R.w.heap.size) (by simp [Rl.fresh])) (h.freshG hfd ?_ (fun _ _ => True.intro))
      exact ⟨some R.w.heap.size, by simp [Rl.fresh], .inr ⟨R.w.heap.size, #[], 0, rfl, by simp [Rl.fresh], (MapKept.heap_alloc R.w _).1, ⟨rfl, MapKept.stamped_empty 0⟩, fun i x e hx => by simp at hx⟩⟩
    · cases hk
  · cases hk
theorem updateX_told (he : EnvOk E) (h : SR E.D nt w0 N0 R s a) {o : Oper} {t : TypeId} {m k v : Operand} {vv : AV U} {K : AV U → Eff U → Option ρ} {r : ρ} (ho : o.op = .mapUpdate t m k v ∨ o.op = .insert t m k v)
    (hvv : VR E.D R vv (a.eval v)) (hk : updateX E (lk s.o) t (s.op m) (s.op k).drop vv K = some r) : Told E nt w0 N0 R s a o K r := by
  unfold updateX at hk
  split at hk
  · rename_i kt et id hu hx
    split at hk
    · rename_i ka va ck cv l hob
      split at hk
      · rename_i kk x hkc hdv
        have hxv := h.op m
        rw [hx] at hxv
        obtain ⟨B, hhd, hy⟩ := hxv.mp_inv
        obtain ⟨B', hhd', hor⟩ := h.objs id _ hob
        have hhd0 := hhd
        rw [hhd] at hhd'
        have hBB : B = B' := by
          cases B <;> cases B' <;> simp at hhd'
          · rfl
          · rw [hhd']
        subst hBB
        have hkey := keyC_ok he.law hkc (h.op k).drop
        have hval := datum_vr (L := he.law) hdv hvv
        rcases hor with ⟨_, _, h0, _⟩ | ⟨b, es, clock, rfl, hblk, hheap, ⟨hl, hst⟩, hrel⟩
        · cases h0
        obtain ⟨hf, hc, hfound, hmiss⟩ := keyOk_find he.law hkey hl (fun i x e hx he' => (hrel i x e hx he').1)
        have hc := hc false
        have hput := mput_fidx (eq := E.D.keq ck kk) (k := kk) (v := x) (l := l) (i := 0)
        have hbl : b < R.w.heap.size := (Array.getElem?_eq_some_iff.1 hheap).1
        have fin : ∀ (es' : Array MapEntry) (clock' : Nat), es'.size = (mput (E.D.keq ck kk) kk x l).length → MapKept.Stamped es' clock' →
            (∀ (R' : Rl), R.le R' → ∀ (i : Nat) (p : U.El ck × U.El cv) (e : MapEntry), (mput (E.D.keq ck kk) kk x l)[i]? = some p → es'[i]? = some e → VR E.D R' (packV ka (E.D.enc ck p.1)) e.key ∧ VR E.D R' (packV va (E.D.enc cv p.2)) e.val) →
            (Instr.mapUpdate t (a.eval m) (a.eval k) (a.eval v)).run E.P R.w = .ok () { R.w with heap := R.w.heap.setIfInBounds b (.map es' clock') } → Told E nt w0 N0 R s a o K r := by
          intro es' clock' hsz' hst' hrel' hrun
          refine ⟨_, _, hk, fun next Q hnext => ?_⟩
          unfold Oper.wp
          have hrun2 : (execOp a.eval o).run E.P R.w = .ok .skip { R.w with heap := R.w.heap.setIfInBounds b (.map es' clock') } := by
            rcases ho with ho | ho <;> simp only [execOp, ho, Sem.run_bind, hrun, Result.andThen_ok, Sem.run_pure] <;> rfl
          rw [hrun2]
          obtain ⟨g1, g2⟩ := MapKept.heap_set (o' := .map es' clock') hheap
          obtain ⟨hle, hsr⟩ := h.write (ob := .map true ka va ck cv (mput (E.D.keq ck kk) kk x l)) (w' := { R.w with heap := R.w.heap.setIfInBounds b (.map es' clock') }) hob True.intro True.intro True.intro hblk (by simp) g2 rfl rfl rfl
            ⟨some b, hhd0, .inr ⟨b, es', clock', rfl, hblk, g1, ⟨hsz', hst'⟩, fun i p e hp he' => hrel' { R with w := { R.w with heap := R.w.heap.setIfInBounds b (.map es' clock') } } ⟨fun _ _ e => e, fun _ _ e => e, fun _ _ _ e => e, by simp, fun B i hB hn => ⟨obs_block (w' := { R.w with heap := R.w.heap.setIfInBounds b (.map es' clock') }) (g2 B (fun e => hn (e ▸ (h.own id _ b 0 hob True.intro hblk).1 True.intro i))), hn⟩⟩ i p e hp he'⟩⟩
          exact hnext _ _ hle (.undef _) hsr
        rw [hy] at fin
        cases hfi : fidx (E.D.keq ck kk) l 0 with
        | none =>
          rw [hfi] at hf hput
          refine fin (es.push { key := a.eval k, val := a.eval v, born := clock }) (clock + 1) (by rw [hput]; simp [hl]) (MapKept.stamped_push hst (fun e he' => ?_)) (fun R' hle i p e hp he' => ?_) ?_
          · obtain ⟨i, hi⟩ := List.getElem?_of_mem he'
            have hi2 : es[i]? = some e := by simpa using hi
            have hlt : i < es.size := (Array.getElem?_eq_some_iff.1 hi2).1
            have hp := List.getElem?_eq_getElem (show i < l.length by omega)
            exact hmiss i _ e hp hi2 (fidx_none hfi _ (List.mem_of_getElem? hp))
          · rw [hput] at hp
            by_cases hlt : i < l.length
            · rw [List.getElem?_append_left hlt] at hp
              rw [Array.getElem?_push, if_neg (by omega)] at he'
              exact ⟨(hrel i p e hp he').1.mono hle, (hrel i p e hp he').2.mono hle⟩
            · rw [List.getElem?_append_right (by omega)] at hp
              have hi : i = l.length := by
                have := (List.getElem?_eq_some_iff.1 hp).1
                simp at this
                omega
              subst hi
              rw [Array.getElem?_push, if_pos hl.symm] at he'
              simp at hp he'
              subst hp; subst he'
              exact ⟨hkey.vr.mono hle, hval.mono hle⟩
          · simp only [Instr.mapUpdate, Sem.run_bind, run_underlying' R.w hu, Result.andThen_ok, Sem.run_pure, MapKept.run_getObj_map hheap, hc, hf, MapKept.run_setObj_map _ hheap]
        | some j =>
          obtain ⟨_, hjl, p0, hp0, hp1⟩ := fidx_ge hfi
          simp only [Nat.sub_zero] at hp0
          have hje : j < es.size := by omega
          have hej : es[j]? = some es[j] := Array.getElem?_eq_getElem hje
          obtain ⟨hk1, hk2, hk3⟩ := hfound j p0 _ hp0 hej hp1
          rw [hfi] at hf hput
          simp only [Nat.sub_zero] at hput
          obtain ⟨p2, hp2, hput⟩ := hput
          rw [hp0] at hp2
          cases hp2
          have hej2 : es.toList[j]? = some es[j] := by simp [hej]
          simp only [hej2, Option.map_some] at hf
          refine fin (es.modify j fun e => { e with key := a.eval k, val := a.eval v }) clock (by rw [hput]; simp [hl]) (MapKept.stamped_modify hst j _ (fun _ _ => rfl) (fun e he' hee => ?_)) (fun R' hle i p e hp he' => ?_) ?_
          · rw [hej] at hee
            cases hee
            exact hk1.symm
          · rw [hput] at hp
            rw [Array.getElem?_modify] at he'
            by_cases hij : j = i
            · subst hij
              rw [List.getElem?_set_self (by omega)] at hp
              rw [if_pos rfl, hej] at he'
              simp at hp he'
              subst hp; subst he'
              refine ⟨?_, hval.mono hle⟩
              have := hkey.vr
              rw [hk3] at this
              exact this.mono hle
            · rw [List.getElem?_set_ne hij] at hp
              rw [if_neg hij] at he'
              exact ⟨(hrel i p e hp he').1.mono hle, (hrel i p e hp he').2.mono hle⟩
          · have hkt : (Instr.keyThatStays es[j].key (a.eval k)).run E.P R.w = .ok (a.eval k) R.w := by
              rw [hk1]
              simp [Instr.keyThatStays, hk2]
            simp only [Instr.mapUpdate, Sem.run_bind, run_underlying' R.w hu, Result.andThen_ok, Sem.run_pure, MapKept.run_getObj_map hheap, hc, hf, Option.map_some, hej, Option.getD_some, hkt, MapKept.run_setObj_map _ hheap]
      · cases hk
    · cases hk
  · cases hk
theorem SR.deadM {D : Codec U} {nt : Nat} {w0 : Cx} {N0 : Nat → Nat → Prop} {R : Rl} {s : St U} {a : Act} (h : SR D nt w0 N0 R s a) {id : Nat} {w ka va : Bool} {ck cv : U.C} {l : List (U.El ck × U.El cv)} (hid : lk s.o id = some (.map w ka va ck cv l)) :
    ∃ R' : Rl, R'.w = R.w ∧ R.le R' ∧ SR D nt w0 N0 R' (s.setO id .dead) a ∧ ∀ y, VR D R (.mp id) y → VR D R' (.fm ka va ck cv l) y := by
  obtain ⟨B0, hhd, hor⟩ := h.objs id _ hid
  have key : ∃ R' : Rl, R'.w = R.w ∧ R.le R' ∧ VR D R' (.fm ka va ck cv l) (.map B0) ∧ R'.blk = R.blk ∧ R'.hdr = R.hdr ∧ R'.ar = R.ar ∧
      (∀ b i, R'.N b i → R.N b i) ∧ (∀ b i, R.N b i → ¬ R'.N b i → ∃ es, R.blk id = some (b, es)) := by
    rcases hor with ⟨rfl, rfl, _⟩ | ⟨B, es, clock, rfl, hblk, hheap, ⟨hl, hst⟩, hrel⟩
    · exact ⟨R, rfl, .refl R, .fmnil, rfl, rfl, rfl, fun _ _ h => h, fun _ _ h1 h2 => absurd h1 h2⟩
    · let R' : Rl := { R with N := fun b i => R.N b i ∧ b ≠ B }
      have hle : R.le R' := ⟨fun _ _ e => e, fun _ _ e => e, fun _ _ _ e => e, Nat.le_refl _, fun b i _ hN => ⟨rfl, fun hh => hN hh.1⟩⟩
      refine ⟨R', rfl, hle, .fm (Array.getElem?_eq_some_iff.1 hheap).1 hheap (fun hh => hh.2 rfl) hl hst (fun i x e h1 h2 => (hrel i x e h1 h2).1.mono hle) (fun i x e h1 h2 => (hrel i x e h1 h2).2.mono hle), rfl, rfl, rfl, fun _ _ h => h.1, fun b i h1 h2 => ?_⟩
      by_cases hb : b = B
      · subst hb; exact ⟨_, hblk⟩
      · exact absurd ⟨h1, hb⟩ h2
  obtain ⟨R', hw, hle, hrv, hbk, hhr, har, hsub, hback⟩ := key
  refine ⟨R', hw, hle, ?_, fun y hy => by
    obtain ⟨B1, e1, rfl⟩ := hy.mp_inv
    rw [hhd] at e1
    have : B0 = B1 := by
      cases B0 <;> cases B1 <;> simp at e1
      · rfl
      · rw [e1]
    rw [← this]
    exact hrv⟩
  have hN : ∀ k o b es, lk s.o k = some o → o.alive → k ≠ id → R.blk k = some (b, es) → ∀ i, R.N b i → R'.N b i := by
    intro k o b es ho ha hne hb i hi
    refine Classical.byContradiction fun hc => ?_
    obtain ⟨es', hb'⟩ := hback b i hi hc
    exact hne (h.inj k id o _ b es es' ho hid ha True.intro hb hb')
  have hlo : ∀ k, lk (s.setO id .dead).o k = if id = k then some .dead else lk s.o k := fun k => lk_setO s id k .dead
  refine { objs := fun k o ho => ?_, none := fun k hk => ?_, own := fun k o b es ho ha hb => ?_, inj := fun k k' o o' b es es' h1 h2 a1 a2 b1 b2 => ?_, keep := by rw [hw]; exact h.keep, le0 := h.toSO.le0' hle, nn := fun b i hlt hg hn => ?_, nlt := fun b i hn => by rw [hw]; exact h.nlt b i (hsub b i hn), ri := h.ri.of (fun k hk => by rw [lk_setO] at hk; split at hk; cases hk; exact hk) har (by rw [hw]; exact Nat.le_refl _) (fun n B e hb => .inl ⟨n, e, by rw [← hbk]; exact hb⟩),
           size := h.size, defers := h.defers, ntle := h.ntle, tm := fun n => ?_ }
  · rw [hlo] at ho
    split at ho
    · cases ho; exact True.intro
    · rename_i hne
      by_cases ha : o.alive
      · exact (h.objs k o ho).mono hle (fun b es hb => ⟨by rw [hw], hN k o b es ho ha (fun e => hne e.symm) hb⟩) (fun hn => by rw [hbk]; exact hn) ⟨by rw [har], fun b hb => ⟨by rw [hw], fun i hi => Classical.byContradiction fun hc => by
          obtain ⟨es', hb'⟩ := hback b i hi hc
          exact h.ri.sep k b id es' hb hb'⟩⟩
      · cases o <;> first | exact True.intro | exact absurd True.intro ha
  · rw [hlo] at hk
    split at hk
    · cases hk
    · rw [hbk, hhr]; exact h.none k hk
  · rw [hlo] at ho
    split at ho
    · cases ho; exact ha.elim
    · rename_i hne
      rw [hbk] at hb
      obtain ⟨q1, q2⟩ := h.own k o b es ho ha hb
      rw [hw]
      exact ⟨fun hwh i => hN k o b es ho ha (fun e => hne e.symm) hb i (q1 hwh i), q2⟩
  · rw [hlo] at h1 h2
    rw [hbk] at b1 b2
    split at h1
    · cases h1; exact a1.elim
    · split at h2
      · cases h2; exact a2.elim
      · exact h.inj k k' o o' b es es' h1 h2 a1 a2 b1 b2
  · refine Classical.byContradiction fun hc => ?_
    obtain ⟨es', hb'⟩ := hback b i (h.nn b i hlt hg hn) hc
    rcases (h.own id _ b es' hid True.intro hb').2.1 with this | this
    · omega
    · exact hg this
  · show VR D R' ((s.setO id .dead).get n) _
    exact (h.tm n).mono hle
end
end Go.Ev
