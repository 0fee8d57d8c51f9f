import Derived.Test.YthknecaigoilmaaEvK
/-! The operations that are told in the text's order alone. -/
universe u
namespace Go.Ev
set_option linter.unusedVariables false
set_option linter.unusedSimpArgs false
open Go.RowKit (Below)
variable {U : Univ} {ρ : Type}
section
variable {E : Env U} {nt : Nat} {w0 : Cx} {N0 : Nat → Nat → Prop} {R : Rl} {s : St U} {a : Act}

theorem run_full {P : Program} {w : World} {n cap j : Nat} {k k' : IntKind} (hjc : j ≤ cap) : (Instr.sliceBounds true n cap none (some (.int k (j : Int))) (some (.int k' (j : Int)))).run P w = .ok (0, j, j) w := by
  have h1 : ((j : Int) ≤ (cap : Int)) := by omega
  simp [Instr.sliceBounds, Instr.sliceBound, asIntOf, h1]

/-- A slice's header is made anew. -/
theorem sliceX_run (h : SR E.D nt w0 N0 R s a) {o : Oper} {t : TypeId} {x hi mx : Operand} (ho : o.op = .slice t x none (some hi) (some mx)) {e : TypeId} {c : U.C} {sz by_ : Nat} (hel : elemOf E t = some (e, c, sz, by_))
    {b : Option Addr} {n cap j : Nat} {k k' : IntKind} (hx : a.eval x = .slice b n cap) (hh : a.eval hi = .int k (j : Int)) (hm : a.eval mx = .int k' (j : Int)) (hjc : j ≤ cap) :
    (execOp a.eval o).run E.P R.w = .ok (.value (.slice b j j)) R.w := by
  obtain ⟨inf, zv, hu, hif, _, hsz, _, _⟩ := elemOf_inv hel
  simp only [execOp, ho]
  refine run_value ?_
  have hb := run_full (P := E.P) (w := R.w) (n := n) (cap := cap) (k := k) (k' := k') hjc
  have hadd : b.map (fun z : Addr => z.add 0) = b := by cases b <;> simp [Addr.add]
  simp only [Option.map_none, Option.map_some, hh, hm]
  simp only [Instr.sliceAt, hx]
  simp [Instr.slice, run_underlying' R.w hu, hb, sizeOf, run_typeInfo' R.w hif]
  intro _
  exact hadd

theorem newHdr (h : SR E.D nt w0 N0 R s a) {d sz : Nat} {c : U.C} {b : Option Addr} (hf : lk s.o d = none) :
    R.le { R with hdr := fun k => if k = d then some (b, 0, 0) else R.hdr k } :=
  ⟨fun _ _ e => e, fun k p hp => by
    show (if k = d then _ else R.hdr k) = some p
    rw [if_neg (fun e => by subst e; rw [(h.none _ hf).2] at hp; cases hp)]; exact hp, Nat.le_refl _, fun _ _ _ hN => ⟨rfl, hN⟩⟩

theorem sliceZ_told (h : SR E.D nt w0 N0 R s a) {o : Oper} {t : TypeId} {x : Operand} {k k' : IntKind} {K : AV U → Eff U → Option ρ} {r : ρ} (ho : o.op = .slice t x none (some (.const (.int k 0))) (some (.const (.int k' 0))))
    (hk : sliceZ E (lk s.o) t o.dst (nilA E t (s.op x).drop) K = some r) : Told E nt w0 N0 R s a o K r := by
  unfold sliceZ at hk
  split at hk
  · rename_i e c' sz by_ d c l hel hd hxl
    have hx := (h.op x).drop.nilA (E := E) (t := t)
    rw [hxl] at hx
    split at hk
    · rename_i l' hcast hfd
      obtain ⟨hsc, hk⟩ := cond_none hk
      replace hsc := Nat.eq_of_beq_eq_true hsc
      have hlen : ∃ b n cap, a.eval x = .slice b n cap := by
        rcases hx.row_inv with ⟨rfl, b, cap, hy⟩ | ⟨B, o', cap, f, hy, hB, hl, hc, hv⟩
        · exact ⟨b, 0, cap, hy⟩
        · exact ⟨_, _, cap, hy⟩
      obtain ⟨b, n, cap, hy⟩ := hlen
      have hrun := sliceX_run (j := 0) h ho hel hy rfl rfl (Nat.zero_le _)
      have hle := newHdr (d := d) (sz := sz) (c := c) (b := b) h hfd
      cases hv : E.vecs d with
      | true =>
        rw [hv] at hk
        refine ⟨_, _, hk, fun next Q hnext => ?_⟩
        unfold Oper.wp
        rw [hrun]
        exact hnext _ { R with hdr := fun k => if k = d then some (b, 0, 0) else R.hdr k } hle (.vs (by simp)) (h.nilVec hfd)
      | false =>
        rw [hv] at hk
        refine ⟨_, _, hk, fun next Q hnext => ?_⟩
        unfold Oper.wp
        rw [hrun]
        exact hnext _ { R with hdr := fun k => if k = d then some (b, 0, 0) else R.hdr k } hle (.tip (by simp) .rownil) (h.nilTip hfd)
    · cases hk
  · cases hk

theorem sliceX_told (he : EnvOk E) (h : SR E.D nt w0 N0 R s a) {o : Oper} {t : TypeId} {x hi mx : Operand} {K : AV U → Eff U → Option ρ} {r : ρ} (ho : o.op = .slice t x none (some hi) (some mx))
    (hk : sliceX E (lk s.o) t o.dst (match s.op x with | .vs id => .vs id | v => nilA E t v.drop) (s.op hi) (s.op mx) K = some r) : Told E nt w0 N0 R s a o K r := by
  unfold sliceX at hk
  split at hk
  · rename_i e c' sz by_ k j k' m hel e1 e2
    have hhi := h.op hi
    rw [e1] at hhi
    replace hhi := hhi.flat_inv
    have hmx := h.op mx
    rw [e2] at hmx
    replace hmx := hmx.flat_inv
    have hx : VR E.D R (match s.op x with | .vs id => .vs id | v => nilA E t v.drop) (a.eval x) := by
      have := h.op x
      split
      · rename_i id e; rw [e] at this; exact this
      · exact this.drop.nilA
    split at hk
    · rename_i c l hxl
      rw [hxl] at hx
      obtain ⟨hsc, hk⟩ := cond_none hk
      obtain ⟨hjm, hk9⟩ := cond_none hk
      simp only [Bool.and_eq_true, decide_eq_true_eq] at hjm
      obtain ⟨rfl, hin⟩ := hjm
      obtain ⟨a1, a2, a3⟩ := inS_spec hin
      have hlen : ∃ b n cap, a.eval x = .slice b n cap ∧ n = l.length ∧ l.length ≤ cap := by
        rcases hx.row_inv with ⟨rfl, b, cap, hy⟩ | ⟨B, o', cap, f, hy, hB, hl, hc, hv⟩
        · exact ⟨b, 0, cap, hy, rfl, Nat.zero_le _⟩
        · exact ⟨_, _, cap, hy, rfl, hl⟩
      obtain ⟨b, n, cap, hy, rfl, hcap⟩ := hlen
      rw [hy] at hx
      obtain ⟨jn, rfl⟩ : ∃ jn : Nat, j = (jn : Int) := ⟨j.toNat, by omega⟩
      have hjn : jn ≤ l.length := by omega
      have hrun := sliceX_run h ho hel hy hhi hmx (show jn ≤ cap by omega)
      refine told_value h hk9 hrun ?_
      rw [show (jn : Int).toNat = jn by omega]
      rcases hx.row_inv with ⟨rfl, _⟩ | ⟨B, o', cap', f, hy', hB, hl, hc, hv⟩
      · have : jn = 0 := by simpa using hjn
        subst this
        exact .rownil
      · cases hy'
        have := (RowAt.sub (RowAt.of hc hv (cap := cap)) 0 jn).vr (cap := jn) hB (by simp; omega)
        simp only [Nat.zero_mul, Nat.add_zero, List.drop_zero] at this
        rw [show (l.take jn).length = jn by simp; omega] at this
        exact this
    · rename_i id hxl
      rw [hxl] at hx
      split at hk
      · rename_i c l d hid hd
        split at hk
        · rename_i hfd
          obtain ⟨hsc, hk⟩ := cond_none hk
          obtain ⟨hjm, hk9⟩ := cond_none hk
          simp only [Bool.and_eq_true, decide_eq_true_eq] at hjm
          obtain ⟨rfl, hjl⟩ := hjm
          subst hjl
          obtain ⟨b, n, cap, e3, hy⟩ := hx.vs_inv
          obtain ⟨b', cap', e4, hor⟩ := h.objs id _ hid
          rw [e3] at e4
          cases e4
          have hne : id ≠ d := fun e => by rw [e, hfd] at hid; cases hid
          have hfd' : lk (s.setO id .dead).o d = none := by rw [lk_setO, if_neg hne]; exact hfd
          have hcap : l.length ≤ cap := by
            rcases hor with ⟨rfl, rfl⟩ | ⟨B, arr, el, rfl, hblk, hheap, hnc, hcs, hcv⟩
            · exact Nat.le_refl _
            · exact hnc
          have hrun := sliceX_run (j := l.length) h ho hel hy hhi hmx hcap
          refine ⟨_, _, hk9, fun next Q hnext => ?_⟩
          unfold Oper.wp
          rw [hrun]
          rcases hor with ⟨rfl, rfl⟩ | ⟨B, arr, el, rfl, hblk, hheap, hnc, hcs, hcv⟩
          · exact hnext _ { R with hdr := fun k => if k = d then some (b, 0, 0) else R.hdr k } (newHdr (d := d) (sz := sz) (c := c) (b := b) h hfd) (.vs (by simp)) ((h.kill hid).nilVec hfd')
          · obtain ⟨R', hw', hle, hhd, hsr⟩ := h.growVec (d := d) (n := l.length) (l := l) (cap := l.length) (w' := R.w) (arr' := arr) hid hfd hblk hheap (Nat.le_trans (Nat.mul_le_mul_right _ hnc) hcs) rfl (Nat.le_refl _) rfl (fun _ _ => rfl) rfl rfl rfl
              (fun R' hle i x hx j v y hv hy => (hcv i x hx j v y hv hy).mono hle)
            have hw2 : R'.w = R.w := by rw [hw']
            rw [← hw2]
            exact hnext _ R' hle (.vs hhd) hsr
        · cases hk
      · cases hk
    · cases hk
  · cases hk

theorem vr_nilM {t : TypeId} {v : AV U} {y : Value} (h : VR E.D R v y) : VR E.D R (nilM E t v) y := by
  unfold nilM
  split
  · exact h.nilA
  · exact h

theorem opX_told (he : EnvOk E) {o : Oper} {K : AV U → Eff U → Option ρ} {r : ρ} (h : SR E.D nt w0 N0 R s a) (hk : opX E o s.op (lk s.o) K = some r) : Told E nt w0 N0 R s a o K r := by
  unfold opX at hk
  split at hk
  · rename_i c ho
    split at hk
    · rename_i g hc
      split at hk
      · rename_i f caps e1
        split at hk
        · rename_i d hd
          have hg := h.op g
          rw [e1] at hg
          obtain ⟨ys, hy, hyl, hyv⟩ := hg.fn_inv
          refine callX_told he h hd (vs := c.args.map a.eval ++ ys) (by simp [hyl, argsA, argsFrom_len]) ?_ hk ?_
          · intro i p q hp hq
            rw [List.getElem?_append] at hp
            rw [Array.getElem?_append] at hq
            simp only [argsA, argsFrom_len, Array.length_toList] at hp
            simp only [Array.size_map] at hq
            split at hp
            · rename_i hlt
              rw [if_pos hlt] at hq
              rw [argsFrom_get, Option.map_eq_some_iff] at hp
              obtain ⟨x, hx, rfl⟩ := hp
              rw [Array.getElem?_map, show c.args[i]? = some x by simpa using hx] at hq
              simp only [Option.map_some, Option.some.injEq] at hq
              subst hq
              exact (h.op x).drop.nilA
            · rename_i hge
              rw [if_neg hge] at hq
              exact hyv _ p q hp hq
          · simp only [execOp, ho, resolve, hc, hy, Deferred.ofValue, Sem.run_bind, Sem.run_pure, Result.andThen_ok, invoke]
            rw [show (#[] : Array Value) ++ Array.map a.eval c.args = Array.map a.eval c.args from by simp]
            exact he.enter f d hd _ _
        · cases hk
      · cases hk
    · cases hk
  · rename_i t x k k' ho
    exact sliceZ_told h ho hk
  · rename_i t x hi mx _ ho
    exact sliceX_told he h ho hk
  · rename_i t x ix ok ho
    exact lookupX_told he h ho hk
  · rename_i t m k v ho
    exact updateX_told he h (.inl ho) (vr_nilM (h.op v).drop) hk
  · rename_i t m k v ho
    exact updateX_told he h (.inr ho) (vr_nilM (h.op v).drop) hk
  · rename_i t ho
    exact makeMapX_told h ho hk
  · cases hk

theorem opA_told (he : EnvOk E) {o : Oper} {K : AV U → Eff U → Option ρ} {r : ρ} (h : SR E.D nt w0 N0 R s a) (hk : opA E o s.op (lk s.o) K = some r) : Told E nt w0 N0 R s a o K r := by
  unfold opA at hk
  cases hb : isX E o s.op with
  | true => rw [hb] at hk; exact opX_told he h hk
  | false => rw [hb] at hk; exact opK_told he h hk
theorem opC_told (he : EnvOk E) {o : Oper} {K : St U → Option ρ} {r : ρ} (h : SR E.D nt w0 N0 R s a) (hk : opC E o s K = some r) :
    Told E nt w0 N0 R s a o (fun v u => K ((s.upd u).put o.dst v)) r := opA_told he h hk
end
end Go.Ev
