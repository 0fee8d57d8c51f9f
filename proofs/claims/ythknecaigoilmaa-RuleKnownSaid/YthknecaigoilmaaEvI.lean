import Derived.Test.YthknecaigoilmaaEvK
/-! The operations that are told in the text's order alone. -/
universe u
namespace Go.Ev
set_option linter.unusedVariables false
set_option linter.unusedSimpArgs false
open Go.RowKit (Below)
variable {U : Univ} {ρ : Type}
section
variable {E : Env U} {nt : Nat} {w0 : Cx} {N0 : Nat → Nat → Prop} {R : Rl} {s : St U} {a : Act}

theorem run_full {P : Program} {w : World} {n cap j : Nat} {k k' : IntKind} (hjc : j ≤ cap) : (Instr.sliceBounds true n cap none (some (.int k (j : Int))) (some (.int k' (j : Int)))).run P w = .ok (0, j, j) w := by
  have h1 : ((j : Int) ≤ (cap : Int)) := by omega
  simp [Instr.sliceBounds, Instr.sliceBound, asIntOf, h1]

/-- A slice's header is made anew. -/
theorem sliceX_run (h : SR E.D nt w0 N0 R s a) {o : Oper} {t : TypeId} {x hi mx : Operand} (ho : o.op = .slice t x none (some hi) (some mx)) {e : TypeId} {c : U.C} {sz by_ : Nat} (hel : elemOf E t = some (e, c, sz, by_))
    {b : Option Addr} {n cap j : Nat} {k k' : IntKind} (hx : a.eval x = .slice b n cap) (hh : a.eval hi = .int k (j : Int)) (hm : a.eval mx = .int k' (j : Int)) (hjc : j ≤ cap) :
    (execOp a.eval o).run E.P R.w = .ok (.value (.slice b j j)) R.w := by
  obtain ⟨inf, zv, hu, hif, _, hsz, _, _⟩ := elemOf_inv hel
  simp only [execOp, ho]
  refine run_value ?_
  have hb := run_full (P := E.P) (w := R.w) (n := n) (cap := cap) (k := k) (k' := k') hjc
  have hadd : b.map (fun z : Addr => z.add 0) = b := by cases b <;> simp [Addr.add]
  simp only [Option.map_none, Option.map_some, hh, hm]
  simp only [Instr.sliceAt, hx]
  simp [Instr.slice, run_underlying' R.w hu, hb, sizeOf, run_typeInfo' R.w hif]
  intro _
  exact hadd

theorem newHdr (h : SR E.D nt w0 N0 R s a) {d sz : Nat} {c : U.C} {b : Option Addr} (hf : lk s.o d = none) :
    R.le { R with hdr := fun k => if k = d then some (b, 0, 0) else R.hdr k } :=
  ⟨fun _ _ e => e, fun k p hp => by
    show (if k = d then _ else R.hdr k) = some p
    rw [if_neg (fun e => by subst e; rw [(h.none _ hf).2] at hp; cases hp)]; exact hp, Nat.le_refl _, fun _ _ _ hN => ⟨rfl, hN⟩⟩

theorem sliceZ_told (h : SR E.D nt w0 N0 R s a) {o : Oper} {t : TypeId} {x : Operand} {k k' : IntKind} {K : AV U → Eff U → Option ρ} {r : ρ} (ho : o.op = .slice t x none (some (.const (.int k 0))) (some (.const (.int k' 0))))
    (hk : sliceZ E (lk s.o) t o.dst (nilA E t (s.op x).drop) K = some r) : Told E nt w0 N0 R s a o K r := by
  unfold sliceZ at hk
  split at hk
  · rename_i e c' sz by_ d c l hel hd hxl
    have hx := (h.op x).drop.nilA (E := E) (t := t)
    rw [hxl] at hx
    split at hk
    · rename_i l' hcast hfd
      obtain ⟨hsc, hk⟩ := cond_none hk
      replace hsc := Nat.eq_of_beq_eq_true hsc
      have hlen : ∃ b n cap, a.eval x = .slice b n cap := by
        rcases hx.row_inv with ⟨rfl, b, cap, hy⟩ | ⟨B, o', cap, f, hy, hB, hl, hc, hv⟩
        · exact ⟨b, 0, cap, hy⟩
        · exact ⟨_, _, cap, hy⟩
      obtain ⟨b, n, cap, hy⟩ := hlen
      have hrun := sliceX_run (j := 0) h ho hel hy rfl rfl (Nat.zero_le _)
      have hle := newHdr (d := d) (sz := sz) (c := c) (b := b) h hfd
      cases hv : E.vecs d with
      | true =>
        rw [hv] at hk
        refine ⟨_, _, hk, fun next Q hnext => ?_⟩
        unfold Oper.wp
        rw [hrun]
        exact hnext _ { R with hdr := fun k => if k = d then some (b, 0, 0) else R.hdr k } hle (.vs (by simp)) (h.nilVec hfd)
      | false =>
        rw [hv] at hk
        refine ⟨_, _, hk, fun next Q hnext => ?_⟩
        unfold Oper.wp
        rw [hrun]
        exact hnext _ { R with hdr := fun k => if k = d then some (b, 0, 0) else R.hdr k } hle (.tip (by simp) .rownil) (h.nilTip hfd)
    · cases hk
  · cases hk

theorem sliceX_told (he : EnvOk E) (h : SR E.D nt w0 N0 R s a) {o : Oper} {t : TypeId} {x hi mx : Operand} {K : AV U → Eff U → Option ρ} {r : ρ} (ho : o.op = .slice t x none (some hi) (some mx))
    (hk : sliceX E (lk s.o) t o.dst (match s.op x with | .vs id => .vs id | v => nilA E t v.drop) (s.op hi) (s.op mx) K = some r) : Told E nt w0 N0 R s a o K r := by
  unfold sliceX at hk
  split at hk
  · rename_i e c' sz by_ k j k' m hel e1 e2
    have hhi := h.op hi
    rw [e1] at hhi
    replace hhi := hhi.flat_inv
    have hmx := h.op mx
    rw [e2] at hmx
    replace hmx := hmx.flat_inv
    have hx : VR E.D R (match s.op x with | .vs id => .vs id | v => nilA E t v.drop) (a.eval x) := by
      have := h.op x
      split
      · rename_i id e; rw [e] at this; exact this
      · exact this.drop.nilA
    split at hk
    · rename_i c l hxl
      rw [hxl] at hx
      obtain ⟨hsc, hk⟩ := cond_none hk
      obtain ⟨hjm, hk9⟩ := cond_none hk
      simp only [Bool.and_eq_true, decide_eq_true_eq] at hjm
      obtain ⟨rfl, hin⟩ := hjm
      obtain ⟨a1, a2, a3⟩ := inS_spec hin
      have hlen : ∃ b n cap, a.eval x = .slice b n cap ∧ n = l.length ∧ l.length ≤ cap := by
        rcases hx.row_inv with ⟨rfl, b, cap, hy⟩ | ⟨B, o', cap, f, hy, hB, hl, hc, hv⟩
        · exact ⟨b, 0, cap, hy, rfl, Nat.zero_le _⟩
        · exact ⟨_, _, cap, hy, rfl, hl⟩
      obtain ⟨b, n, cap, hy, rfl, hcap⟩ := hlen
      rw [hy] at hx
      obtain ⟨jn, rfl⟩ : ∃ jn : Nat, j = (jn : Int) := ⟨j.toNat, by omega⟩
      have hjn : jn ≤ l.length := by omega
      have hrun := sliceX_run h ho hel hy hhi hmx (show jn ≤ cap by omega)
      refine told_value h hk9 hrun ?_
      rw [show (jn : Int).toNat = jn by omega]
      rcases hx.row_inv with ⟨rfl, _⟩ | ⟨B, o', cap', f, hy', hB, hl, hc, hv⟩
      · have : jn = 0 := by simpa using hjn
        subst this
        exact .rownil
      · cases hy'
        have := (RowAt.sub (RowAt.of hc hv (cap := cap)) 0 jn).vr (cap := jn) hB (by simp; omega)
        simp only [Nat.zero_mul, Nat.add_zero, List.drop_zero] at this
        rw [show (l.take jn).length = jn by simp; omega] at this
        exact this
    · rename_i id hxl
      rw [hxl] at hx
      split at hk
      · rename_i c l d hid hd
        split at hk
        · rename_i hfd
          obtain ⟨hsc, hk⟩ := cond_none hk
          obtain ⟨hjm, hk9⟩ := cond_none hk
          simp only [Bool.and_eq_true, decide_eq_true_eq] at hjm
          obtain ⟨rfl, hjl⟩ := hjm
          subst hjl
          obtain ⟨b, n, cap, e3, hy⟩ := hx.vs_inv
          obtain ⟨b', cap', e4, hor⟩ := h.objs id _ hid
          rw [e3] at e4
          cases e4
          have hne : id ≠ d := fun e => by rw [e, hfd] at hid; cases hid
          have hfd' : lk (s.setO id .dead).o d = none := by rw [lk_setO, if_neg hne]; exact hfd
          have hcap : l.length ≤ cap := by
            rcases hor with ⟨rfl, rfl⟩ | ⟨B, arr, el, rfl, hblk, hheap, hnc, hcs, hcv⟩
            · exact Nat.le_refl _
            · exact hnc
          have hrun := sliceX_run (j := l.length) h ho hel hy hhi hmx hcap
          refine ⟨_, _, hk9, fun next Q hnext => ?_⟩
          unfold Oper.wp
          rw [hrun]
          rcases hor with ⟨rfl, rfl⟩ | ⟨B, arr, el, rfl, hblk, hheap, hnc, hcs, hcv⟩
          · exact hnext _ { R with hdr := fun k => if k = d then some (b, 0, 0) else R.hdr k } (newHdr (d := d) (sz := sz) (c := c) (b := b) h hfd) (.vs (by simp)) ((h.kill hid).nilVec hfd')
          · obtain ⟨R', hw', hle, hhd, hsr⟩ := h.growVec (d := d) (n := l.length) (l := l) (cap := l.length) (w' := R.w) (arr' := arr) hid hfd hblk hheap (Nat.le_trans (Nat.mul_le_mul_right _ hnc) hcs) rfl (Nat.le_refl _) rfl (fun _ _ => rfl) rfl rfl rfl
              (fun R' hle i x hx j v y hv hy => (hcv i x hx j v y hv hy).mono hle)
            have hw2 : R'.w = R.w := by rw [hw']
            rw [← hw2]
            exact hnext _ R' hle (.vs hhd) hsr
        · cases hk
      · cases hk
    · cases hk
  · cases hk

theorem vr_nilM {t : TypeId} {v : AV U} {y : Value} (h : VR E.D R v y) : VR E.D R (nilM E t v) y := by
  unfold nilM
  split
  · exact h.nilA
  · exact h

theorem bare_inv {f : FuncId} {v : AV U} {y : Value} (hb : bare f v = true) (h : VR E.D R v y) : y = .func (.func f) #[] #[] := by
  unfold bare at hb
  split at hb
  · have := Nat.eq_of_beq_eq_true hb
    subst this
    obtain ⟨ys, hy, hl, _⟩ := h.fn_inv
    have : ys = #[] := Array.eq_empty_of_size_eq_zero (by simpa using hl.symm)
    rw [hy, this]
  · cases hb
theorem bares_inv : ∀ (fs : List FuncId) (vs : List (AV U)) (ys : List Value), bares fs vs = true → vs.length = ys.length → (∀ (i : Nat) (p : AV U) (q : Value), vs[i]? = some p → ys[i]? = some q → VR E.D R p q) → ys = fs.map fun h => Value.func (.func h) #[] #[]
  | [], [], [], _, _, _ => rfl
  | [], [], _ :: _, _, h, _ => by cases h
  | [], _ :: _, _, h, _, _ => by cases h
  | _ :: _, [], _, h, _, _ => by cases h
  | _ :: _, _ :: _, [], _, h, _ => by cases h
  | f :: fs, v :: vs, y :: ys, h, hl, hv => by
    simp only [bares, Bool.and_eq_true] at h
    rw [List.map_cons, bare_inv h.1 (hv 0 v y rfl rfl), bares_inv fs vs ys h.2 (by simpa using hl) (fun i p q hp hq => hv (i + 1) p q (by simpa using hp) (by simpa using hq))]
theorem castL_keys {c ck : U.C} {α : Type} {l : List (U.El ck × α)} {l' : List (U.El c)} {D : Codec U} (h : castL D c ck (l.map fun p => p.1) = some l') : ∃ e : ck = c, l' = e ▸ (l.map fun p => p.1) := by
  unfold castL at h
  split at h
  · rename_i e he; cases h; exact ⟨e, rfl⟩
  · cases h
theorem enc_flat {D : Codec U} (L : Lawful D) {c : U.C} {ks : List Nat} (hk : D.kinds c = some ks) (h0 : ks.all (Nat.beq 0) = true) (x : U.El c) : ∀ v ∈ D.enc c x, ∃ k n, v = .flat (.int k n) :=
  (eqL_int ks _ _ _ h0 (eqF_eqL ks _ _ _ (L.keq_ok c ks x x hk))).1
theorem sfX_told (he : EnvOk E) {o : Oper} {f : FuncId} {d : SDen U} {K : AV U → Eff U → Option ρ} {r : ρ} (h : SR E.D nt w0 N0 R s a) (hd : E.sf f = some d) {args : List (AV U)} {vs : Array Value} (hlen : args.length = vs.size)
    (hargs : ∀ (i : Nat) (p : AV U) (q : Value), args[i]? = some p → vs[i]? = some q → VR E.D R p q) (hk : sfX d E.D (lk s.o) args K = some r) (hrun : (execOp a.eval o).run E.P R.w = .ok (.enter f vs) R.w) : Told E nt w0 N0 R s a o K r := by
  obtain ⟨hok, _⟩ := he.sf f d hd
  have get : ∀ (i : Nat) (p : AV U), args[i]? = some p → ∃ q, vs[i]? = some q ∧ VR E.D R p q := fun i p hp => by
    have hlt : i < vs.size := by rw [← hlen]; exact (List.getElem?_eq_some_iff.1 hp).1
    exact ⟨_, Array.getElem?_eq_getElem hlt, hargs i p _ hp (Array.getElem?_eq_getElem hlt)⟩
  unfold sfX at hk
  split at hk
  · rename_i g
    split at hk
    · rename_i id
      obtain ⟨q, hq, hv⟩ := get 0 _ rfl
      obtain ⟨mb, hh, rfl⟩ := hv.mp_inv
      have hvs : vs = #[.map mb] := by
        apply Array.ext_getElem?
        intro i
        cases i with
        | zero => rw [hq]; rfl
        | succ i => rw [Array.getElem?_eq_none (by rw [← hlen]; simp), Array.getElem?_eq_none (by simp)]
      refine ⟨_, _, hk, fun next Q hnext => ?_⟩
      unfold Oper.wp
      rw [hrun, hvs]
      refine Calls.mono (hok mb R.w) (fun e w' ⟨B, hev, hB, hB', hc, hbl⟩ => ?_)
      subst hev
      have hle : R.le { R with w := w' } := ⟨fun _ _ e => e, fun _ _ e => e, hbl.size, fun B i hB hN => ⟨cell_block (hbl.block B hB), hN⟩⟩
      have hs := h.calls hbl hle
      refine hnext _ { R with w := w' } hle (.fn (ys := #[.pointer (some ⟨B, 0, none⟩)]) rfl (fun i x y hx hy => ?_)) hs
      cases i with
      | succ i => simp at hx
      | zero =>
        simp at hx hy
        subst hx
        subst hy
        refine .rp (o := 0) (off := 0) (fun _ => .map mb) hB' (fun i x hx => ?_) (fun i x hx => ?_)
        · cases i with
          | succ i => simp at hx
          | zero => exact ⟨hc, fun hN => absurd (h.nlt B 0 hN) (by omega)⟩
        · cases i with
          | succ i => simp at hx
          | zero =>
            simp at hx
            subst hx
            exact .mp hh
    · cases hk
  · rename_i g cmp c ka b srt
    split at hk
    · rename_i g' id rest
      split at hk
      · rename_i w1 ka' va ck cv l hob
        split at hk
        · rename_i l' hcast
          split at hk
          · rename_i ks hks
            obtain ⟨hc, hk9⟩ := cond_none hk
            clear hk
            obtain ⟨hsz, hk⟩ := cond_none hk9
            clear hk9
            simp only [Bool.and_eq_true] at hc
            obtain ⟨hg, ⟨hka, hk0, hk1⟩, hb⟩ := hc
            have hg := Nat.eq_of_beq_eq_true hg
            subst hg
            have hka : ka' = ka := by simpa using hka
            subst hka
            obtain ⟨e, hl'⟩ := castL_keys hcast
            subst e
            simp only at hl'
            subst hl'
            obtain ⟨q, hq, hv⟩ := get 0 _ rfl
            obtain ⟨ys, rfl, hyl, hyv⟩ := hv.fn_inv
            have hy1 : ys.size = 1 := by simpa using hyl.symm
            obtain ⟨p0, hp0⟩ : ∃ p0, ys[0]? = some p0 := ⟨_, Array.getElem?_eq_getElem (by omega)⟩
            have hys : ys = #[p0] := by
              apply Array.ext_getElem?
              intro i
              cases i with
              | zero => rw [hp0]; rfl
              | succ i => rw [Array.getElem?_eq_none (by omega), Array.getElem?_eq_none (by simp)]
            have hvp := hyv 0 _ _ rfl hp0
            obtain ⟨B, o', fv, rfl, hB, hcell, hcv⟩ := hvp.rp_inv
            obtain ⟨mb, hh, hmb⟩ := (hcv 0 _ rfl).mp_inv
            have hcell := (hcell 0 _ rfl).1
            rw [hmb] at hcell
            have hvs : vs = #[.func (.func g') #[] #[.pointer (some ⟨B, o' + 0, none⟩)]] ++ (cmp.map fun h => Value.func (.func h) #[] #[]).toArray := by
              have hr := bares_inv (E := E) (R := R) cmp rest (vs.toList.drop 1) hb (by simp only [List.length_cons] at hlen; simp; omega) (fun i p q hp hq => hargs (i + 1) p q (by simpa using hp) (by
                rw [List.getElem?_drop] at hq
                rw [show i + 1 = 1 + i by omega]
                simpa using hq))
              apply Array.toList_inj.1
              have : vs.toList = vs.toList.take 1 ++ vs.toList.drop 1 := (List.take_append_drop 1 _).symm
              rw [this, hr]
              have h1 : vs.toList.take 1 = [.func (.func g') #[] #[.pointer (some ⟨B, o' + 0, none⟩)]] := by
                have h0 : vs.toList[0]? = some (.func (.func g') #[] ys) := by simpa using hq
                cases hvl : vs.toList with
                | nil => rw [hvl] at h0; simp at h0
                | cons z zs => rw [hvl] at h0; simp at h0; rw [h0, hys]; rfl
              rw [h1]
              simp
            have hH : HoldsL E.D R.w ck ka' mb (l.map fun p => p.1) := by
              obtain ⟨B0, h0, hor⟩ := h.objs id _ hob
              rw [hh] at h0
              have hBB : mb = B0 := by
                cases mb <;> cases B0 <;> simp_all
              subst hBB
              rcases hor with ⟨e1, e2, _⟩ | ⟨m, es, clock, e1, _, e3, ⟨e4, e5⟩, e6⟩
              · exact .inl ⟨e1, by rw [e2]; rfl⟩
              · refine .inr ⟨m, es, clock, e1, e3, e5, by rw [List.length_map]; exact e4, fun i x e hx hent => ?_⟩
                rw [List.getElem?_map, Option.map_eq_some_iff] at hx
                obtain ⟨p, hp, rfl⟩ := hx
                have hkv := (e6 i p e hp hent).1
                have hfl := enc_flat he.law hks hk0 p.1
                cases ka' with
                | true =>
                  obtain ⟨zs, hz, hzl, hzv⟩ := hkv.agg_inv
                  rw [hz]
                  show Value.agg zs = Value.agg _
                  congr 1
                  apply Array.ext_getElem?
                  intro j
                  by_cases hj : j < zs.size
                  · have hx := List.getElem?_eq_getElem (show j < (E.D.enc ck p.1).length by omega)
                    obtain ⟨k, n, e0⟩ := hfl _ (List.mem_of_getElem? hx)
                    have hzj : zs[j]? = some zs[j] := Array.getElem?_eq_getElem hj
                    have := hzv j _ _ hx hzj
                    rw [e0] at this hx
                    have := this.flat_inv
                    rw [hzj, this, List.getElem?_toArray, List.getElem?_map, hx]
                    rfl
                  · rw [Array.getElem?_eq_none (by omega), Array.getElem?_eq_none (by simp; omega)]
                | false =>
                  unfold packV at hkv
                  simp only at hkv
                  unfold keyV
                  simp only
                  have hlen1 := he.law.enc_len ck p.1
                  rw [Bool.false_or] at hk1
                  rw [Nat.eq_of_beq_eq_true hk1] at hlen1
                  obtain ⟨v, hv1⟩ := List.length_eq_one_iff.1 hlen1
                  obtain ⟨k, n, e0⟩ := hfl v (by rw [hv1]; simp)
                  rw [hv1] at hkv ⊢
                  rw [e0] at hkv ⊢
                  rw [hkv.flat_inv]
                  rfl
            refine ⟨_, _, hk, fun next Q hnext => ?_⟩
            unfold Oper.wp
            rw [hrun, hvs]
            refine Calls.mono (hok R.w B (o' + 0) mb _ hcell hB (of_decide_eq_true hsz) hH) (fun e w' ⟨v, hev, hbl, hsl, hrow⟩ => ?_)
            subst hev
            have hle : R.le { R with w := w' } := ⟨fun _ _ e => e, fun _ _ e => e, hbl.size, fun B i hB hN => ⟨cell_block (hbl.block B hB), hN⟩⟩
            refine hnext _ { R with w := w' } hle ?_ (h.calls hbl hle)
            rcases hrow with ⟨e1, rfl⟩ | ⟨blk, cap, rfl, hb1, hb2, hcap, hcells⟩
            · have : srt (l.map fun p => p.1) = [] := List.eq_nil_of_length_eq_zero (by rw [hsl, e1]; rfl)
              rw [this]
              exact .rownil
            · rw [← hsl]
              refine .row (o := 0) (fun i j => match (srt (l.map fun p => p.1))[i]? with | some x => ((E.D.enc ck x).map flatV).getD j undef | none => undef) hb2 (by rw [hsl]; exact hcap) (fun i x hx j v hv => ?_) (fun i x hx j v hv => ?_)
              · have : ((E.D.enc ck x).map flatV)[j]? = some (flatV v) := by rw [List.getElem?_map, hv]; rfl
                simp only [hx]
                rw [List.getD_eq_getElem?_getD, this]
                exact ⟨by rw [Nat.zero_add]; exact hcells i x hx j _ this, fun hN => absurd (h.nlt blk _ hN) (by omega)⟩
              · have : ((E.D.enc ck x).map flatV)[j]? = some (flatV v) := by rw [List.getElem?_map, hv]; rfl
                simp only [hx]
                rw [List.getD_eq_getElem?_getD, this]
                obtain ⟨k, n, e0⟩ := enc_flat he.law hks hk0 x v (List.mem_of_getElem? hv)
                subst e0
                exact .flat _
          · cases hk
        · cases hk
      · cases hk
    · cases hk

theorem opX_told (he : EnvOk E) {o : Oper} {K : AV U → Eff U → Option ρ} {r : ρ} (h : SR E.D nt w0 N0 R s a) (hk : opX E o s.op (lk s.o) K = some r) : Told E nt w0 N0 R s a o K r := by
  unfold opX at hk
  split at hk
  · rename_i c ho
    split at hk
    · rename_i g hc
      split at hk
      · rename_i f caps e1
        split at hk
        · rename_i d hd
          have hg := h.op g
          rw [e1] at hg
          obtain ⟨ys, hy, hyl, hyv⟩ := hg.fn_inv
          refine sfX_told he h hd (vs := c.args.map a.eval ++ ys) (by simp [hyl, argsA, argsFrom_len]) ?_ hk ?_
          · intro i p q hp hq
            rw [List.getElem?_append] at hp
            rw [Array.getElem?_append] at hq
            simp only [argsA, argsFrom_len, Array.length_toList] at hp
            simp only [Array.size_map] at hq
            split at hp
            · rename_i hlt
              rw [if_pos hlt] at hq
              rw [argsFrom_get, Option.map_eq_some_iff] at hp
              obtain ⟨x, hx, rfl⟩ := hp
              rw [Array.getElem?_map, show c.args[i]? = some x by simpa using hx] at hq
              simp only [Option.map_some, Option.some.injEq] at hq
              subst hq
              exact (h.op x).drop.nilA
            · rename_i hge
              rw [if_neg hge] at hq
              exact hyv _ p q hp hq
          · simp only [execOp, ho, resolve, hc, hy, Deferred.ofValue, Sem.run_bind, Sem.run_pure, Result.andThen_ok, invoke]
            rw [show (#[] : Array Value) ++ Array.map a.eval c.args = Array.map a.eval c.args from by simp]
            exact (he.sf f d hd).2 _ _
        split at hk
        · rename_i d hd
          have hg := h.op g
          rw [e1] at hg
          obtain ⟨ys, hy, hyl, hyv⟩ := hg.fn_inv
          refine callX_told he h hd (vs := c.args.map a.eval ++ ys) (by simp [hyl, argsA, argsFrom_len]) ?_ hk ?_
          · intro i p q hp hq
            rw [List.getElem?_append] at hp
            rw [Array.getElem?_append] at hq
            simp only [argsA, argsFrom_len, Array.length_toList] at hp
            simp only [Array.size_map] at hq
            split at hp
            · rename_i hlt
              rw [if_pos hlt] at hq
              rw [argsFrom_get, Option.map_eq_some_iff] at hp
              obtain ⟨x, hx, rfl⟩ := hp
              rw [Array.getElem?_map, show c.args[i]? = some x by simpa using hx] at hq
              simp only [Option.map_some, Option.some.injEq] at hq
              subst hq
              exact (h.op x).drop.nilA
            · rename_i hge
              rw [if_neg hge] at hq
              exact hyv _ p q hp hq
          · simp only [execOp, ho, resolve, hc, hy, Deferred.ofValue, Sem.run_bind, Sem.run_pure, Result.andThen_ok, invoke]
            rw [show (#[] : Array Value) ++ Array.map a.eval c.args = Array.map a.eval c.args from by simp]
            exact he.enter f d hd _ _
        · cases hk
      · cases hk
    · cases hk
  · rename_i t x k k' ho
    exact sliceZ_told h ho hk
  · rename_i t x hi mx _ ho
    exact sliceX_told he h ho hk
  · rename_i t x ix ok ho
    exact lookupX_told he h ho hk
  · rename_i t m k v ho
    exact updateX_told he h (.inl ho) (vr_nilM (h.op v).drop) hk
  · rename_i t m k v ho
    exact updateX_told he h (.inr ho) (vr_nilM (h.op v).drop) hk
  · rename_i t ho
    exact makeMapX_told h ho hk
  · cases hk

theorem opA_told (he : EnvOk E) {o : Oper} {K : AV U → Eff U → Option ρ} {r : ρ} (h : SR E.D nt w0 N0 R s a) (hk : opA E o s.op (lk s.o) K = some r) : Told E nt w0 N0 R s a o K r := by
  unfold opA at hk
  cases hb : isX E o s.op with
  | true => rw [hb] at hk; exact opX_told he h hk
  | false => rw [hb] at hk; exact opK_told he h hk
theorem opC_told (he : EnvOk E) {o : Oper} {K : St U → Option ρ} {r : ρ} (h : SR E.D nt w0 N0 R s a) (hk : opC E o s K = some r) :
    Told E nt w0 N0 R s a o (fun v u => K ((s.upd u).put o.dst v)) r := opA_told he h hk
end
end Go.Ev
