import Derived.Test.YtgfbcclfajcjnaaEvM
universe u
namespace Go.Ev
set_option linter.unusedVariables false
set_option linter.unusedSimpArgs false
open Go.RowKit (Below)
variable {U : Univ} {ρ : Type}
section
variable {E : Env U} {nt : Nat} {w0 : Cx} {N0 : Nat → Nat → Prop} {R : Rl} {s : St U} {a : Act}
theorem run_full {P : Program} {w : World} {n cap j : Nat} {k k' : IntKind} (hjc : j ≤ cap) : (Instr.sliceBounds true n cap none (some (.int k (j : Int))) (some (.int k' (j : Int)))).run P w = .ok (0, j, j) w := by
  have h1 : ((j : Int) ≤ (cap : Int)) := by omega
  simp [Instr.sliceBounds, Instr.sliceBound, asIntOf, h1]
theorem sliceX_run (h : SR E.D nt w0 N0 R s a) {o : Oper} {t : TypeId} {x hi mx : Operand} (ho : o.op = .slice t x none (some hi) (some mx)) {e : TypeId} {c : U.C} {sz by_ : Nat} (hel : elemOf E t = some (e, c, sz, by_))
    {b : Option Addr} {n cap j : Nat} {k k' : IntKind} (hx : a.eval x = .slice b n cap) (hh : a.eval hi = .int k (j : Int)) (hm : a.eval mx = .int k' (j : Int)) (hjc : j ≤ cap) :
    (execOp a.eval o).run E.P R.w = .ok (.value (.slice b j j)) R.w := by
  obtain ⟨inf, zv, hu, hif, _, hsz, _, _⟩ := elemOf_inv hel
  simp only [execOp, ho]
  refine run_value ?_
  have hb := run_full (P := E.P) (w := R.w) (n := n) (cap := cap) (k := k) (k' := k') hjc
  have hadd : b.map (fun z : Addr => z.add 0) = b := by cases b <;> simp [Addr.add]
  simp only [Option.map_none, Option.map_some, hh, hm]
  simp only [Instr.sliceAt, hx]
  simp [Instr.slice, run_underlying' R.w hu, hb, sizeOf, run_typeInfo' R.w hif]
  intro _
  exact hadd
theorem newHdr (h : SR E.D nt w0 N0 R s a) {d sz : Nat} {c : U.C} {b : Option Addr} (hf : lk s.o d = none) :
    R.le { R with hdr := fun k => if k = d then some (b, 0, 0) else R.hdr k } :=
  ⟨fun _ _ e => e, fun k p hp => by
    show (if k = d then _ else R.hdr k) = some p
    rw [if_neg (fun e => by subst e; rw [(h.none _ hf).2] at hp; cases hp)]; exact hp, fun _ _ _ e => e, Nat.le_refl _, fun _ _ _ hN => ⟨rfl, hN⟩⟩
theorem sliceZ_told (h : SR E.D nt w0 N0 R s a) {o : Oper} {t : TypeId} {x : Operand} {k k' : IntKind} {K : AV U → Eff U → Option ρ} {r : ρ} (ho : o.op = .slice t x none (some (.const (.int k 0))) (some (.const (.int k' 0))))
    (hk : sliceZ E (lk s.o) t o.dst (nilA E t (s.op x).drop) K = some r) : Told E nt w0 N0 R s a o K r := by
  unfold sliceZ at hk
  split at hk
  · rename_i e c' sz by_ d c l hel hd hxl
    have hx := (h.op x).drop.nilA (E := E) (t := t)
    rw [hxl] at hx
    split at hk
    · rename_i l' hcast hfd
      obtain ⟨hsc, hk⟩ := cond_none hk
      replace hsc := Nat.eq_of_beq_eq_true hsc
      have hlen : ∃ b n cap, a.eval x = .slice b n cap := by
        rcases hx.row_inv with ⟨rfl, b, cap, hy⟩ | ⟨B, o', cap, f, hy, hB, hl, hc, hv⟩
        · exact ⟨b, 0, cap, hy⟩
        · exact ⟨_, _, cap, hy⟩
      obtain ⟨b, n, cap, hy⟩ := hlen
      have hrun := sliceX_run (j := 0) h ho hel hy rfl rfl (Nat.zero_le _)
      have hle := newHdr (d := d) (sz := sz) (c := c) (b := b) h hfd
      cases hv : E.vecs d with
      | true =>
        rw [hv] at hk
        refine ⟨_, _, hk, fun next Q hnext => ?_⟩
        unfold Oper.wp
        rw [hrun]
        exact hnext _ { R with hdr := fun k => if k = d then some (b, 0, 0) else R.hdr k } hle (.vs (by simp)) (h.nilVec hfd)
      | false =>
        rw [hv] at hk
        refine ⟨_, _, hk, fun next Q hnext => ?_⟩
        unfold Oper.wp
        rw [hrun]
        exact hnext _ { R with hdr := fun k => if k = d then some (b, 0, 0) else R.hdr k } hle (.tip (by simp) .rownil) (h.nilTip hfd)
    · cases hk
  · cases hk
theorem sliceX_told (he : EnvOk E) (h : SR E.D nt w0 N0 R s a) {o : Oper} {t : TypeId} {x hi mx : Operand} {K : AV U → Eff U → Option ρ} {r : ρ} (ho : o.op = .slice t x none (some hi) (some mx))
    (hk : sliceX E (lk s.o) t o.dst (match s.op x with | .vs id => .vs id | v => nilA E t v.drop) (s.op hi) (s.op mx) K = some r) : Told E nt w0 N0 R s a o K r := by
  unfold sliceX at hk
  split at hk
  · rename_i e c' sz by_ k j k' m hel e1 e2
    have hhi := h.op hi
    rw [e1] at hhi
    replace hhi := hhi.flat_inv
    have hmx := h.op mx
    rw [e2] at hmx
    replace hmx := hmx.flat_inv
    have hx : VR E.D R (match s.op x with | .vs id => .vs id | v => nilA E t v.drop) (a.eval x) := by
      have := h.op x
      split
      · rename_i id e; rw [e] at this; exact this
      · exact this.drop.nilA
    split at hk
    · rename_i c l hxl
      rw [hxl] at hx
      obtain ⟨hsc, hk⟩ := cond_none hk
      obtain ⟨hjm, hk9⟩ := cond_none hk
      simp only [Bool.and_eq_true, decide_eq_true_eq] at hjm
      obtain ⟨rfl, hin⟩ := hjm
      obtain ⟨a1, a2, a3⟩ := inS_spec hin
      have hlen : ∃ b n cap, a.eval x = .slice b n cap ∧ n = l.length ∧ l.length ≤ cap := by
        rcases hx.row_inv with ⟨rfl, b, cap, hy⟩ | ⟨B, o', cap, f, hy, hB, hl, hc, hv⟩
        · exact ⟨b, 0, cap, hy, rfl, Nat.zero_le _⟩
        · exact ⟨_, _, cap, hy, rfl, hl⟩
      obtain ⟨b, n, cap, hy, rfl, hcap⟩ := hlen
      rw [hy] at hx
      obtain ⟨jn, rfl⟩ : ∃ jn : Nat, j = (jn : Int) := ⟨j.toNat, by omega⟩
      have hjn : jn ≤ l.length := by omega
      have hrun := sliceX_run h ho hel hy hhi hmx (show jn ≤ cap by omega)
      refine told_value h hk9 hrun ?_
      rw [show (jn : Int).toNat = jn by omega]
      rcases hx.row_inv with ⟨rfl, _⟩ | ⟨B, o', cap', f, hy', hB, hl, hc, hv⟩
      · have : jn = 0 := by simpa using hjn
        subst this
        exact .rownil
      · cases hy'
        have := (RowAt.sub (RowAt.of hc hv (cap := cap)) 0 jn).vr (cap := jn) hB (by simp; omega)
        simp only [Nat.zero_mul, Nat.add_zero, List.drop_zero] at this
        rw [show (l.take jn).length = jn by simp; omega] at this
        exact this
    · rename_i id hxl
      rw [hxl] at hx
      split at hk
      · rename_i c l d hid hd
        split at hk
        · rename_i hfd
          obtain ⟨hsc, hk⟩ := cond_none hk
          obtain ⟨hjm, hk9⟩ := cond_none hk
          simp only [Bool.and_eq_true, decide_eq_true_eq] at hjm
          obtain ⟨rfl, hjl⟩ := hjm
          subst hjl
          obtain ⟨b, n, cap, e3, hy⟩ := hx.vs_inv
          obtain ⟨b', cap', e4, hor⟩ := h.objs id _ hid
          rw [e3] at e4
          cases e4
          have hne : id ≠ d := fun e => by rw [e, hfd] at hid; cases hid
          have hfd' : lk (s.setO id .dead).o d = none := by rw [lk_setO, if_neg hne]; exact hfd
          have hcap : l.length ≤ cap := by
            rcases hor with ⟨rfl, rfl⟩ | ⟨B, arr, el, rfl, hblk, hheap, hnc, hcs, hcv⟩
            · exact Nat.le_refl _
            · exact hnc
          have hrun := sliceX_run (j := l.length) h ho hel hy hhi hmx hcap
          refine ⟨_, _, hk9, fun next Q hnext => ?_⟩
          unfold Oper.wp
          rw [hrun]
          rcases hor with ⟨rfl, rfl⟩ | ⟨B, arr, el, rfl, hblk, hheap, hnc, hcs, hcv⟩
          · exact hnext _ { R with hdr := fun k => if k = d then some (b, 0, 0) else R.hdr k } (newHdr (d := d) (sz := sz) (c := c) (b := b) h hfd) (.vs (by simp)) ((h.kill hid).nilVec hfd')
          · obtain ⟨R', hw', hle, hhd, hsr⟩ := h.growVec (d := d) (n := l.length) (l := l) (cap := l.length) (w' := R.w) (arr' := arr) hid hfd hblk hheap (Nat.le_trans (Nat.mul_le_mul_right _ hnc) hcs) rfl (Nat.le_refl _) rfl (fun _ _ => rfl) rfl rfl rfl
              (fun R' hle i x hx j v y hv hy => (hcv i x hx j v y hv hy).mono hle)
            have hw2 : R'.w = R.w := by rw [hw']
            rw [← hw2]
            exact hnext _ R' hle (.vs hhd) hsr
        · cases hk
      · cases hk
    · cases hk
  · cases hk
theorem vr_nilM {t : TypeId} {v : AV U} {y : Value} (h : VR E.D R v y) : VR E.D R (nilM E t v) y := by
  unfold nilM
  split
  · exact h.nilA
  · exact h
theorem bare_inv {f : FuncId} {v : AV U} {y : Value} (hb : bare f v = true) (h : VR E.D R v y) : y = .func (.func f) #[] #[] := by
  unfold bare at hb
  split at hb
  · have := Nat.eq_of_beq_eq_true hb
    subst this
    obtain ⟨ys, hy, hl, _⟩ := h.fn_inv
    have : ys = #[] := Array.eq_empty_of_size_eq_zero (by simpa using hl.symm)
    rw [hy, this]
  · cases hb
theorem bares_inv : ∀ (fs : List FuncId) (vs : List (AV U)) (ys : List Value), bares fs vs = true → vs.length = ys.length → (∀ (i : Nat) (p : AV U) (q : Value), vs[i]? = some p → ys[i]? = some q → VR E.D R p q) → ys = fs.map fun h => Value.func (.func h) #[] #[]
  | [], [], [], _, _, _ => rfl
  | [], [], _ :: _, _, h, _ => by cases h
  | [], _ :: _, _, h, _, _ => by cases h
  | _ :: _, [], _, h, _, _ => by cases h
  | _ :: _, _ :: _, [], _, h, _ => by cases h
  | f :: fs, v :: vs, y :: ys, h, hl, hv => by
    simp only [bares, Bool.and_eq_true] at h
    rw [List.map_cons, bare_inv h.1 (hv 0 v y rfl rfl), bares_inv fs vs ys h.2 (by simpa using hl) (fun i p q hp hq => hv (i + 1) p q (by simpa using hp) (by simpa using hq))]
theorem castL_keys {c ck : U.C} {α : Type} {l : List (U.El ck × α)} {l' : List (U.El c)} {D : Codec U} (h : castL D c ck (l.map fun p => p.1) = some l') : ∃ e : ck = c, l' = e ▸ (l.map fun p => p.1) := by
  unfold castL at h
  split at h
  · rename_i e he; cases h; exact ⟨e, rfl⟩
  · cases h
theorem enc_flat {D : Codec U} (L : Lawful D) {c : U.C} {ks : List Nat} (hk : D.kinds c = some ks) (h0 : ks.all (Nat.beq 0) = true) (x : U.El c) : ∀ v ∈ D.enc c x, ∃ k n, v = .flat (.int k n) :=
  (eqL_int ks _ _ _ h0 (eqF_eqL ks _ _ _ (L.keq_ok c ks x x hk))).1
def Al {α β : Type} (Rel : α → β → Prop) : List α → List β → Prop
  | [], [] => True
  | x :: l, y :: m => Rel x y ∧ Al Rel l m
  | _, _ => False
theorem al_of {α β : Type} {Rel : α → β → Prop} : ∀ {l : List α} {m : List β}, l.length = m.length → (∀ (i : Nat) (x : α) (y : β), l[i]? = some x → m[i]? = some y → Rel x y) → Al Rel l m
  | [], [], _, _ => True.intro
  | [], _ :: _, h, _ => by cases h
  | _ :: _, [], h, _ => by cases h
  | x :: l, y :: m, h, hr => ⟨hr 0 x y rfl rfl, al_of (by simpa using h) fun i a b ha hb => hr (i + 1) a b (by simpa using ha) (by simpa using hb)⟩
theorem al_len {α β : Type} {Rel : α → β → Prop} : ∀ {l : List α} {m : List β}, Al Rel l m → l.length = m.length
  | [], [], _ => rfl
  | [], _ :: _, h => by cases h
  | _ :: _, [], h => by cases h
  | x :: l, y :: m, h => by rw [List.length_cons, List.length_cons, al_len h.2]
theorem al_at {α β : Type} {Rel : α → β → Prop} : ∀ {l : List α} {m : List β}, Al Rel l m → ∀ (i : Nat) (x : α) (y : β), l[i]? = some x → m[i]? = some y → Rel x y
  | [], [], _, i, x, y, h, _ => by simp at h
  | [], _ :: _, h, _, _, _, _, _ => by cases h
  | _ :: _, [], h, _, _, _, _, _ => by cases h
  | x :: l, y :: m, h, 0, a, b, ha, hb => by simp at ha hb; subst ha; subst hb; exact h.1
  | x :: l, y :: m, h, i + 1, a, b, ha, hb => al_at h.2 i a b (by simpa using ha) (by simpa using hb)
theorem al_ex {α β : Type} {Rel : α → β → Prop} : ∀ {m : List β}, (∀ y ∈ m, ∃ x, Rel x y) → ∃ l : List α, Al Rel l m
  | [], _ => ⟨[], True.intro⟩
  | y :: m, h => by
    obtain ⟨x, hx⟩ := h y (by simp)
    obtain ⟨l, hl⟩ := al_ex (Rel := Rel) fun z hz => h z (List.mem_cons_of_mem _ hz)
    exact ⟨x :: l, hx, hl⟩
theorem keepL_some {α : Type} {p : α → Option Bool} : ∀ {l l' : List α}, keepL p l = some l' → ∀ x ∈ l, ∃ b, p x = some b
  | [], _, _, x, hx => by cases hx
  | a :: l, l', h, x, hx => by
    unfold keepL at h
    obtain ⟨b, hb, h⟩ := Option.bind_eq_some_iff.1 h
    obtain ⟨r, hr, h⟩ := Option.bind_eq_some_iff.1 h
    rcases List.mem_cons.1 hx with rfl | hx
    · exact ⟨b, hb⟩
    · exact keepL_some hr x hx
theorem keepL_al {α β : Type} {Rel : α → β → Prop} {p : α → Option Bool} {q : β → Bool} : ∀ {l l' : List α} {m : List β}, Al (fun x y => Rel x y ∧ p x = some (q y)) l m → keepL p l = some l' → Al Rel l' (m.filter fun y => !q y)
  | [], l', [], _, h => by cases h; exact True.intro
  | [], _, _ :: _, h, _ => by cases h
  | _ :: _, _, [], h, _ => by cases h
  | x :: l, l', y :: m, ⟨⟨h1, h2⟩, h3⟩, h => by
    unfold keepL at h
    rw [h2, Option.bind_some] at h
    obtain ⟨r, hr, h⟩ := Option.bind_eq_some_iff.1 h
    have ih := keepL_al h3 hr
    simp only [Option.some.injEq] at h
    subst h
    cases hq : q y with
    | true => rw [List.filter_cons_of_neg (by simp [hq])]; exact ih
    | false => rw [List.filter_cons_of_pos (by simp [hq])]; exact ⟨h1, ih⟩
theorem grown_le {w' : World} {id B es : Nat} {o : Obj U} (h : SR E.D nt w0 N0 R s a) (hid : lk s.o id = some o) (ha : o.alive) (hw : o.whole) (hb : R.blk id = some (B, es)) (hg : R.w.grownBy w' (some B)) : R.le { R with w := w' } :=
  ⟨fun _ _ e => e, fun _ _ e => e, fun _ _ _ e => e, hg.size, fun C i hC hn => ⟨obs_block (hg.block C hC (fun e => hn (by cases e; exact (h.own id o B es hid ha hb).1 hw i))), hn⟩⟩
theorem grown_le0 {w' : World} (hg : R.w.grownBy w' none) : R.le { R with w := w' } :=
  ⟨fun _ _ e => e, fun _ _ e => e, fun _ _ _ e => e, hg.size, fun C i hC hn => ⟨obs_block (hg.block C hC (by simp)), hn⟩⟩
theorem saysX_ok (he : EnvOk E) {g : FuncId} {x y : AV U} {bb : Bool} (h : saysX E g x y = some bb) {R : Rl} (hN : ∀ B i, R.N B i → B < R.w.heap.size) {u v : Value} (hu : VR E.D R x u) (hv : VR E.D R y v) :
    Calls E.P g #[u, v] R.w fun e w' => e = .returned (.bool bb) ∧ R.w.grownBy w' none := by
  unfold saysX at h
  split at h
  · rename_i d hd
    obtain ⟨hc, h⟩ := cond_none h
    obtain ⟨z, hz, h⟩ := Option.bind_eq_some_iff.1 h
    obtain ⟨q, hq, h⟩ := Option.bind_eq_some_iff.1 h
    simp only [Bool.and_eq_true] at hc
    obtain ⟨⟨hc1, hcl⟩, hnt⟩ := hc
    have hnt := Nat.le_of_ble_eq_true hnt
    have hargs : ∀ (i : Nat) (p : AV U) (q : Value), [x, y][i]? = some p → #[u, v][i]? = some q → VR E.D R p q := by
      intro i p q hp hq
      match i, hp, hq with
      | 0, hp, hq => simp at hp hq; subst hp; subst hq; exact hu
      | 1, hp, hq => simp at hp hq; subst hp; subst hq; exact hv
    have hS := (he.fd g d hd).2 ⟨startT [x, y] 0, []⟩ z q hz hq ⟨R.w, fun _ => False, #[u, v]⟩ { R with blk := fun _ => none, hdr := fun _ => none, ar := fun _ => [] } #[u, v] rfl rfl (by simpa using hnt)
      (sr_start he.law (R := R) hN rfl hargs hc1 (by simpa using hnt) (he.fd g d hd).1)
    refine Calls.mono hS (fun e w' ⟨v', R', hev, hw', hs'⟩ => ?_)
    subst hw'
    have hvr : VR E.D R' ((d.fin q).get 0) v' := by
      have := hs'.tm 0
      rw [tv_lt (by unfold gb; omega)] at this
      exact this
    split at h
    · rename_i r hr
      rw [hr] at hvr
      rw [hev, hvr.flat_inv]
      simp only [Option.some.injEq] at h
      subst h
      exact ⟨rfl, hs'.keep.os, hs'.keep.tape, hs'.keep.output, hs'.keep.size, fun k hk _ => hs'.keep.block k hk (fun h => h)⟩
    · cases h
  · cases h
theorem keyT_ok (L : Lawful E.D) {kt : TypeId} {c : U.C} {g : Bool} (h : keyT E kt c g = true) {k : U.El c} {X : Value} (hv : VR E.D R (packV g (E.D.enc c k)) X) : KeyOk E R kt c g k X := by
  unfold keyT at h
  split at h
  · rename_i ks ks' e1 e2
    simp only [Bool.and_eq_true] at h
    obtain ⟨⟨⟨hk, ha⟩, hok⟩, hg⟩ := h
    have hk := eq_of_beq hk
    have hg := eq_of_beq hg
    subst hk
    exact ⟨⟨ks, e1, e2, ha⟩, hok, hg, rep_pack hg (fun hh => by rw [key_len L e1]; exact plain_one e2 hh) hv, hv⟩
  · cases h
theorem findAt (L : Lawful E.D) {kt : TypeId} {c cv : U.C} {g : Bool} (hkt : keyT E kt c g = true) {l : List (U.El c × U.El cv)} {es : List MapEntry} (hal : Al (fun (x : U.El c × U.El cv) (e : MapEntry) => VR E.D R (packV g (E.D.enc c x.1)) e.key) l es)
    (hn : (es.map (·.key)).Nodup) {i : Nat} {e : MapEntry} (hi : es[i]? = some e) :
    (∀ em, (Instr.checkKey em 10000 kt e.key).run E.P R.w = .ok () R.w) ∧ (Instr.findKey kt e.key es).run E.P R.w = .ok (some (i, e.val)) R.w := by
  have hlen := al_len hal
  have hie : i < es.length := (List.getElem?_eq_some_iff.1 hi).1
  obtain ⟨x, hx⟩ : ∃ x, l[i]? = some x := ⟨_, List.getElem?_eq_getElem (by omega)⟩
  have hkey := keyT_ok L hkt (al_at hal i x e hx hi)
  obtain ⟨hf, hc, hfound, hmiss⟩ := keyOk_find L hkey (l := l) (es := es.toArray) (by simpa using hlen.symm) (fun j y u hy hu => al_at hal j y u hy (by simpa using hu))
  refine ⟨hc, ?_⟩
  have heq : E.D.keq c x.1 x.1 = true := by
    cases hb : E.D.keq c x.1 x.1 with
    | true => rfl
    | false => exact absurd rfl (hmiss i x e hx (by simpa using hi) hb)
  rw [show es.toArray.toList = es from rfl] at hf
  rw [hf]
  cases hfi : fidx (E.D.keq c x.1) l 0 with
  | none => exact absurd (fidx_none hfi x (List.mem_of_getElem? hx)) (by rw [heq]; simp)
  | some j =>
    obtain ⟨_, hjl, p, hp, hpe⟩ := fidx_ge hfi
    simp only [Nat.sub_zero] at hp
    obtain ⟨u, hu⟩ : ∃ u, es[j]? = some u := ⟨_, List.getElem?_eq_getElem (by omega)⟩
    obtain ⟨h1, _, _⟩ := hfound j p u hp (by simpa using hu) hpe
    have hij : j = i := by
      have ha : (es.map (·.key))[j]? = some u.key := by rw [List.getElem?_map, hu]; rfl
      have hb : (es.map (·.key))[i]? = some e.key := by rw [List.getElem?_map, hi]; rfl
      rw [h1] at ha
      have hj' : j < (es.map (·.key)).length := (List.getElem?_eq_some_iff.1 ha).1
      exact (List.getElem?_inj hj' hn).1 (ha.trans hb.symm)
    subst hij
    rw [hi] at hu
    simp only [Option.some.injEq] at hu
    subst hu
    simp only [hi, Option.map_some]
theorem one_cell {D : Codec U} {x : AV U} {y : Value} (h : VR D R x y) (h1 : okCell x = true) (h0 : c0 x = true) : y.oneCell' = true := by
  cases h with
  | flat => cases y <;> first | rfl | cases h1
  | rownil => rfl
  | row _ _ _ _ _ => rfl
  | fmnil => rfl
  | fm _ _ _ _ _ _ _ => rfl
  | fmp _ _ _ => rfl
  | undef _ => cases h1
  | _ => cases h0
theorem cells_one {D : Codec U} (L : Lawful D) {c : U.C} {x : U.El c} {as : Array Value} (hl : (D.enc c x).length = as.size) (hv : ∀ (i : Nat) (u : AV U) (v : Value), (D.enc c x)[i]? = some u → as[i]? = some v → VR D R u v) : ∀ v ∈ as.toList, v.oneCell' = true := fun v hm => by
  obtain ⟨i, hi⟩ := List.getElem?_of_mem hm
  have hi : as[i]? = some v := by simpa using hi
  have hlt : i < as.size := (Array.getElem?_eq_some_iff.1 hi).1
  have hx := List.getElem?_eq_getElem (show i < (D.enc c x).length by omega)
  exact one_cell (hv i _ v hx hi) (L.enc_ok c x _ (List.mem_of_getElem? hx)) (L.enc_c0 c x _ (List.mem_of_getElem? hx))
theorem shaped_of (L : Lawful E.D) {ka va : Bool} {ck cv : U.C} {l : List (U.El ck × U.El cv)} {es : Array MapEntry} {nk nv : Nat} (hc : (ka && va && Nat.beq (E.D.size ck) nk && Nat.beq (E.D.size cv) nv) = true) (hsz : es.size = l.length)
    (hrel : ∀ (i : Nat) (x : U.El ck × U.El cv) (e : MapEntry), l[i]? = some x → es[i]? = some e → VR E.D R (packV ka (E.D.enc ck x.1)) e.key ∧ VR E.D R (packV va (E.D.enc cv x.2)) e.val) : Shaped nk nv es := fun e hem => by
  simp only [Bool.and_eq_true] at hc
  obtain ⟨⟨⟨h1, h2⟩, h3⟩, h4⟩ := hc
  have h3 := Nat.eq_of_beq_eq_true h3
  have h4 := Nat.eq_of_beq_eq_true h4
  subst h1
  subst h2
  obtain ⟨i, hi⟩ := List.getElem?_of_mem hem
  have hi : es[i]? = some e := by simpa using hi
  have : i < es.size := (Array.getElem?_eq_some_iff.1 hi).1
  obtain ⟨r1, r2⟩ := hrel i _ e (List.getElem?_eq_getElem (by omega)) hi
  obtain ⟨as, e1, l1, c1⟩ := r1.agg_inv
  obtain ⟨bs, e2, l2, c2⟩ := r2.agg_inv
  exact ⟨as, bs, e1, by rw [← l1, L.enc_len, h3], cells_one L l1 c1, e2, by rw [← l2, L.enc_len, h4], cells_one L l2 c2⟩
open Classical in
theorem delX_told (he : EnvOk E) {o : Oper} {f : FuncId} {kt : TypeId} {nk nv : Nat} {K : AV U → Eff U → Option ρ} {r : ρ} (h : SR E.D nt w0 N0 R s a) (hok : SfOk E.P E.D f (.del kt nk nv)) {args : List (AV U)} {vs : Array Value} (hlen : args.length = vs.size)
    (hargs : ∀ (i : Nat) (p : AV U) (q : Value), args[i]? = some p → vs[i]? = some q → VR E.D R p q) (hk : sfX (.del kt nk nv) E (lk s.o) args K = some r) (hrun : (execOp a.eval o).run E.P R.w = .ok (.enter f vs) R.w) : Told E nt w0 N0 R s a o K r := by
  have get : ∀ (i : Nat) (p : AV U), args[i]? = some p → ∃ q, vs[i]? = some q ∧ VR E.D R p q := fun i p hp => by
    have hlt : i < vs.size := by rw [← hlen]; exact (List.getElem?_eq_some_iff.1 hp).1
    exact ⟨_, Array.getElem?_eq_getElem hlt, hargs i p _ hp (Array.getElem?_eq_getElem hlt)⟩
  unfold sfX at hk
  simp only at hk
  split at hk
  · rename_i id g
    split at hk
    · rename_i ka va ck cv l hob
      obtain ⟨hkt, hk⟩ := cond_none hk
      rw [Bool.and_eq_true] at hkt
      obtain ⟨hkt, hshape⟩ := hkt
      obtain ⟨l', hl', hk⟩ := Option.bind_eq_some_iff.1 hk
      obtain ⟨q0, hq0, hv0⟩ := get 0 _ rfl
      obtain ⟨q1, hq1, hv1⟩ := get 1 _ rfl
      obtain ⟨mb, hh, rfl⟩ := hv0.mp_inv
      have hv1 := bare_inv (E := E) (R := R) (f := g) (by simp [bare]) hv1
      subst hv1
      obtain ⟨B0, h0, hor⟩ := h.objs id _ hob
      rcases hor with ⟨_, _, h9, _⟩ | ⟨b, es, clock, e1, hblk, hheap, ⟨hsz, hst⟩, hrel⟩
      · cases h9
      have hmb : mb = some b := by
        rw [hh] at h0
        subst e1
        cases mb <;> simp at h0
        rw [h0]
      subst hmb
      have hvs : vs = #[.map (some b), .func (.func g) #[] #[]] := by
        apply Array.ext_getElem?
        intro i
        match i with
        | 0 => rw [hq0]; rfl
        | 1 => rw [hq1]; rfl
        | i + 2 => rw [Array.getElem?_eq_none (by rw [← hlen]; simp), Array.getElem?_eq_none (by simp)]
      have hN : ∀ B i, R.N B i → B < R.w.heap.size := h.nlt
      have hst2 := hst.2.1
      have hst3 := hst.2.2
      have hbn : ∀ (i j : Nat) (e : MapEntry), es[i]? = some e → es[j]? = some e → i = j := fun i j e hi hj => by
        have ha : (es.toList.map (·.born))[i]? = some e.born := by rw [List.getElem?_map, show es.toList[i]? = some e by simpa using hi]; rfl
        have hb : (es.toList.map (·.born))[j]? = some e.born := by rw [List.getElem?_map, show es.toList[j]? = some e by simpa using hj]; rfl
        have hj' : i < (es.toList.map (·.born)).length := (List.getElem?_eq_some_iff.1 ha).1
        exact (List.getElem?_inj hj' hst2).1 (ha.trans hb.symm)
      let says : U.El ck × U.El cv → Option Bool := fun p => saysX E g (packV ka (E.D.enc ck p.1)) (packV va (E.D.enc cv p.2))
      let pd : MapEntry → Bool := fun e => decide (∃ (i : Nat) (p : U.El ck × U.El cv), es[i]? = some e ∧ l[i]? = some p ∧ says p = some true)
      have hpd : ∀ (i : Nat) (p : U.El ck × U.El cv) (e : MapEntry), l[i]? = some p → es[i]? = some e → says p = some (pd e) := fun i p e hp hi => by
        obtain ⟨bb, hbb⟩ := keepL_some hl' p (List.mem_of_getElem? hp)
        have hbb : says p = some bb := hbb
        rw [hbb]
        congr 1
        cases bb with
        | true => exact (decide_eq_true (p := ∃ (i : Nat) (p : U.El ck × U.El cv), es[i]? = some e ∧ l[i]? = some p ∧ says p = some true) ⟨i, p, hi, hp, hbb⟩).symm
        | false =>
          refine (decide_eq_false (p := ∃ (i : Nat) (p : U.El ck × U.El cv), es[i]? = some e ∧ l[i]? = some p ∧ says p = some true) ?_).symm
          rintro ⟨j, p', hj, hp', hs'⟩
          have := hbn i j e hi hj
          subst this
          rw [hp] at hp'
          simp only [Option.some.injEq] at hp'
          subst hp'
          rw [hbb] at hs'
          cases hs'
      have hidx : ∀ e ∈ es.toList, ∃ (i : Nat) (p : U.El ck × U.El cv), es[i]? = some e ∧ l[i]? = some p := fun e hem => by
        obtain ⟨i, hi⟩ := List.getElem?_of_mem hem
        have hi : es[i]? = some e := by simpa using hi
        have : i < es.size := (Array.getElem?_eq_some_iff.1 hi).1
        exact ⟨i, _, hi, List.getElem?_eq_getElem (by omega)⟩
      have hle : ∀ W, R.w.grownBy W (some b) → R.le { R with w := W } := fun W hg => grown_le h hob True.intro True.intro hblk hg
      have hc := hok R.w b es clock g pd hheap hst (shaped_of he.law hshape hsz hrel) (fun hne args w => by
          cases hd : E.fd g with
          | some d => exact he.enter g d hd args w
          | none =>
            exfalso
            cases hl0 : l with
            | nil =>
              rw [hl0] at hsz
              exact hne (List.eq_nil_of_length_eq_zero (by simpa using hsz))
            | cons p l0 =>
              obtain ⟨bb, hbb⟩ := keepL_some hl' p (by rw [hl0]; simp)
              simp [saysX, hd] at hbb)
        (fun W hg e hem => by
          obtain ⟨i, p, hi, hp⟩ := hidx e hem
          obtain ⟨r1, r2⟩ := hrel i p e hp hi
          exact saysX_ok he (hpd i p e hp hi) (R := { R with w := W }) (fun B i hB => Nat.lt_of_lt_of_le (hN B i hB) hg.size) (r1.mono (hle W hg)) (r2.mono (hle W hg)))
        (fun W hg e hem => by
          have hex : ∀ m : List MapEntry, m.Sublist es.toList → ∃ l2 : List (U.El ck × U.El cv), Al (fun (x : U.El ck × U.El cv) (e : MapEntry) => VR E.D { R with w := W } (packV ka (E.D.enc ck x.1)) e.key) l2 m := fun m hm => al_ex fun e' he' => by
            obtain ⟨i, p, hi, hp⟩ := hidx e' (hm.subset he')
            exact ⟨p, (hrel i p e' hp hi).1.mono (hle W hg)⟩
          refine ⟨?_, fun m i hm hi => ?_⟩
          · obtain ⟨l2, hal⟩ := hex es.toList (List.Sublist.refl _)
            obtain ⟨i, hi⟩ := List.getElem?_of_mem hem
            exact (findAt (R := { R with w := W }) he.law hkt hal hst3 hi).1
          · obtain ⟨l2, hal⟩ := hex m hm
            exact (findAt (R := { R with w := W }) he.law hkt hal ((hm.map _).nodup hst3) hi).2)
      refine ⟨_, _, hk, fun next Q hnext => ?_⟩
      unfold Oper.wp
      rw [hrun, hvs]
      refine Calls.mono hc (fun e w' ⟨⟨v, hev⟩, hg, es', hb', hes'⟩ => ?_)
      subst hev
      obtain ⟨g1, g2⟩ := MapKept.heap_set (o' := .map es' clock) hheap
      have hsub : es'.toList.Sublist es.toList := by rw [hes']; exact List.filter_sublist
      have hal := keepL_al (Rel := fun (x : U.El ck × U.El cv) (e : MapEntry) => VR E.D R (packV ka (E.D.enc ck x.1)) e.key ∧ VR E.D R (packV va (E.D.enc cv x.2)) e.val) (p := says) (q := pd) (m := es.toList)
        (al_of (by simpa using hsz.symm) fun i x y hx hy => by
          have hy : es[i]? = some y := by simpa using hy
          exact ⟨hrel i x y hx hy, hpd i x y hx hy⟩) hl'
      rw [← hes'] at hal
      have hb1 : b < R.w.heap.size := (Array.getElem?_eq_some_iff.1 hheap).1
      obtain ⟨hle1, hsr⟩ := h.write (ob := .map true ka va ck cv l') (w' := { R.w with heap := R.w.heap.setIfInBounds b (.map es' clock) }) hob True.intro True.intro True.intro hblk (by simp) g2 rfl rfl rfl
        ⟨some b, by rw [hh], .inr ⟨b, es', clock, rfl, hblk, g1, ⟨by have := al_len hal; simpa using this.symm, ⟨fun x hx => hst.1 x (hsub.subset hx), (hsub.map _).nodup hst2, (hsub.map _).nodup hst3⟩⟩, fun i p e hp he' => by
          have := al_at hal i p e hp (by simpa using he')
          have hle2 : R.le { R with w := { R.w with heap := R.w.heap.setIfInBounds b (.map es' clock) } } := ⟨fun _ _ e => e, fun _ _ e => e, fun _ _ _ e => e, by simp, fun B i hB hn => ⟨obs_block (w' := { R.w with heap := R.w.heap.setIfInBounds b (.map es' clock) }) (g2 B (fun e => hn (e ▸ (h.own id _ b 0 hob True.intro hblk).1 True.intro i))), hn⟩⟩
          exact ⟨this.1.mono hle2, this.2.mono hle2⟩⟩⟩
      have hbl : Below ({ R.w with heap := R.w.heap.setIfInBounds b (.map es' clock) } : World).heap.size { R.w with heap := R.w.heap.setIfInBounds b (.map es' clock) } w' :=
        ⟨hg.os, hg.tape, hg.output, by simpa using hg.size, fun k hk => by
          have hk : k < R.w.heap.size := by simpa using hk
          by_cases hkb : k = b
          · subst hkb
            rw [hb']; exact g1.symm
          · exact (hg.block k hk (by simp [hkb])).trans (g2 k hkb).symm⟩
      have hle3 : Rl.le { R with w := { R.w with heap := R.w.heap.setIfInBounds b (.map es' clock) } } { R with w := w' } := ⟨fun _ _ e => e, fun _ _ e => e, fun _ _ _ e => e, hbl.size, fun B i hB hN => ⟨obs_block (hbl.block B hB), hN⟩⟩
      exact hnext _ { R with w := w' } (hle w' hg) (.undef _) (hsr.calls hbl hle3)
    · cases hk
  · cases hk
theorem al_all {α β : Type} {f : α → Bool} {g : β → Bool} : ∀ {l : List α} {m : List β}, Al (fun x y => f x = g y) l m → l.all f = m.all g
  | [], [], _ => rfl
  | [], _ :: _, h => by cases h
  | _ :: _, [], h => by cases h
  | x :: l, y :: m, h => by rw [List.all_cons, List.all_cons, h.1, al_all h.2]
theorem castM_inv {D : Codec U} {c c' v v' : U.C} {l : List (U.El c' × U.El v')} {m : List (U.El c × U.El v)} (h : castM D c c' v v' l = some m) : ∃ (e1 : c' = c) (e2 : v' = v), m = e1 ▸ e2 ▸ l := by
  unfold castM at h
  split at h
  · rename_i e1 e2 _ _
    cases h
    exact ⟨e1, e2, rfl⟩
  · cases h
theorem map_is {id : Nat} {w1 ka va : Bool} {ck cv : U.C} {l : List (U.El ck × U.El cv)} {mb : Option Nat} (h : SR E.D nt w0 N0 R s a) (hob : lk s.o id = some (.map w1 ka va ck cv l)) (hh : R.hdr id = some (mb.map fun B => ⟨B, 0, none⟩, 0, 0)) :
    ∃ es : Array MapEntry, MapIs R.w mb es ∧ es.size = l.length ∧ (es.toList.map (·.born)).Nodup ∧ ∀ (i : Nat) (x : U.El ck × U.El cv) (e : MapEntry), l[i]? = some x → es[i]? = some e → VR E.D R (packV ka (E.D.enc ck x.1)) e.key ∧ VR E.D R (packV va (E.D.enc cv x.2)) e.val := by
  obtain ⟨B0, h0, hor⟩ := h.objs id _ hob
  rw [hh] at h0
  have hBB : mb = B0 := by
    cases mb <;> cases B0 <;> simp_all
  subst hBB
  rcases hor with ⟨e1, e2, _⟩ | ⟨m, es, clock, e1, _, e3, ⟨e4, e5⟩, e6⟩
  · exact ⟨#[], .inl ⟨e1, rfl⟩, by rw [e2]; rfl, by simp, fun i x e _ he => by simp at he⟩
  · exact ⟨es, .inr ⟨m, clock, e1, e3, e5⟩, e4, e5.2.1, e6⟩
open Classical in
theorem eqX_told (he : EnvOk E) {o : Oper} {f : FuncId} {kt vt : TypeId} {nk nv : Nat} {K : AV U → Eff U → Option ρ} {r : ρ} (h : SR E.D nt w0 N0 R s a) (hok : SfOk E.P E.D f (.eq kt vt nk nv)) {args : List (AV U)} {vs : Array Value} (hlen : args.length = vs.size)
    (hargs : ∀ (i : Nat) (p : AV U) (q : Value), args[i]? = some p → vs[i]? = some q → VR E.D R p q) (hk : sfX (.eq kt vt nk nv) E (lk s.o) args K = some r) (hrun : (execOp a.eval o).run E.P R.w = .ok (.enter f vs) R.w) : Told E nt w0 N0 R s a o K r := by
  have get : ∀ (i : Nat) (p : AV U), args[i]? = some p → ∃ q, vs[i]? = some q ∧ VR E.D R p q := fun i p hp => by
    have hlt : i < vs.size := by rw [← hlen]; exact (List.getElem?_eq_some_iff.1 hp).1
    exact ⟨_, Array.getElem?_eq_getElem hlt, hargs i p _ hp (Array.getElem?_eq_getElem hlt)⟩
  unfold sfX at hk
  simp only at hk
  split at hk
  · rename_i id'
    split at hk
    · rename_i w2 ka va ck cv l' hob'
      obtain ⟨hvt, hk9⟩ := cond_none hk
      clear hk
      rw [Bool.and_eq_true] at hvt
      obtain ⟨hvt, hshape⟩ := hvt
      obtain ⟨q0, hq0, hv0⟩ := get 0 _ rfl
      obtain ⟨q1, hq1, hv1⟩ := get 1 _ rfl
      have hv0 := hv0.flat_inv
      subst hv0
      obtain ⟨mb2, hh2, rfl⟩ := hv1.mp_inv
      have hvs : vs = #[.map none, .map mb2] := by
        apply Array.ext_getElem?
        intro i
        match i with
        | 0 => rw [hq0]; rfl
        | 1 => rw [hq1]; rfl
        | i + 2 => rw [Array.getElem?_eq_none (by rw [← hlen]; simp), Array.getElem?_eq_none (by simp)]
      obtain ⟨es2, his2, hsz2, hnd2, hrel2⟩ := map_is h hob' hh2
      have hzero : ∃ i z, E.P.info? vt = some i ∧ i.zero = some z := by
        unfold valT at hvt
        split at hvt
        case h_2 => cases hvt
        simp only [Bool.and_eq_true] at hvt
        have hz := hvt.2
        split at hz
        · rename_i i hi
          obtain ⟨z, hz'⟩ := Option.isSome_iff_exists.1 hz
          exact ⟨i, z, hi, hz'⟩
        · cases hz
      have hcalls := hok R.w none mb2 #[] es2 (fun _ => none) (fun _ _ => false) (.inl ⟨rfl, rfl⟩) his2 (fun e hem => by simp at hem) (shaped_of he.law hshape hsz2 hrel2) hzero (fun W hg e hem => by simp at hem) (fun e hem => by simp at hem)
      refine ⟨_, _, hk9, fun next Q hnext => ?_⟩
      unfold Oper.wp
      rw [hrun, hvs]
      refine Calls.mono hcalls (fun e w' ⟨hev, hg⟩ => ?_)
      have hev : e = .returned (.bool (mapEq (E.D.keq ck) (E.D.keq cv) [] l')) := hev.trans (congrArg (fun b => Ending.returned (.bool b)) (by
        unfold mapEq
        simp [hsz2]))
      subst hev
      have hbl : Below R.w.heap.size R.w w' := ⟨hg.os, hg.tape, hg.output, hg.size, fun k hk => hg.block k hk (by simp)⟩
      exact hnext _ { R with w := w' } (grown_le0 hg) (.flat _) (h.calls hbl (grown_le0 hg))
    · cases hk
  · rename_i id id'
    split at hk
    · rename_i w1 ka va ck cv l w2 ka' va' ck' cv' l' hob hob'
      split at hk
      · rename_i m hm
        obtain ⟨hc, hk9⟩ := cond_none hk
        clear hk
        obtain ⟨e1, e2, hm'⟩ := castM_inv hm
        subst e1
        subst e2
        simp only at hm'
        have hm' := hm'.symm
        subst hm'
        rw [Bool.and_eq_true] at hc
        obtain ⟨hc, hshape⟩ := hc
        simp only [Bool.and_eq_true, beq_iff_eq] at hc
        obtain ⟨⟨hkt, hvt⟩, hka, hva⟩ := hc
        subst hka
        subst hva
        obtain ⟨q0, hq0, hv0⟩ := get 0 _ rfl
        obtain ⟨q1, hq1, hv1⟩ := get 1 _ rfl
        obtain ⟨mb1, hh1, rfl⟩ := hv0.mp_inv
        obtain ⟨mb2, hh2, rfl⟩ := hv1.mp_inv
        have hvs : vs = #[.map mb1, .map mb2] := by
          apply Array.ext_getElem?
          intro i
          match i with
          | 0 => rw [hq0]; rfl
          | 1 => rw [hq1]; rfl
          | i + 2 => rw [Array.getElem?_eq_none (by rw [← hlen]; simp), Array.getElem?_eq_none (by simp)]
        obtain ⟨es1, his1, hsz1, hnd1, hrel1⟩ := map_is h hob hh1
        obtain ⟨es2, his2, hsz2, hnd2, hrel2⟩ := map_is h hob' hh2
        unfold valT at hvt
        split at hvt
        case h_2 => cases hvt
        rename_i ks ks' ek1 ek2
        simp only [Bool.and_eq_true, Bool.not_eq_true'] at hvt
        obtain ⟨⟨⟨⟨hks, hvg⟩, hag⟩, heg⟩, hz⟩ := hvt
        have hks := eq_of_beq hks
        subst hks
        subst hvg
        have hzero : ∃ i z, E.P.info? vt = some i ∧ i.zero = some z := by
          split at hz
          · rename_i i hi
            obtain ⟨z, hz'⟩ := Option.isSome_iff_exists.1 hz
            exact ⟨i, z, hi, hz'⟩
          · cases hz
        let at2 : U.El ck' → Option (Nat × Value) := fun k => match fidx (E.D.keq ck' k) l' 0 with
          | some j => (es2.toList[j]?).map fun e => (j, e.val)
          | none => none
        let fnd : MapEntry → Option (Nat × Value) := fun e => if hx : ∃ p : U.El ck' × U.El cv', ∃ i : Nat, es1[i]? = some e ∧ l[i]? = some p then at2 (Classical.choose hx).1 else none
        have hfnd : ∀ (i : Nat) (p : U.El ck' × U.El cv') (e : MapEntry), l[i]? = some p → es1[i]? = some e → fnd e = at2 p.1 := fun i p e hp hi => by
          have hx : ∃ p : U.El ck' × U.El cv', ∃ i : Nat, es1[i]? = some e ∧ l[i]? = some p := ⟨p, i, hi, hp⟩
          obtain ⟨j, hj, hpj⟩ := Classical.choose_spec hx
          have hij : j = i := by
            have ha : (es1.toList.map (·.born))[j]? = some e.born := by rw [List.getElem?_map, show es1.toList[j]? = some e by simpa using hj]; rfl
            have hb : (es1.toList.map (·.born))[i]? = some e.born := by rw [List.getElem?_map, show es1.toList[i]? = some e by simpa using hi]; rfl
            have hj' : j < (es1.toList.map (·.born)).length := (List.getElem?_eq_some_iff.1 ha).1
            exact (List.getElem?_inj hj' hnd1).1 (ha.trans hb.symm)
          rw [hij, hp] at hpj
          simp only [Option.some.injEq] at hpj
          simp only [fnd]
          rw [dif_pos hx, ← hpj]
        let ve : Value → Value → Bool := fun x y => match (Op.equal vt x y).run E.P R.w with
          | .ok b _ => b
          | _ => false
        have hidx : ∀ e ∈ es1.toList, ∃ (i : Nat) (p : U.El ck' × U.El cv'), es1[i]? = some e ∧ l[i]? = some p := fun e hem => by
          obtain ⟨i, hi⟩ := List.getElem?_of_mem hem
          have hi : es1[i]? = some e := by simpa using hi
          have : i < es1.size := (Array.getElem?_eq_some_iff.1 hi).1
          exact ⟨i, _, hi, List.getElem?_eq_getElem (by omega)⟩
        have heq : ∀ (W : World) (x y : U.El cv') (X Y : Value), VR E.D R (packV true (E.D.enc cv' x)) X → VR E.D R (packV true (E.D.enc cv' y)) Y → (Op.equal vt X Y).run E.P W = .ok (E.D.keq cv' x y) W ∧ ∃ as bs, X = .agg as ∧ Y = .agg bs := fun W x y X Y hX hY => by
          obtain ⟨as, hx', hxl, hxv⟩ := hX.agg_inv
          obtain ⟨bs, hy', hyl, hyv⟩ := hY.agg_inv
          subst hx'
          subst hy'
          have hfl := eqF_flat ks _ _ _ (he.law.keq_ok _ _ x y ek1)
          exact ⟨eq_plain (R := { R with w := W }) ek2 hag (he.law.keq_ok _ _ x y ek1) (fun i u v hu hv => flat_any (hfl.1 u (List.mem_of_getElem? hu)) (hxv i u v hu hv)) (fun i u v hu hv => flat_any (hfl.2 u (List.mem_of_getElem? hu)) (hyv i u v hu hv)) hxl hyl, as, bs, rfl, rfl⟩
        have hat2 : ∀ (k : U.El ck') (p : Nat × Value), at2 k = some p → ∃ y e2, fidx (E.D.keq ck' k) l' 0 = some p.1 ∧ l'[p.1]? = some y ∧ es2[p.1]? = some e2 ∧ p.2 = e2.val := fun k p hp => by
          cases hfi : fidx (E.D.keq ck' k) l' 0 with
          | none => simp only [at2, hfi] at hp; cases hp
          | some j =>
            obtain ⟨_, _, y, hy, _⟩ := fidx_ge hfi
            simp only [Nat.sub_zero] at hy
            simp only [at2, hfi, Option.map_eq_some_iff] at hp
            obtain ⟨e2, he2, rfl⟩ := hp
            exact ⟨y, e2, rfl, hy, by simpa using he2, rfl⟩
        have hve : ∀ (x y : U.El cv') (X Y : Value), VR E.D R (packV true (E.D.enc cv' x)) X → VR E.D R (packV true (E.D.enc cv' y)) Y → ve X Y = E.D.keq cv' x y := fun x y X Y hX hY => by
          simp only [ve, (heq R.w x y X Y hX hY).1]
        have hcalls := hok R.w mb1 mb2 es1 es2 fnd ve his1 his2 (shaped_of he.law hshape hsz1 hrel1) (shaped_of he.law hshape hsz2 hrel2) hzero
          (fun W hg e hem => by
            obtain ⟨i, p, hi, hp⟩ := hidx e hem
            have hle := grown_le0 (R := R) hg
            have hkey := keyT_ok (R := { R with w := W }) he.law hkt ((hrel1 i p e hp hi).1.mono hle)
            obtain ⟨hf, hc, _, _⟩ := keyOk_find he.law hkey (l := l') (es := es2) hsz2 (fun j y u hy hu => (hrel2 j y u hy hu).1.mono hle)
            exact ⟨hc, by rw [hf, hfnd i p e hp hi]; rfl⟩)
          (fun e hem q hq => by
            obtain ⟨i, p, hi, hp⟩ := hidx e hem
            rw [hfnd i p e hp hi] at hq
            obtain ⟨y, e2, _, hy, he2, hq2⟩ := hat2 _ _ hq
            refine ⟨⟨e2, by simpa using Array.mem_of_getElem? he2, hq2⟩, fun W => ?_⟩
            rw [hq2, hve _ _ _ _ (hrel1 i p e hp hi).2 (hrel2 _ y e2 hy he2).2]
            obtain ⟨h1, as, bs, h2, h3⟩ := heq W _ _ _ _ (hrel1 i p e hp hi).2 (hrel2 _ y e2 hy he2).2
            rw [h2, h3] at h1 ⊢
            refine ⟨by simp [binOp, h1], fun x y => ?_⟩
            exact run_eqGuard_agg W .neq vt x y as bs heg)
        have hans : (es1.size == es2.size && es1.toList.all fun e => match fnd e with | some p => ve e.val p.2 | none => false) = mapEq (E.D.keq ck') (E.D.keq cv') l l' := by
          unfold mapEq
          rw [hsz1, hsz2]
          congr 1
          symm
          refine al_all (al_of (by simpa using hsz1.symm) fun i p e hp hi => ?_)
          have hi : es1[i]? = some e := by simpa using hi
          rw [hfnd i p e hp hi, mget_fidx (eq := E.D.keq ck' p.1) (l := l') (i := 0)]
          cases hfi : fidx (E.D.keq ck' p.1) l' 0 with
          | none => simp only [at2, hfi]
          | some j =>
            obtain ⟨_, hjl, y, hy, _⟩ := fidx_ge hfi
            simp only [Nat.sub_zero] at hy
            obtain ⟨e2, he2⟩ : ∃ e2, es2[j]? = some e2 := ⟨_, Array.getElem?_eq_getElem (by omega)⟩
            have he2' : es2.toList[j]? = some e2 := by simpa using he2
            simp only [at2, hfi, Nat.sub_zero, hy, he2', Option.map_some]
            exact (hve _ _ _ _ (hrel1 i p e hp hi).2 (hrel2 _ y e2 hy he2).2).symm
        refine ⟨_, _, hk9, fun next Q hnext => ?_⟩
        unfold Oper.wp
        rw [hrun, hvs]
        refine Calls.mono hcalls (fun e w' ⟨hev, hg⟩ => ?_)
        have hev : e = .returned (.bool (mapEq (E.D.keq ck') (E.D.keq cv') l l')) := hev.trans (congrArg (fun b => Ending.returned (.bool b)) hans)
        subst hev
        have hbl : Below R.w.heap.size R.w w' := ⟨hg.os, hg.tape, hg.output, hg.size, fun k hk => hg.block k hk (by simp)⟩
        exact hnext _ { R with w := w' } (grown_le0 hg) (.flat _) (h.calls hbl (grown_le0 hg))
      · cases hk
    · cases hk
  · cases hk
theorem mapL_holds {D : Codec U} {nt : Nat} {w0 : Cx} {N0 : Nat → Nat → Prop} {R : Rl} {s : St U} {a : Act} (h : SR D nt w0 N0 R s a) {x : AV U} {ka va : Bool} {ck cv : U.C} {l : List (U.El ck × U.El cv)} {y : Value} (hm : mapL (lk s.o) x = some ⟨ka, va, ck, cv, l⟩) (hv : VR D R x y) :
    ∃ B l', y = .map B ∧ (l' = l ∨ (l'.Perm l ∧ nodK (D.keq ck) l = true)) ∧ HoldsM D R B ka va ck cv l' := by
  unfold mapL at hm
  split at hm
  · rename_i id
    split at hm
    · rename_i w ka1 va1 ck1 cv1 l1 hob
      cases hm
      obtain ⟨mb, hh, rfl⟩ := hv.mp_inv
      obtain ⟨B0, h0, hor⟩ := h.objs id _ hob
      rw [hh] at h0
      have hBB : mb = B0 := by
        cases mb <;> cases B0 <;> simp_all
      subst hBB
      refine ⟨mb, l, rfl, .inl rfl, ?_⟩
      rcases hor with ⟨e1, e2, _⟩ | ⟨m, es, clock, e1, _, e3⟩
      · exact .inl ⟨e1, e2⟩
      · exact .inr ⟨m, es, clock, e1, e3⟩
    · cases hm
  · cases hm
    exact hv.fm_inv
  · cases hm
theorem sfX_told (he : EnvOk E) {o : Oper} {f : FuncId} {d : SDen U} {K : AV U → Eff U → Option ρ} {r : ρ} (h : SR E.D nt w0 N0 R s a) (hd : E.sf f = some d) {args : List (AV U)} {vs : Array Value} (hlen : args.length = vs.size)
    (hargs : ∀ (i : Nat) (p : AV U) (q : Value), args[i]? = some p → vs[i]? = some q → VR E.D R p q) (hk : sfX d E (lk s.o) args K = some r) (hrun : (execOp a.eval o).run E.P R.w = .ok (.enter f vs) R.w) : Told E nt w0 N0 R s a o K r := by
  obtain ⟨hok, _⟩ := he.sf f d hd
  have get : ∀ (i : Nat) (p : AV U), args[i]? = some p → ∃ q, vs[i]? = some q ∧ VR E.D R p q := fun i p hp => by
    have hlt : i < vs.size := by rw [← hlen]; exact (List.getElem?_eq_some_iff.1 hp).1
    exact ⟨_, Array.getElem?_eq_getElem hlt, hargs i p _ hp (Array.getElem?_eq_getElem hlt)⟩
  unfold sfX at hk
  simp only at hk
  split at hk
  · rename_i kt nk nv
    exact delX_told he h hok hlen hargs (by unfold sfX; exact hk) hrun
  · rename_i kt vt nk nv
    exact eqX_told he h hok hlen hargs (by unfold sfX; exact hk) hrun
  · rename_i g
    split at hk
    · rename_i id
      obtain ⟨q, hq, hv⟩ := get 0 _ rfl
      obtain ⟨mb, hh, rfl⟩ := hv.mp_inv
      have hvs : vs = #[.map mb] := by
        apply Array.ext_getElem?
        intro i
        cases i with
        | zero => rw [hq]; rfl
        | succ i => rw [Array.getElem?_eq_none (by rw [← hlen]; simp), Array.getElem?_eq_none (by simp)]
      refine ⟨_, _, hk, fun next Q hnext => ?_⟩
      unfold Oper.wp
      rw [hrun, hvs]
      refine Calls.mono (hok mb R.w) (fun e w' ⟨B, hev, hB, hB', hc, hbl⟩ => ?_)
      subst hev
      have hle : R.le { R with w := w' } := ⟨fun _ _ e => e, fun _ _ e => e, fun _ _ _ e => e, hbl.size, fun B i hB hN => ⟨obs_block (hbl.block B hB), hN⟩⟩
      have hs := h.calls hbl hle
      refine hnext _ { R with w := w' } hle (.fn (ys := #[.pointer (some ⟨B, 0, none⟩)]) rfl (fun i x y hx hy => ?_)) hs
      cases i with
      | succ i => simp at hx
      | zero =>
        simp at hx hy
        subst hx
        subst hy
        refine .rp (o := 0) (off := 0) (fun _ => .map mb) hB' (fun i x hx => ?_) (fun i x hx => ?_)
        · cases i with
          | succ i => simp at hx
          | zero => exact ⟨hc, fun hN => absurd (h.nlt B 0 hN) (by omega)⟩
        · cases i with
          | succ i => simp at hx
          | zero =>
            simp at hx
            subst hx
            exact .mp hh
    · rename_i ka va ck cv l
      obtain ⟨q, hq, hv⟩ := get 0 _ rfl
      have hv0 := hv
      obtain ⟨mb, l', rfl, _, _⟩ := hv.fm_inv
      have hvs : vs = #[.map mb] := by
        apply Array.ext_getElem?
        intro i
        cases i with
        | zero => rw [hq]; rfl
        | succ i => rw [Array.getElem?_eq_none (by rw [← hlen]; simp), Array.getElem?_eq_none (by simp)]
      refine ⟨_, _, hk, fun next Q hnext => ?_⟩
      unfold Oper.wp
      rw [hrun, hvs]
      refine Calls.mono (hok mb R.w) (fun e w' ⟨B, hev, hB, hB', hc, hbl⟩ => ?_)
      subst hev
      have hle : R.le { R with w := w' } := ⟨fun _ _ e => e, fun _ _ e => e, fun _ _ _ e => e, hbl.size, fun B i hB hN => ⟨obs_block (hbl.block B hB), hN⟩⟩
      have hs := h.calls hbl hle
      refine hnext _ { R with w := w' } hle (.fn (ys := #[.pointer (some ⟨B, 0, none⟩)]) rfl (fun i x y hx hy => ?_)) hs
      cases i with
      | succ i => simp at hx
      | zero =>
        simp at hx hy
        subst hx
        subst hy
        refine .rp (o := 0) (off := 0) (fun _ => .map mb) hB' (fun i x hx => ?_) (fun i x hx => ?_)
        · cases i with
          | succ i => simp at hx
          | zero => exact ⟨hc, fun hN => absurd (h.nlt B 0 hN) (by omega)⟩
        · cases i with
          | succ i => simp at hx
          | zero =>
            simp at hx
            subst hx
            exact hv0.mono hle
    · cases hk
  · rename_i g cmp c ka b srt
    split at hk
    · rename_i g' xm rest
      split at hk
      · rename_i ka' va ck cv l hob
        split at hk
        · rename_i l' hcast
          split at hk
          · rename_i ks hks
            obtain ⟨hc, hk9⟩ := cond_none hk
            clear hk
            obtain ⟨hsz, hk⟩ := cond_none hk9
            clear hk9
            simp only [Bool.and_eq_true] at hc
            obtain ⟨hg, ⟨hka, hk0, hk1⟩, hb⟩ := hc
            have hg := Nat.eq_of_beq_eq_true hg
            subst hg
            have hka : ka' = ka := by simpa using hka
            subst hka
            obtain ⟨e, hl'⟩ := castL_keys hcast
            subst e
            simp only at hl'
            subst hl'
            obtain ⟨q, hq, hv⟩ := get 0 _ rfl
            obtain ⟨ys, rfl, hyl, hyv⟩ := hv.fn_inv
            have hy1 : ys.size = 1 := by simpa using hyl.symm
            obtain ⟨p0, hp0⟩ : ∃ p0, ys[0]? = some p0 := ⟨_, Array.getElem?_eq_getElem (by omega)⟩
            have hys : ys = #[p0] := by
              apply Array.ext_getElem?
              intro i
              cases i with
              | zero => rw [hp0]; rfl
              | succ i => rw [Array.getElem?_eq_none (by omega), Array.getElem?_eq_none (by simp)]
            have hvp := hyv 0 _ _ rfl hp0
            obtain ⟨B, o', fv, rfl, hB, hcell, hcv⟩ := hvp.rp_inv
            obtain ⟨mb, l', hmb, hl', hM⟩ := mapL_holds h hob (hcv 0 _ rfl)
            have hcell := (hcell 0 _ rfl).1
            rw [hmb] at hcell
            have hvs : vs = #[.func (.func g') #[] #[.pointer (some ⟨B, o' + 0, none⟩)]] ++ (cmp.map fun h => Value.func (.func h) #[] #[]).toArray := by
              have hr := bares_inv (E := E) (R := R) cmp rest (vs.toList.drop 1) hb (by simp only [List.length_cons] at hlen; simp; omega) (fun i p q hp hq => hargs (i + 1) p q (by simpa using hp) (by
                rw [List.getElem?_drop] at hq
                rw [show i + 1 = 1 + i by omega]
                simpa using hq))
              apply Array.toList_inj.1
              have : vs.toList = vs.toList.take 1 ++ vs.toList.drop 1 := (List.take_append_drop 1 _).symm
              rw [this, hr]
              have h1 : vs.toList.take 1 = [.func (.func g') #[] #[.pointer (some ⟨B, o' + 0, none⟩)]] := by
                have h0 : vs.toList[0]? = some (.func (.func g') #[] ys) := by simpa using hq
                cases hvl : vs.toList with
                | nil => rw [hvl] at h0; simp at h0
                | cons z zs => rw [hvl] at h0; simp at h0; rw [h0, hys]; rfl
              rw [h1]
              simp
            have hll : l'.length = l.length := by
              rcases hl' with rfl | ⟨h1, _⟩
              · rfl
              · exact h1.length_eq
            have hsrt : srt (l'.map fun p => p.1) = srt (l.map fun p => p.1) := by
              rcases hl' with rfl | ⟨h1, _⟩
              · rfl
              · exact hok.1 _ _ (h1.map _)
            have hH : HoldsL E.D R.w ck ka' mb (l'.map fun p => p.1) := by
              rcases hM with ⟨e1, e2⟩ | ⟨m, es, clock, e1, e3, ⟨e4, e5⟩, e6⟩
              · exact .inl ⟨e1, by rw [e2]; rfl⟩
              · refine .inr ⟨m, es, clock, e1, e3, e5, by rw [List.length_map]; exact e4, fun i x e hx hent => ?_⟩
                rw [List.getElem?_map, Option.map_eq_some_iff] at hx
                obtain ⟨p, hp, rfl⟩ := hx
                have hkv := (e6 i p e hp hent).1
                have hfl := enc_flat he.law hks hk0 p.1
                cases ka' with
                | true =>
                  obtain ⟨zs, hz, hzl, hzv⟩ := hkv.agg_inv
                  rw [hz]
                  show Value.agg zs = Value.agg _
                  congr 1
                  apply Array.ext_getElem?
                  intro j
                  by_cases hj : j < zs.size
                  · have hx := List.getElem?_eq_getElem (show j < (E.D.enc ck p.1).length by omega)
                    obtain ⟨k, n, e0⟩ := hfl _ (List.mem_of_getElem? hx)
                    have hzj : zs[j]? = some zs[j] := Array.getElem?_eq_getElem hj
                    have := hzv j _ _ hx hzj
                    rw [e0] at this hx
                    have := this.flat_inv
                    rw [hzj, this, List.getElem?_toArray, List.getElem?_map, hx]
                    rfl
                  · rw [Array.getElem?_eq_none (by omega), Array.getElem?_eq_none (by simp; omega)]
                | false =>
                  unfold packV at hkv
                  simp only at hkv
                  unfold keyV
                  simp only
                  have hlen1 := he.law.enc_len ck p.1
                  rw [Bool.false_or] at hk1
                  rw [Nat.eq_of_beq_eq_true hk1] at hlen1
                  obtain ⟨v, hv1⟩ := List.length_eq_one_iff.1 hlen1
                  obtain ⟨k, n, e0⟩ := hfl v (by rw [hv1]; simp)
                  rw [hv1] at hkv ⊢
                  rw [e0] at hkv ⊢
                  rw [hkv.flat_inv]
                  rfl
            refine ⟨_, _, hk, fun next Q hnext => ?_⟩
            unfold Oper.wp
            rw [hrun, hvs]
            refine Calls.mono (hok.2 R.w B (o' + 0) mb _ hcell hB (by rw [List.length_map, hll]; simpa using of_decide_eq_true hsz) hH) (fun e w' ⟨v, hev, hbl, hsl, hrow⟩ => ?_)
            subst hev
            rw [hsrt] at hsl hrow
            have hle : R.le { R with w := w' } := ⟨fun _ _ e => e, fun _ _ e => e, fun _ _ _ e => e, hbl.size, fun B i hB hN => ⟨obs_block (hbl.block B hB), hN⟩⟩
            refine hnext _ { R with w := w' } hle ?_ (h.calls hbl hle)
            rcases hrow with ⟨e1, rfl⟩ | ⟨blk, cap, rfl, hb1, hb2, hcap, hcells⟩
            · have : srt (l.map fun p => p.1) = [] := List.eq_nil_of_length_eq_zero (by rw [hsl, e1]; rfl)
              rw [this]
              exact .rownil
            · rw [← hsl]
              refine .row (o := 0) (fun i j => match (srt (l.map fun p => p.1))[i]? with | some x => ((E.D.enc ck x).map flatV).getD j undef | none => undef) hb2 (by rw [hsl]; exact hcap) (fun i x hx j v hv => ?_) (fun i x hx j v hv => ?_)
              · have : ((E.D.enc ck x).map flatV)[j]? = some (flatV v) := by rw [List.getElem?_map, hv]; rfl
                simp only [hx]
                rw [List.getD_eq_getElem?_getD, this]
                exact ⟨by rw [Nat.zero_add]; exact hcells i x hx j _ this, fun hN => absurd (h.nlt blk _ hN) (by omega)⟩
              · have : ((E.D.enc ck x).map flatV)[j]? = some (flatV v) := by rw [List.getElem?_map, hv]; rfl
                simp only [hx]
                rw [List.getD_eq_getElem?_getD, this]
                obtain ⟨k, n, e0⟩ := enc_flat he.law hks hk0 x v (List.mem_of_getElem? hv)
                subst e0
                exact .flat _
          · cases hk
        · cases hk
      · cases hk
    · cases hk
theorem opX_told (he : EnvOk E) {o : Oper} {K : AV U → Eff U → Option ρ} {r : ρ} (h : SR E.D nt w0 N0 R s a) (hk : opX E o s.op (lk s.o) K = some r) : Told E nt w0 N0 R s a o K r := by
  unfold opX at hk
  cases hb : arOp E o s.op (lk s.o) with
  | true => rw [hb] at hk; exact arK_told he h hk
  | false =>
  rw [hb, cond_false] at hk
  unfold opX0 at hk
  split at hk
  · rename_i c ho
    split at hk
    · rename_i g hc
      split at hk
      · rename_i f caps e1
        split at hk
        · rename_i d hd
          have hg := h.op g
          rw [e1] at hg
          obtain ⟨ys, hy, hyl, hyv⟩ := hg.fn_inv
          refine sfX_told he h hd (vs := c.args.map a.eval ++ ys) (by simp [hyl, argsA, argsFrom_len]) ?_ hk ?_
          · intro i p q hp hq
            rw [List.getElem?_append] at hp
            rw [Array.getElem?_append] at hq
            simp only [argsA, argsFrom_len, Array.length_toList] at hp
            simp only [Array.size_map] at hq
            split at hp
            · rename_i hlt
              rw [if_pos hlt] at hq
              rw [argsFrom_get, Option.map_eq_some_iff] at hp
              obtain ⟨x, hx, rfl⟩ := hp
              rw [Array.getElem?_map, show c.args[i]? = some x by simpa using hx] at hq
              simp only [Option.map_some, Option.some.injEq] at hq
              subst hq
              exact (h.op x).drop.nilA
            · rename_i hge
              rw [if_neg hge] at hq
              exact hyv _ p q hp hq
          · simp only [execOp, ho, resolve, hc, hy, Deferred.ofValue, Sem.run_bind, Sem.run_pure, Result.andThen_ok, invoke]
            rw [show (#[] : Array Value) ++ Array.map a.eval c.args = Array.map a.eval c.args from by simp]
            exact (he.sf f d hd).2 _ _
        split at hk
        · rename_i d hd
          have hg := h.op g
          rw [e1] at hg
          obtain ⟨ys, hy, hyl, hyv⟩ := hg.fn_inv
          refine callX_told he h (he.fa hd).1 (vs := c.args.map a.eval ++ ys) (by simp [hyl, argsA, argsFrom_len]) ?_ hk ?_
          · intro i p q hp hq
            rw [List.getElem?_append] at hp
            rw [Array.getElem?_append] at hq
            simp only [argsA, argsFrom_len, Array.length_toList] at hp
            simp only [Array.size_map] at hq
            split at hp
            · rename_i hlt
              rw [if_pos hlt] at hq
              rw [argsFrom_get, Option.map_eq_some_iff] at hp
              obtain ⟨x, hx, rfl⟩ := hp
              rw [Array.getElem?_map, show c.args[i]? = some x by simpa using hx] at hq
              simp only [Option.map_some, Option.some.injEq] at hq
              subst hq
              exact (h.op x).drop.nilA
            · rename_i hge
              rw [if_neg hge] at hq
              exact hyv _ p q hp hq
          · simp only [execOp, ho, resolve, hc, hy, Deferred.ofValue, Sem.run_bind, Sem.run_pure, Result.andThen_ok, invoke]
            rw [show (#[] : Array Value) ++ Array.map a.eval c.args = Array.map a.eval c.args from by simp]
            exact (he.fa hd).2 _ _
        · cases hk
      · cases hk
    · cases hk
  · rename_i t x k k' ho
    exact sliceZ_told h ho hk
  · rename_i t x hi mx _ ho
    exact sliceX_told he h ho hk
  · rename_i t x ix ok ho
    exact lookupX_told he h ho hk
  · rename_i t m k v ho
    exact updateX_told he h (.inl ho) (vr_nilM (h.op v).drop) hk
  · rename_i t m k v ho
    simp only [he.lz, cond_false] at hk
    exact updateX_told he h (.inr ho) (vr_nilM (h.op v).drop) hk
  · rename_i t ho
    exact makeMapX_told h ho hk
  · cases hk
theorem opA_told (he : EnvOk E) {o : Oper} {K : AV U → Eff U → Option ρ} {r : ρ} (h : SR E.D nt w0 N0 R s a) (hk : opA E o s.op (lk s.o) K = some r) : Told E nt w0 N0 R s a o K r := by
  unfold opA at hk
  cases hb : isX E o s.op with
  | true => rw [hb] at hk; exact opX_told he h hk
  | false => rw [hb] at hk; exact opK_told he h hk
theorem opC_told (he : EnvOk E) {o : Oper} {K : St U → Option ρ} {r : ρ} (h : SR E.D nt w0 N0 R s a) (hk : opC E o s K = some r) :
    Told E nt w0 N0 R s a o (fun v u => K ((s.upd u).put o.dst v)) r := opA_told he h hk
end
end Go.Ev
