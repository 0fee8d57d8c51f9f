import Derived.Test.YtgfbcclfajcjnaaEvG
universe u
namespace Go.Ev
set_option linter.unusedVariables false
set_option linter.unusedSimpArgs false
open Go.RowKit (Below)
variable {U : Univ} {ρ : Type}
section
variable {E : Env U} {nt : Nat} {w0 : Cx} {N0 : Nat → Nat → Prop} {R : Rl} {s : St U} {a : Act}
theorem get_upd' (s : St U) : ∀ (u : Eff U) (t : Nat), (s.upd u).get t = s.get t
  | u, t => by
    induction u generalizing s with
    | nil => rfl
    | cons p u ih => show ((s.setO p.1 p.2).upd u).get t = _; rw [ih]; rfl
theorem lk_upd1 (s : St U) (u : Eff U) (n : Nat) (h : ∀ p ∈ u, p.1 ≠ n) : lk (s.upd u).o n = lk s.o n := by
  induction u generalizing s with
  | nil => rfl
  | cons p u ih =>
    show lk ((s.setO p.1 p.2).upd u).o n = _
    rw [ih _ (fun p hp => h p (List.mem_cons_of_mem _ hp)), lk_setO, if_neg (h p (by simp))]
theorem lk_upd2 (s : St U) (u : Eff U) (hn : (u.map (·.1)).Nodup) {p : Nat × Obj U} (hp : p ∈ u) : lk (s.upd u).o p.1 = some p.2 := by
  induction u generalizing s with
  | nil => cases hp
  | cons x u ih =>
    rw [List.map_cons, List.nodup_cons] at hn
    show lk ((s.setO x.1 x.2).upd u).o p.1 = _
    rcases List.mem_cons.1 hp with rfl | hp
    · rw [lk_upd1 _ _ _ (fun y hy e => hn.1 (List.mem_map.2 ⟨y, hy, e⟩)), lk_setO, if_pos rfl]
    · exact ih _ hn.2 hp
theorem upd_append (s : St U) : ∀ (u v : Eff U), s.upd (u ++ v) = (s.upd u).upd v
  | [], v => rfl
  | p :: u, v => by show (s.setO p.1 p.2).upd (u ++ v) = _; rw [upd_append]; rfl
theorem lk_dead (s : St U) (q : List (Nat × Nat)) (n : Nat) : lk (s.upd (q.map fun p => (p.1, (.dead : Obj U)))).o n = if (∃ p ∈ q, p.1 = n) then some .dead else lk s.o n := by
  induction q generalizing s with
  | nil => simp [St.upd]
  | cons x q ih =>
    show lk ((s.setO x.1 .dead).upd (q.map fun p => (p.1, (.dead : Obj U)))).o n = _
    rw [ih]
    by_cases h : ∃ p ∈ q, p.1 = n
    · rw [if_pos h, if_pos (by obtain ⟨p, hp, e⟩ := h; exact ⟨p, List.mem_cons_of_mem _ hp, e⟩)]
    · rw [if_neg h, lk_setO]
      by_cases e : x.1 = n
      · rw [if_pos e, if_pos ⟨x, by simp, e⟩]
      · rw [if_neg e, if_neg]
        rintro ⟨p, hp, e'⟩
        rcases List.mem_cons.1 hp with rfl | hp
        · exact e e'
        · exact h ⟨p, hp, e'⟩
theorem lk_cons {α : Type u} {k n : Nat} {v w : α} {l : List (Nat × α)} (h : lk ((k, v) :: l) n = some w) : (k = n ∧ v = w) ∨ lk l n = some w := by
  simp only [lk] at h
  cases hb : Nat.beq k n with
  | true =>
    simp only [hb, cond_true, Option.some.injEq] at h
    exact .inl ⟨Nat.eq_of_beq_eq_true hb, h⟩
  | false => simp only [hb, cond_false] at h; exact .inr h
theorem backs_spec {m : St U} {args : List (AV U)} : ∀ {gh : List Nat} {c x : Nat}, lk (backs m args gh) c = some x →
    ∃ i, (args[i]? = some (.ptr x 0) ∧ m.get (gb + i) = .ptr c 0 ∧ hasHdr (lk m.o) c = false) ∨ (args[i]? = some (.mp x) ∧ m.get (gb + i) = .mp c ∧ ∃ w ka va ck cv l, lk m.o c = some (.map w ka va ck cv l))
  | [], c, x, h => by cases h
  | i :: r, c, x, h => by
    unfold backs at h
    split at h
    · rename_i a' c' e1 e2
      split at h
      · rename_i cs e3
        rcases lk_cons h with ⟨rfl, rfl⟩ | h
        · exact ⟨i, .inl ⟨e1, e2, by unfold hasHdr; rw [e3]⟩⟩
        · exact backs_spec h
      · exact backs_spec h
    · rename_i a' c' e1 e2
      split at h
      · rename_i w ka va ck cv l e3
        rcases lk_cons h with ⟨rfl, rfl⟩ | h
        · exact ⟨i, .inr ⟨e1, e2, w, ka, va, ck, cv, l, e3⟩⟩
        · exact backs_spec h
      · exact backs_spec h
    · exact backs_spec h
theorem backQ_mem {d : Nat} {m : St U} {args : List (AV U)} {gh : List Nat} : (backQ d m args gh).map (·.1) = m.o.map (·.1) := by
  unfold backQ
  rw [List.map_map]
  rfl
theorem callX_told (he : EnvOk E) (h : SR E.D nt w0 N0 R s a) {o : Oper} {f : FuncId} {d : FDen U} (hd : Sound E.P E.D f d) {args : List (AV U)} {vs : Array Value} (hlen : args.length = vs.size)
    (hargs : ∀ (i : Nat) (p : AV U) (v : Value), args[i]? = some p → vs[i]? = some v → VR E.D R p v) {K : AV U → Eff U → Option ρ} {r : ρ} (hk : callX d (lk s.o) o.dst args K = some r)
    (hrun : (execOp a.eval o).run E.P R.w = .ok (.enter f vs) R.w) : Told E nt w0 N0 R s a o K r := by
  unfold callX at hk
  simp only at hk
  obtain ⟨hc, hk2⟩ := cond_none hk
  rw [Bool.and_eq_true] at hc
  obtain ⟨hok, hle⟩ := hc
  clear hk
  obtain ⟨x, hx, hk3⟩ := kont_some hk2
  obtain ⟨y, hy, hk4⟩ := Option.bind_eq_some_iff.1 hk3
  clear hk2 hk3
  obtain ⟨hex, hk5⟩ := cond_none hk4
  clear hk4
  have hsz : vs.size ≤ d.nt := by rw [← hlen]; exact Nat.le_of_ble_eq_true hle
  generalize hq : given (lk s.o) args 0 = q at *
  generalize hm : d.fin y = m at *
  have hent := entry_sr he.law h hlen hargs hok hsz hd.1
  have hS := hd.2 (entry d (lk s.o) q args) x y hx hy ⟨R.w, GivenB R q, vs⟩ (entryR R q) vs rfl rfl hsz hent
  refine ⟨_, _, hk5, fun next Q hnext => ?_⟩
  unfold Oper.wp
  rw [hrun]
  refine Calls.mono hS (fun e w' ⟨v, R', hev, hw', hs'⟩ => ?_)
  subst hev
  subst hw'
  rw [hm] at hs'
  unfold entryOk at hok
  simp only [Bool.and_eq_true] at hok
  obtain ⟨⟨⟨hA, n1⟩, n2⟩, hO⟩ := hok
  have hob : ∀ p ∈ q, ∃ o, lk s.o p.1 = some o ∧ covO (lk s.o) q o = true := fun p hp => by
    have := List.all_eq_true.mp hO p hp
    cases ho : lk s.o p.1 with
    | none => rw [ho] at this; cases this
    | some o => rw [ho] at this; exact ⟨o, rfl, this⟩
  unfold exitOk at hex
  simp only [Bool.and_eq_true] at hex
  obtain ⟨⟨⟨⟨hcv, m1⟩, m2⟩, mO⟩, mB⟩ := hex
  replace m1 := nodupB_spec m1
  replace m2 := nodupB_spec m2
  have hm1 : (m.o.map (·.1)).Nodup := by rw [backQ_mem] at m1; exact m1
  have hbm : ∀ p ∈ m.o, ∃ n, lk (backQ (o.dst.getD 0) m args d.gh) p.1 = some n ∧ (p.1, n) ∈ backQ (o.dst.getD 0) m args d.gh := by
    intro p hp
    have hmem : (p.1, match lk (backs m args d.gh) p.1 with | some a => a | none => nid (o.dst.getD 0) p.1) ∈ backQ (o.dst.getD 0) m args d.gh := List.mem_map.2 ⟨p, hp, rfl⟩
    exact ⟨_, lk_of m1 hmem, hmem⟩
  have hbo : ∀ c n, lk (backQ (o.dst.getD 0) m args d.gh) c = some n → ∃ oc, (c, oc) ∈ m.o ∧ lk m.o c = some oc := by
    intro c n hc
    obtain ⟨p, hp, e⟩ := List.mem_map.1 (lk_mem hc)
    cases e
    exact ⟨p.2, hp, lk_of hm1 hp⟩
  generalize hb : backQ (o.dst.getD 0) m args d.gh = b at *
  generalize hkp : backs m args d.gh = kp at *
  have hback : ∀ c n, lk b c = some n → lk (swap b) n = some c := fun c n hc => lk_swap m2 (lk_mem hc)
  have hG : ∀ k, GivenB R q k → k < R.w.heap.size ∧ (w0.w.heap.size ≤ k ∨ w0.G k) := by
    rintro k ⟨p, hp, es, hbk⟩
    obtain ⟨op, h1, h2⟩ := hob p hp
    obtain ⟨_, k2, k3⟩ := h.own p.1 op k es h1 (covO_alive h2) hbk
    exact ⟨k3, k2⟩
  have hw0 := h.keep.size
  have hkeep : ∀ c n, lk b c = some n → ∀ x, lk kp c = some x → n = x ∧ (∃ y, (x, y) ∈ q) ∧ kept2 (lk s.o x) (lk m.o c) = true := by
    intro c n hc x hx
    have := List.all_eq_true.mp mB _ (lk_mem hc)
    simp only [hx, Bool.and_eq_true] at this
    obtain ⟨⟨t1, t2⟩, t3⟩ := this
    obtain ⟨y, hy, _⟩ := inQ_spec t2
    exact ⟨(Nat.eq_of_beq_eq_true t1).symm, ⟨y, lk_mem hy⟩, t3⟩
  have hfresh : ∀ c n, lk b c = some n → lk kp c = none → lk s.o n = none := by
    intro c n hc hx
    have := List.all_eq_true.mp mB _ (lk_mem hc)
    simp only [hx] at this
    cases ho : lk s.o n with
    | none => rfl
    | some _ => rw [ho] at this; cases this
  have hsame : ∀ c x, lk kp c = some x → kept2 (lk s.o x) (lk m.o c) = true → (∀ B es, R'.blk c = some (B, es) → ∃ es', R.blk x = some (B, es')) ∧
      (hasHdr (lk m.o) c = true → R'.hdr c = R.hdr x ∧ R'.blk c = R.blk x) := by
    intro c x hx hkk
    rw [← hkp] at hx
    obtain ⟨i, hi⟩ := backs_spec hx
    have htm := hs'.tm (gb + i)
    unfold tv at htm
    rw [if_neg (by omega), show gb + i - gb = i by omega] at htm
    have hvi : ∀ p, args[i]? = some p → ∃ u, vs[i]? = some u ∧ VR E.D R p u := by
      intro p hp
      have hlt := (List.getElem?_eq_some_iff.1 hp).1
      have hvs : vs[i]? = some (vs[i]'(by omega)) := Array.getElem?_eq_getElem (by omega)
      exact ⟨_, hvs, hargs i p _ hp hvs⟩
    rcases hi with ⟨e1, e2, e3⟩ | ⟨e1, e2, w, ka, va, ck, cv, l, e3⟩
    · obtain ⟨u, hu1, hu2⟩ := hvi _ e1
      simp only [Array.getD_eq_getD_getElem?, hu1, Option.getD_some, e2] at htm
      obtain ⟨B, es, g1, g2⟩ := hu2.ptr_inv
      obtain ⟨B', es', g3, g4⟩ := htm.ptr_inv
      rw [g2] at g4
      cases g4
      refine ⟨fun B' es2 hb' => ?_, fun hh => ?_⟩
      · rw [g3] at hb'; cases hb'; exact ⟨es, g1⟩
      · rw [e3] at hh; cases hh
    · obtain ⟨u, hu1, hu2⟩ := hvi _ e1
      simp only [Array.getD_eq_getD_getElem?, hu1, Option.getD_some, e2] at htm
      obtain ⟨B, g1, g2⟩ := hu2.mp_inv
      obtain ⟨B', g3, g4⟩ := htm.mp_inv
      rw [g2] at g4
      cases g4
      rw [e3] at hkk
      obtain ⟨w2, ka2, va2, ck2, cv2, l2, hsx⟩ : ∃ w2 ka2 va2 ck2 cv2 l2, lk s.o x = some (.map w2 ka2 va2 ck2 cv2 l2) := by
        cases hsx : lk s.o x with
        | none => rw [hsx] at hkk; cases hkk
        | some ox => rw [hsx] at hkk; cases ox <;> first | exact ⟨_, _, _, _, _, _, rfl⟩ | cases hkk
      obtain ⟨Bm, q1, q2⟩ := h.objs x _ hsx
      obtain ⟨Bn, p1, p2⟩ := hs'.objs c _ e3
      have eb : ∀ {A A' : Option Nat}, some (A.map fun B => (⟨B, 0, none⟩ : Addr), 0, 0) = some (A'.map fun B => (⟨B, 0, none⟩ : Addr), 0, 0) → A = A' := by
        intro A A' hh
        cases A <;> cases A' <;> simp at hh
        · rfl
        · rw [hh]
      have e4 : B = Bm := eb (g1.symm.trans q1)
      have e5 : B = Bn := eb (g3.symm.trans p1)
      subst e4
      subst e5
      have hblk2 : R'.blk c = R.blk x := by
        rcases p2 with ⟨rfl, _, _, k2⟩ | ⟨b2, es2, ck3, rfl, k2, _⟩
        · rcases q2 with ⟨_, _, _, k3⟩ | ⟨b3, es3, ck4, h0, k3, _⟩
          · rw [k2, k3]
          · cases h0
        · rcases q2 with ⟨h0, _⟩ | ⟨b3, es3, ck4, h0, k3, _⟩
          · cases h0
          · cases h0; rw [k2, k3]
      exact ⟨fun B' es hb' => ⟨es, hblk2 ▸ hb'⟩, fun _ => ⟨g3.trans g1.symm, hblk2⟩⟩
  let R2 : Rl := { w := R'.w, N := R'.N, blk := fun n => (match lk (swap b) n with | some c => (match lk kp c with | some _ => R.blk n | none => R'.blk c) | none => R.blk n), hdr := fun n => (match lk (swap b) n with | some c => (match lk kp c with | some _ => R.hdr n | none => R'.hdr c) | none => R.hdr n), ar := R.ar }
  have old : ∀ n, lk (swap b) n = none → R2.blk n = R.blk n ∧ R2.hdr n = R.hdr n := fun n hn => by
    constructor
    · show (match lk (swap b) n with | some c => (match lk kp c with | some _ => R.blk n | none => R'.blk c) | none => R.blk n) = _; rw [hn]
    · show (match lk (swap b) n with | some c => (match lk kp c with | some _ => R.hdr n | none => R'.hdr c) | none => R.hdr n) = _; rw [hn]
  have newF : ∀ c n, lk b c = some n → lk kp c = none → R2.blk n = R'.blk c ∧ R2.hdr n = R'.hdr c := fun c n hc hx => by
    constructor
    · show (match lk (swap b) n with | some c => (match lk kp c with | some _ => R.blk n | none => R'.blk c) | none => R.blk n) = _; rw [hback c n hc]; simp only [hx]
    · show (match lk (swap b) n with | some c => (match lk kp c with | some _ => R.hdr n | none => R'.hdr c) | none => R.hdr n) = _; rw [hback c n hc]; simp only [hx]
  have newK : ∀ c n x, lk b c = some n → lk kp c = some x → R2.blk n = R.blk n ∧ R2.hdr n = R.hdr n := fun c n x hc hx => by
    constructor
    · show (match lk (swap b) n with | some c => (match lk kp c with | some _ => R.blk n | none => R'.blk c) | none => R.blk n) = _; rw [hback c n hc]; simp only [hx]
    · show (match lk (swap b) n with | some c => (match lk kp c with | some _ => R.hdr n | none => R'.hdr c) | none => R.hdr n) = _; rw [hback c n hc]; simp only [hx]
  have hle2 : R.le R2 := by
    refine ⟨fun n p hp => ?_, fun n p hp => ?_, fun _ _ _ e => e, hs'.keep.size, hs'.le0⟩
    · cases hs1 : lk (swap b) n with
      | none => rw [(old n hs1).1]; exact hp
      | some c =>
        have hc := lk_of m1 (swap_mem hs1)
        cases hx : lk kp c with
        | some x => rw [(newK c n x hc hx).1]; exact hp
        | none => rw [(h.none n (hfresh c n hc hx)).1] at hp; cases hp
    · cases hs1 : lk (swap b) n with
      | none => rw [(old n hs1).2]; exact hp
      | some c =>
        have hc := lk_of m1 (swap_mem hs1)
        cases hx : lk kp c with
        | some x => rw [(newK c n x hc hx).2]; exact hp
        | none => rw [(h.none n (hfresh c n hc hx)).2] at hp; cases hp
  have hren : RenOk (lk m.o) b R' R2 := by
    refine ⟨rfl, fun _ _ => Iff.rfl, fun c n hc B es hbk => ?_, fun c n hc hh p hp => ?_⟩
    · cases hx : lk kp c with
      | none => exact ⟨es, (newF c n hc hx).1.trans hbk⟩
      | some x =>
        obtain ⟨rfl, _, hkk⟩ := hkeep c n hc x hx
        obtain ⟨es', he'⟩ := (hsame c n hx hkk).1 B es hbk
        exact ⟨es', (newK c n n hc hx).1.trans he'⟩
    · cases hx : lk kp c with
      | none => exact (newF c n hc hx).2.trans hp
      | some x =>
        obtain ⟨rfl, _, hkk⟩ := hkeep c n hc x hx
        rw [(newK c n n hc hx).2, ← ((hsame c n hx hkk).2 hh).1]
        exact hp
  have hnd : ((m.o.map fun p => (rn b p.1, renO b p.2)).map (·.1)).Nodup := by
    have e : (m.o.map fun p => (rn b p.1, renO b p.2)).map (·.1) = b.map (·.2) := by
      rw [List.map_map]
      have e2 : b.map (·.2) = (m.o.map (·.1)).map (rn b) := by
        rw [← backQ_mem (d := o.dst.getD 0) (m := m) (args := args) (gh := d.gh), hb, List.map_map]
        refine List.map_congr_left fun p hp => ?_
        show p.2 = rn b p.1
        unfold rn
        rw [lk_of m1 hp]
        rfl
      rw [e2, List.map_map]
      rfl
    rw [e]
    exact m2
  have F1 : ∀ n c, lk (swap b) n = some c → ∃ oc, lk b c = some n ∧ lk m.o c = some oc ∧ covO (lk m.o) b oc = true ∧
      lk (s.upd (q.map (fun p => (p.1, (.dead : Obj U))) ++ m.o.map fun p => (rn b p.1, renO b p.2))).o n = some (renO b oc) := by
    intro n c hs1
    have hc := lk_of m1 (swap_mem hs1)
    obtain ⟨oc, h1, h2⟩ := hbo c n hc
    have hrn : rn b c = n := by unfold rn; rw [hc]; rfl
    have := lk_upd2 (s.upd (q.map fun p => (p.1, (.dead : Obj U)))) _ hnd (List.mem_map.2 ⟨(c, oc), h1, rfl⟩)
    rw [show (rn b (c, oc).1, renO b (c, oc).2).1 = n from hrn] at this
    exact ⟨oc, hc, h2, List.all_eq_true.mp mO _ h1, by rw [upd_append]; exact this⟩
  have F2 : ∀ n, lk (swap b) n = none → lk (s.upd (q.map (fun p => (p.1, (.dead : Obj U))) ++ m.o.map fun p => (rn b p.1, renO b p.2))).o n = if (∃ p ∈ q, p.1 = n) then some .dead else lk s.o n := by
    intro n hs1
    rw [upd_append, lk_upd1 _ _ _ (fun p hp e => ?_), lk_dead]
    obtain ⟨p', hp', rfl⟩ := List.mem_map.1 hp
    obtain ⟨n', hn', _⟩ := hbm p' hp'
    have : rn b p'.1 = n' := by unfold rn; rw [hn']; rfl
    have e : rn b p'.1 = n := e
    rw [← e, this, hback _ _ hn'] at hs1
    cases hs1
  generalize hs2 : s.upd (q.map (fun p => (p.1, (.dead : Obj U))) ++ m.o.map fun p => (rn b p.1, renO b p.2)) = s2 at *
  have look : ∀ n o1, lk s2.o n = some o1 → o1.alive →
      (∃ c oc, lk b c = some n ∧ lk m.o c = some oc ∧ covO (lk m.o) b oc = true ∧ o1 = renO b oc) ∨ (lk (swap b) n = none ∧ (∀ p ∈ q, p.1 ≠ n) ∧ lk s.o n = some o1) := by
    intro n o1 ho1 ha1
    cases hs1 : lk (swap b) n with
    | some c =>
      obtain ⟨oc, h1, h2, h3, h4⟩ := F1 n c hs1
      rw [ho1] at h4
      cases h4
      exact .inl ⟨c, oc, h1, h2, h3, rfl⟩
    | none =>
      right
      rw [F2 n hs1] at ho1
      split at ho1
      · cases ho1; exact ha1.elim
      · rename_i hnq
        exact ⟨rfl, fun p hp e => hnq ⟨p, hp, e⟩, ho1⟩
  have blkN : ∀ c n oc B es, lk b c = some n → lk m.o c = some oc → covO (lk m.o) b oc = true → R2.blk n = some (B, es) → ∃ es', R'.blk c = some (B, es') := by
    intro c n oc B es hc hoc hal hbk
    cases hx : lk kp c with
    | none => rw [(newF c n hc hx).1] at hbk; exact ⟨es, hbk⟩
    | some x =>
      obtain ⟨rfl, _, hkk⟩ := hkeep c n hc x hx
      rw [(newK c n n hc hx).1] at hbk
      cases hh : hasHdr (lk m.o) c with
      | true =>
        rw [← ((hsame c n hx hkk).2 hh).2] at hbk
        exact ⟨es, hbk⟩
      | false =>
        have hor := hs'.objs c oc hoc
        unfold hasHdr at hh
        rw [hoc] at hh
        cases oc with
        | lit cs =>
          obtain ⟨B', es', arr, el, g1, _⟩ := hor
          obtain ⟨es2, g2⟩ := (hsame c n hx hkk).1 B' es' g1
          rw [g2] at hbk
          cases hbk
          exact ⟨es', g1⟩
        | arr n' c' l' =>
          obtain ⟨B', arr, el, g1, _⟩ := hor
          obtain ⟨es2, g2⟩ := (hsame c n hx hkk).1 B' _ g1
          rw [g2] at hbk
          cases hbk
          exact ⟨_, g1⟩
        | dead => cases hal
        | ar => cases hal
        | om => cases hal
        | _ => cases hh
  have blkO : ∀ n o1 B es, (∀ p ∈ q, p.1 ≠ n) → lk s.o n = some o1 → o1.alive → R.blk n = some (B, es) → B < R.w.heap.size ∧ ¬ GivenB R q B := by
    intro n o1 B es h2 h3 ha1 hbk
    refine ⟨(h.own n o1 B es h3 ha1 hbk).2.2, ?_⟩
    rintro ⟨p, hp, es', hbp⟩
    obtain ⟨op, g1, g2⟩ := hob p hp
    exact h2 p hp (h.inj p.1 n op o1 B es' es g1 h3 (covO_alive g2) ha1 hbp hbk)
  have hsO : SO E.D w0 N0 R2 (lk s2.o) := by
    refine { objs := fun n o1 ho1 => ?_, none := fun n ho1 => ?_, own := fun n o1 B es ho1 ha1 hb1 => ?_, inj := fun n n' o1 o2 B es es' ho1 ho2 a1 a2 b1 b2 => ?_,
             keep := ?_, le0 := h.toSO.le0' hle2, nn := fun B i hlt hg hn => ?_, nlt := hs'.nlt, ri := h.ri.of (fun n ho1 => ?_) rfl hs'.keep.size (fun n B es hbk => ?_) }
    · by_cases ha1 : o1.alive
      · rcases look n o1 ho1 ha1 with ⟨c, oc, hc, hoc, hcov, rfl⟩ | ⟨h1, h2, h3⟩
        · refine (hs'.objs c oc hoc).ren he.law hren hc hcov hoc (fun nn cc l e => ?_) (fun hh B es hbk => ?_) (fun hh hbk => ?_)
          · cases hx : lk kp c with
            | none => exact (newF c n hc hx).1
            | some x =>
              obtain ⟨rfl, _, hkk⟩ := hkeep c n hc x hx
              rw [hoc, e] at hkk
              cases hsx : lk s.o n with
              | none => rw [hsx] at hkk; cases hkk
              | some ox => rw [hsx] at hkk; cases ox <;> cases hkk
          · cases hx : lk kp c with
            | none => exact (newF c n hc hx).1.trans hbk
            | some x =>
              obtain ⟨rfl, _, hkk⟩ := hkeep c n hc x hx
              rw [(newK c n n hc hx).1, ← ((hsame c n hx hkk).2 hh).2]
              exact hbk
          · cases hx : lk kp c with
            | none => exact (newF c n hc hx).1.trans hbk
            | some x =>
              obtain ⟨rfl, _, hkk⟩ := hkeep c n hc x hx
              rw [(newK c n n hc hx).1, ← ((hsame c n hx hkk).2 hh).2]
              exact hbk
        · have hng2 : ∀ b ∈ R.ar n, ¬ GivenB R q b := fun b hb hh => by
            obtain ⟨p, _, es', hbp⟩ := hh
            exact h.ri.sep n b p.1 es' hb hbp
          refine (h.objs n o1 h3).mono hle2 (fun B es hbk => ?_) (fun hn => by rw [(old n h1).1]; exact hn) ⟨rfl, fun b hb => ⟨hs'.keep.block b (h.ri.lt n b hb).2 (hng2 b hb), fun i hi => hs'.nn b i (h.ri.lt n b hb).2 (hng2 b hb) hi⟩⟩
          obtain ⟨hlt, hng⟩ := blkO n o1 B es h2 h3 ha1 hbk
          exact ⟨hs'.keep.block B hlt hng, fun i hi => hs'.nn B i hlt hng hi⟩
      · cases o1 <;> first | exact True.intro | exact absurd True.intro ha1
    · cases hs1 : lk (swap b) n with
      | some c => obtain ⟨oc, _, _, _, h4⟩ := F1 n c hs1; rw [h4] at ho1; cases ho1
      | none =>
        rw [F2 n hs1] at ho1
        split at ho1
        · cases ho1
        · rw [(old n hs1).1, (old n hs1).2]; exact h.none n ho1
    · rcases look n o1 ho1 ha1 with ⟨c, oc, hc, hoc, hcov, rfl⟩ | ⟨h1, h2, h3⟩
      · obtain ⟨es', hbc⟩ := blkN c n oc B es hc hoc hcov hb1
        obtain ⟨k1, k2, k3⟩ := hs'.own c oc B es' hoc (covO_alive hcov) hbc
        refine ⟨fun hw => k1 (renO_whole.1 hw), ?_, k3⟩
        rcases k2 with k2 | k2
        · exact .inl (Nat.le_trans hw0 k2)
        · exact (hG B k2).2
      · rw [(old n h1).1] at hb1
        obtain ⟨hlt, hng⟩ := blkO n o1 B es h2 h3 ha1 hb1
        obtain ⟨k1, k2, k3⟩ := h.own n o1 B es h3 ha1 hb1
        exact ⟨fun hw i => hs'.nn B i hlt hng (k1 hw i), k2, Nat.lt_of_lt_of_le hlt hs'.keep.size⟩
    · have cross : ∀ {c n oc B es}, lk b c = some n → lk m.o c = some oc → covO (lk m.o) b oc = true → R2.blk n = some (B, es) → B < R.w.heap.size → ¬ GivenB R q B → False := by
        intro c n oc B es hc hoc hal hbk hlt hng
        obtain ⟨es', hbc⟩ := blkN c n oc B es hc hoc hal hbk
        obtain ⟨_, k2, _⟩ := hs'.own c oc B es' hoc (covO_alive hal) hbc
        rcases k2 with k2 | k2
        · have k2 : R.w.heap.size ≤ B := k2
          omega
        · exact hng k2
      rcases look n o1 ho1 a1 with ⟨c, oc, hc, hoc, hcov, rfl⟩ | ⟨h1, h2, h3⟩ <;> rcases look n' o2 ho2 a2 with ⟨c', oc', hc', hoc', hcov', rfl⟩ | ⟨h1', h2', h3'⟩
      · obtain ⟨e1, hb1⟩ := blkN c n oc B es hc hoc hcov b1
        obtain ⟨e2, hb2⟩ := blkN c' n' oc' B es' hc' hoc' hcov' b2
        have := hs'.inj c c' oc oc' B e1 e2 hoc hoc' (covO_alive hcov) (covO_alive hcov') hb1 hb2
        subst this
        rw [hc] at hc'
        cases hc'
        rfl
      · rw [(old n' h1').1] at b2
        obtain ⟨hlt, hng⟩ := blkO n' o2 B es' h2' h3' a2 b2
        exact (cross hc hoc hcov b1 hlt hng).elim
      · rw [(old n h1).1] at b1
        obtain ⟨hlt, hng⟩ := blkO n o1 B es h2 h3 a1 b1
        exact (cross hc' hoc' hcov' b2 hlt hng).elim
      · rw [(old n h1).1] at b1
        rw [(old n' h1').1] at b2
        exact h.inj n n' o1 o2 B es es' h3 h3' a1 a2 b1 b2
    · refine h.keep.trans ⟨hs'.keep.os, hs'.keep.tape, hs'.keep.output, hs'.keep.size, fun k hk hg => hs'.keep.block k (Nat.lt_of_lt_of_le hk hw0) (fun hh => ?_)⟩
      rcases (hG k hh).2 with h1 | h1
      · omega
      · exact hg h1
    · refine hs'.nn B i (Nat.lt_of_lt_of_le hlt hw0) (fun hh => ?_) (h.nn B i hlt hg hn)
      rcases (hG B hh).2 with h1 | h1
      · omega
      · exact hg h1
    · cases hs1 : lk (swap b) n with
      | some c => obtain ⟨oc, _, _, _, h4⟩ := F1 n c hs1; rw [h4] at ho1; cases ho1
      | none =>
        rw [F2 n hs1] at ho1
        split at ho1
        · cases ho1
        · exact ho1
    · cases hs1 : lk (swap b) n with
      | none => rw [(old n hs1).1] at hbk; exact .inl ⟨n, es, hbk⟩
      | some c =>
        obtain ⟨oc, h1, h2, h3, _⟩ := F1 n c hs1
        cases hx : lk kp c with
        | some x => rw [(newK c n x h1 hx).1] at hbk; exact .inl ⟨n, es, hbk⟩
        | none =>
          rw [(newF c n h1 hx).1] at hbk
          rcases (hs'.own c oc B es h2 (covO_alive h3) hbk).2.1 with k2 | ⟨p, _, es', hbp⟩
          · exact .inr ⟨k2, hs'.ri.blt c B es hbk⟩
          · exact .inl ⟨p.1, es', hbp⟩
  refine hnext v R2 hle2 ?_ { toSO := hsO, size := h.size, defers := h.defers, ntle := h.ntle, tm := fun n => by rw [← hs2, get_upd']; exact (h.tm n).mono hle2 }
  have := hs'.tm 0
  rw [tv_lt (by unfold gb; omega)] at this
  exact VR.renV he.law hren this hcv
end
end Go.Ev
