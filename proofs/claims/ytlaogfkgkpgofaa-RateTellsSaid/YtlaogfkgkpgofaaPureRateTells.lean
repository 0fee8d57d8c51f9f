/- RateTells: of any table, whatever is set, each answer is as the document says. No conditions but size. -/
import Derived.Test.YtlaogfkgkpgofaaRw
namespace Go.Proofs.Ytlaogfkgkpgofaa.Pure
set_option linter.unusedVariables false
set_option linter.unusedSimpArgs false
open Go Go.Ev Go.Lm Go.Pu Go.Dg
theorem bexv {α β : Type} {X : Option α} {v : α} {G : α → Option β} {P : β → Prop} (h : X = some v) (h' : ∃ r, G v = some r ∧ P r) : ∃ r, X.bind G = some r ∧ P r := by
  rw [h]
  exact h'
/-- The table and the rates hold the same. -/
structure Sim (T : List (Srate_Key × Sapi_Dec)) (has : List Bool) (ds : List Sapi_Dec) : Prop where
  h1 : has.length = 36
  h2 : ds.length = 36
  pl : ∀ q ∈ T.map (·.1), placed q = true
  nd : (T.map (·.1)).Nodup
  on : ∀ q, placed q = true → mget (keq_Srate_Key q) T = cond (has.getD (idx q) false) (some (ds.getD (idx q) Sapi_Dec.zero)) none
theorem sim_nil : Sim [] (List.replicate 36 false) (List.replicate 36 Sapi_Dec.zero) := by
  refine ⟨rfl, rfl, fun q h => (List.not_mem_nil h).elim, List.nodup_nil, fun q hq => ?_⟩
  have := idx_lt hq
  rw [List.getD_eq_getElem?_getD, List.getElem?_replicate, if_pos this]
  rfl
theorem Sim.set {T : List (Srate_Key × Sapi_Dec)} {has : List Bool} {ds : List Sapi_Dec} (h : Sim T has ds) {q : Srate_Key} (hq : placed q = true) (d : Sapi_Dec) : Sim (mput (keq_Srate_Key q) q d T) (has.set (idx q) true) (ds.set (idx q) d) := by
  have hlt := idx_lt hq
  have hmk := mput_keys keq_iff q d T
  have hmem : q ∈ T.map (·.1) ↔ (mget (keq_Srate_Key q) T).isSome = true := (mget_some keq_iff q T).symm
  refine ⟨by rw [List.length_set]; exact h.h1, by rw [List.length_set]; exact h.h2, ?_, ?_, ?_⟩
  · rw [hmk]
    intro x hx
    cases hs : (mget (keq_Srate_Key q) T).isSome with
    | true => rw [hs, cond_true] at hx; exact h.pl x hx
    | false =>
      rw [hs, cond_false, List.mem_append] at hx
      rcases hx with hx | hx
      · exact h.pl x hx
      · have : x = q := by simpa using hx
        rw [this]; exact hq
  · rw [hmk]
    cases hs : (mget (keq_Srate_Key q) T).isSome with
    | true => exact h.nd
    | false =>
      rw [cond_false, List.nodup_append]
      exact ⟨h.nd, by simp, fun a ha b hb e => by
        have hb' : b = q := by simpa using hb
        rw [e, hb'] at ha
        rw [hmem.1 ha] at hs
        cases hs⟩
  · intro x hx
    have hxlt := idx_lt hx
    rw [getD_set0, getD_set0, h.h1, h.h2]
    by_cases e : idx q = idx x
    · have := idx_inj hq hx e
      subst this
      rw [get_same, if_pos ⟨rfl, hlt⟩, if_pos ⟨rfl, hlt⟩]
      rfl
    · rw [get_other T (fun h' => e (by rw [h'])), if_neg (fun h' => e h'.1), if_neg (fun h' => e h'.1)]
      exact h.on x hx
theorem Sim.agree {T : List (Srate_Key × Sapi_Dec)} {has : List Bool} {ds : List Sapi_Dec} (h : Sim T has ds) (q : Srate_Key) :
    ∃ D E, got T (mget (keq_Srate_Key q) T) = (D, E, ⟨T⟩) ∧ gotR has ds q = (D, E, ⟨has, ds⟩) ∧ ((E == 0) = true ↔ q ∈ T.map (·.1)) := by
  rw [← mget_some keq_iff q T]
  cases hp : placed q with
  | true =>
    unfold gotR
    rw [h.on q hp, hp, Bool.true_and]
    cases has.getD (idx q) false with
    | true => exact ⟨_, _, rfl, rfl, by simp⟩
    | false => exact ⟨_, _, rfl, rfl, by simp⟩
  | false =>
    have hn : mget (keq_Srate_Key q) T = none := by
      cases hm : mget (keq_Srate_Key q) T with
      | none => rfl
      | some d =>
        have := h.pl q ((mget_some keq_iff q T).1 (by rw [hm]; rfl))
        rw [hp] at this
        cases this
    unfold gotR
    rw [hn, hp, Bool.false_and]
    exact ⟨_, _, rfl, rfl, by simp⟩
theorem Sim.sets {k : Nat} (hk : 602 < k) {T : List (Srate_Key × Sapi_Dec)} {has : List Bool} {ds : List Sapi_Dec} (h : Sim T has ds) (p kd : Int) {d : Sapi_Dec} (hw : W2 d.f_C) :
    ∃ e T' has' ds', rate_Table_Set.f k ⟨T⟩ ⟨p, kd⟩ d = some (e, ⟨T'⟩) ∧ pyxref11_Rates_Set.f k ⟨has, ds⟩ p kd d = some (e, ⟨has', ds'⟩) ∧ Sim T' has' ds' := by
  rw [Set_eq (by omega) T ⟨p, kd⟩ hw, RRates_Set hk h.h1 h.h2 p kd hw]
  cases hb : placed ⟨p, kd⟩ && okR d with
  | true =>
    rw [Bool.and_eq_true] at hb
    exact ⟨_, _, _, _, rfl, rfl, h.set hb.1 d⟩
  | false => exact ⟨_, _, _, _, rfl, rfl, h⟩
theorem tell_step {k : Nat} (hk : 602 < k) {l ns ss : List Int} (hl : l.length ≤ 9223372036854775807) (hn : ∀ z ∈ ns, -9223372036854775808 ≤ z ∧ z < 9223372036854775808) {i : Nat} (hi : i < l.length) {T : List (Srate_Key × Sapi_Dec)} {has : List Bool} {ds : List Sapi_Dec} (h : Sim T has ds) :
    ∃ r, pyxlaw16_RateTells.l6.once k (ns, ss, l, (l.length : Int), (i : Int), T, ⟨has, ds⟩) = some r ∧ ∃ T' has' ds', r = .inl (ns, ss, l, (l.length : Int), ((i + 1 : Nat) : Int), T', ⟨has', ds'⟩) ∧ Sim T' has' ds' := by
  have e1 : pack 36 false has = has := pack_eq false h.h1
  have e2 : pack 36 Sapi_Dec.zero ds = ds := pack_eq _ h.h2
  have b1 := pick_bd (l.getD i 0) (m := 15) (by decide)
  have b2 := pick_bd (IntKind.wrap .i64 (Int.tdiv (l.getD i 0) 15)) (m := 5) (by decide)
  have b3 := pick_bd (l.getD i 0) (m := 90000) (by decide)
  have p1 := Pick_eq k (l.getD i 0) (m := 15) (by decide) (by decide)
  have p2 := Pick_eq k (IntKind.wrap .i64 (Int.tdiv (l.getD i 0) 15)) (m := 5) (by decide) (by decide)
  have p3 := Pick_eq k (l.getD i 0) (m := 90000) (by decide) (by decide)
  generalize pick (l.getD i 0) 15 = t1 at p1 b1
  generalize pick (IntKind.wrap .i64 (Int.tdiv (l.getD i 0) 15)) 5 = t2 at p2 b2
  generalize pick (l.getD i 0) 90000 = t3 at p3 b3
  have w1 := wrapi (show -9223372036854775808 ≤ t1 - 1 ∧ t1 - 1 < 9223372036854775808 by omega)
  have w2 := wrapi (show -9223372036854775808 ≤ t2 - 1 ∧ t2 - 1 < 9223372036854775808 by omega)
  have hw := wrapi (show -9223372036854775808 ≤ (i : Int) + 1 ∧ (i : Int) + 1 < 9223372036854775808 by omega)
  unfold pyxlaw16_RateTells.l6.once
  dsimp only
  rw [ct (show (i : Int) < (l.length : Int) by omega), inb_t (by omega) (by omega), cond_true, Int.toNat_natCast]
  simp only [e1, e2]
  refine bexv p1 (bexv p2 (bexv p3 ?_))
  rw [wrapi (by omega)]
  refine bexv (ROf_DV hk (by omega) 3) ?_
  simp only [w1, w2]
  refine bexv (v := (ns, ss, (i : Int), l.getD i 0, l, (l.length : Int), (i : Int), decide ((i : Int) < (ns.length : Int)) && decide ((i : Int) < (ss.length : Int)), T, ⟨has, ds⟩, t1 - 1, t2 - 1, (DV (1 + t3) (cl 3)).f_Neg, (DV (1 + t3) (cl 3)).f_C.1, (DV (1 + t3) (cl 3)).f_C.2, (DV (1 + t3) (cl 3)).f_Scale)) ?_ ?_
  · cases decide ((i : Int) < (ns.length : Int)) <;> rfl
  dsimp only
  simp only [e1, e2]
  refine bex (fun y => ∃ d : Sapi_Dec, W2 d.f_C ∧ y = (ns, ss, l, (l.length : Int), (i : Int), T, ⟨has, ds⟩, t1 - 1, t2 - 1, d.f_Neg, d.f_C.1, d.f_C.2, d.f_Scale)) ?_ ?_
  · cases hb : decide ((i : Int) < (ns.length : Int)) && decide ((i : Int) < (ss.length : Int)) with
    | false => exact ⟨_, rfl, DV (1 + t3) (cl 3), Sm_w2 (by unfold Sm; omega), rfl⟩
    | true =>
      rw [Bool.and_eq_true, decide_eq_true_iff, decide_eq_true_iff] at hb
      rw [cond_true, inb_t (by omega) (by omega), inb_t (by omega) (by omega), cond_true, cond_true, Int.toNat_natCast]
      have hz : ns.getD i 0 ∈ ns := by
        rw [List.getD_eq_getElem?_getD, List.getElem?_eq_getElem (by omega)]
        exact List.getElem_mem _
      obtain ⟨d, hd, hdw⟩ := HDec_ok (k := k) hk (n := ns.getD i 0) (s := ss.getD i 0) (b := l.getD i 0) (hn _ hz)
      exact ⟨_, bof hd rfl, d, hdw, rfl⟩
  rintro _ ⟨d, hdw, rfl⟩
  dsimp only
  simp only [e1, e2]
  obtain ⟨e, T', has', ds', g1, g2, h'⟩ := h.sets (k := k) hk (t1 - 1) (t2 - 1) hdw
  have e3 : pack 36 false has' = has' := pack_eq false h'.h1
  have e4 : pack 36 Sapi_Dec.zero ds' = ds' := pack_eq _ h'.h2
  refine bexv g1 (bexv g2 ?_)
  dsimp only
  simp only [e3, e4]
  rw [show (e != e) = false by simp, cond_false]
  obtain ⟨D, E, a1, a2, _⟩ := h'.agree ⟨t1 - 1, t2 - 1⟩
  refine bexv ((Get_eq k T' ⟨t1 - 1, t2 - 1⟩).trans (congrArg some a1)) (bexv ((RRates_Get k h'.h1 h'.h2 (t1 - 1) (t2 - 1)).trans (congrArg some a2)) ?_)
  dsimp only
  simp only [e3, e4]
  refine bexv (v := (ns, ss, l, (l.length : Int), (i : Int), false, T', ⟨has', ds'⟩)) ?_ ?_
  · simp
  dsimp only
  simp only [e3, e4]
  rw [cond_false, hw]
  exact ⟨_, rfl, T', has', ds', rfl, h'⟩
/-- How many stand ahead of a place. -/
def cnt (s : List Srate_Key) (m : Nat) : Nat := s.countP fun q => decide (idx q < m)
theorem cnt_in : ∀ {s : List Srate_Key}, s.Pairwise (fun a b => idx a < idx b) → ∀ {q : Srate_Key}, q ∈ s → cnt s (idx q + 1) = cnt s (idx q) + 1 ∧ cnt s (idx q) < s.length ∧ s.getD (cnt s (idx q)) Srate_Key.zero = q
  | [], _, q, h => (List.not_mem_nil h).elim
  | a :: r, hs, q, h => by
    rw [List.pairwise_cons] at hs
    by_cases e : idx a < idx q
    · have hr : q ∈ r := by
        rcases List.mem_cons.1 h with h | h
        · rw [h] at e; omega
        · exact h
      obtain ⟨h1, h2, h3⟩ := cnt_in hs.2 hr
      unfold cnt at *
      rw [List.countP_cons_of_pos (by simp; omega), List.countP_cons_of_pos (by simpa using e), h1]
      exact ⟨rfl, by simp; omega, by simpa using h3⟩
    · have ha : q = a := by
        rcases List.mem_cons.1 h with h | h
        · exact h
        · exact absurd (hs.1 q h) e
      subst ha
      have z1 : r.countP (fun x => decide (idx x < idx q)) = 0 := by
        rw [List.countP_eq_zero]
        intro x hx
        have := hs.1 x hx
        simp; omega
      have z2 : r.countP (fun x => decide (idx x < idx q + 1)) = 0 := by
        rw [List.countP_eq_zero]
        intro x hx
        have := hs.1 x hx
        simp; omega
      unfold cnt
      rw [List.countP_cons_of_pos (by simp), List.countP_cons_of_neg (by simp), z1, z2]
      exact ⟨rfl, by simp, rfl⟩
theorem cnt_out {s : List Srate_Key} {m : Nat} (h : ∀ x ∈ s, idx x ≠ m) : cnt s (m + 1) = cnt s m := by
  unfold cnt
  refine List.countP_congr fun x hx => ?_
  have := h x hx
  simp only [decide_eq_true_iff]
  omega
theorem cnt_le (s : List Srate_Key) (m : Nat) : cnt s m ≤ s.length := List.countP_le_length
theorem in_step {k : Nat} {T : List (Srate_Key × Sapi_Dec)} {has : List Bool} {ds : List Sapi_Dec} (h : Sim T has ds) {s : List Srate_Key} (hsl : s.length ≤ 1000) (hs : s.Pairwise (fun a b => idx a < idx b)) (hm : ∀ q, q ∈ s ↔ q ∈ T.map (·.1)) {p j : Nat} (hp : p < 12) (hj : j < 3) :
    pyxlaw16_RateTells.l25.once k ((cnt s (p * 3 + j) : Int), s, (p : Int), (j : Int), T, ⟨has, ds⟩) = some (.inl ((cnt s (p * 3 + (j + 1)) : Int), s, (p : Int), ((j + 1 : Nat) : Int), T, ⟨has, ds⟩)) := by
  have e1 : pack 36 false has = has := pack_eq false h.h1
  have e2 : pack 36 Sapi_Dec.zero ds = ds := pack_eq _ h.h2
  have hpl : placed ⟨(p : Int), (j : Int)⟩ = true := decide_eq_true ⟨by dsimp only; omega, by dsimp only; omega⟩
  have hix : idx ⟨(p : Int), (j : Int)⟩ = p * 3 + j := rfl
  have hcl := cnt_le s (p * 3 + j)
  have hw := wrapi (show -9223372036854775808 ≤ (j : Int) + 1 ∧ (j : Int) + 1 < 9223372036854775808 by omega)
  have hw2 := wrapi (show -9223372036854775808 ≤ (cnt s (p * 3 + j) : Int) + 1 ∧ (cnt s (p * 3 + j) : Int) + 1 < 9223372036854775808 by omega)
  obtain ⟨D, E, a1, a2, a3⟩ := h.agree ⟨(p : Int), (j : Int)⟩
  rw [← hm] at a3
  unfold pyxlaw16_RateTells.l25.once
  dsimp only
  rw [ct (show (j : Int) < 3 by omega)]
  simp only [e1, e2]
  refine bof (v := .inl ((cnt s (p * 3 + (j + 1)) : Int), s, (p : Int), (j : Int), T, ⟨has, ds⟩)) ?_ ?_
  · refine bof ((Get_eq k T ⟨(p : Int), (j : Int)⟩).trans (congrArg some a1)) (bof ((RRates_Get k h.h1 h.h2 (p : Int) (j : Int)).trans (congrArg some a2)) ?_)
    dsimp only
    simp only [e1, e2]
    refine bof (v := ((cnt s (p * 3 + j) : Int), s, (p : Int), (j : Int), E, false, T, ⟨has, ds⟩)) ?_ ?_
    · simp only [beq_self_eq_true, Bool.and_self, Bool.not_true, cond_false, bne_self_eq_false]
      cases hb : E == 0 with
      | false => rfl
      | true =>
        obtain ⟨c1, c2, c3⟩ := cnt_in hs (a3.1 hb)
        rw [hix] at c1 c2 c3
        rw [cond_true, cf (by omega), inb_t (by omega) (by omega), cond_true, Int.toNat_natCast, c3]
        simp
    · dsimp only
      simp only [e1, e2]
      rw [cond_false]
      cases hb : E == 0 with
      | true =>
        obtain ⟨c1, c2, c3⟩ := cnt_in hs (a3.1 hb)
        rw [hix] at c1
        rw [cond_true, hw2, show p * 3 + (j + 1) = p * 3 + j + 1 by omega, c1]
        rfl
      | false =>
        rw [cond_false, show p * 3 + (j + 1) = p * 3 + j + 1 by omega, cnt_out (m := p * 3 + j) (fun x hx e => by
          have hxp : placed x = true := h.pl x ((hm x).1 hx)
          have := idx_inj hpl hxp (hix.trans e.symm)
          rw [← this] at hx
          rw [a3.2 hx] at hb
          cases hb)]
  · dsimp only
    simp only [e1, e2]
    rw [hw]
    rfl
theorem in_loop {k : Nat} (hk : 602 < k) {T : List (Srate_Key × Sapi_Dec)} {has : List Bool} {ds : List Sapi_Dec} (h : Sim T has ds) {s : List Srate_Key} (hsl : s.length ≤ 1000) (hs : s.Pairwise (fun a b => idx a < idx b)) (hm : ∀ q, q ∈ s ↔ q ∈ T.map (·.1)) {p : Nat} (hp : p < 12) :
    pyxlaw16_RateTells.l22.once k ((cnt s (p * 3) : Int), s, (p : Int), T, ⟨has, ds⟩) = some (.inl ((cnt s ((p + 1) * 3) : Int), s, ((p + 1 : Nat) : Int), T, ⟨has, ds⟩)) := by
  have e1 : pack 36 false has = has := pack_eq false h.h1
  have e2 : pack 36 Sapi_Dec.zero ds = ds := pack_eq _ h.h2
  have hw := wrapi (show -9223372036854775808 ≤ (p : Int) + 1 ∧ (p : Int) + 1 < 9223372036854775808 by omega)
  unfold pyxlaw16_RateTells.l22.once
  dsimp only
  rw [ct (show (p : Int) < 12 by omega)]
  simp only [e1, e2]
  have it := iter_seq (once := pyxlaw16_RateTells.l25.once k) (fun j => ((cnt s (p * 3 + j) : Int), s, (p : Int), (j : Int), T, ⟨has, ds⟩)) 3 (fun j hj => in_step h hsl hs hm hp hj)
    (.inl ((cnt s (p * 3 + 3) : Int), s, (p : Int), T, ⟨has, ds⟩)) (by
      unfold pyxlaw16_RateTells.l25.once
      dsimp only
      rw [cf (by omega), e1, e2]) k 0 (Nat.zero_le _) (by omega)
  refine bof it ?_
  dsimp only
  simp only [e1, e2]
  rw [hw, show (p + 1) * 3 = p * 3 + 3 by omega]
  rfl
theorem RateTells (l : List Int) (w0 : l.length ≤ 9223372036854775807 ∧ l.length * 8 ≤ 140737488351232 ∧ ∀ z ∈ l, (Lit.int .i64 z).wf = true) (ns : List Int) (w1 : ns.length ≤ 9223372036854775807 ∧ ns.length * 8 ≤ 140737488351232 ∧ ∀ z ∈ ns, (Lit.int .i64 z).wf = true) (ss : List Int) (w2 : ss.length ≤ 9223372036854775807 ∧ ss.length * 8 ≤ 140737488351232 ∧ ∀ z ∈ ss, (Lit.int .i64 z).wf = true) :
    ∃ k, pyxlaw16_RateTells.f k l ns ss = some true := by
  refine ⟨l.length + 1000, ?_⟩
  obtain ⟨k, hk⟩ : ∃ k, l.length + 1000 = k := ⟨_, rfl⟩
  rw [hk]
  unfold pyxlaw16_RateTells.f
  refine bof (v := ⟨[]⟩) rfl ?_
  refine bof (v := (l, ns, ss, false, [], ⟨List.replicate 36 false, List.replicate 36 Sapi_Dec.zero⟩)) (bof (known_eq (by omega)) rfl) ?_
  have e1 : pack 36 false (List.replicate 36 false) = List.replicate 36 false := pack_eq false rfl
  have e2 : pack 36 Sapi_Dec.zero (List.replicate 36 Sapi_Dec.zero) = List.replicate 36 Sapi_Dec.zero := pack_eq _ rfl
  dsimp only
  rw [cond_false, e1, e2]
  have st := iter_rule (once := pyxlaw16_RateTells.l6.once k)
    (fun x => ∃ (i : Nat) (T : List (Srate_Key × Sapi_Dec)) (has : List Bool) (ds : List Sapi_Dec), x = (ns, ss, l, (l.length : Int), (i : Int), T, ⟨has, ds⟩) ∧ i ≤ l.length ∧ Sim T has ds)
    (fun x => l.length - x.2.2.2.2.1.toNat)
    (fun y => ∃ (T : List (Srate_Key × Sapi_Dec)) (has : List Bool) (ds : List Sapi_Dec), y = .inl (T, ⟨has, ds⟩) ∧ Sim T has ds)
    (by
      rintro _ ⟨i, T, has, ds, rfl, hi, hS⟩
      by_cases h : i < l.length
      · obtain ⟨r, h1, T', has', ds', rfl, h2⟩ := tell_step (k := k) (ns := ns) (ss := ss) (by omega) w0.1 (fun z hz => wfi64 (w1.2.2 z hz)) h hS
        exact .inl ⟨_, h1, ⟨i + 1, T', has', ds', rfl, by omega, h2⟩, by dsimp only; omega⟩
      · refine .inr ⟨_, ?_, T, has, ds, rfl, hS⟩
        unfold pyxlaw16_RateTells.l6.once
        dsimp only
        rw [cf (show ¬ (i : Int) < (l.length : Int) by omega), pack_eq false hS.h1, pack_eq _ hS.h2])
  obtain ⟨y, hy, T, has, ds, rfl, hS⟩ := st k _ ⟨0, [], _, _, rfl, Nat.zero_le _, sim_nil⟩ (by dsimp only; omega)
  refine bof hy ?_
  dsimp only
  have hp := srt_perm (T.map (·.1))
  have hle := srt_le (T.map (·.1))
  have hnd : (srt_Srate_Key (T.map (·.1))).Nodup := hp.nodup_iff.2 hS.nd
  have hmem : ∀ q, q ∈ srt_Srate_Key (T.map (·.1)) ↔ q ∈ T.map (·.1) := fun q => hp.mem_iff
  have hasc : (srt_Srate_Key (T.map (·.1))).Pairwise (fun a b => idx a < idx b) := by
    refine (hle.and hnd).imp_of_mem fun {a b} ha hb hab => ?_
    have pa := placed_bd (hS.pl a ((hmem a).1 ha))
    have pb := placed_bd (hS.pl b ((hmem b).1 hb))
    obtain ⟨h1, h2⟩ := hab
    unfold leII at h1
    simp only [Bool.not_eq_true', decide_eq_false_iff_not] at h1
    obtain ⟨a1, a2⟩ := a
    obtain ⟨c1, c2⟩ := b
    simp only [ne_eq, Srate_Key.mk.injEq] at h2
    unfold idx
    dsimp only at *
    omega
  have hlen : (srt_Srate_Key (T.map (·.1))).length ≤ 36 := by
    have h36 : cnt (srt_Srate_Key (T.map (·.1))) 36 ≤ 36 := by
      have : ∀ m, cnt (srt_Srate_Key (T.map (·.1))) m ≤ m := by
        intro m
        induction m with
        | zero => unfold cnt; rw [List.countP_eq_zero.2 (fun x hx => by simp)]; exact Nat.le_refl _
        | succ m ih =>
          by_cases h : ∃ x ∈ srt_Srate_Key (T.map (·.1)), idx x = m
          · obtain ⟨x, hx, rfl⟩ := h
            rw [(cnt_in hasc hx).1]; omega
          · rw [cnt_out (fun x hx e => h ⟨x, hx, e⟩)]; omega
      exact this 36
    have : cnt (srt_Srate_Key (T.map (·.1))) 36 = (srt_Srate_Key (T.map (·.1))).length := by
      unfold cnt
      rw [List.countP_eq_length]
      intro x hx
      exact decide_eq_true (idx_lt (hS.pl x ((hmem x).1 hx)))
    omega
  have hend : cnt (srt_Srate_Key (T.map (·.1))) 36 = (srt_Srate_Key (T.map (·.1))).length := by
    unfold cnt
    rw [List.countP_eq_length]
    intro x hx
    exact decide_eq_true (idx_lt (hS.pl x ((hmem x).1 hx)))
  refine bof (Keys_eq k (T := T) (by have := hp.length_eq; rw [List.length_map] at this; omega)) ?_
  dsimp only
  rw [show (T.map fun p => p.1) = T.map (·.1) from rfl]
  generalize srt_Srate_Key (T.map (·.1)) = s at hasc hmem hlen hend
  rw [pack_eq false hS.h1, pack_eq _ hS.h2]
  have it := iter_seq (once := pyxlaw16_RateTells.l22.once k) (fun p => ((cnt s (p * 3) : Int), s, (p : Int), T, ⟨has, ds⟩)) 12 (fun p hp => in_loop (by omega) hS (by omega) hasc hmem hp)
    (.inl ((cnt s (12 * 3) : Int), s)) (by
      unfold pyxlaw16_RateTells.l22.once
      dsimp only
      rw [cf (by omega)]) k 0 (Nat.zero_le _) (by omega)
  have h0 : ((0 : Int), s, (0 : Int), T, (⟨has, ds⟩ : Spyxref11_Rates)) = ((cnt s (0 * 3) : Int), s, ((0 : Nat) : Int), T, ⟨has, ds⟩) := by
    rw [show cnt s (0 * 3) = 0 by unfold cnt; rw [List.countP_eq_zero.2 (fun x hx => by simp)]]
    rfl
  rw [h0]
  refine bof it ?_
  dsimp only
  rw [show 12 * 3 = 36 from rfl, hend]
  simp
end Go.Proofs.Ytlaogfkgkpgofaa.Pure
