/- RateKeys: keys are told once each, rising, whatever the order in which, and how often, they were set. No conditions but size. -/
import Derived.Test.YtlaogfkgkpgofaaRt
namespace Go.Proofs.Ytlaogfkgkpgofaa.Pure
set_option linter.unusedVariables false
set_option linter.unusedSimpArgs false
open Go Go.Ev Go.Lm Go.Pu Go.Dg
theorem mget_some {α β : Type} {K : α → α → Bool} (hK : ∀ a b, K a b = true ↔ a = b) (k : α) : ∀ l : List (α × β), (mget (K k) l).isSome = true ↔ k ∈ l.map (·.1)
  | [] => by simp [mget]
  | p :: r => by
    simp only [mget, List.map_cons, List.mem_cons]
    cases h : K k p.1 with
    | true => simp [(hK _ _).1 h]
    | false =>
      have hn : k ≠ p.1 := fun e => by rw [(hK _ _).2 e] at h; cases h
      rw [cond_false, mget_some hK k r]
      simp [hn]
theorem mput_keys {α β : Type} {K : α → α → Bool} (hK : ∀ a b, K a b = true ↔ a = b) (k : α) (v : β) : ∀ l : List (α × β), (mput (K k) k v l).map (·.1) = cond (mget (K k) l).isSome (l.map (·.1)) (l.map (·.1) ++ [k])
  | [] => by simp [mput, mget]
  | p :: r => by
    simp only [mput, mget]
    cases h : K k p.1 with
    | true => rfl
    | false =>
      simp only [cond_false, List.map_cons]
      rw [mput_keys hK k v r]
      cases (mget (K k) r).isSome <;> rfl
theorem count_set : ∀ (l : List Bool) (i : Nat), i < l.length → l.getD i false = false → (l.set i true).count true = l.count true + 1
  | [], i, h, _ => by simp at h
  | x :: r, 0, h, h0 => by
    have : x = false := by simpa using h0
    subst this
    simp
  | x :: r, i + 1, h, h0 => by
    have ih := count_set r i (by simpa using h) (by simpa using h0)
    simp only [List.set_cons_succ, List.count_cons, ih]
    omega
theorem set_same : ∀ (l : List Bool) (i : Nat), l.getD i false = true → l.set i true = l
  | [], i, h => by simp at h
  | x :: r, 0, h => by
    have : x = true := by simpa using h
    subst this
    rfl
  | x :: r, i + 1, h => by rw [List.set_cons_succ, set_same r i (by simpa using h)]
theorem getD_setB (l : List Bool) (i j : Nat) (h : i < l.length) : (l.set i true).getD j false = if i = j then true else l.getD j false := by
  rw [List.getD_eq_getElem?_getD, List.getD_eq_getElem?_getD, List.getElem?_set]
  by_cases e : i = j
  · subst e; rw [if_pos rfl, if_pos rfl, if_pos h]; rfl
  · rw [if_neg e, if_neg e]
/-- A key's place in the grid. -/
def idx (q : Srate_Key) : Nat := q.f_Period.toNat * 3 + q.f_Kind.toNat
theorem placed_bd {q : Srate_Key} (h : placed q = true) : (0 ≤ q.f_Period ∧ q.f_Period < 12) ∧ (0 ≤ q.f_Kind ∧ q.f_Kind < 3) := of_decide_eq_true h
theorem idx_lt {q : Srate_Key} (h : placed q = true) : idx q < 36 := by
  have := placed_bd h
  unfold idx
  omega
theorem idx_inj {q q' : Srate_Key} (h : placed q = true) (h' : placed q' = true) (e : idx q = idx q') : q = q' := by
  have a := placed_bd h
  have b := placed_bd h'
  unfold idx at e
  cases q
  cases q'
  simp only [Srate_Key.mk.injEq] at *
  omega
structure Grid (ks : List Srate_Key) (had : List Bool) : Prop where
  nd : ks.Nodup
  pl : ∀ q ∈ ks, placed q = true
  len : had.length = 36
  on : ∀ q, placed q = true → (had.getD (idx q) false = true ↔ q ∈ ks)
  cnt : had.count true = ks.length
theorem Grid.small {ks : List Srate_Key} {had : List Bool} (h : Grid ks had) : ks.length ≤ 36 := by
  rw [← h.cnt, ← h.len]
  exact List.count_le_length
theorem Grid.more {ks : List Srate_Key} {had : List Bool} (h : Grid ks had) {q : Srate_Key} (hq : placed q = true) : Grid (cond (had.getD (idx q) false) ks (ks ++ [q])) (had.set (idx q) true) := by
  have hl : idx q < had.length := by rw [h.len]; exact idx_lt hq
  cases hb : had.getD (idx q) false with
  | true => rw [set_same _ _ hb]; exact h
  | false =>
    have hn : q ∉ ks := fun hm => by rw [(h.on q hq).2 hm] at hb; cases hb
    refine ⟨?_, ?_, by rw [List.length_set]; exact h.len, ?_, by rw [count_set _ _ hl hb, h.cnt, cond_false]; simp⟩
    · rw [cond_false, List.nodup_append]
      exact ⟨h.nd, by simp, fun a ha b hb' => by
        have : b = q := by simpa using hb'
        subst this
        exact fun e => hn (e ▸ ha)⟩
    · intro x hx
      rw [cond_false, List.mem_append] at hx
      rcases hx with hx | hx
      · exact h.pl x hx
      · have : x = q := by simpa using hx
        rw [this]; exact hq
    · intro x hx
      rw [getD_setB _ _ _ hl, cond_false, List.mem_append]
      by_cases e : idx q = idx x
      · rw [if_pos e, idx_inj hq hx e]
        simp
      · rw [if_neg e, h.on x hx]
        have : x ≠ q := fun h' => e (by rw [h'])
        simp [this]
theorem grid_nil : Grid [] (List.replicate 36 false) := by
  refine ⟨List.nodup_nil, fun q h => (List.not_mem_nil h).elim, rfl, fun q hq => ?_, by decide⟩
  have := idx_lt hq
  rw [List.getD_eq_getElem?_getD, List.getElem?_replicate, if_pos this]
  simp
theorem set_step {k : Nat} (hk : 602 < k) {l : List Int} (hl : l.length ≤ 9223372036854775807) {i : Nat} (hi : i < l.length) (T : List (Srate_Key × Sapi_Dec)) (had : List Bool) (h : Grid (T.map (·.1)) had) :
    ∃ T' had', pyxlaw16_RateKeys.l7.once k (((T.map (·.1)).length : Int), l, (l.length : Int), (i : Int), T, had) = some (.inl (((T'.map (·.1)).length : Int), l, (l.length : Int), ((i + 1 : Nat) : Int), T', had')) ∧ Grid (T'.map (·.1)) had' := by
  have b1 := pick_bd (l.getD i 0) (m := 12) (by decide)
  have b2 := pick_bd (IntKind.wrap .i64 (Int.tdiv (l.getD i 0) 12)) (m := 3) (by decide)
  have b3 := pick_bd (l.getD i 0) (m := 999) (by decide)
  have p1 := Pick_eq k (l.getD i 0) (m := 12) (by decide) (by decide)
  have p2 := Pick_eq k (IntKind.wrap .i64 (Int.tdiv (l.getD i 0) 12)) (m := 3) (by decide) (by decide)
  have p3 := Pick_eq k (l.getD i 0) (m := 999) (by decide) (by decide)
  generalize pick (l.getD i 0) 12 = t1 at p1 b1
  generalize pick (IntKind.wrap .i64 (Int.tdiv (l.getD i 0) 12)) 3 = t2 at p2 b2
  generalize pick (l.getD i 0) 999 = t3 at p3 b3
  have hq : placed ⟨t1, t2⟩ = true := decide_eq_true ⟨b1, b2⟩
  have hg : (placed ⟨t1, t2⟩ && goodR (1 + t3) 2) = true := by
    rw [hq]
    unfold goodR
    rw [decide_eq_true (show 0 < 1 + t3 by omega), decide_eq_true (show 1 + t3 < 1000000 * 10 ^ 2 by omega)]
    rfl
  have hs := h.small
  have hix : idx ⟨t1, t2⟩ = t1.toNat * 3 + t2.toNat := rfl
  have hlt : t1.toNat * 3 + t2.toNat < 36 := idx_lt hq
  have hmk := mput_keys keq_iff (⟨t1, t2⟩ : Srate_Key) (DV (1 + t3) 2) T
  have hsm : (mget (keq_Srate_Key ⟨t1, t2⟩) T).isSome = had.getD (t1.toNat * 3 + t2.toNat) false := by
    rw [Bool.eq_iff_iff, mget_some keq_iff, ← hix]
    exact (h.on _ hq).symm
  have hm := h.more hq
  rw [hsm] at hmk
  rw [hix] at hm
  have hw := wrapi (show -9223372036854775808 ≤ (i : Int) + 1 ∧ (i : Int) + 1 < 9223372036854775808 by omega)
  have hw2 := wrapi (show -9223372036854775808 ≤ ((T.map (·.1)).length : Int) + 1 ∧ ((T.map (·.1)).length : Int) + 1 < 9223372036854775808 by omega)
  have hp : pack 36 false had = had := pack_eq false h.len
  refine ⟨mput (keq_Srate_Key ⟨t1, t2⟩) ⟨t1, t2⟩ (DV (1 + t3) 2) T, had.set (t1.toNat * 3 + t2.toNat) true, ?_, by rw [hmk]; exact hm⟩
  rw [hmk]
  unfold pyxlaw16_RateKeys.l7.once
  dsimp only
  rw [ct (show (i : Int) < (l.length : Int) by omega), inb_t (by omega) (by omega), cond_true, Int.toNat_natCast]
  refine bof p1 (bof p2 (bof p3 ?_))
  rw [wrapi (by omega)]
  refine bof (ROf_DV hk (by omega) 2) ?_
  refine bof (Set_ok (by omega) T ⟨t1, t2⟩ (v := 1 + t3) (s := 2) (by unfold Sm; omega) (by decide) hg) ?_
  dsimp only
  rw [show ((0 : Int) != 0) = false from rfl, cond_false, inb_t b1.1 (by omega), inb_t b2.1 (by omega), cond_true, cond_true, blt_t hlt, cond_true, hp]
  cases hb : had.getD (t1.toNat * 3 + t2.toNat) false with
  | false =>
    refine bof (by rw [Bool.not_false, cond_true]) ?_
    dsimp only
    rw [inb_t b1.1 (by omega), inb_t b2.1 (by omega), cond_true, cond_true, blt_t hlt, cond_true, hp, putAll_set, hw, hw2, cond_false, List.length_append]
    rfl
  | true =>
    refine bof (by rw [Bool.not_true, cond_false]) ?_
    dsimp only
    rw [inb_t b1.1 (by omega), inb_t b2.1 (by omega), cond_true, cond_true, blt_t hlt, cond_true, hp, putAll_set, hw, cond_true]
    rfl
theorem srt_perm (ks : List Srate_Key) : (srt_Srate_Key ks).Perm ks := by
  unfold srt_Srate_Key
  have h := (List.mergeSort_perm (ks.map fun (x : Srate_Key) => (x.f_Period, x.f_Kind)) leII).map (fun p => (⟨p.1, p.2⟩ : Srate_Key))
  rw [List.map_map] at h
  rwa [show ((fun p : Int × Int => (⟨p.1, p.2⟩ : Srate_Key)) ∘ fun (x : Srate_Key) => (x.f_Period, x.f_Kind)) = id from rfl, List.map_id] at h
theorem srt_le (ks : List Srate_Key) : (srt_Srate_Key ks).Pairwise (fun a b => leII (a.f_Period, a.f_Kind) (b.f_Period, b.f_Kind) = true) := by
  unfold srt_Srate_Key
  rw [List.pairwise_map]
  exact List.pairwise_mergeSort leII_trans leII_total _
theorem see_step {k : Nat} (n : Int) {s : List Srate_Key} (hs : s.length ≤ 36) {had : List Bool} (hh : had.length = 36) (hpl : ∀ q ∈ s, placed q = true) (hon : ∀ q ∈ s, had.getD (idx q) false = true) (hle : s.Pairwise (fun a b => leII (a.f_Period, a.f_Kind) (b.f_Period, b.f_Kind) = true)) (hnd : s.Nodup)
    {i : Nat} (hi : i < s.length) : pyxlaw16_RateKeys.l18.once k (n, s, s, (s.length : Int), (i : Int), had) = some (.inl (n, s, s, (s.length : Int), ((i + 1 : Nat) : Int), had)) := by
  have hgd : s.getD i Srate_Key.zero = s[i] := by rw [List.getD_eq_getElem?_getD, List.getElem?_eq_getElem hi]; rfl
  have hm : s.getD i Srate_Key.zero ∈ s := by rw [hgd]; exact List.getElem_mem hi
  have hp := hpl _ hm
  have ho := hon _ hm
  have bd := placed_bd hp
  have hlt := idx_lt hp
  have hpk : pack 36 false had = had := pack_eq false hh
  have hw := wrapi (show -9223372036854775808 ≤ (i : Int) + 1 ∧ (i : Int) + 1 < 9223372036854775808 by omega)
  unfold idx at hlt ho
  unfold pyxlaw16_RateKeys.l18.once
  dsimp only
  rw [ct (show (i : Int) < (s.length : Int) by omega), inb_t (by omega) (by omega), cond_true, Int.toNat_natCast, hpk]
  refine bof (v := (n, s, s, (s.length : Int), (i : Int), false, had)) ?_ ?_
  · rw [cf (by omega), cf (by omega), cf (by omega), cf (by omega), inb_t bd.1.1 (by omega), inb_t bd.2.1 (by omega), cond_true, cond_true, blt_t hlt, cond_true, ho, Bool.not_true, cond_false]
    by_cases h0 : (i : Int) > 0
    · obtain ⟨j, rfl⟩ : ∃ j, i = j + 1 := ⟨i - 1, by omega⟩
      rw [ct h0, wrapi (show -9223372036854775808 ≤ ((j + 1 : Nat) : Int) - 1 ∧ ((j + 1 : Nat) : Int) - 1 < 9223372036854775808 by omega), show ((j + 1 : Nat) : Int) - 1 = (j : Int) by omega, inb_t (by omega) (by omega), cond_true, cond_true, Int.toNat_natCast]
      have hgj : s.getD j Srate_Key.zero = s[j] := by rw [List.getD_eq_getElem?_getD, List.getElem?_eq_getElem (by omega)]; rfl
      have bj := placed_bd (hpl _ (show s.getD j Srate_Key.zero ∈ s by rw [hgj]; exact List.getElem_mem _))
      have hl := List.pairwise_iff_getElem.1 hle j (j + 1) (by omega) hi (by omega)
      have hne := List.pairwise_iff_getElem.1 hnd j (j + 1) (by omega) hi (by omega)
      rw [← hgj, ← hgd] at hl hne
      generalize s.getD j Srate_Key.zero = a at bj hl hne ⊢
      generalize s.getD (j + 1) Srate_Key.zero = b at bd hl hne ⊢
      obtain ⟨a1, a2⟩ := a
      obtain ⟨c1, c2⟩ := b
      unfold leII at hl
      simp only [ne_eq, Srate_Key.mk.injEq] at hne
      simp only [Bool.not_eq_true', decide_eq_false_iff_not] at hl
      dsimp only at bd bj hl ⊢
      rw [wrapi (n := 3 * a1) (by omega), wrapi (n := 3 * c1) (by omega), wrapi (n := 3 * a1 + a2) (by omega), wrapi (n := 3 * c1 + c2) (by omega), decide_eq_false (by omega)]
    · rw [cf h0]
  · dsimp only
    rw [cond_false, hw, hpk]
    rfl
theorem RateKeys (l : List Int) (w0 : l.length ≤ 9223372036854775807 ∧ l.length * 8 ≤ 140737488351232 ∧ ∀ z ∈ l, (Lit.int .i64 z).wf = true) : ∃ k, pyxlaw16_RateKeys.f k l = some true := by
  refine ⟨l.length + 1000, ?_⟩
  obtain ⟨k, hk⟩ : ∃ k, l.length + 1000 = k := ⟨_, rfl⟩
  rw [hk]
  unfold pyxlaw16_RateKeys.f
  refine bof (v := ⟨[]⟩) rfl ?_
  refine bof (v := (l, false, [])) (bof (known_eq (by omega)) rfl) ?_
  dsimp only
  rw [cond_false]
  have st := iter_rule (once := pyxlaw16_RateKeys.l7.once k)
    (fun x => ∃ (i : Nat) (T : List (Srate_Key × Sapi_Dec)) (had : List Bool), x = (((T.map (·.1)).length : Int), l, (l.length : Int), (i : Int), T, had) ∧ i ≤ l.length ∧ Grid (T.map (·.1)) had)
    (fun x => l.length - x.2.2.2.1.toNat)
    (fun y => ∃ (T : List (Srate_Key × Sapi_Dec)) (had : List Bool), y = .inl (((T.map (·.1)).length : Int), T, had) ∧ Grid (T.map (·.1)) had)
    (by
      rintro _ ⟨i, T, had, rfl, hi, hG⟩
      by_cases h : i < l.length
      · obtain ⟨T', had', h1, h2⟩ := set_step (k := k) (by omega) w0.1 h T had hG
        exact .inl ⟨_, h1, ⟨i + 1, T', had', rfl, by omega, h2⟩, by dsimp only; omega⟩
      · refine .inr ⟨_, ?_, T, had, rfl, hG⟩
        unfold pyxlaw16_RateKeys.l7.once
        dsimp only
        rw [cf (show ¬ (i : Int) < (l.length : Int) by omega), pack_eq false hG.len])
  obtain ⟨y, hy, T, had, rfl, hG⟩ := st k _ ⟨0, [], List.replicate 36 false, rfl, Nat.zero_le _, grid_nil⟩ (by dsimp only; omega)
  refine bof hy ?_
  dsimp only
  have hsm := hG.small
  refine bof (Keys_eq k (T := T) (by have : (T.map (·.1)).length = T.length := List.length_map ..; omega)) ?_
  dsimp only
  have hp := srt_perm (T.map (·.1))
  have hpl : ∀ q ∈ srt_Srate_Key (T.map (·.1)), placed q = true := fun q hq => hG.pl q (hp.mem_iff.1 hq)
  have hon : ∀ q ∈ srt_Srate_Key (T.map (·.1)), had.getD (idx q) false = true := fun q hq => (hG.on q (hpl q hq)).2 (hp.mem_iff.1 hq)
  have hnd : (srt_Srate_Key (T.map (·.1))).Nodup := hp.nodup_iff.2 hG.nd
  have hle := srt_le (T.map (·.1))
  have hlen := hp.length_eq
  rw [show (T.map fun p => p.1) = T.map (·.1) from rfl]
  generalize srt_Srate_Key (T.map (·.1)) = s at hpl hon hnd hle hlen ⊢
  rw [pack_eq false hG.len]
  have st2 := iter_rule (once := pyxlaw16_RateKeys.l18.once k)
    (fun x => ∃ (i : Nat), x = (((T.map (·.1)).length : Int), s, s, (s.length : Int), (i : Int), had) ∧ i ≤ s.length)
    (fun x => s.length - x.2.2.2.2.1.toNat)
    (fun y => y = .inl (((T.map (·.1)).length : Int), s))
    (by
      rintro _ ⟨i, rfl, hi⟩
      by_cases h : i < s.length
      · exact .inl ⟨_, see_step _ (by omega) hG.len hpl hon hle hnd h, ⟨i + 1, rfl, by omega⟩, by dsimp only; omega⟩
      · refine .inr ⟨_, ?_, rfl⟩
        unfold pyxlaw16_RateKeys.l18.once
        dsimp only
        rw [cf (show ¬ (i : Int) < (s.length : Int) by omega)])
  obtain ⟨y, hy2, rfl⟩ := st2 k _ ⟨0, rfl, Nat.zero_le _⟩ (by dsimp only; omega)
  refine bof hy2 ?_
  dsimp only
  rw [hlen]
  simp
end Go.Proofs.Ytlaogfkgkpgofaa.Pure
