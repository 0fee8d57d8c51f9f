/- Plain laws: Tg, Ti, Tj, Dq, PureTrialCloses. No conditions but size. -/
import Derived.Test.YtbchcjlllddlpaaGreatPMA
/- Keys and sums of a trial. No conditions but size. -/
namespace Go.Proofs.YtbchcjlllddlpaaGreat.Pure
set_option linter.unusedVariables false
set_option linter.unusedSimpArgs false
open Go Go.Ev Go.Lm Go.Pu Go.Dg
theorem srt_id (l : List KZ) : Zfm l = isrt l := by
  unfold Zfm
  rw [show l.map (fun (x : Int × Int) => (x.1, x.2)) = l from List.map_id l]
  exact List.map_id _
theorem lt_le {a b : KZ} (h : ltZ a b = true) : leII a b = true := by
  rw [ltZ_iff] at h
  unfold leII
  simp
  omega
theorem MZ.keys {s : Nat} {M : List (KZ × Zg)} {z : List (KZ × Int)} (h : MZ s M z) : Zfm (M.map fun p => p.1) = z.map (·.1) := by
  rw [srt_id]
  refine perm_sorted_eq leII_anti ((isrt_perm _).trans ?_) (isrt_sorted _) ?_
  · have := h.perm.map (·.1)
    rw [mkz_keys] at this
    exact this
  · rw [List.pairwise_map]
    exact h.ris.imp fun h => lt_le h
theorem Keys2_eq {k s : Nat} {M : List (KZ × Zg)} {z : List (KZ × Int)} (h : MZ s M z) (hl : z.length ≤ 1000) : Zds.f k M = some (z.map (·.1), M) := by
  unfold Zds.f
  rw [Zfi (by rw [List.length_map, h.len]; omega), cond_true, h.keys]
  refine bof (v := z.map (·.1)) ?_ rfl
  unfold Zar.f
  have : inS 0 ((z.map (·.1)).length : Int) (z.map (·.1)).length = true := by unfold inS; simp
  rw [decide_eq_true rfl, this, Bool.true_and, cond_true, Int.toNat_natCast, List.take_length]
theorem getZ_at : ∀ {z : List (KZ × Int)}, Ris z → ∀ p ∈ z, getZ p.1 z = some p.2
  | [], _, p, hp => (List.not_mem_nil hp).elim
  | x :: r, h, p, hp => by
    have h' := List.pairwise_cons.1 h
    unfold getZ
    rcases List.mem_cons.1 hp with rfl | hp
    · rw [if_pos rfl]
    · rw [if_neg (ltZ_irr (h'.1 p hp)), getZ_at h'.2 p hp]
/-- The sum of an account, from what there is. -/
def sumZ (acct : Int) (s : Nat) : List (KZ × Int) → Int × Nat → Option (Int × Nat)
  | [], q => some q
  | x :: r, q => if x.1.1 = acct then (if Sm (q.1 * 10 ^ (max q.2 s - q.2) + x.2 * 10 ^ (max q.2 s - s)) then sumZ acct s r (q.1 * 10 ^ (max q.2 s - q.2) + x.2 * 10 ^ (max q.2 s - s), max q.2 s) else none) else sumZ acct s r q
theorem getD_memZ {z : List (KZ × Int)} {i : Nat} (hi : i < z.length) : z.getD i ((0, 0), 0) ∈ z := by
  rw [List.getD_eq_getElem?_getD, List.getElem?_eq_getElem hi]
  exact List.getElem_mem hi
theorem sum_in {k : Nat} (hk : 1002 < k) {s : Nat} (hs : s ≤ 4) {M : List (KZ × Zg)} {z : List (KZ × Int)} (h : MZ s M z) (hl : z.length ≤ 1000) (acct : Int) (d : Zg) : ∀ (m i : Nat) (q : Int × Nat), Sm q.1 → q.2 ≤ 9 → i ≤ z.length → z.length - i < m →
    iter (Zbt.l3.once k) m (acct, z.map (·.1), (z.length : Int), (i : Int), M, d.f_Neg, d.f_C.1, d.f_C.2, d.Zn, (DV q.1 q.2).f_Neg, (DV q.1 q.2).f_C.1, (DV q.1 q.2).f_C.2, (DV q.1 q.2).Zn) = some (match sumZ acct s (z.drop i) q with
      | some r => .inl (d.f_Neg, d.f_C.1, d.f_C.2, d.Zn, (DV r.1 r.2).f_Neg, (DV r.1 r.2).f_C.1, (DV r.1 r.2).f_C.2, (DV r.1 r.2).Zn, M)
      | none => .inr (⟨false, (0, 0), 0⟩, 3, M)) := by
  intro m
  induction m with
  | zero => intro i q _ _ _ h; omega
  | succ m ih =>
    intro i q hq hq2 hi hm
    by_cases hc : i < z.length
    · have hx := getD_memZ hc
      have hwr := wrapi (show -9223372036854775808 ≤ (i : Int) + 1 ∧ (i : Int) + 1 < 9223372036854775808 by omega)
      have hgd := getD_map (fun p : KZ × Int => p.1) ((0, 0), 0) (0, 0) hc
      have hg := h.get (z.getD i ((0, 0), 0)).1
      rw [getZ_at h.ris _ hx] at hg
      have hsx := h.sm _ hx
      have st : Zbt.l3.once k (acct, z.map (·.1), (z.length : Int), (i : Int), M, d.f_Neg, d.f_C.1, d.f_C.2, d.Zn, (DV q.1 q.2).f_Neg, (DV q.1 q.2).f_C.1, (DV q.1 q.2).f_C.2, (DV q.1 q.2).Zn) = some (if (z.getD i ((0, 0), 0)).1.1 = acct then (if Sm (q.1 * 10 ^ (max q.2 s - q.2) + (z.getD i ((0, 0), 0)).2 * 10 ^ (max q.2 s - s)) then
            .inl (acct, z.map (·.1), (z.length : Int), ((i + 1 : Nat) : Int), M, d.f_Neg, d.f_C.1, d.f_C.2, d.Zn, (DV (q.1 * 10 ^ (max q.2 s - q.2) + (z.getD i ((0, 0), 0)).2 * 10 ^ (max q.2 s - s)) (max q.2 s)).f_Neg, (DV (q.1 * 10 ^ (max q.2 s - q.2) + (z.getD i ((0, 0), 0)).2 * 10 ^ (max q.2 s - s)) (max q.2 s)).f_C.1, (DV (q.1 * 10 ^ (max q.2 s - q.2) + (z.getD i ((0, 0), 0)).2 * 10 ^ (max q.2 s - s)) (max q.2 s)).f_C.2, (DV (q.1 * 10 ^ (max q.2 s - q.2) + (z.getD i ((0, 0), 0)).2 * 10 ^ (max q.2 s - s)) (max q.2 s)).Zn)
            else .inr (.inr (⟨false, (0, 0), 0⟩, 3, M)))
          else .inl (acct, z.map (·.1), (z.length : Int), ((i + 1 : Nat) : Int), M, d.f_Neg, d.f_C.1, d.f_C.2, d.Zn, (DV q.1 q.2).f_Neg, (DV q.1 q.2).f_C.1, (DV q.1 q.2).f_C.2, (DV q.1 q.2).Zn)) := by
        unfold Zbt.l3.once
        dsimp only
        rw [ct (show (i : Int) < (z.length : Int) by omega), inb_t (by omega) (by rw [List.length_map]; omega), cond_true, Int.toNat_natCast]
        simp only [hgd, hwr]
        generalize z.getD i ((0, 0), 0) = x at hg hsx ⊢
        have hg' : mget (Zee (x.1.1, x.1.2)) M = some (DV x.2 s) := hg
        by_cases e : x.1.1 = acct
        · rw [show (x.1.1 != acct) = false by simp [e], cond_false, if_pos e, hg', Option.bind_some, Option.bind_some]
          refine bof (v := mkD (q.1 * 10 ^ (max q.2 s - q.2) + x.2 * 10 ^ (max q.2 s - s)) (max q.2 s)) (Add_DV (k := k) (by omega) hq hsx hq2 (by omega)) ?_
          by_cases hS : Sm (q.1 * 10 ^ (max q.2 s - q.2) + x.2 * 10 ^ (max q.2 s - s))
          · have hm : mkD (q.1 * 10 ^ (max q.2 s - q.2) + x.2 * 10 ^ (max q.2 s - s)) (max q.2 s) = (DV (q.1 * 10 ^ (max q.2 s - q.2) + x.2 * 10 ^ (max q.2 s - s)) (max q.2 s), 0) := if_pos hS
            rw [hm, if_pos hS]
            rfl
          · have hm : mkD (q.1 * 10 ^ (max q.2 s - q.2) + x.2 * 10 ^ (max q.2 s - s)) (max q.2 s) = (nil0, 3) := if_neg hS
            rw [hm, if_neg hS]
            rfl
        · rw [show (x.1.1 != acct) = true by simp [e], cond_true, if_neg e]
          rfl
      rw [Zfj ((0, 0), 0) hc]
      unfold sumZ
      generalize z.getD i ((0, 0), 0) = x at st ⊢
      by_cases e : x.1.1 = acct
      · rw [if_pos e] at st ⊢
        by_cases hS : Sm (q.1 * 10 ^ (max q.2 s - q.2) + x.2 * 10 ^ (max q.2 s - s))
        · rw [if_pos hS] at st ⊢
          rw [Zeg st]
          exact ih (i + 1) (_, max q.2 s) hS (by dsimp only; omega) (by omega) (by omega)
        · rw [if_neg hS] at st ⊢
          exact Zdh st
      · rw [if_neg e] at st ⊢
        rw [Zeg st]
        exact ih (i + 1) q hq hq2 (by omega) (by omega)
    · rw [List.drop_eq_nil_of_le (by omega)]
      refine Zdh ?_
      unfold Zbt.l3.once
      dsimp only
      rw [cf (by omega)]
      rfl
theorem Sum_eq {k : Nat} (hk : 1002 < k) {s : Nat} (hs : s ≤ 4) {M : List (KZ × Zg)} {z : List (KZ × Int)} (h : MZ s M z) (hl : z.length ≤ 1000) (acct : Int) (to : Int) : Zbt.f k M acct to = some (match sumZ acct s z (0, cl to) with
    | some r => (DV r.1 r.2, 0, M)
    | none => (⟨false, (0, 0), 0⟩, 3, M)) := by
  have it := sum_in hk hs h hl acct ⟨false, (0, 0), 0⟩ k 0 (0, cl to) Sm0 (cl_le to) (Nat.zero_le _) (by omega)
  rw [List.drop_zero] at it
  unfold Zbt.f
  refine bof (Of_DV k (n := 0) (by omega) to) (bof (Keys2_eq h hl) ?_)
  dsimp only
  rw [List.length_map]
  refine bof it ?_
  cases sumZ acct s z (0, cl to) <;> rfl
theorem keqD_refl (d : Zg) : keq_Sapi_Dec d d = true := by
  unfold keq_Sapi_Dec
  simp
end Go.Proofs.YtbchcjlllddlpaaGreat.Pure
/- What lines put under keys, in plain numbers of a middle size. No conditions but size. -/
namespace Go.Proofs.YtbchcjlllddlpaaGreat.Pure
set_option linter.unusedVariables false
set_option linter.unusedSimpArgs false
open Go Go.Ev Go.Lm Go.Pu Go.Dg
/-- What stands under keys of a kind. -/
def sumP (P : KZ → Bool) : List (KZ × Int) → Int
  | [] => 0
  | x :: r => (if P x.1 = true then x.2 else 0) + sumP P r
/-- At most n times a hundred million, each. -/
structure BZ (n : Nat) (z : List (KZ × Int)) : Prop where
  h : ∀ q ∈ z, q.2.natAbs ≤ n * 100000000
theorem Sm_of {v : Int} {n : Nat} (hn : n ≤ 100000) (h : v.natAbs ≤ n * 100000000) : Sm v := by
  unfold Sm
  have : n * 100000000 ≤ 100000 * 100000000 := Nat.mul_le_mul_right _ hn
  omega
theorem putZ_ok {k : KZ} {v : Int} (hv : v.natAbs ≤ 100000000) {n : Nat} (hn : n + 1 ≤ 100000) (z : List (KZ × Int)) (h : BZ n z) : ∃ z', putZ k v z = some z' ∧ BZ (n + 1) z' := by
  induction z with
  | nil =>
    refine ⟨[(k, v)], by unfold putZ; rfl, ⟨fun q hq => ?_⟩⟩
    rw [List.mem_singleton.1 hq]
    dsimp only
    omega
  | cons x r ih =>
    have hx := h.h x List.mem_cons_self
    have up : ∀ q ∈ x :: r, q.2.natAbs ≤ (n + 1) * 100000000 := fun q hq => Nat.le_trans (h.h q hq) (Nat.mul_le_mul_right _ (Nat.le_succ n))
    unfold putZ
    by_cases e : x.1 = k
    · have hS : (x.2 + v).natAbs ≤ (n + 1) * 100000000 := by omega
      rw [if_pos e, if_pos (Sm_of hn hS)]
      refine ⟨_, rfl, ⟨fun q hq => ?_⟩⟩
      rcases List.mem_cons.1 hq with rfl | hq
      · exact hS
      · exact up q (List.mem_cons_of_mem _ hq)
    · rw [if_neg e]
      by_cases hl : ltZ k x.1 = true
      · rw [if_pos hl]
        refine ⟨_, rfl, ⟨fun q hq => ?_⟩⟩
        rcases List.mem_cons.1 hq with rfl | hq
        · dsimp only
          omega
        · exact up q hq
      · rw [if_neg hl]
        obtain ⟨z', h1, h2⟩ := ih ⟨fun q hq => h.h q (List.mem_cons_of_mem _ hq)⟩
        rw [h1]
        refine ⟨_, rfl, ⟨fun q hq => ?_⟩⟩
        rcases List.mem_cons.1 hq with rfl | hq
        · exact up _ List.mem_cons_self
        · exact h2.h q hq
theorem putZ_sumP {P : KZ → Bool} {k : KZ} {v : Int} : ∀ {z z' : List (KZ × Int)}, putZ k v z = some z' → sumP P z' = sumP P z + (if P k = true then v else 0)
  | [], z', h => by
    cases h
    show (if P k = true then v else 0) + 0 = 0 + _
    omega
  | x :: r, z', h => by
    unfold putZ at h
    by_cases e : x.1 = k
    · rw [if_pos e] at h
      split at h
      · cases h
        unfold sumP
        dsimp only
        rw [e]
        split <;> omega
      · cases h
    · rw [if_neg e] at h
      by_cases hl : ltZ k x.1 = true
      · rw [if_pos hl] at h
        cases h
        show (if P k = true then v else 0) + sumP P (x :: r) = _
        omega
      · rw [if_neg hl] at h
        obtain ⟨z1, h1, h2⟩ := Option.map_eq_some_iff.1 h
        subst h2
        have := putZ_sumP (P := P) h1
        unfold sumP
        omega
/-- What lines, what entries put under keys of a kind. -/
def totL (P : KZ → Bool) (o : Bool) : List Zb → Int
  | [] => 0
  | x :: r => (if P (kzL o x) = true then val x.Zo else 0) + totL P o r
def totE (P : KZ → Bool) (p : Int) (t : Zd) : List Zc → Int
  | [] => 0
  | x :: r => (if x.Zdf > p then 0 else totL P (opn t x.Zdf) x.Zdc) + totE P p t r
theorem linesZ_sumP {P : KZ → Bool} {o : Bool} : ∀ {ls : List Zb} {z z' : List (KZ × Int)}, linesZ o ls z = some z' → sumP P z' = sumP P z + totL P o ls
  | [], z, z', h => by cases h; exact (Int.add_zero _).symm
  | x :: r, z, z', h => by
    unfold linesZ at h
    obtain ⟨z1, h1, h2⟩ := Option.bind_eq_some_iff.1 h
    have e1 := putZ_sumP (P := P) h1
    have e2 := linesZ_sumP (P := P) h2
    unfold totL
    omega
theorem entZ_sumP {P : KZ → Bool} {p : Int} {t : Zd} : ∀ {es : List Zc} {z z' : List (KZ × Int)}, entZ p t es z = some z' → sumP P z' = sumP P z + totE P p t es
  | [], z, z', h => by cases h; exact (Int.add_zero _).symm
  | x :: r, z, z', h => by
    unfold entZ at h
    unfold totE
    split at h
    · rename_i hp
      have := entZ_sumP (P := P) h
      rw [if_pos hp]
      omega
    · rename_i hp
      obtain ⟨z1, h1, h2⟩ := Option.bind_eq_some_iff.1 h
      have e1 := linesZ_sumP (P := P) h1
      have e2 := entZ_sumP (P := P) h2
      rw [if_neg hp]
      omega
/-- Of a middle size. -/
def LB (x : Zb) : Prop := (val x.Zo).natAbs ≤ 100000000
theorem linesZ_ok {o : Bool} : ∀ {ls : List Zb} {n : Nat} {z : List (KZ × Int)}, (∀ x ∈ ls, LB x) → n + ls.length ≤ 100000 → BZ n z → ∃ z', linesZ o ls z = some z' ∧ BZ (n + ls.length) z'
  | [], n, z, _, _, h => ⟨z, rfl, h⟩
  | x :: r, n, z, hl, hn, h => by
    rw [List.length_cons] at hn ⊢
    obtain ⟨z1, h1, h2⟩ := putZ_ok (k := kzL o x) (hl x List.mem_cons_self) (n := n) (by omega) z h
    obtain ⟨z2, h3, h4⟩ := linesZ_ok (o := o) (fun y hy => hl y (List.mem_cons_of_mem _ hy)) (by omega) h2
    refine ⟨z2, ?_, by rw [show n + (r.length + 1) = n + 1 + r.length by omega]; exact h4⟩
    unfold linesZ
    rw [h1, Option.bind_some, h3]
theorem BZ.up {n m : Nat} {z : List (KZ × Int)} (h : BZ n z) (hn : n ≤ m) : BZ m z := ⟨fun q hq => Nat.le_trans (h.h q hq) (Nat.mul_le_mul_right _ hn)⟩
theorem entZ_ok {p : Int} {t : Zd} : ∀ {es : List Zc} {n : Nat} {z : List (KZ × Int)}, (∀ x ∈ es, x.Zdc.length ≤ 8 ∧ ∀ y ∈ x.Zdc, LB y) → n + 8 * es.length ≤ 100000 → BZ n z → ∃ z', entZ p t es z = some z' ∧ BZ (n + 8 * es.length) z'
  | [], n, z, _, _, h => ⟨z, rfl, h⟩
  | x :: r, n, z, hl, hn, h => by
    rw [List.length_cons] at hn ⊢
    have hx := hl x List.mem_cons_self
    unfold entZ
    split
    · obtain ⟨z2, h3, h4⟩ := entZ_ok (p := p) (t := t) (fun y hy => hl y (List.mem_cons_of_mem _ hy)) (by omega) h
      exact ⟨z2, h3, h4.up (by omega)⟩
    · obtain ⟨z1, h1, h2⟩ := linesZ_ok (o := opn t x.Zdf) hx.2 (n := n) (by omega) h
      obtain ⟨z2, h3, h4⟩ := entZ_ok (p := p) (t := t) (fun y hy => hl y (List.mem_cons_of_mem _ hy)) (n := n + x.Zdc.length) (by omega) h2
      refine ⟨z2, ?_, h4.up (by omega)⟩
      rw [h1, Option.bind_some, h3]
theorem entZ_opn {p : Int} {t t' : Zd} (h : ∀ i, opn t i = opn t' i) : ∀ (es : List Zc) (z : List (KZ × Int)), entZ p t es z = entZ p t' es z
  | [], z => rfl
  | x :: r, z => by
    unfold entZ
    rw [h]
    have : entZ p t r = entZ p t' r := funext fun z => entZ_opn h r z
    rw [this]
theorem sumP_some (P : KZ → Bool) : ∀ z : List (KZ × Int), sumP P (someZ z) = sumP P z
  | [] => rfl
  | x :: r => by
    have ih := sumP_some P r
    unfold someZ at ih ⊢
    by_cases h : x.2 = 0
    · rw [List.filter_cons_of_neg (by simp [h]), ih]
      show _ = (if P x.1 = true then x.2 else 0) + sumP P r
      rw [h]
      split <;> exact (Int.zero_add _).symm
    · rw [List.filter_cons_of_pos (by simpa using h)]
      unfold sumP
      rw [ih]
theorem BZ.some {n : Nat} {z : List (KZ × Int)} (h : BZ n z) : BZ n (someZ z) := ⟨fun q hq => h.h q (List.mem_filter.1 hq).1⟩
theorem sumP_none {P : KZ → Bool} : ∀ {z : List (KZ × Int)}, (∀ q ∈ z, P q.1 = false) → sumP P z = 0
  | [], _ => rfl
  | x :: r, h => by
    unfold sumP
    rw [if_neg (by rw [h x List.mem_cons_self]; decide), sumP_none fun q hq => h q (List.mem_cons_of_mem _ hq)]
    rfl
/-- Two maps that are one list are the same. -/
theorem mapEq_of {s : Nat} {M N : List (KZ × Zg)} {z : List (KZ × Int)} (h : MZ s M z) (h' : MZ s N z) : mapEq Zee keq_Sapi_Dec M N = true := by
  unfold mapEq
  rw [h.len, h'.len, beq_self_eq_true, Bool.true_and, List.all_eq_true]
  intro p hp
  have : p ∈ N := h'.perm.mem_iff.2 (h.perm.mem_iff.1 hp)
  rw [mget_nd h'.nd (show (p.1, p.2) ∈ N from this)]
  exact keqD_refl p.2
/-- Is there one of the account? -/
def hasA (acct : Int) (z : List (KZ × Int)) : Bool := z.any fun q => q.1.1 == acct
theorem pow_le9 {n : Nat} (h : n ≤ 9) : 0 < (10 : Int) ^ n ∧ (10 : Int) ^ n ≤ 1000000000 := by
  have : ∀ m : Nat, m < 10 → 0 < (10 : Int) ^ m ∧ (10 : Int) ^ m ≤ 1000000000 := by decide
  exact this n (by omega)
theorem mulA_bd {x A : Int} {n : Nat} (hx : x.natAbs ≤ n * 100000000) (hA : 0 < A ∧ A ≤ 1000000000) : (x * A).natAbs ≤ n * 100000000000000000 := by
  rw [Int.natAbs_mul]
  have h1 : A.natAbs ≤ 1000000000 := by omega
  have h2 := Nat.mul_le_mul hx h1
  rw [Nat.mul_assoc] at h2
  exact h2
theorem sumZ_at {acct : Int} {s m n : Nat} (hs : s ≤ m) (hm : m ≤ 9) (hn : n ≤ 1000) : ∀ {z : List (KZ × Int)} {v : Int} {N : Nat}, BZ n z → v.natAbs ≤ N * 100000000000000000 → N + n * z.length ≤ 1000000 → sumZ acct s z (v, m) = some (v + sumP (fun k => k.1 == acct) z * 10 ^ (m - s), m)
  | [], v, N, _, _, _ => by
    unfold sumZ sumP
    rw [Int.zero_mul, Int.add_zero]
  | x :: r, v, N, hz, hv, hN => by
    have hx := mulA_bd (hz.h x List.mem_cons_self) (pow_le9 (show m - s ≤ 9 by omega))
    have hr : BZ n r := ⟨fun q hq => hz.h q (List.mem_cons_of_mem _ hq)⟩
    rw [List.length_cons, Nat.mul_add] at hN
    have hmx : max m s = m := by omega
    unfold sumZ sumP
    dsimp only
    by_cases e : x.1.1 = acct
    · rw [if_pos e, if_pos (show (x.1.1 == acct) = true by simpa using e), hmx, Nat.sub_self, Int.pow_zero, Int.mul_one]
      rw [if_pos (by unfold Sm; omega), sumZ_at hs hm hn (N := N + n) hr (by omega) (by omega), Int.add_mul, Int.add_assoc]
    · rw [if_neg e, if_neg (show ¬ (x.1.1 == acct) = true by simpa using e), sumZ_at hs hm hn (N := N) hr hv (by omega), Int.zero_add]
theorem sumZ_from {acct : Int} {s c n : Nat} (hs : s ≤ 9) (hc : c ≤ 9) (hn : n ≤ 1000) : ∀ {z : List (KZ × Int)}, BZ n z → n * z.length ≤ 1000000 → sumZ acct s z (0, c) = some (if hasA acct z then (sumP (fun k => k.1 == acct) z * 10 ^ (max c s - s), max c s) else (0, c))
  | [], _, _ => rfl
  | x :: r, hz, hN => by
    have hr : BZ n r := ⟨fun q hq => hz.h q (List.mem_cons_of_mem _ hq)⟩
    rw [List.length_cons, Nat.mul_add] at hN
    unfold sumZ sumP hasA
    dsimp only
    rw [List.any_cons]
    by_cases e : x.1.1 = acct
    · have hx := mulA_bd (hz.h x List.mem_cons_self) (pow_le9 (show max c s - s ≤ 9 by omega))
      rw [if_pos e, show (x.1.1 == acct) = true by simpa using e, Bool.true_or, if_pos rfl, if_pos rfl, Int.zero_mul, Int.zero_add]
      rw [if_pos (by unfold Sm; omega), sumZ_at (by omega) (by omega) hn (N := n) hr (by omega) (by omega), Int.add_mul]
    · rw [if_neg e, show (x.1.1 == acct) = false by simpa using e, Bool.false_or, if_neg Bool.false_ne_true, sumZ_from hs hc hn hr (by omega), Int.zero_add]
      rfl
theorem hasA_no {acct : Int} {z : List (KZ × Int)} (h : hasA acct z = false) : sumP (fun k => k.1 == acct) z = 0 := sumP_none fun q hq => by
  unfold hasA at h
  rw [List.any_eq_false] at h
  simpa using h q hq
/-- The flows of a period. -/
def totF (p : Int) : List Zc → Int
  | [] => 0
  | x :: r => (if x.Zdf = p then totL (fun k => k.1 == 8) false (x.Zdc.filter fun y => kindZ y.Zdu == 4) else 0) + totF p r
theorem flL_ok (c : Bool) : ∀ {ls : List Zb} {n : Nat} {a : Int}, (∀ x ∈ ls, LB x) → n + ls.length ≤ 100000 → a.natAbs ≤ n * 100000000 → flL c ls a = some (a + if c then totL (fun k => k.1 == 8) false (ls.filter fun y => kindZ y.Zdu == 4) else 0) ∧ (a + if c then totL (fun k => k.1 == 8) false (ls.filter fun y => kindZ y.Zdu == 4) else 0).natAbs ≤ (n + ls.length) * 100000000
  | [], n, a, _, _, ha => by
    rw [show (if c then totL (fun k => k.1 == 8) false (([] : List Zb).filter fun y => kindZ y.Zdu == 4) else 0) = 0 by cases c <;> rfl, Int.add_zero]
    exact ⟨by unfold flL; rfl, ha⟩
  | x :: r, n, a, hl, hn, ha => by
    rw [List.length_cons] at hn ⊢
    have hx := hl x List.mem_cons_self
    unfold LB at hx
    have hr : ∀ y ∈ r, LB y := fun y hy => hl y (List.mem_cons_of_mem _ hy)
    unfold flL
    cases c with
    | false =>
      rw [if_neg (by simp)]
      obtain ⟨h1, h2⟩ := flL_ok false (n := n) (a := a) hr (by omega) ha
      exact ⟨h1, Nat.le_trans h2 (by omega)⟩
    | true =>
      by_cases h4 : kindZ x.Zdu = 4
      · have e : totL (fun k => k.1 == 8) false ((x :: r).filter fun y => kindZ y.Zdu == 4) = val x.Zo + totL (fun k => k.1 == 8) false (r.filter fun y => kindZ y.Zdu == 4) := by
          rw [List.filter_cons_of_pos (by simpa using h4)]
          have e1 : (kzL false x).1 = 8 := by unfold kzL; rw [if_pos ⟨h4, rfl⟩]
          show (if ((kzL false x).1 == 8) = true then val x.Zo else 0) + totL (fun k => k.1 == 8) false (r.filter fun y => kindZ y.Zdu == 4) = _
          rw [e1]
          rfl
        rw [if_pos ⟨rfl, h4⟩, if_pos rfl, e, if_pos (Sm_of (n := n + 1) (by omega) (by omega)), ← Int.add_assoc]
        have ih := flL_ok true (n := n + 1) (a := a + val x.Zo) hr (by omega) (by omega)
        rw [if_pos rfl] at ih
        exact ⟨ih.1, Nat.le_trans ih.2 (by omega)⟩
      · rw [if_neg (by simp [h4]), List.filter_cons_of_neg (by simpa using h4)]
        obtain ⟨h1, h2⟩ := flL_ok true (n := n) (a := a) hr (by omega) ha
        exact ⟨h1, Nat.le_trans h2 (by omega)⟩
theorem flZ_ok (p : Int) : ∀ {es : List Zc} {n : Nat} {a : Int}, (∀ x ∈ es, x.Zdc.length ≤ 8 ∧ ∀ y ∈ x.Zdc, LB y) → n + 8 * es.length ≤ 100000 → a.natAbs ≤ n * 100000000 → flZ p es a = some (a + totF p es) ∧ (a + totF p es).natAbs ≤ (n + 8 * es.length) * 100000000
  | [], n, a, _, _, ha => by
    unfold flZ totF
    rw [Int.add_zero]
    exact ⟨rfl, ha⟩
  | x :: r, n, a, hl, hn, ha => by
    rw [List.length_cons] at hn ⊢
    obtain ⟨x1, x2⟩ := hl x List.mem_cons_self
    obtain ⟨h1, h2⟩ := flL_ok (x.Zdf == p) x2 (n := n) (a := a) (by omega) ha
    obtain ⟨h3, h4⟩ := flZ_ok p (es := r) (n := n + x.Zdc.length) (fun y hy => hl y (List.mem_cons_of_mem _ hy)) (by omega) h2
    unfold flZ totF
    rw [h1, Option.bind_some]
    have e : (if (x.Zdf == p) = true then totL (fun k => k.1 == 8) false (x.Zdc.filter fun y => kindZ y.Zdu == 4) else 0) = (if x.Zdf = p then totL (fun k => k.1 == 8) false (x.Zdc.filter fun y => kindZ y.Zdu == 4) else 0) := by
      by_cases h : x.Zdf = p
      · rw [if_pos h, if_pos (by simpa using h)]
      · rw [if_neg h, if_neg (by simpa using h)]
    rw [e] at h3 h4
    rw [e, ← Int.add_assoc]
    exact ⟨h3, Nat.le_trans h4 (by omega)⟩
/-- A period that is closed: its flows are the ones of what is retained. -/
theorem tot_close8 : ∀ ls : List Zb, totL (fun k => k.1 == 8) false ls = totL (fun k => k.1 == 8) true ls + totL (fun k => k.1 == 8) false (ls.filter fun y => kindZ y.Zdu == 4)
  | [] => rfl
  | x :: r => by
    have ih := tot_close8 r
    by_cases h4 : kindZ x.Zdu = 4
    · rw [List.filter_cons_of_pos (by simpa using h4)]
      have e1 : (kzL false x).1 = 8 := by unfold kzL; rw [if_pos ⟨h4, rfl⟩]
      have e2 : (kzL true x).1 ≠ 8 := by
        unfold kzL
        rw [if_neg (by simp)]
        intro h
        dsimp only at h
        rw [h] at h4
        revert h4
        decide
      have t1 : ∀ o (l : List Zb), totL (fun k => k.1 == 8) o (x :: l) = (if ((kzL o x).1 == 8) = true then val x.Zo else 0) + totL (fun k => k.1 == 8) o l := fun _ _ => rfl
      rw [t1, t1, t1, if_pos (show ((kzL false x).1 == 8) = true by rw [e1]; rfl), if_neg (show ¬ ((kzL true x).1 == 8) = true by simpa using e2)]
      omega
    · rw [List.filter_cons_of_neg (by simpa using h4)]
      have e : kzL false x = kzL true x := by
        unfold kzL
        rw [if_neg (fun h => h4 h.1), if_neg (fun h => h4 h.1)]
      have t1 : ∀ o (l : List Zb), totL (fun k => k.1 == 8) o (x :: l) = (if ((kzL o x).1 == 8) = true then val x.Zo else 0) + totL (fun k => k.1 == 8) o l := fun _ _ => rfl
      rw [t1, t1, e]
      omega
theorem tot_closeA {acct : Int} (h0 : acct ≠ 8) (h : kindZ acct ≠ 4) : ∀ ls : List Zb, totL (fun k => k.1 == acct) false ls = totL (fun k => k.1 == acct) true ls
  | [] => rfl
  | x :: r => by
    have ih := tot_closeA h0 h r
    unfold totL
    by_cases h4 : kindZ x.Zdu = 4
    · have e1 : (kzL false x).1 = 8 := by unfold kzL; rw [if_pos ⟨h4, rfl⟩]
      have e2 : (kzL true x).1 ≠ acct := by
        unfold kzL
        rw [if_neg (by simp)]
        intro h'
        dsimp only at h'
        rw [h'] at h4
        exact h h4
      rw [if_neg (show ¬ ((kzL false x).1 == acct) = true by rw [e1]; simpa using fun h => h0 h.symm), if_neg (show ¬ ((kzL true x).1 == acct) = true by simpa using e2), ih]
    · have e : kzL false x = kzL true x := by
        unfold kzL
        rw [if_neg (fun h => h4 h.1), if_neg (fun h => h4 h.1)]
      rw [e, ih]
theorem totE_close8 {p : Int} {t t' : Zd} (ho : opn t p = true) (hc : opn t' p = false) (h : ∀ i, i ≠ p → opn t' i = opn t i) : ∀ es : List Zc, totE (fun k => k.1 == 8) p t' es = totE (fun k => k.1 == 8) p t es + totF p es
  | [] => rfl
  | x :: r => by
    have ih := totE_close8 ho hc h r
    unfold totE totF
    by_cases e : x.Zdf = p
    · rw [e, ho, hc, if_neg (by omega), if_neg (by omega), if_pos rfl, tot_close8, ih]
      omega
    · rw [h _ e, if_neg e, ih]
      split <;> omega
theorem totE_closeA {acct p : Int} (h0 : acct ≠ 8) (hk : kindZ acct ≠ 4) {t t' : Zd} (ho : opn t p = true) (hc : opn t' p = false) (h : ∀ i, i ≠ p → opn t' i = opn t i) : ∀ es : List Zc, totE (fun k => k.1 == acct) p t' es = totE (fun k => k.1 == acct) p t es
  | [] => rfl
  | x :: r => by
    have ih := totE_closeA h0 hk ho hc h r
    unfold totE
    by_cases e : x.Zdf = p
    · rw [e, ho, hc, if_neg (by omega), if_neg (by omega), tot_closeA h0 hk, ih]
    · rw [h _ e, ih]
end Go.Proofs.YtbchcjlllddlpaaGreat.Pure
/- The books' amounts are of a middle size; their closed periods are the first ones. No conditions but size. -/
namespace Go.Proofs.YtbchcjlllddlpaaGreat.Pure
set_option linter.unusedVariables false
set_option linter.unusedSimpArgs false
open Go Go.Ev Go.Lm Go.Pu Go.Dg
theorem linesOf_LB {k : Nat} (hk : 1002 < k) {s : Nat} (hs : s ≤ 4) {L : List Int} (hL : L.length ≤ 9223372036854775807) : ∀ x ∈ linesOf k s L, LB x := by
  obtain ⟨y, hy, y1, y2, y3⟩ := HLines_ok2 (k := k) (by omega) L hL (by omega : s ≤ 9) (b := 0) (by decide) (e := 4) (by decide)
  have : linesOf k s L = y := by unfold linesOf; rw [hy]; rfl
  rw [this]
  intro x hx
  obtain ⟨v, v1, v2⟩ := y3 rfl x hx
  unfold LB
  rw [v1, val_DV]
  exact v2
def BInv (b : Ze) : Prop := ∀ x ∈ b.f_l, ∀ y ∈ x.Zdc, LB y
theorem BInv.add {b : Ze} (h : BInv b) {x : Zc} (hx : ∀ y ∈ x.Zdc, LB y) : BInv (addR b x).2.2 := by
  unfold addR
  split
  · split
    · exact h
    · intro y hy
      rcases List.mem_append.1 hy with hy | hy
      · exact h y hy
      · have : y = x := by simpa using hy
        rw [this]
        exact hx
  · exact h
theorem BInv.post {s : Nat} {b : Ze} (h : BInv b) (p : Int) {l : List Zb} (hl : ∀ y ∈ l, LB y) : BInv (postR s b p l).2.2 := by
  unfold postR
  split
  · exact h.add hl
  · exact h
theorem BInv.step {k : Nat} (hk : 1002 < k) {s : Nat} (hs : s ≤ 4) {b : Ze} (h : BInv b) {x : Zz} (hx : ActL x) : BInv (stepB k s b x) := by
  have turn : ∀ c, BInv (turnB b c).2 := fun c => by
    unfold turnB
    dsimp only
    cases c.2.2 == 0 <;> exact h
  unfold stepB
  cases pick x.Zey 8 == 0 with
  | true => exact turn _
  | false =>
    rw [cond_false]
    cases pick x.Zey 8 == 1 with
    | true =>
      rw [cond_true]
      unfold revR
      split
      · exact h
      · rename_i h0
        split
        · exact h
        · refine h.add fun y hy => ?_
          obtain ⟨z, hz, rfl⟩ := List.mem_map.1 hy
          have := h _ (Zfc Zc.zero (by omega)) z hz
          unfold LB at this ⊢
          show (val (DV (-(val z.Zo)) s)).natAbs ≤ _
          rw [val_DV, Int.natAbs_neg]
          exact this
    | false =>
      rw [cond_false]
      cases pick x.Zey 8 == 2 with
      | true => exact turn _
      | false => exact h.post _ (linesOf_LB hk hs hx)
theorem bkN_B {k : Nat} (hk : 1002 < k) {s : Nat} (hs : s ≤ 4) {l : List Zz} (hw : ∀ z ∈ l, ActL z) : BInv (bkN k s l) := by
  have : ∀ i, i ≤ l.length → BInv (bkR k s l i) := by
    intro i
    induction i with
    | zero => exact fun _ x hx => (List.not_mem_nil hx).elim
    | succ i ih => exact fun hi => (ih (by omega)).step hk hs (hw _ (getD_mem' (by omega)))
  exact this _ (Nat.min_le_left _ _)
theorem getD_setB {C : List Bool} {n : Nat} (h : n < C.length) (v : Bool) (i : Nat) : (C.set n v).getD i false = if i = n then v else C.getD i false := by
  rw [List.getD_eq_getElem?_getD, List.getD_eq_getElem?_getD, List.getElem?_set]
  by_cases e : i = n
  · rw [if_pos e, if_pos e.symm, if_pos h]; rfl
  · rw [if_neg e, if_neg (fun h => e h.symm)]
/-- The closed ones are the first c. -/
def ClC (c : Nat) (C : List Bool) : Prop := C.length = 12 ∧ ∀ i : Nat, i < 12 → C.getD i false = decide (i < c)
def ClN (b : Ze) : Prop := ∃ c : Nat, c ≤ 3 ∧ ClC c b.f_t.Zk
theorem ClC.clo {c : Nat} {C : List Bool} (h : ClC c C) {p : Int} (hp : 0 ≤ p ∧ p < 12) (hc : Pe.cOk C p = true) : p.toNat = c := by
  unfold Pe.cOk at hc
  simp only [Bool.and_eq_true, decide_eq_true_eq, Bool.not_eq_true', Bool.or_eq_true, decide_eq_false_iff_not] at hc
  obtain ⟨_, _, h1, h2⟩ := hc
  rw [h.2 _ (by omega), decide_eq_false_iff_not] at h1
  rcases h2 with h2 | h2
  · omega
  · rw [h.2 _ (by omega), decide_eq_true_eq] at h2
    omega
theorem ClC.reo {c : Nat} {C : List Bool} (h : ClC c C) {p : Int} (hp : 0 ≤ p ∧ p < 11) (hc : Pe.rOk C p = true) : p.toNat + 1 = c := by
  unfold Pe.rOk at hc
  simp only [Bool.and_eq_true, decide_eq_true_eq, Bool.not_eq_true', Bool.or_eq_true, decide_eq_false_iff_not] at hc
  obtain ⟨_, _, h1, h2⟩ := hc
  rw [h.2 _ (by omega), decide_eq_true_eq] at h1
  rcases h2 with h2 | h2
  · omega
  · rw [h.2 _ (by omega), decide_eq_false_iff_not] at h2
    omega
theorem ClC.up {c : Nat} {C : List Bool} (h : ClC c C) (hc : c < 12) : ClC (c + 1) (C.set c true) := by
  refine ⟨by rw [List.length_set]; exact h.1, fun i hi => ?_⟩
  rw [getD_setB (by rw [h.1]; exact hc), h.2 i hi]
  by_cases e : i = c
  · rw [if_pos e, decide_eq_true (by omega)]
  · rw [if_neg e]
    exact decide_eq_decide.2 ⟨fun h => by omega, fun h => by omega⟩
theorem ClC.down {c : Nat} {C : List Bool} (h : ClC (c + 1) C) (hc : c < 12) : ClC c (C.set c false) := by
  refine ⟨by rw [List.length_set]; exact h.1, fun i hi => ?_⟩
  rw [getD_setB (by rw [h.1]; exact hc), h.2 i hi]
  by_cases e : i = c
  · rw [if_pos e, decide_eq_false (by omega)]
  · rw [if_neg e]
    exact decide_eq_decide.2 ⟨fun h => by omega, fun h => by omega⟩
theorem ClN.step {k s : Nat} {b : Ze} (h : ClN b) (x : Zz) : ClN (stepB k s b x) := by
  obtain ⟨c, hc, hC⟩ := h
  have add : ∀ y, ClN (addR b y).2.2 := fun y => by
    unfold addR
    split
    · split
      · exact ⟨c, hc, hC⟩
      · exact ⟨c, hc, hC⟩
    · exact ⟨c, hc, hC⟩
  have bp := pick_bd x.f_B (m := 3) (by decide)
  unfold stepB
  cases pick x.Zey 8 == 0 with
  | true =>
    rw [cond_true]
    unfold turnB Pe.clo
    by_cases h0 : Pe.cOk b.f_t.Zk (pick x.f_B 3) = true
    · rw [if_pos h0]
      have e := hC.clo (by omega) h0
      refine ⟨c + 1, by omega, ?_⟩
      have := hC.up (by omega)
      rw [← e] at this ⊢
      exact this
    · rw [if_neg h0]
      exact ⟨c, hc, hC⟩
  | false =>
    rw [cond_false]
    cases pick x.Zey 8 == 1 with
    | true =>
      rw [cond_true]
      unfold revR
      split
      · exact ⟨c, hc, hC⟩
      · split
        · exact ⟨c, hc, hC⟩
        · exact add _
    | false =>
      rw [cond_false]
      cases pick x.Zey 8 == 2 with
      | true =>
        rw [cond_true]
        unfold turnB Pe.reo
        by_cases h0 : Pe.rOk b.f_t.Zk (pick x.f_B 3) = true
        · rw [if_pos h0]
          have e := hC.reo (by omega) h0
          refine ⟨(pick x.f_B 3).toNat, by omega, ?_⟩
          rw [← e] at hC
          exact hC.down (by omega)
        · rw [if_neg h0]
          exact ⟨c, hc, hC⟩
      | false =>
        rw [cond_false]
        unfold postR
        split
        · exact add _
        · exact ⟨c, hc, hC⟩
theorem bkN_C (k s : Nat) (l : List Zz) : ClN (bkN k s l) := by
  unfold bkN
  generalize min l.length 14 = n
  induction n with
  | zero =>
    refine ⟨0, Nat.zero_le _, rfl, ?_⟩
    show ∀ i : Nat, i < 12 → [false, false, false, false, false, false, false, false, false, false, false, false].getD i false = decide (i < 0)
    decide
  | succ n ih => exact ih.step _
theorem opn_eq {t : Zd} {c : Nat} (h : ClC c t.Zk) (i : Int) : opn t i = decide (0 ≤ i ∧ i < 12 ∧ (c : Int) ≤ i) := by
  unfold opn
  by_cases h1 : i ≥ 0
  · by_cases h2 : i < 12
    · rw [h.2 _ (by omega), decide_eq_true h1, decide_eq_true h2, Bool.true_and, Bool.true_and, ← decide_not]
      exact decide_eq_decide.2 ⟨fun h => by omega, fun h => by omega⟩
    · rw [decide_eq_false h2, Bool.false_and, Bool.and_false, decide_eq_false (by omega)]
  · rw [decide_eq_false h1, Bool.false_and, decide_eq_false (by omega)]
theorem cOk_at {c : Nat} {C : List Bool} (h : ClC c C) (hc : c < 12) : Pe.cOk C (c : Int) = true := by
  unfold Pe.cOk
  rw [Int.toNat_natCast, h.2 c hc, decide_eq_true (show (0 : Int) ≤ c by omega), decide_eq_true (show (c : Int) < 12 by omega), decide_eq_false (show ¬ c < c by omega), Bool.true_and, Bool.true_and, Bool.not_false, Bool.true_and]
  by_cases h0 : c = 0
  · rw [decide_eq_false (by omega)]; rfl
  · rw [h.2 _ (by omega), decide_eq_true (show ((c : Int) - 1).toNat < c by omega), Bool.or_true]
theorem rOk_at {c : Nat} {C : List Bool} (h : ClC (c + 1) C) (hc : c < 11) : Pe.rOk C (c : Int) = true := by
  unfold Pe.rOk
  rw [Int.toNat_natCast, h.2 c (by omega), h.2 _ (by omega), decide_eq_true (show (0 : Int) ≤ c by omega), decide_eq_true (show (c : Int) < 12 by omega), decide_eq_true (show c < c + 1 by omega), decide_eq_false (show ¬ ((c : Int) + 1).toNat < c + 1 by omega), Bool.not_false, Bool.or_true]
  rfl
theorem l12 : ∀ {C : List Bool}, C.length = 12 → [List.getD C 0 false, List.getD C 1 false, List.getD C 2 false, List.getD C 3 false, List.getD C 4 false, List.getD C 5 false, List.getD C 6 false, List.getD C 7 false, List.getD C 8 false, List.getD C 9 false, List.getD C 10 false, List.getD C 11 false] = C
  | [_, _, _, _, _, _, _, _, _, _, _, _], _ => rfl
theorem Periods_eq (k : Nat) {b : Ze} (h : T12 b.f_t) : Zav.f k b = some (b.f_t, b) := by
  unfold Zav.f
  simp only [pk h, pkB h]
/-- The trial of a book of middle sizes. -/
theorem trial_ok {k : Nat} (hk : 1002 < k) {s : Nat} (hs : s ≤ 4) {b : Ze} (h : TInv s b) (hB : BInv b) {p : Int} (hp : 0 ≤ p ∧ p < 12) :
    ∃ M z, Zbc.f k b p = some (M, 0, b) ∧ entZ p b.f_t b.f_l [] = some z ∧ MZ s M (someZ z) ∧ Ris z ∧ (someZ z).length ≤ 1000 ∧ BZ 320 (someZ z) := by
  obtain ⟨M, e, h1, h2⟩ := Trial_eq hk hs h p
  have hl := h.len
  obtain ⟨z, h3, h4⟩ := entZ_ok (p := p) (t := b.f_t) (es := b.f_l) (n := 0) (z := []) (fun x hx => ⟨(h.ls x hx).1, hB x hx⟩) (by omega) ⟨fun q hq => (List.not_mem_nil hq).elim⟩
  obtain ⟨g1, g2, g3⟩ := entZ_len h.ls List.Pairwise.nil (fun p hp => (List.not_mem_nil hp).elim) h3
  have hso : (someZ z).length ≤ z.length := List.length_filter_le _ _
  rw [if_neg (by omega), h3] at h2
  obtain ⟨rfl, h6⟩ := h2
  exact ⟨M, z, h1, h3, h6, g1, by simp at g3; omega, h4.some.up (by omega)⟩
theorem flows_ok {k : Nat} (hk : 1002 < k) {s : Nat} (hs : s ≤ 4) {b : Ze} (h : TInv s b) (hB : BInv b) {p : Int} (hp : 0 ≤ p ∧ p < 12) :
    Zab.f k b p = some (DV (-(totF p b.f_l)) s, 0, b) ∧ (totF p b.f_l).natAbs ≤ 32000000000 := by
  have h1 := Flows_eq hk hs h p
  have hl := h.len
  obtain ⟨h2, h3⟩ := flZ_ok p (es := b.f_l) (n := 0) (a := 0) (fun x hx => ⟨(h.ls x hx).1, hB x hx⟩) (by omega) (by decide)
  rw [Int.zero_add] at h2 h3
  rw [if_neg (by omega), h2] at h1
  exact ⟨h1, by omega⟩
/-- The sum of an account, of middle sizes. -/
theorem sum_ok {k : Nat} (hk : 1002 < k) {s : Nat} (hs : s ≤ 4) {M : List (KZ × Zg)} {z : List (KZ × Int)} (h : MZ s M (someZ z)) (hl : (someZ z).length ≤ 1000) (hz : BZ 320 (someZ z)) (acct : Int) {c : Nat} (hc : c ≤ 9) :
    Zbt.f k M acct (c : Int) = some (if hasA acct (someZ z) then DV (sumP (fun k => k.1 == acct) z * 10 ^ (max c s - s)) (max c s) else DV 0 c, 0, M) := by
  have h1 := Sum_eq hk hs h hl acct (c : Int)
  rw [cl_of hc, sumZ_from (by omega) hc (n := 320) (by decide) hz (by omega), sumP_some] at h1
  rw [h1]
  cases hasA acct (someZ z) <;> rfl
theorem sumP_bd {P : KZ → Bool} {n : Nat} : ∀ {z : List (KZ × Int)} {m : Nat}, BZ n z → z.length ≤ m → (sumP P z).natAbs ≤ n * m * 100000000
  | [], m, _, _ => Nat.zero_le _
  | x :: r, m, hz, hm => by
    rw [List.length_cons] at hm
    obtain ⟨m, rfl⟩ : ∃ m', m = m' + 1 := ⟨m - 1, by omega⟩
    have hx := hz.h x List.mem_cons_self
    have ih := sumP_bd (P := P) (z := r) (m := m) ⟨fun q hq => hz.h q (List.mem_cons_of_mem _ hq)⟩ (by omega)
    rw [Nat.mul_add, Nat.mul_one, Nat.add_mul]
    unfold sumP
    split
    · exact Nat.le_trans (Int.natAbs_add_le _ _) (Nat.le_trans (Nat.add_le_add hx ih) (Nat.le_of_eq (Nat.add_comm _ _)))
    · rw [Int.zero_add]
      exact Nat.le_trans ih (Nat.le_add_right _ _)
end Go.Proofs.YtbchcjlllddlpaaGreat.Pure
/- What dec's difference and comparison compute. No conditions but size. -/
namespace Go.Proofs.YtbchcjlllddlpaaGreat.Pure
set_option linter.unusedVariables false
set_option linter.unusedSimpArgs false
open Go Go.Ev Go.Lm Go.Pu Go.Dg
theorem Sm_neg {j : Int} (h : Sm j) : Sm (-j) := by unfold Sm at *; omega
theorem Sub_DV {k : Nat} (hk : 60 < k) {i j : Int} {s t : Nat} (hi : Sm i) (hj : Sm j) (hs : s ≤ 9) (ht : t ≤ 9) : Zep.f k (DV i s) (DV j t) = some (mkD (i * 10 ^ (max s t - s) - j * 10 ^ (max s t - t)) (max s t)) := by
  unfold Zep.f
  have r : Zce.f k ⟨(DV j t).f_Neg, ((DV j t).f_C.1, (DV j t).f_C.2), (DV j t).Zn⟩ = some true := Right_DV hk hj ht
  have n : Zek.f k ⟨(DV j t).f_Neg, ((DV j t).f_C.1, (DV j t).f_C.2), (DV j t).Zn⟩ = some (DV (-j) t) := Neg_DV hk hj ht
  have a : Zdw.f k ⟨(DV i s).f_Neg, ((DV i s).f_C.1, (DV i s).f_C.2), (DV i s).Zn⟩ ⟨(DV (-j) t).f_Neg, ((DV (-j) t).f_C.1, (DV (-j) t).f_C.2), (DV (-j) t).Zn⟩ = _ := Add_DV hk hi (Sm_neg hj) hs ht
  rw [r, Option.bind_some, Bool.not_true, cond_false, n, Option.bind_some, a, Option.bind_some, Int.neg_mul, ← Int.sub_eq_add_neg]
theorem sgn_pos {i c : Int} (hc : 0 < c) : sgn (i * c) = sgn i := by
  unfold sgn
  by_cases h0 : i = 0
  · rw [h0, Int.zero_mul]
  · rw [if_neg (by rw [Int.mul_eq_zero]; omega), if_neg h0]
    by_cases h : i < 0
    · rw [if_pos h, if_pos (Int.mul_neg_of_neg_of_pos h hc)]
    · rw [if_neg h, if_neg (by have := Int.mul_pos (show 0 < i by omega) hc; omega)]
theorem Cmp_DV {k : Nat} (hk : 60 < k) {i j : Int} {s t : Nat} (hi : Sm i) (hj : Sm j) (hs : s ≤ 9) (ht : t ≤ 9) : Zem.f k (DV i s) (DV j t) = some (sgn (i * 10 ^ (max s t - s) - j * 10 ^ (max s t - t))) := by
  have r1 : Zce.f k ⟨decide (i < 0), ((w2 i.natAbs).1, (w2 i.natAbs).2), (s : Int)⟩ = some true := Right_DV hk hi hs
  have r2 : Zce.f k ⟨decide (j < 0), ((w2 j.natAbs).1, (w2 j.natAbs).2), (t : Int)⟩ = some true := Right_DV hk hj ht
  have s1 : Zdk.f k ⟨decide (i < 0), ((w2 i.natAbs).1, (w2 i.natAbs).2), (s : Int)⟩ = some (sgn i) := Sign_DV hk hi hs
  have s2 : Zdk.f k ⟨decide (j < 0), ((w2 j.natAbs).1, (w2 j.natAbs).2), (t : Int)⟩ = some (sgn j) := Sign_DV hk hj ht
  obtain ⟨x, x1, x2, x3⟩ := wide_eq hk (decide (i < 0)) (Sm_w2 hi) (s := s) (t := max s t) (by omega) (by omega) (by omega)
  obtain ⟨y, y1, y2, y3⟩ := wide_eq hk (decide (j < 0)) (Sm_w2 hj) (s := t) (t := max s t) (by omega) (by omega) (by omega)
  have x1' : Zdx.f k ⟨decide (i < 0), ((w2 i.natAbs).1, (w2 i.natAbs).2), (s : Int)⟩ ((max s t : Nat) : Int) = some x := x1
  have y1' : Zdx.f k ⟨decide (j < 0), ((w2 j.natAbs).1, (w2 j.natAbs).2), (t : Int)⟩ ((max s t : Nat) : Int) = some y := y1
  rw [N2_w2] at x3 y3
  have c : Zcw.f k (x.1, x.2.1, x.2.2.1, x.2.2.2) (y.1, y.2.1, y.2.2.1, y.2.2.2) = _ := cmp4 (k := k) (by omega) x2 y2
  have pc : (0 : Int) < 10 ^ (max s t - s) := Int.pow_pos (by decide)
  have pd : (0 : Int) < 10 ^ (max s t - t) := Int.pow_pos (by decide)
  have si := sgn_pos (i := i) pc
  have sj := sgn_pos (i := j) pd
  have vx : i * 10 ^ (max s t - s) = if i < 0 then -(N4 x) else N4 x := by
    rw [x3]
    by_cases h : i < 0
    · rw [if_pos h, show ((i.natAbs : Nat) : Int) = -i by omega, Int.neg_mul, Int.neg_neg]
    · rw [if_neg h, show ((i.natAbs : Nat) : Int) = i by omega]
  have vy : j * 10 ^ (max s t - t) = if j < 0 then -(N4 y) else N4 y := by
    rw [y3]
    by_cases h : j < 0
    · rw [if_pos h, show ((j.natAbs : Nat) : Int) = -j by omega, Int.neg_mul, Int.neg_neg]
    · rw [if_neg h, show ((j.natAbs : Nat) : Int) = j by omega]
  have bx := N4_bd x2
  have by_ := N4_bd y2
  generalize i * 10 ^ (max s t - s) = I at *
  generalize j * 10 ^ (max s t - t) = J at *
  clear x3 y3 pc pd
  unfold Zem.f DV
  dsimp only
  rw [r1, Option.bind_some, Bool.not_true, cond_false, r2, Option.bind_some, Bool.not_true, Option.bind_some]
  dsimp only
  rw [cond_false, s1, Option.bind_some, s2, Option.bind_some, ← si, ← sj]
  have hI : i < 0 ↔ I < 0 := by
    unfold sgn at si
    by_cases h : i < 0
    · rw [if_neg (show ¬ i = 0 by omega), if_pos h] at si
      split at si
      · cases si
      · split at si
        · exact ⟨fun _ => by assumption, fun _ => h⟩
        · cases si
    · refine ⟨fun h' => absurd h' h, fun h' => ?_⟩
      rw [if_neg (show ¬ I = 0 by omega), if_pos h'] at si
      exact absurd si (by split <;> decide)
  by_cases hs : sgn I = sgn J
  · rw [show (sgn I != sgn J) = false by rw [hs, bne_self_eq_false], cond_false, mx, x1', Option.bind_some, y1', Option.bind_some, c, Option.bind_some]
    have hJ : j < 0 ↔ J < 0 := by
      unfold sgn at sj
      by_cases h : j < 0
      · rw [if_neg (show ¬ j = 0 by omega), if_pos h] at sj
        split at sj
        · cases sj
        · split at sj
          · exact ⟨fun _ => by assumption, fun _ => h⟩
          · cases sj
      · refine ⟨fun h' => absurd h' h, fun h' => ?_⟩
        rw [if_neg (show ¬ J = 0 by omega), if_pos h', if_neg h] at sj
        exact absurd sj (by split <;> decide)
    have key : (if N4 x < N4 y then (-1 : Int) else if N4 x = N4 y then 0 else 1) * sgn I = sgn (I - J) := by
      unfold sgn at hs ⊢
      by_cases h1 : I < 0
      · have h2 : J < 0 := by
          rw [if_neg (by omega), if_pos h1] at hs
          by_cases h0 : J = 0
          · rw [if_pos h0] at hs; cases hs
          · rw [if_neg h0] at hs
            by_cases hn : J < 0
            · exact hn
            · rw [if_neg hn] at hs; cases hs
        rw [if_pos (hI.2 h1)] at vx
        rw [if_pos (hJ.2 h2)] at vy
        rw [if_neg (show ¬ I = 0 by omega), if_pos h1]
        by_cases g1 : N4 x < N4 y
        · rw [if_pos g1, if_neg (by omega), if_neg (by omega)]; rfl
        · rw [if_neg g1]
          by_cases g2 : N4 x = N4 y
          · rw [if_pos g2, if_pos (by omega)]; rfl
          · rw [if_neg g2, if_neg (by omega), if_pos (by omega)]; rfl
      · have h2 : ¬ J < 0 := fun hn => by
          rw [if_neg (show ¬ J = 0 by omega), if_pos hn, if_neg h1] at hs
          exact absurd hs (by split <;> decide)
        rw [if_neg (fun h => h1 (hI.1 h))] at vx
        rw [if_neg (fun h => h2 (hJ.1 h))] at vy
        by_cases h0 : I = 0
        · have h3 : J = 0 := by
            rw [if_pos h0] at hs
            by_cases h4 : J = 0
            · exact h4
            · rw [if_neg h4, if_neg h2] at hs; cases hs
          rw [if_pos h0, Int.mul_zero, if_pos (by omega)]
        · rw [if_neg h0, if_neg h1, Int.mul_one]
          by_cases g1 : N4 x < N4 y
          · rw [if_pos g1, if_neg (by omega), if_pos (by omega)]
          · rw [if_neg g1]
            by_cases g2 : N4 x = N4 y
            · rw [if_pos g2, if_pos (by omega)]
            · rw [if_neg g2, if_neg (by omega), if_neg (by omega)]
    rw [key, wrapi (by unfold sgn; split <;> (try split) <;> decide)]
  · rw [show (sgn I != sgn J) = true by simp [hs], cond_true]
    unfold sgn at hs ⊢
    by_cases h : I < J
    · rw [if_neg (show ¬ I - J = 0 by omega), if_pos (show I - J < 0 by omega)]
      rw [ct]
      by_cases h0 : I = 0
      · rw [if_pos h0, if_neg (by omega), if_neg (by omega)]; decide
      · rw [if_neg h0] at hs ⊢
        by_cases h1 : I < 0
        · rw [if_pos h1] at hs ⊢
          by_cases h2 : J = 0
          · rw [if_pos h2]; decide
          · rw [if_neg h2] at hs ⊢
            by_cases h3 : J < 0
            · rw [if_pos h3] at hs; exact absurd rfl hs
            · rw [if_neg h3]; decide
        · rw [if_neg h1] at hs
          rw [if_neg (show ¬ J = 0 by omega), if_neg (show ¬ J < 0 by omega)] at hs
          exact absurd rfl hs
    · have hne : ¬ I = J := fun e => by subst e; exact hs rfl
      rw [if_neg (show ¬ I - J = 0 by omega), if_neg (show ¬ I - J < 0 by omega)]
      rw [cf]
      by_cases h0 : J = 0
      · rw [if_pos h0, if_neg (by omega), if_neg (by omega)]; decide
      · rw [if_neg h0] at hs ⊢
        by_cases h1 : J < 0
        · rw [if_pos h1]
          split
          · decide
          · split <;> decide
        · rw [if_neg h1] at hs
          rw [if_neg (show ¬ I = 0 by omega), if_neg (show ¬ I < 0 by omega)] at hs
          exact absurd rfl hs
end Go.Proofs.YtbchcjlllddlpaaGreat.Pure
/- TrialCloses: closing moves a period's flows to what is retained, and nothing else. No conditions but size. -/
namespace Go.Proofs.YtbchcjlllddlpaaGreat.Pure
set_option linter.unusedVariables false
set_option linter.unusedSimpArgs false
open Go Go.Ev Go.Lm Go.Pu Go.Dg
theorem known15 : Zcq.f 2000 = some true := by decide +kernel
/-- The first period that is open. -/
theorem first_open {k : Nat} (hk : 1002 < k) {b : Ze} (h : T12 b.f_t) {c : Nat} (hc : c ≤ 3) (hC : ClC c b.f_t.Zk) :
    iter (Zh.l5.once k) k (0, b.Zbd, b.f_l, b.f_t) = some ((c : Int), b.Zbd, b.f_l, b.f_t) := by
  have e1 := pk h
  have hP : Zav.f k (⟨b.Zbd, b.f_l, b.f_t⟩ : Ze) = some (b.f_t, b) := Periods_eq k h
  have e3 := l12 h.1
  have p1 := Zeb false h.1
  have p2 := Zeb 0 h.2
  refine iter_seq (once := Zh.l5.once k) (fun i => ((i : Int), b.Zbd, b.f_l, b.f_t)) c (fun i hi => ?_) ((c : Int), b.Zbd, b.f_l, b.f_t) ?_ k 0 (Nat.zero_le _) (by omega)
  · have hwr := wrapi (show -9223372036854775808 ≤ (i : Int) + 1 ∧ (i : Int) + 1 < 9223372036854775808 by omega)
    unfold Zh.l5.once
    dsimp only
    simp only [e1]
    rw [ct (show (i : Int) < 3 by omega), hP, Option.bind_some]
    dsimp only
    rw [inb_t (by omega) (by omega), cond_true, e3, Int.toNat_natCast, hC.2 i (by omega), decide_eq_true hi, Option.bind_some]
    dsimp only
    simp only [p1, p2, hwr]
    rfl
  · unfold Zh.l5.once
    dsimp only
    simp only [e1]
    by_cases h3 : c < 3
    · rw [ct (show (c : Int) < 3 by omega), hP, Option.bind_some]
      dsimp only
      rw [inb_t (by omega) (by omega), cond_true, e3, Int.toNat_natCast, hC.2 c (by omega), decide_eq_false (by omega), Option.bind_some]
      dsimp only
      simp only [p1, p2]
      rw [cond_false]
    · rw [cf (show ¬ (c : Int) < 3 by omega), Option.bind_some]
      dsimp only
      rw [cond_false, e1]
/-- What moved is the flows. -/
theorem moved_eq {k : Nat} (hk : 1002 < k) {s : Nat} (hs : s ≤ 4) {A B F : Int} {i j : Bool} (hA : A.natAbs ≤ 320 * 1000 * 100000000) (hB : B.natAbs ≤ 320 * 1000 * 100000000) (hF : F.natAbs ≤ 32000000000) (hi : i = false → A = 0) (hj : j = false → B = 0) (h : B = A + F) :
    ∃ d e, Zep.f k (if i then DV (A * 10 ^ (max 0 s - s)) (max 0 s) else DV 0 0) (if j then DV (B * 10 ^ (max 0 s - s)) (max 0 s) else DV 0 0) = some (d, e) ∧ Zem.f k d (DV (-F) s) = some 0 := by
  have sA : Sm A := by unfold Sm; omega
  have sB : Sm B := by unfold Sm; omega
  have sF : Sm (-F) := by unfold Sm; omega
  have sAB : Sm (A - B) := by unfold Sm; omega
  have sA' : Sm (A - 0) := by unfold Sm; omega
  have sB' : Sm (0 - B) := by unfold Sm; omega
  have mk : ∀ {v : Int} {m : Nat}, Sm v → mkD v m = (DV v m, 0) := fun h => if_pos h
  have m0 : max 0 s = s := by omega
  have m1 : max s 0 = s := by omega
  rw [m0, Nat.sub_self, Int.pow_zero, Int.mul_one, Int.mul_one]
  have fin : ∀ {v : Int}, Sm v → v = -F → Zem.f k (DV v s) (DV (-F) s) = some 0 := fun {v} hv e => by
    rw [Cmp_DV (k := k) (by omega) hv sF (by omega) (by omega), Nat.max_self, Nat.sub_self, e, Int.sub_self]
    rfl
  cases i with
  | true =>
    cases j with
    | true =>
      rw [if_pos rfl, if_pos rfl]
      have h1 := Sub_DV (k := k) (by omega) sA sB (show s ≤ 9 by omega) (show s ≤ 9 by omega)
      rw [Nat.max_self, Nat.sub_self, Int.pow_zero, Int.mul_one, Int.mul_one, mk sAB] at h1
      exact ⟨_, _, h1, fin sAB (by omega)⟩
    | false =>
      rw [if_pos rfl, if_neg Bool.false_ne_true]
      have h1 := Sub_DV (k := k) (by omega) sA Sm0 (show s ≤ 9 by omega) (show 0 ≤ 9 by omega)
      rw [m1, Nat.sub_self, Int.pow_zero, Int.mul_one, Int.zero_mul, mk sA'] at h1
      have := hj rfl
      exact ⟨_, _, h1, fin sA' (by omega)⟩
  | false =>
    have := hi rfl
    cases j with
    | true =>
      rw [if_neg Bool.false_ne_true, if_pos rfl]
      have h1 := Sub_DV (k := k) (by omega) Sm0 sB (show 0 ≤ 9 by omega) (show s ≤ 9 by omega)
      rw [m0, Nat.sub_self, Int.pow_zero, Int.mul_one, Int.zero_mul, mk sB'] at h1
      exact ⟨_, _, h1, fin sB' (by omega)⟩
    | false =>
      have := hj rfl
      rw [if_neg Bool.false_ne_true, if_neg Bool.false_ne_true]
      have h1 := Sub_DV (k := k) (by omega) Sm0 Sm0 (show 0 ≤ 9 by omega) (show 0 ≤ 9 by omega)
      rw [Int.zero_mul, Int.sub_self, mk Sm0] at h1
      refine ⟨_, _, h1, ?_⟩
      have hF0 : -F = 0 := by omega
      rw [Cmp_DV (k := k) (by omega) Sm0 sF (by omega) (by omega), hF0, Int.zero_mul, Int.zero_mul, Int.sub_self]
      rfl
/-- The sums of the accounts that are no flows stay. -/
theorem sums_stay {k : Nat} (hk : 1002 < k) {s : Nat} (hs : s ≤ 4) {M N : List (KZ × Zg)} {z y : List (KZ × Int)} (hM : MZ s M (someZ z)) (hN : MZ s N (someZ y)) (lz : (someZ z).length ≤ 1000) (ly : (someZ y).length ≤ 1000) (bz : BZ 320 (someZ z)) (bY : BZ 320 (someZ y))
    (h : ∀ acct : Int, acct ≠ 8 → kindZ acct ≠ 4 → sumP (fun k => k.1 == acct) z = sumP (fun k => k.1 == acct) y) {b : Ze} (hb : T12 b.f_t) (p : Int) :
    iter (Zh.l19.once k) k (p, 0, b.Zbd, b.f_l, b.f_t, M, N) = some (.inl (p, b.Zbd, b.f_l, b.f_t, M)) := by
  have e1 := pk hb
  refine iter_seq (once := Zh.l19.once k) (fun i => (p, (i : Int), b.Zbd, b.f_l, b.f_t, M, N)) 9 (fun i hi => ?_) _ ?_ k 0 (Nat.zero_le _) (by omega)
  · have hwr := wrapi (show -9223372036854775808 ≤ (i : Int) + 1 ∧ (i : Int) + 1 < 9223372036854775808 by omega)
    have s1 := sum_ok hk hs hM lz bz (i : Int) (c := 4) (by decide)
    have s2 := sum_ok hk hs hN ly bY (i : Int) (c := 4) (by decide)
    have m4 : max 4 s = 4 := by omega
    rw [m4] at s1 s2
    have val4 : ∀ w : List (KZ × Int), (if hasA (i : Int) (someZ w) = true then DV (sumP (fun k => k.1 == (i : Int)) w * 10 ^ (4 - s)) 4 else DV 0 4) = DV (sumP (fun k => k.1 == (i : Int)) w * 10 ^ (4 - s)) 4 := fun w => by
      cases hh : hasA (i : Int) (someZ w) with
      | true => rfl
      | false =>
        have := hasA_no hh
        rw [sumP_some] at this
        rw [this, Int.zero_mul]
        rfl
    rw [val4] at s1 s2
    unfold Zh.l19.once
    dsimp only
    simp only [e1]
    rw [ct (show (i : Int) < 9 by omega)]
    refine bof s1 (bof s2 ?_)
    dsimp only
    refine bof (v := (p, (i : Int), false, b.Zbd, b.f_l, b.f_t, M, N)) ?_ ?_
    · refine bof (v := 8) rfl ?_
      by_cases h8 : (i : Int) = 8
      · rw [h8, show ((8 : Int) != 8) = false from rfl, cond_false]
      · rw [show ((i : Int) != 8) = true by simpa using h8, cond_true]
        have := h (i : Int) h8 (by
          unfold kindZ
          repeat' split
          all_goals omega)
        rw [this, beq_self_eq_true, beq_self_eq_true, beq_self_eq_true, beq_self_eq_true]
        rfl
    · dsimp only
      rw [cond_false, hwr, e1]
      rfl
  · unfold Zh.l19.once
    dsimp only
    rw [cf (by omega), e1]
theorem TrialCloses (l : List Zz) (w0 : (l.length ≤ 9223372036854775807 ∧ l.length * 80 ≤ 140737488351232 ∧ ∀ z ∈ l, ((Lit.int .i64 z.Zey).wf = true) ∧ ((Lit.int .i64 z.f_Who).wf = true) ∧ ((Lit.int .i64 z.f_A).wf = true) ∧ ((Lit.int .i64 z.f_B).wf = true) ∧ ((Lit.int .i64 z.f_C).wf = true) ∧ ((Lit.int .i64 z.f_N).wf = true) ∧ ((Lit.int .i64 z.f_Bend).wf = true) ∧ ((z.f_L.length ≤ 9223372036854775807 ∧ z.f_L.length * 8 ≤ 140737488351232 ∧ ∀ z1 ∈ z.f_L, (Lit.int .i64 z1).wf = true)) ∧ True))
    (a1 : Int) (w1 : (Lit.int .i64 a1).wf = true) : ∃ k, Zh.f k l a1 = some true := by
  have hw : ∀ z ∈ l, ActL z := fun z hz => by
    obtain ⟨_, _, _, _, _, _, _, g8, _⟩ := w0.2.2 z hz
    exact g8.1
  refine ⟨2000, ?_⟩
  have hk : 1002 < 2000 := by decide
  have bs := pick_bd a1 (m := 5) (by decide)
  unfold Zh.f
  refine bof (Zes 2000 a1 (by decide) (by decide)) ?_
  obtain ⟨s, hsc⟩ : ∃ s : Nat, pick a1 5 = (s : Int) := ⟨(pick a1 5).toNat, by omega⟩
  rw [hsc] at bs ⊢
  have hs : s ≤ 4 := by omega
  have hT := bkN_inv hk hs hw
  have hB := bkN_B hk hs hw
  obtain ⟨c, hc, hC⟩ := bkN_C 2000 s l
  refine bof (books_eq hk hs hw) ?_
  dsimp only
  generalize bkN 2000 s l = b at hT hB hC ⊢
  have e1 := pk hT.T
  simp only [e1]
  refine bof (v := (false, b.Zbd, b.f_l, b.f_t)) (bof known15 rfl) ?_
  dsimp only
  simp only [e1]
  rw [cond_false]
  refine bof (first_open hk hT.T hc hC) ?_
  dsimp only
  simp only [e1]
  -- the trial, the flows
  obtain ⟨M, z, t1, t2, t3, t4, t5, t6⟩ := trial_ok hk hs hT hB (p := (c : Int)) (by omega)
  obtain ⟨f1, f2⟩ := flows_ok hk hs hT hB (p := (c : Int)) (by omega)
  have t1' : Zbc.f 2000 (⟨b.Zbd, b.f_l, b.f_t⟩ : Ze) (c : Int) = some (M, 0, b) := t1
  have f1' : Zab.f 2000 (⟨b.Zbd, b.f_l, b.f_t⟩ : Ze) (c : Int) = _ := f1
  refine bof t1' ?_
  dsimp only
  simp only [e1]
  refine bof f1' ?_
  dsimp only
  simp only [e1]
  -- it is closed
  have k1 := cOk_at hC (by omega)
  have hcl : Pe.clo b.f_t.Zk b.f_t.Zi (c : Int) = (b.f_t.Zk.set c true, b.f_t.Zi.set c (IntKind.wrap .i64 (b.f_t.Zi.getD c 0 + 1)), 0) := by
    unfold Pe.clo
    rw [if_pos k1, Int.toNat_natCast]
  have hT1 := hT.turn (Pe.clo_len hT.T.1 hT.T.2 (c : Int))
  have cl1 := Bclose2 2000 hT.T (p := (c : Int)) (by omega)
  rw [hcl] at hT1 cl1
  have hb1 : (turnB b (b.f_t.Zk.set c true, b.f_t.Zi.set c (IntKind.wrap .i64 (b.f_t.Zi.getD c 0 + 1)), 0)) = (0, ⟨b.Zbd, b.f_l, ⟨b.f_t.Zk.set c true, b.f_t.Zi.set c (IntKind.wrap .i64 (b.f_t.Zi.getD c 0 + 1))⟩⟩) := rfl
  rw [hb1] at hT1 cl1
  have hB1 : BInv ⟨b.Zbd, b.f_l, ⟨b.f_t.Zk.set c true, b.f_t.Zi.set c (IntKind.wrap .i64 (b.f_t.Zi.getD c 0 + 1))⟩⟩ := hB
  have hC1 : ClC (c + 1) (b.f_t.Zk.set c true) := hC.up (by omega)
  generalize hV : b.f_t.Zi.set c (IntKind.wrap .i64 (b.f_t.Zi.getD c 0 + 1)) = V1 at *
  generalize hCC : b.f_t.Zk.set c true = C1 at *
  have e3 := pk hT1.T
  dsimp only at e3 hT1
  have cl1' : Zbm.f 2000 (⟨b.Zbd, b.f_l, b.f_t⟩ : Ze) (c : Int) = some (0, ⟨b.Zbd, b.f_l, ⟨C1, V1⟩⟩) := cl1
  refine bof (v := ((c : Int), false, b.Zbd, b.f_l, (⟨C1, V1⟩ : Zd), M, (DV (-(totF (c : Int) b.f_l)) s).f_Neg, (DV (-(totF (c : Int) b.f_l)) s).f_C.1, (DV (-(totF (c : Int) b.f_l)) s).f_C.2, (DV (-(totF (c : Int) b.f_l)) s).Zn)) ?_ ?_
  · rw [show ((0 : Int) != 0) = false from rfl, cond_false]
    refine bof cl1' ?_
    dsimp only
    rw [e3]
    rfl
  dsimp only
  simp only [e3]
  rw [cond_false]
  obtain ⟨N, y, u1, u2, u3, u4, u5, u6⟩ := trial_ok hk hs hT1 hB1 (p := (c : Int)) (by omega)
  obtain ⟨g1, _⟩ := flows_ok hk hs hT1 hB1 (p := (c : Int)) (by omega)
  dsimp only at u2 g1
  refine bof u1 ?_
  dsimp only
  simp only [e3]
  refine bof g1 ?_
  dsimp only
  simp only [e3]
  have o1 : opn b.f_t (c : Int) = true := by rw [opn_eq hC]; exact decide_eq_true (by omega)
  have o2 : opn (⟨C1, V1⟩ : Zd) (c : Int) = false := by rw [opn_eq (t := ⟨C1, V1⟩) hC1]; exact decide_eq_false (by omega)
  have o3 : ∀ i, i ≠ (c : Int) → opn (⟨C1, V1⟩ : Zd) i = opn b.f_t i := fun i hi => by
    rw [opn_eq hC, opn_eq (t := ⟨C1, V1⟩) hC1]
    exact decide_eq_decide.2 ⟨fun h => by omega, fun h => by omega⟩
  have z1 : ∀ P : KZ → Bool, sumP P z = totE P (c : Int) b.f_t b.f_l := fun P => by
    rw [entZ_sumP (P := P) t2]
    exact Int.zero_add _
  have y1 : ∀ P : KZ → Bool, sumP P y = totE P (c : Int) ⟨C1, V1⟩ b.f_l := fun P => by
    rw [entZ_sumP (P := P) u2]
    exact Int.zero_add _
  have s1 := sum_ok hk hs t3 t5 t6 8 (c := 0) (by decide)
  have s2 := sum_ok hk hs u3 u5 u6 8 (c := 0) (by decide)
  refine bof s1 (bof s2 ?_)
  dsimp only
  obtain ⟨d, e, m1, m2⟩ := moved_eq hk hs (A := sumP (fun k => k.1 == 8) z) (B := sumP (fun k => k.1 == 8) y) (F := totF (c : Int) b.f_l) (i := hasA 8 (someZ z)) (j := hasA 8 (someZ y))
    (by rw [← sumP_some]; exact sumP_bd t6 t5) (by rw [← sumP_some]; exact sumP_bd u6 u5) f2 (fun h => by rw [← sumP_some]; exact hasA_no h) (fun h => by rw [← sumP_some]; exact hasA_no h) (by rw [z1, y1]; exact totE_close8 o1 o2 o3 _)
  refine bof m1 ?_
  refine bof (v := ((c : Int), false, b.Zbd, b.f_l, (⟨C1, V1⟩ : Zd), M, N)) ?_ ?_
  · rw [show ((0 : Int) != 0) = false from rfl, cond_false]
    refine bof m2 ?_
    rw [show ((0 : Int) != 0) = false from rfl, cond_false, beq_self_eq_true, beq_self_eq_true, beq_self_eq_true, beq_self_eq_true]
    rfl
  dsimp only
  simp only [e3]
  rw [cond_false]
  have st := sums_stay hk hs t3 u3 t5 u5 t6 u6 (fun acct h8 h4 => by rw [z1, y1]; exact (totE_closeA h8 h4 o1 o2 o3 _).symm) hT1.T (c : Int)
  refine bof st ?_
  dsimp only
  simp only [e3]
  -- it is opened again
  have k2 := rOk_at hC1 (by omega)
  have hre : Pe.reo C1 V1 (c : Int) = (C1.set c false, V1, 0) := by
    unfold Pe.reo
    rw [if_pos k2, Int.toNat_natCast]
  have hT2 := hT1.turn (Pe.reo_len hT1.T.1 hT1.T.2 (c : Int))
  have cl2 := Breopen2 2000 hT1.T (p := (c : Int)) (by omega)
  dsimp only at hT2 cl2
  rw [hre] at hT2 cl2
  have hb2 : (turnB (⟨b.Zbd, b.f_l, ⟨C1, V1⟩⟩ : Ze) (C1.set c false, V1, 0)) = (0, ⟨b.Zbd, b.f_l, ⟨C1.set c false, V1⟩⟩) := rfl
  rw [hb2] at hT2 cl2
  have hB2 : BInv ⟨b.Zbd, b.f_l, ⟨C1.set c false, V1⟩⟩ := hB
  have hC2 := hC1.down (by omega)
  have e4 := pk hT2.T
  dsimp only at e4 hT2
  refine bof cl2 ?_
  dsimp only
  simp only [e4]
  rw [show ((0 : Int) != 0) = false from rfl, cond_false]
  obtain ⟨Q, x, v1, v2, v3, v4, v5, v6⟩ := trial_ok hk hs hT2 hB2 (p := (c : Int)) (by omega)
  refine bof v1 ?_
  dsimp only at v2 ⊢
  have o4 : ∀ i, opn b.f_t i = opn (⟨C1.set c false, V1⟩ : Zd) i := fun i => by rw [opn_eq hC, opn_eq (t := ⟨C1.set c false, V1⟩) hC2]
  rw [entZ_opn o4, v2] at t2
  cases t2
  rw [mapEq_of v3 t3]
end Go.Proofs.YtbchcjlllddlpaaGreat.Pure
