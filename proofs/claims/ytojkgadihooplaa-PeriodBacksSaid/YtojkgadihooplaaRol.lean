/- What the calls on roles compute, told by bits. No conditions but that each word is below 2^64. -/
import Derived.Test.YtojkgadihooplaaF2
import Derived.Test.YtojkgadihooplaaPu
namespace Go.Proofs.Ytojkgadihooplaa.Pure
set_option linter.unusedVariables false
set_option linter.unusedSimpArgs false
open Go Go.Ev Go.Pu

theorem Pick_eq (k : Nat) (n : Int) {m : Int} (h0 : 0 < m) (h1 : m ≤ 4611686018427387904) : pyxhand_Pick.f k n m = some (pick n m) := by
  unfold pyxhand_Pick.f pick
  rw [show (m == 0) = false by simp; omega, cond_false]
  have h2 : -m < Int.tmod n m := Int.lt_tmod_of_pos n h0
  by_cases h : Int.tmod n m < 0
  · rw [ct h, if_pos h, wrapi (by omega)]
  · rw [cf h, if_neg h]

/-- Right parents. -/
def Rt (up : List Int) : Prop := ∀ i, i < up.length → -1 ≤ up.getD i 0 ∧ up.getD i 0 < (i : Int)

theorem Right_eq {up : List Int} (hl : up.length ≤ 10) {k : Nat} (hk : 20 < k) : ∃ b, role_Right.f k up = some b ∧ (b = true ↔ (Rt up ∧ up.length ≤ 8)) := by
  unfold role_Right.f
  obtain ⟨y, h1, h2⟩ := iter_rule (once := role_Right.l2.once k) (fun x => ∃ i : Nat, x = (up, up, (up.length : Int), (i : Int)) ∧ i ≤ up.length ∧ ∀ j, j < i → -1 ≤ up.getD j 0 ∧ up.getD j 0 < (j : Int))
    (fun x => up.length - x.2.2.2.toNat) (fun y => (y = .inl up ∧ Rt up) ∨ (y = .inr false ∧ ¬ Rt up)) (by
    rintro _ ⟨i, rfl, hi, hj⟩
    unfold role_Right.l2.once
    dsimp only
    by_cases hlt : i < up.length
    · rw [ct (by omega), inb_t (by omega) (by omega), cond_true, Int.toNat_natCast]
      by_cases c1 : up.getD i 0 < -1
      · right
        rw [ct c1]
        exact ⟨_, rfl, .inr ⟨rfl, fun h => by have := h i hlt; omega⟩⟩
      · rw [cf c1]
        by_cases c2 : up.getD i 0 ≥ (i : Int)
        · right
          rw [decide_eq_true c2]
          exact ⟨_, rfl, .inr ⟨rfl, fun h => by have := h i hlt; omega⟩⟩
        · left
          rw [decide_eq_false c2]
          refine ⟨_, rfl, ⟨i + 1, ?_, by omega, fun j hj' => ?_⟩, ?_⟩
          · simp only [wrapi (show -9223372036854775808 ≤ (i : Int) + 1 ∧ (i : Int) + 1 < 9223372036854775808 by omega)]
            rfl
          · by_cases e : j = i
            · subst e; omega
            · exact hj j (by omega)
          · simp only [wrapi (show -9223372036854775808 ≤ (i : Int) + 1 ∧ (i : Int) + 1 < 9223372036854775808 by omega)]
            omega
    · right
      rw [cf (by omega)]
      exact ⟨_, rfl, .inl ⟨rfl, fun j hj' => hj j (by omega)⟩⟩) k (up, up, (up.length : Int), 0) ⟨0, rfl, by omega, fun j hj => by omega⟩ (by simp; omega)
  rw [h1, Option.bind_some]
  rcases h2 with ⟨rfl, h⟩ | ⟨rfl, h⟩
  · refine ⟨_, rfl, ?_⟩
    simp only [decide_eq_true_eq]
    exact ⟨fun e => ⟨h, by omega⟩, fun e => by omega⟩
  · exact ⟨_, rfl, ⟨fun e => (by cases e), fun e => (h e.1).elim⟩⟩

theorem RefRight_eq {up : List Int} (hl : up.length ≤ 10) {k : Nat} (hk : 20 < k) : ∃ b, pyxref4_RightRoles.f k up = some b ∧ (b = true ↔ (Rt up ∧ up.length ≤ 8)) := by
  unfold pyxref4_RightRoles.f
  by_cases h8 : (up.length : Int) > 8
  · rw [ct h8]
    exact ⟨_, rfl, ⟨fun e => (by cases e), fun e => by omega⟩⟩
  rw [cf h8]
  obtain ⟨y, h1, h2⟩ := iter_rule (once := pyxref4_RightRoles.l4.once k) (fun x => ∃ i : Nat, x = (up, (i : Int)) ∧ i ≤ up.length ∧ ∀ j, j < i → -1 ≤ up.getD j 0 ∧ up.getD j 0 < (j : Int))
    (fun x => up.length - x.2.toNat) (fun y => (y = .inl () ∧ Rt up) ∨ (y = .inr false ∧ ¬ Rt up)) (by
    rintro _ ⟨i, rfl, hi, hj⟩
    unfold pyxref4_RightRoles.l4.once
    dsimp only
    by_cases hlt : i < up.length
    · rw [ct (by omega), inb_t (by omega) (by omega), cond_true, cond_true, Int.toNat_natCast]
      by_cases c1 : up.getD i 0 < -1
      · right
        rw [ct c1]
        exact ⟨_, rfl, .inr ⟨rfl, fun h => by have := h i hlt; omega⟩⟩
      · rw [cf c1]
        by_cases c2 : up.getD i 0 ≥ (i : Int)
        · right
          rw [decide_eq_true c2]
          exact ⟨_, rfl, .inr ⟨rfl, fun h => by have := h i hlt; omega⟩⟩
        · left
          rw [decide_eq_false c2]
          refine ⟨_, rfl, ⟨i + 1, ?_, by omega, fun j hj' => ?_⟩, ?_⟩
          · simp only [wrapi (show -9223372036854775808 ≤ (i : Int) + 1 ∧ (i : Int) + 1 < 9223372036854775808 by omega)]
            rfl
          · by_cases e : j = i
            · subst e; omega
            · exact hj j (by omega)
          · simp only [wrapi (show -9223372036854775808 ≤ (i : Int) + 1 ∧ (i : Int) + 1 < 9223372036854775808 by omega)]
            omega
    · right
      rw [cf (by omega)]
      exact ⟨_, rfl, .inl ⟨rfl, fun j hj' => hj j (by omega)⟩⟩) k (up, 0) ⟨0, rfl, by omega, fun j hj => by omega⟩ (by simp; omega)
  rw [h1, Option.bind_some]
  rcases h2 with ⟨rfl, h⟩ | ⟨rfl, h⟩
  · exact ⟨_, rfl, ⟨fun e => ⟨h, by omega⟩, fun _ => rfl⟩⟩
  · exact ⟨_, rfl, ⟨fun e => (by cases e), fun e => (h e.1).elim⟩⟩

theorem p64 {a : Nat} (h : a < 64) : 2 ^ a < 18446744073709551616 := Nat.pow_lt_pow_right (a := 2) (by decide) (n := 64) h
theorem bit_w {a : Nat} (h : a < 64) : IntKind.wrap .u64 (1 * 2 ^ (min (Int.toNat (IntKind.wrap .u64 (a : Int))) 64)) = ((2 ^ a : Nat) : Int) := by
  rw [wrapu (show (0 : Int) ≤ (a : Int) ∧ (a : Int) < 18446744073709551616 by omega), Int.toNat_natCast, Nat.min_eq_left (by omega), Int.one_mul]
  have : ((2 : Int) ^ a) = ((2 ^ a : Nat) : Int) := by simp
  rw [this, wrapu ⟨Int.natCast_nonneg _, Int.ofNat_lt.2 (p64 h)⟩]
theorem bit_eq (k : Nat) {a : Nat} (h : a < 64) : role_bit.f k (a : Int) = some ((2 ^ a : Nat) : Int) := by
  unfold role_bit.f
  rw [cf (by rw [wrapu (by omega)]; omega), bit_w h]
theorem and_bit {o a : Nat} : (((o &&& 2 ^ a : Nat) : Int) > 0) ↔ o.testBit a = true := by
  have h : (o &&& 2 ^ a) ≠ 0 ↔ o.testBit a = true := by
    constructor
    · intro h
      obtain ⟨i, hi⟩ := Nat.exists_testBit_of_ne_zero h
      rw [Nat.testBit_and, Nat.testBit_two_pow] at hi
      simp at hi
      rw [hi.2]; exact hi.1
    · intro h e
      have : (o &&& 2 ^ a).testBit a = true := by rw [Nat.testBit_and, h, Nat.testBit_two_pow_self]; rfl
      rw [e] at this
      simp at this
  rw [← h]
  omega
theorem shr_bit {o a : Nat} (h : a < 64) : (Int.tmod (Int.fdiv (o : Int) (2 ^ (min (Int.toNat (IntKind.wrap .u64 (a : Int))) 64))) 2 == 1) = o.testBit a := by
  rw [wrapu (show (0 : Int) ≤ (a : Int) ∧ (a : Int) < 18446744073709551616 by omega), Int.toNat_natCast, Nat.min_eq_left (by omega), fdivp, Nat.testBit_eq_decide_div_mod_eq]
  rw [show Int.tmod ((o / 2 ^ a : Nat) : Int) 2 = ((o / 2 ^ a % 2 : Nat) : Int) by rw [Int.natCast_emod]; rfl]
  have : ∀ x : Nat, (((x : Nat) : Int) == 1) = decide (x = 1) := fun x => by rw [Bool.eq_iff_iff]; simp; omega
  exact this _

/-- One round of the program's. -/
def pstep (up : List Int) (k o : Nat) : Nat := if o.testBit k = true ∧ up.getD k 0 ≥ 0 then o ||| 2 ^ (up.getD k 0).toNat else o
def Pall (up : List Int) : Nat → Nat → Nat
  | 0, o => o
  | k + 1, o => Pall up k (pstep up k o)
/-- One round of the document's. -/
def rstep (up : List Int) (roles k o : Nat) : Nat := if roles.testBit k = true ∨ o.testBit k = true then (if up.getD k 0 ≥ 0 then o ||| 2 ^ k ||| 2 ^ (up.getD k 0).toNat else o ||| 2 ^ k) else o
def Rall (up : List Int) (roles : Nat) : Nat → Nat → Nat
  | 0, o => o
  | k + 1, o => Rall up roles k (rstep up roles k o)

theorem pstep_lt {up : List Int} (hr : Rt up) {n : Nat} (hn : n ≤ up.length) (_h8 : n ≤ 8) {k o : Nat} (hk : k < n) (ho : o < 2 ^ n) : pstep up k o < 2 ^ n := by
  unfold pstep
  split
  · refine Nat.or_lt_two_pow ho (Nat.pow_lt_pow_right (by decide) ?_)
    have := hr k (by omega)
    omega
  · exact ho
theorem Pall_lt {up : List Int} (hr : Rt up) {n : Nat} (hn : n ≤ up.length) (h8 : n ≤ 8) : ∀ {k o : Nat}, k ≤ n → o < 2 ^ n → Pall up k o < 2 ^ n
  | 0, o, _, ho => ho
  | k + 1, o, hk, ho => Pall_lt hr hn h8 (k := k) (o := pstep up k o) (by omega) (pstep_lt hr hn h8 (by omega) ho)
theorem rstep_lt {up : List Int} (hr : Rt up) {n roles : Nat} (hn : n ≤ up.length) (_h8 : n ≤ 8) {k o : Nat} (hk : k < n) (ho : o < 2 ^ n) : rstep up roles k o < 2 ^ n := by
  have hk2 : o ||| 2 ^ k < 2 ^ n := Nat.or_lt_two_pow ho (Nat.pow_lt_pow_right (by decide) hk)
  unfold rstep
  split
  · split
    · refine Nat.or_lt_two_pow hk2 (Nat.pow_lt_pow_right (by decide) ?_)
      have := hr k (by omega)
      omega
    · exact hk2
  · exact ho

theorem tb_or_pow (o k j : Nat) : (o ||| 2 ^ k).testBit j = (o.testBit j || decide (k = j)) := by
  rw [Nat.testBit_or, Nat.testBit_two_pow]

/-- Both come to the same. -/
theorem all_same {up : List Int} {n roles : Nat} (_hn : n = up.length) : ∀ (k p r : Nat), k ≤ n → (∀ j, p.testBit j = ((decide (j < n) && roles.testBit j) || r.testBit j)) →
    (∀ j, k ≤ j → j < n → roles.testBit j = true → r.testBit j = true) → Pall up k p = Rall up roles k r := by
  intro k
  induction k with
  | zero =>
    intro p r _ h1 h2
    apply Nat.eq_of_testBit_eq
    intro j
    show p.testBit j = r.testBit j
    rw [h1 j]
    by_cases hj : j < n
    · cases hb : roles.testBit j with
      | false => simp
      | true => rw [h2 j (by omega) hj hb]; simp
    · simp [hj]
  | succ k ih =>
    intro p r hk h1 h2
    show Pall up k (pstep up k p) = Rall up roles k (rstep up roles k r)
    have hpk : p.testBit k = (roles.testBit k || r.testBit k) := by rw [h1 k]; simp [show k < n by omega]
    apply ih _ _ (by omega)
    · intro j
      unfold pstep rstep
      by_cases hc : roles.testBit k = true ∨ r.testBit k = true
      · have hp : p.testBit k = true := by rw [hpk]; simpa using hc
        rw [if_pos hc]
        by_cases hu : up.getD k 0 ≥ 0
        · rw [if_pos ⟨hp, hu⟩, if_pos hu, tb_or_pow, tb_or_pow, tb_or_pow]
          by_cases e : k = j
          · subst e; rw [hp]; simp
          · rw [h1 j]; simp [e, Bool.or_assoc]
        · rw [if_neg (fun h => hu h.2), if_neg hu, tb_or_pow]
          by_cases e : k = j
          · subst e; rw [hp]; simp
          · rw [h1 j]; simp [e]
      · have hp : ¬ p.testBit k = true := by rw [hpk]; simpa using hc
        rw [if_neg hc, if_neg (fun h => hp h.1), h1 j]
    · intro j hj hjn hb
      unfold rstep
      by_cases e : j = k
      · subst e
        rw [if_pos (.inl hb)]
        split <;> simp [Nat.testBit_or, Nat.testBit_two_pow]
      · have := h2 j (by omega) hjn hb
        split
        · split <;> simp [Nat.testBit_or, this]
        · exact this

theorem mask_lt (a : Nat) {n : Nat} : a &&& (2 ^ n - 1) < 2 ^ n := Nat.lt_of_le_of_lt Nat.and_le_right (by have := Nat.two_pow_pos n; omega)
theorem le8 {n : Nat} (h : n ≤ 8) : 2 ^ n ≤ 256 := Nat.pow_le_pow_right (n := 2) (by decide) h

theorem All_loop {up : List Int} (hr : Rt up) {n : Nat} (hn : n = up.length) (h8 : n ≤ 8) {k : Nat} : ∀ (i o m : Nat), i ≤ n → o < 2 ^ n → i < m → iter (role_All.l5.once k) m (up, (o : Int), (i : Int) - 1) = some ((Pall up i o : Nat) : Int) := by
  have h256 := le8 h8
  intro i
  induction i with
  | zero =>
    intro o m _ _ hm
    obtain ⟨m, rfl⟩ : ∃ q, m = q + 1 := ⟨m - 1, by omega⟩
    refine iter_stop ?_
    unfold role_All.l5.once
    dsimp only
    rw [cf (by omega)]
    rfl
  | succ i ih =>
    intro o m hi ho hm
    obtain ⟨m, rfl⟩ : ∃ q, m = q + 1 := ⟨m - 1, by omega⟩
    have hs := pstep_lt hr (show n ≤ up.length by omega) h8 (show i < n by omega) ho
    have hu := hr i (by omega)
    rw [iter_step (x' := (up, ((pstep up i o : Nat) : Int), (i : Int) - 1))]
    · exact ih _ m (by omega) hs (by omega)
    · unfold role_All.l5.once
      dsimp only
      rw [show ((i + 1 : Nat) : Int) - 1 = (i : Int) by omega, ct (by omega), bit_eq k (by omega), Option.bind_some, and64 (by omega) (p64 (by omega))]
      have hw : IntKind.wrap .i64 ((i : Int) - 1) = (i : Int) - 1 := wrapi (by omega)
      by_cases hb : o.testBit i = true
      · rw [ct (and_bit.2 hb), inb_t (by omega) (by omega), cond_true, Option.bind_some]
        dsimp only
        rw [Int.toNat_natCast]
        by_cases hp : up.getD i 0 ≥ 0
        · rw [decide_eq_true hp, cond_true, inb_t (by omega) (by omega), cond_true]
          obtain ⟨v, hv⟩ := Int.eq_ofNat_of_zero_le hp
          rw [hv] at hu ⊢
          rw [bit_eq k (by omega), Option.bind_some, Option.bind_some, or64 (by omega) (p64 (by omega)), hw]
          unfold pstep
          rw [if_pos ⟨hb, by omega⟩, hv, Int.toNat_natCast]
        · rw [decide_eq_false hp, cond_false, Option.bind_some, hw]
          unfold pstep
          rw [if_neg (fun h => hp h.2)]
      · rw [cf (fun h => hb (and_bit.1 h)), Option.bind_some, cond_false, Option.bind_some, hw]
        unfold pstep
        rw [if_neg (fun h => hb h.1)]

/-- All that some have. -/
def All (up : List Int) (roles : Nat) : Nat := Pall up up.length (roles &&& (2 ^ up.length - 1))

theorem All_eq {up : List Int} (hl : up.length ≤ 10) {roles : Nat} (hroles : roles < 18446744073709551616) {k : Nat} (hk : 20 < k) :
    (Rt up ∧ up.length ≤ 8 → role_All.f k up (roles : Int) = some ((All up roles : Nat) : Int)) ∧ (¬ (Rt up ∧ up.length ≤ 8) → role_All.f k up (roles : Int) = some 0) := by
  unfold role_All.f
  obtain ⟨b, hb, hbr⟩ := Right_eq hl hk
  rw [hb, Option.bind_some]
  constructor
  · intro h
    rw [hbr.2 h]
    have h256 := le8 h.2
    have hm := @mask_lt roles up.length
    rw [show (!true) = false by rfl, cond_false, bit_eq k (by omega), Option.bind_some]
    rw [show IntKind.wrap .u64 (((2 ^ up.length : Nat) : Int) - 1) = ((2 ^ up.length - 1 : Nat) : Int) by have := Nat.two_pow_pos up.length; rw [wrapu (by omega)]; omega]
    rw [and64 hroles (by omega), wrapi (by omega), All_loop h.1 rfl h.2 _ _ _ (Nat.le_refl _) hm (by omega)]
    rfl
  · intro h
    have : b = false := by cases b with | false => rfl | true => exact (h (hbr.1 rfl)).elim
    rw [this]
    rfl

theorem has_eq (k : Nat) {o : Nat} (a : Int) : pyxref4_has.f k (o : Int) a = some (decide (0 ≤ a ∧ a < 64) && o.testBit a.toNat) := by
  unfold pyxref4_has.f
  by_cases h1 : a ≥ 0
  · rw [ct h1]
    by_cases h2 : a < 64
    · obtain ⟨v, rfl⟩ := Int.eq_ofNat_of_zero_le h1
      rw [ct h2, cf (by rw [wrapu (by omega)]; omega), shr_bit (by omega)]
      simp [h2]
    · rw [cf h2]
      simp [h2]
  · rw [cf h1]
    simp; omega

theorem RefAll_loop {up : List Int} (hr : Rt up) {n roles : Nat} (hn : n = up.length) (h8 : n ≤ 8) {k : Nat} : ∀ (i o m : Nat), i ≤ n → o < 2 ^ n → i < m →
    iter (pyxref4_All.l5.once k) m (up, (roles : Int), (o : Int), (i : Int) - 1) = some ((Rall up roles i o : Nat) : Int) := by
  have h256 := le8 h8
  intro i
  induction i with
  | zero =>
    intro o m _ _ hm
    obtain ⟨m, rfl⟩ : ∃ q, m = q + 1 := ⟨m - 1, by omega⟩
    refine iter_stop ?_
    unfold pyxref4_All.l5.once
    dsimp only
    rw [cf (by omega)]
    rfl
  | succ i ih =>
    intro o m hi ho hm
    obtain ⟨m, rfl⟩ : ∃ q, m = q + 1 := ⟨m - 1, by omega⟩
    have hs := rstep_lt (roles := roles) hr (show n ≤ up.length by omega) h8 (show i < n by omega) ho
    have hu := hr i (by omega)
    have hk2 : o ||| 2 ^ i < 2 ^ n := Nat.or_lt_two_pow ho (Nat.pow_lt_pow_right (by decide) (by omega))
    rw [iter_step (x' := (up, (roles : Int), ((rstep up roles i o : Nat) : Int), (i : Int) - 1))]
    · exact ih _ m (by omega) hs (by omega)
    · unfold pyxref4_All.l5.once
      dsimp only
      rw [show ((i + 1 : Nat) : Int) - 1 = (i : Int) by omega, ct (by omega), has_eq, Option.bind_some, has_eq]
      have hw : IntKind.wrap .i64 ((i : Int) - 1) = (i : Int) - 1 := wrapi (by omega)
      rw [decide_eq_true (show (0 : Int) ≤ (i : Int) ∧ (i : Int) < 64 by omega), Bool.true_and, Bool.true_and, Int.toNat_natCast, Option.bind_some]
      have step : ∀ b : Bool, (b = true ↔ (roles.testBit i = true ∨ o.testBit i = true)) → ((cond b (cond (decide (IntKind.wrap .u64 (i : Int) < 0)) none (cond (inb (i : Int) up.length) (cond (decide (up.getD (Int.toNat (i : Int)) 0 ≥ 0)) (cond (inb (i : Int) up.length)
          (cond (decide (IntKind.wrap .u64 (up.getD (Int.toNat (i : Int)) 0) < 0)) none (some (up, (roles : Int), bits .or .u64 (bits .or .u64 (o : Int) (IntKind.wrap .u64 (1 * 2 ^ (min (Int.toNat (IntKind.wrap .u64 (i : Int))) 64)))) (IntKind.wrap .u64 (1 * 2 ^ (min (Int.toNat (IntKind.wrap .u64 (up.getD (Int.toNat (i : Int)) 0))) 64))), (i : Int)))) none)
          (some (up, (roles : Int), bits .or .u64 (o : Int) (IntKind.wrap .u64 (1 * 2 ^ (min (Int.toNat (IntKind.wrap .u64 (i : Int))) 64))), (i : Int)))) none)) (some (up, (roles : Int), (o : Int), (i : Int))) : Option (List Int × Int × Int × Int)).bind fun y18 => (some (Sum.inl (y18.1, y18.2.1, y18.2.2.1, IntKind.wrap .i64 (y18.2.2.2 - 1))) : Option ((List Int × Int × Int × Int) ⊕ Int))) =
          some (Sum.inl (up, (roles : Int), ((rstep up roles i o : Nat) : Int), (i : Int) - 1)) := by
        intro b hb
        unfold rstep
        cases b with
        | true =>
          rw [if_pos (hb.1 rfl), cond_true, cf (by rw [wrapu (by omega)]; omega), inb_t (by omega) (by omega), cond_true, bit_w (by omega), or64 (by omega) (p64 (by omega)), Int.toNat_natCast]
          by_cases hp : up.getD i 0 ≥ 0
          · rw [ct hp, cond_true, if_pos hp]
            obtain ⟨v, hv⟩ := Int.eq_ofNat_of_zero_le hp
            rw [hv] at hu ⊢
            rw [cf (by rw [wrapu (by omega)]; omega), bit_w (by omega), or64 (by omega) (p64 (by omega)), Option.bind_some, hw, Int.toNat_natCast]
          · rw [cf hp, if_neg hp, Option.bind_some, hw]
        | false =>
          rw [if_neg (fun h => by cases hb.2 h), cond_false, Option.bind_some, hw]
      cases hb : roles.testBit i with
      | true => exact step true (by simp [hb])
      | false => exact step (o.testBit i) (by simp [hb])

theorem RefAll_eq {up : List Int} (hl : up.length ≤ 10) {roles : Nat} {k : Nat} (hk : 20 < k) :
    (Rt up ∧ up.length ≤ 8 → pyxref4_All.f k up (roles : Int) = some ((All up roles : Nat) : Int)) ∧ (¬ (Rt up ∧ up.length ≤ 8) → pyxref4_All.f k up (roles : Int) = some 0) := by
  unfold pyxref4_All.f
  obtain ⟨b, hb, hbr⟩ := RefRight_eq hl hk
  rw [hb, Option.bind_some]
  constructor
  · intro h
    rw [hbr.2 h, show (!true) = false by rfl, cond_false, wrapi (by omega)]
    have := RefAll_loop (roles := roles) (k := k) h.1 rfl h.2 up.length 0 k (Nat.le_refl _) (Nat.two_pow_pos _) (by omega)
    rw [show ((0 : Nat) : Int) = 0 by rfl] at this
    rw [this, Option.bind_some]
    congr 2
    unfold All
    refine (all_same (n := up.length) rfl _ _ _ (Nat.le_refl _) (fun j => ?_) (fun j h1 h2 => by omega)).symm
    rw [Nat.testBit_and, Nat.testBit_two_pow_sub_one, Nat.zero_testBit, Bool.or_false, Bool.and_comm]
  · intro h
    have : b = false := by cases b with | false => rfl | true => exact (h (hbr.1 rfl)).elim
    rw [this]
    rfl

theorem All_lt {up : List Int} {roles : Nat} (h : Rt up ∧ up.length ≤ 8) : All up roles < 2 ^ up.length := Pall_lt h.1 (Nat.le_refl _) h.2 (Nat.le_refl _) (mask_lt _)

/-- Parents made of raw numbers. -/
theorem parents_some (l : List Int) (bend : Int) {k : Nat} (hk : 20 < k) : ∃ up, pyxlaw9_parents.f k l bend = some up ∧ up.length ≤ 10 ∧ (bend = 0 → ∀ i, i < up.length → -1 ≤ up.getD i 0 ∧ up.getD i 0 < (i : Int)) := by
  unfold pyxlaw9_parents.f
  obtain ⟨y, h1, h2⟩ := iter_rule (once := pyxlaw9_parents.l3.once k) (fun x => ∃ (i : Nat) (up : List Int), x = (l, bend, (i : Int), up) ∧ i ≤ 10 ∧ up.length = i ∧ ∀ j, j < i → -1 ≤ up.getD j 0 ∧ up.getD j 0 < (j : Int))
    (fun x => 10 - x.2.2.1.toNat) (fun y => y.1 = bend ∧ y.2.length ≤ 10 ∧ ∀ j, j < y.2.length → -1 ≤ y.2.getD j 0 ∧ y.2.getD j 0 < (j : Int)) (by
    rintro _ ⟨i, up, rfl, hi, hlen, hj⟩
    unfold pyxlaw9_parents.l3.once
    dsimp only
    by_cases c1 : (i : Int) < (l.length : Int)
    · rw [ct c1, Option.bind_some]
      dsimp only
      by_cases c2 : (i : Int) < 10
      · rw [decide_eq_true c2, cond_true, inb_t (by omega) c1, cond_true, wrapi (by omega), Pick_eq k _ (by omega) (by omega), Option.bind_some]
        have hp := pick_bd (l.getD (Int.toNat (i : Int)) 0) (show (0 : Int) < (i : Int) + 1 by omega)
        generalize pick (l.getD (Int.toNat (i : Int)) 0) ((i : Int) + 1) = p at hp ⊢
        rw [wrapi (show -9223372036854775808 ≤ p - 1 ∧ p - 1 < 9223372036854775808 by omega)]
        have hok : okLen (up.length + [p - 1].length) 8 = true := by unfold okLen; simp; omega
        rw [hok, cond_true]
        left
        refine ⟨_, rfl, ⟨i + 1, up ++ [p - 1], rfl, by omega, by simp [hlen], fun j hj' => ?_⟩, ?_⟩
        · by_cases e : j = i
          · subst e
            rw [List.getD_eq_getElem?_getD, List.getElem?_append_right (by omega), hlen, Nat.sub_self]
            simp
            omega
          · rw [List.getD_eq_getElem?_getD, List.getElem?_append_left (by omega), ← List.getD_eq_getElem?_getD]
            exact hj j (by omega)
        · dsimp only; omega
      · rw [decide_eq_false c2, cond_false]
        right
        exact ⟨_, rfl, rfl, by dsimp only; omega, by dsimp only; rw [hlen]; exact hj⟩
    · rw [cf c1, Option.bind_some]
      right
      exact ⟨_, rfl, rfl, by dsimp only; omega, by dsimp only; rw [hlen]; exact hj⟩) k (l, bend, 0, []) ⟨0, [], rfl, by omega, rfl, fun j hj => by omega⟩ (by simp; omega)
  obtain ⟨b, up⟩ := y
  obtain ⟨rfl, h2, h3⟩ := h2
  dsimp only at h2 h3
  rw [h1, Option.bind_some]
  dsimp only
  by_cases c : (up.length : Int) > 0
  · rw [ct c, Option.bind_some]
    dsimp only
    by_cases c4 : (Int.tmod b 5 == 4) = true
    · rw [c4, cond_true, Pick_eq k _ c (by omega), Option.bind_some, Pick_eq k _ (by decide) (by decide), Option.bind_some]
      have hp := pick_bd b c
      rw [inb_t hp.1 hp.2, cond_true, blt_t (by omega), cond_true]
      refine ⟨_, rfl, by simp; exact h2, fun e => ?_⟩
      subst e
      exact absurd c4 (by decide)
    · rw [Bool.not_eq_true] at c4
      rw [c4, cond_false]
      exact ⟨_, rfl, h2, fun _ => h3⟩
  · rw [cf c, Option.bind_some, cond_false]
    exact ⟨_, rfl, h2, fun _ => h3⟩
theorem known9 : pyxlaw9_known.f 300 = some true := by decide +kernel
end Go.Proofs.Ytojkgadihooplaa.Pure
