/- What a table of rates holds and tells. No conditions but size. -/
import Derived.Test.YtlaogfkgkpgofaaDq
namespace Go.Proofs.Ytlaogfkgkpgofaa.Pure
set_option linter.unusedVariables false
set_option linter.unusedSimpArgs false
open Go Go.Ev Go.Lm Go.Pu Go.Dg
theorem bof {α β : Type} {o : Option α} {v : α} {f : α → Option β} {r : Option β} (h : o = some v) (h' : f v = r) : o.bind f = r := by rw [h]; exact h'
theorem dOf_DV (k : Nat) {n : Int} (h : -9223372036854775808 ≤ n ∧ n < 9223372036854775808) (s : Int) : dec_Of.f k n s = some (DV n (cl s)) := by
  have e : (if (if (9 : Int) < s then 9 else s) > 0 then (if (9 : Int) < s then 9 else s) else 0) = ((cl s : Nat) : Int) := by
    unfold cl
    by_cases h9 : (9 : Int) < s
    · rw [if_pos h9, if_pos (by omega)]; omega
    · rw [if_neg h9]; split <;> omega
  have hw : w2 n.natAbs = (((n.natAbs : Nat) : Int), 0) := by
    unfold w2
    rw [Nat.mod_eq_of_lt (by omega), Nat.div_eq_of_lt (by omega)]
    rfl
  unfold dec_Of.f DV
  rw [hw]
  by_cases hn : n < 0
  · rw [ct hn, Option.bind_some]
    dsimp only
    rw [wrap64, wrap64, show (0 - n % 18446744073709551616) % 18446744073709551616 = ((n.natAbs : Nat) : Int) by omega, Of_eq, Option.bind_some, e]
  · rw [cf hn, Option.bind_some]
    dsimp only
    rw [wrap64, show n % 18446744073709551616 = ((n.natAbs : Nat) : Int) by omega, Of_eq, Option.bind_some, e]
theorem keq_iff (a b : Srate_Key) : keq_Srate_Key a b = true ↔ a = b := by
  cases a
  cases b
  unfold keq_Srate_Key
  simp
theorem mget_mput {α β : Type} {K : α → α → Bool} (hK : ∀ a b, K a b = true ↔ a = b) (k k' : α) (v : β) [Decidable (k' = k)] : ∀ l : List (α × β), mget (K k') (mput (K k) k v l) = if k' = k then some v else mget (K k') l
  | [] => by
    simp only [mput, mget]
    by_cases h : k' = k
    · rw [if_pos h, (hK k' k).2 h]; rfl
    · rw [if_neg h, Bool.eq_false_iff.2 (fun e => h ((hK _ _).1 e))]; rfl
  | p :: r => by
    simp only [mput]
    cases hp : K k p.1 with
    | true =>
      have e := (hK _ _).1 hp
      simp only [cond_true, mget]
      by_cases h : k' = k
      · rw [if_pos h, (hK k' p.1).2 (h.trans e)]; rfl
      · rw [if_neg h, Bool.eq_false_iff.2 (fun e' => h (((hK _ _).1 e').trans e.symm))]; rfl
    | false =>
      simp only [cond_false, mget]
      rw [mget_mput hK k k' v r]
      by_cases h : k' = k
      · have : K k' p.1 = false := by rw [h]; exact hp
        rw [this, if_pos h, if_pos h]; rfl
      · rw [if_neg h, if_neg h]
/-- In range. -/
def placed (q : Srate_Key) : Bool := decide ((0 ≤ q.f_Period ∧ q.f_Period < 12) ∧ (0 ≤ q.f_Kind ∧ q.f_Kind < 3))
/-- Above nothing, below a million, of six places at most. -/
def goodR (v : Int) (s : Nat) : Bool := decide (0 < v) && (decide (s ≤ 6) && decide (v < 1000000 * 10 ^ s))
theorem sgn_le (v : Int) : sgn v ≤ 0 ↔ v ≤ 0 := by unfold sgn; split <;> (try split) <;> omega
theorem sgn_ge (v : Int) : sgn v ≥ 0 ↔ v ≥ 0 := by unfold sgn; split <;> (try split) <;> omega
theorem Set_DV {k : Nat} (hk : 60 < k) (T : List (Srate_Key × Sapi_Dec)) (q : Srate_Key) {v : Int} {s : Nat} (hv : Sm v) (hs : s ≤ 9) :
    rate_Table_Set.f k ⟨T⟩ q (DV v s) = some (cond (placed q && goodR v s) (0, ⟨mput (keq_Srate_Key q) q (DV v s) T⟩) (1, ⟨T⟩)) := by
  unfold rate_Table_Set.f
  refine bof (v := (placed q, T, q.f_Period, q.f_Kind, (DV v s).f_Neg, (DV v s).f_C.1, (DV v s).f_C.2, (DV v s).f_Scale)) ?_ ?_
  · by_cases h1 : q.f_Period ≥ 0
    · rw [ct h1]
      by_cases h2 : q.f_Period < 12
      · rw [ct h2]
        by_cases h3 : q.f_Kind ≥ 0
        · rw [ct h3]
          have : placed q = decide (q.f_Kind < 3) := by
            unfold placed
            by_cases h4 : q.f_Kind < 3
            · rw [decide_eq_true h4, decide_eq_true ⟨⟨h1, h2⟩, h3, h4⟩]
            · rw [decide_eq_false h4, decide_eq_false (fun h => h4 h.2.2)]
          rw [this]
        · rw [cf h3, show placed q = false from decide_eq_false (fun h => h3 h.2.1)]
      · rw [cf h2, show placed q = false from decide_eq_false (fun h => h2 h.1.2)]
    · rw [cf h1, show placed q = false from decide_eq_false (fun h => h1 h.1.1)]
  refine bof (v := (!(placed q && goodR v s), T, q.f_Period, q.f_Kind, (DV v s).f_Neg, (DV v s).f_C.1, (DV v s).f_C.2, (DV v s).f_Scale)) ?_ ?_
  · dsimp only
    cases hp : placed q with
    | false => rfl
    | true =>
      simp only [Bool.not_true, cond_false, Bool.true_and]
      refine bof (v := sgn v) (Sign_DV hk hv hs) ?_
      by_cases h1 : sgn v ≤ 0
      · have : goodR v s = false := by unfold goodR; rw [decide_eq_false (by have := (sgn_le v).1 h1; omega)]; rfl
        rw [ct h1, this]
        rfl
      · have h1' : 0 < v := by
          have h3 : ¬ v ≤ 0 := fun h => h1 ((sgn_le v).2 h)
          omega
        rw [cf h1]
        by_cases h2 : (DV v s).f_Scale > 6
        · have h2' : (6 : Int) < (s : Int) := h2
          have : goodR v s = false := by unfold goodR; rw [decide_eq_true h1', decide_eq_false (show ¬ s ≤ 6 by omega)]; rfl
          rw [ct h2, this]
          rfl
        · have h2' : ¬ (6 : Int) < (s : Int) := h2
          rw [cf h2]
          refine bof (v := DV 1000000 0) (dOf_DV k (by decide) 0) ?_
          refine bof (v := sgn (v * 10 ^ (max s 0 - s) - 1000000 * 10 ^ (max s 0 - 0))) (Cmp_DV (j := 1000000) (t := 0) hk hv (by unfold Sm; decide) hs (by decide)) ?_
          rw [show max s 0 = s by omega, Nat.sub_self, Nat.sub_zero, Int.pow_zero, Int.mul_one]
          have : (!goodR v s) = decide (sgn (v - 1000000 * 10 ^ s) ≥ 0) := by
            unfold goodR
            rw [decide_eq_true h1', decide_eq_true (show s ≤ 6 by omega), Bool.true_and, Bool.true_and]
            by_cases h3 : v < 1000000 * 10 ^ s
            · rw [decide_eq_true h3, decide_eq_false (fun h => by have := (sgn_ge _).1 h; omega)]; rfl
            · rw [decide_eq_false h3, decide_eq_true ((sgn_ge _).2 (by omega))]; rfl
          rw [this]
  · dsimp only
    cases placed q && goodR v s with
    | false => rfl
    | true => rfl
theorem Set_ok {k : Nat} (hk : 60 < k) (T : List (Srate_Key × Sapi_Dec)) (q : Srate_Key) {v : Int} {s : Nat} (hv : Sm v) (hs : s ≤ 9) (h : (placed q && goodR v s) = true) : rate_Table_Set.f k ⟨T⟩ q (DV v s) = some (0, ⟨mput (keq_Srate_Key q) q (DV v s) T⟩) := by
  rw [Set_DV hk T q hv hs, h]; rfl
theorem Set_no {k : Nat} (hk : 60 < k) (T : List (Srate_Key × Sapi_Dec)) (q : Srate_Key) {v : Int} {s : Nat} (hv : Sm v) (hs : s ≤ 9) (h : (placed q && goodR v s) = false) : rate_Table_Set.f k ⟨T⟩ q (DV v s) = some (1, ⟨T⟩) := by
  rw [Set_DV hk T q hv hs, h]; rfl
/-- What is got. -/
def got (T : List (Srate_Key × Sapi_Dec)) : Option Sapi_Dec → Sapi_Dec × Int × Srate_Table
  | some d => (d, 0, ⟨T⟩)
  | none => (nil0, 11, ⟨T⟩)
theorem Get_eq (k : Nat) (T : List (Srate_Key × Sapi_Dec)) (q : Srate_Key) : rate_Table_Get.f k ⟨T⟩ q = some (got T (mget (keq_Srate_Key q) T)) := by
  unfold rate_Table_Get.f
  show (some (mget (keq_Srate_Key q) T)).bind _ = _
  rw [Option.bind_some]
  cases mget (keq_Srate_Key q) T <;> rfl
theorem Keys_eq (k : Nat) {T : List (Srate_Key × Sapi_Dec)} (h : T.length ≤ 1000000) : rate_Table_Keys.f k ⟨T⟩ = some (srt_Srate_Key (T.map fun p => p.1), ⟨T⟩) := by
  unfold rate_Table_Keys.f
  rw [okLen_t (by rw [List.length_map]; show T.length * 16 ≤ _; omega), cond_true]
  refine bof (v := srt_Srate_Key (T.map fun p => p.1)) ?_ rfl
  unfold slices_Clip_rate_Key.f
  rw [decide_eq_true rfl, inS_t (by omega) (by omega) (by omega)]
  simp
theorem known_eq {k : Nat} (hk : 602 < k) : pyxlaw16_known.f k = some true := by
  unfold pyxlaw16_known.f
  refine bof (v := ⟨[]⟩) rfl ?_
  refine bof (Get_eq k [] ⟨3, 1⟩) ?_
  refine bof (ROf_DV hk (by decide) 2) ?_
  refine bof (Set_ok (by omega) [] ⟨3, 1⟩ (v := 125) (s := 2) (by unfold Sm; decide) (by decide) (by decide)) ?_
  refine bof (Get_eq k [(⟨3, 1⟩, DV 125 2)] ⟨3, 1⟩) ?_
  refine bof (ROf_DV hk (by decide) 2) ?_
  rfl
theorem get_same (T : List (Srate_Key × Sapi_Dec)) (q : Srate_Key) (d : Sapi_Dec) : mget (keq_Srate_Key q) (mput (keq_Srate_Key q) q d T) = some d := by
  rw [@mget_mput _ _ _ keq_iff q q d (Classical.propDecidable _) T, if_pos rfl]
theorem get_other (T : List (Srate_Key × Sapi_Dec)) {q q' : Srate_Key} (h : q' ≠ q) (d : Sapi_Dec) : mget (keq_Srate_Key q') (mput (keq_Srate_Key q) q d T) = mget (keq_Srate_Key q') T := by
  rw [@mget_mput _ _ _ keq_iff q q' d (Classical.propDecidable _) T, if_neg h]
theorem key_eq {a b c d : Int} : (⟨a, b⟩ : Srate_Key) = ⟨c, d⟩ ↔ ((a == c) && (b == d)) = true := by simp
end Go.Proofs.Ytlaogfkgkpgofaa.Pure
