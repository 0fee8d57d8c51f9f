/- Plain laws: An, Kn, KnA, KnB, KnC, KnD, PureTransKnown. No conditions but size. -/
import Derived.Test.YtbchcjlllddlpaaFs
/- What comes of all orders of some entries alike: reckoned one by one. -/
namespace Go.Proofs.Ytbchcjlllddlpaa.Pure
set_option linter.unusedVariables false
set_option linter.unusedSimpArgs false
open Go Go.Ev
/-- a put into each place. -/
def insA {α : Type} (a : α) : List α → List (List α)
  | [] => [[a]]
  | x :: r => (a :: x :: r) :: (insA a r).map (x :: ·)
def permsA {α : Type} : List α → List (List α)
  | [] => [[]]
  | a :: l => (permsA l).flatMap (insA a)
theorem insA_mem {α : Type} (a : α) : ∀ s t : List α, s ++ a :: t ∈ insA a (s ++ t)
  | [], [] => List.mem_cons_self
  | [], x :: t => List.mem_cons_self
  | x :: s, t => List.mem_cons_of_mem _ (List.mem_map.2 ⟨_, insA_mem a s t, rfl⟩)
theorem permsA_mem {α : Type} : ∀ {l σ : List α}, σ.Perm l → σ ∈ permsA l
  | [], σ, h => by
    rw [h.eq_nil]
    exact List.mem_cons_self
  | a :: l, σ, h => by
    obtain ⟨s, t, rfl⟩ := List.append_of_mem (h.mem_iff.2 List.mem_cons_self)
    have h2 : (s ++ t).Perm l := List.Perm.cons_inv (List.perm_middle.symm.trans h)
    exact List.mem_flatMap.2 ⟨_, permsA_mem h2, insA_mem a s t⟩
/-- As anyP, reckoned. -/
def anyC {α ρ : Type} [DecidableEq ρ] (es : List α) (f : List α → Option ρ) : Option ρ := match f es with
  | some r => if (permsA es).all (fun σ => decide (f σ = some r)) then some r else none
  | none => none
theorem anyC_P {α ρ : Type} [DecidableEq ρ] {es : List α} {f : List α → Option ρ} {r : ρ} (h : anyC es f = some r) : anyP es f = some r := by
  unfold anyC at h
  split at h
  · split at h
    · rename_i ha
      cases h
      exact anyP_of fun σ hσ => of_decide_eq_true (List.all_eq_true.1 ha σ (permsA_mem hσ))
    · cases h
  · cases h
theorem bind_imp {α β : Type} {X : Option α} {F G : α → Option β} {r : β} (h : ∀ v, F v = some r → G v = some r) (h' : X.bind F = some r) : X.bind G = some r := by
  cases X with
  | none => cases h'
  | some v => exact h v h'
end Go.Proofs.Ytbchcjlllddlpaa.Pure
/- Chapter 17's second example, its five entries made in a given order. -/
namespace Go.Proofs.Ytbchcjlllddlpaa.Pure
set_option linter.unusedVariables false
set_option linter.unusedSimpArgs false
open Go Go.Ev
noncomputable def kn17 (k : Nat) (σ : List ((Int × Int) × Sapi_Dec)) : Option Bool := (rate_New.f k).bind fun t1 => ((((some true).bind fun t2 => (cond (!t2) (some (true, t1.f_l)) (some (false, t1.f_l)))) : Option (Bool × List (Srate_Key × Sapi_Dec))).bind fun y5 => (cond (y5.1) (some false) ((pyxref1_Of.f k 2 0).bind fun t6 => ((rate_Table_Set.f k (⟨y5.2⟩ : Srate_Table) (⟨0, 0⟩ : Srate_Key) (⟨t6.f_Neg, (t6.f_C.1, t6.f_C.2), t6.f_Scale⟩ : Sapi_Dec)).bind fun t7 => ((pyxref1_Of.f k 3 0).bind fun t8 => ((rate_Table_Set.f k (⟨t7.2.f_l⟩ : Srate_Table) (⟨0, 1⟩ : Srate_Key) (⟨t8.f_Neg, (t8.f_C.1, t8.f_C.2), t8.f_Scale⟩ : Sapi_Dec)).bind fun t9 => ((trans_Of.f k [] (⟨t9.2.f_l⟩ : Srate_Table) 0).bind fun t10 => ((pyxref1_Of.f k 5 1).bind fun t11 => ((rate_Table_Set.f k (⟨t10.2.2.2.2.f_l⟩ : Srate_Table) (⟨0, 2⟩ : Srate_Key) (⟨t11.f_Neg, (t11.f_C.1, t11.f_C.2), t11.f_Scale⟩ : Sapi_Dec)).bind fun t12 => ((pyxref1_Of.f k 10 0).bind fun t13 => ((pyxref1_Of.f k (-4) 0).bind fun t14 => ((pyxref1_Of.f k (-3) 0).bind fun t15 => ((pyxref1_Of.f k (-3) 0).bind fun t16 => ((pyxref1_Of.f k 1 3).bind fun t17 => ((fun t18 => ((trans_Of.f k (puts keq_a2_i64 t18 []) (⟨t12.2.f_l⟩ : Srate_Table) 0).bind fun t19 => ((pyxref1_Of.f k 25 1).bind fun t20 => ((trans_Flow.f k (⟨t20.f_Neg, (t20.f_C.1, t20.f_C.2), t20.f_Scale⟩ : Sapi_Dec) (⟨t19.2.2.2.2.f_l⟩ : Srate_Table) 0).bind fun t21 => ((trans_Of.f k t19.2.2.2.1 (⟨t21.2.2.f_l⟩ : Srate_Table) 1).bind fun t22 => ((trans_Of_n1.f k t22.2.2.2.1 () 0).bind fun t23 => ((pyxref1_Of.f k 1 0).bind fun t24 => ((trans_Flow_n1.f k (⟨t24.f_Neg, (t24.f_C.1, t24.f_C.2), t24.f_Scale⟩ : Sapi_Dec) () 0).bind fun t25 => ((pyxref1_Of.f k 1 0).bind fun t26 => ((trans_Flow.f k (⟨t26.f_Neg, (t26.f_C.1, t26.f_C.2), t26.f_Scale⟩ : Sapi_Dec) (⟨t22.2.2.2.2.f_l⟩ : Srate_Table) 2).bind fun t27 => (cond (t10.2.2.1 == 11) (cond (t19.2.2.1 == 0) (cond ((List.length t19.1 : Int) == 4) ((some (mget (keq_a2_i64 (1, 0)) t19.1)).bind fun t28 => ((some (Option.getD t28 (⟨false, (0, 0), 0⟩ : Sapi_Dec))).bind fun t29 => ((pyxref1_Of.f k 2000 2).bind fun t30 => (cond ((t29.f_Neg == t30.f_Neg) && ((t29.f_C.1 == t30.f_C.1) && ((t29.f_C.2 == t30.f_C.2) && (t29.f_Scale == t30.f_Scale)))) ((some (mget (keq_a2_i64 (6, 3)) t19.1)).bind fun t31 => ((some (Option.getD t31 (⟨false, (0, 0), 0⟩ : Sapi_Dec))).bind fun t32 => ((pyxref1_Of.f k (-800) 2).bind fun t33 => (cond ((t32.f_Neg == t33.f_Neg) && ((t32.f_C.1 == t33.f_C.1) && ((t32.f_C.2 == t33.f_C.2) && (t32.f_Scale == t33.f_Scale)))) ((some (mget (keq_a2_i64 (7, 0)) t19.1)).bind fun t34 => ((some (Option.getD t34 (⟨false, (0, 0), 0⟩ : Sapi_Dec))).bind fun t35 => ((pyxref1_Of.f k (-150) 2).bind fun t36 => (cond ((t35.f_Neg == t36.f_Neg) && ((t35.f_C.1 == t36.f_C.1) && ((t35.f_C.2 == t36.f_C.2) && (t35.f_Scale == t36.f_Scale)))) ((some (mget (keq_a2_i64 (9, 0)) t19.1)).bind fun t37 => ((some (Option.getD t37 (⟨false, (0, 0), 0⟩ : Sapi_Dec))).bind fun t38 => ((pyxref1_Of.f k (-900) 2).bind fun t39 => (cond ((t38.f_Neg == t39.f_Neg) && ((t38.f_C.1 == t39.f_C.1) && ((t38.f_C.2 == t39.f_C.2) && (t38.f_Scale == t39.f_Scale)))) ((pyxref1_Of.f k (-150) 2).bind fun t40 => (cond ((t19.2.1.f_Neg == t40.f_Neg) && ((t19.2.1.f_C.1 == t40.f_C.1) && ((t19.2.1.f_C.2 == t40.f_C.2) && (t19.2.1.f_Scale == t40.f_Scale)))) (cond (t21.2.1 == 0) ((pyxref1_Of.f k 750 2).bind fun t41 => (cond ((t21.1.f_Neg == t41.f_Neg) && ((t21.1.f_C.1 == t41.f_C.1) && ((t21.1.f_C.2 == t41.f_C.2) && (t21.1.f_Scale == t41.f_Scale)))) (cond (t22.2.2.1 == 11) (cond (t23.2.2.1 == 1) (cond (t25.2 == 1) (some (t27.2.1 == 11)) (some false)) (some false)) (some false)) (some false))) (some false)) (some false))) (some false))))) (some false))))) (some false))))) (some false))))) (some false)) (some false)) (some false)))))))))))) σ)))))))))))))))
noncomputable def kd (i : Int) (s : Int) : Sapi_Dec := (pyxref1_Of.f 2000 i s).getD ⟨false, (0, 0), 0⟩
noncomputable def kes : List ((Int × Int) × Sapi_Dec) := [((1, 0), kd 10 0), ((6, 3), kd (-4) 0), ((7, 0), kd (-3) 0), ((9, 0), kd (-3) 0), ((2, 0), kd 1 3)]
/-- Six of the orders. -/
noncomputable def kn6 (i : Nat) : Bool := (((permsA kes).drop (6 * i)).take 6).all (fun σ => decide (kn17 2000 σ = some true))
end Go.Proofs.Ytbchcjlllddlpaa.Pure
/- Thirty orders of the five entries, reckoned. -/
namespace Go.Proofs.Ytbchcjlllddlpaa.Pure
set_option linter.unusedVariables false
set_option linter.unusedSimpArgs false
open Go Go.Ev
theorem kn6_0 : kn6 0 = true := by decide +kernel
theorem kn6_1 : kn6 1 = true := by decide +kernel
theorem kn6_2 : kn6 2 = true := by decide +kernel
theorem kn6_3 : kn6 3 = true := by decide +kernel
theorem kn6_4 : kn6 4 = true := by decide +kernel
end Go.Proofs.Ytbchcjlllddlpaa.Pure
/- Thirty orders of the five entries, reckoned. -/
namespace Go.Proofs.Ytbchcjlllddlpaa.Pure
set_option linter.unusedVariables false
set_option linter.unusedSimpArgs false
open Go Go.Ev
theorem kn6_5 : kn6 5 = true := by decide +kernel
theorem kn6_6 : kn6 6 = true := by decide +kernel
theorem kn6_7 : kn6 7 = true := by decide +kernel
theorem kn6_8 : kn6 8 = true := by decide +kernel
theorem kn6_9 : kn6 9 = true := by decide +kernel
end Go.Proofs.Ytbchcjlllddlpaa.Pure
/- Thirty orders of the five entries, reckoned. -/
namespace Go.Proofs.Ytbchcjlllddlpaa.Pure
set_option linter.unusedVariables false
set_option linter.unusedSimpArgs false
open Go Go.Ev
theorem kn6_10 : kn6 10 = true := by decide +kernel
theorem kn6_11 : kn6 11 = true := by decide +kernel
theorem kn6_12 : kn6 12 = true := by decide +kernel
theorem kn6_13 : kn6 13 = true := by decide +kernel
theorem kn6_14 : kn6 14 = true := by decide +kernel
end Go.Proofs.Ytbchcjlllddlpaa.Pure
/- Thirty orders of the five entries, reckoned. -/
namespace Go.Proofs.Ytbchcjlllddlpaa.Pure
set_option linter.unusedVariables false
set_option linter.unusedSimpArgs false
open Go Go.Ev
theorem kn6_15 : kn6 15 = true := by decide +kernel
theorem kn6_16 : kn6 16 = true := by decide +kernel
theorem kn6_17 : kn6 17 = true := by decide +kernel
theorem kn6_18 : kn6 18 = true := by decide +kernel
theorem kn6_19 : kn6 19 = true := by decide +kernel
end Go.Proofs.Ytbchcjlllddlpaa.Pure
/- TransKnown: chapter 17's example. A closed sentence. -/
namespace Go.Proofs.Ytbchcjlllddlpaa.Pure
set_option linter.unusedVariables false
set_option linter.unusedSimpArgs false
open Go Go.Ev
theorem known17 : pyxlaw17_known.f 2000 = some true := by
  unfold pyxlaw17_known.f
  refine bind_imp (fun t1 => bind_imp (fun t2 => anyC_P)) ?_
  decide +kernel
theorem kn6_all : ∀ i, i < 20 → kn6 i = true
  | 0, _ => kn6_0
  | 1, _ => kn6_1
  | 2, _ => kn6_2
  | 3, _ => kn6_3
  | 4, _ => kn6_4
  | 5, _ => kn6_5
  | 6, _ => kn6_6
  | 7, _ => kn6_7
  | 8, _ => kn6_8
  | 9, _ => kn6_9
  | 10, _ => kn6_10
  | 11, _ => kn6_11
  | 12, _ => kn6_12
  | 13, _ => kn6_13
  | 14, _ => kn6_14
  | 15, _ => kn6_15
  | 16, _ => kn6_16
  | 17, _ => kn6_17
  | 18, _ => kn6_18
  | 19, _ => kn6_19
  | i + 20, h => by omega
theorem kn_len : (permsA kes).length ≤ 120 := by decide +kernel
theorem kn_all (σ : List ((Int × Int) × Sapi_Dec)) (h : σ ∈ permsA kes) : kn17 2000 σ = some true := by
  obtain ⟨j, hj, e⟩ := List.getElem_of_mem h
  have h1 := kn6_all (j / 6) (by have := kn_len; omega)
  unfold kn6 at h1
  have h2 := List.all_eq_true.1 h1 σ (by
    refine List.mem_of_getElem? (i := j % 6) ?_
    rw [List.getElem?_take_of_lt (Nat.mod_lt _ (by omega)), List.getElem?_drop, show 6 * (j / 6) + j % 6 = j by omega, List.getElem?_eq_getElem hj, e])
  exact of_decide_eq_true h2
theorem bind_all {α σ ρ : Type} {L : List σ} {X : Option α} {H : α → σ → Option ρ} {F : α → Option ρ} {r : ρ} (h : ∀ s ∈ L, (X.bind fun v => H v s) = some r) (hL : L ≠ []) (hF : ∀ v, X = some v → (∀ s ∈ L, H v s = some r) → F v = some r) : X.bind F = some r := by
  cases hX : X with
  | none =>
    obtain ⟨s, hs⟩ := List.exists_mem_of_ne_nil L hL
    have := h s hs
    rw [hX] at this
    cases this
  | some v =>
      refine hF v hX fun s hs => ?_
      have := h s hs
      rw [hX] at this
      exact this
theorem cond_all {σ ρ : Type} {L : List σ} {b : Bool} {A B' : Option ρ} {B : σ → Option ρ} {r : ρ} (h : ∀ s ∈ L, cond b A (B s) = some r) (hL : L ≠ []) (hF : (∀ s ∈ L, B s = some r) → B' = some r) : cond b A B' = some r := by
  cases b with
  | true =>
    obtain ⟨s, hs⟩ := List.exists_mem_of_ne_nil L hL
    exact h s hs
  | false => exact hF h
theorem kn_ne : permsA kes ≠ [] := fun e => by
  have := permsA_mem (List.Perm.refl kes)
  rw [e] at this
  cases this
theorem TransKnown : ∃ k, pyxlaw17_TransKnown.f k = some true := by
  refine ⟨2000, ?_⟩
  unfold pyxlaw17_TransKnown.f
  rw [known17]
  have hall := kn_all
  unfold kn17 at hall
  refine bind_all hall kn_ne fun t1 e1 hall => bind_all hall kn_ne fun y5 e5 hall => cond_all hall kn_ne fun hall => ?_
  refine bind_all hall kn_ne fun t6 e6 hall => bind_all hall kn_ne fun t7 e7 hall => bind_all hall kn_ne fun t8 e8 hall => bind_all hall kn_ne fun t9 e9 hall => bind_all hall kn_ne fun t10 e10 hall => ?_
  refine bind_all hall kn_ne fun t11 e11 hall => bind_all hall kn_ne fun t12 e12 hall => bind_all hall kn_ne fun t13 e13 hall => bind_all hall kn_ne fun t14 e14 hall => bind_all hall kn_ne fun t15 e15 hall => ?_
  refine bind_all hall kn_ne fun t16 e16 hall => bind_all hall kn_ne fun t17 e17 hall => ?_
  have e0 : t15 = t16 := Option.some.inj (e15.symm.trans e16)
  subst e0
  have hes : kes = [((1, 0), t13), ((6, 3), t14), ((7, 0), t15), ((9, 0), t15), ((2, 0), t17)] := by
    unfold kes kd
    rw [e13, e14, e15, e17]
    rfl
  refine anyP_of fun σ hσ => hall σ (permsA_mem ?_)
  rw [hes]
  exact hσ
end Go.Proofs.Ytbchcjlllddlpaa.Pure
