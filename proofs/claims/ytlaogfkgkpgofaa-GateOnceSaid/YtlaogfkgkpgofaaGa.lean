/- What the gate's calls compute. No conditions but size. -/
import Derived.Test.YtlaogfkgkpgofaaUa
namespace Go.Proofs.Ytlaogfkgkpgofaa.Pure
set_option linter.unusedVariables false
set_option linter.unusedSimpArgs false
open Go Go.Ev Go.Lm Go.Pu Go.Dg
theorem nodup_lt : ∀ (n : Nat) (l : List Nat), l.Nodup → (∀ x ∈ l, x < n) → l.length ≤ n := by
  intro n
  induction n with
  | zero =>
    intro l _ h
    cases l with
    | nil => exact Nat.le_refl _
    | cons a r => exact absurd (h a List.mem_cons_self) (Nat.not_lt_zero _)
  | succ n ih =>
    intro l hn h
    by_cases hm : n ∈ l
    · have h1 := ih (l.erase n) (hn.erase n) (fun x hx => by
        have hx2 := List.mem_of_mem_erase hx
        have hne : x ≠ n := fun e => by
          subst e
          exact (hn.not_mem_erase) hx
        have := h x hx2
        omega)
      have h2 := List.length_erase_of_mem hm
      omega
    · have := ih l hn (fun x hx => by
        have hne : x ≠ n := fun e => hm (e ▸ hx)
        have := h x hx
        omega)
      omega
theorem keq_iff (a b : Sgate_Key) : keq_Sgate_Key a b = true ↔ a = b := by
  unfold keq_Sgate_Key
  obtain ⟨a1, a2, a3, a4⟩ := a
  obtain ⟨b1, b2, b3, b4⟩ := b
  simp
/-- What is let out, and what becomes of the gate. -/
noncomputable def relR (l : List Sgate_Out) (at_ : List (Sgate_Key × Int)) (r : Sapi_Rule) (n : Int) (key : Sgate_Key) (d : Sapi_Dec) : Sapi_Dec × Bool × Int × Sgate_Gate :=
  if r.f_Tag ≠ 3 ∨ r.f_Group ≠ key.f_Group ∨ r.f_Line ≠ key.f_Line then (nil0, false, 1, ⟨l, at_⟩) else
    match mget (keq_Sgate_Key key) at_ with
    | some j => ((l.getD j.toNat Sgate_Out.zero).f_Value, false, 0, ⟨l, at_⟩)
    | none => if (uR d r.f_Unit).2 ≠ 0 then (nil0, false, (uR d r.f_Unit).2, ⟨l, at_⟩) else ((uR d r.f_Unit).1, true, 0, ⟨l ++ [⟨key, n, (uR d r.f_Unit).1, r.f_To⟩], mput (keq_Sgate_Key key) key (l.length : Int) at_⟩)
theorem Release_eq {k : Nat} (hk : 260 < k) {l : List Sgate_Out} {at_ : List (Sgate_Key × Int)} {r : Sapi_Rule} (n : Int) (key : Sgate_Key) {d : Sapi_Dec} (hd : W2 d.f_C) (hu : W2 r.f_Unit.f_C) (hl : l.length ≤ 1000000) (ha : ∀ j, mget (keq_Sgate_Key key) at_ = some j → 0 ≤ j ∧ j < l.length) :
    gate_Gate_Release.f k ⟨l, at_⟩ r n key d = some (relR l at_ r n key d) := by
  obtain ⟨tag, role, verb, ent, grp, lin, u, to⟩ := r
  obtain ⟨g, ln, p, v⟩ := key
  have hun : quant_Unit.f k ⟨d.f_Neg, (d.f_C.1, d.f_C.2), d.f_Scale⟩ ⟨u.f_Neg, (u.f_C.1, u.f_C.2), u.f_Scale⟩ 4 = some (uR d u) := QUnit_any hk hd hu
  unfold gate_Gate_Release.f relR
  dsimp only
  have hj : (cond (tag != 3) (some (n, true, l, at_, (⟨tag, role, verb, ent, grp, lin, (⟨u.f_Neg, (u.f_C.1, u.f_C.2), u.f_Scale⟩ : Sapi_Dec), (⟨to.f_Set, to.f_Level⟩ : Sapi_Label)⟩ : Sapi_Rule), g, ln, p, v, d.f_Neg, d.f_C.1, d.f_C.2, d.f_Scale, false, 0, 0, 0)) (cond (grp != g) (some (n, true, l, at_, (⟨tag, role, verb, ent, grp, lin, (⟨u.f_Neg, (u.f_C.1, u.f_C.2), u.f_Scale⟩ : Sapi_Dec), (⟨to.f_Set, to.f_Level⟩ : Sapi_Label)⟩ : Sapi_Rule), g, ln, p, v, d.f_Neg, d.f_C.1, d.f_C.2, d.f_Scale, false, 0, 0, 0)) (some (n, lin != ln, l, at_, (⟨tag, role, verb, ent, grp, lin, (⟨u.f_Neg, (u.f_C.1, u.f_C.2), u.f_Scale⟩ : Sapi_Dec), (⟨to.f_Set, to.f_Level⟩ : Sapi_Label)⟩ : Sapi_Rule), g, ln, p, v, d.f_Neg, d.f_C.1, d.f_C.2, d.f_Scale, false, 0, 0, 0))) : Option (Int × Bool × List Sgate_Out × List (Sgate_Key × Int) × Sapi_Rule × Int × Int × Int × Int × Bool × Int × Int × Int × Bool × Int × Int × Int)) = some (n, decide (tag ≠ 3 ∨ grp ≠ g ∨ lin ≠ ln), l, at_, ⟨tag, role, verb, ent, grp, lin, u, to⟩, g, ln, p, v, d.f_Neg, d.f_C.1, d.f_C.2, d.f_Scale, false, 0, 0, 0) := by
    by_cases h1 : tag = 3
    · subst h1
      rw [bne_self_eq_false, cond_false]
      by_cases h2 : grp = g
      · subst h2
        rw [bne_self_eq_false, cond_false]
        have : (lin != ln) = decide ((3 : Int) ≠ 3 ∨ grp ≠ grp ∨ lin ≠ ln) := by
          by_cases h3 : lin = ln <;> simp [h3]
        rw [this]
      · rw [show (grp != g) = true by simp [h2], cond_true, decide_eq_true (.inr (.inl h2))]
    · rw [show (tag != 3) = true by simp [h1], cond_true, decide_eq_true (.inl h1)]
  rw [hj, Option.bind_some]
  dsimp only
  by_cases hc : tag ≠ 3 ∨ grp ≠ g ∨ lin ≠ ln
  · rw [ct hc, if_pos hc]
    rfl
  · rw [cf hc, if_neg hc, Option.bind_some]
    cases hm : mget (keq_Sgate_Key ⟨g, ln, p, v⟩) at_ with
    | some j =>
      obtain ⟨j0, j1⟩ := ha j hm
      rw [Option.isSome_some, cond_true, Option.getD_some, inb_t j0 (by omega), cond_true]
    | none =>
      rw [Option.isSome_none, cond_false, hun, Option.bind_some]
      by_cases h0 : (uR d u).2 = 0
      · rw [show ((uR d u).2 != 0) = false by rw [h0]; rfl, cond_false, okLen_t (by simp; omega), cond_true]
        dsimp only
        rw [if_neg (by omega)]
      · rw [show ((uR d u).2 != 0) = true by rw [bne_iff_ne]; exact h0, cond_true]
        dsimp only
        rw [if_pos h0]
        rfl
end Go.Proofs.Ytlaogfkgkpgofaa.Pure
