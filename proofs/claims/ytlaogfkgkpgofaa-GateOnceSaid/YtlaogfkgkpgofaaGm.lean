/- The map of a gate against its list. No conditions but size. -/
import Derived.Test.YtlaogfkgkpgofaaGa
namespace Go.Proofs.Ytlaogfkgkpgofaa.Pure
set_option linter.unusedVariables false
set_option linter.unusedSimpArgs false
open Go Go.Ev Go.Lm Go.Pu Go.Dg
theorem mput_none {α β : Type} {eq : α → Bool} {k : α} {v : β} : ∀ {l : List (α × β)}, mget eq l = none → mput eq k v l = l ++ [(k, v)] := by
  intro l
  induction l with
  | nil => intro _; rfl
  | cons p r ih =>
    intro h
    unfold mget at h
    unfold mput
    cases hp : eq p.1 with
    | true => rw [hp, cond_true] at h; cases h
    | false =>
      rw [hp, cond_false] at h
      rw [cond_false, ih h]
      rfl
theorem mget_app {α β : Type} {eq : α → Bool} {k : α} {v : β} : ∀ {l : List (α × β)}, mget eq (l ++ [(k, v)]) = match mget eq l with | some j => some j | none => cond (eq k) (some v) none := by
  intro l
  induction l with
  | nil => rfl
  | cons p r ih =>
    rw [List.cons_append]
    unfold mget
    cases hp : eq p.1 with
    | true => rfl
    | false => rw [cond_false, cond_false, ih]
/-- The map knows where each key stands. -/
def AT (l : List Sgate_Out) (at_ : List (Sgate_Key × Int)) : Prop := ∀ key, match mget (keq_Sgate_Key key) at_ with
  | none => l.find? (fun x => keq_Sgate_Key key x.f_K) = none
  | some j => 0 ≤ j ∧ j < l.length ∧ l.find? (fun x => keq_Sgate_Key key x.f_K) = some (l.getD j.toNat Sgate_Out.zero)
theorem AT_nil : AT [] [] := fun key => rfl
theorem AT_app {l : List Sgate_Out} {at_ : List (Sgate_Key × Int)} (h : AT l at_) {x : Sgate_Out} (hn : mget (keq_Sgate_Key x.f_K) at_ = none) : AT (l ++ [x]) (mput (keq_Sgate_Key x.f_K) x.f_K (l.length : Int) at_) := by
  intro key
  rw [mput_none hn, mget_app]
  have hk := h key
  cases hm : mget (keq_Sgate_Key key) at_ with
  | some j =>
    rw [hm] at hk
    obtain ⟨h1, h2, h3⟩ := hk
    refine ⟨h1, by rw [List.length_append]; omega, ?_⟩
    rw [List.find?_append, h3, Option.some_or, List.getD_eq_getElem?_getD, List.getD_eq_getElem?_getD, List.getElem?_append_left (by omega)]
  | none =>
    rw [hm] at hk
    have hk : l.find? (fun x => keq_Sgate_Key key x.f_K) = none := hk
    cases he : keq_Sgate_Key key x.f_K with
    | true =>
      refine ⟨by omega, by rw [List.length_append, List.length_singleton]; omega, ?_⟩
      rw [List.find?_append, hk, Option.none_or, Int.toNat_natCast, List.getD_eq_getElem?_getD, List.getElem?_append_right (by omega), Nat.sub_self]
      simp [he]
    | false =>
      show (l ++ [x]).find? (fun x => keq_Sgate_Key key x.f_K) = none
      rw [List.find?_append, hk, Option.none_or]
      simp [he]
end Go.Proofs.Ytlaogfkgkpgofaa.Pure
