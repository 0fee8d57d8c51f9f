/- The document's gate: what its Release computes; the map of a gate against its list. No conditions but size. -/
import Derived.Test.YtlaogfkgkpgofaaGa
namespace Go.Proofs.Ytlaogfkgkpgofaa.Pure
set_option linter.unusedVariables false
set_option linter.unusedSimpArgs false
open Go Go.Ev Go.Lm Go.Pu Go.Dg
theorem mput_none {α β : Type} {eq : α → Bool} {k : α} {v : β} : ∀ {l : List (α × β)}, mget eq l = none → mput eq k v l = l ++ [(k, v)] := by
  intro l
  induction l with
  | nil => intro _; rfl
  | cons p r ih =>
    intro h
    unfold mget at h
    unfold mput
    cases hp : eq p.1 with
    | true => rw [hp, cond_true] at h; cases h
    | false =>
      rw [hp, cond_false] at h
      rw [cond_false, ih h]
      rfl
theorem mget_app {α β : Type} {eq : α → Bool} {k : α} {v : β} : ∀ {l : List (α × β)}, mget eq (l ++ [(k, v)]) = match mget eq l with | some j => some j | none => cond (eq k) (some v) none := by
  intro l
  induction l with
  | nil => rfl
  | cons p r ih =>
    rw [List.cons_append]
    unfold mget
    cases hp : eq p.1 with
    | true => rfl
    | false => rw [cond_false, cond_false, ih]
/-- The map knows where each key stands. -/
def AT (l : List Sgate_Out) (at_ : List (Sgate_Key × Int)) : Prop := ∀ key, match mget (keq_Sgate_Key key) at_ with
  | none => l.find? (fun x => keq_Sgate_Key key x.f_K) = none
  | some j => 0 ≤ j ∧ j < l.length ∧ l.find? (fun x => keq_Sgate_Key key x.f_K) = some (l.getD j.toNat Sgate_Out.zero)
theorem AT_nil : AT [] [] := fun key => rfl
theorem AT_app {l : List Sgate_Out} {at_ : List (Sgate_Key × Int)} (h : AT l at_) {x : Sgate_Out} (hn : mget (keq_Sgate_Key x.f_K) at_ = none) : AT (l ++ [x]) (mput (keq_Sgate_Key x.f_K) x.f_K (l.length : Int) at_) := by
  intro key
  rw [mput_none hn, mget_app]
  have hk := h key
  cases hm : mget (keq_Sgate_Key key) at_ with
  | some j =>
    rw [hm] at hk
    obtain ⟨h1, h2, h3⟩ := hk
    refine ⟨h1, by rw [List.length_append]; omega, ?_⟩
    rw [List.find?_append, h3, Option.some_or, List.getD_eq_getElem?_getD, List.getD_eq_getElem?_getD, List.getElem?_append_left (by omega)]
  | none =>
    rw [hm] at hk
    have hk : l.find? (fun x => keq_Sgate_Key key x.f_K) = none := hk
    cases he : keq_Sgate_Key key x.f_K with
    | true =>
      refine ⟨by omega, by rw [List.length_append, List.length_singleton]; omega, ?_⟩
      rw [List.find?_append, hk, Option.none_or, Int.toNat_natCast, List.getD_eq_getElem?_getD, List.getElem?_append_right (by omega), Nat.sub_self]
      simp [he]
    | false =>
      show (l ++ [x]).find? (fun x => keq_Sgate_Key key x.f_K) = none
      rw [List.find?_append, hk, Option.none_or]
      simp [he]
def toLet (x : Sgate_Out) : Spyxref21_Let := ⟨⟨x.f_K.f_Group, x.f_K.f_Line, x.f_K.f_Period, x.f_K.f_Version⟩, x.f_Rule, x.f_Value, x.f_To⟩
theorem Let_find {k : Nat} {L : List Sgate_Out} (hL : L.length ≤ 1000) (n : Int) (r : Sapi_Rule) (key : Sgate_Key) (d : Sapi_Dec) : ∀ (m i : Nat), i ≤ L.length → L.length - i < m →
    iter (pyxref21_Gate_Release.l4.once k) m (n, (i : Int), L.map toLet, r, key.f_Group, key.f_Line, key.f_Period, key.f_Version, d.f_Neg, d.f_C.1, d.f_C.2, d.f_Scale, false, 0, 0, 0) =
      some (match (L.drop i).find? (fun x => keq_Sgate_Key key x.f_K) with
        | some x => .inr (x.f_Value, false, 0, ⟨L.map toLet⟩)
        | none => .inl (n, L.map toLet, r, key.f_Group, key.f_Line, key.f_Period, key.f_Version, d.f_Neg, d.f_C.1, d.f_C.2, d.f_Scale, false, 0, 0, 0)) := by
  intro m
  induction m with
  | zero => intro i _ h; omega
  | succ m ih =>
    intro i hi hm
    have hlen : (L.map toLet).length = L.length := List.length_map _
    by_cases hc : i < L.length
    · have hx : (L.map toLet).getD (Int.toNat (i : Int)) Spyxref21_Let.zero = toLet (L.getD i Sgate_Out.zero) := by
        rw [Int.toNat_natCast, List.getD_eq_getElem?_getD, List.getElem?_map, List.getElem?_eq_getElem hc, List.getD_eq_getElem?_getD, List.getElem?_eq_getElem hc]; rfl
      rw [drop_getD Sgate_Out.zero hc, List.find?_cons]
      have hb : (((toLet (L.getD i Sgate_Out.zero)).f_K.f_Group == key.f_Group) && (((toLet (L.getD i Sgate_Out.zero)).f_K.f_Line == key.f_Line) && (((toLet (L.getD i Sgate_Out.zero)).f_K.f_Period == key.f_Period) && ((toLet (L.getD i Sgate_Out.zero)).f_K.f_Version == key.f_Version)))) = keq_Sgate_Key key (L.getD i Sgate_Out.zero).f_K := by
        unfold keq_Sgate_Key toLet
        dsimp only
        rw [Bool.eq_iff_iff]
        simp only [Bool.and_eq_true, beq_iff_eq]
        constructor <;> rintro ⟨h1, h2, h3, h4⟩ <;> exact ⟨h1.symm, h2.symm, h3.symm, h4.symm⟩
      cases hk : keq_Sgate_Key key (L.getD i Sgate_Out.zero).f_K with
      | true =>
        refine iter_stop ?_
        unfold pyxref21_Gate_Release.l4.once
        dsimp only
        rw [hlen, ct (by omega), inb_t (by omega) (by omega), cond_true, hx, hb, hk, cond_true, cond_true]
        rfl
      | false =>
        rw [← ih (i + 1) (by omega) (by omega)]
        refine iter_step ?_
        unfold pyxref21_Gate_Release.l4.once
        dsimp only
        rw [hlen, ct (by omega), inb_t (by omega) (by omega), cond_true, hx, hb, hk, cond_false, wrapi (by omega)]
        rfl
    · rw [List.drop_eq_nil_of_le (by omega), List.find?_nil]
      refine iter_stop ?_
      unfold pyxref21_Gate_Release.l4.once
      dsimp only
      rw [hlen, cf (by omega)]
def outR (q : Sapi_Dec × Bool × Int × Sgate_Gate) : Sapi_Dec × Bool × Int × Spyxref21_Gate := (q.1, q.2.1, q.2.2.1, ⟨q.2.2.2.f_l.map toLet⟩)
theorem RRelease_eq {k : Nat} (hk : 2000 < k) {l : List Sgate_Out} {at_ : List (Sgate_Key × Int)} (ha : AT l at_) {r : Sapi_Rule} (n : Int) (key : Sgate_Key) {d : Sapi_Dec} (hd : W2 d.f_C) (hu : W2 r.f_Unit.f_C) (hl : l.length ≤ 1000) :
    pyxref21_Gate_Release.f k ⟨l.map toLet⟩ r n ⟨key.f_Group, key.f_Line, key.f_Period, key.f_Version⟩ d = some (outR (relR l at_ r n key d)) := by
  obtain ⟨tag, role, verb, ent, grp, lin, u, to⟩ := r
  have hkey := ha key
  have fnd := Let_find (k := k) hl n ⟨tag, role, verb, ent, grp, lin, u, to⟩ key d k 0 (by omega) (by omega)
  rw [List.drop_zero] at fnd
  obtain ⟨g, ln, p, v⟩ := key
  have hun : pyxref1_Unit.f k ⟨d.f_Neg, (d.f_C.1, d.f_C.2), d.f_Scale⟩ ⟨u.f_Neg, (u.f_C.1, u.f_C.2), u.f_Scale⟩ 4 = some (uR d u) := RUnit_any (by omega) hd hu
  unfold pyxref21_Gate_Release.f relR
  dsimp only at *
  have hj : (cond (tag != 3) (some (n, true, l.map toLet, (⟨tag, role, verb, ent, grp, lin, (⟨u.f_Neg, (u.f_C.1, u.f_C.2), u.f_Scale⟩ : Sapi_Dec), (⟨to.f_Set, to.f_Level⟩ : Sapi_Label)⟩ : Sapi_Rule), g, ln, p, v, d.f_Neg, d.f_C.1, d.f_C.2, d.f_Scale, false, 0, 0, 0)) (cond (grp != g) (some (n, true, l.map toLet, (⟨tag, role, verb, ent, grp, lin, (⟨u.f_Neg, (u.f_C.1, u.f_C.2), u.f_Scale⟩ : Sapi_Dec), (⟨to.f_Set, to.f_Level⟩ : Sapi_Label)⟩ : Sapi_Rule), g, ln, p, v, d.f_Neg, d.f_C.1, d.f_C.2, d.f_Scale, false, 0, 0, 0)) (some (n, lin != ln, l.map toLet, (⟨tag, role, verb, ent, grp, lin, (⟨u.f_Neg, (u.f_C.1, u.f_C.2), u.f_Scale⟩ : Sapi_Dec), (⟨to.f_Set, to.f_Level⟩ : Sapi_Label)⟩ : Sapi_Rule), g, ln, p, v, d.f_Neg, d.f_C.1, d.f_C.2, d.f_Scale, false, 0, 0, 0))) : Option (Int × Bool × List Spyxref21_Let × Sapi_Rule × Int × Int × Int × Int × Bool × Int × Int × Int × Bool × Int × Int × Int)) = some (n, decide (tag ≠ 3 ∨ grp ≠ g ∨ lin ≠ ln), l.map toLet, ⟨tag, role, verb, ent, grp, lin, u, to⟩, g, ln, p, v, d.f_Neg, d.f_C.1, d.f_C.2, d.f_Scale, false, 0, 0, 0) := by
    by_cases h1 : tag = 3
    · subst h1
      rw [bne_self_eq_false, cond_false]
      by_cases h2 : grp = g
      · subst h2
        rw [bne_self_eq_false, cond_false]
        have : (lin != ln) = decide ((3 : Int) ≠ 3 ∨ grp ≠ grp ∨ lin ≠ ln) := by
          by_cases h3 : lin = ln <;> simp [h3]
        rw [this]
      · rw [show (grp != g) = true by simp [h2], cond_true, decide_eq_true (.inr (.inl h2))]
    · rw [show (tag != 3) = true by simp [h1], cond_true, decide_eq_true (.inl h1)]
  rw [hj, Option.bind_some]
  dsimp only
  by_cases hc : tag ≠ 3 ∨ grp ≠ g ∨ lin ≠ ln
  · rw [ct hc, if_pos hc]
    rfl
  · have fnd' : iter (pyxref21_Gate_Release.l4.once k) k (n, 0, l.map toLet, ⟨tag, role, verb, ent, grp, lin, u, to⟩, g, ln, p, v, d.f_Neg, d.f_C.1, d.f_C.2, d.f_Scale, false, 0, 0, 0) = _ := fnd
    rw [cf hc, if_neg hc]
    have fnd2 := fnd'
    cases hm : mget (keq_Sgate_Key ⟨g, ln, p, v⟩) at_ with
    | some j =>
      rw [hm] at hkey
      obtain ⟨j0, j1, j2⟩ := hkey
      rw [j2] at fnd2
      rw [fnd2]
      rfl
    | none =>
      rw [hm] at hkey
      have hkey : l.find? (fun x => keq_Sgate_Key ⟨g, ln, p, v⟩ x.f_K) = none := hkey
      rw [hkey] at fnd2
      rw [fnd2, Option.bind_some]
      dsimp only
      rw [hun, Option.bind_some]
      by_cases h0 : (uR d u).2 = 0
      · rw [show ((uR d u).2 != 0) = false by rw [h0]; rfl, cond_false, okLen_t (by simp; omega), cond_true, if_neg (by omega)]
        unfold outR
        dsimp only
        rw [List.map_append]
        rfl
      · rw [show ((uR d u).2 != 0) = true by rw [bne_iff_ne]; exact h0, cond_true, if_pos h0]
        rfl
end Go.Proofs.Ytlaogfkgkpgofaa.Pure
