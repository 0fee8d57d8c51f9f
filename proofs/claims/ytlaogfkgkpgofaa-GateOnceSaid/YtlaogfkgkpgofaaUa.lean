/- quant.Unit and pyxref1.Unit of any two decimals: the same. No conditions but size. -/
import Derived.Test.YtlaogfkgkpgofaaQv
namespace Go.Proofs.Ytlaogfkgkpgofaa.Pure
set_option linter.unusedVariables false
set_option linter.unusedSimpArgs false
open Go Go.Ev Go.Lm Go.Pu Go.Dg
noncomputable def uR (a u : Sapi_Dec) : Sapi_Dec × Int := if dOk a = true ∧ dOk u = true ∧ 0 < val u then unitR (val a) a.f_Scale.toNat (val u).toNat u.f_Scale.toNat else (nil0, 1)
theorem uR_no {a u : Sapi_Dec} (h : ¬ (dOk a = true ∧ dOk u = true ∧ 0 < val u)) : uR a u = (nil0, 1) := by unfold uR; rw [if_neg h]
theorem QUnit_any {k : Nat} (hk : 260 < k) {a u : Sapi_Dec} (ha : W2 a.f_C) (hu : W2 u.f_C) : quant_Unit.f k a u 4 = some (uR a u) := by
  have sg : dec_Sign.f k ⟨u.f_Neg, (u.f_C.1, u.f_C.2), u.f_Scale⟩ = some (if dOk u then sgn (val u) else 0) := Sign_val (by omega) hu
  by_cases hok : dOk u = true ∧ 0 < val u
  · obtain ⟨h1, h2⟩ := hok
    obtain ⟨u1, u2, u3, _⟩ := dOk_DV hu h1
    have hnat : ((val u).toNat : Int) = val u := by omega
    cases h3 : dOk a with
    | true =>
      obtain ⟨a1, a2, a3, _⟩ := dOk_DV ha h3
      have := QUnit_eq hk (i := val a) (u := (val u).toNat) (s := a.f_Scale.toNat) (t := u.f_Scale.toNat) a2 (by rw [hnat]; exact u2) (by omega) a3 u3
      rw [hnat, ← a1, ← u1] at this
      rw [this]
      unfold uR
      rw [if_pos ⟨h3, h1, h2⟩]
    | false =>
      have hr : quant_right.f k 0 4 [(⟨a.f_Neg, (a.f_C.1, a.f_C.2), a.f_Scale⟩ : Sapi_Dec), (⟨u.f_Neg, (u.f_C.1, u.f_C.2), u.f_Scale⟩ : Sapi_Dec)] = some (dOk a && dOk u) := qright2_eq (by omega) ha hu
      have hd : quant_Div.f k ⟨a.f_Neg, (a.f_C.1, a.f_C.2), a.f_Scale⟩ ⟨u.f_Neg, (u.f_C.1, u.f_C.2), u.f_Scale⟩ 0 4 = some (nil0, 1) := by
        unfold quant_Div.f
        rw [hr, h3, Option.bind_some]
        rfl
      rw [uR_no (by rintro ⟨h, _⟩; rw [h3] at h; cases h)]
      unfold quant_Unit.f
      rw [sg, h1, if_pos rfl, Option.bind_some, cf (by unfold sgn; rw [if_neg (by omega), if_neg (by omega)]; decide), hd]
      rfl
  · rw [uR_no (by rintro ⟨_, h1, h2⟩; exact hok ⟨h1, h2⟩)]
    unfold quant_Unit.f
    have hle : (if dOk u = true then sgn (val u) else 0) ≤ 0 := by
      cases h1 : dOk u with
      | true =>
        rw [if_pos rfl]
        have hn : ¬ 0 < val u := fun h => hok ⟨h1, h⟩
        unfold sgn
        split
        · decide
        · rw [if_pos (by omega)]; decide
      | false => rw [if_neg (by decide)]; decide
    rw [sg, Option.bind_some, ct hle]
    rfl
end Go.Proofs.Ytlaogfkgkpgofaa.Pure
