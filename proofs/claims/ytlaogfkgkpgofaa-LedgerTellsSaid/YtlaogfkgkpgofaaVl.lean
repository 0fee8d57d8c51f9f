/- Any decimal's value; which are right. No conditions but size. -/
import Derived.Test.YtlaogfkgkpgofaaRd
namespace Go.Proofs.Ytlaogfkgkpgofaa.Pure
set_option linter.unusedVariables false
set_option linter.unusedSimpArgs false
open Go Go.Ev Go.Lm Go.Pu Go.Dg

theorem drop_getD {α : Type} {l : List α} {i : Nat} (d : α) (h : i < l.length) : l.drop i = l.getD i d :: l.drop (i + 1) := by
  rw [List.drop_eq_getElem_cons h, List.getD_eq_getElem?_getD, List.getElem?_eq_getElem h, Option.getD_some]
def val (d : Sapi_Dec) : Int := if d.f_Neg then -(N2 d.f_C) else N2 d.f_C
def dOk (d : Sapi_Dec) : Bool := decide (N2 d.f_C < 1000000000000000000000000000000) && (decide (d.f_Scale ≥ 0) && (decide (d.f_Scale ≤ 9) && !(d.f_Neg && decide (N2 d.f_C = 0))))
theorem dOk_DV {d : Sapi_Dec} (hw : W2 d.f_C) (h : dOk d = true) : d = DV (val d) d.f_Scale.toNat ∧ Sm (val d) ∧ d.f_Scale.toNat ≤ 9 ∧ 0 ≤ d.f_Scale := by
  obtain ⟨n, c, z⟩ := d
  unfold dOk at h
  unfold val DV Sm
  have hb := N2_bd hw
  dsimp only at hw h hb ⊢
  simp only [Bool.and_eq_true, decide_eq_true_eq, Bool.not_eq_true', Bool.and_eq_false_iff, decide_eq_false_iff_not] at h
  obtain ⟨h1, h2, h3, h4⟩ := h
  have hc : c = w2 (N2 c).toNat := w2_of hw (by omega)
  refine ⟨?_, by split <;> omega, by omega, h2⟩
  cases n
  · rw [if_neg (by decide), decide_eq_false (by omega), show (N2 c).natAbs = (N2 c).toNat by omega, ← hc, show ((z.toNat : Nat) : Int) = z by omega]
  · rw [if_pos rfl, decide_eq_true (by rcases h4 with h4 | h4; · cases h4
                                       · omega), show (-(N2 c)).natAbs = (N2 c).toNat by omega, ← hc, show ((z.toNat : Nat) : Int) = z by omega]
theorem Right_val {k : Nat} (hk : 60 < k) {d : Sapi_Dec} (hw : W2 d.f_C) : dec_Right.f k d = some (dOk d) := by
  unfold dec_Right.f dOk
  have e1 : dec_small.f k (d.f_C.1, d.f_C.2) = some (decide (N2 d.f_C < 1000000000000000000000000000000)) := small_all hk hw
  have e2 : dec_nought.f k (d.f_C.1, d.f_C.2) = some (decide (N2 d.f_C = 0)) := nought_eq k hw
  rw [e1, e2, Option.bind_some]
  cases decide (N2 d.f_C < 1000000000000000000000000000000) <;> cases decide (d.f_Scale ≥ 0) <;> cases decide (d.f_Scale ≤ 9) <;> cases d.f_Neg <;> rfl
theorem val_DV (v : Int) (s : Nat) : val (DV v s) = v := by
  unfold val DV
  dsimp only
  rw [N2_w2]
  by_cases h : v < 0
  · rw [decide_eq_true h, if_pos rfl]; omega
  · rw [decide_eq_false h, if_neg (by decide)]; omega
theorem dOk_of_DV {v : Int} {s : Nat} (hv : Sm v) (hs : s ≤ 9) : dOk (DV v s) = true := by
  have h1 := Right_val (k := 61) (by decide) (d := DV v s) (Sm_w2 hv)
  rw [Right_DV (by decide) hv hs] at h1
  exact (Option.some.inj h1).symm
def sgn (v : Int) : Int := if v = 0 then 0 else if v < 0 then -1 else 1
theorem Sign_val {k : Nat} (hk : 60 < k) {d : Sapi_Dec} (hw : W2 d.f_C) : dec_Sign.f k d = some (if dOk d then sgn (val d) else 0) := by
  cases h : dOk d with
  | true =>
    obtain ⟨h1, h2, h3, _⟩ := dOk_DV hw h
    have := Sign_DV hk h2 h3
    rw [← h1] at this
    rw [this]
    rfl
  | false =>
    unfold dec_Sign.f
    have e : dec_Right.f k ⟨d.f_Neg, (d.f_C.1, d.f_C.2), d.f_Scale⟩ = some (dOk d) := Right_val hk hw
    rw [e, h]
    rfl
theorem sgn_beq (v : Int) : (sgn v == 0) = decide (v = 0) := by
  unfold sgn
  by_cases h : v = 0
  · rw [if_pos h, decide_eq_true h]; rfl
  · rw [if_neg h, decide_eq_false h]; split <;> rfl
end Go.Proofs.Ytlaogfkgkpgofaa.Pure
