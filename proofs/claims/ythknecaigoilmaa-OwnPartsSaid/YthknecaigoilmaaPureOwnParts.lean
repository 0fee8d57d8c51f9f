/- What the law OwnParts computes is true, whatever the numbers. No conditions but that each number is one of its type. -/
import Derived.Test.YthknecaigoilmaaPureOwnTells
namespace Go.Proofs.Ythknecaigoilmaa.Pure
set_option linter.unusedVariables false
set_option linter.unusedSimpArgs false
open Go Go.Ev Go.Lm Go.Pu Go.Dg
/-- The first step down from the whole. -/
theorem chain_first {l : List Sapi_Ent} (h : OkL l) {i : Int} (h0 : 0 ≤ i) (h1 : i < l.length) (n : Nat) : chain l (n + 1) i 1000000 = chain l n (En l i.toNat).f_Parent ((En l i.toNat).f_Share.toNat * 100) := by
  rw [chain, if_pos h0, show 1000000 * (En l i.toNat).f_Share.toNat = (En l i.toNat).f_Share.toNat * 100 * 10000 by omega, hev_mul _ (by decide)]
theorem chain_neg (l : List Sapi_Ent) (n : Nat) {i : Int} (h : i < 0) (p : Nat) : chain l n i p = p := by
  cases n with
  | zero => rfl
  | succ n => rw [chain, if_neg (by omega)]
theorem OwnParts (l : List Int) (h0 : l.length ≤ 9223372036854775807 ∧ l.length * 8 ≤ 140737488351232 ∧ ∀ z ∈ l, (Lit.int .i64 z).wf = true) (kk : Int) (h1 : (Lit.int .i64 kk).wf = true) : ∃ k, pyxlaw19_OwnParts.f k l kk = some true := by
  refine ⟨700, ?_⟩
  unfold pyxlaw19_OwnParts.f
  obtain ⟨e0, a1, a2, a3, e', e4, _, e6⟩ := ents_eq (l := l) (by omega) 0 0
  obtain rfl := e6 rfl
  rw [e4, Option.bind_some]
  obtain ⟨e, ok, g1, g8, hcut⟩ : ∃ e : List Sapi_Ent, OkL e ∧ 1 ≤ e.length ∧ e.length ≤ 8 ∧ (cond (decide ((e'.length : Int) > 8)) (cond (inS 0 8 e'.length) (some (kk, List.take (8) e')) none) (some (kk, e')) : Option (Int × List Sapi_Ent)) = some (kk, e) := by
    by_cases h : e'.length > 8
    · refine ⟨e'.take 8, OkL_take a1 8, by rw [List.length_take]; omega, by rw [List.length_take]; omega, ?_⟩
      rw [ct (by omega), inS_t (by decide) (by decide) (by omega), cond_true]
    · exact ⟨e', a1, a2, by omega, by rw [cf (by omega)]⟩
  refine bind_of hcut ?_
  dsimp only
  have hp := pick_bd kk (show (0 : Int) < (e.length : Int) by omega)
  rw [Pick_eq _ _ (by omega) (by omega), Option.bind_some]
  generalize pick kk (e.length : Int) = i at *
  obtain ⟨i0, i1⟩ := hp
  have one : pyxref1_Of.f 700 1 0 = some (DN 1 0) := ROf_eq (n := 1) (by decide) (s := 0) (by decide)
  have P := OPart ok g1 g8 i0 i1
  have T := OTop ok g1 g8 i0 i1
  have hP := chain_le ok 8 i 1000000 i1
  obtain ⟨t0, t1, t2⟩ := top_is ok 8 i i0 i1 (by omega)
  have PT := OPart ok g1 g8 t0 (by omega)
  have okk := ok_at ok i0 i1
  have okt := ok_at ok t0 (show top e 8 i < e.length by omega)
  have hPT : chain e 8 (top e 8 i) 1000000 = 1000000 := by
    rw [chain_first ok t0 (by omega) 7, chain_neg _ _ (by omega), okt.2.2.2.2 t2]; rfl
  rw [hPT] at PT
  have hfst := chain_first ok i0 i1 7
  have hshare : chain e 8 i 1000000 ≤ (En e i.toNat).f_Share.toNat * 100 := by rw [hfst]; exact chain_le ok _ _ _ (by omega)
  rw [one, Option.bind_some, P, Option.bind_some, T, Option.bind_some]
  refine bind_of (v := (i, e, top e 8 i, false, (DN (chain e 8 i 1000000) 6).f_Neg, (DN (chain e 8 i 1000000) 6).f_C.1, (DN (chain e 8 i 1000000) 6).f_C.2, (DN (chain e 8 i 1000000) 6).f_Scale)) ?_ ?_
  · have s := Sign_DN (n := chain e 8 i 1000000) (s := 6) (by omega) (by decide)
    have c := DCmp (m := chain e 8 i 1000000) (n := 1) (s := 6) (t := 0) (by decide) (by decide) (by omega) (by decide)
    have c' := DCmp (m := 1000000) (n := 1) (s := 6) (t := 0) (by decide) (by decide) (by decide) (by decide)
    have s' : dec_Sign.f 700 ⟨(DN (chain e 8 i 1000000) 6).f_Neg, ((DN (chain e 8 i 1000000) 6).f_C.1, (DN (chain e 8 i 1000000) 6).f_C.2), (DN (chain e 8 i 1000000) 6).f_Scale⟩ = _ := s
    have d' : dec_Cmp.f 700 ⟨(DN (chain e 8 i 1000000) 6).f_Neg, ((DN (chain e 8 i 1000000) 6).f_C.1, (DN (chain e 8 i 1000000) 6).f_C.2), (DN (chain e 8 i 1000000) 6).f_Scale⟩ ⟨(DN 1 0).f_Neg, ((DN 1 0).f_C.1, (DN 1 0).f_C.2), (DN 1 0).f_Scale⟩ = _ := c
    have d'' : dec_Cmp.f 700 ⟨(DN 1000000 6).f_Neg, ((DN 1000000 6).f_C.1, (DN 1000000 6).f_C.2), (DN 1000000 6).f_Scale⟩ ⟨(DN 1 0).f_Neg, ((DN 1 0).f_C.1, (DN 1 0).f_C.2), (DN 1 0).f_Scale⟩ = _ := c'
    rw [known19, Option.bind_some, Bool.not_true, cond_false, s', Option.bind_some]
    rw [show decide ((if chain e 8 i 1000000 = 0 then (0 : Int) else 1) < 0) = false by split <;> rfl, cond_false, d', Option.bind_some]
    rw [show decide ((if chain e 8 i 1000000 * 10 ^ (max 6 0 - 6) < 1 * 10 ^ (max 6 0 - 0) then (-1 : Int) else if chain e 8 i 1000000 * 10 ^ (max 6 0 - 6) = 1 * 10 ^ (max 6 0 - 0) then 0 else 1) > 0) = false by
      rw [show chain e 8 i 1000000 * 10 ^ (max 6 0 - 6) = chain e 8 i 1000000 from Nat.mul_one _, show 1 * 10 ^ (max 6 0 - 0) = 1000000 by decide]
      split
      · rfl
      · split
        · rfl
        · omega, cond_false, show ((DN (chain e 8 i 1000000) 6).f_Scale != 6) = false from rfl, cond_false, cf (by omega), cf (by omega), inb_t t0 (by omega), cond_true, cf (by show ¬ (En e (top e 8 i).toNat).f_Parent ≥ 0; omega), PT, Option.bind_some, d'', Option.bind_some]
    rfl
  dsimp only
  rw [cond_false, inb_t i0 i1, cond_true]
  have share : pyxref1_Of.f 700 (En e i.toNat).f_Share 4 = some (DN (En e i.toNat).f_Share.toNat 4) := by
    have := ROf_eq (n := (En e i.toNat).f_Share.toNat) (by omega) (s := 4) (by decide)
    rw [show (((En e i.toNat).f_Share.toNat : Nat) : Int) = (En e i.toNat).f_Share by omega] at this
    exact this
  have last : ((pyxref1_Of.f 700 (e.getD i.toNat Sapi_Ent.zero).f_Share 4).bind fun t25 => ((dec_Cmp.f 700 (⟨(DN (chain e 8 i 1000000) 6).f_Neg, ((DN (chain e 8 i 1000000) 6).f_C.1, (DN (chain e 8 i 1000000) 6).f_C.2), (DN (chain e 8 i 1000000) 6).f_Scale⟩ : Sapi_Dec) (⟨t25.f_Neg, (t25.f_C.1, t25.f_C.2), t25.f_Scale⟩ : Sapi_Dec)).bind fun t26 => (some (decide (t26 ≤ 0))))) = some true := by
    rw [show pyxref1_Of.f 700 (e.getD i.toNat Sapi_Ent.zero).f_Share 4 = _ from share, Option.bind_some]
    have c := DCmp (m := chain e 8 i 1000000) (n := (En e i.toNat).f_Share.toNat) (s := 6) (t := 4) (by decide) (by decide) (by omega) (by omega)
    have c' : dec_Cmp.f 700 ⟨(DN (chain e 8 i 1000000) 6).f_Neg, ((DN (chain e 8 i 1000000) 6).f_C.1, (DN (chain e 8 i 1000000) 6).f_C.2), (DN (chain e 8 i 1000000) 6).f_Scale⟩ ⟨(DN (En e i.toNat).f_Share.toNat 4).f_Neg, ((DN (En e i.toNat).f_Share.toNat 4).f_C.1, (DN (En e i.toNat).f_Share.toNat 4).f_C.2), (DN (En e i.toNat).f_Share.toNat 4).f_Scale⟩ = _ := c
    rw [c', Option.bind_some, show chain e 8 i 1000000 * 10 ^ (max 6 4 - 6) = chain e 8 i 1000000 from Nat.mul_one _, show 10 ^ (max 6 4 - 4) = 100 by decide]
    refine congrArg some ?_
    refine decide_eq_true ?_
    split
    · decide
    · split
      · decide
      · omega
  by_cases hpar : (En e i.toNat).f_Parent < 0
  · rw [ct (show (e.getD i.toNat Sapi_Ent.zero).f_Parent < 0 from hpar)]
    have : top e 8 i = i := by rw [top, if_neg (by omega)]
    rw [this, beq_self_eq_true]
  · have q0 : 0 ≤ (En e i.toNat).f_Parent := by omega
    have q1 : (En e i.toNat).f_Parent < e.length := by omega
    have A := OPart ok g1 g8 q0 q1
    have B := OTop ok g1 g8 q0 q1
    have hB : top e 8 (En e i.toNat).f_Parent = top e 8 i := by
      rw [show top e 8 i = top e 7 (En e i.toNat).f_Parent by rw [top, if_pos q0]]
      exact top_fuel ok 8 7 _ q0 q1 (by omega) (by omega)
    rw [hB] at B
    rw [cf (show ¬ (e.getD i.toNat Sapi_Ent.zero).f_Parent < 0 from hpar), cond_true, show own_Part.f 700 e (e.getD i.toNat Sapi_Ent.zero).f_Parent = _ from A, Option.bind_some, cond_true, show own_Top.f 700 e (e.getD i.toNat Sapi_Ent.zero).f_Parent = _ from B, Option.bind_some, beq_self_eq_true, cond_true, cond_true, cond_true]
    by_cases hs : (En e i.toNat).f_Share < 10000
    · rw [ct (show (e.getD i.toNat Sapi_Ent.zero).f_Share < 10000 from hs)]
      exact last
    · have hs' : (En e i.toNat).f_Share = 10000 := by omega
      have hA : chain e 8 (En e i.toNat).f_Parent 1000000 = chain e 8 i 1000000 := by
        rw [hfst, hs', show (10000 : Int).toNat * 100 = 1000000 by decide]
        exact chain_fuel ok 8 7 _ _ q1 (by omega) (by omega)
      rw [hA]
      have c := DCmp (m := chain e 8 i 1000000) (n := chain e 8 i 1000000) (s := 6) (t := 6) (by decide) (by decide) (by omega) (by omega)
      rw [cmp_self] at c
      have c' : dec_Cmp.f 700 ⟨(DN (chain e 8 i 1000000) 6).f_Neg, ((DN (chain e 8 i 1000000) 6).f_C.1, (DN (chain e 8 i 1000000) 6).f_C.2), (DN (chain e 8 i 1000000) 6).f_Scale⟩ ⟨(DN (chain e 8 i 1000000) 6).f_Neg, ((DN (chain e 8 i 1000000) 6).f_C.1, (DN (chain e 8 i 1000000) 6).f_C.2), (DN (chain e 8 i 1000000) 6).f_Scale⟩ = some 0 := c
      rw [cf (show ¬ (e.getD i.toNat Sapi_Ent.zero).f_Share < 10000 from hs), c', Option.bind_some, beq_self_eq_true, cond_true]
      exact last
end Go.Proofs.Ythknecaigoilmaa.Pure
