/- GateOnce: each key is let out once, near; who sees more sees all that it saw. No conditions but size. -/
import Derived.Test.YtlaogfkgkpgofaaGo
namespace Go.Proofs.Ytlaogfkgkpgofaa.Pure
set_option linter.unusedVariables false
set_option linter.unusedSimpArgs false
open Go Go.Ev Go.Lm Go.Pu Go.Dg
theorem bind_of {α β : Type} {o : Option α} {v : α} {f : α → Option β} {r : Option β} (h : o = some v) (h' : f v = r) : o.bind f = r := by rw [h]; exact h'
theorem find_map {l : List Sgate_Out} {key : Sgate_Key} : mget (keq_Sgate_Key key) (l.map fun x => (x.f_K, x.f_Value)) = (l.find? fun x => keq_Sgate_Key key x.f_K).map (·.f_Value) := by
  induction l with
  | nil => rfl
  | cons x r ih =>
    rw [List.map_cons, List.find?_cons]
    unfold mget
    cases keq_Sgate_Key key x.f_K with
    | true => rfl
    | false => exact ih
def hadOf (l : List Sgate_Out) : List (Sgate_Key × Sapi_Dec) := l.map fun x => (x.f_K, x.f_Value)
theorem uR_near {n : Int} {s u t : Nat} (hn : n.natAbs < 100000000) (hs : s ≤ 2) (hu : isUnit u t) : uR (DV n s) (DV (u : Int) t) = (DV (outV n s u t) t, 0) := by
  have hu' : 0 < (u : Int) ∧ (u : Int) ≤ 25 ∧ t ≤ 2 := by unfold isUnit at hu; omega
  have h1 : dOk (DV n s) = true := dOk_of_DV (by unfold Sm; omega) (by omega)
  have h2 : dOk (DV (u : Int) t) = true := dOk_of_DV (by unfold Sm; omega) (by omega)
  have h3 : val (DV (u : Int) t) = u := val_DV _ _
  unfold uR
  rw [if_pos ⟨h1, h2, by rw [h3]; omega⟩, h3, val_DV]
  have := (out_near hn hs hu).1
  show unitR n s u t = _
  unfold unitR mkD
  unfold outV at this ⊢
  rw [if_pos (by omega)]
/-- One letting out is near. -/
theorem Near_ok {k : Nat} (hk : 60 < k) {n : Int} {s u t : Nat} (hn : n.natAbs < 100000000) (hs : s ≤ 2) (hu : isUnit u t) :
    ∃ v : Int, v.natAbs ≤ 100000000000000 ∧ dec_Sub.f k (DV (outV n s u t) t) (DV n s) = some (DV v (max t s), 0) ∧ dec_Sign.f k (DV v (max t s)) = some (if v = 0 then 0 else if v < 0 then -1 else 1) ∧
      dec_Neg.f k (DV v (max t s)) = some (DV (-v) (max t s)) ∧ dec_Add.f k (DV v.natAbs (max t s)) (DV v.natAbs (max t s)) = some (DV (2 * (v.natAbs : Int)) (max t s), 0) ∧
      ∃ c, dec_Cmp.f k (DV (2 * (v.natAbs : Int)) (max t s)) (DV (u : Int) t) = some c ∧ ¬ c > 0 := by
  obtain ⟨h1, h2⟩ := out_near hn hs hu
  have hu' : 0 < (u : Int) ∧ (u : Int) ≤ 25 ∧ t ≤ 2 := by unfold isUnit at hu; omega
  have hsub := Sub_DV (k := k) hk (i := outV n s u t) (j := n) (s := t) (t := s) (by unfold Sm; omega) (by unfold Sm; omega) (by omega) (by omega)
  have hb : (outV n s u t * 10 ^ (max t s - t) - n * 10 ^ (max t s - s)).natAbs ≤ 100000000000000 := by
    have : u * 10 ^ (max t s - t) ≤ 25 * 100 := Nat.mul_le_mul (by omega) (by
      have : max t s - t ≤ 2 := by omega
      calc (10 : Nat) ^ (max t s - t) ≤ 10 ^ 2 := Nat.pow_le_pow_right (by decide) this
        _ = 100 := by decide)
    omega
  generalize outV n s u t * 10 ^ (max t s - t) - n * 10 ^ (max t s - s) = v at *
  refine ⟨v, hb, ?_, Sign_DV hk (by unfold Sm; omega) (by omega), Neg_DV hk (by unfold Sm; omega) (by omega), ?_, ?_⟩
  · rw [hsub]; unfold mkD; rw [if_pos (by omega)]
  · have := Add_DV (k := k) hk (i := (v.natAbs : Int)) (j := (v.natAbs : Int)) (s := max t s) (t := max t s) (by unfold Sm; omega) (by unfold Sm; omega) (by omega) (by omega)
    rw [this]
    have e : max (max t s) (max t s) = max t s := by omega
    rw [e, Nat.sub_self, Int.pow_zero, Int.mul_one]
    unfold mkD
    rw [if_pos (by omega), show (v.natAbs : Int) + v.natAbs = 2 * (v.natAbs : Int) by omega]
  · have := Cmp_DV (k := k) hk (i := 2 * (v.natAbs : Int)) (j := (u : Int)) (s := max t s) (t := t) (by unfold Sm; omega) (by unfold Sm; omega) (by omega) (by omega)
    refine ⟨_, this, ?_⟩
    have e : max (max t s) t = max t s := by omega
    rw [e, Nat.sub_self, Int.pow_zero, Int.mul_one]
    have h2' : 2 * (v.natAbs : Int) ≤ (u : Int) * 10 ^ (max t s - t) := by
      have e2 : ((u * 10 ^ (max t s - t) : Nat) : Int) = (u : Int) * 10 ^ (max t s - t) := by rw [Int.natCast_mul, Int.natCast_pow]; rfl
      omega
    generalize (u : Int) * 10 ^ (max t s - t) = w at *
    unfold sgn
    split
    · decide
    · split
      · decide
      · omega
theorem pick3 (n : Int) : ∃ s : Nat, pick n 3 = (s : Int) ∧ s ≤ 2 := by
  have := pick_bd n (m := 3) (by decide)
  exact ⟨(pick n 3).toNat, by omega, by omega⟩
theorem hadOf_get (l : List Sgate_Out) (key : Sgate_Key) : mget (keq_Sgate_Key key) (hadOf l) = (l.find? fun x => keq_Sgate_Key key x.f_K).map (·.f_Value) := find_map
/-- One round. -/
theorem Once_step {k : Nat} (hk : 2000 < k) (a1 a2 a3 a4 : Int) (l0 : List Spyxlaw25_Raw) {i : Nat} (hi : i < l0.length) (hlen : l0.length ≤ 9223372036854775807) {l : List Sgate_Out} {at_ : List (Sgate_Key × Int)} (hG : GInv l at_) :
    ∃ l' at', GInv l' at' ∧ pyxlaw25_GateOnce.l6.once k (a1, a2, a3, a4, l0, (l0.length : Int), (i : Int), l, at_, hadOf l) = some (.inl (a1, a2, a3, a4, l0, (l0.length : Int), ((i + 1 : Nat) : Int), l', at', hadOf l')) := by
  have h48 := hG.len
  unfold pyxlaw25_GateOnce.l6.once
  dsimp only
  rw [ct (by omega), inb_t (by omega) (by omega), cond_true, Int.toNat_natCast]
  generalize l0.getD i Spyxlaw25_Raw.zero = x at *
  obtain ⟨u, t, hu, to, r1, r2⟩ := Rule0_ok (k := k) (by omega) ⟨x.f_Group, x.f_Line, x.f_Period, x.f_Version, x.f_Unit, x.f_To, x.f_N, x.f_Scale, 0⟩ rfl
  have k1 : pyxlaw25_key.f k ⟨x.f_Group, x.f_Line, x.f_Period, x.f_Version, x.f_Unit, x.f_To, x.f_N, x.f_Scale, 0⟩ = some (keyOf x) := Key_eq k _
  obtain ⟨s, s1, s2⟩ := pick3 x.f_Scale
  have hn : (Int.tmod x.f_N 100000000).natAbs < 100000000 := by
    have h1 := Int.lt_tmod_of_pos x.f_N (show (0 : Int) < 100000000 by decide)
    have h2 := Int.tmod_lt_of_pos x.f_N (show (0 : Int) < 100000000 by decide)
    omega
  have p1 : pyxhand_Pick.f k x.f_Scale 3 = some (s : Int) := (Pick_eq k _ (by decide) (by decide)).trans (congrArg some s1)
  have o1 : pyxref1_Of.f k (Int.tmod x.f_N 100000000) (s : Int) = some (DV (Int.tmod x.f_N 100000000) s) := by
    rw [ROf_DV (by omega) (by omega), cl_of (by omega)]
  have hu' : 0 < (u : Int) ∧ (u : Int) ≤ 25 ∧ t ≤ 2 := by unfold isUnit at hu; omega
  generalize Int.tmod x.f_N 100000000 = n at *
  have hkr := keyOf_range x
  have hat := hG.1 (keyOf x)
  have rel : gate_Gate_Release.f k ⟨l, at_⟩ ⟨3, 0, 0, -1, pick x.f_Group 2, pick x.f_Line 3, DV (u : Int) t, to⟩ (i : Int) (keyOf x) (DV n s) = some (relR l at_ ⟨3, 0, 0, -1, pick x.f_Group 2, pick x.f_Line 3, DV (u : Int) t, to⟩ (i : Int) (keyOf x) (DV n s)) :=
    Release_eq (by omega) (i : Int) (keyOf x) (Sm_w2 (by unfold Sm; omega)) (Sm_w2 (by unfold Sm; omega)) (by omega) (fun j hj => by
      rw [hj] at hat
      exact ⟨hat.1, hat.2.1⟩)
  have hG2 := GInv_rel hG (r := ⟨3, 0, 0, -1, pick x.f_Group 2, pick x.f_Line 3, DV (u : Int) t, to⟩) r2 (i : Int) hkr (DV n s)
  rw [r1, Option.bind_some, p1, Option.bind_some, o1, Option.bind_some, k1, Option.bind_some]
  dsimp only
  refine Exists.elim (p := fun q => relR l at_ ⟨3, 0, 0, -1, pick x.f_Group 2, pick x.f_Line 3, DV (u : Int) t, to⟩ (i : Int) (keyOf x) (DV n s) = q) ⟨_, rfl⟩ fun q hq => ?_
  rw [hq] at hG2 rel
  have rel' : gate_Gate_Release.f k ⟨l, at_⟩ ⟨3, 0, 0, -1, pick x.f_Group 2, pick x.f_Line 3, ⟨(DV (u : Int) t).f_Neg, ((DV (u : Int) t).f_C.1, (DV (u : Int) t).f_C.2), (DV (u : Int) t).f_Scale⟩, ⟨to.f_Set, to.f_Level⟩⟩ (i : Int) ⟨(keyOf x).f_Group, (keyOf x).f_Line, (keyOf x).f_Period, (keyOf x).f_Version⟩ ⟨(DV n s).f_Neg, ((DV n s).f_C.1, (DV n s).f_C.2), (DV n s).f_Scale⟩ = some q := rel
  have hget := hadOf_get l (keyOf x)
  have hget' : mget (keq_Sgate_Key ⟨(keyOf x).f_Group, (keyOf x).f_Line, (keyOf x).f_Period, (keyOf x).f_Version⟩) (hadOf l) = _ := hget
  rw [rel', Option.bind_some, Option.bind_some, hget', Option.bind_some, Option.bind_some]
  unfold relR at hq
  dsimp only at hq
  rw [if_neg (by unfold keyOf; simp)] at hq
  cases hm : mget (keq_Sgate_Key (keyOf x)) at_ with
  | some j =>
    rw [hm] at hat hq
    obtain ⟨j0, j1, j2⟩ := hat
    dsimp only at hq
    subst hq
    rw [j2]
    refine ⟨l, at_, hG, ?_⟩
    dsimp only [Option.map_some, Option.isSome_some, Option.getD_some]
    rw [bne_self_eq_false, cond_false, show ((false : Bool) == true) = false from rfl, cond_false, cond_true, Option.bind_some]
    simp only [beq_self_eq_true, Bool.and_self, Bool.not_true, cond_false, cond_true]
    rw [wrapi (by omega)]
    rfl
  | none =>
    rw [hm] at hat hq
    have hat : l.find? (fun y => keq_Sgate_Key (keyOf x) y.f_K) = none := hat
    dsimp only at hq
    rw [uR_near hn s2 hu] at hq
    dsimp only at hq
    rw [if_neg (by decide)] at hq
    subst hq
    dsimp only at hG2
    obtain ⟨v, v0, v1, v2, v3, v4, c, v5, v6⟩ := Near_ok (k := k) (by omega) hn s2 hu
    have hh : hadOf (l ++ [⟨keyOf x, (i : Int), DV (outV n s u t) t, to⟩]) = mput (keq_Sgate_Key (keyOf x)) (keyOf x) (DV (outV n s u t) t) (hadOf l) := by
      have hnone : mget (keq_Sgate_Key (keyOf x)) (hadOf l) = none := by rw [hadOf_get, hat]; rfl
      rw [mput_none hnone]
      unfold hadOf
      rw [List.map_append]
      rfl
    refine ⟨_, _, hG2, ?_⟩
    rw [hh, hat]
    dsimp only [Option.map_none, Option.isSome_none, Option.getD_none]
    rw [bne_self_eq_false, cond_false, show ((true : Bool) == false) = false from rfl, cond_false, cond_false, Option.bind_some]
    dsimp only
    rw [cond_false, cond_false]
    have k1' : pyxlaw25_key.f k ⟨x.f_Group, x.f_Line, x.f_Period, x.f_Version, x.f_Unit, x.f_To, x.f_N, x.f_Scale, 0⟩ = some (keyOf x) := k1
    refine bind_of k1' ?_
    refine bind_of (v := (DV v (max t s), (0 : Int))) v1 ?_
    refine bind_of v2 ?_
    refine bind_of (v := (a1, a2, a3, a4, l0, (l0.length : Int), (i : Int), _, _, _, _, _, _, _, _, (DV v.natAbs (max t s)).f_Neg, (DV v.natAbs (max t s)).f_C.1, (DV v.natAbs (max t s)).f_C.2, (DV v.natAbs (max t s)).f_Scale)) (by
      by_cases hv : v < 0
      · rw [if_neg (by omega), if_pos hv, ct (by decide)]
        refine bind_of v3 ?_
        rw [show (v.natAbs : Int) = -v by omega]
      · rw [cf (by split <;> decide), show (v.natAbs : Int) = v by omega]) ?_
    refine bind_of (v := (DV (2 * (v.natAbs : Int)) (max t s), (0 : Int))) v4 ?_
    refine bind_of (v := (a1, a2, a3, a4, l0, (l0.length : Int), (i : Int), false, _, _, _)) (by
      refine bind_of (v := c) v5 ?_
      rw [cf v6]
      dsimp only
      rw [show ((DV (outV n s u t) t).f_Scale != (DV (u : Int) t).f_Scale) = false by unfold DV; simp]) ?_
    dsimp only
    rw [cond_false, wrapi (by omega)]
    rfl
theorem blB_join {x a b : Sapi_Label} (hx : 0 ≤ x.f_Set ∧ x.f_Set < 4) (ha : 0 ≤ a.f_Set ∧ a.f_Set < 4) (hb : 0 ≤ b.f_Set ∧ b.f_Set < 4) (h : blB x a = true) : blB x ⟨bits .or .u64 a.f_Set b.f_Set, if b.f_Level > a.f_Level then b.f_Level else a.f_Level⟩ = true := by
  unfold blB at *
  rw [Bool.and_eq_true, beq_iff_eq, decide_eq_true_iff] at *
  obtain ⟨h1, h2⟩ := h
  refine ⟨?_, by dsimp only; split <;> omega⟩
  dsimp only
  obtain ⟨s, ls⟩ := x
  obtain ⟨t, lt⟩ := a
  obtain ⟨u, lu⟩ := b
  dsimp only at *
  have e1 : s = 0 ∨ s = 1 ∨ s = 2 ∨ s = 3 := by omega
  have e2 : t = 0 ∨ t = 1 ∨ t = 2 ∨ t = 3 := by omega
  have e3 : u = 0 ∨ u = 1 ∨ u = 2 ∨ u = 3 := by omega
  rcases e1 with rfl | rfl | rfl | rfl <;> rcases e2 with rfl | rfl | rfl | rfl <;> first | exact absurd h1 (by decide) | (rcases e3 with rfl | rfl | rfl | rfl <;> decide)
theorem filter_filter' {α : Type} {p q : α → Bool} {l : List α} (h : ∀ x ∈ l, p x = true → q x = true) : l.filter p = (l.filter q).filter p := by
  rw [List.filter_filter]
  apply List.filter_congr
  intro x hx
  cases hp : p x with
  | false => rfl
  | true => rw [h x hx hp]; rfl
def eqO (a b : Sgate_Out) : Bool := ((a.f_K.f_Group) == (b.f_K.f_Group)) && (((a.f_K.f_Line) == (b.f_K.f_Line)) && (((a.f_K.f_Period) == (b.f_K.f_Period)) && (((a.f_K.f_Version) == (b.f_K.f_Version)) && (((a.f_Rule) == (b.f_Rule)) && (((a.f_Value.f_Neg) == (b.f_Value.f_Neg)) && (((a.f_Value.f_C.1) == (b.f_Value.f_C.1)) && (((a.f_Value.f_C.2) == (b.f_Value.f_C.2)) && (((a.f_Value.f_Scale) == (b.f_Value.f_Scale)) && (((a.f_To.f_Set) == (b.f_To.f_Set)) && ((a.f_To.f_Level) == (b.f_To.f_Level)))))))))))
theorem eqO_refl (a : Sgate_Out) : eqO a a = true := by unfold eqO; simp
theorem eqO_to {a b : Sgate_Out} (h : eqO a b = true) : a.f_To = b.f_To := by
  unfold eqO at h
  simp only [Bool.and_eq_true, beq_iff_eq] at h
  obtain ⟨_, _, _, _, _, _, _, _, _, h1, h2⟩ := h
  obtain ⟨_, _, _, s, l⟩ := a
  obtain ⟨_, _, _, s', l'⟩ := b
  dsimp only at h1 h2
  rw [h1, h2]
theorem Once_walk {k : Nat} (hk : 2000 < k) {b : List Sgate_Out} (hb : b.length ≤ 48) (had : List (Sgate_Key × Sapi_Dec)) (sm lg : Sapi_Label) (hlg : ∀ x ∈ b, blB x.f_To lg = true) (hhad : ∀ x ∈ b, mget (keq_Sgate_Key x.f_K) had = some x.f_Value) :
    iter (pyxlaw25_GateOnce.l33.once k) k (b.filter (fun x => blB x.f_To sm), 0, b, (b.length : Int), 0, had, sm.f_Set, sm.f_Level, lg.f_Set, lg.f_Level) = some (.inl (b.filter (fun x => blB x.f_To sm), ((b.filter (fun x => blB x.f_To sm)).length : Int))) := by
  have hla := List.length_filter_le (fun x : Sgate_Out => blB x.f_To sm) b
  have h := iter_seq (once := pyxlaw25_GateOnce.l33.once k) (fun i => (b.filter (fun x => blB x.f_To sm), (((b.take i).filter (fun x => blB x.f_To sm)).length : Int), b, (b.length : Int), (i : Int), had, sm.f_Set, sm.f_Level, lg.f_Set, lg.f_Level)) b.length (by
    intro i hi
    have hx := getD_mem' Sgate_Out.zero hi
    have hsplit : b.filter (fun x => blB x.f_To sm) = (b.take i).filter (fun x => blB x.f_To sm) ++ (b.drop i).filter (fun x => blB x.f_To sm) := by
      rw [← List.filter_append, List.take_append_drop]
    rw [drop_getD Sgate_Out.zero hi] at hsplit
    have hft := filter_take (fun x : Sgate_Out => blB x.f_To sm) Sgate_Out.zero hi
    have h1 := hlg _ hx
    have h2 := hhad _ hx
    unfold pyxlaw25_GateOnce.l33.once
    dsimp only
    rw [ct (by omega), inb_t (by omega) (by omega), cond_true, Int.toNat_natCast, Int.toNat_natCast]
    generalize b.getD i Sgate_Out.zero = x at *
    have bs : label_Below.f k ⟨x.f_To.f_Set, x.f_To.f_Level⟩ ⟨sm.f_Set, sm.f_Level⟩ = some (blB x.f_To sm) := Below_eq k x.f_To sm
    have bl : label_Below.f k ⟨x.f_To.f_Set, x.f_To.f_Level⟩ ⟨lg.f_Set, lg.f_Level⟩ = some (blB x.f_To lg) := Below_eq k x.f_To lg
    rw [hft]
    have hlp := congrArg List.length hsplit
    rw [List.length_append] at hlp
    generalize hpre : (b.take i).filter (fun x => blB x.f_To sm) = pre at *
    generalize hall : b.filter (fun x => blB x.f_To sm) = all at *
    have tailEq : ∀ m : Int, (((label_Below.f k ⟨x.f_To.f_Set, x.f_To.f_Level⟩ ⟨lg.f_Set, lg.f_Level⟩).bind fun t145 => (cond (!t145) (some (all, m, b, (b.length : Int), (i : Int), true, had, sm.f_Set, sm.f_Level, lg.f_Set, lg.f_Level)) ((some (mget (keq_Sgate_Key ⟨x.f_K.f_Group, x.f_K.f_Line, x.f_K.f_Period, x.f_K.f_Version⟩) had)).bind fun t157 => ((some (Option.getD t157 (⟨false, (0, 0), 0⟩ : Sapi_Dec))).bind fun t158 => (some (all, m, b, (b.length : Int), (i : Int), !((t158.f_Neg == x.f_Value.f_Neg) && ((t158.f_C.1 == x.f_Value.f_C.1) && ((t158.f_C.2 == x.f_Value.f_C.2) && (t158.f_Scale == x.f_Value.f_Scale)))), had, sm.f_Set, sm.f_Level, lg.f_Set, lg.f_Level)))))) : Option (List Sgate_Out × Int × List Sgate_Out × Int × Int × Bool × List (Sgate_Key × Sapi_Dec) × Int × Int × Int × Int)) = some (all, m, b, (b.length : Int), (i : Int), false, had, sm.f_Set, sm.f_Level, lg.f_Set, lg.f_Level) := by
      intro m
      have h2' : mget (keq_Sgate_Key ⟨x.f_K.f_Group, x.f_K.f_Line, x.f_K.f_Period, x.f_K.f_Version⟩) had = some x.f_Value := h2
      rw [bl, h1, Option.bind_some, h2', Option.bind_some, Option.bind_some, Option.getD_some, Bool.not_true, cond_false]
      simp
    cases hbx : blB x.f_To sm with
    | true =>
      rw [List.filter_cons, hbx, if_pos rfl] at hsplit hlp
      rw [List.length_cons] at hlp
      have hget : all.getD pre.length Sgate_Out.zero = x := by
        rw [hsplit, List.getD_eq_getElem?_getD, List.getElem?_append_right (Nat.le_refl _), Nat.sub_self]; rfl
      rw [ct (by omega), inb_t (by omega) (by omega), cond_true, hget, Option.bind_some]
      have hq : (((x.f_K.f_Group) == (x.f_K.f_Group)) && (((x.f_K.f_Line) == (x.f_K.f_Line)) && (((x.f_K.f_Period) == (x.f_K.f_Period)) && (((x.f_K.f_Version) == (x.f_K.f_Version)) && (((x.f_Rule) == (x.f_Rule)) && (((x.f_Value.f_Neg) == (x.f_Value.f_Neg)) && (((x.f_Value.f_C.1) == (x.f_Value.f_C.1)) && (((x.f_Value.f_C.2) == (x.f_Value.f_C.2)) && (((x.f_Value.f_Scale) == (x.f_Value.f_Scale)) && (((x.f_To.f_Set) == (x.f_To.f_Set)) && ((x.f_To.f_Level) == (x.f_To.f_Level)))))))))))) = true := eqO_refl x
      dsimp only
      rw [hq, cond_true, wrapi (by omega), Option.bind_some]
      dsimp only
      refine bind_of (tailEq _) ?_
      dsimp only
      rw [cond_false, wrapi (by omega), if_pos rfl, List.length_append, List.length_singleton]
      rfl
    | false =>
      rw [List.filter_cons, hbx, if_neg (by decide)] at hsplit hlp
      have hne : ∀ a ∈ all, eqO a x = false := by
        intro a ha
        cases he : eqO a x with
        | false => rfl
        | true =>
          rw [← hall, List.mem_filter] at ha
          have := ha.2
          rw [eqO_to he, hbx] at this
          cases this
      refine bind_of (v := (all, (pre.length : Int), b, (b.length : Int), (i : Int), false, had, sm.f_Set, sm.f_Level, lg.f_Set, lg.f_Level, x)) (by
        by_cases hc : pre.length < all.length
        · have hq : (((((all.getD pre.length Sgate_Out.zero).f_K).f_Group) == (x.f_K.f_Group)) && (((((all.getD pre.length Sgate_Out.zero).f_K).f_Line) == (x.f_K.f_Line)) && (((((all.getD pre.length Sgate_Out.zero).f_K).f_Period) == (x.f_K.f_Period)) && (((((all.getD pre.length Sgate_Out.zero).f_K).f_Version) == (x.f_K.f_Version)) && ((((all.getD pre.length Sgate_Out.zero).f_Rule) == (x.f_Rule)) && (((((all.getD pre.length Sgate_Out.zero).f_Value).f_Neg) == (x.f_Value.f_Neg)) && ((((((all.getD pre.length Sgate_Out.zero).f_Value).f_C).1) == (x.f_Value.f_C.1)) && ((((((all.getD pre.length Sgate_Out.zero).f_Value).f_C).2) == (x.f_Value.f_C.2)) && (((((all.getD pre.length Sgate_Out.zero).f_Value).f_Scale) == (x.f_Value.f_Scale)) && (((((all.getD pre.length Sgate_Out.zero).f_To).f_Set) == (x.f_To.f_Set)) && ((((all.getD pre.length Sgate_Out.zero).f_To).f_Level) == (x.f_To.f_Level)))))))))))) = false := hne _ (getD_mem' Sgate_Out.zero hc)
          rw [ct (by omega), inb_t (by omega) (by omega), cond_true, hq]
        · rw [cf (by omega)]) ?_
      dsimp only
      rw [cond_false]
      refine bind_of (v := .inl (all, (pre.length : Int), b, (b.length : Int), (i : Int), had, sm.f_Set, sm.f_Level, lg.f_Set, lg.f_Level, x)) (by
        refine bind_of bs ?_
        rw [hbx]
        rfl) ?_
      dsimp only
      refine bind_of (tailEq _) ?_
      dsimp only
      rw [cond_false, wrapi (by omega), if_neg (by decide), List.append_nil]
      rfl) (.inl (b.filter (fun x => blB x.f_To sm), ((b.filter (fun x => blB x.f_To sm)).length : Int))) (by
    unfold pyxlaw25_GateOnce.l33.once
    dsimp only
    rw [cf (by omega), List.take_length]) k 0 (by omega) (by omega)
  exact h
theorem GateOnce (l0 : List Spyxlaw25_Raw) (w0 : (l0.length ≤ 9223372036854775807 ∧ l0.length * 72 ≤ 140737488351232 ∧ ∀ z ∈ l0, ((Lit.int .i64 z.f_Group).wf = true) ∧ ((Lit.int .i64 z.f_Line).wf = true) ∧ ((Lit.int .i64 z.f_Period).wf = true) ∧ ((Lit.int .i64 z.f_Version).wf = true) ∧ ((Lit.int .i64 z.f_Unit).wf = true) ∧ ((Lit.int .i64 z.f_To).wf = true) ∧ ((Lit.int .i64 z.f_N).wf = true) ∧ ((Lit.int .i64 z.f_Scale).wf = true) ∧ ((Lit.int .i64 z.f_Bend).wf = true) ∧ True)) (a1 : Int) (w1 : (Lit.int .i64 a1).wf = true) (a2 : Int) (w2 : (Lit.int .i64 a2).wf = true) (a3 : Int) (w3 : (Lit.int .i64 a3).wf = true) (a4 : Int) (w4 : (Lit.int .i64 a4).wf = true) : ∃ k, pyxlaw25_GateOnce.f k l0 a1 a2 a3 a4 = some true := by
  obtain ⟨hlen, hb, hz⟩ := w0
  refine ⟨l0.length + 3000, ?_⟩
  generalize hk : l0.length + 3000 = k
  have hk1 : 2000 < k := by omega
  unfold pyxlaw25_GateOnce.f
  have g0 : gate_New.f k = some ⟨[], []⟩ := rfl
  refine bind_of g0 ?_
  refine bind_of (v := (l0, a1, a2, a3, a4, false, [], [])) (by
    rw [known25 hk1]
    rfl) ?_
  dsimp only
  rw [cond_false]
  obtain ⟨y, h1, h2⟩ := iter_rule (once := pyxlaw25_GateOnce.l6.once k) (fun st => ∃ (i : Nat) (l : List Sgate_Out) (at_ : List (Sgate_Key × Int)), st = (a1, a2, a3, a4, l0, (l0.length : Int), (i : Int), l, at_, hadOf l) ∧ i ≤ l0.length ∧ GInv l at_) (fun st => l0.length - st.2.2.2.2.2.2.1.toNat)
    (fun r => ∃ (l : List Sgate_Out) (at_ : List (Sgate_Key × Int)), r = .inl (a1, a2, a3, a4, l, at_, hadOf l) ∧ GInv l at_) (by
    rintro _ ⟨i, l, at_, rfl, hi, hG⟩
    by_cases hc : i < l0.length
    · left
      obtain ⟨l', at', hG', he⟩ := Once_step hk1 a1 a2 a3 a4 l0 hc hlen hG
      exact ⟨_, he, ⟨i + 1, l', at', rfl, by omega, hG'⟩, by dsimp only; omega⟩
    · right
      unfold pyxlaw25_GateOnce.l6.once
      dsimp only
      rw [cf (by omega)]
      exact ⟨_, rfl, l, at_, rfl, hG⟩) k (a1, a2, a3, a4, l0, (l0.length : Int), 0, [], [], []) ⟨0, [], [], rfl, by omega, AT_nil, (fun x hx => by cases hx), List.nodup_nil⟩ (by dsimp only; omega)
  obtain ⟨l, at_, rfl, hG⟩ := h2
  have h48 := hG.len
  refine bind_of h1 ?_
  dsimp only
  have p1 := pick_bd a1 (m := 4) (by decide)
  have p3 := pick_bd a3 (m := 4) (by decide)
  refine bind_of (Log_eq k (by omega)) ?_
  dsimp only
  rw [show (hadOf l).length = l.length from List.length_map _, bne_self_eq_false, cond_false]
  refine bind_of (Pick_eq k _ (by decide) (by decide)) ?_
  refine bind_of (Pick_eq k _ (by decide) (by decide)) ?_
  refine bind_of (Pick_eq k _ (by decide) (by decide)) ?_
  refine bind_of (Pick_eq k _ (by decide) (by decide)) ?_
  rw [wrapu (by omega), wrapu (by omega)]
  have hj : label_Join.f k ⟨pick a1 4, pick a2 4⟩ ⟨pick a3 4, pick a4 4⟩ = some ⟨bits .or .u64 (pick a1 4) (pick a3 4), if pick a4 4 > pick a2 4 then pick a4 4 else pick a2 4⟩ := rfl
  refine bind_of hj ?_
  dsimp only
  refine bind_of (Seen_eq hk1 (by omega) ⟨pick a1 4, pick a2 4⟩) ?_
  dsimp only
  refine bind_of (Seen_eq hk1 (by omega) ⟨bits .or .u64 (pick a1 4) (pick a3 4), if pick a4 4 > pick a2 4 then pick a4 4 else pick a2 4⟩) ?_
  dsimp only
  have hsub : ∀ x ∈ l, blB x.f_To ⟨pick a1 4, pick a2 4⟩ = true → blB x.f_To ⟨bits .or .u64 (pick a1 4) (pick a3 4), if pick a4 4 > pick a2 4 then pick a4 4 else pick a2 4⟩ = true := fun x hx h => blB_join (x := x.f_To) (a := ⟨pick a1 4, pick a2 4⟩) (b := ⟨pick a3 4, pick a4 4⟩) (hG.2.1 x hx).2 p1 p3 h
  have hfind : ∀ x ∈ l, mget (keq_Sgate_Key x.f_K) (hadOf l) = some x.f_Value := by
    intro x hx
    rw [hadOf_get]
    have hnd := hG.2.2
    clear h1
    have hK := fun z hz => (hG.2.1 z hz).1
    clear hG hsub h48
    induction l with
    | nil => cases hx
    | cons y r ih =>
      rw [List.find?_cons]
      rw [List.map_cons, List.nodup_cons] at hnd
      cases he : keq_Sgate_Key x.f_K y.f_K with
      | true =>
        rcases List.mem_cons.1 hx with rfl | hx
        · rfl
        · have := (keq_iff _ _).1 he
          exact absurd (List.mem_map.2 ⟨x, hx, by rw [this]⟩) hnd.1
      | false =>
        rcases List.mem_cons.1 hx with rfl | hx
        · rw [(keq_iff _ _).2 rfl] at he; cases he
        · exact ih hx hnd.2 (fun z hz => hK z (List.mem_cons_of_mem _ hz))
  have hfl := List.length_filter_le (fun x : Sgate_Out => blB x.f_To ⟨bits .or .u64 (pick a1 4) (pick a3 4), if pick a4 4 > pick a2 4 then pick a4 4 else pick a2 4⟩) l
  have hw := Once_walk hk1 (b := l.filter (fun x => blB x.f_To ⟨bits .or .u64 (pick a1 4) (pick a3 4), if pick a4 4 > pick a2 4 then pick a4 4 else pick a2 4⟩)) (by omega) (hadOf l) ⟨pick a1 4, pick a2 4⟩ ⟨bits .or .u64 (pick a1 4) (pick a3 4), if pick a4 4 > pick a2 4 then pick a4 4 else pick a2 4⟩ (fun x hx => (List.mem_filter.1 hx).2) (fun x hx => hfind x (List.mem_filter.1 hx).1)
  rw [← filter_filter' hsub] at hw
  refine bind_of hw ?_
  dsimp only
  rw [beq_self_eq_true]
end Go.Proofs.Ytlaogfkgkpgofaa.Pure
