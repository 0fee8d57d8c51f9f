/- Plain laws: Rx, Bk, Tz, Tp, Td, Te, Tf, Tg, Tn, To, An, PureTransTells. No conditions but size. -/
import Derived.Test.YtbchcjlllddlpaaGreatPMA
import Derived.Test.YtbchcjlllddlpaaGreatFs
namespace Go.Proofs.YtbchcjlllddlpaaGreat.Pure
set_option linter.unusedVariables false
set_option linter.unusedSimpArgs false
open Go Go.Ev Go.Lm Go.Pu Go.Dg
theorem Zsb (a b : Zu) : Zan a b = true ↔ a = b := by
 cases a
 cases b
 unfold Zan
 simp
theorem Yeu {α β : Type} {K : α → α → Bool} (hK : ∀ a b, K a b = true ↔ a = b) (k k' : α) (v : β) [Decidable (k' = k)] : ∀ l : List (α × β), Zii (K k') (Zkh (K k) k v l) = if k' = k then some v else Zii (K k') l
 | [] => by
  simp only [Zkh, Zii]
  by_cases h : k' = k
  ·rw [if_pos h, (hK k' k).2 h]; rfl
  ·rw [if_neg h, Bool.eq_false_iff.2 (fun e => h ((hK _ _).1 e))]; rfl
 | p :: r => by
  simp only [Zkh]
  cases hp : K k p.1 with
  | true =>
   have e := (hK _ _).1 hp
   simp only [cond_true, Zii]
   by_cases h : k' = k
   ·rw [if_pos h, (hK k' p.1).2 (h.trans e)]; rfl
   ·rw [if_neg h, Bool.eq_false_iff.2 (fun e' => h (((hK _ _).1 e').trans e.symm))]; rfl
  | false =>
   simp only [cond_false, Zii]
   rw [Yeu hK k k' v r]
   by_cases h : k' = k
   ·have : K k' p.1 = false := by rw [h]; exact hp
    rw [this, if_pos h, if_pos h]; rfl
   ·rw [if_neg h, if_neg h]
def placed (q : Zu) : Bool := decide ((0 ≤ q.Zbi ∧ q.Zbi < 12) ∧ (0 ≤ q.Zge ∧ q.Zge < 3))
def Zve (v : Int) (s : Nat) : Bool := decide (0 < v) && (decide (s ≤ 6) && decide (v < 1000000 * 10 ^ s))
theorem Yra (v : Int) : sgn v ≤ 0 ↔ v ≤ 0 := by unfold sgn; split <;> (try split) <;> omega
theorem sgn_ge (v : Int) : sgn v ≥ 0 ↔ v ≥ 0 := by unfold sgn; split <;> (try split) <;> omega
theorem Set_DV {k : Nat} (hk : 60 < k) (T : List (Zu × Za)) (q : Zu) {v : Int} {s : Nat} (hv : Sm v) (hs : s ≤ 9) :
  Zce.f k ⟨T⟩ q (DV v s) = some (cond (placed q && Zve v s) (0, ⟨Zkh (Zan q) q (DV v s) T⟩) (1, ⟨T⟩)) := by
 unfold Zce.f
 refine bof (v := (placed q, T, q.Zbi, q.Zge, (DV v s).Zhd, (DV v s).f_C.1, (DV v s).f_C.2, (DV v s).Zm)) ?_ ?_
 ·by_cases h1 : q.Zbi ≥ 0
  ·rw [ct h1]
   by_cases h2 : q.Zbi < 12
   ·rw [ct h2]
    by_cases h3 : q.Zge ≥ 0
    ·rw [ct h3]
     have : placed q = decide (q.Zge < 3) := by
      unfold placed
      by_cases h4 : q.Zge < 3
      ·rw [decide_eq_true h4, decide_eq_true ⟨⟨h1, h2⟩, h3, h4⟩]
      ·rw [decide_eq_false h4, decide_eq_false (fun h => h4 h.2.2)]
     rw [this]
    ·rw [cf h3, show placed q = false from decide_eq_false (fun h => h3 h.2.1)]
   ·rw [cf h2, show placed q = false from decide_eq_false (fun h => h2 h.1.2)]
  ·rw [cf h1, show placed q = false from decide_eq_false (fun h => h1 h.1.1)]
 refine bof (v := (!(placed q && Zve v s), T, q.Zbi, q.Zge, (DV v s).Zhd, (DV v s).f_C.1, (DV v s).f_C.2, (DV v s).Zm)) ?_ ?_
 ·dsimp only
  cases hp : placed q with
  | false => rfl
  | true =>
   simp only [Bool.not_true, cond_false, Bool.true_and]
   refine bof (v := sgn v) (Zkw hk hv hs) ?_
   by_cases h1 : sgn v ≤ 0
   ·have : Zve v s = false := by unfold Zve; rw [decide_eq_false (by have := (Yra v).1 h1; omega)]; rfl
    rw [ct h1, this]
    rfl
   ·have h1' : 0 < v := by
     have h3 : ¬ v ≤ 0 := fun h => h1 ((Yra v).2 h)
     omega
    rw [cf h1]
    by_cases h2 : (DV v s).Zm > 6
    ·have h2' : (6 : Int) < (s : Int) := h2
     have : Zve v s = false := by unfold Zve; rw [decide_eq_true h1', decide_eq_false (show ¬ s ≤ 6 by omega)]; rfl
     rw [ct h2, this]
     rfl
    ·have h2' : ¬ (6 : Int) < (s : Int) := h2
     rw [cf h2]
     refine bof (v := DV 1000000 0) (Of_DV k (by decide) 0) ?_
     refine bof (v := sgn (v * 10 ^ (max s 0 - s) - 1000000 * 10 ^ (max s 0 - 0))) (Cmp_DV (j := 1000000) (t := 0) hk hv (by unfold Sm; decide) hs (by decide)) ?_
     rw [show max s 0 = s by omega, Nat.sub_self, Nat.sub_zero, Int.pow_zero, Int.mul_one]
     have : (!Zve v s) = decide (sgn (v - 1000000 * 10 ^ s) ≥ 0) := by
      unfold Zve
      rw [decide_eq_true h1', decide_eq_true (show s ≤ 6 by omega), Bool.true_and, Bool.true_and]
      by_cases h3 : v < 1000000 * 10 ^ s
      ·rw [decide_eq_true h3, decide_eq_false (fun h => by have := (sgn_ge _).1 h; omega)]; rfl
      ·rw [decide_eq_false h3, decide_eq_true ((sgn_ge _).2 (by omega))]; rfl
     rw [this]
 ·dsimp only
  cases placed q && Zve v s with
  | false => rfl
  | true => rfl
def got (T : List (Zu × Za)) : Option Za → Za × Int × Zax
 | some d => (d, 0, ⟨T⟩)
 | none => (Ybo, 11, ⟨T⟩)
theorem Get_eq (k : Nat) (T : List (Zu × Za)) (q : Zu) : Zdz.f k ⟨T⟩ q = some (got T (Zii (Zan q) T)) := by
 unfold Zdz.f
 show (some (Zii (Zan q) T)).bind _ = _
 rw [Z0]
 cases Zii (Zan q) T <;> rfl
theorem get_same (T : List (Zu × Za)) (q : Zu) (d : Za) : Zii (Zan q) (Zkh (Zan q) q d T) = some d := by
 rw [@Yeu _ _ _ Zsb q q d (Classical.propDecidable _) T, if_pos rfl]
theorem get_other (T : List (Zu × Za)) {q q' : Zu} (h : q' ≠ q) (d : Za) : Zii (Zan q') (Zkh (Zan q) q d T) = Zii (Zan q') T := by
 rw [@Yeu _ _ _ Zsb q q' d (Classical.propDecidable _) T, if_neg h]
theorem Zwh {α β : Type} {K : α → α → Bool} (hK : ∀ a b, K a b = true ↔ a = b) (k : α) : ∀ l : List (α × β), (Zii (K k) l).isSome = true ↔ k ∈ l.map (·.1)
 | [] => by simp [Zii]
 | p :: r => by
  simp only [Zii, List.map_cons, List.mem_cons]
  cases h : K k p.1 with
  | true => simp [(hK _ _).1 h]
  | false =>
   have hn : k ≠ p.1 := fun e => by rw [(hK _ _).2 e] at h; cases h
   rw [cond_false, Zwh hK k r]
   simp [hn]
theorem Ypi {α β : Type} {K : α → α → Bool} (hK : ∀ a b, K a b = true ↔ a = b) (k : α) (v : β) : ∀ l : List (α × β), (Zkh (K k) k v l).map (·.1) = cond (Zii (K k) l).isSome (l.map (·.1)) (l.map (·.1) ++ [k])
 | [] => by simp [Zkh, Zii]
 | p :: r => by
  simp only [Zkh, Zii]
  cases h : K k p.1 with
  | true => rfl
  | false =>
   simp only [cond_false, List.map_cons]
   rw [Ypi hK k v r]
   cases (Zii (K k) r).isSome <;> rfl
def idx (q : Zu) : Nat := q.Zbi.toNat * 3 + q.Zge.toNat
theorem Zrx {q : Zu} (h : placed q = true) : (0 ≤ q.Zbi ∧ q.Zbi < 12) ∧ (0 ≤ q.Zge ∧ q.Zge < 3) := of_decide_eq_true h
theorem Yfq {q : Zu} (h : placed q = true) : idx q < 36 := by
 have := Zrx h
 unfold idx
 omega
theorem idx_inj {q q' : Zu} (h : placed q = true) (h' : placed q' = true) (e : idx q = idx q') : q = q' := by
 have a := Zrx h
 have b := Zrx h'
 unfold idx at e
 cases q
 cases q'
 simp only [Zu.mk.injEq] at *
 omega
theorem sgn_1 {v : Int} (h : 0 < v) : sgn v = 1 := by
 unfold sgn
 rw [if_neg (by omega), if_neg (by omega)]
theorem RCmp_DV {k : Nat} (hk : 602 < k) {i : Int} {s : Nat} (hi : Sm i) (hs : s ≤ 9) (h0 : 0 < i) : ∃ c, Zfb.f k (DV i s) (DV 1000000 0) = some c ∧ (c ≥ 0 ↔ ¬ i < 1000000 * 10 ^ s) := by
 have hm : Sm 1000000 := by unfold Sm; decide
 have r1 : Zav.f k (DV i s) = some true := (Zgx hk (d := DV i s) (Zjs hi)).trans (Zgy (by omega) hi hs)
 have r2 : Zav.f k (DV 1000000 0) = some true := (Zgx hk (d := DV 1000000 0) (Zjs hm)).trans (Zgy (by omega) hm (by decide))
 have s1 : Zbu.f k (DV i s) = some (sgn i) := (Zol hk (d := DV i s) (Zjs hi)).trans (Zkw (by omega) hi hs)
 have s2 : Zbu.f k (DV 1000000 0) = some (sgn 1000000) := (Zol hk (d := DV 1000000 0) (Zjs hm)).trans (Zkw (by omega) hm (by decide))
 rw [sgn_1 h0] at s1
 have x1 : Zck.f k (DV i s) (s : Int) = some (dig (i.natAbs * 10 ^ (s - s))) := digits_eq hk _ (by unfold Sm at hi; omega) (Nat.le_refl _) (by omega)
 have y1 : Zck.f k (DV 1000000 0) (s : Int) = some (dig (1000000 * 10 ^ (s - 0))) := digits_eq hk _ (by decide) (Nat.zero_le _) (by omega)
 rw [Nat.sub_self, Nat.pow_zero, Nat.mul_one] at x1
 rw [Nat.sub_zero] at y1
 have p1 := ten9 hs
 have c1 := Zpt (k := k) (by omega) (a := i.natAbs) (b := 1000000 * 10 ^ s) (by unfold Sm at hi; omega) (by omega)
 have hmx : (if (0 : Int) > (s : Int) then (0 : Int) else (s : Int)) = (s : Int) := if_neg (by omega)
 have hl : (i.natAbs < 1000000 * 10 ^ s) ↔ i < 1000000 * 10 ^ s := by
  rw [show (1000000 : Int) * 10 ^ s = ((1000000 * 10 ^ s : Nat) : Int) by rw [Int.natCast_mul, Int.natCast_pow]; rfl]
  omega
 refine ⟨if i.natAbs < 1000000 * 10 ^ s then -1 else if i.natAbs = 1000000 * 10 ^ s then 0 else 1, ?_, ?_⟩
 ·unfold Zfb.f
  refine bof (v := (false, (DV i s).Zhd, (DV i s).f_C.1, (DV i s).f_C.2, (DV i s).Zm, (DV 1000000 0).Zhd, (DV 1000000 0).f_C.1, (DV 1000000 0).f_C.2, (DV 1000000 0).Zm)) ?_ ?_
  ·exact bof r1 (bof r2 rfl)
  ·dsimp only
   rw [cond_false]
   refine bof s1 (bof s2 ?_)
   rw [show ((1 : Int) != sgn 1000000) = false from rfl, cond_false]
   rw [show (if (DV 1000000 0).Zm > (DV i s).Zm then (DV 1000000 0).Zm else (DV i s).Zm) = (s : Int) from hmx]
   refine bof x1 (bof y1 (bof c1 ?_))
   rw [Zhp (by split <;> (try split) <;> omega), Int.one_mul]
 ·rw [← hl]
  split
  ·simp_all
  ·split <;> simp_all
def okR (d : Za) : Bool := dOk d && Zve (val d) d.Zm.toNat
theorem Set_eq {k : Nat} (hk : 60 < k) (T : List (Zu × Za)) (q : Zu) {d : Za} (hw : W2 d.f_C) :
  Zce.f k ⟨T⟩ q d = some (cond (placed q && okR d) (0, ⟨Zkh (Zan q) q d T⟩) (1, ⟨T⟩)) := by
 unfold okR
 cases h : dOk d with
 | true =>
  obtain ⟨e, h1, h2, _⟩ := Ymq hw h
  have := Set_DV hk T q h1 h2
  rw [← e] at this
  exact this
 | false =>
  rw [Bool.false_and, Bool.and_false, cond_false]
  unfold Zce.f
  refine bof (v := (placed q, T, q.Zbi, q.Zge, d.Zhd, d.f_C.1, d.f_C.2, d.Zm)) ?_ ?_
  ·by_cases h1 : q.Zbi ≥ 0
   ·rw [ct h1]
    by_cases h2 : q.Zbi < 12
    ·rw [ct h2]
     by_cases h3 : q.Zge ≥ 0
     ·rw [ct h3]
      have : placed q = decide (q.Zge < 3) := by
       unfold placed
       by_cases h4 : q.Zge < 3
       ·rw [decide_eq_true h4, decide_eq_true ⟨⟨h1, h2⟩, h3, h4⟩]
       ·rw [decide_eq_false h4, decide_eq_false (fun h => h4 h.2.2)]
      rw [this]
     ·rw [cf h3, show placed q = false from decide_eq_false (fun h => h3 h.2.1)]
    ·rw [cf h2, show placed q = false from decide_eq_false (fun h => h2 h.1.2)]
   ·rw [cf h1, show placed q = false from decide_eq_false (fun h => h1 h.1.1)]
  ·refine bof (v := (true, T, q.Zbi, q.Zge, d.Zhd, d.f_C.1, d.f_C.2, d.Zm)) ?_ rfl
   dsimp only
   cases placed q with
   | false => rfl
   | true =>
    have hz := Ydr hk hw
    rw [h, if_neg (by decide)] at hz
    simp only [Bool.not_true, cond_false]
    refine bof hz ?_
    rfl
theorem puts_eq (i : Nat) (v : Za) : ∀ (l : List Za) (j : Nat), Zgr i v j l = if j ≤ i then l.set (i - j) v else l
 | [], j => by
  unfold Zgr
  split <;> simp
 | y :: r, j => by
  unfold Zgr
  rw [puts_eq i v r (j + 1)]
  by_cases h : i = j
  ·subst h
   rw [Nat.beq_refl, if_neg (by omega), if_pos (Nat.le_refl _), Nat.sub_self, List.set_cons_zero]
   rfl
  ·have hb : Nat.beq i j = false := by
    cases hb : Nat.beq i j with
    | false => rfl
    | true => exact absurd (Nat.eq_of_beq_eq_true hb) h
   rw [hb]
   by_cases h' : j ≤ i
   ·rw [if_pos (by omega), if_pos h', show i - j = (i - (j + 1)) + 1 by omega, List.set_cons_succ]
    rfl
   ·rw [if_neg (by omega), if_neg h']
    rfl
theorem puts_set (i : Nat) (v : Za) (l : List Za) : Zgr i v 0 l = l.set i v := by
 rw [puts_eq, if_pos (Nat.zero_le _), Nat.sub_zero]
theorem isR_eq (k : Nat) (p : Int) : Zcm.f k p = some (decide (0 ≤ p ∧ p < 12)) := by
 unfold Zcm.f
 by_cases h : p ≥ 0
 ·rw [ct h]
  by_cases h2 : p < 12
  ·rw [decide_eq_true h2, decide_eq_true ⟨h, h2⟩]
  ·rw [decide_eq_false h2, decide_eq_false (fun h => h2 h.2)]
 ·rw [cf h, decide_eq_false (fun h' => h h'.1)]
theorem Xwr {k : Nat} (hk : 602 < k) {has : List Bool} {ds : List Za} (h1 : has.length = 36) (h2 : ds.length = 36) (p kd : Int) {d : Za} (hw : W2 d.f_C) :
  Zci.f k ⟨has, ds⟩ p kd d = some (cond (placed ⟨p, kd⟩ && okR d) (0, ⟨has.set (idx ⟨p, kd⟩) true, ds.set (idx ⟨p, kd⟩) d⟩) (1, ⟨has, ds⟩)) := by
 have e1 : pack 36 false has = has := Zbr false h1
 have e2 : pack 36 Za.zero ds = ds := Zbr _ h2
 unfold Zci.f
 simp only [e1, e2]
 refine bof (v := (p, kd, !(placed ⟨p, kd⟩ && okR d), ⟨has, ds⟩, d.Zhd, d.f_C.1, d.f_C.2, d.Zm)) ?_ ?_
 ·refine bof (isR_eq k p) ?_
  by_cases g1 : 0 ≤ p ∧ p < 12
  ·rw [decide_eq_true g1, Bool.not_true, cond_false]
   by_cases g2 : kd < 0
   ·rw [ct g2, show placed ⟨p, kd⟩ = false from decide_eq_false (fun h => by have := h.2.1; dsimp only at this; omega)]
    rfl
   ·rw [cf g2]
    by_cases g3 : kd > 2
    ·rw [ct g3, show placed ⟨p, kd⟩ = false from decide_eq_false (fun h => by have := h.2.2; dsimp only at this; omega)]
     rfl
    ·rw [cf g3, show placed ⟨p, kd⟩ = true from decide_eq_true ⟨g1, by dsimp only; omega⟩, Bool.true_and]
     unfold okR
     refine bof ((Zgx hk hw).trans (Zkx (by omega) hw)) ?_
     cases h : dOk d with
     | false => rfl
     | true =>
      obtain ⟨e, q1, q2, q3⟩ := Ymq hw h
      rw [Bool.not_true, cond_false, Bool.true_and]
      have hs := (Zol hk hw).trans (Ydr (by omega) hw)
      rw [h, if_pos rfl] at hs
      refine bof hs ?_
      unfold Zve
      by_cases g4 : sgn (val d) ≤ 0
      ·rw [ct g4, decide_eq_false (show ¬ 0 < val d by have := (Yra _).1 g4; omega)]
       rfl
      ·have g4' : 0 < val d := by
        have : ¬ val d ≤ 0 := fun h => g4 ((Yra _).2 h)
        omega
       rw [cf g4, decide_eq_true g4', Bool.true_and]
       by_cases g5 : d.Zm > 6
       ·rw [ct g5, decide_eq_false (show ¬ d.Zm.toNat ≤ 6 by omega)]
        rfl
       ·rw [cf g5, decide_eq_true (show d.Zm.toNat ≤ 6 by omega), Bool.true_and]
        refine bof (Zug (n := 1000000) hk (by decide) 0) ?_
        obtain ⟨c, hc, hc2⟩ := RCmp_DV hk q1 q2 g4'
        rw [← e] at hc
        refine bof hc ?_
        have : decide (c ≥ 0) = !decide (val d < 1000000 * 10 ^ d.Zm.toNat) := by
         by_cases g6 : val d < 1000000 * 10 ^ d.Zm.toNat
         ·rw [decide_eq_true g6, decide_eq_false (fun h => hc2.1 h g6)]; rfl
         ·rw [decide_eq_false g6, decide_eq_true (hc2.2 g6)]; rfl
        rw [this]
  ·rw [decide_eq_false g1, show placed ⟨p, kd⟩ = false from decide_eq_false (fun h => g1 h.1)]
   rfl
 ·dsimp only
  simp only [e1, e2]
  cases hb : placed ⟨p, kd⟩ && okR d with
  | false => rfl
  | true =>
   rw [Bool.and_eq_true] at hb
   have bd := Zrx hb.1
   have hlt : p.toNat * 3 + kd.toNat < 36 := Yfq hb.1
   dsimp only at bd
   rw [Bool.not_true, cond_false, Zhr bd.1.1 (by omega), Zhr bd.2.1 (by omega), cond_true, cond_true, Zja hlt, cond_true, cond_true, cond_true, cond_true, Zgs, puts_set]
   rfl
noncomputable def gotR (has : List Bool) (ds : List Za) (q : Zu) : Za × Int × Zh :=
 cond (placed q && has.getD (idx q) false) (ds.getD (idx q) Za.zero, 0, ⟨has, ds⟩) (Ybo, 11, ⟨has, ds⟩)
theorem getD_map' {α β : Type} (f : α → β) (l : List α) (i : Nat) (d : α) (e : β) (h : f d = e) : (l.map f).getD i e = f (l.getD i d) := by
 rw [List.getD_eq_getElem?_getD, List.getD_eq_getElem?_getD, List.getElem?_map]
 cases l[i]? with
 | none => exact h.symm
 | some x => rfl
theorem Yaj (k : Nat) {has : List Bool} {ds : List Za} (h1 : has.length = 36) (h2 : ds.length = 36) (p kd : Int) : Zbx.f k ⟨has, ds⟩ p kd = some (gotR has ds ⟨p, kd⟩) := by
 have e1 : pack 36 false has = has := Zbr false h1
 have e2 : pack 36 Za.zero ds = ds := Zbr _ h2
 unfold Zbx.f gotR
 simp only [e1, e2]
 refine bof (v := (p, kd, !(placed ⟨p, kd⟩ && has.getD (idx ⟨p, kd⟩) false), ⟨has, ds⟩, false, 0, 0, 0)) ?_ ?_
 ·refine bof (isR_eq k p) ?_
  by_cases g1 : 0 ≤ p ∧ p < 12
  ·rw [decide_eq_true g1, Bool.not_true, cond_false]
   by_cases g2 : kd < 0
   ·rw [ct g2, show placed ⟨p, kd⟩ = false from decide_eq_false (fun h => by have := h.2.1; dsimp only at this; omega)]
    rfl
   ·rw [cf g2]
    by_cases g3 : kd > 2
    ·rw [ct g3, show placed ⟨p, kd⟩ = false from decide_eq_false (fun h => by have := h.2.2; dsimp only at this; omega)]
     rfl
    ·have hp : placed ⟨p, kd⟩ = true := decide_eq_true ⟨g1, by dsimp only; omega⟩
     have hlt : p.toNat * 3 + kd.toNat < 36 := Yfq hp
     rw [cf g3, hp, Bool.true_and, Zhr g1.1 (by omega), Zhr (by omega) (by omega), cond_true, cond_true, Zja hlt, cond_true]
     rfl
  ·rw [decide_eq_false g1, show placed ⟨p, kd⟩ = false from decide_eq_false (fun h => g1 h.1)]
   rfl
 ·dsimp only
  simp only [e1, e2]
  cases hb : placed ⟨p, kd⟩ && has.getD (idx ⟨p, kd⟩) false with
  | false => rfl
  | true =>
   rw [Bool.and_eq_true] at hb
   have bd := Zrx hb.1
   have hlt : p.toNat * 3 + kd.toNat < 36 := Yfq hb.1
   dsimp only at bd
   rw [Bool.not_true, cond_false, Zhr bd.1.1 (by omega), Zhr bd.2.1 (by omega), cond_true, cond_true, Zja hlt, cond_true,
    getD_map' (fun y : Za => y.Zhd) ds _ Za.zero false rfl, getD_map' (fun y : Za => y.f_C.1) ds _ Za.zero 0 rfl, getD_map' (fun y : Za => y.f_C.2) ds _ Za.zero 0 rfl, getD_map' (fun y : Za => y.Zm) ds _ Za.zero 0 rfl]
   rfl
structure Sim (T : List (Zu × Za)) (has : List Bool) (ds : List Za) : Prop where
 h1 : has.length = 36
 h2 : ds.length = 36
 pl : ∀ q ∈ T.map (·.1), placed q = true
 nd : (T.map (·.1)).Nodup
 on : ∀ q, placed q = true → Zii (Zan q) T = cond (has.getD (idx q) false) (some (ds.getD (idx q) Za.zero)) none
theorem sim_nil : Sim [] (List.replicate 36 false) (List.replicate 36 Za.zero) := by
 refine ⟨rfl, rfl, fun q h => (List.not_mem_nil h).elim, List.nodup_nil, fun q hq => ?_⟩
 have := Yfq hq
 rw [List.getD_eq_getElem?_getD, List.getElem?_replicate, if_pos this]
 rfl
theorem Sim.set {T : List (Zu × Za)} {has : List Bool} {ds : List Za} (h : Sim T has ds) {q : Zu} (hq : placed q = true) (d : Za) : Sim (Zkh (Zan q) q d T) (has.set (idx q) true) (ds.set (idx q) d) := by
 have hlt := Yfq hq
 have hmk := Ypi Zsb q d T
 have hmem : q ∈ T.map (·.1) ↔ (Zii (Zan q) T).isSome = true := (Zwh Zsb q T).symm
 refine ⟨by rw [List.length_set]; exact h.h1, by rw [List.length_set]; exact h.h2, ?_, ?_, ?_⟩
 ·rw [hmk]
  intro x hx
  cases hs : (Zii (Zan q) T).isSome with
  | true => rw [hs, cond_true] at hx; exact h.pl x hx
  | false =>
   rw [hs, cond_false, List.mem_append] at hx
   rcases hx with hx | hx
   ·exact h.pl x hx
   ·have : x = q := by simpa using hx
    rw [this]; exact hq
 ·rw [hmk]
  cases hs : (Zii (Zan q) T).isSome with
  | true => exact h.nd
  | false =>
   rw [cond_false, List.nodup_append]
   exact ⟨h.nd, by simp, fun a ha b hb e => by
    have hb' : b = q := by simpa using hb
    rw [e, hb'] at ha
    rw [hmem.1 ha] at hs
    cases hs⟩
 ·intro x hx
  have hxlt := Yfq hx
  rw [Zpq, Zpq, h.h1, h.h2]
  by_cases e : idx q = idx x
  ·have := idx_inj hq hx e
   subst this
   rw [get_same, if_pos ⟨rfl, hlt⟩, if_pos ⟨rfl, hlt⟩]
   rfl
  ·rw [get_other T (fun h' => e (by rw [h'])), if_neg (fun h' => e h'.1), if_neg (fun h' => e h'.1)]
   exact h.on x hx
theorem Sim.agree {T : List (Zu × Za)} {has : List Bool} {ds : List Za} (h : Sim T has ds) (q : Zu) :
  ∃ D E, got T (Zii (Zan q) T) = (D, E, ⟨T⟩) ∧ gotR has ds q = (D, E, ⟨has, ds⟩) ∧ ((E == 0) = true ↔ q ∈ T.map (·.1)) := by
 rw [← Zwh Zsb q T]
 cases hp : placed q with
 | true =>
  unfold gotR
  rw [h.on q hp, hp, Bool.true_and]
  cases has.getD (idx q) false with
  | true => exact ⟨_, _, rfl, rfl, by simp⟩
  | false => exact ⟨_, _, rfl, rfl, by simp⟩
 | false =>
  have hn : Zii (Zan q) T = none := by
   cases hm : Zii (Zan q) T with
   | none => rfl
   | some d =>
    have := h.pl q ((Zwh Zsb q T).1 (by rw [hm]; rfl))
    rw [hp] at this
    cases this
  unfold gotR
  rw [hn, hp, Bool.false_and]
  exact ⟨_, _, rfl, rfl, by simp⟩
end Go.Proofs.YtbchcjlllddlpaaGreat.Pure
namespace Go.Proofs.YtbchcjlllddlpaaGreat.Pure
set_option linter.unusedVariables false
set_option linter.unusedSimpArgs false
open Go Go.Ev Go.Lm Go.Pu Go.Dg
noncomputable def Zws (k : Nat) (s : Nat) (L : List Int) : List Zd := (Zab.f k L (s : Int) 0 4).getD []
theorem Zzk {k : Nat} (hk : 1002 < k) {s : Nat} (hs : s ≤ 4) {L : List Int} (hL : L.length ≤ 9223372036854775807) :
  Zab.f k L (s : Int) 0 4 = some (Zws k s L) ∧ (Zws k s L).length ≤ 1000 ∧ ∀ x ∈ Zws k s L, LnW x := by
 obtain ⟨y, hy, y1, y2⟩ := HLines_ok (k := k) (by omega) L hL (by omega : s ≤ 9) (b := 0) (by decide) (e := 4) (by decide)
 have : Zws k s L = y := by unfold Zws; rw [hy]; rfl
 rw [this]
 exact ⟨hy, by omega, y2⟩
noncomputable def Zky (k : Nat) (s : Nat) (b : Zk) (x : Zw) : Zk :=
 cond (pick x.Zgn 8 == 0) (Zmi b (Pe.clo b.f_t.Zl b.f_t.Zj (pick x.f_B 3))).2
  (cond (pick x.Zgn 8 == 1) (revR s b (pick x.f_N 5) (pick x.f_B 3)).2.2
   (cond (pick x.Zgn 8 == 2) (Zmi b (Pe.reo b.f_t.Zl b.f_t.Zj (pick x.f_B 3))).2 (Zxt s b (pick x.f_B 3) (Zws k s x.f_L)).2.2))
def ActL (z : Zw) : Prop := z.f_L.length ≤ 9223372036854775807
theorem Zqt.step {k : Nat} (hk : 1002 < k) {s : Nat} (hs : s ≤ 4) {b : Zk} (h : Zqt s b) {x : Zw} (hx : ActL x) : Zqt s (Zky k s b x) := by
 unfold Zky
 cases pick x.Zgn 8 == 0 with
 | true => exact h.turn (Pe.Yta h.T.1 h.T.2 _)
 | false =>
  rw [cond_false]
  cases pick x.Zgn 8 == 1 with
  | true => exact h.rev _ _
  | false =>
   rw [cond_false]
   cases pick x.Zgn 8 == 2 with
   | true => exact h.turn (Pe.Yrm h.T.1 h.T.2 _)
   | false => exact h.post _ (Zzk hk hs hx).2.2
theorem Yfw {l : List Zw} {i : Nat} (hi : i < l.length) : l.getD i Zw.zero ∈ l := by
 rw [List.getD_eq_getElem?_getD, List.getElem?_eq_getElem hi]
 exact List.getElem_mem hi
theorem bk_step {k : Nat} (hk : 1002 < k) {l : List Zw} (hw : ∀ z ∈ l, ActL z) {s : Nat} (hs : s ≤ 4) {i : Nat} (hi : i < l.length) (h14 : i < 14) {b : Zk} (h : Zqt s b) (r : Zt) (hr : r.f_T.Zl.length = 12 ∧ r.f_T.Zj.length = 12) (hrs : r.Zm = (s : Int)) :
  Zai.l6.once k (l, (i : Int), b.Zbk, b.f_l, b.f_t, r.Zm, r.f_L, r.f_T) = some (.inl (l, ((i + 1 : Nat) : Int), (Zky k s b (l.getD i Zw.zero)).Zbk, (Zky k s b (l.getD i Zw.zero)).f_l, (Zky k s b (l.getD i Zw.zero)).f_t, r.Zm, r.f_L, r.f_T)) := by
 have e1 := pk h.T
 have e2 : (⟨pack 12 false r.f_T.Zl, pack 12 0 r.f_T.Zj⟩ : Zf) = r.f_T := pkR hr.1 hr.2
 have hx : ActL (l.getD i Zw.zero) := hw _ (Yfw hi)
 have hI := h.step hk hs hx
 have e3 := pk hI.T
 have hwr := Zhp (show -9223372036854775808 ≤ (i : Int) + 1 ∧ (i : Int) + 1 < 9223372036854775808 by omega)
 unfold Zai.l6.once
 dsimp only
 simp only [e1, e2]
 rw [ct (show (i : Int) < (l.length : Int) by omega), Z0]
 dsimp only
 rw [ct (show (i : Int) < 14 by omega), Zhr (by omega) (by omega), cond_true, Int.toNat_natCast]
 generalize l.getD i Zw.zero = x at hx hI e3 ⊢
 refine bof (v := (l, (i : Int), (Zky k s b x).Zbk, (Zky k s b x).f_l, (Zky k s b x).f_t, r.Zm, r.f_L, r.f_T)) ?_ ?_
 ·refine bof (Zer k x.Zgn (by decide) (by decide)) ?_
  have bp := Zgk x.f_B (m := 3) (by decide)
  have bn := Zgk x.f_N (m := 5) (by decide)
  have pB := Zer k x.f_B (m := 3) (by decide) (by decide)
  have pN := Zer k x.f_N (m := 5) (by decide) (by decide)
  unfold Zky at hI e3 ⊢
  cases h0 : pick x.Zgn 8 == 0 with
  | true =>
   rw [h0] at hI e3
   simp only [cond_true] at hI e3 ⊢
   refine bof pB (bof (Bclose2 k h.T (by omega)) ?_)
   simp only [e2, e3]
  | false =>
   rw [h0] at hI e3
   simp only [cond_false] at hI e3 ⊢
   cases h1 : pick x.Zgn 8 == 1 with
   | true =>
    rw [h1] at hI e3
    simp only [cond_true] at hI e3 ⊢
    refine bof pN (bof pB (bof (Brev_eq (k := k) (by omega) h.T h.len (by omega : s ≤ 9) _ _ h.ls) ?_))
    simp only [e2, e3]
   | false =>
    rw [h1] at hI e3
    simp only [cond_false] at hI e3 ⊢
    cases h2 : pick x.Zgn 8 == 2 with
    | true =>
     rw [h2] at hI e3
     simp only [cond_true] at hI e3 ⊢
     refine bof pB (bof (Breopen2 k h.T (by omega)) ?_)
     simp only [e2, e3]
    | false =>
     rw [h2] at hI e3
     simp only [cond_false] at hI e3 ⊢
     obtain ⟨y0, y1, y2⟩ := Zzk hk hs hx
     refine bof pB (bof ((congrArg (fun z => Zab.f k x.f_L z 0 4) hrs).trans y0) (bof (Bpost_eq (k := k) (by omega) h.T h.len (by omega : s ≤ 9) h.sc _ y1 y2) ?_))
     simp only [e2, e3]
 ·dsimp only
  simp only [e2, e3, hwr]
  rfl
theorem rk_step {k : Nat} (hk : 1002 < k) {l : List Zw} (hw : ∀ z ∈ l, ActL z) {s : Nat} (hs : s ≤ 4) {i : Nat} (hi : i < l.length) (h14 : i < 14) {b : Zk} (h : Zqt s b) :
  Zbg.l3.once k (l, (i : Int), (rof b).Zm, (rof b).f_L, (rof b).f_T) = some (.inl (l, ((i + 1 : Nat) : Int), (rof (Zky k s b (l.getD i Zw.zero))).Zm, (rof (Zky k s b (l.getD i Zw.zero))).f_L, (rof (Zky k s b (l.getD i Zw.zero))).f_T)) := by
 have e1 : (⟨pack 12 false (rof b).f_T.Zl, pack 12 0 (rof b).f_T.Zj⟩ : Zf) = (rof b).f_T := pkR h.T.1 h.T.2
 have hx : ActL (l.getD i Zw.zero) := hw _ (Yfw hi)
 have hI := h.step hk hs hx
 have e3 : (⟨pack 12 false (rof (Zky k s b (l.getD i Zw.zero))).f_T.Zl, pack 12 0 (rof (Zky k s b (l.getD i Zw.zero))).f_T.Zj⟩ : Zf) = (rof (Zky k s b (l.getD i Zw.zero))).f_T := pkR hI.T.1 hI.T.2
 have hwr := Zhp (show -9223372036854775808 ≤ (i : Int) + 1 ∧ (i : Int) + 1 < 9223372036854775808 by omega)
 unfold Zbg.l3.once
 dsimp only
 simp only [e1]
 rw [ct (show (i : Int) < (l.length : Int) by omega), Z0]
 dsimp only
 rw [ct (show (i : Int) < 14 by omega), Zhr (by omega) (by omega), cond_true, Int.toNat_natCast]
 generalize l.getD i Zw.zero = x at hx hI e3 ⊢
 refine bof (v := (l, (i : Int), (rof (Zky k s b x)).Zm, (rof (Zky k s b x)).f_L, (rof (Zky k s b x)).f_T)) ?_ ?_
 ·refine bof (Zer k x.Zgn (by decide) (by decide)) ?_
  have bp := Zgk x.f_B (m := 3) (by decide)
  have bn := Zgk x.f_N (m := 5) (by decide)
  have pB := Zer k x.f_B (m := 3) (by decide) (by decide)
  have pN := Zer k x.f_N (m := 5) (by decide) (by decide)
  unfold Zky at hI e3 ⊢
  cases h0 : pick x.Zgn 8 == 0 with
  | true =>
   rw [h0] at hI e3
   simp only [cond_true] at hI e3 ⊢
   refine bof pB (bof (RBclose k h.T (by omega)) ?_)
   simp only [e3]
  | false =>
   rw [h0] at hI e3
   simp only [cond_false] at hI e3 ⊢
   cases h1 : pick x.Zgn 8 == 1 with
   | true =>
    rw [h1] at hI e3
    simp only [cond_true] at hI e3 ⊢
    refine bof pN (bof pB (bof (RRev_eq hk h.T h.len (by omega : s ≤ 9) _ _ h.ls) ?_))
    simp only [e3]
   | false =>
    rw [h1] at hI e3
    simp only [cond_false] at hI e3 ⊢
    cases h2 : pick x.Zgn 8 == 2 with
    | true =>
     rw [h2] at hI e3
     simp only [cond_true] at hI e3 ⊢
     refine bof pB (bof (RBreopen k h.T (by omega)) ?_)
     simp only [e3]
    | false =>
     rw [h2] at hI e3
     simp only [cond_false] at hI e3 ⊢
     obtain ⟨y0, y1, y2⟩ := Zzk hk hs hx
     refine bof pB (bof ((congrArg (fun z => Zab.f k x.f_L z 0 4) h.sc).trans y0) (bof (RPost_eq hk h.T h.len (by omega : s ≤ 9) h.sc _ y1 y2) ?_))
     simp only [e3]
 ·dsimp only
  simp only [e3, hwr]
  rfl
def b0 (s : Nat) : Zk := ⟨(s : Int), [], ⟨[false, false, false, false, false, false, false, false, false, false, false, false], [0, 0, 0, 0, 0, 0, 0, 0, 0, 0, 0, 0]⟩⟩
theorem b0_inv (s : Nat) : Zqt s (b0 s) := ⟨⟨rfl, rfl⟩, Nat.zero_le _, rfl, fun x hx => (List.not_mem_nil hx).elim⟩
noncomputable def bkR (k s : Nat) (l : List Zw) : Nat → Zk
 | 0 => b0 s
 | i + 1 => Zky k s (bkR k s l i) (l.getD i Zw.zero)
theorem Yiw {k : Nat} (hk : 1002 < k) {s : Nat} (hs : s ≤ 4) {l : List Zw} (hw : ∀ z ∈ l, ActL z) : ∀ i, i ≤ l.length → Zqt s (bkR k s l i)
 | 0, _ => b0_inv s
 | i + 1, hi => (Yiw hk hs hw i (by omega)).step hk hs (hw _ (Yfw (by omega)))
noncomputable def bkN (k s : Nat) (l : List Zw) : Zk := bkR k s l (min l.length 14)
theorem bkN_inv {k : Nat} (hk : 1002 < k) {s : Nat} (hs : s ≤ 4) {l : List Zw} (hw : ∀ z ∈ l, ActL z) : Zqt s (bkN k s l) := Yiw hk hs hw _ (Nat.min_le_left _ _)
theorem HBook_eq {k : Nat} (hk : 1002 < k) {s : Nat} (hs : s ≤ 4) {l : List Zw} (hw : ∀ z ∈ l, ActL z) : Zbg.f k l (s : Int) = some (rof (bkN k s l)) := by
 unfold Zbg.f
 refine bof (v := rof (b0 s)) ?_ ?_
 ·unfold Zej.f Zdl.f
  rw [Z0]
  have : (if (if (s : Int) < 4 then (s : Int) else 4) > 0 then (if (s : Int) < 4 then (s : Int) else 4) else 0) = (s : Int) := by
   split <;> split <;> omega
  rw [this]
  rfl
 ·have hI := fun i (h : i ≤ l.length) => Yiw hk hs hw i h
  have hN := hI (min l.length 14) (Nat.min_le_left _ _)
  have it := Zok (once := Zbg.l3.once k) (fun i => (l, (i : Int), (rof (bkR k s l i)).Zm, (rof (bkR k s l i)).f_L, (rof (bkR k s l i)).f_T)) (min l.length 14)
   (fun i hi => rk_step hk hw hs (by omega) (by omega) (hI i (by omega))) ((rof (bkN k s l)).Zm, (rof (bkN k s l)).f_L, (rof (bkN k s l)).f_T) (by
    have e1 : (⟨pack 12 false (rof (bkR k s l (min l.length 14))).f_T.Zl, pack 12 0 (rof (bkR k s l (min l.length 14))).f_T.Zj⟩ : Zf) = (rof (bkR k s l (min l.length 14))).f_T := pkR hN.T.1 hN.T.2
    unfold Zbg.l3.once
    dsimp only
    simp only [e1]
    by_cases h : ((min l.length 14 : Nat) : Int) < (l.length : Int)
    ·rw [ct h, Z0]
     dsimp only
     rw [cf (show ¬ ((min l.length 14 : Nat) : Int) < 14 by omega)]
     simp only [e1]
     rfl
    ·rw [cf h, Z0]
     dsimp only
     rw [cond_false]
     simp only [e1]
     rfl) k 0 (Nat.zero_le _) (by omega)
  refine bof it ?_
  have e2 : (⟨pack 12 false (rof (bkN k s l)).f_T.Zl, pack 12 0 (rof (bkN k s l)).f_T.Zj⟩ : Zf) = (rof (bkN k s l)).f_T := pkR hN.T.1 hN.T.2
  dsimp only
  rw [e2]
theorem books_eq {k : Nat} (hk : 1002 < k) {s : Nat} (hs : s ≤ 4) {l : List Zw} (hw : ∀ z ∈ l, ActL z) : Zai.f k l (s : Int) = some (bkN k s l, rof (bkN k s l)) := by
 have hI := fun i (h : i ≤ l.length) => Yiw hk hs hw i h
 have hN := hI (min l.length 14) (Nat.min_le_left _ _)
 have e2 : (⟨pack 12 false (rof (bkN k s l)).f_T.Zl, pack 12 0 (rof (bkN k s l)).f_T.Zj⟩ : Zf) = (rof (bkN k s l)).f_T := pkR hN.T.1 hN.T.2
 have e3 : (⟨pack 12 false (bkN k s l).f_t.Zl, pack 12 0 (bkN k s l).f_t.Zj⟩ : Zg) = (bkN k s l).f_t := pk hN.T
 unfold Zai.f
 refine bof (v := b0 s) ?_ (bof (HBook_eq hk hs hw) ?_)
 ·unfold Zgt.f
  have : (if (if 4 < (s : Int) then 4 else (s : Int)) > 0 then (if 4 < (s : Int) then 4 else (s : Int)) else 0) = (s : Int) := by
   split <;> split <;> omega
  rw [this]
  rfl
 ·simp only [e2]
  have it := Zok (once := Zai.l6.once k) (fun i => (l, (i : Int), (bkR k s l i).Zbk, (bkR k s l i).f_l, (bkR k s l i).f_t, (rof (bkN k s l)).Zm, (rof (bkN k s l)).f_L, (rof (bkN k s l)).f_T)) (min l.length 14)
   (fun i hi => bk_step hk hw hs (by omega) (by omega) (hI i (by omega)) (rof (bkN k s l)) ⟨hN.T.1, hN.T.2⟩ hN.sc) ((bkN k s l).Zbk, (bkN k s l).f_l, (bkN k s l).f_t, (rof (bkN k s l)).Zm, (rof (bkN k s l)).f_L, (rof (bkN k s l)).f_T) (by
    have e1 : (⟨pack 12 false (bkR k s l (min l.length 14)).f_t.Zl, pack 12 0 (bkR k s l (min l.length 14)).f_t.Zj⟩ : Zg) = (bkR k s l (min l.length 14)).f_t := pk hN.T
    unfold Zai.l6.once
    dsimp only
    simp only [e1, e2]
    by_cases h : ((min l.length 14 : Nat) : Int) < (l.length : Int)
    ·rw [ct h, Z0]
     dsimp only
     rw [cf (show ¬ ((min l.length 14 : Nat) : Int) < 14 by omega)]
     simp only [e1, e2]
     rfl
    ·rw [cf h, Z0]
     dsimp only
     rw [cond_false]
     simp only [e1, e2]
     rfl) k 0 (Nat.zero_le _) (by omega)
  have hp : (⟨pack 12 false (b0 s).f_t.Zl, pack 12 0 (b0 s).f_t.Zj⟩ : Zg) = (b0 s).f_t := pk (b0_inv s).T
  refine bof (v := ((bkN k s l).Zbk, (bkN k s l).f_l, (bkN k s l).f_t, (rof (bkN k s l)).Zm, (rof (bkN k s l)).f_L, (rof (bkN k s l)).f_T)) ?_ ?_
  ·simp only [hp]
   exact it
  ·dsimp only
   simp only [e2, e3]
end Go.Proofs.YtbchcjlllddlpaaGreat.Pure
namespace Go.Proofs.YtbchcjlllddlpaaGreat.Pure
set_option linter.unusedVariables false
set_option linter.unusedSimpArgs false
open Go Go.Ev Go.Lm Go.Pu Go.Dg
abbrev KZ := Int × Int
def ltZ (a b : KZ) : Bool := decide (a.1 < b.1) || (a.1 == b.1 && decide (a.2 < b.2))
theorem Ybq {a b : KZ} : ltZ a b = true ↔ a.1 < b.1 ∨ (a.1 = b.1 ∧ a.2 < b.2) := by unfold ltZ; simp
theorem Zqu {a b : KZ} (h : ltZ a b = true) : a ≠ b := by
 rintro rfl
 rw [Ybq] at h
 omega
theorem Ypm {a b c : KZ} (h : ltZ a b = true) (h' : ltZ b c = true) : ltZ a c = true := by
 rw [Ybq] at *
 omega
theorem ltZ_total {a b : KZ} (h : ltZ a b = false) (h' : b ≠ a) : ltZ b a = true := by
 rw [Ybq]
 have h1 : ¬ (a.1 < b.1 ∨ (a.1 = b.1 ∧ a.2 < b.2)) := fun hh => by rw [Ybq.2 hh] at h; cases h
 by_cases e1 : b.1 = a.1
 ·by_cases e2 : b.2 = a.2
  ·exact absurd (Prod.ext e1 e2) h'
  ·omega
 ·omega
theorem Zwu {a b : KZ} : Zcu a b = true ↔ a = b := by
 unfold Zcu
 rw [Bool.and_eq_true, beq_iff_eq, beq_iff_eq]
 exact ⟨fun h => Prod.ext h.1 h.2, fun h => by rw [h]; exact ⟨rfl, rfl⟩⟩
def Ris (l : List (KZ × Int)) : Prop := l.Pairwise fun a b => ltZ a.1 b.1 = true
def SmL (l : List (KZ × Int)) : Prop := ∀ p ∈ l, Sm p.2
instance (v : Int) : Decidable (Sm v) := by unfold Sm; exact inferInstance
def Zqs (k : KZ) (v : Int) : List (KZ × Int) → Option (List (KZ × Int))
 | [] => some [(k, v)]
 | x :: r => if x.1 = k then (if Sm (x.2 + v) then some ((k, x.2 + v) :: r) else none) else if ltZ k x.1 = true then some ((k, v) :: x :: r) else (Zqs k v r).map (x :: ·)
def Zkc (k : KZ) : List (KZ × Int) → Option Int
 | [] => none
 | x :: r => if x.1 = k then some x.2 else Zkc k r
theorem Yci : ∀ {l : List (KZ × Int)} {k : KZ} {v : Int}, Zkc k l = some v → (k, v) ∈ l
 | [], k, v, h => by cases h
 | x :: r, k, v, h => by
  unfold Zkc at h
  split at h
  ·rename_i e
   cases h
   rw [← e]
   exact List.mem_cons_self
  ·exact List.mem_cons_of_mem _ (Yci h)
theorem Yfr : ∀ {l : List (KZ × Int)} {k : KZ}, Zkc k l = none → ∀ p ∈ l, p.1 ≠ k
 | [], k, h, p, hp => (List.not_mem_nil hp).elim
 | x :: r, k, h, p, hp => by
  unfold Zkc at h
  split at h
  ·cases h
  ·rename_i e
   rcases List.mem_cons.1 hp with rfl | hp
   ·exact e
   ·exact Yfr h p hp
theorem Yze {k : KZ} {l : List (KZ × Int)} (h : ∀ p ∈ l, ltZ k p.1 = true) : Zkc k l = none := by
 induction l with
 | nil => rfl
 | cons x r ih =>
  unfold Zkc
  rw [if_neg (fun e => Zqu (h x List.mem_cons_self) e.symm), ih fun p hp => h p (List.mem_cons_of_mem _ hp)]
theorem Zrw {k : KZ} {v : Int} (hv : Sm v) : ∀ {l : List (KZ × Int)}, Ris l → SmL l → match Zqs k v l with
  | some z => Ris z ∧ SmL z ∧ z.length ≤ l.length + 1 ∧ (∀ p ∈ z, p.1 = k ∨ p.1 ∈ l.map (·.1)) ∧ (match Zkc k l with
   | some u => Sm (u + v) ∧ z = l.map fun p => if p.1 = k then (k, u + v) else p
   | none => z.Perm ((k, v) :: l))
  | none => ∃ u, Zkc k l = some u ∧ ¬ Sm (u + v)
 | [], _, _ => ⟨List.pairwise_singleton _ _, fun p hp => by rw [List.mem_singleton.1 hp]; exact hv, Nat.le_refl _, fun p hp => .inl (by rw [List.mem_singleton.1 hp]), .refl _⟩
 | x :: r, hr, hs => by
  have hr' := List.pairwise_cons.1 hr
  have hsr : SmL r := fun p hp => hs p (List.mem_cons_of_mem _ hp)
  unfold Zqs Zkc
  by_cases e : x.1 = k
  ·rw [if_pos e, if_pos e]
   by_cases hm : Sm (x.2 + v)
   ·rw [if_pos hm]
    have hmap : ∀ p ∈ r, (if p.1 = k then (k, x.2 + v) else p) = p := fun p hp => by
     have := hr'.1 p hp
     rw [if_neg (fun e' => Zqu this (by rw [e, e']))]
    refine ⟨List.pairwise_cons.2 ⟨fun p hp => by have := hr'.1 p hp; rw [e] at this; exact this, hr'.2⟩, fun p hp => ?_, by simp, fun p hp => ?_, hm, ?_⟩
    ·rcases List.mem_cons.1 hp with rfl | hp
     ·exact hm
     ·exact hsr p hp
    ·rcases List.mem_cons.1 hp with rfl | hp
     ·exact .inl rfl
     ·exact .inr (List.mem_map.2 ⟨p, List.mem_cons_of_mem _ hp, rfl⟩)
    ·rw [List.map_cons, if_pos e, (List.map_congr_left hmap).trans (List.map_id _)]
   ·rw [if_neg hm]
    exact ⟨x.2, rfl, hm⟩
  ·rw [if_neg e, if_neg e]
   by_cases hl : ltZ k x.1 = true
   ·rw [if_pos hl]
    have hab : ∀ p ∈ r, ltZ k p.1 = true := fun p hp => Ypm hl (hr'.1 p hp)
    rw [Yze hab]
    refine ⟨List.pairwise_cons.2 ⟨fun p hp => ?_, hr⟩, fun p hp => ?_, by simp, fun p hp => ?_, .refl _⟩
    ·rcases List.mem_cons.1 hp with rfl | hp
     ·exact hl
     ·exact hab p hp
    ·rcases List.mem_cons.1 hp with rfl | hp
     ·exact hv
     ·exact hs p hp
    ·rcases List.mem_cons.1 hp with rfl | hp
     ·exact .inl rfl
     ·exact .inr (List.mem_map.2 ⟨p, hp, rfl⟩)
   ·rw [if_neg hl]
    have hxk : ltZ x.1 k = true := ltZ_total (by simpa using hl) e
    have ih := Zrw (k := k) hv hr'.2 hsr
    cases hz : Zqs k v r with
    | none =>
     rw [hz] at ih
     exact ih
    | some z =>
     rw [hz] at ih
     obtain ⟨h1, h2, h3, h4, h5⟩ := ih
     refine ⟨List.pairwise_cons.2 ⟨fun p hp => ?_, h1⟩, fun p hp => ?_, by simp; omega, fun p hp => ?_, ?_⟩
     ·rcases h4 p hp with h | h
      ·rw [h]; exact hxk
      ·obtain ⟨q, hq, e'⟩ := List.mem_map.1 h
       rw [← e']
       exact hr'.1 q hq
     ·rcases List.mem_cons.1 hp with rfl | hp
      ·exact hs _ List.mem_cons_self
      ·exact h2 p hp
     ·rcases List.mem_cons.1 hp with rfl | hp
      ·exact .inr (List.mem_map.2 ⟨_, List.mem_cons_self, rfl⟩)
      ·rcases h4 p hp with h | h
       ·exact .inl h
       ·exact .inr (by rw [List.map_cons]; exact List.mem_cons_of_mem _ h)
     ·cases hg : Zkc k r with
      | some u =>
       rw [hg] at h5
       refine ⟨h5.1, ?_⟩
       rw [List.map_cons, if_neg e, h5.2]
      | none =>
       rw [hg] at h5
       exact (List.Perm.cons x h5).trans (.swap _ _ _)
def mkz (s : Nat) (p : KZ × Int) : KZ × Za := (p.1, DV p.2 s)
theorem Ris.nd {l : List (KZ × Int)} (h : Ris l) : (l.map (·.1)).Nodup := by
 unfold List.Nodup
 rw [List.pairwise_map]
 exact h.imp fun h => Zqu h
theorem Yvk (s : Nat) (l : List (KZ × Int)) : (l.map (mkz s)).map (·.1) = l.map (·.1) := by
 rw [List.map_map]
 rfl
theorem mget_nd {k : KZ} {d : Za} : ∀ {M : List (KZ × Za)}, (M.map (·.1)).Nodup → (k, d) ∈ M → Zii (Zcu k) M = some d
 | [], _, h => by cases h
 | x :: r, hn, h => by
  rw [List.map_cons, List.nodup_cons] at hn
  unfold Zii
  rcases List.mem_cons.1 h with e | h
  ·subst e
   rw [Zwu.2 rfl]
   rfl
  ·have : Zcu k x.1 = false := by
    rw [Bool.eq_false_iff]
    intro hk
    exact hn.1 (List.mem_map.2 ⟨_, h, Zwu.1 hk⟩)
   rw [this]
   exact mget_nd hn.2 h
theorem mget_no {k : KZ} : ∀ {M : List (KZ × Za)}, (∀ p ∈ M, p.1 ≠ k) → Zii (Zcu k) M = none
 | [], _ => rfl
 | x :: r, h => by
  unfold Zii
  have : Zcu k x.1 = false := by
   rw [Bool.eq_false_iff]
   intro hk
   exact h x List.mem_cons_self (Zwu.1 hk).symm
  rw [this]
  exact mget_no fun p hp => h p (List.mem_cons_of_mem _ hp)
theorem Yru {k : KZ} {d : Za} : ∀ {M : List (KZ × Za)}, (∀ p ∈ M, p.1 ≠ k) → Zkh (Zcu k) k d M = M ++ [(k, d)]
 | [], _ => rfl
 | x :: r, h => by
  unfold Zkh
  have : Zcu k x.1 = false := by
   rw [Bool.eq_false_iff]
   intro hk
   exact h x List.mem_cons_self (Zwu.1 hk).symm
  rw [this, cond_false, Yru fun p hp => h p (List.mem_cons_of_mem _ hp)]
  rfl
theorem mput_nd {k : KZ} {d u : Za} : ∀ {M : List (KZ × Za)}, (M.map (·.1)).Nodup → (k, u) ∈ M → Zkh (Zcu k) k d M = M.map fun p => if p.1 = k then (k, d) else p
 | [], _, h => by cases h
 | x :: r, hn, h => by
  rw [List.map_cons, List.nodup_cons] at hn
  unfold Zkh
  by_cases e : x.1 = k
  ·rw [Zwu.2 e.symm, cond_true, List.map_cons, if_pos e, e]
   congr 1
   refine ((List.map_congr_left fun p hp => ?_).trans (List.map_id r)).symm
   exact if_neg fun e' => hn.1 (List.mem_map.2 ⟨p, hp, by rw [e, e']⟩)
  ·have hk : Zcu k x.1 = false := by
    rw [Bool.eq_false_iff]
    intro hk
    exact e (Zwu.1 hk).symm
   rw [hk, cond_false, List.map_cons, if_neg e]
   rcases List.mem_cons.1 h with e' | h
   ·exact absurd (congrArg Prod.fst e').symm e
   ·rw [mput_nd hn.2 h]
structure MZ (s : Nat) (M : List (KZ × Za)) (l : List (KZ × Int)) : Prop where
 perm : M.Perm (l.map (mkz s))
 ris : Ris l
 sm : SmL l
theorem MZ.nil (s : Nat) : MZ s [] [] := ⟨.refl _, List.Pairwise.nil, fun p hp => (List.not_mem_nil hp).elim⟩
theorem MZ.nd {s : Nat} {M : List (KZ × Za)} {l : List (KZ × Int)} (h : MZ s M l) : (M.map (·.1)).Nodup := by
 have := h.perm.map (·.1)
 rw [Yvk] at this
 exact this.nodup_iff.2 h.ris.nd
theorem MZ.get {s : Nat} {M : List (KZ × Za)} {l : List (KZ × Int)} (h : MZ s M l) (k : KZ) : Zii (Zcu k) M = (Zkc k l).map fun v => DV v s := by
 cases hg : Zkc k l with
 | some v => exact mget_nd h.nd (h.perm.mem_iff.2 (List.mem_map.2 ⟨_, Yci hg, rfl⟩))
 | none =>
  refine mget_no fun p hp => ?_
  obtain ⟨q, hq, rfl⟩ := List.mem_map.1 (h.perm.mem_iff.1 hp)
  exact Yfr hg q hq
theorem MZ.put {s : Nat} {M : List (KZ × Za)} {l z : List (KZ × Int)} (h : MZ s M l) {k : KZ} {v : Int} (hv : Sm v) (hz : Zqs k v l = some z) : MZ s (Zkh (Zcu k) k (DV ((Zkc k l).getD 0 + v) s) M) z := by
 have sp := Zrw (k := k) hv h.ris h.sm
 rw [hz] at sp
 obtain ⟨h1, h2, h3, h4, h5⟩ := sp
 refine ⟨?_, h1, h2⟩
 cases hg : Zkc k l with
 | some u =>
  rw [hg] at h5
  obtain ⟨h6, h7⟩ := h5
  rw [mput_nd h.nd (h.perm.mem_iff.2 (List.mem_map.2 ⟨_, Yci hg, rfl⟩)), h7]
  refine (h.perm.map _).trans (List.Perm.of_eq ?_)
  rw [List.map_map, List.map_map]
  refine List.map_congr_left fun p _ => ?_
  show (if p.1 = k then (k, DV (u + v) s) else mkz s p) = mkz s (if p.1 = k then (k, u + v) else p)
  split <;> rfl
 | none =>
  rw [hg] at h5
  rw [Yru fun p hp => by
   obtain ⟨q, hq, rfl⟩ := List.mem_map.1 (h.perm.mem_iff.1 hp)
   exact Yfr hg q hq]
  refine (List.perm_append_comm.trans ((List.Perm.cons _ h.perm).trans ?_))
  show (mkz s (k, 0 + v) :: l.map (mkz s)).Perm (z.map (mkz s))
  rw [Int.zero_add]
  exact (h5.map (mkz s)).symm
def Zjv (l : List (KZ × Int)) : List (KZ × Int) := l.filter fun p => p.2 != 0
theorem Yku {α : Type} {p : α → Option Bool} {q : α → Bool} : ∀ {l : List α}, (∀ x ∈ l, p x = some (q x)) → Zxu p l = some (l.filter fun x => !q x)
 | [], _ => rfl
 | x :: r, h => by
  unfold Zxu
  rw [h x List.mem_cons_self, Z0, Yku fun y hy => h y (List.mem_cons_of_mem _ hy), Z0]
  cases hq : q x with
  | true => rw [List.filter_cons_of_neg (by simp [hq])]; rfl
  | false => rw [List.filter_cons_of_pos (by simp [hq])]; rfl
theorem Yoy {l : List (KZ × Int)} (h : Ris l) : Ris (Zjv l) := h.sublist List.filter_sublist
theorem Yuc {l : List (KZ × Int)} (h : SmL l) : SmL (Zjv l) := fun p hp => h p ((List.mem_filter.1 hp).1)
theorem w2_zero {v : Int} {s : Nat} : (val (DV v s) == 0) = (v == 0) := by rw [Zsv]
theorem MZ.some {s : Nat} {M : List (KZ × Za)} {l : List (KZ × Int)} (h : MZ s M l) : MZ s (M.filter fun p => !(val p.2 == 0)) (Zjv l) := by
 refine ⟨(h.perm.filter _).trans (List.Perm.of_eq ?_), Yoy h.ris, Yuc h.sm⟩
 unfold Zjv
 rw [List.filter_map]
 congr 1
 refine List.filter_congr fun p _ => ?_
 show (!(val (DV p.2 s) == 0)) = (p.2 != 0)
 rw [w2_zero]
 rfl
theorem MZ.len {s : Nat} {M : List (KZ × Za)} {l : List (KZ × Int)} (h : MZ s M l) : M.length = l.length := by rw [h.perm.length_eq, List.length_map]
end Go.Proofs.YtbchcjlllddlpaaGreat.Pure
namespace Go.Proofs.YtbchcjlllddlpaaGreat.Pure
set_option linter.unusedVariables false
set_option linter.unusedSimpArgs false
open Go Go.Ev Go.Lm Go.Pu Go.Dg
def Zix (a : Int) : Int := if a < 0 ∨ a ≥ 16 then 0 else if a ≤ 3 then 1 else if a ≤ 6 then 2 else if a ≤ 8 then 3 else 4
theorem CK_eq (k : Nat) (a : Int) : Zeh.f k a = some (Zix a) := by
 unfold Zeh.f Zix
 by_cases h : a < 0
 ·rw [ct h, if_pos (.inl h)]; rfl
 ·rw [cf h, Z0]
  dsimp only
  by_cases h2 : a ≥ 16
  ·rw [ct h2, if_pos (.inr h2)]
  ·rw [cf h2, if_neg (by omega)]
   by_cases h3 : a ≤ 3
   ·rw [ct h3, if_pos h3]
   ·rw [cf h3, if_neg h3]
    by_cases h4 : a ≤ 6
    ·rw [ct h4, if_pos h4]
    ·rw [cf h4, if_neg h4]
     by_cases h5 : a ≤ 8
     ·rw [ct h5, if_pos h5]
     ·rw [cf h5, if_neg h5]
theorem RK_eq (k : Nat) (a : Int) : Zcs.f k a = some (Zix a) := by
 unfold Zcs.f Zix
 by_cases h : a < 0
 ·rw [ct h, if_pos (.inl h)]; rfl
 ·rw [cf h, Z0]
  dsimp only
  by_cases h2 : a ≥ 16
  ·rw [ct h2, if_pos (.inr h2)]
  ·rw [cf h2, if_neg (by omega)]
   by_cases h3 : a ≤ 3
   ·rw [ct (by omega), if_pos h3]
   ·rw [cf (by omega), if_neg h3]
    by_cases h4 : a ≤ 6
    ·rw [ct (by omega), if_pos h4]
    ·rw [cf (by omega), if_neg h4]
     by_cases h5 : a ≤ 8
     ·rw [ct (by omega), if_pos h5]
     ·rw [cf (by omega), if_neg h5]
def kzL (o : Bool) (x : Zd) : KZ := if Zix x.Zdu = 4 ∧ o = false then (8, 0) else (x.Zdu, IntKind.wrap .i64 (x.Zeg + 1))
theorem key_eq (k : Nat) (x : Zd) (o : Bool) : Zgd.f k x o = some (kzL o x) := by
 unfold Zgd.f kzL
 rw [CK_eq, Z0]
 by_cases h : Zix x.Zdu = 4
 ·rw [show (Zix x.Zdu == 4) = true by rw [h]; rfl, cond_true, Z0]
  cases o
  ·rw [if_pos ⟨h, rfl⟩]; rfl
  ·rw [if_neg (by simp)]; rfl
 ·rw [show (Zix x.Zdu == 4) = false by simpa using h, cond_false, Z0, if_neg (fun hh => h hh.1)]
  rfl
theorem Yya {k : Nat} (hk : 60 < k) {i j : Int} {s : Nat} (hi : Sm i) (hj : Sm j) (hs : s ≤ 9) : Zfo.f k (DV i s) (DV j s) = some (mkD (i + j) s) := by
 have h := Add_DV hk hi hj hs hs
 rw [Nat.max_self, Nat.sub_self, Int.pow_zero, Int.mul_one, Int.mul_one] at h
 exact h
theorem Sm0 : Sm 0 := by unfold Sm; decide
theorem putZ_val {k : KZ} {v : Int} {l : List (KZ × Int)} (hv : Sm v) (hr : Ris l) (hs : SmL l) : (Zqs k v l).isSome = decide (Sm ((Zkc k l).getD 0 + v)) := by
 have h := Zrw (k := k) hv hr hs
 cases hz : Zqs k v l with
 | some z =>
  rw [hz] at h
  obtain ⟨_, _, _, _, h5⟩ := h
  cases hg : Zkc k l with
  | some u => rw [hg] at h5; rw [decide_eq_true (show Sm ((some u).getD 0 + v) from h5.1)]; rfl
  | none => rw [decide_eq_true (show Sm ((none : Option Int).getD 0 + v) by rw [Option.getD_none, Int.zero_add]; exact hv)]; rfl
 | none =>
  rw [hz] at h
  obtain ⟨u, hu, hn⟩ := h
  rw [hu, decide_eq_false (show ¬ Sm ((some u).getD 0 + v) from hn)]
  rfl
def Zon (o : Bool) : List Zd → List (KZ × Int) → Option (List (KZ × Int))
 | [], z => some z
 | x :: r, z => (Zqs (kzL o x) (val x.Zv) z).bind (Zon o r)
def Ygm (p : Int) (t : Zg) : List Ze → List (KZ × Int) → Option (List (KZ × Int))
 | [], z => some z
 | x :: r, z => if x.Zbi > p then Ygm p t r z else (Zon (opn t x.Zbi) x.Zcr z).bind (Ygm p t r)
theorem line_in {k : Nat} (hk : 1002 < k) {s : Nat} (hs : s ≤ 4) {bt t : Zg} (hb : T12 bt) (ht : T12 t) {ls : List Zd} (hl : ls.length ≤ 1000) (hw : ∀ x ∈ ls, x.Zv = DV (val x.Zv) s ∧ Sm (val x.Zv))
  {M : List (KZ × Za)} {z : List (KZ × Int)} (hM : MZ s M z) {j : Nat} (hj : j < ls.length) (p : Int) (es : List Ze) (n i : Int) (bl : List Ze) (per : Int) (ls2 : List Zd) (of : Int) :
  Zbl.l11.once k (p, es, n, i, ls, (ls.length : Int), (j : Int), (s : Int), bl, bt, M, t, per, ls2, of) = some (match Zqs (kzL (opn t per) (ls.getD j Zd.zero)) (val (ls.getD j Zd.zero).Zv) z with
   | some z' => .inl (p, es, n, i, ls, (ls.length : Int), ((j + 1 : Nat) : Int), (s : Int), bl, bt, Zkh (Zcu (kzL (opn t per) (ls.getD j Zd.zero))) (kzL (opn t per) (ls.getD j Zd.zero)) (DV ((Zkc (kzL (opn t per) (ls.getD j Zd.zero)) z).getD 0 + val (ls.getD j Zd.zero).Zv) s) M, t, per, ls2, of)
   | none => .inr (.inr ([], 3, ⟨(s : Int), bl, bt⟩))) := by
 have hx := hw _ (Zfl Zd.zero hj)
 have hwr := Zhp (show -9223372036854775808 ≤ (j : Int) + 1 ∧ (j : Int) + 1 < 9223372036854775808 by omega)
 have e1 := pk hb
 have e2 := pk ht
 unfold Zbl.l11.once
 dsimp only
 simp only [e1, e2]
 rw [ct (show (j : Int) < (ls.length : Int) by omega), Zhr (by omega) (by omega), cond_true, Int.toNat_natCast]
 generalize ls.getD j Zd.zero = x at hx ⊢
 obtain ⟨hx1, hx2⟩ := hx
 refine bof (Zxg k ht per) (bof (key_eq k x _) ?_)
 generalize kzL (opn t per) x = key
 have hg : Zii (Zcu (key.1, key.2)) M = (Zkc key z).map fun v => DV v s := hM.get key
 have hu : Sm ((Zkc key z).getD 0) := by
  cases hgz : Zkc key z with
  | none => exact Sm0
  | some u => exact hM.sm _ (Yci hgz)
 have hv := putZ_val (k := key) hx2 hM.ris hM.sm
 rw [hg, Z0, Z0]
 refine bof (v := (p, es, n, i, ls, (ls.length : Int), (j : Int), (s : Int), bl, bt, M, t, per, ls2, of, x.Zdu, x.Zv.Zhd, x.Zv.f_C.1, x.Zv.f_C.2, x.Zv.Zm, x.Zeg, key.1, key.2, (DV ((Zkc key z).getD 0) s).Zhd, (DV ((Zkc key z).getD 0) s).f_C.1, (DV ((Zkc key z).getD 0) s).f_C.2, (DV ((Zkc key z).getD 0) s).Zm)) ?_ ?_
 ·cases Zkc key z with
  | none =>
   have ho : Zha.f k 0 (s : Int) = some (DV 0 s) := by
    have := Of_DV k (n := 0) (by omega) (s : Int)
    rwa [cl_of (by omega)] at this
   rw [Option.map_none, Option.isSome_none, Bool.not_false, cond_true]
   refine bof (v := ((s : Int), (⟨(s : Int), bl, bt⟩ : Zk))) ?_ ?_
   ·unfold Zee.f
    simp only [e1]
   ·refine bof ho ?_
    simp only [e1]
    rfl
  | some u => rfl
 ·dsimp only
  have ha : Zfo.f k (⟨(DV ((Zkc key z).getD 0) s).Zhd, ((DV ((Zkc key z).getD 0) s).f_C.1, (DV ((Zkc key z).getD 0) s).f_C.2), (DV ((Zkc key z).getD 0) s).Zm⟩ : Za) (⟨x.Zv.Zhd, (x.Zv.f_C.1, x.Zv.f_C.2), x.Zv.Zm⟩ : Za) = some (mkD ((Zkc key z).getD 0 + val x.Zv) s) := by
   show Zfo.f k (DV ((Zkc key z).getD 0) s) x.Zv = _
   rw [hx1, Zsv]
   exact Yya (by omega) hu hx2 (by omega)
  refine bof ha ?_
  simp only [e1, e2, hwr]
  cases hp : Zqs key (val x.Zv) z with
  | some z' =>
   rw [hp] at hv
   have hS : Sm ((Zkc key z).getD 0 + val x.Zv) := of_decide_eq_true hv.symm
   have hm : mkD ((Zkc key z).getD 0 + val x.Zv) s = (DV ((Zkc key z).getD 0 + val x.Zv) s, 0) := if_pos hS
   rw [hm]
   rfl
  | none =>
   rw [hp] at hv
   have hS : ¬ Sm ((Zkc key z).getD 0 + val x.Zv) := of_decide_eq_false hv.symm
   have hm : mkD ((Zkc key z).getD 0 + val x.Zv) s = (Ybo, 3) := if_neg hS
   rw [hm]
   rfl
theorem lines_in {k : Nat} (hk : 1002 < k) {s : Nat} (hs : s ≤ 4) {bt t : Zg} (hb : T12 bt) (ht : T12 t) {ls : List Zd} (hl : ls.length ≤ 1000) (hw : ∀ x ∈ ls, x.Zv = DV (val x.Zv) s ∧ Sm (val x.Zv))
  (p : Int) (es : List Ze) (n i : Int) (bl : List Ze) (per : Int) (ls2 : List Zd) (of : Int) : ∀ (m j : Nat) (M : List (KZ × Za)) (z : List (KZ × Int)), MZ s M z → j ≤ ls.length → ls.length - j < m →
  ∃ r, iter (Zbl.l11.once k) m (p, es, n, i, ls, (ls.length : Int), (j : Int), (s : Int), bl, bt, M, t, per, ls2, of) = some r ∧ (match Zon (opn t per) (ls.drop j) z with
   | some z' => ∃ M', r = .inl (p, es, n, i, (s : Int), bl, bt, M', t) ∧ MZ s M' z'
   | none => r = .inr ([], 3, ⟨(s : Int), bl, bt⟩)) := by
 intro m
 induction m with
 | zero => intro j M z _ _ h; omega
 | succ m ih =>
  intro j M z hM hj hm
  by_cases hc : j < ls.length
  ·have st := line_in hk hs hb ht hl hw hM hc p es n i bl per ls2 of
   have hx := hw _ (Zfl Zd.zero hc)
   rw [Zft Zd.zero hc]
   unfold Zon
   cases hp : Zqs (kzL (opn t per) (ls.getD j Zd.zero)) (val (ls.getD j Zd.zero).Zv) z with
   | some z' =>
    rw [hp] at st
    rw [Zcb st, Z0]
    exact ih (j + 1) _ z' (hM.put hx.2 hp) (by omega) (by omega)
   | none =>
    rw [hp] at st
    exact ⟨_, Zbj st, rfl⟩
  ·rw [List.drop_eq_nil_of_le (by omega)]
   refine ⟨_, Zbj ?_, M, rfl, hM⟩
   unfold Zbl.l11.once
   dsimp only
   rw [cf (by omega), pk hb, pk ht]
theorem ents_in {k : Nat} (hk : 1002 < k) {s : Nat} (hs : s ≤ 4) {bt t : Zg} (hb : T12 bt) (ht : T12 t) {es : List Ze} (hl : es.length ≤ 1000) (hw : ∀ x ∈ es, LsOk s x.Zcr) (p : Int) (bl : List Ze) :
  ∀ (m i : Nat) (M : List (KZ × Za)) (z : List (KZ × Int)), MZ s M z → i ≤ es.length → es.length - i < m →
  ∃ r, iter (Zbl.l7.once k) m (p, es, (es.length : Int), (i : Int), (s : Int), bl, bt, M, t) = some r ∧ (match Ygm p t (es.drop i) z with
   | some z' => ∃ M', r = .inl (M', (s : Int), bl, bt) ∧ MZ s M' z'
   | none => r = .inr ([], 3, ⟨(s : Int), bl, bt⟩)) := by
 intro m
 induction m with
 | zero => intro i M z _ _ h; omega
 | succ m ih =>
  intro i M z hM hi hm
  have e1 := pk hb
  have e2 := pk ht
  by_cases hc : i < es.length
  ·have hx := hw _ (Zfl Ze.zero hc)
   have hwr := Zhp (show -9223372036854775808 ≤ (i : Int) + 1 ∧ (i : Int) + 1 < 9223372036854775808 by omega)
   rw [Zft Ze.zero hc]
   unfold Ygm
   have st : Zbl.l7.once k (p, es, (es.length : Int), (i : Int), (s : Int), bl, bt, M, t) = cond (decide ((es.getD i Ze.zero).Zbi > p)) (some (.inl (p, es, (es.length : Int), ((i + 1 : Nat) : Int), (s : Int), bl, bt, M, t)))
     ((iter (Zbl.l11.once k) k (p, es, (es.length : Int), (i : Int), (es.getD i Ze.zero).Zcr, ((es.getD i Ze.zero).Zcr.length : Int), 0, (s : Int), bl, bt, M, t, (es.getD i Ze.zero).Zbi, (es.getD i Ze.zero).Zcr, (es.getD i Ze.zero).Zjn)).bind fun | .inl y => (some (.inl (y.1, y.2.1, y.2.2.1, IntKind.wrap .i64 (y.2.2.2.1 + 1), y.2.2.2.2.1, y.2.2.2.2.2.1, (⟨pack 12 false y.2.2.2.2.2.2.1.Zl, pack 12 0 y.2.2.2.2.2.2.1.Zj⟩ : Zg), y.2.2.2.2.2.2.2.1, (⟨pack 12 false y.2.2.2.2.2.2.2.2.Zl, pack 12 0 y.2.2.2.2.2.2.2.2.Zj⟩ : Zg)))) | .inr y => (some (.inr (.inr (y.1, y.2.1, (⟨y.2.2.Zbk, y.2.2.f_l, (⟨pack 12 false y.2.2.f_t.Zl, pack 12 0 y.2.2.f_t.Zj⟩ : Zg)⟩ : Zk)))))) := by
    unfold Zbl.l7.once
    dsimp only
    simp only [e1, e2]
    rw [ct (show (i : Int) < (es.length : Int) by omega), Zhr (by omega) (by omega), cond_true, Int.toNat_natCast, hwr]
    rfl
   generalize es.getD i Ze.zero = x at hx st ⊢
   by_cases hp : x.Zbi > p
   ·rw [ct hp] at st
    rw [if_pos hp, Zcb st]
    exact ih (i + 1) M z hM (by omega) (by omega)
   ·rw [cf hp] at st
    rw [if_neg hp]
    obtain ⟨r, hr, hr2⟩ := lines_in hk hs hb ht (ls := x.Zcr) (by have := hx.1; omega) hx.2 p es (es.length : Int) (i : Int) bl x.Zbi x.Zcr x.Zjn k 0 M z hM (Nat.zero_le _) (by have := hx.1; omega)
    rw [List.drop_zero] at hr2
    have hr' : iter (Zbl.l11.once k) k (p, es, (es.length : Int), (i : Int), x.Zcr, (x.Zcr.length : Int), 0, (s : Int), bl, bt, M, t, x.Zbi, x.Zcr, x.Zjn) = some r := hr
    rw [hr', Z0] at st
    cases hq : Zon (opn t x.Zbi) x.Zcr z with
    | some z' =>
     rw [hq] at hr2
     obtain ⟨M', rfl, hM'⟩ := hr2
     dsimp only at st
     rw [e1, e2, hwr] at st
     rw [Zcb st, Z0]
     exact ih (i + 1) M' z' hM' (by omega) (by omega)
    | none =>
     rw [hq] at hr2
     subst hr2
     dsimp only at st
     rw [e1] at st
     exact ⟨_, Zbj st, rfl⟩
  ·rw [List.drop_eq_nil_of_le (by omega)]
   refine ⟨_, Zbj ?_, M, rfl, hM⟩
   unfold Zbl.l7.once
   dsimp only
   rw [cf (by omega), e1]
theorem Yyb {k : Nat} (hk : 1002 < k) {s : Nat} (hs : s ≤ 4) {M : List (KZ × Za)} {z : List (KZ × Int)} (hM : MZ s M z) : Zxu (fun p => (Zfx.f k p.1 p.2).bind fun y => some y) M = some (M.filter fun p => !(val p.2 == 0)) := by
 refine Yku fun p hp => ?_
 obtain ⟨q, hq, rfl⟩ := List.mem_map.1 (hM.perm.mem_iff.1 hp)
 have h := Zkw (k := k) (by omega) (hM.sm q hq) (by omega : s ≤ 9)
 have h' : Zfx.f k (mkz s q).1 (mkz s q).2 = some (sgn q.2 == 0) := by
  unfold Zfx.f
  exact bof h rfl
 rw [h', Z0, Zwe]
 show some (decide (q.2 = 0)) = some (val (DV q.2 s) == 0)
 rw [Zsv]
 rfl
theorem Trial_eq {k : Nat} (hk : 1002 < k) {s : Nat} (hs : s ≤ 4) {b : Zk} (h : Zqt s b) (p : Int) : ∃ M e, Zbl.f k b p = some (M, e, b) ∧
  (if p < 0 ∨ p ≥ 12 then M = [] ∧ e = 8 else match Ygm p b.f_t b.f_l [] with
   | some z => e = 0 ∧ MZ s M (Zjv z)
   | none => M = [] ∧ e = 3) := by
 have e1 := pk h.T
 have e2 : (⟨b.Zbk, b.f_l, ⟨pack 12 false b.f_t.Zl, pack 12 0 b.f_t.Zj⟩⟩ : Zk) = b := pkB h.T
 unfold Zbl.f
 simp only [e1]
 by_cases hp : p < 0
 ·refine ⟨[], 8, ?_, by rw [if_pos (.inl hp)]; exact ⟨rfl, rfl⟩⟩
  rw [ct hp, Z0]
  dsimp only
  rw [cond_true, e1]
 ·rw [cf hp, Z0]
  dsimp only
  by_cases hp2 : p ≥ 12
  ·refine ⟨[], 8, ?_, by rw [if_pos (.inr hp2)]; exact ⟨rfl, rfl⟩⟩
   rw [ct hp2, e1]
  ·rw [cf hp2]
   simp only [if_neg (show ¬ (p < 0 ∨ p ≥ 12) by omega)]
   have hE := Yxz (k := k) (by omega) h.T h.len (fun x hx => by have := (h.ls x hx).1; omega)
   obtain ⟨r, hr, hr2⟩ := ents_in hk hs h.T h.T (es := b.f_l) (by have := h.len; omega) h.ls p b.f_l k 0 [] [] (MZ.nil s) (Nat.zero_le _) (by have := h.len; omega)
   rw [List.drop_zero] at hr2
   have hr' : iter (Zbl.l7.once k) k (p, b.f_l, (b.f_l.length : Int), 0, b.Zbk, b.f_l, b.f_t, [], b.f_t) = some r := by rw [h.sc]; exact hr
   have hP : Zdg.f k (⟨b.Zbk, b.f_l, ⟨pack 12 false b.f_t.Zl, pack 12 0 b.f_t.Zj⟩⟩ : Zk) = some (b.f_t, b) := by
    rw [e2]
    unfold Zdg.f
    rw [e1]
   have hE' : Zaj.f k (⟨b.Zbk, b.f_l, ⟨pack 12 false b.f_t.Zl, pack 12 0 b.f_t.Zj⟩⟩ : Zk) = some (b.f_l, b) := by rw [e2]; exact hE
   cases hz : Ygm p b.f_t b.f_l [] with
   | some z =>
    rw [hz] at hr2
    obtain ⟨M, rfl, hM⟩ := hr2
    refine ⟨M.filter fun p => !(val p.2 == 0), 0, ?_, rfl, hM.some⟩
    refine bof hP (bof hE' (bof (v := .inl (M, (s : Int), b.f_l, b.f_t)) (by simp only [e1]; exact hr') ?_))
    dsimp only
    refine bof (Yyb hk hs hM) ?_
    rw [← h.sc, e2]
   | none =>
    rw [hz] at hr2
    subst hr2
    refine ⟨[], 3, ?_, rfl, rfl⟩
    refine bof hP (bof hE' (bof (v := .inr ([], 3, ⟨(s : Int), b.f_l, b.f_t⟩)) (by simp only [e1]; exact hr') ?_))
    dsimp only
    rw [← h.sc, e2]
end Go.Proofs.YtbchcjlllddlpaaGreat.Pure
namespace Go.Proofs.YtbchcjlllddlpaaGreat.Pure
set_option linter.unusedVariables false
set_option linter.unusedSimpArgs false
open Go Go.Ev Go.Lm Go.Pu Go.Dg
def ckz (s : Nat) (p : KZ × Int) : Zc := ⟨p.1, DV p.2 s⟩
theorem lessZ_eq (k : Nat) (a b : KZ) : Zew.f k a b = some (ltZ a b) := by
 unfold Zew.f ltZ
 by_cases h : a.1 < b.1
 ·rw [ct h, decide_eq_true h]; rfl
 ·rw [cf h, decide_eq_false h, Bool.false_or]
  cases a.1 == b.1 <;> rfl
def Yaw (key : KZ) (v : Int) (d : Bool) (x : KZ × Int) : Option (List (KZ × Int) × Bool) :=
 if x.1 = key then (if Sm (x.2 + v) then some ((if (!d && ltZ key x.1) = true then [(key, v)] else []) ++ [(key, x.2 + v)], true) else none)
 else some ((if (!d && ltZ key x.1) = true then [(key, v)] else []) ++ [x], d || ltZ key x.1)
theorem getD_map {α β : Type} (f : α → β) {l : List α} {i : Nat} (d : α) (e : β) (h : i < l.length) : (l.map f).getD i e = f (l.getD i d) := by
 rw [List.getD_eq_getElem?_getD, List.getD_eq_getElem?_getD, List.getElem?_map, List.getElem?_eq_getElem h]
 rfl
theorem Yql {k : Nat} (hk : 602 < k) {i j : Int} {s : Nat} (hi : Sm i) (hj : Sm j) (hs : s ≤ 9) : Zcq.f k (DV i s) (DV j s) = some (mkD (i + j) s) := by
 have h := Ytn hk hi hj hs hs
 rw [Nat.max_self, Nat.sub_self, Int.pow_zero, Int.mul_one, Int.mul_one] at h
 exact h
theorem put_step {k : Nat} (hk : 1002 < k) {s : Nat} (hs : s ≤ 4) {zs : List (KZ × Int)} (hz : SmL zs) (hl : zs.length ≤ 1000) (key : KZ) {v : Int} (hv : Sm v) {out : List (KZ × Int)} (ho : out.length ≤ 5000) (d : Bool) {i : Nat} (hi : i < zs.length) :
  Zac.l4.once k (zs.map (ckz s), out.map (ckz s), d, (i : Int), key.1, key.2, (DV v s).Zhd, (DV v s).f_C.1, (DV v s).f_C.2, (DV v s).Zm) = some (match Yaw key v d (zs.getD i ((0, 0), 0)) with
   | some q => .inl (zs.map (ckz s), (out ++ q.1).map (ckz s), q.2, ((i + 1 : Nat) : Int), key.1, key.2, (DV v s).Zhd, (DV v s).f_C.1, (DV v s).f_C.2, (DV v s).Zm)
   | none => .inr (.inr ([], 3))) := by
 have hwr := Zhp (show -9223372036854775808 ≤ (i : Int) + 1 ∧ (i : Int) + 1 < 9223372036854775808 by omega)
 have hgd := getD_map (ckz s) ((0, 0), 0) Zc.zero hi
 have hx : Sm (zs.getD i ((0, 0), 0)).2 := hz _ (by
  rw [List.getD_eq_getElem?_getD, List.getElem?_eq_getElem hi]
  exact List.getElem_mem hi)
 have hlen : ((zs.map (ckz s)).length : Int) = (zs.length : Int) := by rw [List.length_map]
 unfold Zac.l4.once
 dsimp only
 rw [hlen, ct (show (i : Int) < (zs.length : Int) by omega), List.length_map, Zhr (by omega) (by omega), cond_true, Int.toNat_natCast]
 simp only [hgd]
 generalize zs.getD i ((0, 0), 0) = x at hx ⊢
 have hL : ∀ a b : Int, ((a, b) : KZ) = (a, b) := fun _ _ => rfl
 refine bof (v := match Yaw key v d x with
  | some q => .inl (zs.map (ckz s), (out ++ q.1).map (ckz s), q.2, (i : Int), key.1, key.2, (DV v s).Zhd, (DV v s).f_C.1, (DV v s).f_C.2, (DV v s).Zm)
  | none => .inr ([], 3)) ?_ ?_
 ·refine bof (v := (zs.map (ckz s), out.map (ckz s), d, (i : Int), !d && ltZ key x.1, key.1, key.2, (DV v s).Zhd, (DV v s).f_C.1, (DV v s).f_C.2, (DV v s).Zm, x.1.1, x.1.2, (DV x.2 s).Zhd, (DV x.2 s).f_C.1, (DV x.2 s).f_C.2, (DV x.2 s).Zm)) ?_ ?_
  ·cases d with
   | true => rfl
   | false => exact bof (lessZ_eq k key x.1) rfl
  ·refine bof (v := (zs.map (ckz s), (out ++ (if (!d && ltZ key x.1) = true then [(key, v)] else [])).map (ckz s), d || (!d && ltZ key x.1), (i : Int), key.1, key.2, (DV v s).Zhd, (DV v s).f_C.1, (DV v s).f_C.2, (DV v s).Zm, x.1.1, x.1.2, (DV x.2 s).Zhd, (DV x.2 s).f_C.1, (DV x.2 s).f_C.2, (DV x.2 s).Zm)) ?_ ?_
   ·dsimp only
    cases hL2 : (!d && ltZ key x.1) with
    | true =>
     rw [cond_true, Zfj (by simp; omega), cond_true, if_pos rfl, List.map_append]
     cases d <;> rfl
    | false =>
     rw [cond_false, if_neg (by simp), List.append_nil]
     cases d <;> rfl
   ·dsimp only
    have ho2 : ((out ++ (if (!d && ltZ key x.1) = true then [(key, v)] else [])).map (ckz s)).length ≤ 6000 := by
     rw [List.length_map, List.length_append]
     split <;> simp <;> omega
    have hd : (d || (!d && ltZ key x.1)) = (d || ltZ key x.1) := by cases d <;> rfl
    rw [hd]
    unfold Yaw
    by_cases e : x.1 = key
    ·have eb : ((x.1.1 == key.1) && (x.1.2 == key.2)) = true := by rw [e]; simp
     rw [eb, cond_true, if_pos e]
     have ha : Zcq.f k (⟨(DV x.2 s).Zhd, ((DV x.2 s).f_C.1, (DV x.2 s).f_C.2), (DV x.2 s).Zm⟩ : Za) (⟨(DV v s).Zhd, ((DV v s).f_C.1, (DV v s).f_C.2), (DV v s).Zm⟩ : Za) = some (mkD (x.2 + v) s) := Yql (by omega) hx hv (by omega)
     by_cases hm : Sm (x.2 + v)
     ·have hmk : mkD (x.2 + v) s = (DV (x.2 + v) s, 0) := if_pos hm
      rw [hmk] at ha
      rw [if_pos hm]
      refine bof (v := .inl (zs.map (ckz s), (out ++ (if (!d && ltZ key x.1) = true then [(key, v)] else [])).map (ckz s), true, (i : Int), key.1, key.2, (DV v s).Zhd, (DV v s).f_C.1, (DV v s).f_C.2, (DV v s).Zm, x.1.1, x.1.2, (DV (x.2 + v) s).Zhd, (DV (x.2 + v) s).f_C.1, (DV (x.2 + v) s).f_C.2, (DV (x.2 + v) s).Zm)) (bof ha rfl) ?_
      dsimp only
      rw [Zfj (by simp only [List.length_singleton]; omega), cond_true, ← List.append_assoc, List.map_append (l₁ := out ++ _)]
      rw [← e]
      rfl
     ·have hmk : mkD (x.2 + v) s = (Ybo, 3) := if_neg hm
      rw [hmk] at ha
      rw [if_neg hm]
      exact bof (v := .inr ([], 3)) (bof ha rfl) rfl
    ·have eb : ((x.1.1 == key.1) && (x.1.2 == key.2)) = false := by
      rw [Bool.eq_false_iff]
      intro hh
      rw [Bool.and_eq_true, beq_iff_eq, beq_iff_eq] at hh
      exact e (Prod.ext hh.1 hh.2)
     rw [eb, cond_false, if_neg e, Z0]
     dsimp only
     rw [Zfj (by simp only [List.length_singleton]; omega), cond_true, ← List.append_assoc, List.map_append (l₁ := out ++ _)]
     rfl
 ·cases Yaw key v d x with
  | some q =>
   dsimp only
   rw [hwr]
   rfl
  | none => rfl
def Zui (key : KZ) (v : Int) : Bool → List (KZ × Int) → Option (List (KZ × Int) × Bool)
 | d, [] => some ([], d)
 | d, x :: r => (Yaw key v d x).bind fun q => (Zui key v q.2 r).map fun w => (q.1 ++ w.1, w.2)
theorem put_loop {k : Nat} (hk : 1002 < k) {s : Nat} (hs : s ≤ 4) {zs : List (KZ × Int)} (hz : SmL zs) (hl : zs.length ≤ 1000) (key : KZ) {v : Int} (hv : Sm v) : ∀ (m i : Nat) (out : List (KZ × Int)) (d : Bool), out.length ≤ 2 * i → i ≤ zs.length → zs.length - i < m →
  iter (Zac.l4.once k) m (zs.map (ckz s), out.map (ckz s), d, (i : Int), key.1, key.2, (DV v s).Zhd, (DV v s).f_C.1, (DV v s).f_C.2, (DV v s).Zm) = some (match Zui key v d (zs.drop i) with
   | some w => .inl ((out ++ w.1).map (ckz s), w.2, key.1, key.2, (DV v s).Zhd, (DV v s).f_C.1, (DV v s).f_C.2, (DV v s).Zm)
   | none => .inr ([], 3)) := by
 intro m
 induction m with
 | zero => intro i out d _ _ h; omega
 | succ m ih =>
  intro i out d ho hi hm
  by_cases hc : i < zs.length
  ·have st := put_step hk hs hz hl key hv (out := out) (by omega) d hc
   rw [Zft ((0, 0), 0) hc]
   unfold Zui
   cases hq : Yaw key v d (zs.getD i ((0, 0), 0)) with
   | some q =>
    rw [hq] at st
    have hq1 : q.1.length ≤ 2 := by
     unfold Yaw at hq
     split at hq
     ·split at hq
      ·cases hq
       dsimp only
       split <;> simp
      ·cases hq
     ·cases hq
      dsimp only
      split <;> simp
    rw [Zcb st, Z0, ih (i + 1) (out ++ q.1) q.2 (by rw [List.length_append]; omega) (by omega) (by omega)]
    cases Zui key v q.2 (zs.drop (i + 1)) with
    | some w =>
     rw [Option.map_some]
     dsimp only
     rw [List.append_assoc]
    | none => rfl
   | none =>
    rw [hq] at st
    rw [Zbj st]
    rfl
  ·rw [List.drop_eq_nil_of_le (by omega)]
   refine Zbj ?_
   unfold Zac.l4.once
   dsimp only
   rw [List.length_map, cf (by omega)]
   unfold Zui
   dsimp only
   rw [List.append_nil]
theorem Yfb (key : KZ) (v : Int) : ∀ (l : List (KZ × Int)), (∀ p ∈ l, p.1 ≠ key) → Zui key v true l = some (l, true)
 | [], _ => rfl
 | x :: r, h => by
  unfold Zui Yaw
  rw [if_neg (h x List.mem_cons_self), Z0]
  dsimp only
  rw [Bool.true_or, Yfb key v r fun p hp => h p (List.mem_cons_of_mem _ hp)]
  rfl
theorem Yvm (key : KZ) (v : Int) : ∀ (l : List (KZ × Int)), Ris l → (match Zui key v false l with
  | some w => some (if w.2 then w.1 else w.1 ++ [(key, v)])
  | none => none) = Zqs key v l
 | [], _ => rfl
 | x :: r, hr => by
  have hr' := List.pairwise_cons.1 hr
  unfold Zui Yaw Zqs
  by_cases e : x.1 = key
  ·rw [if_pos e, if_pos e]
   have hn : ltZ key x.1 = false := by
    rw [Bool.eq_false_iff]
    intro h
    exact Zqu h e.symm
   by_cases hm : Sm (x.2 + v)
   ·rw [if_pos hm, if_pos hm, Z0]
    dsimp only
    rw [Yfb key v r fun p hp e' => Zqu (hr'.1 p hp) (by rw [e, e']), hn]
    rfl
   ·rw [if_neg hm, if_neg hm]
    rfl
  ·rw [if_neg e, if_neg e, Z0]
   dsimp only
   cases hl : ltZ key x.1 with
   | true =>
    rw [if_pos rfl]
    rw [show (false || true) = true from rfl, Yfb key v r fun p hp e' => Zqu (Ypm hl (hr'.1 p hp)) e'.symm]
    rfl
   | false =>
    rw [if_neg (by simp)]
    have ih := Yvm key v r hr'.2
    rw [show (false || false) = false from rfl, ← ih]
    cases Zui key v false r with
    | none => rfl
    | some w =>
     rw [Option.map_some]
     dsimp only
     cases w.2 <;> rfl
theorem RPut2_eq {k : Nat} (hk : 1002 < k) {s : Nat} (hs : s ≤ 4) {zs : List (KZ × Int)} (hr : Ris zs) (hz : SmL zs) (hl : zs.length ≤ 1000) (key : KZ) {v : Int} (hv : Sm v) :
  Zac.f k (zs.map (ckz s)) key (DV v s) = some (match Zqs key v zs with
   | some z => (z.map (ckz s), 0)
   | none => ([], 3)) := by
 have it := put_loop hk hs hz hl key hv k 0 [] false (Nat.zero_le _) (Nat.zero_le _) (by omega)
 have hp := Yvm key v zs hr
 have hlen : ∀ w, Zui key v false zs = some w → w.1.length ≤ 5000 := fun w hw => by
  have := Zrw (k := key) hv hr hz
  rw [hw] at hp
  dsimp only at hp
  rw [← hp] at this
  obtain ⟨_, _, h3, _⟩ := this
  cases hw2 : w.2 with
  | true => rw [hw2] at h3; simp at h3; omega
  | false => rw [hw2] at h3; simp at h3; omega
 rw [List.drop_zero] at it
 unfold Zac.f
 refine bof it ?_
 rw [← hp]
 cases hw : Zui key v false zs with
 | none => rfl
 | some w =>
  have h5 := hlen w hw
  dsimp only
  rw [List.nil_append]
  cases w.2 with
  | true => rfl
  | false =>
   rw [Bool.not_false, cond_true, Zfj (by simp; omega), cond_true, if_neg (by simp), List.map_append]
   rfl
end Go.Proofs.YtbchcjlllddlpaaGreat.Pure
namespace Go.Proofs.YtbchcjlllddlpaaGreat.Pure
set_option linter.unusedVariables false
set_option linter.unusedSimpArgs false
open Go Go.Ev Go.Lm Go.Pu Go.Dg
def Yqp (x : Zd) : Prop := Zix x.Zdu = 4 → x.Zeg = -1
def EInv (b : Zk) : Prop := ∀ x ∈ b.f_l, (0 ≤ x.Zbi ∧ x.Zbi < 12) ∧ ∀ y ∈ x.Zcr, Yqp y
theorem opn_p {t : Zg} {p : Int} (h : opn t p = true) : 0 ≤ p ∧ p < 12 := by
 unfold opn at h
 simp only [Bool.and_eq_true, decide_eq_true_eq] at h
 exact ⟨h.1, h.2.1⟩
theorem EInv.add {b : Zk} (h : EInv b) {x : Ze} (hx : ∀ y ∈ x.Zcr, Yqp y) : EInv (Zrk b x).2.2 := by
 unfold Zrk
 split
 ·rename_i ho
  split
  ·exact h
  ·intro y hy
   rcases List.mem_append.1 hy with hy | hy
   ·exact h y hy
   ·have : y = x := by simpa using hy
    rw [this]
    exact ⟨opn_p ho, hx⟩
 ·exact h
theorem FlowW_rl {s : Nat} {x : Zd} (h : rlB s x = true) : Yqp x := by
 intro hk
 unfold rlB at h
 simp only [Bool.and_eq_true] at h
 have hw := h.2.2.2
 have hi : isW x.Zdu = false := by
  unfold Zix at hk
  unfold isW
  rw [Bool.eq_false_iff]
  intro hh
  rw [Bool.or_eq_true, beq_iff_eq, beq_iff_eq] at hh
  rcases hh with e | e <;> rw [e] at hk <;> simp at hk
 rw [hi] at hw
 simpa using hw
theorem EInv.step {k : Nat} {s : Nat} {b : Zk} (h : EInv b) (x : Zw) : EInv (Zky k s b x) := by
 have turn : ∀ c, EInv (Zmi b c).2 := fun c => by
  unfold Zmi
  dsimp only
  cases c.2.2 == 0 <;> exact h
 unfold Zky
 cases pick x.Zgn 8 == 0 with
 | true => exact turn _
 | false =>
  rw [cond_false]
  cases pick x.Zgn 8 == 1 with
  | true =>
   rw [cond_true]
   unfold revR
   split
   ·exact h
   ·rename_i h0
    split
    ·exact h
    ·refine h.add fun y hy => ?_
     obtain ⟨z, hz, rfl⟩ := List.mem_map.1 hy
     exact (h _ (Zfl Ze.zero (by omega))).2 z hz
  | false =>
   rw [cond_false]
   cases pick x.Zgn 8 == 2 with
   | true => exact turn _
   | false =>
    rw [cond_false]
    unfold Zxt
    split
    ·rename_i h0
     refine h.add fun y hy => ?_
     unfold Zlh at h0
     split at h0
     ·cases h0
     ·split at h0
      ·rename_i ha
       exact FlowW_rl (List.all_eq_true.1 ha y hy)
      ·cases h0
    ·exact h
theorem bkN_E (k s : Nat) (l : List Zw) : EInv (bkN k s l) := by
 unfold bkN
 generalize min l.length 14 = n
 induction n with
 | zero => exact fun x hx => (List.not_mem_nil hx).elim
 | succ n ih => exact ih.step _
theorem Yvc {key : KZ} {v : Int} (hv : Sm v) {z z' : List (KZ × Int)} (hr : Ris z) (hs : SmL z) (h : Zqs key v z = some z') : Ris z' ∧ SmL z' ∧ z'.length ≤ z.length + 1 := by
 have := Zrw (k := key) hv hr hs
 rw [h] at this
 exact ⟨this.1, this.2.1, this.2.2.1⟩
abbrev RS := (Int × List Zc × Int × Int × Int × List Ze × Zf × Int × List Zd × Int) ⊕ (List Zc × Int × Zt)
theorem rline_in {k : Nat} (hk : 1002 < k) {s : Nat} (hs : s ≤ 4) {t : Zg} (ht : T12 t) {ls : List Zd} (hl : ls.length ≤ 1000) (hw : ∀ x ∈ ls, x.Zv = DV (val x.Zv) s ∧ Sm (val x.Zv)) (hf : ∀ x ∈ ls, Yqp x)
  {z : List (KZ × Int)} (hr : Ris z) (hz : SmL z) (hzl : z.length ≤ 1000) {j : Nat} (hj : j < ls.length) (p : Int) (i sc : Int) (L : List Ze) {per : Int} (hp : 0 ≤ per ∧ per < 12) (of : Int) :
  Zo.l10.once k (p, z.map (ckz s), i, (j : Int), sc, L, ⟨t.Zl, t.Zj⟩, per, ls, of) = some (match Zqs (kzL (opn t per) (ls.getD j Zd.zero)) (val (ls.getD j Zd.zero).Zv) z with
   | some z' => .inl (p, z'.map (ckz s), i, ((j + 1 : Nat) : Int), sc, L, ⟨t.Zl, t.Zj⟩, per, ls, of)
   | none => .inr (.inr ([], 3, ⟨sc, L, ⟨t.Zl, t.Zj⟩⟩))) := by
 have hx := hw _ (Zfl Zd.zero hj)
 have hfx := hf _ (Zfl Zd.zero hj)
 have hwr := Zhp (show -9223372036854775808 ≤ (j : Int) + 1 ∧ (j : Int) + 1 < 9223372036854775808 by omega)
 have e1 : (⟨pack 12 false t.Zl, pack 12 0 t.Zj⟩ : Zf) = ⟨t.Zl, t.Zj⟩ := pkR ht.1 ht.2
 have e3 := Zbr false ht.1
 unfold Zo.l10.once
 dsimp only
 simp only [e1]
 rw [ct (show (j : Int) < (ls.length : Int) by omega), Zhr (by omega) (by omega), cond_true, Int.toNat_natCast]
 generalize ls.getD j Zd.zero = x at hx hfx ⊢
 obtain ⟨hx1, hx2⟩ := hx
 have ho : opn t per = !(t.Zl.getD per.toNat false) := by
  unfold opn
  rw [decide_eq_true (show per ≥ 0 by omega), decide_eq_true hp.2]
  rfl
 have hpt : per.toNat < 12 := by omega
 refine bof (v := match Zqs (kzL (opn t per) x) (val x.Zv) z with
  | some z' => .inl (p, z'.map (ckz s), i, (j : Int), sc, L, ⟨t.Zl, t.Zj⟩, per, ls, of)
  | none => .inr ([], 3, ⟨sc, L, ⟨t.Zl, t.Zj⟩⟩)) ?_ ?_
 ·refine bof (v := (p, z.map (ckz s), i, (j : Int), (Zix x.Zdu == 4) && t.Zl.getD per.toNat false, sc, L, ⟨t.Zl, t.Zj⟩, per, ls, of, x.Zdu, x.Zv.Zhd, x.Zv.f_C.1, x.Zv.f_C.2, x.Zv.Zm, x.Zeg)) ?_ ?_
  ·refine bof (RK_eq k x.Zdu) ?_
   cases hk4 : Zix x.Zdu == 4 with
   | true => rw [cond_true, Zhr (by omega) (by omega), cond_true, Zja hpt, cond_true, e3]; rfl
   | false => rfl
  ·dsimp only
   simp only [e1]
   have hput : ∀ key, Zac.f k (z.map (ckz s)) key (⟨x.Zv.Zhd, (x.Zv.f_C.1, x.Zv.f_C.2), x.Zv.Zm⟩ : Za) = some (match Zqs key (val x.Zv) z with | some z => (z.map (ckz s), 0) | none => ([], 3)) := fun key => by
    have := RPut2_eq hk hs hr hz hzl key hx2
    rw [← hx1] at this
    exact this
   have fin : ∀ (ac : Int) (key : KZ), (ac, IntKind.wrap .i64 (x.Zeg + 1)) = key → kzL (opn t per) x = key →
     ((Zac.f k (z.map (ckz s)) (ac, IntKind.wrap .i64 (x.Zeg + 1)) (⟨x.Zv.Zhd, (x.Zv.f_C.1, x.Zv.f_C.2), x.Zv.Zm⟩ : Za)).bind fun Yid => (cond (Yid.2 != 0) (some (Sum.inr (([] : List Zc), Yid.2, (⟨sc, L, ⟨t.Zl, t.Zj⟩⟩ : Zt)))) (some (Sum.inl (p, Yid.1, i, (j : Int), sc, L, (⟨t.Zl, t.Zj⟩ : Zf), per, ls, of))) : Option RS)) = (some (match Zqs (kzL (opn t per) x) (val x.Zv) z with
      | some z' => Sum.inl (p, z'.map (ckz s), i, (j : Int), sc, L, ⟨t.Zl, t.Zj⟩, per, ls, of)
      | none => Sum.inr ([], 3, ⟨sc, L, ⟨t.Zl, t.Zj⟩⟩)) : Option RS) := fun ac key h1 h2 => by
    rw [h1, h2]
    refine bof (hput key) ?_
    cases Zqs key (val x.Zv) z <;> rfl
   cases hk4 : (Zix x.Zdu == 4) && t.Zl.getD per.toNat false with
   | true =>
    rw [Bool.and_eq_true, beq_iff_eq] at hk4
    have hkz : kzL (opn t per) x = (8, 0) := by
     unfold kzL
     rw [if_pos ⟨hk4.1, by rw [ho, hk4.2]; rfl⟩]
    refine bof (v := (p, z.map (ckz s), i, (j : Int), sc, L, ⟨t.Zl, t.Zj⟩, per, ls, of, 8, x.Zv.Zhd, x.Zv.f_C.1, x.Zv.f_C.2, x.Zv.Zm, x.Zeg)) rfl ?_
    dsimp only
    simp only [e1]
    exact fin 8 (8, 0) (by rw [hfx hk4.1]; rfl) hkz
   | false =>
    have hkz : kzL (opn t per) x = (x.Zdu, IntKind.wrap .i64 (x.Zeg + 1)) := by
     unfold kzL
     rw [if_neg]
     rintro ⟨h1, h2⟩
     rw [ho] at h2
     have h3 : t.Zl.getD per.toNat false = true := by simpa using h2
     rw [h1, h3] at hk4
     cases hk4
    refine bof (v := (p, z.map (ckz s), i, (j : Int), sc, L, ⟨t.Zl, t.Zj⟩, per, ls, of, x.Zdu, x.Zv.Zhd, x.Zv.f_C.1, x.Zv.f_C.2, x.Zv.Zm, x.Zeg)) rfl ?_
    dsimp only
    simp only [e1]
    exact fin x.Zdu _ rfl hkz
 ·cases Zqs (kzL (opn t per) x) (val x.Zv) z with
  | some z' =>
   dsimp only
   rw [hwr, e1]
   rfl
  | none =>
   dsimp only
   rw [e1]
theorem rlines_in {k : Nat} (hk : 1002 < k) {s : Nat} (hs : s ≤ 4) {t : Zg} (ht : T12 t) {ls : List Zd} (hl : ls.length ≤ 1000) (hw : ∀ x ∈ ls, x.Zv = DV (val x.Zv) s ∧ Sm (val x.Zv)) (hf : ∀ x ∈ ls, Yqp x)
  (p : Int) (i sc : Int) (L : List Ze) {per : Int} (hp : 0 ≤ per ∧ per < 12) (of : Int) : ∀ (m j : Nat) (z : List (KZ × Int)), Ris z → SmL z → z.length + (ls.length - j) ≤ 1000 → j ≤ ls.length → ls.length - j < m →
  iter (Zo.l10.once k) m (p, z.map (ckz s), i, (j : Int), sc, L, ⟨t.Zl, t.Zj⟩, per, ls, of) = some (match Zon (opn t per) (ls.drop j) z with
   | some z' => .inl (p, z'.map (ckz s), i, sc, L, ⟨t.Zl, t.Zj⟩)
   | none => .inr ([], 3, ⟨sc, L, ⟨t.Zl, t.Zj⟩⟩)) := by
 intro m
 induction m with
 | zero => intro j z _ _ _ _ h; omega
 | succ m ih =>
  intro j z hr hz hzl hj hm
  by_cases hc : j < ls.length
  ·have st := rline_in hk hs ht hl hw hf hr hz (by omega) hc p i sc L hp of
   have hx := hw _ (Zfl Zd.zero hc)
   rw [Zft Zd.zero hc]
   unfold Zon
   cases hq : Zqs (kzL (opn t per) (ls.getD j Zd.zero)) (val (ls.getD j Zd.zero).Zv) z with
   | some z' =>
    rw [hq] at st
    obtain ⟨g1, g2, g3⟩ := Yvc hx.2 hr hz hq
    rw [Zcb st, Z0]
    exact ih (j + 1) z' g1 g2 (by omega) (by omega) (by omega)
   | none =>
    rw [hq] at st
    exact Zbj st
  ·rw [List.drop_eq_nil_of_le (by omega)]
   refine Zbj ?_
   unfold Zo.l10.once
   dsimp only
   rw [cf (by omega), pkR ht.1 ht.2]
   rfl
theorem Zzi {o : Bool} : ∀ {ls : List Zd} {z z' : List (KZ × Int)}, (∀ x ∈ ls, Sm (val x.Zv)) → Ris z → SmL z → Zon o ls z = some z' → Ris z' ∧ SmL z' ∧ z'.length ≤ z.length + ls.length
 | [], z, z', _, hr, hz, h => by cases h; exact ⟨hr, hz, Nat.le_refl _⟩
 | x :: r, z, z', hw, hr, hz, h => by
  unfold Zon at h
  obtain ⟨z1, h1, h2⟩ := Option.bind_eq_some_iff.1 h
  obtain ⟨g1, g2, g3⟩ := Yvc (hw x List.mem_cons_self) hr hz h1
  obtain ⟨f1, f2, f3⟩ := Zzi (fun y hy => hw y (List.mem_cons_of_mem _ hy)) g1 g2 h2
  exact ⟨f1, f2, by rw [List.length_cons]; omega⟩
theorem rents_in {k : Nat} (hk : 1002 < k) {s : Nat} (hs : s ≤ 4) {t : Zg} (ht : T12 t) {es : List Ze} (hl : es.length ≤ 40) (hw : ∀ x ∈ es, LsOk s x.Zcr) (hE : ∀ x ∈ es, (0 ≤ x.Zbi ∧ x.Zbi < 12) ∧ ∀ y ∈ x.Zcr, Yqp y) (p sc : Int) :
  ∀ (m i : Nat) (z : List (KZ × Int)), Ris z → SmL z → z.length + 8 * (es.length - i) ≤ 1000 → i ≤ es.length → es.length - i < m →
  iter (Zo.l5.once k) m (p, z.map (ckz s), (i : Int), sc, es, ⟨t.Zl, t.Zj⟩) = some (match Ygm p t (es.drop i) z with
   | some z' => .inl (z'.map (ckz s), sc, es, ⟨t.Zl, t.Zj⟩)
   | none => .inr ([], 3, ⟨sc, es, ⟨t.Zl, t.Zj⟩⟩)) := by
 intro m
 induction m with
 | zero => intro i z _ _ _ _ h; omega
 | succ m ih =>
  intro i z hr hz hzl hi hm
  have e1 : (⟨pack 12 false t.Zl, pack 12 0 t.Zj⟩ : Zf) = ⟨t.Zl, t.Zj⟩ := pkR ht.1 ht.2
  by_cases hc : i < es.length
  ·have hx := hw _ (Zfl Ze.zero hc)
   have hex := hE _ (Zfl Ze.zero hc)
   have hwr := Zhp (show -9223372036854775808 ≤ (i : Int) + 1 ∧ (i : Int) + 1 < 9223372036854775808 by omega)
   rw [Zft Ze.zero hc]
   unfold Ygm
   have st : ∀ y : List (KZ × Int) ⊕ Unit, (if (es.getD i Ze.zero).Zbi > p then some (Sum.inl z) else (match Zon (opn t (es.getD i Ze.zero).Zbi) (es.getD i Ze.zero).Zcr z with | some z' => some (Sum.inl z') | none => some (Sum.inr ()))) = some y →
     Zo.l5.once k (p, z.map (ckz s), (i : Int), sc, es, ⟨t.Zl, t.Zj⟩) = some (match y with
      | .inl z' => .inl (p, z'.map (ckz s), ((i + 1 : Nat) : Int), sc, es, ⟨t.Zl, t.Zj⟩)
      | .inr () => .inr (.inr ([], 3, ⟨sc, es, ⟨t.Zl, t.Zj⟩⟩))) := by
    intro y hy
    unfold Zo.l5.once
    dsimp only
    simp only [e1]
    rw [ct (show (i : Int) < (es.length : Int) by omega), Zhr (by omega) (by omega), cond_true, Int.toNat_natCast]
    generalize es.getD i Ze.zero = x at hx hex hy ⊢
    by_cases hp : x.Zbi > p
    ·rw [if_pos hp] at hy
     cases hy
     rw [ct hp, Z0]
     dsimp only
     rw [hwr, e1]
     rfl
    ·rw [if_neg hp] at hy
     rw [cf hp]
     have it := rlines_in hk hs ht (ls := x.Zcr) (by have := hx.1; omega) hx.2 hex.2 p (i : Int) sc es hex.1 x.Zjn k 0 z hr hz (by have := hx.1; omega) (Nat.zero_le _) (by have := hx.1; omega)
     rw [List.drop_zero] at it
     have it' : iter (Zo.l10.once k) k (p, z.map (ckz s), (i : Int), 0, sc, es, ⟨t.Zl, t.Zj⟩, x.Zbi, x.Zcr, x.Zjn) = _ := it
     rw [it', Z0]
     cases hq : Zon (opn t x.Zbi) x.Zcr z with
     | some z' =>
      rw [hq] at hy
      cases hy
      dsimp only
      rw [e1, Z0]
      dsimp only
      rw [e1, hwr]
      rfl
     | none =>
      rw [hq] at hy
      cases hy
      dsimp only
      rw [e1, Z0]
      dsimp only
      rw [e1]
   generalize es.getD i Ze.zero = x at hx hex st ⊢
   by_cases hp : x.Zbi > p
   ·rw [if_pos hp] at st ⊢
    rw [Zcb (st _ rfl)]
    exact ih (i + 1) z hr hz (by omega) (by omega) (by omega)
   ·rw [if_neg hp] at st ⊢
    cases hq : Zon (opn t x.Zbi) x.Zcr z with
    | some z' =>
     rw [hq] at st
     obtain ⟨g1, g2, g3⟩ := Zzi (fun y hy => (hx.2 y hy).2) hr hz hq
     have := hx.1
     rw [Zcb (st _ rfl), Z0]
     exact ih (i + 1) z' g1 g2 (by omega) (by omega) (by omega)
    | none =>
     rw [hq] at st
     rw [Zbj (st _ rfl)]
     rfl
  ·rw [List.drop_eq_nil_of_le (by omega)]
   refine Zbj ?_
   unfold Zo.l5.once
   dsimp only
   rw [cf (by omega), e1]
   rfl
theorem some_eq {k : Nat} (hk : 1002 < k) {s : Nat} (hs : s ≤ 4) {z : List (KZ × Int)} (hz : SmL z) (hl : z.length ≤ 1000) : Zah.f k (z.map (ckz s)) = some ((Zjv z).map (ckz s)) := by
 have it := Zok (once := Zah.l3.once k) (fun i => (z.map (ckz s), (Zjv (z.take i)).map (ckz s), (i : Int))) z.length (by
  intro i hi
  have hwr := Zhp (show -9223372036854775808 ≤ (i : Int) + 1 ∧ (i : Int) + 1 < 9223372036854775808 by omega)
  have hgd := getD_map (ckz s) ((0, 0), 0) Zc.zero hi
  have hx : Sm (z.getD i ((0, 0), 0)).2 := hz _ (by
   rw [List.getD_eq_getElem?_getD, List.getElem?_eq_getElem hi]
   exact List.getElem_mem hi)
  have hlen : (Zjv (z.take i)).length ≤ i := Nat.le_trans (List.length_filter_le _ _) (by rw [List.length_take]; omega)
  have htk : Zjv (z.take (i + 1)) = Zjv (z.take i) ++ (if (z.getD i ((0, 0), 0)).2 = 0 then [] else [z.getD i ((0, 0), 0)]) := by
   unfold Zjv
   rw [List.take_add_one, List.getElem?_eq_getElem hi, List.filter_append, List.getD_eq_getElem?_getD, List.getElem?_eq_getElem hi]
   by_cases h0 : z[i].2 = 0
   ·simp [h0]
   ·simp [h0]
  have hsg : Zbu.f k (⟨(DV (z.getD i ((0, 0), 0)).2 s).Zhd, ((DV (z.getD i ((0, 0), 0)).2 s).f_C.1, (DV (z.getD i ((0, 0), 0)).2 s).f_C.2), (DV (z.getD i ((0, 0), 0)).2 s).Zm⟩ : Za) = some (sgn (z.getD i ((0, 0), 0)).2) :=
   (Zol (k := k) (by omega) (Zjs hx)).trans (Zkw (by omega) hx (by omega))
  unfold Zah.l3.once
  dsimp only
  rw [List.length_map, ct (by omega), Zhr (by omega) (by omega), cond_true, Int.toNat_natCast]
  simp only [hgd]
  rw [htk]
  generalize z.getD i ((0, 0), 0) = x at hsg ⊢
  refine bof (v := (z.map (ckz s), (Zjv (z.take i) ++ (if x.2 = 0 then [] else [x])).map (ckz s), (i : Int))) ?_ ?_
  ·refine bof hsg ?_
   have hb := Zwe x.2
   by_cases h0 : x.2 = 0
   ·rw [decide_eq_true h0] at hb
    rw [bne, hb, Bool.not_true, cond_false, if_pos h0, List.append_nil]
   ·rw [decide_eq_false h0] at hb
    rw [bne, hb, Bool.not_false, cond_true, cond_true, Zfj (by rw [List.length_map, List.length_singleton]; omega), cond_true, if_neg h0, List.map_append]
    rfl
  ·dsimp only
   rw [hwr]
   rfl) ((Zjv z).map (ckz s)) (by
  unfold Zah.l3.once
  dsimp only
  rw [List.length_map, cf (by omega), List.take_length]) k 0 (Nat.zero_le _) (by omega)
 unfold Zah.f
 exact bof it rfl
theorem Ycq {p : Int} {t : Zg} {s : Nat} : ∀ {es : List Ze} {z z' : List (KZ × Int)}, (∀ x ∈ es, LsOk s x.Zcr) → Ris z → SmL z → Ygm p t es z = some z' → Ris z' ∧ SmL z' ∧ z'.length ≤ z.length + 8 * es.length
 | [], z, z', _, hr, hz, h => by cases h; exact ⟨hr, hz, Nat.le_refl _⟩
 | x :: r, z, z', hw, hr, hz, h => by
  unfold Ygm at h
  rw [List.length_cons]
  split at h
  ·obtain ⟨g1, g2, g3⟩ := Ycq (fun y hy => hw y (List.mem_cons_of_mem _ hy)) hr hz h
   exact ⟨g1, g2, by omega⟩
  ·obtain ⟨z1, h1, h2⟩ := Option.bind_eq_some_iff.1 h
   have hx := hw x List.mem_cons_self
   obtain ⟨f1, f2, f3⟩ := Zzi (fun y hy => (hx.2 y hy).2) hr hz h1
   obtain ⟨g1, g2, g3⟩ := Ycq (fun y hy => hw y (List.mem_cons_of_mem _ hy)) f1 f2 h2
   have := hx.1
   exact ⟨g1, g2, by omega⟩
theorem RTrial_eq {k : Nat} (hk : 1002 < k) {s : Nat} (hs : s ≤ 4) {b : Zk} (h : Zqt s b) (hE : EInv b) (p : Int) : Zo.f k (rof b) p =
  some (if p < 0 ∨ p ≥ 12 then (([] : List Zc), (8 : Int), rof b) else match Ygm p b.f_t b.f_l [] with
   | some z => ((Zjv z).map (ckz s), 0, rof b)
   | none => ([], 3, rof b)) := by
 have e1 : (⟨pack 12 false (rof b).f_T.Zl, pack 12 0 (rof b).f_T.Zj⟩ : Zf) = (rof b).f_T := pkR h.T.1 h.T.2
 unfold Zo.f
 simp only [e1]
 have his : Zcm.f k p = some (!decide (p < 0 ∨ p ≥ 12)) := by
  unfold Zcm.f
  by_cases h1 : p ≥ 0
  ·rw [ct h1]
   congr 1
   rw [← decide_not]
   exact decide_eq_decide.2 ⟨fun h => by omega, fun h => by omega⟩
  ·rw [cf h1, decide_eq_true (.inl (by omega))]
   rfl
 refine bof his ?_
 by_cases hp : p < 0 ∨ p ≥ 12
 ·rw [decide_eq_true hp, if_pos hp]
  rfl
 ·rw [decide_eq_false hp, if_neg hp]
  have it := rents_in hk hs h.T (es := b.f_l) h.len h.ls hE p b.Zbk k 0 [] List.Pairwise.nil (fun p hp => (List.not_mem_nil hp).elim) (by have := h.len; simp; omega) (Nat.zero_le _) (by have := h.len; omega)
  rw [List.drop_zero] at it
  rw [Bool.not_false, Bool.not_true, cond_false]
  refine bof it ?_
  cases hz : Ygm p b.f_t b.f_l [] with
  | some z =>
   obtain ⟨g1, g2, g3⟩ := Ycq h.ls List.Pairwise.nil (fun p hp => (List.not_mem_nil hp).elim) hz
   have := h.len
   refine bof (some_eq hk hs g2 (by simp at g3; omega)) ?_
   show some (_, _, (⟨_, _, ⟨pack 12 false b.f_t.Zl, pack 12 0 b.f_t.Zj⟩⟩ : Zt)) = _
   rw [pkR h.T.1 h.T.2]
   rfl
  | none =>
   show some (_, _, (⟨_, _, ⟨pack 12 false b.f_t.Zl, pack 12 0 b.f_t.Zj⟩⟩ : Zt)) = _
   rw [pkR h.T.1 h.T.2]
   rfl
end Go.Proofs.YtbchcjlllddlpaaGreat.Pure
namespace Go.Proofs.YtbchcjlllddlpaaGreat.Pure
set_option linter.unusedVariables false
set_option linter.unusedSimpArgs false
open Go Go.Ev Go.Lm Go.Pu Go.Dg
end Go.Proofs.YtbchcjlllddlpaaGreat.Pure
namespace Go.Proofs.YtbchcjlllddlpaaGreat.Pure
set_option linter.unusedVariables false
set_option linter.unusedSimpArgs false
open Go Go.Ev Go.Lm Go.Pu Go.Dg
theorem srt_id (l : List KZ) : Zgq l = isrt l := by
 unfold Zgq
 rw [show l.map (fun (x : Int × Int) => (x.1, x.2)) = l from List.map_id l]
 exact List.map_id _
theorem lt_le {a b : KZ} (h : ltZ a b = true) : Zku a b = true := by
 rw [Ybq] at h
 unfold Zku
 simp
 omega
theorem MZ.keys {s : Nat} {M : List (KZ × Za)} {z : List (KZ × Int)} (h : MZ s M z) : Zgq (M.map fun p => p.1) = z.map (·.1) := by
 rw [srt_id]
 refine Zmz Yfe ((Yfn _).trans ?_) (Zvb _) ?_
 ·have := h.perm.map (·.1)
  rw [Yvk] at this
  exact this
 ·rw [List.pairwise_map]
  exact h.ris.imp fun h => lt_le h
theorem Keys2_eq {k s : Nat} {M : List (KZ × Za)} {z : List (KZ × Int)} (h : MZ s M z) (hl : z.length ≤ 1000) : Zgf.f k M = some (z.map (·.1), M) := by
 unfold Zgf.f
 rw [Zfj (by rw [List.length_map, h.len]; omega), cond_true, h.keys]
 refine bof (v := z.map (·.1)) ?_ rfl
 unfold Zch.f
 have : inS 0 ((z.map (·.1)).length : Int) (z.map (·.1)).length = true := by unfold inS; simp
 rw [decide_eq_true rfl, this, Bool.true_and, cond_true, Int.toNat_natCast, List.take_length]
theorem Ysk : ∀ {z : List (KZ × Int)}, Ris z → ∀ p ∈ z, Zkc p.1 z = some p.2
 | [], _, p, hp => (List.not_mem_nil hp).elim
 | x :: r, h, p, hp => by
  have h' := List.pairwise_cons.1 h
  unfold Zkc
  rcases List.mem_cons.1 hp with rfl | hp
  ·rw [if_pos rfl]
  ·rw [if_neg (Zqu (h'.1 p hp)), Ysk h'.2 p hp]
theorem Yfu {z : List (KZ × Int)} {i : Nat} (hi : i < z.length) : z.getD i ((0, 0), 0) ∈ z := by
 rw [List.getD_eq_getElem?_getD, List.getElem?_eq_getElem hi]
 exact List.getElem_mem hi
end Go.Proofs.YtbchcjlllddlpaaGreat.Pure
namespace Go.Proofs.YtbchcjlllddlpaaGreat.Pure
set_option linter.unusedVariables false
set_option linter.unusedSimpArgs false
open Go Go.Ev Go.Lm Go.Pu Go.Dg
def kdZ (a : Int) : Nat := if Zix a = 1 ∨ Zix a = 2 then 0 else if Zix a = 3 then 2 else 1
theorem TKind_eq (k : Nat) (a : Int) : Zfp.f k a = some (kdZ a : Int) := by
 unfold Zfp.f kdZ
 rw [CK_eq, Z0]
 by_cases h1 : Zix a = 1
 ·rw [show (Zix a == 1) = true by simpa using h1, cond_true, Z0]
  dsimp only
  rw [cond_true, if_pos (.inl h1)]
  rfl
 ·rw [show (Zix a == 1) = false by simpa using h1, cond_false, Z0]
  dsimp only
  by_cases h2 : Zix a = 2
  ·rw [show (Zix a == 2) = true by simpa using h2, cond_true, if_pos (.inr h2)]
   rfl
  ·rw [show (Zix a == 2) = false by simpa using h2, cond_false, if_neg (by omega)]
   by_cases h3 : Zix a = 3
   ·rw [show (Zix a == 3) = true by simpa using h3, cond_true, if_pos h3]
    rfl
   ·rw [show (Zix a == 3) = false by simpa using h3, cond_false, if_neg h3]
    rfl
theorem kdZ_lt (a : Int) : kdZ a < 3 := by
 unfold kdZ
 split
 ·decide
 ·split <;> decide
def wz (v : Int) (s : Nat) (r : Za) : Int := sgB (!(decide (v < 0) == r.Zhd)) (tmN (v.natAbs * (val r).natAbs) (s + r.Zm.toNat))
theorem tmR_eq {v : Int} {s : Nat} {r : Za} (hv : Sm v) (hs : s ≤ 9) (hr : dOk r = true) : tmR (DV v s) r = mkD (wz v s r) 2 := by
 unfold tmR wz
 rw [if_pos ⟨dOk_of_DV hv hs, hr⟩, Zsv]
 rfl
def trZ (s : Nat) (by_ : Nat → Za) : List (KZ × Int) → Int → Option (List (KZ × Int) × Int)
 | [], S => some ([], S)
 | x :: r, S => if Sm (wz x.2 s (by_ (kdZ x.1.1))) ∧ Sm (S + wz x.2 s (by_ (kdZ x.1.1))) then (trZ s by_ r (S + wz x.2 s (by_ (kdZ x.1.1)))).map fun q => ((x.1, wz x.2 s (by_ (kdZ x.1.1))) :: q.1, q.2) else none
theorem Yas {s : Nat} {by_ : Nat → Za} : ∀ {z : List (KZ × Int)} {S : Int} {q : List (KZ × Int) × Int}, Sm S → trZ s by_ z S = some q → q.1.map (·.1) = z.map (·.1) ∧ SmL q.1 ∧ Sm q.2
 | [], S, q, hS, h => by
  cases h
  exact ⟨rfl, fun p hp => (List.not_mem_nil hp).elim, hS⟩
 | x :: r, S, q, hS, h => by
  unfold trZ at h
  split at h
  ·rename_i hc
   obtain ⟨q', h1, h2⟩ := Option.map_eq_some_iff.1 h
   subst h2
   obtain ⟨g1, g2, g3⟩ := Yas hc.2 h1
   refine ⟨by rw [List.map_cons, List.map_cons, g1], fun p hp => ?_, g3⟩
   rcases List.mem_cons.1 hp with rfl | hp
   ·exact hc.1
   ·exact g2 p hp
  ·cases h
theorem ris_keys {a b : List (KZ × Int)} (h : a.map (·.1) = b.map (·.1)) (hb : Ris b) : Ris a := by
 unfold Ris at hb ⊢
 have h1 : (b.map (·.1)).Pairwise fun x y => ltZ x y = true := by rw [List.pairwise_map]; exact hb
 rw [← h, List.pairwise_map] at h1
 exact h1
def By3 (l : List Za) : Prop := l.length = 3 ∧ ∀ i, i < 3 → W2 (l.getD i Za.zero).f_C ∧ dOk (l.getD i Za.zero) = true
theorem sgn_ne (v : Int) : (sgn v != 0) = !decide (v = 0) := by
 rw [bne, Zwe]
theorem tr_step {k : Nat} (hk : 1002 < k) {s : Nat} (hs : s ≤ 4) {M : List (KZ × Za)} {z : List (KZ × Int)} (hM : MZ s M z) {l : List Za} (hl : By3 l) {i : Nat} (hi : i < z.length) (hz : z.length ≤ 1000) (d : Za) (N : List (KZ × Za)) {S : Int} (hS : Sm S) (T : List (Zu × Za)) :
  Zcx.l6.once k (z.map (·.1), (z.length : Int), (i : Int), M, d.Zhd, d.f_C.1, d.f_C.2, d.Zm, l, N, (DV S 2).Zhd, (DV S 2).f_C.1, (DV S 2).f_C.2, (DV S 2).Zm, T) =
   some (if Sm (wz (z.getD i ((0, 0), 0)).2 s (l.getD (kdZ (z.getD i ((0, 0), 0)).1.1) Za.zero)) ∧ Sm (S + wz (z.getD i ((0, 0), 0)).2 s (l.getD (kdZ (z.getD i ((0, 0), 0)).1.1) Za.zero)) then
    .inl (z.map (·.1), (z.length : Int), ((i + 1 : Nat) : Int), M, d.Zhd, d.f_C.1, d.f_C.2, d.Zm, l, (if wz (z.getD i ((0, 0), 0)).2 s (l.getD (kdZ (z.getD i ((0, 0), 0)).1.1) Za.zero) = 0 then N else Zkh (Zcu (z.getD i ((0, 0), 0)).1) (z.getD i ((0, 0), 0)).1 (DV (wz (z.getD i ((0, 0), 0)).2 s (l.getD (kdZ (z.getD i ((0, 0), 0)).1.1) Za.zero)) 2) N),
     (DV (S + wz (z.getD i ((0, 0), 0)).2 s (l.getD (kdZ (z.getD i ((0, 0), 0)).1.1) Za.zero)) 2).Zhd, (DV (S + wz (z.getD i ((0, 0), 0)).2 s (l.getD (kdZ (z.getD i ((0, 0), 0)).1.1) Za.zero)) 2).f_C.1, (DV (S + wz (z.getD i ((0, 0), 0)).2 s (l.getD (kdZ (z.getD i ((0, 0), 0)).1.1) Za.zero)) 2).f_C.2, (DV (S + wz (z.getD i ((0, 0), 0)).2 s (l.getD (kdZ (z.getD i ((0, 0), 0)).1.1) Za.zero)) 2).Zm, T)
   else .inr (.inr ([], ⟨false, (0, 0), 0⟩, 3, M, ⟨T⟩))) := by
 have hx := Yfu hi
 have hg := hM.get (z.getD i ((0, 0), 0)).1
 rw [Ysk hM.ris _ hx] at hg
 have hsx := hM.sm _ hx
 have hwr := Zhp (show -9223372036854775808 ≤ (i : Int) + 1 ∧ (i : Int) + 1 < 9223372036854775808 by omega)
 have hgd := getD_map (fun p : KZ × Int => p.1) ((0, 0), 0) (0, 0) hi
 unfold Zcx.l6.once
 dsimp only
 rw [ct (show (i : Int) < (z.length : Int) by omega), Zhr (by omega) (by rw [List.length_map]; omega), cond_true, Int.toNat_natCast]
 simp only [hgd, hwr]
 generalize z.getD i ((0, 0), 0) = x at hg hsx ⊢
 have hg' : Zii (Zcu (x.1.1, x.1.2)) M = some (DV x.2 s) := hg
 have hk3 := kdZ_lt x.1.1
 obtain ⟨r1, r2⟩ := hl.2 _ hk3
 rw [hg', Z0, Z0]
 refine bof (TKind_eq k x.1.1) ?_
 rw [Zhr (by omega) (by omega), cond_true, Int.toNat_natCast, Zja hk3, cond_true]
 generalize l.getD (kdZ x.1.1) Za.zero = r at r1 r2 ⊢
 have hT : Zeu.f k (⟨(DV x.2 s).Zhd, ((DV x.2 s).f_C.1, (DV x.2 s).f_C.2), (DV x.2 s).Zm⟩ : Za) (⟨r.Zhd, (r.f_C.1, r.f_C.2), r.Zm⟩ : Za) 2 4 = some (mkD (wz x.2 s r) 2) := by
  rw [← tmR_eq hsx (by omega) r2]
  exact Ynu (by omega) (Zjs hsx) r1
 refine bof hT ?_
 by_cases h1 : Sm (wz x.2 s r)
 ·have m1 : mkD (wz x.2 s r) 2 = (DV (wz x.2 s r) 2, 0) := if_pos h1
  rw [m1]
  dsimp only
  rw [show ((0 : Int) != 0) = false from rfl, cond_false]
  refine bof (v := mkD (S + wz x.2 s r) 2) (Yya (by omega) hS h1 (by decide)) ?_
  by_cases h2 : Sm (S + wz x.2 s r)
  ·have m2 : mkD (S + wz x.2 s r) 2 = (DV (S + wz x.2 s r) 2, 0) := if_pos h2
   rw [m2, if_pos ⟨h1, h2⟩]
   dsimp only
   rw [show ((0 : Int) != 0) = false from rfl, cond_false]
   refine bof (v := sgn (wz x.2 s r)) (Zkw (by omega) h1 (by decide)) ?_
   rw [sgn_ne]
   by_cases h0 : wz x.2 s r = 0
   ·rw [decide_eq_true h0, if_pos h0]
    rfl
   ·rw [decide_eq_false h0, if_neg h0]
    rfl
  ·have m2 : mkD (S + wz x.2 s r) 2 = (Ybo, 3) := if_neg h2
   rw [m2, if_neg (fun h => h2 h.2)]
   rfl
 ·have m1 : mkD (wz x.2 s r) 2 = (Ybo, 3) := if_neg h1
  rw [m1, if_neg (fun h => h1 h.1)]
  rfl
theorem tr_loop {k : Nat} (hk : 1002 < k) {s : Nat} (hs : s ≤ 4) {M : List (KZ × Za)} {z : List (KZ × Int)} (hM : MZ s M z) {l : List Za} (hl : By3 l) (hz : z.length ≤ 1000) (d : Za) (T : List (Zu × Za)) : ∀ (m i : Nat) (w : List (KZ × Int)) (S : Int), Sm S → i ≤ z.length → w.map (·.1) = (z.take i).map (·.1) → z.length - i < m →
  iter (Zcx.l6.once k) m (z.map (·.1), (z.length : Int), (i : Int), M, d.Zhd, d.f_C.1, d.f_C.2, d.Zm, l, (Zjv w).map (mkz 2), (DV S 2).Zhd, (DV S 2).f_C.1, (DV S 2).f_C.2, (DV S 2).Zm, T) = some (match trZ s (fun j => l.getD j Za.zero) (z.drop i) S with
   | some q => .inl (d.Zhd, d.f_C.1, d.f_C.2, d.Zm, (Zjv (w ++ q.1)).map (mkz 2), (DV q.2 2).Zhd, (DV q.2 2).f_C.1, (DV q.2 2).f_C.2, (DV q.2 2).Zm, M, T)
   | none => .inr ([], ⟨false, (0, 0), 0⟩, 3, M, ⟨T⟩)) := by
 intro m
 induction m with
 | zero => intro i w S _ _ _ h; omega
 | succ m ih =>
  intro i w S hS hi hw hm
  by_cases hc : i < z.length
  ·have st := tr_step hk hs hM hl hc hz d ((Zjv w).map (mkz 2)) hS T
   have hnew : ∀ p ∈ w, p.1 ≠ (z.getD i ((0, 0), 0)).1 := fun p hp e => by
    have h1 : p.1 ∈ (z.take i).map (·.1) := by rw [← hw]; exact List.mem_map.2 ⟨p, hp, rfl⟩
    obtain ⟨q, hq, hqe⟩ := List.mem_map.1 h1
    have h2 := hM.ris
    unfold Ris at h2
    rw [← List.take_append_drop i z, List.pairwise_append] at h2
    have h3 := h2.2.2 q hq (z.getD i ((0, 0), 0)) (by rw [Zft ((0, 0), 0) hc]; exact List.mem_cons_self)
    exact Zqu h3 (hqe.trans e)
   have htk : (z.take (i + 1)).map (·.1) = (z.take i).map (·.1) ++ [(z.getD i ((0, 0), 0)).1] := by
    rw [List.take_add_one, List.getElem?_eq_getElem hc, List.map_append, List.getD_eq_getElem?_getD, List.getElem?_eq_getElem hc]
    rfl
   rw [Zft ((0, 0), 0) hc]
   unfold trZ
   generalize z.getD i ((0, 0), 0) = x at st hnew htk ⊢
   generalize wz x.2 s (l.getD (kdZ x.1.1) Za.zero) = v at st ⊢
   by_cases h : Sm v ∧ Sm (S + v)
   ·rw [if_pos h] at st ⊢
    have hput : (if v = 0 then (Zjv w).map (mkz 2) else Zkh (Zcu x.1) x.1 (DV v 2) ((Zjv w).map (mkz 2))) = (Zjv (w ++ [(x.1, v)])).map (mkz 2) := by
     unfold Zjv
     rw [List.filter_append]
     by_cases h0 : v = 0
     ·rw [if_pos h0, h0]
      simp
     ·rw [if_neg h0, Yru fun p hp => by
       obtain ⟨q, hq, rfl⟩ := List.mem_map.1 hp
       exact hnew q (List.mem_filter.1 hq).1]
      simp [h0, mkz]
    rw [hput] at st
    rw [Zcb st, ih (i + 1) (w ++ [(x.1, v)]) (S + v) h.2 (by omega) (by rw [List.map_append, hw, htk]; rfl) (by omega)]
    cases trZ s (fun j => l.getD j Za.zero) (z.drop (i + 1)) (S + v) with
    | none => rfl
    | some q =>
     show some (Sum.inl (_, _, _, _, (Zjv (w ++ [(x.1, v)] ++ q.1)).map (mkz 2), _)) = some (Sum.inl (_, _, _, _, (Zjv (w ++ (x.1, v) :: q.1)).map (mkz 2), _))
     rw [List.append_assoc]
     rfl
   ·rw [if_neg h] at st ⊢
    exact Zbj st
  ·rw [List.drop_eq_nil_of_le (by omega)]
   refine Zbj ?_
   unfold Zcx.l6.once trZ
   dsimp only
   rw [cf (by omega), List.append_nil]
end Go.Proofs.YtbchcjlllddlpaaGreat.Pure
namespace Go.Proofs.YtbchcjlllddlpaaGreat.Pure
set_option linter.unusedVariables false
set_option linter.unusedSimpArgs false
open Go Go.Ev Go.Lm Go.Pu Go.Dg
theorem Sim.gotR {T : List (Zu × Za)} {has : List Bool} {ds : List Za} (h : Sim T has ds) (q : Zu) :
  gotR has ds q = (match Zii (Zan q) T with | some d => (d, 0, ⟨has, ds⟩) | none => (Ybo, 11, ⟨has, ds⟩)) := by
 obtain ⟨D, E, h1, h2, _⟩ := h.agree q
 rw [h2]
 cases hm : Zii (Zan q) T with
 | some d => rw [hm] at h1; cases h1; rfl
 | none => rw [hm] at h1; cases h1; rfl
def RT (T : List (Zu × Za)) : Prop := ∀ p ∈ T, W2 p.2.f_C ∧ dOk p.2 = true
theorem Yvl {q : Zu} {d : Za} : ∀ {T : List (Zu × Za)}, Zii (Zan q) T = some d → ∃ p ∈ T, p.2 = d
 | [], h => by cases h
 | x :: r, h => by
  unfold Zii at h
  cases hk : Zan q x.1 with
  | true =>
   rw [hk] at h
   cases h
   exact ⟨x, List.mem_cons_self, rfl⟩
  | false =>
   rw [hk] at h
   obtain ⟨p, hp, e⟩ := Yvl h
   exact ⟨p, List.mem_cons_of_mem _ hp, e⟩
theorem RT.get {T : List (Zu × Za)} (h : RT T) {q : Zu} {d : Za} (hq : Zii (Zan q) T = some d) : W2 d.f_C ∧ dOk d = true := by
 obtain ⟨p, hp, rfl⟩ := Yvl hq
 exact h p hp
theorem Yvj {q : Zu} {d : Za} : ∀ {T : List (Zu × Za)} {p : Zu × Za}, p ∈ Zkh (Zan q) q d T → p.2 = d ∨ p ∈ T
 | [], p, h => by
  rw [List.mem_singleton.1 h]
  exact .inl rfl
 | x :: r, p, h => by
  unfold Zkh at h
  cases hk : Zan q x.1 with
  | true =>
   rw [hk, cond_true] at h
   rcases List.mem_cons.1 h with rfl | h
   ·exact .inl rfl
   ·exact .inr (List.mem_cons_of_mem _ h)
  | false =>
   rw [hk, cond_false] at h
   rcases List.mem_cons.1 h with rfl | h
   ·exact .inr List.mem_cons_self
   ·rcases Yvj h with h | h
    ·exact .inl h
    ·exact .inr (List.mem_cons_of_mem _ h)
noncomputable def rt3 (T : List (Zu × Za)) (p : Int) : Option (Za × Za × Za) := match Zii (Zan ⟨p, 0⟩) T, Zii (Zan ⟨p, 1⟩) T, Zii (Zan ⟨p, 2⟩) T with
 | some a, some b, some c => some (a, b, c)
 | _, _, _ => none
theorem Yre (k : Nat) (T : List (Zu × Za)) (p : Int) {i : Nat} (hi : i < 3) (x3 x4 : List Za) :
  match Zii (Zan ⟨p, (i : Int)⟩) T with
  | some d => Zbs.l3.once k (p, (i : Int), T, x3, x4) = some (.inl (p, ((i + 1 : Nat) : Int), T, x3, x4.set i d))
  | none => ∃ g, Zbs.l3.once k (p, (i : Int), T, x3, x4) = some (.inr (.inr (g, 11, ⟨T⟩))) := by
 have hwr := Zhp (show -9223372036854775808 ≤ (i : Int) + 1 ∧ (i : Int) + 1 < 9223372036854775808 by omega)
 have hg := Get_eq k T ⟨p, (i : Int)⟩
 unfold Zbs.l3.once
 dsimp only
 rw [ct (show (i : Int) < 3 by omega), hg, Z0, Zhr (by omega) (by omega), cond_true, Int.toNat_natCast, Zja hi, cond_true, hwr]
 cases Zii (Zan ⟨p, (i : Int)⟩) T with
 | some d => rfl
 | none => exact ⟨_, rfl⟩
theorem TRates_eq {k : Nat} (hk : 10 < k) (T : List (Zu × Za)) (p : Int) : ∃ g, Zbs.f k ⟨T⟩ p = some (match rt3 T p with
  | some d => (d, 0, ⟨T⟩)
  | none => (g, 11, ⟨T⟩)) := by
 obtain ⟨j, rfl⟩ : ∃ j, k = j + 5 := ⟨k - 5, by omega⟩
 have s0 := Yre (j + 5) T p (i := 0) (by decide) [⟨false, (0, 0), 0⟩, ⟨false, (0, 0), 0⟩, ⟨false, (0, 0), 0⟩] [⟨false, (0, 0), 0⟩, ⟨false, (0, 0), 0⟩, ⟨false, (0, 0), 0⟩]
 have fin : ∀ (a b c : Za), Zbs.l3.once (j + 5) (p, 3, T, [⟨false, (0, 0), 0⟩, ⟨false, (0, 0), 0⟩, ⟨false, (0, 0), 0⟩], [a, b, c]) = some (.inr (.inl ([⟨false, (0, 0), 0⟩, ⟨false, (0, 0), 0⟩, ⟨false, (0, 0), 0⟩], [a, b, c], T))) := fun _ _ _ => rfl
 unfold Zbs.f rt3
 cases h0 : Zii (Zan ⟨p, 0⟩) T with
 | none =>
  rw [show ((0 : Nat) : Int) = 0 from rfl, h0] at s0
  obtain ⟨g, s0⟩ := s0
  refine ⟨(⟨g.1.Zhd, (g.1.f_C.1, g.1.f_C.2), g.1.Zm⟩, ⟨g.2.1.Zhd, (g.2.1.f_C.1, g.2.1.f_C.2), g.2.1.Zm⟩, ⟨g.2.2.Zhd, (g.2.2.f_C.1, g.2.2.f_C.2), g.2.2.Zm⟩), ?_⟩
  exact bof (Zbj (n := j + 4) s0) rfl
 | some a =>
  rw [show ((0 : Nat) : Int) = 0 from rfl, h0] at s0
  have s1 := Yre (j + 5) T p (i := 1) (by decide) [⟨false, (0, 0), 0⟩, ⟨false, (0, 0), 0⟩, ⟨false, (0, 0), 0⟩] [a, ⟨false, (0, 0), 0⟩, ⟨false, (0, 0), 0⟩]
  cases h1 : Zii (Zan ⟨p, 1⟩) T with
  | none =>
   rw [show ((1 : Nat) : Int) = 1 from rfl, h1] at s1
   obtain ⟨g, s1⟩ := s1
   refine ⟨(⟨g.1.Zhd, (g.1.f_C.1, g.1.f_C.2), g.1.Zm⟩, ⟨g.2.1.Zhd, (g.2.1.f_C.1, g.2.1.f_C.2), g.2.1.Zm⟩, ⟨g.2.2.Zhd, (g.2.2.f_C.1, g.2.2.f_C.2), g.2.2.Zm⟩), ?_⟩
   exact bof ((Zcb (n := j + 4) s0).trans (Zbj (n := j + 3) s1)) rfl
  | some b =>
   rw [show ((1 : Nat) : Int) = 1 from rfl, h1] at s1
   have s2 := Yre (j + 5) T p (i := 2) (by decide) [⟨false, (0, 0), 0⟩, ⟨false, (0, 0), 0⟩, ⟨false, (0, 0), 0⟩] [a, b, ⟨false, (0, 0), 0⟩]
   cases h2 : Zii (Zan ⟨p, 2⟩) T with
   | none =>
    rw [show ((2 : Nat) : Int) = 2 from rfl, h2] at s2
    obtain ⟨g, s2⟩ := s2
    refine ⟨(⟨g.1.Zhd, (g.1.f_C.1, g.1.f_C.2), g.1.Zm⟩, ⟨g.2.1.Zhd, (g.2.1.f_C.1, g.2.1.f_C.2), g.2.1.Zm⟩, ⟨g.2.2.Zhd, (g.2.2.f_C.1, g.2.2.f_C.2), g.2.2.Zm⟩), ?_⟩
    exact bof ((Zcb (n := j + 4) s0).trans ((Zcb (n := j + 3) s1).trans (Zbj (n := j + 2) s2))) rfl
   | some c =>
    rw [show ((2 : Nat) : Int) = 2 from rfl, h2] at s2
    refine ⟨(a, b, c), ?_⟩
    exact bof ((Zcb (n := j + 4) s0).trans ((Zcb (n := j + 3) s1).trans ((Zcb (n := j + 2) s2).trans (Zbj (n := j + 1) (fin a b c))))) rfl
theorem rt3_by {T : List (Zu × Za)} (h : RT T) {p : Int} {d : Za × Za × Za} (hd : rt3 T p = some d) : By3 [d.1, d.2.1, d.2.2] ∧ ∀ i : Nat, i < 3 → Zii (Zan ⟨p, (i : Int)⟩) T = some ([d.1, d.2.1, d.2.2].getD i Za.zero) := by
 unfold rt3 at hd
 split at hd
 ·rename_i a b c ha hb hc
  cases hd
  have g : ∀ i : Nat, i < 3 → Zii (Zan ⟨p, (i : Int)⟩) T = some ([a, b, c].getD i Za.zero) := fun i hi => by
   rcases i with _ | _ | _ | i
   ·exact ha
   ·exact hb
   ·exact hc
   ·omega
  exact ⟨⟨rfl, fun i hi => h.get (g i hi)⟩, g⟩
 ·cases hd
theorem Trans_eq {k : Nat} (hk : 1002 < k) {s : Nat} (hs : s ≤ 4) {M : List (KZ × Za)} {z : List (KZ × Int)} (hM : MZ s M z) (hz : z.length ≤ 1000) {T : List (Zu × Za)} (hT : RT T) (p : Int) :
  Zcx.f k M ⟨T⟩ p = some (match rt3 T p with
   | some d => (match trZ s (fun j => [d.1, d.2.1, d.2.2].getD j Za.zero) z 0 with
    | some q => ((Zjv q.1).map (mkz 2), DV (-q.2) 2, 0, M, ⟨T⟩)
    | none => ([], ⟨false, (0, 0), 0⟩, 3, M, ⟨T⟩))
   | none => ([], ⟨false, (0, 0), 0⟩, 11, M, ⟨T⟩)) := by
 obtain ⟨g, hr⟩ := TRates_eq (k := k) (by omega) T p
 unfold Zcx.f
 refine bof hr ?_
 cases hd : rt3 T p with
 | none => rfl
 | some d =>
  obtain ⟨hby, _⟩ := rt3_by hT hd
  dsimp only
  rw [show ((0 : Int) != 0) = false from rfl, cond_false]
  have ho : Zha.f k 0 2 = some (DV 0 2) := Of_DV k (n := 0) (by omega) 2
  refine bof ho (bof (Keys2_eq hM hz) ?_)
  have it := tr_loop hk hs hM hby hz ⟨false, (0, 0), 0⟩ T k 0 [] 0 Sm0 (Nat.zero_le _) rfl (by omega)
  rw [List.drop_zero] at it
  dsimp only
  rw [List.length_map]
  refine bof it ?_
  cases hq : trZ s (fun j => [d.1, d.2.1, d.2.2].getD j Za.zero) z 0 with
  | none => rfl
  | some q =>
   dsimp only
   obtain ⟨_, _, h3⟩ := Yas Sm0 hq
   exact bof (v := DV (-q.2) 2) (Neg_DV (k := k) (by omega) h3 (by decide)) rfl
theorem rr_loop {k : Nat} (hk : 10 < k) {T : List (Zu × Za)} {has : List Bool} {ds : List Za} (h : Sim T has ds) (zc : List Zc) (p : Int) (d : Za) :
  iter (Zq.l4.once k) k (zc, p, 0, ⟨has, ds⟩, d.Zhd, d.f_C.1, d.f_C.2, d.Zm) = some (match rt3 T p with
   | some _ => .inl (zc, p, ⟨has, ds⟩, d.Zhd, d.f_C.1, d.f_C.2, d.Zm)
   | none => .inr ([], ⟨false, (0, 0), 0⟩, 11, ⟨has, ds⟩)) := by
 have e1 : pack 36 false has = has := Zbr false h.h1
 have e2 : pack 36 Za.zero ds = ds := Zbr _ h.h2
 have st : ∀ i : Nat, i < 3 → Zq.l4.once k (zc, p, (i : Int), ⟨has, ds⟩, d.Zhd, d.f_C.1, d.f_C.2, d.Zm) = some (match Zii (Zan ⟨p, (i : Int)⟩) T with
   | some _ => .inl (zc, p, ((i + 1 : Nat) : Int), ⟨has, ds⟩, d.Zhd, d.f_C.1, d.f_C.2, d.Zm)
   | none => .inr (.inr ([], ⟨false, (0, 0), 0⟩, 11, ⟨has, ds⟩))) := by
  intro i hi
  have hwr := Zhp (show -9223372036854775808 ≤ (i : Int) + 1 ∧ (i : Int) + 1 < 9223372036854775808 by omega)
  unfold Zq.l4.once
  dsimp only
  simp only [e1, e2]
  rw [ct (show (i : Int) < 3 by omega), hwr]
  refine bof (Yaj k h.h1 h.h2 p (i : Int)) ?_
  rw [h.gotR]
  cases Zii (Zan ⟨p, (i : Int)⟩) T with
  | some x =>
   dsimp only
   simp only [e1, e2]
   rfl
  | none =>
   dsimp only
   simp only [e1, e2]
   rfl
 have fin : Zq.l4.once k (zc, p, 3, ⟨has, ds⟩, d.Zhd, d.f_C.1, d.f_C.2, d.Zm) = some (.inr (.inl (zc, p, ⟨has, ds⟩, d.Zhd, d.f_C.1, d.f_C.2, d.Zm))) := by
  unfold Zq.l4.once
  dsimp only
  simp only [e1, e2]
  rfl
 have s0 := st 0 (by decide)
 have s1 := st 1 (by decide)
 have s2 := st 2 (by decide)
 obtain ⟨j, hj⟩ : ∃ j, k = j + 5 := ⟨k - 5, by omega⟩
 unfold rt3
 rw [show iter (Zq.l4.once k) k = iter (Zq.l4.once k) (j + 4 + 1) by rw [← hj]]
 cases h0 : Zii (Zan ⟨p, 0⟩) T with
 | none =>
  rw [show ((0 : Nat) : Int) = 0 from rfl, h0] at s0
  exact Zbj s0
 | some a =>
  rw [show ((0 : Nat) : Int) = 0 from rfl, h0] at s0
  refine (Zcb s0).trans ?_
  cases h1 : Zii (Zan ⟨p, 1⟩) T with
  | none =>
   rw [show ((1 : Nat) : Int) = 1 from rfl, h1] at s1
   exact Zbj s1
  | some b =>
   rw [show ((1 : Nat) : Int) = 1 from rfl, h1] at s1
   refine (Zcb s1).trans ?_
   cases h2 : Zii (Zan ⟨p, 2⟩) T with
   | none =>
    rw [show ((2 : Nat) : Int) = 2 from rfl, h2] at s2
    exact Zbj s2
   | some c =>
    rw [show ((2 : Nat) : Int) = 2 from rfl, h2] at s2
    exact (Zcb s2).trans (Zbj fin)
theorem rtr_step {k : Nat} (hk : 1002 < k) {s : Nat} (hs : s ≤ 4) {z : List (KZ × Int)} (hz : SmL z) (hzl : z.length ≤ 1000) {T : List (Zu × Za)} {has : List Bool} {ds : List Za} (h : Sim T has ds) {p : Int} {l : List Za} (hl : By3 l) (hg : ∀ i : Nat, i < 3 → Zii (Zan ⟨p, (i : Int)⟩) T = some (l.getD i Za.zero))
  {i : Nat} (hi : i < z.length) (d : Za) {w : List (KZ × Int)} (hwl : w.length ≤ 1000) {S : Int} (hS : Sm S) :
  Zq.l12.once k (z.map (ckz s), p, w.map (ckz 2), (i : Int), ⟨has, ds⟩, d.Zhd, d.f_C.1, d.f_C.2, d.Zm, (DV S 2).Zhd, (DV S 2).f_C.1, (DV S 2).f_C.2, (DV S 2).Zm) =
   some (if Sm (wz (z.getD i ((0, 0), 0)).2 s (l.getD (kdZ (z.getD i ((0, 0), 0)).1.1) Za.zero)) ∧ Sm (S + wz (z.getD i ((0, 0), 0)).2 s (l.getD (kdZ (z.getD i ((0, 0), 0)).1.1) Za.zero)) then
    .inl (z.map (ckz s), p, (w ++ [((z.getD i ((0, 0), 0)).1, wz (z.getD i ((0, 0), 0)).2 s (l.getD (kdZ (z.getD i ((0, 0), 0)).1.1) Za.zero))]).map (ckz 2), ((i + 1 : Nat) : Int), ⟨has, ds⟩, d.Zhd, d.f_C.1, d.f_C.2, d.Zm,
     (DV (S + wz (z.getD i ((0, 0), 0)).2 s (l.getD (kdZ (z.getD i ((0, 0), 0)).1.1) Za.zero)) 2).Zhd, (DV (S + wz (z.getD i ((0, 0), 0)).2 s (l.getD (kdZ (z.getD i ((0, 0), 0)).1.1) Za.zero)) 2).f_C.1, (DV (S + wz (z.getD i ((0, 0), 0)).2 s (l.getD (kdZ (z.getD i ((0, 0), 0)).1.1) Za.zero)) 2).f_C.2, (DV (S + wz (z.getD i ((0, 0), 0)).2 s (l.getD (kdZ (z.getD i ((0, 0), 0)).1.1) Za.zero)) 2).Zm)
   else .inr (.inr ([], ⟨false, (0, 0), 0⟩, 3, ⟨has, ds⟩))) := by
 have e1 : pack 36 false has = has := Zbr false h.h1
 have e2 : pack 36 Za.zero ds = ds := Zbr _ h.h2
 have hx := Yfu hi
 have hsx := hz _ hx
 have hwr := Zhp (show -9223372036854775808 ≤ (i : Int) + 1 ∧ (i : Int) + 1 < 9223372036854775808 by omega)
 have hgd := getD_map (ckz s) ((0, 0), 0) Zc.zero hi
 have hlen : ((z.map (ckz s)).length : Int) = (z.length : Int) := by rw [List.length_map]
 have hin : inb (i : Int) (z.map (ckz s)).length = true := by rw [List.length_map]; exact Zhr (by omega) (by omega)
 unfold Zq.l12.once
 dsimp only
 simp only [e1, e2]
 rw [hlen, ct (show (i : Int) < (z.length : Int) by omega), hin, cond_true, Int.toNat_natCast]
 simp only [hgd]
 have e3 : (z.map (ckz s)).getD i Zc.zero = ckz s (z.getD i ((0, 0), 0)) := hgd
 generalize hxx : z.getD i ((0, 0), 0) = x at hsx e3 ⊢
 have hk3 := kdZ_lt x.1.1
 obtain ⟨r1, r2⟩ := hl.2 _ hk3
 have hget := Yaj k h.h1 h.h2 p (kdZ x.1.1 : Int)
 rw [h.gotR, hg _ hk3] at hget
 generalize hrr : l.getD (kdZ x.1.1) Za.zero = r at r1 r2 hget ⊢
 dsimp only at hget
 have hT : Zdr.f k (⟨(ckz s x).f_D.Zhd, ((ckz s x).f_D.f_C.1, (ckz s x).f_D.f_C.2), (ckz s x).f_D.Zm⟩ : Za) (⟨r.Zhd, (r.f_C.1, r.f_C.2), r.Zm⟩ : Za) 2 4 = some (mkD (wz x.2 s r) 2) := by
  rw [← tmR_eq hsx (by omega) r2]
  exact Ynt (by omega) (Zjs hsx) r1
 refine bof (v := (if Sm (wz x.2 s r) ∧ Sm (S + wz x.2 s r) then
    .inl (z.map (ckz s), p, (w ++ [(x.1, wz x.2 s r)]).map (ckz 2), (i : Int), ⟨has, ds⟩, d.Zhd, d.f_C.1, d.f_C.2, d.Zm, (DV (S + wz x.2 s r) 2).Zhd, (DV (S + wz x.2 s r) 2).f_C.1, (DV (S + wz x.2 s r) 2).f_C.2, (DV (S + wz x.2 s r) 2).Zm)
   else .inr ([], ⟨false, (0, 0), 0⟩, 3, ⟨has, ds⟩))) ?_ ?_
 ·refine bof (v := Zix x.1.1) (RK_eq k x.1.1) ?_
  refine bof (v := (z.map (ckz s), p, w.map (ckz 2), (i : Int), (kdZ x.1.1 : Int), ⟨has, ds⟩, d.Zhd, d.f_C.1, d.f_C.2, d.Zm, (DV S 2).Zhd, (DV S 2).f_C.1, (DV S 2).f_C.2, (DV S 2).Zm)) ?_ ?_
  ·unfold kdZ
   by_cases h1 : Zix x.1.1 = 1
   ·rw [show (Zix x.1.1 == 1) = true by simpa using h1, cond_true, Z0]
    dsimp only
    rw [cond_true, if_pos (.inl h1), e1, e2]
    rfl
   ·rw [show (Zix x.1.1 == 1) = false by simpa using h1, cond_false, Z0]
    dsimp only
    by_cases h2 : Zix x.1.1 = 2
    ·rw [show (Zix x.1.1 == 2) = true by simpa using h2, cond_true, if_pos (.inr h2), e1, e2]
     rfl
    ·rw [show (Zix x.1.1 == 2) = false by simpa using h2, cond_false, if_neg (by omega)]
     by_cases h3 : Zix x.1.1 = 3
     ·rw [show (Zix x.1.1 == 3) = true by simpa using h3, cond_true, if_pos h3, e1, e2]
      rfl
     ·rw [show (Zix x.1.1 == 3) = false by simpa using h3, cond_false, if_neg h3, e1, e2]
      rfl
  ·dsimp only
   simp only [e1, e2]
   refine bof hget ?_
   rw [hin, cond_true, Int.toNat_natCast]
   simp only [e3]
   refine bof hT ?_
   simp only [e1, e2]
   by_cases h1 : Sm (wz x.2 s r)
   ·have m1 : mkD (wz x.2 s r) 2 = (DV (wz x.2 s r) 2, 0) := if_pos h1
    rw [m1]
    dsimp only
    rw [show ((0 : Int) != 0) = false from rfl, cond_false]
    refine bof (v := mkD (S + wz x.2 s r) 2) (Yql (by omega) hS h1 (by decide)) ?_
    by_cases h2 : Sm (S + wz x.2 s r)
    ·have m2 : mkD (S + wz x.2 s r) 2 = (DV (S + wz x.2 s r) 2, 0) := if_pos h2
     rw [m2, if_pos ⟨h1, h2⟩]
     dsimp only
     rw [show ((0 : Int) != 0) = false from rfl, cond_false, Zfj (by rw [List.length_map, List.length_singleton]; omega), cond_true, List.map_append]
     rfl
    ·have m2 : mkD (S + wz x.2 s r) 2 = (Ybo, 3) := if_neg h2
     rw [m2, if_neg (fun h => h2 h.2)]
     rfl
   ·have m1 : mkD (wz x.2 s r) 2 = (Ybo, 3) := if_neg h1
    rw [m1, if_neg (fun h => h1 h.1)]
    rfl
 ·by_cases hc : Sm (wz x.2 s r) ∧ Sm (S + wz x.2 s r)
  ·rw [if_pos hc, if_pos hc]
   dsimp only
   rw [hwr, e1, e2]
   rfl
  ·rw [if_neg hc, if_neg hc]
   dsimp only
   rw [e1, e2]
theorem rtr_loop {k : Nat} (hk : 1002 < k) {s : Nat} (hs : s ≤ 4) {z : List (KZ × Int)} (hz : SmL z) (hzl : z.length ≤ 1000) {T : List (Zu × Za)} {has : List Bool} {ds : List Za} (h : Sim T has ds) {p : Int} {l : List Za} (hl : By3 l) (hg : ∀ i : Nat, i < 3 → Zii (Zan ⟨p, (i : Int)⟩) T = some (l.getD i Za.zero)) (d : Za) :
  ∀ (m i : Nat) (w : List (KZ × Int)) (S : Int), Sm S → i ≤ z.length → w.length = i → z.length - i < m →
  iter (Zq.l12.once k) m (z.map (ckz s), p, w.map (ckz 2), (i : Int), ⟨has, ds⟩, d.Zhd, d.f_C.1, d.f_C.2, d.Zm, (DV S 2).Zhd, (DV S 2).f_C.1, (DV S 2).f_C.2, (DV S 2).Zm) = some (match trZ s (fun j => l.getD j Za.zero) (z.drop i) S with
   | some q => .inl ((w ++ q.1).map (ckz 2), d.Zhd, d.f_C.1, d.f_C.2, d.Zm, (DV q.2 2).Zhd, (DV q.2 2).f_C.1, (DV q.2 2).f_C.2, (DV q.2 2).Zm, ⟨has, ds⟩)
   | none => .inr ([], ⟨false, (0, 0), 0⟩, 3, ⟨has, ds⟩)) := by
 have e1 : pack 36 false has = has := Zbr false h.h1
 have e2 : pack 36 Za.zero ds = ds := Zbr _ h.h2
 intro m
 induction m with
 | zero => intro i w S _ _ _ h; omega
 | succ m ih =>
  intro i w S hS hi hw hm
  by_cases hc : i < z.length
  ·have st := rtr_step hk hs hz hzl h hl hg hc d (w := w) (by omega) hS
   rw [Zft ((0, 0), 0) hc]
   unfold trZ
   generalize z.getD i ((0, 0), 0) = x at st ⊢
   generalize wz x.2 s (l.getD (kdZ x.1.1) Za.zero) = v at st ⊢
   by_cases hh : Sm v ∧ Sm (S + v)
   ·rw [if_pos hh] at st ⊢
    rw [Zcb st, ih (i + 1) (w ++ [(x.1, v)]) (S + v) hh.2 (by omega) (by rw [List.length_append, hw]; rfl) (by omega)]
    cases trZ s (fun j => l.getD j Za.zero) (z.drop (i + 1)) (S + v) with
    | none => rfl
    | some q =>
     show some (Sum.inl ((w ++ [(x.1, v)] ++ q.1).map (ckz 2), _)) = some (Sum.inl ((w ++ (x.1, v) :: q.1).map (ckz 2), _))
     rw [List.append_assoc]
     rfl
   ·rw [if_neg hh] at st ⊢
    exact Zbj st
  ·rw [List.drop_eq_nil_of_le (by omega)]
   refine Zbj ?_
   unfold Zq.l12.once trZ
   dsimp only
   rw [List.length_map, cf (by omega), List.append_nil, e1, e2]
theorem RTrans_eq {k : Nat} (hk : 1002 < k) {s : Nat} (hs : s ≤ 4) {z : List (KZ × Int)} (hz : SmL z) (hzl : z.length ≤ 1000) {T : List (Zu × Za)} {has : List Bool} {ds : List Za} (h : Sim T has ds) (hT : RT T) (p : Int) :
  Zq.f k (z.map (ckz s)) ⟨has, ds⟩ p = some (match rt3 T p with
   | some d => (match trZ s (fun j => [d.1, d.2.1, d.2.2].getD j Za.zero) z 0 with
    | some q => ((Zjv q.1).map (ckz 2), DV (-q.2) 2, 0, ⟨has, ds⟩)
    | none => ([], ⟨false, (0, 0), 0⟩, 3, ⟨has, ds⟩))
   | none => ([], ⟨false, (0, 0), 0⟩, 11, ⟨has, ds⟩)) := by
 have e1 : pack 36 false has = has := Zbr false h.h1
 have e2 : pack 36 Za.zero ds = ds := Zbr _ h.h2
 have lo := rr_loop (k := k) (by omega) h (z.map (ckz s)) p ⟨false, (0, 0), 0⟩
 unfold Zq.f
 simp only [e1, e2]
 refine bof lo ?_
 cases hd : rt3 T p with
 | none =>
  dsimp only
  rw [e1, e2]
 | some d =>
  obtain ⟨hby, hg⟩ := rt3_by hT hd
  dsimp only
  simp only [e1, e2]
  refine bof (v := DV 0 2) rfl ?_
  have it := rtr_loop hk hs hz hzl h hby hg ⟨false, (0, 0), 0⟩ k 0 [] 0 Sm0 (Nat.zero_le _) rfl (by omega)
  rw [List.drop_zero] at it
  refine bof it ?_
  cases hq : trZ s (fun j => [d.1, d.2.1, d.2.2].getD j Za.zero) z 0 with
  | none =>
   dsimp only
   rw [e1, e2]
  | some q =>
   obtain ⟨g1, g2, g3⟩ := Yas Sm0 hq
   have hlen : q.1.length = z.length := by
    have := congrArg List.length g1
    simpa using this
   dsimp only
   rw [List.nil_append]
   refine bof (some_eq hk (show 2 ≤ 4 by decide) g2 (by omega)) ?_
   refine bof (v := DV (-q.2) 2) (Yiy (by omega) g3 (by decide)) ?_
   rw [e1, e2]
theorem TFlow_eq {k : Nat} (hk : 1002 < k) {T : List (Zu × Za)} {has : List Bool} {ds : List Za} (h : Sim T has ds) (hT : RT T) {a : Za} (ha : W2 a.f_C) (p : Int) :
  ∃ D E, Zgg.f k a ⟨T⟩ p = some (D, E, ⟨T⟩) ∧ Zdm.f k a ⟨has, ds⟩ p = some (D, E, ⟨has, ds⟩) := by
 have e1 : pack 36 false has = has := Zbr false h.h1
 have e2 : pack 36 Za.zero ds = ds := Zbr _ h.h2
 have g1 := Get_eq k T ⟨p, 1⟩
 have g2 := Yaj k h.h1 h.h2 p 1
 rw [h.gotR] at g2
 unfold Zgg.f Zdm.f
 simp only [e1, e2]
 cases hm : Zii (Zan ⟨p, 1⟩) T with
 | none =>
  rw [hm] at g1 g2
  refine ⟨⟨false, (0, 0), 0⟩, 11, bof g1 rfl, bof g2 ?_⟩
  dsimp only
  rw [e1, e2]
  rfl
 | some r =>
  rw [hm] at g1 g2
  obtain ⟨r1, r2⟩ := hT.get hm
  refine ⟨(tmR a r).1, (tmR a r).2, bof g1 ?_, bof g2 ?_⟩
  ·dsimp only [got]
   rw [show ((0 : Int) != 0) = false from rfl, cond_false]
   exact bof (Ynu (k := k) (by omega) (a := a) (b := r) ha r1) rfl
  ·dsimp only
   rw [show ((0 : Int) != 0) = false from rfl, cond_false]
   refine bof (Ynt (k := k) (by omega) (a := a) (b := r) ha r1) ?_
   rw [e1, e2]
end Go.Proofs.YtbchcjlllddlpaaGreat.Pure
namespace Go.Proofs.YtbchcjlllddlpaaGreat.Pure
set_option linter.unusedVariables false
set_option linter.unusedSimpArgs false
open Go Go.Ev
def insA {α : Type} (a : α) : List α → List (List α)
 | [] => [[a]]
 | x :: r => (a :: x :: r) :: (insA a r).map (x :: ·)
def permsA {α : Type} : List α → List (List α)
 | [] => [[]]
 | a :: l => (permsA l).flatMap (insA a)
theorem Yvt {α : Type} (a : α) : ∀ s t : List α, s ++ a :: t ∈ insA a (s ++ t)
 | [], [] => List.mem_cons_self
 | [], x :: t => List.mem_cons_self
 | x :: s, t => List.mem_cons_of_mem _ (List.mem_map.2 ⟨_, Yvt a s t, rfl⟩)
theorem Yka {α : Type} : ∀ {l σ : List α}, σ.Perm l → σ ∈ permsA l
 | [], σ, h => by
  rw [h.eq_nil]
  exact List.mem_cons_self
 | a :: l, σ, h => by
  obtain ⟨s, t, rfl⟩ := List.append_of_mem (h.mem_iff.2 List.mem_cons_self)
  have h2 : (s ++ t).Perm l := List.Perm.cons_inv (List.perm_middle.symm.trans h)
  exact List.mem_flatMap.2 ⟨_, Yka h2, Yvt a s t⟩
def anyC {α ρ : Type} [DecidableEq ρ] (es : List α) (f : List α → Option ρ) : Option ρ := match f es with
 | some r => if (permsA es).all (fun σ => decide (f σ = some r)) then some r else none
 | none => none
theorem anyC_P {α ρ : Type} [DecidableEq ρ] {es : List α} {f : List α → Option ρ} {r : ρ} (h : anyC es f = some r) : anyP es f = some r := by
 unfold anyC at h
 split at h
 ·split at h
  ·rename_i ha
   cases h
   exact anyP_of fun σ hσ => of_decide_eq_true (List.all_eq_true.1 ha σ (Yka hσ))
  ·cases h
 ·cases h
theorem Ywx {α β : Type} {X : Option α} {F G : α → Option β} {r : β} (h : ∀ v, F v = some r → G v = some r) (h' : X.bind F = some r) : X.bind G = some r := by
 cases X with
 | none => cases h'
 | some v => exact h v h'
end Go.Proofs.YtbchcjlllddlpaaGreat.Pure
namespace Go.Proofs.YtbchcjlllddlpaaGreat.Pure
set_option linter.unusedVariables false
set_option linter.unusedSimpArgs false
open Go Go.Ev Go.Lm Go.Pu Go.Dg
theorem known17 : Zbn.f 2000 = some true := by
 unfold Zbn.f
 refine Ywx (fun t1 => Ywx (fun t2 => anyC_P)) ?_
 decide +kernel
theorem Sim.sets2 {k : Nat} (hk : 602 < k) {T : List (Zu × Za)} {has : List Bool} {ds : List Za} (h : Sim T has ds) (hT : RT T) (p kd : Int) {d : Za} (hw : W2 d.f_C) :
  ∃ e T' has' ds', Zce.f k ⟨T⟩ ⟨p, kd⟩ d = some (e, ⟨T'⟩) ∧ Zci.f k ⟨has, ds⟩ p kd d = some (e, ⟨has', ds'⟩) ∧ Sim T' has' ds' ∧ RT T' := by
 rw [Set_eq (by omega) T ⟨p, kd⟩ hw, Xwr hk h.h1 h.h2 p kd hw]
 cases hb : placed ⟨p, kd⟩ && okR d with
 | true =>
  rw [Bool.and_eq_true] at hb
  have hd : dOk d = true := by
   have := hb.2
   unfold okR at this
   rw [Bool.and_eq_true] at this
   exact this.1
  refine ⟨_, _, _, _, rfl, rfl, h.set hb.1 d, fun q hq => ?_⟩
  rcases Yvj hq with e | hq
  ·rw [e]; exact ⟨hw, hd⟩
  ·exact hT q hq
 | false => exact ⟨_, _, _, _, rfl, rfl, h, hT⟩
theorem Yyu {k : Nat} (hk : 602 < k) {l : List Int} (hl : l.length ≤ 9223372036854775807) {i : Nat} (hi : i < 9) {T : List (Zu × Za)} {has : List Bool} {ds : List Za} (h : Sim T has ds) (hT : RT T) :
  ∃ r, Zag.l4.once k (l, (i : Int), T, ⟨has, ds⟩) = some r ∧ ∃ T' has' ds', r = .inl (l, ((i + 1 : Nat) : Int), T', ⟨has', ds'⟩) ∧ Sim T' has' ds' ∧ RT T' := by
 have e1 : pack 36 false has = has := Zbr false h.h1
 have e2 : pack 36 Za.zero ds = ds := Zbr _ h.h2
 have hwr := Zhp (show -9223372036854775808 ≤ (i : Int) + 1 ∧ (i : Int) + 1 < 9223372036854775808 by omega)
 unfold Zag.l4.once
 dsimp only
 simp only [e1, e2]
 rw [ct (show (i : Int) < 9 by omega), Z0]
 dsimp only
 simp only [e1, e2]
 rw [cond_true]
 refine bex (fun y => ∃ T' has' ds', y = (l, (i : Int), T', (⟨has', ds'⟩ : Zh)) ∧ Sim T' has' ds' ∧ RT T') ?_ ?_
 ·refine bex (fun y => ∃ n, y = (l, (i : Int), n, T, (⟨has, ds⟩ : Zh))) ?_ ?_
  ·by_cases h0 : (l.length : Int) > 0
   ·have hmod : Int.tmod (i : Int) (l.length : Int) = ((i % l.length : Nat) : Int) := rfl
    have hdiv : Int.tdiv (i : Int) (l.length : Int) = ((i / l.length : Nat) : Int) := rfl
    have hlt := Nat.mod_lt i (show l.length > 0 by omega)
    have hle := Nat.div_le_self i l.length
    have hne : ((l.length : Int) == 0) = false := by
     rw [Bool.eq_false_iff]
     intro hh
     rw [beq_iff_eq] at hh
     omega
    generalize i / l.length = q at hdiv hle
    generalize i % l.length = r at hmod hlt
    rw [ct h0, hne, cond_false, hmod, hdiv, Zhr (by omega) (by omega), cond_true, cond_false, Zhp (n := (q : Int)) (by omega), Zhp (n := 1 + (q : Int)) (by omega)]
    have hn1 : ((1 + (q : Int)) == 0) = false := by
     rw [Bool.eq_false_iff]
     intro hh
     rw [beq_iff_eq] at hh
     omega
    rw [hn1, cond_false]
    exact ⟨_, rfl, _, rfl⟩
   ·rw [cf h0]
    exact ⟨_, rfl, _, rfl⟩
  ·rintro _ ⟨n, rfl⟩
   dsimp only
   simp only [e1, e2]
   refine bexv (Zer k n (by decide) (by decide)) ?_
   cases pick n 23 == 22 with
   | true => exact ⟨_, rfl, T, has, ds, rfl, h, hT⟩
   | false =>
    rw [cond_false]
    have p1 := Zgk (IntKind.wrap .i64 (Int.tdiv n 3)) (m := 30000) (by decide)
    have p2 := Zgk (IntKind.wrap .i64 (Int.tdiv n 3)) (m := 300) (by decide)
    have p3 := Zgk n (m := 3) (by decide)
    refine bexv (Zug hk (by decide) 0) (bexv (Zer k _ (by decide) (by decide)) ?_)
    rw [Zhp (n := 1 + pick (IntKind.wrap .i64 (Int.tdiv n 3)) 30000) (by omega)]
    refine bexv (Zug hk (by omega) 4) (bexv (Zer k _ (by decide) (by decide)) ?_)
    rw [Zhp (n := 1 + pick (IntKind.wrap .i64 (Int.tdiv n 3)) 300) (by omega)]
    refine bexv (Zug hk (by omega) 1) (bexv (Zer k _ (by decide) (by decide)) ?_)
    rw [Zhr (by omega) (by omega), cond_true]
    generalize hd : List.getD [(⟨(DV 1 (cl 0)).Zhd, ((DV 1 (cl 0)).f_C.1, (DV 1 (cl 0)).f_C.2), (DV 1 (cl 0)).Zm⟩ : Za), (⟨(DV (1 + pick (IntKind.wrap .i64 (Int.tdiv n 3)) 30000) (cl 4)).Zhd, ((DV (1 + pick (IntKind.wrap .i64 (Int.tdiv n 3)) 30000) (cl 4)).f_C.1, (DV (1 + pick (IntKind.wrap .i64 (Int.tdiv n 3)) 30000) (cl 4)).f_C.2), (DV (1 + pick (IntKind.wrap .i64 (Int.tdiv n 3)) 30000) (cl 4)).Zm⟩ : Za), (⟨(DV (1 + pick (IntKind.wrap .i64 (Int.tdiv n 3)) 300) (cl 1)).Zhd, ((DV (1 + pick (IntKind.wrap .i64 (Int.tdiv n 3)) 300) (cl 1)).f_C.1, (DV (1 + pick (IntKind.wrap .i64 (Int.tdiv n 3)) 300) (cl 1)).f_C.2), (DV (1 + pick (IntKind.wrap .i64 (Int.tdiv n 3)) 300) (cl 1)).Zm⟩ : Za)] (Int.toNat (pick n 3)) Za.zero = d
    have hdw : W2 d.f_C := by
     rw [← hd]
     generalize Int.toNat (pick n 3) = j
     rcases j with _ | _ | _ | j
     ·exact Zjs (i := 1) (by unfold Sm; decide)
     ·exact Zjs (i := 1 + pick (IntKind.wrap .i64 (Int.tdiv n 3)) 30000) (by unfold Sm; omega)
     ·exact Zjs (i := 1 + pick (IntKind.wrap .i64 (Int.tdiv n 3)) 300) (by unfold Sm; omega)
     ·exact (show W2 ((0 : Int), (0 : Int)) from ⟨⟨by decide, by decide⟩, by decide, by decide⟩)
    obtain ⟨e, T', has', ds', g1, g2, g3, g4⟩ := h.sets2 hk hT (IntKind.wrap .i64 (Int.tdiv (i : Int) 3)) (Int.tmod (i : Int) 3) hdw
    have e3 : pack 36 false has' = has' := Zbr false g3.h1
    have e4 : pack 36 Za.zero ds' = ds' := Zbr _ g3.h2
    refine bexv g1 (bexv g2 ?_)
    dsimp only
    simp only [e3, e4]
    exact ⟨_, rfl, T', has', ds', rfl, g3, g4⟩
 ·rintro _ ⟨T', has', ds', rfl, g3, g4⟩
  have e3 : pack 36 false has' = has' := Zbr false g3.h1
  have e4 : pack 36 Za.zero ds' = ds' := Zbr _ g3.h2
  dsimp only
  simp only [e3, e4, hwr]
  exact ⟨_, rfl, T', has', ds', rfl, g3, g4⟩
theorem rates_eq {k : Nat} (hk : 602 < k) {l : List Int} (hl : l.length ≤ 9223372036854775807) : ∃ T has ds, Zag.f k l = some (⟨T⟩, ⟨has, ds⟩) ∧ Sim T has ds ∧ RT T := by
 obtain ⟨y, h1, T, has, ds, rfl, h2, h3⟩ := Zfz (once := Zag.l4.once k) (fun st => ∃ (i : Nat) (T : List (Zu × Za)) (has : List Bool) (ds : List Za), st = (l, (i : Int), T, (⟨has, ds⟩ : Zh)) ∧ i ≤ 9 ∧ Sim T has ds ∧ RT T) (fun st => 9 - st.2.1.toNat)
  (fun r => ∃ (T : List (Zu × Za)) (has : List Bool) (ds : List Za), r = (T, (⟨has, ds⟩ : Zh)) ∧ Sim T has ds ∧ RT T) (by
  rintro _ ⟨i, T, has, ds, rfl, hi, h, hT⟩
  by_cases hc : i < 9
  ·left
   obtain ⟨r, h1, T', has', ds', rfl, g1, g2⟩ := Yyu hk hl hc h hT
   exact ⟨_, h1, ⟨i + 1, T', has', ds', rfl, by omega, g1, g2⟩, by dsimp only; omega⟩
  ·right
   have e1 : pack 36 false has = has := Zbr false h.h1
   have e2 : pack 36 Za.zero ds = ds := Zbr _ h.h2
   refine ⟨(T, ⟨has, ds⟩), ?_, T, has, ds, rfl, h, hT⟩
   unfold Zag.l4.once
   dsimp only
   simp only [e1, e2]
   rw [cf (by omega), Z0]
   dsimp only
   rw [cond_false, e1, e2]) k (l, 0, [], ⟨List.replicate 36 false, List.replicate 36 Za.zero⟩) ⟨0, [], _, _, rfl, by omega, sim_nil, fun p hp => (List.not_mem_nil hp).elim⟩ (by show 9 - 0 < k; omega)
 refine ⟨T, has, ds, ?_, h2, h3⟩
 have e1 : pack 36 false has = has := Zbr false h2.h1
 have e2 : pack 36 Za.zero ds = ds := Zbr _ h2.h2
 unfold Zag.f
 refine bof (v := ⟨[]⟩) rfl (bof (v := (T, ⟨has, ds⟩)) h1 ?_)
 dsimp only
 rw [e1, e2]
theorem Yzt {k : Nat} (hk : 1002 < k) {w : List (KZ × Int)} (hr : Ris w) (hm : SmL w) (hl : w.length ≤ 1000) (p a b c : Int) {has : List Bool} {ds : List Za} (h1 : has.length = 36) (h2 : ds.length = 36) (T : List (Zu × Za)) :
  iter (Zaa.l14.once k) k (p, a, b, c, w.map (ckz 2), (w.length : Int), 0, T, ⟨has, ds⟩, w.map (mkz 2)) = some (.inl (p, a, b, c, T, ⟨has, ds⟩)) := by
 have e1 : pack 36 false has = has := Zbr false h1
 have e2 : pack 36 Za.zero ds = ds := Zbr _ h2
 have hM : MZ 2 (w.map (mkz 2)) w := ⟨.refl _, hr, hm⟩
 refine Zok (once := Zaa.l14.once k) (fun i => (p, a, b, c, w.map (ckz 2), (w.length : Int), (i : Int), T, ⟨has, ds⟩, w.map (mkz 2))) w.length (fun i hi => ?_) _ ?_ k 0 (Nat.zero_le _) (by omega)
 ·have hx := Yfu hi
  have hwr := Zhp (show -9223372036854775808 ≤ (i : Int) + 1 ∧ (i : Int) + 1 < 9223372036854775808 by omega)
  have hgd := getD_map (ckz 2) ((0, 0), 0) Zc.zero hi
  have hg := hM.get (w.getD i ((0, 0), 0)).1
  rw [Ysk hM.ris _ hx] at hg
  unfold Zaa.l14.once
  dsimp only
  simp only [e1, e2]
  rw [ct (show (i : Int) < (w.length : Int) by omega), Zhr (by omega) (by rw [List.length_map]; omega), cond_true, Int.toNat_natCast]
  simp only [hgd]
  generalize w.getD i ((0, 0), 0) = x at hg ⊢
  have hg' : Zii (Zcu ((ckz 2 x).f_K.1, (ckz 2 x).f_K.2)) (w.map (mkz 2)) = some (DV x.2 2) := hg
  rw [hg', Z0, Z0]
  refine bof (v := (p, a, b, c, w.map (ckz 2), (w.length : Int), (i : Int), false, T, ⟨has, ds⟩, w.map (mkz 2))) ?_ ?_
  ·rw [Option.isSome_some, Bool.not_true, cond_false]
   have q1 : (Option.getD (some (DV x.2 2)) (⟨false, (0, 0), 0⟩ : Za)) = (ckz 2 x).f_D := rfl
   rw [q1, beq_self_eq_true, beq_self_eq_true, beq_self_eq_true, beq_self_eq_true]
   rfl
  ·dsimp only
   rw [cond_false, hwr, e1, e2]
   rfl
 ·unfold Zaa.l14.once
  dsimp only
  rw [cf (by omega), e1, e2]
theorem i64_bd {n : Int} (h : (Lit.int .i64 n).wf = true) : -9223372036854775808 ≤ n ∧ n < 9223372036854775808 := by
 have := h
 simp [Lit.wf, IntKind.min, IntKind.max, IntKind.signed, IntKind.bits] at this
 omega
theorem TransTells (l : List Zw) (w0 : (l.length ≤ 9223372036854775807 ∧ l.length * 80 ≤ 140737488351232 ∧ ∀ z ∈ l, ((Lit.int .i64 z.Zgn).wf = true) ∧ ((Lit.int .i64 z.f_Who).wf = true) ∧ ((Lit.int .i64 z.f_A).wf = true) ∧ ((Lit.int .i64 z.f_B).wf = true) ∧ ((Lit.int .i64 z.f_C).wf = true) ∧ ((Lit.int .i64 z.f_N).wf = true) ∧ ((Lit.int .i64 z.Ysr).wf = true) ∧ ((z.f_L.length ≤ 9223372036854775807 ∧ z.f_L.length * 8 ≤ 140737488351232 ∧ ∀ z1 ∈ z.f_L, (Lit.int .i64 z1).wf = true)) ∧ True))
  (a1 : Int) (w1 : (Lit.int .i64 a1).wf = true) (a2 : Int) (w2 : (Lit.int .i64 a2).wf = true) (l3 : List Int) (w3 : (l3.length ≤ 9223372036854775807 ∧ l3.length * 8 ≤ 140737488351232 ∧ ∀ z ∈ l3, (Lit.int .i64 z).wf = true))
  (a4 : Int) (w4 : (Lit.int .i64 a4).wf = true) (a5 : Int) (w5 : (Lit.int .i64 a5).wf = true) (a6 : Int) (w6 : (Lit.int .i64 a6).wf = true) :
  ∃ k, Zaa.f k l a1 a2 l3 a4 a5 a6 = some true := by
 have hw : ∀ z ∈ l, ActL z := fun z hz => by
  obtain ⟨_, _, _, _, _, _, _, g8, _⟩ := w0.2.2 z hz
  exact g8.1
 refine ⟨2000, ?_⟩
 have hk : 1002 < 2000 := by decide
 have bs := Zgk a1 (m := 5) (by decide)
 have bp := Zgk a2 (m := 5) (by decide)
 unfold Zaa.f
 refine bof (Zer 2000 a1 (by decide) (by decide)) ?_
 obtain ⟨s, hsc⟩ : ∃ s : Nat, pick a1 5 = (s : Int) := ⟨(pick a1 5).toNat, by omega⟩
 rw [hsc] at bs ⊢
 have hs : s ≤ 4 := by omega
 have hB := bkN_inv hk hs hw
 have hE := bkN_E 2000 s l
 obtain ⟨T, has, ds, hr, hS, hT⟩ := rates_eq (k := 2000) (by decide) w3.1
 refine bof (books_eq hk hs hw) (bof hr (bof (Zer 2000 a2 (by decide) (by decide)) ?_))
 dsimp only
 generalize bkN 2000 s l = b at hB hE ⊢
 have e1 := pk hB.T
 have e2 : (⟨pack 12 false (rof b).f_T.Zl, pack 12 0 (rof b).f_T.Zj⟩ : Zf) = (rof b).f_T := pkR hB.T.1 hB.T.2
 have e3 : pack 36 false has = has := Zbr false hS.h1
 have e4 : pack 36 Za.zero ds = ds := Zbr _ hS.h2
 simp only [e1, e2, e3, e4]
 rw [Zhp (show -9223372036854775808 ≤ pick a2 5 - 1 ∧ pick a2 5 - 1 < 9223372036854775808 by omega)]
 generalize pick a2 5 - 1 = p
 refine bof (v := (p, a4, a5, a6, false, b.Zbk, b.f_l, b.f_t, (rof b).Zm, (rof b).f_L, (rof b).f_T, T, ⟨has, ds⟩)) (bof known17 rfl) ?_
 dsimp only
 simp only [e1, e2, e3, e4]
 rw [cond_false]
 generalize (if (if 2 < p then 2 else p) > 0 then (if 2 < p then 2 else p) else 0) = at_
 obtain ⟨M, e, hTr, hT2⟩ := Trial_eq hk hs hB at_
 have hTr' : Zbl.f 2000 (⟨b.Zbk, b.f_l, b.f_t⟩ : Zk) at_ = some (M, e, b) := hTr
 have hR := RTrial_eq hk hs hB hE at_
 have hR' : Zo.f 2000 (⟨(rof b).Zm, (rof b).f_L, (rof b).f_T⟩ : Zt) at_ = _ := hR
 obtain ⟨z, hz, hzl, hR2⟩ : ∃ z, MZ s M z ∧ z.length ≤ 1000 ∧ Zo.f 2000 (⟨(rof b).Zm, (rof b).f_L, (rof b).f_T⟩ : Zt) at_ = some (z.map (ckz s), e, rof b) := by
  by_cases hp0 : at_ < 0 ∨ at_ ≥ 12
  ·rw [if_pos hp0] at hT2 hR'
   obtain ⟨rfl, rfl⟩ := hT2
   exact ⟨[], MZ.nil s, Nat.zero_le _, hR'⟩
  ·rw [if_neg hp0] at hT2 hR'
   cases hq : Ygm at_ b.f_t b.f_l [] with
   | some y =>
    rw [hq] at hT2 hR'
    obtain ⟨rfl, hM⟩ := hT2
    obtain ⟨_, _, g3⟩ := Ycq hB.ls List.Pairwise.nil (fun p hp => (List.not_mem_nil hp).elim) hq
    have hlen := hB.len
    have hso : (Zjv y).length ≤ y.length := List.length_filter_le _ _
    exact ⟨Zjv y, hM, by simp at g3; omega, hR'⟩
   | none =>
    rw [hq] at hT2 hR'
    obtain ⟨rfl, rfl⟩ := hT2
    exact ⟨[], MZ.nil s, Nat.zero_le _, hR'⟩
 refine bof hTr' (bof hR2 ?_)
 dsimp only
 have q1 := Trans_eq hk hs hz hzl hT p
 have q2 := RTrans_eq hk hs hz.sm hzl hS hT p
 obtain ⟨w, D, E, g1, g2, g3, g4, g5⟩ : ∃ (w : List (KZ × Int)) (D : Za) (E : Int), Zcx.f 2000 M ⟨T⟩ p = some (w.map (mkz 2), D, E, M, ⟨T⟩) ∧ Zq.f 2000 (z.map (ckz s)) ⟨has, ds⟩ p = some (w.map (ckz 2), D, E, ⟨has, ds⟩) ∧ Ris w ∧ SmL w ∧ w.length ≤ 1000 := by
  have nil : Ris [] ∧ SmL [] ∧ ([] : List (KZ × Int)).length ≤ 1000 := ⟨List.Pairwise.nil, fun p hp => (List.not_mem_nil hp).elim, Nat.zero_le _⟩
  cases hd : rt3 T p with
  | none =>
   rw [hd] at q1 q2
   exact ⟨[], _, _, q1, q2, nil⟩
  | some d =>
   rw [hd] at q1 q2
   dsimp only at q1 q2
   cases hq : trZ s (fun j => [d.1, d.2.1, d.2.2].getD j Za.zero) z 0 with
   | none =>
    rw [hq] at q1 q2
    exact ⟨[], _, _, q1, q2, nil⟩
   | some q =>
    rw [hq] at q1 q2
    obtain ⟨f1, f2, f3⟩ := Yas Sm0 hq
    have hlen : q.1.length = z.length := by
     have := congrArg List.length f1
     simpa using this
    have hso : (Zjv q.1).length ≤ q.1.length := List.length_filter_le _ _
    exact ⟨Zjv q.1, _, _, q1, q2, Yoy (ris_keys f1 hz.ris), Yuc f2, by omega⟩
 refine bof g1 (bof g2 ?_)
 dsimp only
 simp only [e3, e4]
 refine bof (v := (p, a4, a5, a6, w.map (ckz 2), false, T, ⟨has, ds⟩, w.map (mkz 2))) ?_ ?_
 ·rw [bne_self_eq_false, cond_false, beq_self_eq_true, beq_self_eq_true, beq_self_eq_true, beq_self_eq_true, List.length_map, List.length_map, bne_self_eq_false]
  rfl
 dsimp only
 simp only [e3, e4]
 rw [cond_false, List.length_map]
 refine bof (Yzt hk g3 g4 g5 p a4 a5 a6 hS.h1 hS.h2 T) ?_
 dsimp only
 simp only [e3, e4]
 obtain ⟨a, ha, haw⟩ := HDec_ok (k := 2000) (by decide) (n := a4) (s := a5) (b := a6) (i64_bd w4)
 refine bof ha ?_
 obtain ⟨F, G, f1, f2⟩ := TFlow_eq hk hS hT haw p
 refine bof f1 (bof f2 ?_)
 dsimp only
 rw [beq_self_eq_true, beq_self_eq_true, beq_self_eq_true, beq_self_eq_true, beq_self_eq_true]
 rfl
end Go.Proofs.YtbchcjlllddlpaaGreat.Pure
