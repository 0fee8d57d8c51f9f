/- Plain laws: Rx, Bk, Tz, Tp, Td, Te, Tf, Tg, Tn, To, Ti, Tj, Tv, Tw, Xa, Xb, An, Rn, PureTransEven. No conditions but size. -/
import Derived.Test.YtbchcjlllddlpaaGreatPMA
import Derived.Test.YtbchcjlllddlpaaGreatFs
namespace Go.Proofs.YtbchcjlllddlpaaGreat.Pure
set_option linter.unusedVariables false
set_option linter.unusedSimpArgs false
open Go Go.Ev Go.Lm Go.Pu Go.Dg
theorem Zry (a b : Zm) : Zam a b = true ↔ a = b := by
 cases a
 cases b
 unfold Zam
 simp
theorem Yeu {α β : Type} {K : α → α → Bool} (hK : ∀ a b, K a b = true ↔ a = b) (k k' : α) (v : β) [Decidable (k' = k)] : ∀ l : List (α × β), Zhz (K k') (Zke (K k) k v l) = if k' = k then some v else Zhz (K k') l
 | [] => by
  simp only [Zke, Zhz]
  by_cases h : k' = k
  ·rw [if_pos h, (hK k' k).2 h]; rfl
  ·rw [if_neg h, Bool.eq_false_iff.2 (fun e => h ((hK _ _).1 e))]; rfl
 | p :: r => by
  simp only [Zke]
  cases hp : K k p.1 with
  | true =>
   have e := (hK _ _).1 hp
   simp only [cond_true, Zhz]
   by_cases h : k' = k
   ·rw [if_pos h, (hK k' p.1).2 (h.trans e)]; rfl
   ·rw [if_neg h, Bool.eq_false_iff.2 (fun e' => h (((hK _ _).1 e').trans e.symm))]; rfl
  | false =>
   simp only [cond_false, Zhz]
   rw [Yeu hK k k' v r]
   by_cases h : k' = k
   ·have : K k' p.1 = false := by rw [h]; exact hp
    rw [this, if_pos h, if_pos h]; rfl
   ·rw [if_neg h, if_neg h]
def placed (q : Zm) : Bool := decide ((0 ≤ q.Zbj ∧ q.Zbj < 12) ∧ (0 ≤ q.Zft ∧ q.Zft < 3))
def Zvm (v : Int) (s : Nat) : Bool := decide (0 < v) && (decide (s ≤ 6) && decide (v < 1000000 * 10 ^ s))
theorem Yjp (v : Int) : sgn v ≤ 0 ↔ v ≤ 0 := by unfold sgn; split <;> (try split) <;> omega
theorem sgn_ge (v : Int) : sgn v ≥ 0 ↔ v ≥ 0 := by unfold sgn; split <;> (try split) <;> omega
theorem Set_DV {k : Nat} (hk : 60 < k) (T : List (Zm × Za)) (q : Zm) {v : Int} {s : Nat} (hv : Sm v) (hs : s ≤ 9) :
  Zbu.f k ⟨T⟩ q (DV v s) = some (cond (placed q && Zvm v s) (0, ⟨Zke (Zam q) q (DV v s) T⟩) (1, ⟨T⟩)) := by
 unfold Zbu.f
 refine bof (v := (placed q, T, q.Zbj, q.Zft, (DV v s).Zgw, (DV v s).f_C.1, (DV v s).f_C.2, (DV v s).Zj)) ?_ ?_
 ·by_cases h1 : q.Zbj ≥ 0
  ·rw [ct h1]
   by_cases h2 : q.Zbj < 12
   ·rw [ct h2]
    by_cases h3 : q.Zft ≥ 0
    ·rw [ct h3]
     have : placed q = decide (q.Zft < 3) := by
      unfold placed
      by_cases h4 : q.Zft < 3
      ·rw [decide_eq_true h4, decide_eq_true ⟨⟨h1, h2⟩, h3, h4⟩]
      ·rw [decide_eq_false h4, decide_eq_false (fun h => h4 h.2.2)]
     rw [this]
    ·rw [cf h3, show placed q = false from decide_eq_false (fun h => h3 h.2.1)]
   ·rw [cf h2, show placed q = false from decide_eq_false (fun h => h2 h.1.2)]
  ·rw [cf h1, show placed q = false from decide_eq_false (fun h => h1 h.1.1)]
 refine bof (v := (!(placed q && Zvm v s), T, q.Zbj, q.Zft, (DV v s).Zgw, (DV v s).f_C.1, (DV v s).f_C.2, (DV v s).Zj)) ?_ ?_
 ·dsimp only
  cases hp : placed q with
  | false => rfl
  | true =>
   simp only [Bool.not_true, cond_false, Bool.true_and]
   refine bof (v := sgn v) (Zgo hk hv hs) ?_
   by_cases h1 : sgn v ≤ 0
   ·have : Zvm v s = false := by unfold Zvm; rw [decide_eq_false (by have := (Yjp v).1 h1; omega)]; rfl
    rw [ct h1, this]
    rfl
   ·have h1' : 0 < v := by
     have h3 : ¬ v ≤ 0 := fun h => h1 ((Yjp v).2 h)
     omega
    rw [cf h1]
    by_cases h2 : (DV v s).Zj > 6
    ·have h2' : (6 : Int) < (s : Int) := h2
     have : Zvm v s = false := by unfold Zvm; rw [decide_eq_true h1', decide_eq_false (show ¬ s ≤ 6 by omega)]; rfl
     rw [ct h2, this]
     rfl
    ·have h2' : ¬ (6 : Int) < (s : Int) := h2
     rw [cf h2]
     refine bof (v := DV 1000000 0) (Of_DV k (by decide) 0) ?_
     refine bof (v := sgn (v * 10 ^ (max s 0 - s) - 1000000 * 10 ^ (max s 0 - 0))) (Cmp_DV (j := 1000000) (t := 0) hk hv (by unfold Sm; decide) hs (by decide)) ?_
     rw [show max s 0 = s by omega, Nat.sub_self, Nat.sub_zero, Int.pow_zero, Int.mul_one]
     have : (!Zvm v s) = decide (sgn (v - 1000000 * 10 ^ s) ≥ 0) := by
      unfold Zvm
      rw [decide_eq_true h1', decide_eq_true (show s ≤ 6 by omega), Bool.true_and, Bool.true_and]
      by_cases h3 : v < 1000000 * 10 ^ s
      ·rw [decide_eq_true h3, decide_eq_false (fun h => by have := (sgn_ge _).1 h; omega)]; rfl
      ·rw [decide_eq_false h3, decide_eq_true ((sgn_ge _).2 (by omega))]; rfl
     rw [this]
 ·dsimp only
  cases placed q && Zvm v s with
  | false => rfl
  | true => rfl
def got (T : List (Zm × Za)) : Option Za → Za × Int × Zar
 | some d => (d, 0, ⟨T⟩)
 | none => (nil0, 11, ⟨T⟩)
theorem Get_eq (k : Nat) (T : List (Zm × Za)) (q : Zm) : Zdl.f k ⟨T⟩ q = some (got T (Zhz (Zam q) T)) := by
 unfold Zdl.f
 show (some (Zhz (Zam q) T)).bind _ = _
 rw [Z0]
 cases Zhz (Zam q) T <;> rfl
theorem get_same (T : List (Zm × Za)) (q : Zm) (d : Za) : Zhz (Zam q) (Zke (Zam q) q d T) = some d := by
 rw [@Yeu _ _ _ Zry q q d (Classical.propDecidable _) T, if_pos rfl]
theorem get_other (T : List (Zm × Za)) {q q' : Zm} (h : q' ≠ q) (d : Za) : Zhz (Zam q') (Zke (Zam q) q d T) = Zhz (Zam q') T := by
 rw [@Yeu _ _ _ Zry q q' d (Classical.propDecidable _) T, if_neg h]
theorem Zwx {α β : Type} {K : α → α → Bool} (hK : ∀ a b, K a b = true ↔ a = b) (k : α) : ∀ l : List (α × β), (Zhz (K k) l).isSome = true ↔ k ∈ l.map (·.1)
 | [] => by simp [Zhz]
 | p :: r => by
  simp only [Zhz, List.map_cons, List.mem_cons]
  cases h : K k p.1 with
  | true => simp [(hK _ _).1 h]
  | false =>
   have hn : k ≠ p.1 := fun e => by rw [(hK _ _).2 e] at h; cases h
   rw [cond_false, Zwx hK k r]
   simp [hn]
theorem Ypq {α β : Type} {K : α → α → Bool} (hK : ∀ a b, K a b = true ↔ a = b) (k : α) (v : β) : ∀ l : List (α × β), (Zke (K k) k v l).map (·.1) = cond (Zhz (K k) l).isSome (l.map (·.1)) (l.map (·.1) ++ [k])
 | [] => by simp [Zke, Zhz]
 | p :: r => by
  simp only [Zke, Zhz]
  cases h : K k p.1 with
  | true => rfl
  | false =>
   simp only [cond_false, List.map_cons]
   rw [Ypq hK k v r]
   cases (Zhz (K k) r).isSome <;> rfl
def idx (q : Zm) : Nat := q.Zbj.toNat * 3 + q.Zft.toNat
theorem Zwu {q : Zm} (h : placed q = true) : (0 ≤ q.Zbj ∧ q.Zbj < 12) ∧ (0 ≤ q.Zft ∧ q.Zft < 3) := of_decide_eq_true h
theorem Ytb {q : Zm} (h : placed q = true) : idx q < 36 := by
 have := Zwu h
 unfold idx
 omega
theorem idx_inj {q q' : Zm} (h : placed q = true) (h' : placed q' = true) (e : idx q = idx q') : q = q' := by
 have a := Zwu h
 have b := Zwu h'
 unfold idx at e
 cases q
 cases q'
 simp only [Zm.mk.injEq] at *
 omega
theorem sgn_1 {v : Int} (h : 0 < v) : sgn v = 1 := by
 unfold sgn
 rw [if_neg (by omega), if_neg (by omega)]
theorem RCmp_DV {k : Nat} (hk : 602 < k) {i : Int} {s : Nat} (hi : Sm i) (hs : s ≤ 9) (h0 : 0 < i) : ∃ c, Zeq.f k (DV i s) (DV 1000000 0) = some c ∧ (c ≥ 0 ↔ ¬ i < 1000000 * 10 ^ s) := by
 have hm : Sm 1000000 := by unfold Sm; decide
 have r1 : Zav.f k (DV i s) = some true := (Zmo hk (d := DV i s) (Zjg hi)).trans (Zgj (by omega) hi hs)
 have r2 : Zav.f k (DV 1000000 0) = some true := (Zmo hk (d := DV 1000000 0) (Zjg hm)).trans (Zgj (by omega) hm (by decide))
 have s1 : Zbn.f k (DV i s) = some (sgn i) := (Zqn hk (d := DV i s) (Zjg hi)).trans (Zgo (by omega) hi hs)
 have s2 : Zbn.f k (DV 1000000 0) = some (sgn 1000000) := (Zqn hk (d := DV 1000000 0) (Zjg hm)).trans (Zgo (by omega) hm (by decide))
 rw [sgn_1 h0] at s1
 have x1 : Zbz.f k (DV i s) (s : Int) = some (dig (i.natAbs * 10 ^ (s - s))) := digits_eq hk _ (by unfold Sm at hi; omega) (Nat.le_refl _) (by omega)
 have y1 : Zbz.f k (DV 1000000 0) (s : Int) = some (dig (1000000 * 10 ^ (s - 0))) := digits_eq hk _ (by decide) (Nat.zero_le _) (by omega)
 rw [Nat.sub_self, Nat.pow_zero, Nat.mul_one] at x1
 rw [Nat.sub_zero] at y1
 have p1 := ten9 hs
 have c1 := Zsz (k := k) (by omega) (a := i.natAbs) (b := 1000000 * 10 ^ s) (by unfold Sm at hi; omega) (by omega)
 have hmx : (if (0 : Int) > (s : Int) then (0 : Int) else (s : Int)) = (s : Int) := if_neg (by omega)
 have hl : (i.natAbs < 1000000 * 10 ^ s) ↔ i < 1000000 * 10 ^ s := by
  rw [show (1000000 : Int) * 10 ^ s = ((1000000 * 10 ^ s : Nat) : Int) by rw [Int.natCast_mul, Int.natCast_pow]; rfl]
  omega
 refine ⟨if i.natAbs < 1000000 * 10 ^ s then -1 else if i.natAbs = 1000000 * 10 ^ s then 0 else 1, ?_, ?_⟩
 ·unfold Zeq.f
  refine bof (v := (false, (DV i s).Zgw, (DV i s).f_C.1, (DV i s).f_C.2, (DV i s).Zj, (DV 1000000 0).Zgw, (DV 1000000 0).f_C.1, (DV 1000000 0).f_C.2, (DV 1000000 0).Zj)) ?_ ?_
  ·exact bof r1 (bof r2 rfl)
  ·dsimp only
   rw [cond_false]
   refine bof s1 (bof s2 ?_)
   rw [show ((1 : Int) != sgn 1000000) = false from rfl, cond_false]
   rw [show (if (DV 1000000 0).Zj > (DV i s).Zj then (DV 1000000 0).Zj else (DV i s).Zj) = (s : Int) from hmx]
   refine bof x1 (bof y1 (bof c1 ?_))
   rw [Zhh (by split <;> (try split) <;> omega), Int.one_mul]
 ·rw [← hl]
  split
  ·simp_all
  ·split <;> simp_all
def okR (d : Za) : Bool := dOk d && Zvm (val d) d.Zj.toNat
theorem Set_eq {k : Nat} (hk : 60 < k) (T : List (Zm × Za)) (q : Zm) {d : Za} (hw : W2 d.f_C) :
  Zbu.f k ⟨T⟩ q d = some (cond (placed q && okR d) (0, ⟨Zke (Zam q) q d T⟩) (1, ⟨T⟩)) := by
 unfold okR
 cases h : dOk d with
 | true =>
  obtain ⟨e, h1, h2, _⟩ := Ymy hw h
  have := Set_DV hk T q h1 h2
  rw [← e] at this
  exact this
 | false =>
  rw [Bool.false_and, Bool.and_false, cond_false]
  unfold Zbu.f
  refine bof (v := (placed q, T, q.Zbj, q.Zft, d.Zgw, d.f_C.1, d.f_C.2, d.Zj)) ?_ ?_
  ·by_cases h1 : q.Zbj ≥ 0
   ·rw [ct h1]
    by_cases h2 : q.Zbj < 12
    ·rw [ct h2]
     by_cases h3 : q.Zft ≥ 0
     ·rw [ct h3]
      have : placed q = decide (q.Zft < 3) := by
       unfold placed
       by_cases h4 : q.Zft < 3
       ·rw [decide_eq_true h4, decide_eq_true ⟨⟨h1, h2⟩, h3, h4⟩]
       ·rw [decide_eq_false h4, decide_eq_false (fun h => h4 h.2.2)]
      rw [this]
     ·rw [cf h3, show placed q = false from decide_eq_false (fun h => h3 h.2.1)]
    ·rw [cf h2, show placed q = false from decide_eq_false (fun h => h2 h.1.2)]
   ·rw [cf h1, show placed q = false from decide_eq_false (fun h => h1 h.1.1)]
  ·refine bof (v := (true, T, q.Zbj, q.Zft, d.Zgw, d.f_C.1, d.f_C.2, d.Zj)) ?_ rfl
   dsimp only
   cases placed q with
   | false => rfl
   | true =>
    have hz := Ydr hk hw
    rw [h, if_neg (by decide)] at hz
    simp only [Bool.not_true, cond_false]
    refine bof hz ?_
    rfl
theorem puts_eq (i : Nat) (v : Za) : ∀ (l : List Za) (j : Nat), Zgg i v j l = if j ≤ i then l.set (i - j) v else l
 | [], j => by
  unfold Zgg
  split <;> simp
 | y :: r, j => by
  unfold Zgg
  rw [puts_eq i v r (j + 1)]
  by_cases h : i = j
  ·subst h
   rw [Nat.beq_refl, if_neg (by omega), if_pos (Nat.le_refl _), Nat.sub_self, List.set_cons_zero]
   rfl
  ·have hb : Nat.beq i j = false := by
    cases hb : Nat.beq i j with
    | false => rfl
    | true => exact absurd (Z2 hb) h
   rw [hb]
   by_cases h' : j ≤ i
   ·rw [if_pos (by omega), if_pos h', show i - j = (i - (j + 1)) + 1 by omega, List.set_cons_succ]
    rfl
   ·rw [if_neg (by omega), if_neg h']
    rfl
theorem puts_set (i : Nat) (v : Za) (l : List Za) : Zgg i v 0 l = l.set i v := by
 rw [puts_eq, if_pos (Nat.zero_le _), Nat.sub_zero]
theorem isR_eq (k : Nat) (p : Int) : Zdh.f k p = some (decide (0 ≤ p ∧ p < 12)) := by
 unfold Zdh.f
 by_cases h : p ≥ 0
 ·rw [ct h]
  by_cases h2 : p < 12
  ·rw [decide_eq_true h2, decide_eq_true ⟨h, h2⟩]
  ·rw [decide_eq_false h2, decide_eq_false (fun h => h2 h.2)]
 ·rw [cf h, decide_eq_false (fun h' => h h'.1)]
theorem Waj {k : Nat} (hk : 602 < k) {has : List Bool} {ds : List Za} (h1 : has.length = 36) (h2 : ds.length = 36) (p kd : Int) {d : Za} (hw : W2 d.f_C) :
  Zbx.f k ⟨has, ds⟩ p kd d = some (cond (placed ⟨p, kd⟩ && okR d) (0, ⟨has.set (idx ⟨p, kd⟩) true, ds.set (idx ⟨p, kd⟩) d⟩) (1, ⟨has, ds⟩)) := by
 have e1 : pack 36 false has = has := Zca false h1
 have e2 : pack 36 Za.zero ds = ds := Zca _ h2
 unfold Zbx.f
 simp only [e1, e2]
 refine bof (v := (p, kd, !(placed ⟨p, kd⟩ && okR d), ⟨has, ds⟩, d.Zgw, d.f_C.1, d.f_C.2, d.Zj)) ?_ ?_
 ·refine bof (isR_eq k p) ?_
  by_cases g1 : 0 ≤ p ∧ p < 12
  ·rw [decide_eq_true g1, Bool.not_true, cond_false]
   by_cases g2 : kd < 0
   ·rw [ct g2, show placed ⟨p, kd⟩ = false from decide_eq_false (fun h => by have := h.2.1; dsimp only at this; omega)]
    rfl
   ·rw [cf g2]
    by_cases g3 : kd > 2
    ·rw [ct g3, show placed ⟨p, kd⟩ = false from decide_eq_false (fun h => by have := h.2.2; dsimp only at this; omega)]
     rfl
    ·rw [cf g3, show placed ⟨p, kd⟩ = true from decide_eq_true ⟨g1, by dsimp only; omega⟩, Bool.true_and]
     unfold okR
     refine bof ((Zmo hk hw).trans (Zkv (by omega) hw)) ?_
     cases h : dOk d with
     | false => rfl
     | true =>
      obtain ⟨e, q1, q2, q3⟩ := Ymy hw h
      rw [Bool.not_true, cond_false, Bool.true_and]
      have hs := (Zqn hk hw).trans (Ydr (by omega) hw)
      rw [h, if_pos rfl] at hs
      refine bof hs ?_
      unfold Zvm
      by_cases g4 : sgn (val d) ≤ 0
      ·rw [ct g4, decide_eq_false (show ¬ 0 < val d by have := (Yjp _).1 g4; omega)]
       rfl
      ·have g4' : 0 < val d := by
        have : ¬ val d ≤ 0 := fun h => g4 ((Yjp _).2 h)
        omega
       rw [cf g4, decide_eq_true g4', Bool.true_and]
       by_cases g5 : d.Zj > 6
       ·rw [ct g5, decide_eq_false (show ¬ d.Zj.toNat ≤ 6 by omega)]
        rfl
       ·rw [cf g5, decide_eq_true (show d.Zj.toNat ≤ 6 by omega), Bool.true_and]
        refine bof (Zrk (n := 1000000) hk (by decide) 0) ?_
        obtain ⟨c, hc, hc2⟩ := RCmp_DV hk q1 q2 g4'
        rw [← e] at hc
        refine bof hc ?_
        have : decide (c ≥ 0) = !decide (val d < 1000000 * 10 ^ d.Zj.toNat) := by
         by_cases g6 : val d < 1000000 * 10 ^ d.Zj.toNat
         ·rw [decide_eq_true g6, decide_eq_false (fun h => hc2.1 h g6)]; rfl
         ·rw [decide_eq_false g6, decide_eq_true (hc2.2 g6)]; rfl
        rw [this]
  ·rw [decide_eq_false g1, show placed ⟨p, kd⟩ = false from decide_eq_false (fun h => g1 h.1)]
   rfl
 ·dsimp only
  simp only [e1, e2]
  cases hb : placed ⟨p, kd⟩ && okR d with
  | false => rfl
  | true =>
   rw [Bool.and_eq_true] at hb
   have bd := Zwu hb.1
   have hlt : p.toNat * 3 + kd.toNat < 36 := Ytb hb.1
   dsimp only at bd
   rw [Bool.not_true, cond_false, Zhk bd.1.1 (by omega), Zhk bd.2.1 (by omega), cond_true, cond_true, Zja hlt, cond_true, cond_true, cond_true, cond_true, Zgh, puts_set]
   rfl
noncomputable def gotR (has : List Bool) (ds : List Za) (q : Zm) : Za × Int × Zaa :=
 cond (placed q && has.getD (idx q) false) (ds.getD (idx q) Za.zero, 0, ⟨has, ds⟩) (nil0, 11, ⟨has, ds⟩)
structure Sim (T : List (Zm × Za)) (has : List Bool) (ds : List Za) : Prop where
 h1 : has.length = 36
 h2 : ds.length = 36
 pl : ∀ q ∈ T.map (·.1), placed q = true
 nd : (T.map (·.1)).Nodup
 on : ∀ q, placed q = true → Zhz (Zam q) T = cond (has.getD (idx q) false) (some (ds.getD (idx q) Za.zero)) none
theorem sim_nil : Sim [] (List.replicate 36 false) (List.replicate 36 Za.zero) := by
 refine ⟨rfl, rfl, fun q h => (List.not_mem_nil h).elim, List.nodup_nil, fun q hq => ?_⟩
 have := Ytb hq
 rw [List.getD_eq_getElem?_getD, List.getElem?_replicate, if_pos this]
 rfl
theorem Sim.set {T : List (Zm × Za)} {has : List Bool} {ds : List Za} (h : Sim T has ds) {q : Zm} (hq : placed q = true) (d : Za) : Sim (Zke (Zam q) q d T) (has.set (idx q) true) (ds.set (idx q) d) := by
 have hlt := Ytb hq
 have hmk := Ypq Zry q d T
 have hmem : q ∈ T.map (·.1) ↔ (Zhz (Zam q) T).isSome = true := (Zwx Zry q T).symm
 refine ⟨by rw [List.length_set]; exact h.h1, by rw [List.length_set]; exact h.h2, ?_, ?_, ?_⟩
 ·rw [hmk]
  intro x hx
  cases hs : (Zhz (Zam q) T).isSome with
  | true => rw [hs, cond_true] at hx; exact h.pl x hx
  | false =>
   rw [hs, cond_false, List.mem_append] at hx
   rcases hx with hx | hx
   ·exact h.pl x hx
   ·have : x = q := by simpa using hx
    rw [this]; exact hq
 ·rw [hmk]
  cases hs : (Zhz (Zam q) T).isSome with
  | true => exact h.nd
  | false =>
   rw [cond_false, List.nodup_append]
   exact ⟨h.nd, by simp, fun a ha b hb e => by
    have hb' : b = q := by simpa using hb
    rw [e, hb'] at ha
    rw [hmem.1 ha] at hs
    cases hs⟩
 ·intro x hx
  have hxlt := Ytb hx
  rw [Zpt, Zpt, h.h1, h.h2]
  by_cases e : idx q = idx x
  ·have := idx_inj hq hx e
   subst this
   rw [get_same, if_pos ⟨rfl, hlt⟩, if_pos ⟨rfl, hlt⟩]
   rfl
  ·rw [get_other T (fun h' => e (by rw [h'])), if_neg (fun h' => e h'.1), if_neg (fun h' => e h'.1)]
   exact h.on x hx
theorem Sim.agree {T : List (Zm × Za)} {has : List Bool} {ds : List Za} (h : Sim T has ds) (q : Zm) :
  ∃ D E, got T (Zhz (Zam q) T) = (D, E, ⟨T⟩) ∧ gotR has ds q = (D, E, ⟨has, ds⟩) ∧ ((E == 0) = true ↔ q ∈ T.map (·.1)) := by
 rw [← Zwx Zry q T]
 cases hp : placed q with
 | true =>
  unfold gotR
  rw [h.on q hp, hp, Bool.true_and]
  cases has.getD (idx q) false with
  | true => exact ⟨_, _, rfl, rfl, by simp⟩
  | false => exact ⟨_, _, rfl, rfl, by simp⟩
 | false =>
  have hn : Zhz (Zam q) T = none := by
   cases hm : Zhz (Zam q) T with
   | none => rfl
   | some d =>
    have := h.pl q ((Zwx Zry q T).1 (by rw [hm]; rfl))
    rw [hp] at this
    cases this
  unfold gotR
  rw [hn, hp, Bool.false_and]
  exact ⟨_, _, rfl, rfl, by simp⟩
end Go.Proofs.YtbchcjlllddlpaaGreat.Pure
namespace Go.Proofs.YtbchcjlllddlpaaGreat.Pure
set_option linter.unusedVariables false
set_option linter.unusedSimpArgs false
open Go Go.Ev Go.Lm Go.Pu Go.Dg
noncomputable def Zpl (k : Nat) (s : Nat) (L : List Int) : List Zc := (Zw.f k L (s : Int) 0 4).getD []
theorem Zzo {k : Nat} (hk : 1002 < k) {s : Nat} (hs : s ≤ 4) {L : List Int} (hL : L.length ≤ 9223372036854775807) :
  Zw.f k L (s : Int) 0 4 = some (Zpl k s L) ∧ (Zpl k s L).length ≤ 1000 ∧ ∀ x ∈ Zpl k s L, LnW x := by
 obtain ⟨y, hy, y1, y2⟩ := HLines_ok (k := k) (by omega) L hL (by omega : s ≤ 9) (b := 0) (by decide) (e := 4) (by decide)
 have : Zpl k s L = y := by unfold Zpl; rw [hy]; rfl
 rw [this]
 exact ⟨hy, by omega, y2⟩
noncomputable def Zjs (k : Nat) (s : Nat) (b : Zi) (x : Zr) : Zi :=
 cond (pick x.Zes 8 == 0) (Zjz b (Pe.clo b.f_t.Zo b.f_t.Zk (pick x.f_B 3))).2
  (cond (pick x.Zes 8 == 1) (Ybe s b (pick x.f_N 5) (pick x.f_B 3)).2.2
   (cond (pick x.Zes 8 == 2) (Zjz b (Pe.reo b.f_t.Zo b.f_t.Zk (pick x.f_B 3))).2 (Zqx s b (pick x.f_B 3) (Zpl k s x.f_L)).2.2))
def Yij (z : Zr) : Prop := z.f_L.length ≤ 9223372036854775807
theorem Zqu.step {k : Nat} (hk : 1002 < k) {s : Nat} (hs : s ≤ 4) {b : Zi} (h : Zqu s b) {x : Zr} (hx : Yij x) : Zqu s (Zjs k s b x) := by
 unfold Zjs
 cases pick x.Zes 8 == 0 with
 | true => exact h.turn (Pe.Ytr h.T.1 h.T.2 _)
 | false =>
  rw [cond_false]
  cases pick x.Zes 8 == 1 with
  | true => exact h.rev _ _
  | false =>
   rw [cond_false]
   cases pick x.Zes 8 == 2 with
   | true => exact h.turn (Pe.Ysd h.T.1 h.T.2 _)
   | false => exact h.post _ (Zzo hk hs hx).2.2
theorem Zxd {l : List Zr} {i : Nat} (hi : i < l.length) : l.getD i Zr.zero ∈ l := by
 rw [List.getD_eq_getElem?_getD, Z3 hi]
 exact List.getElem_mem hi
theorem bk_step {k : Nat} (hk : 1002 < k) {l : List Zr} (hw : ∀ z ∈ l, Yij z) {s : Nat} (hs : s ≤ 4) {i : Nat} (hi : i < l.length) (h14 : i < 14) {b : Zi} (h : Zqu s b) (r : Zx) (hr : r.f_T.Zo.length = 12 ∧ r.f_T.Zk.length = 12) (hrs : r.Zj = (s : Int)) :
  Zap.l6.once k (l, (i : Int), b.Zbc, b.f_l, b.f_t, r.Zj, r.f_L, r.f_T) = some (.inl (l, ((i + 1 : Nat) : Int), (Zjs k s b (l.getD i Zr.zero)).Zbc, (Zjs k s b (l.getD i Zr.zero)).f_l, (Zjs k s b (l.getD i Zr.zero)).f_t, r.Zj, r.f_L, r.f_T)) := by
 have e1 := pk h.T
 have e2 : (⟨pack 12 false r.f_T.Zo, pack 12 0 r.f_T.Zk⟩ : Zh) = r.f_T := pkR hr.1 hr.2
 have hx : Yij (l.getD i Zr.zero) := hw _ (Zxd hi)
 have hI := h.step hk hs hx
 have e3 := pk hI.T
 have hwr := Zhh (show -9223372036854775808 ≤ (i : Int) + 1 ∧ (i : Int) + 1 < 9223372036854775808 by omega)
 unfold Zap.l6.once
 dsimp only
 simp only [e1, e2]
 rw [ct (show (i : Int) < (l.length : Int) by omega), Z0]
 dsimp only
 rw [ct (show (i : Int) < 14 by omega), Zhk (by omega) (by omega), cond_true, Int.toNat_natCast]
 generalize l.getD i Zr.zero = x at hx hI e3 ⊢
 refine bof (v := (l, (i : Int), (Zjs k s b x).Zbc, (Zjs k s b x).f_l, (Zjs k s b x).f_t, r.Zj, r.f_L, r.f_T)) ?_ ?_
 ·refine bof (Zeh k x.Zes (by decide) (by decide)) ?_
  have bp := Zfw x.f_B (m := 3) (by decide)
  have bn := Zfw x.f_N (m := 5) (by decide)
  have pB := Zeh k x.f_B (m := 3) (by decide) (by decide)
  have pN := Zeh k x.f_N (m := 5) (by decide) (by decide)
  unfold Zjs at hI e3 ⊢
  cases h0 : pick x.Zes 8 == 0 with
  | true =>
   rw [h0] at hI e3
   simp only [cond_true] at hI e3 ⊢
   refine bof pB (bof (Bclose2 k h.T (by omega)) ?_)
   simp only [e2, e3]
  | false =>
   rw [h0] at hI e3
   simp only [cond_false] at hI e3 ⊢
   cases h1 : pick x.Zes 8 == 1 with
   | true =>
    rw [h1] at hI e3
    simp only [cond_true] at hI e3 ⊢
    refine bof pN (bof pB (bof (Brev_eq (k := k) (by omega) h.T h.len (by omega : s ≤ 9) _ _ h.ls) ?_))
    simp only [e2, e3]
   | false =>
    rw [h1] at hI e3
    simp only [cond_false] at hI e3 ⊢
    cases h2 : pick x.Zes 8 == 2 with
    | true =>
     rw [h2] at hI e3
     simp only [cond_true] at hI e3 ⊢
     refine bof pB (bof (Breopen2 k h.T (by omega)) ?_)
     simp only [e2, e3]
    | false =>
     rw [h2] at hI e3
     simp only [cond_false] at hI e3 ⊢
     obtain ⟨y0, y1, y2⟩ := Zzo hk hs hx
     refine bof pB (bof ((congrArg (fun z => Zw.f k x.f_L z 0 4) hrs).trans y0) (bof (Bpost_eq (k := k) (by omega) h.T h.len (by omega : s ≤ 9) h.sc _ y1 y2) ?_))
     simp only [e2, e3]
 ·dsimp only
  simp only [e2, e3, hwr]
  rfl
theorem rk_step {k : Nat} (hk : 1002 < k) {l : List Zr} (hw : ∀ z ∈ l, Yij z) {s : Nat} (hs : s ≤ 4) {i : Nat} (hi : i < l.length) (h14 : i < 14) {b : Zi} (h : Zqu s b) :
  Zay.l3.once k (l, (i : Int), (rof b).Zj, (rof b).f_L, (rof b).f_T) = some (.inl (l, ((i + 1 : Nat) : Int), (rof (Zjs k s b (l.getD i Zr.zero))).Zj, (rof (Zjs k s b (l.getD i Zr.zero))).f_L, (rof (Zjs k s b (l.getD i Zr.zero))).f_T)) := by
 have e1 : (⟨pack 12 false (rof b).f_T.Zo, pack 12 0 (rof b).f_T.Zk⟩ : Zh) = (rof b).f_T := pkR h.T.1 h.T.2
 have hx : Yij (l.getD i Zr.zero) := hw _ (Zxd hi)
 have hI := h.step hk hs hx
 have e3 : (⟨pack 12 false (rof (Zjs k s b (l.getD i Zr.zero))).f_T.Zo, pack 12 0 (rof (Zjs k s b (l.getD i Zr.zero))).f_T.Zk⟩ : Zh) = (rof (Zjs k s b (l.getD i Zr.zero))).f_T := pkR hI.T.1 hI.T.2
 have hwr := Zhh (show -9223372036854775808 ≤ (i : Int) + 1 ∧ (i : Int) + 1 < 9223372036854775808 by omega)
 unfold Zay.l3.once
 dsimp only
 simp only [e1]
 rw [ct (show (i : Int) < (l.length : Int) by omega), Z0]
 dsimp only
 rw [ct (show (i : Int) < 14 by omega), Zhk (by omega) (by omega), cond_true, Int.toNat_natCast]
 generalize l.getD i Zr.zero = x at hx hI e3 ⊢
 refine bof (v := (l, (i : Int), (rof (Zjs k s b x)).Zj, (rof (Zjs k s b x)).f_L, (rof (Zjs k s b x)).f_T)) ?_ ?_
 ·refine bof (Zeh k x.Zes (by decide) (by decide)) ?_
  have bp := Zfw x.f_B (m := 3) (by decide)
  have bn := Zfw x.f_N (m := 5) (by decide)
  have pB := Zeh k x.f_B (m := 3) (by decide) (by decide)
  have pN := Zeh k x.f_N (m := 5) (by decide) (by decide)
  unfold Zjs at hI e3 ⊢
  cases h0 : pick x.Zes 8 == 0 with
  | true =>
   rw [h0] at hI e3
   simp only [cond_true] at hI e3 ⊢
   refine bof pB (bof (RBclose k h.T (by omega)) ?_)
   simp only [e3]
  | false =>
   rw [h0] at hI e3
   simp only [cond_false] at hI e3 ⊢
   cases h1 : pick x.Zes 8 == 1 with
   | true =>
    rw [h1] at hI e3
    simp only [cond_true] at hI e3 ⊢
    refine bof pN (bof pB (bof (RRev_eq hk h.T h.len (by omega : s ≤ 9) _ _ h.ls) ?_))
    simp only [e3]
   | false =>
    rw [h1] at hI e3
    simp only [cond_false] at hI e3 ⊢
    cases h2 : pick x.Zes 8 == 2 with
    | true =>
     rw [h2] at hI e3
     simp only [cond_true] at hI e3 ⊢
     refine bof pB (bof (RBreopen k h.T (by omega)) ?_)
     simp only [e3]
    | false =>
     rw [h2] at hI e3
     simp only [cond_false] at hI e3 ⊢
     obtain ⟨y0, y1, y2⟩ := Zzo hk hs hx
     refine bof pB (bof ((congrArg (fun z => Zw.f k x.f_L z 0 4) h.sc).trans y0) (bof (RPost_eq hk h.T h.len (by omega : s ≤ 9) h.sc _ y1 y2) ?_))
     simp only [e3]
 ·dsimp only
  simp only [e3, hwr]
  rfl
def b0 (s : Nat) : Zi := ⟨(s : Int), [], ⟨[false, false, false, false, false, false, false, false, false, false, false, false], [0, 0, 0, 0, 0, 0, 0, 0, 0, 0, 0, 0]⟩⟩
theorem b0_inv (s : Nat) : Zqu s (b0 s) := ⟨⟨rfl, rfl⟩, Nat.zero_le _, rfl, fun x hx => (List.not_mem_nil hx).elim⟩
noncomputable def bkR (k s : Nat) (l : List Zr) : Nat → Zi
 | 0 => b0 s
 | i + 1 => Zjs k s (bkR k s l i) (l.getD i Zr.zero)
theorem Yit {k : Nat} (hk : 1002 < k) {s : Nat} (hs : s ≤ 4) {l : List Zr} (hw : ∀ z ∈ l, Yij z) : ∀ i, i ≤ l.length → Zqu s (bkR k s l i)
 | 0, _ => b0_inv s
 | i + 1, hi => (Yit hk hs hw i (by omega)).step hk hs (hw _ (Zxd (by omega)))
noncomputable def bkN (k s : Nat) (l : List Zr) : Zi := bkR k s l (min l.length 14)
theorem bkN_inv {k : Nat} (hk : 1002 < k) {s : Nat} (hs : s ≤ 4) {l : List Zr} (hw : ∀ z ∈ l, Yij z) : Zqu s (bkN k s l) := Yit hk hs hw _ (Nat.min_le_left _ _)
theorem HBook_eq {k : Nat} (hk : 1002 < k) {s : Nat} (hs : s ≤ 4) {l : List Zr} (hw : ∀ z ∈ l, Yij z) : Zay.f k l (s : Int) = some (rof (bkN k s l)) := by
 unfold Zay.f
 refine bof (v := rof (b0 s)) ?_ ?_
 ·unfold Zdv.f Zcx.f
  rw [Z0]
  have : (if (if (s : Int) < 4 then (s : Int) else 4) > 0 then (if (s : Int) < 4 then (s : Int) else 4) else 0) = (s : Int) := by
   split <;> split <;> omega
  rw [this]
  rfl
 ·have hI := fun i (h : i ≤ l.length) => Yit hk hs hw i h
  have hN := hI (min l.length 14) (Nat.min_le_left _ _)
  have it := Zsb (once := Zay.l3.once k) (fun i => (l, (i : Int), (rof (bkR k s l i)).Zj, (rof (bkR k s l i)).f_L, (rof (bkR k s l i)).f_T)) (min l.length 14)
   (fun i hi => rk_step hk hw hs (by omega) (by omega) (hI i (by omega))) ((rof (bkN k s l)).Zj, (rof (bkN k s l)).f_L, (rof (bkN k s l)).f_T) (by
    have e1 : (⟨pack 12 false (rof (bkR k s l (min l.length 14))).f_T.Zo, pack 12 0 (rof (bkR k s l (min l.length 14))).f_T.Zk⟩ : Zh) = (rof (bkR k s l (min l.length 14))).f_T := pkR hN.T.1 hN.T.2
    unfold Zay.l3.once
    dsimp only
    simp only [e1]
    by_cases h : ((min l.length 14 : Nat) : Int) < (l.length : Int)
    ·rw [ct h, Z0]
     dsimp only
     rw [cf (show ¬ ((min l.length 14 : Nat) : Int) < 14 by omega)]
     simp only [e1]
     rfl
    ·rw [cf h, Z0]
     dsimp only
     rw [cond_false]
     simp only [e1]
     rfl) k 0 (Nat.zero_le _) (by omega)
  refine bof it ?_
  have e2 : (⟨pack 12 false (rof (bkN k s l)).f_T.Zo, pack 12 0 (rof (bkN k s l)).f_T.Zk⟩ : Zh) = (rof (bkN k s l)).f_T := pkR hN.T.1 hN.T.2
  dsimp only
  rw [e2]
theorem books_eq {k : Nat} (hk : 1002 < k) {s : Nat} (hs : s ≤ 4) {l : List Zr} (hw : ∀ z ∈ l, Yij z) : Zap.f k l (s : Int) = some (bkN k s l, rof (bkN k s l)) := by
 have hI := fun i (h : i ≤ l.length) => Yit hk hs hw i h
 have hN := hI (min l.length 14) (Nat.min_le_left _ _)
 have e2 : (⟨pack 12 false (rof (bkN k s l)).f_T.Zo, pack 12 0 (rof (bkN k s l)).f_T.Zk⟩ : Zh) = (rof (bkN k s l)).f_T := pkR hN.T.1 hN.T.2
 have e3 : (⟨pack 12 false (bkN k s l).f_t.Zo, pack 12 0 (bkN k s l).f_t.Zk⟩ : Ze) = (bkN k s l).f_t := pk hN.T
 unfold Zap.f
 refine bof (v := b0 s) ?_ (bof (HBook_eq hk hs hw) ?_)
 ·unfold Zgi.f
  have : (if (if 4 < (s : Int) then 4 else (s : Int)) > 0 then (if 4 < (s : Int) then 4 else (s : Int)) else 0) = (s : Int) := by
   split <;> split <;> omega
  rw [this]
  rfl
 ·simp only [e2]
  have it := Zsb (once := Zap.l6.once k) (fun i => (l, (i : Int), (bkR k s l i).Zbc, (bkR k s l i).f_l, (bkR k s l i).f_t, (rof (bkN k s l)).Zj, (rof (bkN k s l)).f_L, (rof (bkN k s l)).f_T)) (min l.length 14)
   (fun i hi => bk_step hk hw hs (by omega) (by omega) (hI i (by omega)) (rof (bkN k s l)) ⟨hN.T.1, hN.T.2⟩ hN.sc) ((bkN k s l).Zbc, (bkN k s l).f_l, (bkN k s l).f_t, (rof (bkN k s l)).Zj, (rof (bkN k s l)).f_L, (rof (bkN k s l)).f_T) (by
    have e1 : (⟨pack 12 false (bkR k s l (min l.length 14)).f_t.Zo, pack 12 0 (bkR k s l (min l.length 14)).f_t.Zk⟩ : Ze) = (bkR k s l (min l.length 14)).f_t := pk hN.T
    unfold Zap.l6.once
    dsimp only
    simp only [e1, e2]
    by_cases h : ((min l.length 14 : Nat) : Int) < (l.length : Int)
    ·rw [ct h, Z0]
     dsimp only
     rw [cf (show ¬ ((min l.length 14 : Nat) : Int) < 14 by omega)]
     simp only [e1, e2]
     rfl
    ·rw [cf h, Z0]
     dsimp only
     rw [cond_false]
     simp only [e1, e2]
     rfl) k 0 (Nat.zero_le _) (by omega)
  have hp : (⟨pack 12 false (b0 s).f_t.Zo, pack 12 0 (b0 s).f_t.Zk⟩ : Ze) = (b0 s).f_t := pk (b0_inv s).T
  refine bof (v := ((bkN k s l).Zbc, (bkN k s l).f_l, (bkN k s l).f_t, (rof (bkN k s l)).Zj, (rof (bkN k s l)).f_L, (rof (bkN k s l)).f_T)) ?_ ?_
  ·simp only [hp]
   exact it
  ·dsimp only
   simp only [e2, e3]
end Go.Proofs.YtbchcjlllddlpaaGreat.Pure
namespace Go.Proofs.YtbchcjlllddlpaaGreat.Pure
set_option linter.unusedVariables false
set_option linter.unusedSimpArgs false
open Go Go.Ev Go.Lm Go.Pu Go.Dg
abbrev KZ := Int × Int
def ltZ (a b : KZ) : Bool := decide (a.1 < b.1) || (a.1 == b.1 && decide (a.2 < b.2))
theorem Yby {a b : KZ} : ltZ a b = true ↔ a.1 < b.1 ∨ (a.1 = b.1 ∧ a.2 < b.2) := by unfold ltZ; simp
theorem Ybw {a b : KZ} (h : ltZ a b = true) : a ≠ b := by
 rintro rfl
 rw [Yby] at h
 omega
theorem ltZ_trans {a b c : KZ} (h : ltZ a b = true) (h' : ltZ b c = true) : ltZ a c = true := by
 rw [Yby] at *
 omega
theorem ltZ_total {a b : KZ} (h : ltZ a b = false) (h' : b ≠ a) : ltZ b a = true := by
 rw [Yby]
 have h1 : ¬ (a.1 < b.1 ∨ (a.1 = b.1 ∧ a.2 < b.2)) := fun hh => by rw [Yby.2 hh] at h; cases h
 by_cases e1 : b.1 = a.1
 ·by_cases e2 : b.2 = a.2
  ·exact absurd (Prod.ext e1 e2) h'
  ·omega
 ·omega
theorem Zxb {a b : KZ} : Zcd a b = true ↔ a = b := by
 unfold Zcd
 rw [Bool.and_eq_true, beq_iff_eq, beq_iff_eq]
 exact ⟨fun h => Prod.ext h.1 h.2, fun h => by rw [h]; exact ⟨rfl, rfl⟩⟩
def Ris (l : List (KZ × Int)) : Prop := l.Pairwise fun a b => ltZ a.1 b.1 = true
def SmL (l : List (KZ × Int)) : Prop := ∀ p ∈ l, Sm p.2
instance (v : Int) : Decidable (Sm v) := by unfold Sm; exact inferInstance
def Zzi (k : KZ) (v : Int) : List (KZ × Int) → Option (List (KZ × Int))
 | [] => some [(k, v)]
 | x :: r => if x.1 = k then (if Sm (x.2 + v) then some ((k, x.2 + v) :: r) else none) else if ltZ k x.1 = true then some ((k, v) :: x :: r) else (Zzi k v r).map (x :: ·)
def Zjy (k : KZ) : List (KZ × Int) → Option Int
 | [] => none
 | x :: r => if x.1 = k then some x.2 else Zjy k r
theorem Zvn : ∀ {l : List (KZ × Int)} {k : KZ} {v : Int}, Zjy k l = some v → (k, v) ∈ l
 | [], k, v, h => by cases h
 | x :: r, k, v, h => by
  unfold Zjy at h
  split at h
  ·rename_i e
   cases h
   rw [← e]
   exact List.mem_cons_self
  ·exact List.mem_cons_of_mem _ (Zvn h)
theorem Yfp : ∀ {l : List (KZ × Int)} {k : KZ}, Zjy k l = none → ∀ p ∈ l, p.1 ≠ k
 | [], k, h, p, hp => (List.not_mem_nil hp).elim
 | x :: r, k, h, p, hp => by
  unfold Zjy at h
  split at h
  ·cases h
  ·rename_i e
   rcases List.mem_cons.1 hp with rfl | hp
   ·exact e
   ·exact Yfp h p hp
theorem Xbw {k : KZ} {l : List (KZ × Int)} (h : ∀ p ∈ l, ltZ k p.1 = true) : Zjy k l = none := by
 induction l with
 | nil => rfl
 | cons x r ih =>
  unfold Zjy
  rw [if_neg (fun e => Ybw (h x List.mem_cons_self) e.symm), ih fun p hp => h p (List.mem_cons_of_mem _ hp)]
theorem Zws {k : KZ} {v : Int} (hv : Sm v) : ∀ {l : List (KZ × Int)}, Ris l → SmL l → match Zzi k v l with
  | some z => Ris z ∧ SmL z ∧ z.length ≤ l.length + 1 ∧ (∀ p ∈ z, p.1 = k ∨ p.1 ∈ l.map (·.1)) ∧ (match Zjy k l with
   | some u => Sm (u + v) ∧ z = l.map fun p => if p.1 = k then (k, u + v) else p
   | none => z.Perm ((k, v) :: l))
  | none => ∃ u, Zjy k l = some u ∧ ¬ Sm (u + v)
 | [], _, _ => ⟨List.pairwise_singleton _ _, fun p hp => by rw [List.mem_singleton.1 hp]; exact hv, Nat.le_refl _, fun p hp => .inl (by rw [List.mem_singleton.1 hp]), .refl _⟩
 | x :: r, hr, hs => by
  have hr' := List.pairwise_cons.1 hr
  have hsr : SmL r := fun p hp => hs p (List.mem_cons_of_mem _ hp)
  unfold Zzi Zjy
  by_cases e : x.1 = k
  ·rw [if_pos e, if_pos e]
   by_cases hm : Sm (x.2 + v)
   ·rw [if_pos hm]
    have hmap : ∀ p ∈ r, (if p.1 = k then (k, x.2 + v) else p) = p := fun p hp => by
     have := hr'.1 p hp
     rw [if_neg (fun e' => Ybw this (by rw [e, e']))]
    refine ⟨List.pairwise_cons.2 ⟨fun p hp => by have := hr'.1 p hp; rw [e] at this; exact this, hr'.2⟩, fun p hp => ?_, by simp, fun p hp => ?_, hm, ?_⟩
    ·rcases List.mem_cons.1 hp with rfl | hp
     ·exact hm
     ·exact hsr p hp
    ·rcases List.mem_cons.1 hp with rfl | hp
     ·exact .inl rfl
     ·exact .inr (List.mem_map.2 ⟨p, List.mem_cons_of_mem _ hp, rfl⟩)
    ·rw [List.map_cons, if_pos e, (List.map_congr_left hmap).trans (List.map_id _)]
   ·rw [if_neg hm]
    exact ⟨x.2, rfl, hm⟩
  ·rw [if_neg e, if_neg e]
   by_cases hl : ltZ k x.1 = true
   ·rw [if_pos hl]
    have hab : ∀ p ∈ r, ltZ k p.1 = true := fun p hp => ltZ_trans hl (hr'.1 p hp)
    rw [Xbw hab]
    refine ⟨List.pairwise_cons.2 ⟨fun p hp => ?_, hr⟩, fun p hp => ?_, by simp, fun p hp => ?_, .refl _⟩
    ·rcases List.mem_cons.1 hp with rfl | hp
     ·exact hl
     ·exact hab p hp
    ·rcases List.mem_cons.1 hp with rfl | hp
     ·exact hv
     ·exact hs p hp
    ·rcases List.mem_cons.1 hp with rfl | hp
     ·exact .inl rfl
     ·exact .inr (List.mem_map.2 ⟨p, hp, rfl⟩)
   ·rw [if_neg hl]
    have hxk : ltZ x.1 k = true := ltZ_total (by simpa using hl) e
    have ih := Zws (k := k) hv hr'.2 hsr
    cases hz : Zzi k v r with
    | none =>
     rw [hz] at ih
     exact ih
    | some z =>
     rw [hz] at ih
     obtain ⟨h1, h2, h3, h4, h5⟩ := ih
     refine ⟨List.pairwise_cons.2 ⟨fun p hp => ?_, h1⟩, fun p hp => ?_, by simp; omega, fun p hp => ?_, ?_⟩
     ·rcases h4 p hp with h | h
      ·rw [h]; exact hxk
      ·obtain ⟨q, hq, e'⟩ := List.mem_map.1 h
       rw [← e']
       exact hr'.1 q hq
     ·rcases List.mem_cons.1 hp with rfl | hp
      ·exact hs _ List.mem_cons_self
      ·exact h2 p hp
     ·rcases List.mem_cons.1 hp with rfl | hp
      ·exact .inr (List.mem_map.2 ⟨_, List.mem_cons_self, rfl⟩)
      ·rcases h4 p hp with h | h
       ·exact .inl h
       ·exact .inr (by rw [List.map_cons]; exact List.mem_cons_of_mem _ h)
     ·cases hg : Zjy k r with
      | some u =>
       rw [hg] at h5
       refine ⟨h5.1, ?_⟩
       rw [List.map_cons, if_neg e, h5.2]
      | none =>
       rw [hg] at h5
       exact (List.Perm.cons x h5).trans (.swap _ _ _)
def mkz (s : Nat) (p : KZ × Int) : KZ × Za := (p.1, DV p.2 s)
theorem Ris.nd {l : List (KZ × Int)} (h : Ris l) : (l.map (·.1)).Nodup := by
 unfold List.Nodup
 rw [List.pairwise_map]
 exact h.imp fun h => Ybw h
theorem Ywg (s : Nat) (l : List (KZ × Int)) : (l.map (mkz s)).map (·.1) = l.map (·.1) := by
 rw [List.map_map]
 rfl
theorem mget_nd {k : KZ} {d : Za} : ∀ {M : List (KZ × Za)}, (M.map (·.1)).Nodup → (k, d) ∈ M → Zhz (Zcd k) M = some d
 | [], _, h => by cases h
 | x :: r, hn, h => by
  rw [List.map_cons, List.nodup_cons] at hn
  unfold Zhz
  rcases List.mem_cons.1 h with e | h
  ·subst e
   rw [Zxb.2 rfl]
   rfl
  ·have : Zcd k x.1 = false := by
    rw [Bool.eq_false_iff]
    intro hk
    exact hn.1 (List.mem_map.2 ⟨_, h, Zxb.1 hk⟩)
   rw [this]
   exact mget_nd hn.2 h
theorem mget_no {k : KZ} : ∀ {M : List (KZ × Za)}, (∀ p ∈ M, p.1 ≠ k) → Zhz (Zcd k) M = none
 | [], _ => rfl
 | x :: r, h => by
  unfold Zhz
  have : Zcd k x.1 = false := by
   rw [Bool.eq_false_iff]
   intro hk
   exact h x List.mem_cons_self (Zxb.1 hk).symm
  rw [this]
  exact mget_no fun p hp => h p (List.mem_cons_of_mem _ hp)
theorem Ysm {k : KZ} {d : Za} : ∀ {M : List (KZ × Za)}, (∀ p ∈ M, p.1 ≠ k) → Zke (Zcd k) k d M = M ++ [(k, d)]
 | [], _ => rfl
 | x :: r, h => by
  unfold Zke
  have : Zcd k x.1 = false := by
   rw [Bool.eq_false_iff]
   intro hk
   exact h x List.mem_cons_self (Zxb.1 hk).symm
  rw [this, cond_false, Ysm fun p hp => h p (List.mem_cons_of_mem _ hp)]
  rfl
theorem mput_nd {k : KZ} {d u : Za} : ∀ {M : List (KZ × Za)}, (M.map (·.1)).Nodup → (k, u) ∈ M → Zke (Zcd k) k d M = M.map fun p => if p.1 = k then (k, d) else p
 | [], _, h => by cases h
 | x :: r, hn, h => by
  rw [List.map_cons, List.nodup_cons] at hn
  unfold Zke
  by_cases e : x.1 = k
  ·rw [Zxb.2 e.symm, cond_true, List.map_cons, if_pos e, e]
   congr 1
   refine ((List.map_congr_left fun p hp => ?_).trans (List.map_id r)).symm
   exact if_neg fun e' => hn.1 (List.mem_map.2 ⟨p, hp, by rw [e, e']⟩)
  ·have hk : Zcd k x.1 = false := by
    rw [Bool.eq_false_iff]
    intro hk
    exact e (Zxb.1 hk).symm
   rw [hk, cond_false, List.map_cons, if_neg e]
   rcases List.mem_cons.1 h with e' | h
   ·exact absurd (congrArg Prod.fst e').symm e
   ·rw [mput_nd hn.2 h]
structure MZ (s : Nat) (M : List (KZ × Za)) (l : List (KZ × Int)) : Prop where
 perm : M.Perm (l.map (mkz s))
 ris : Ris l
 sm : SmL l
theorem MZ.nil (s : Nat) : MZ s [] [] := ⟨.refl _, List.Pairwise.nil, fun p hp => (List.not_mem_nil hp).elim⟩
theorem MZ.nd {s : Nat} {M : List (KZ × Za)} {l : List (KZ × Int)} (h : MZ s M l) : (M.map (·.1)).Nodup := by
 have := h.perm.map (·.1)
 rw [Ywg] at this
 exact this.nodup_iff.2 h.ris.nd
theorem MZ.get {s : Nat} {M : List (KZ × Za)} {l : List (KZ × Int)} (h : MZ s M l) (k : KZ) : Zhz (Zcd k) M = (Zjy k l).map fun v => DV v s := by
 cases hg : Zjy k l with
 | some v => exact mget_nd h.nd (h.perm.mem_iff.2 (List.mem_map.2 ⟨_, Zvn hg, rfl⟩))
 | none =>
  refine mget_no fun p hp => ?_
  obtain ⟨q, hq, rfl⟩ := List.mem_map.1 (h.perm.mem_iff.1 hp)
  exact Yfp hg q hq
theorem MZ.put {s : Nat} {M : List (KZ × Za)} {l z : List (KZ × Int)} (h : MZ s M l) {k : KZ} {v : Int} (hv : Sm v) (hz : Zzi k v l = some z) : MZ s (Zke (Zcd k) k (DV ((Zjy k l).getD 0 + v) s) M) z := by
 have sp := Zws (k := k) hv h.ris h.sm
 rw [hz] at sp
 obtain ⟨h1, h2, h3, h4, h5⟩ := sp
 refine ⟨?_, h1, h2⟩
 cases hg : Zjy k l with
 | some u =>
  rw [hg] at h5
  obtain ⟨h6, h7⟩ := h5
  rw [mput_nd h.nd (h.perm.mem_iff.2 (List.mem_map.2 ⟨_, Zvn hg, rfl⟩)), h7]
  refine (h.perm.map _).trans (List.Perm.of_eq ?_)
  rw [List.map_map, List.map_map]
  refine List.map_congr_left fun p _ => ?_
  show (if p.1 = k then (k, DV (u + v) s) else mkz s p) = mkz s (if p.1 = k then (k, u + v) else p)
  split <;> rfl
 | none =>
  rw [hg] at h5
  rw [Ysm fun p hp => by
   obtain ⟨q, hq, rfl⟩ := List.mem_map.1 (h.perm.mem_iff.1 hp)
   exact Yfp hg q hq]
  refine (List.perm_append_comm.trans ((List.Perm.cons _ h.perm).trans ?_))
  show (mkz s (k, 0 + v) :: l.map (mkz s)).Perm (z.map (mkz s))
  rw [Int.zero_add]
  exact (h5.map (mkz s)).symm
def Zie (l : List (KZ × Int)) : List (KZ × Int) := l.filter fun p => p.2 != 0
theorem Yky {α : Type} {p : α → Option Bool} {q : α → Bool} : ∀ {l : List α}, (∀ x ∈ l, p x = some (q x)) → Zxy p l = some (l.filter fun x => !q x)
 | [], _ => rfl
 | x :: r, h => by
  unfold Zxy
  rw [h x List.mem_cons_self, Z0, Yky fun y hy => h y (List.mem_cons_of_mem _ hy), Z0]
  cases hq : q x with
  | true => rw [List.filter_cons_of_neg (by simp [hq])]; rfl
  | false => rw [List.filter_cons_of_pos (by simp [hq])]; rfl
theorem Yej {l : List (KZ × Int)} (h : Ris l) : Ris (Zie l) := h.sublist List.filter_sublist
theorem Yux {l : List (KZ × Int)} (h : SmL l) : SmL (Zie l) := fun p hp => h p ((List.mem_filter.1 hp).1)
theorem w2_zero {v : Int} {s : Nat} : (val (DV v s) == 0) = (v == 0) := by rw [Zky]
theorem MZ.some {s : Nat} {M : List (KZ × Za)} {l : List (KZ × Int)} (h : MZ s M l) : MZ s (M.filter fun p => !(val p.2 == 0)) (Zie l) := by
 refine ⟨(h.perm.filter _).trans (List.Perm.of_eq ?_), Yej h.ris, Yux h.sm⟩
 unfold Zie
 rw [List.filter_map]
 congr 1
 refine List.filter_congr fun p _ => ?_
 show (!(val (DV p.2 s) == 0)) = (p.2 != 0)
 rw [w2_zero]
 rfl
theorem MZ.len {s : Nat} {M : List (KZ × Za)} {l : List (KZ × Int)} (h : MZ s M l) : M.length = l.length := by rw [h.perm.length_eq, List.length_map]
end Go.Proofs.YtbchcjlllddlpaaGreat.Pure
namespace Go.Proofs.YtbchcjlllddlpaaGreat.Pure
set_option linter.unusedVariables false
set_option linter.unusedSimpArgs false
open Go Go.Ev Go.Lm Go.Pu Go.Dg
def Zjv (a : Int) : Int := if a < 0 ∨ a ≥ 16 then 0 else if a ≤ 3 then 1 else if a ≤ 6 then 2 else if a ≤ 8 then 3 else 4
theorem CK_eq (k : Nat) (a : Int) : Zdg.f k a = some (Zjv a) := by
 unfold Zdg.f Zjv
 by_cases h : a < 0
 ·rw [ct h, if_pos (.inl h)]; rfl
 ·rw [cf h, Z0]
  dsimp only
  by_cases h2 : a ≥ 16
  ·rw [ct h2, if_pos (.inr h2)]
  ·rw [cf h2, if_neg (by omega)]
   by_cases h3 : a ≤ 3
   ·rw [ct h3, if_pos h3]
   ·rw [cf h3, if_neg h3]
    by_cases h4 : a ≤ 6
    ·rw [ct h4, if_pos h4]
    ·rw [cf h4, if_neg h4]
     by_cases h5 : a ≤ 8
     ·rw [ct h5, if_pos h5]
     ·rw [cf h5, if_neg h5]
def kzL (o : Bool) (x : Zc) : KZ := if Zjv x.Zdz = 4 ∧ o = false then (8, 0) else (x.Zdz, IntKind.wrap .i64 (x.Zel + 1))
theorem key_eq (k : Nat) (x : Zc) (o : Bool) : Zfr.f k x o = some (kzL o x) := by
 unfold Zfr.f kzL
 rw [CK_eq, Z0]
 by_cases h : Zjv x.Zdz = 4
 ·rw [show (Zjv x.Zdz == 4) = true by rw [h]; rfl, cond_true, Z0]
  cases o
  ·rw [if_pos ⟨h, rfl⟩]; rfl
  ·rw [if_neg (by simp)]; rfl
 ·rw [show (Zjv x.Zdz == 4) = false by simpa using h, cond_false, Z0, if_neg (fun hh => h hh.1)]
  rfl
theorem Yok {k : Nat} (hk : 60 < k) {i j : Int} {s : Nat} (hi : Sm i) (hj : Sm j) (hs : s ≤ 9) : Zeo.f k (DV i s) (DV j s) = some (mkD (i + j) s) := by
 have h := Add_DV hk hi hj hs hs
 rw [Nat.max_self, Nat.sub_self, Int.pow_zero, Int.mul_one, Int.mul_one] at h
 exact h
theorem Sm0 : Sm 0 := by unfold Sm; decide
theorem putZ_val {k : KZ} {v : Int} {l : List (KZ × Int)} (hv : Sm v) (hr : Ris l) (hs : SmL l) : (Zzi k v l).isSome = decide (Sm ((Zjy k l).getD 0 + v)) := by
 have h := Zws (k := k) hv hr hs
 cases hz : Zzi k v l with
 | some z =>
  rw [hz] at h
  obtain ⟨_, _, _, _, h5⟩ := h
  cases hg : Zjy k l with
  | some u => rw [hg] at h5; rw [decide_eq_true (show Sm ((some u).getD 0 + v) from h5.1)]; rfl
  | none => rw [decide_eq_true (show Sm ((none : Option Int).getD 0 + v) by rw [Option.getD_none, Int.zero_add]; exact hv)]; rfl
 | none =>
  rw [hz] at h
  obtain ⟨u, hu, hn⟩ := h
  rw [hu, decide_eq_false (show ¬ Sm ((some u).getD 0 + v) from hn)]
  rfl
def Ztw (o : Bool) : List Zc → List (KZ × Int) → Option (List (KZ × Int))
 | [], z => some z
 | x :: r, z => (Zzi (kzL o x) (val x.Zv) z).bind (Ztw o r)
def entZ (p : Int) (t : Ze) : List Zd → List (KZ × Int) → Option (List (KZ × Int))
 | [], z => some z
 | x :: r, z => if x.Zbj > p then entZ p t r z else (Ztw (opn t x.Zbj) x.Zci z).bind (entZ p t r)
theorem line_in {k : Nat} (hk : 1002 < k) {s : Nat} (hs : s ≤ 4) {bt t : Ze} (hb : T12 bt) (ht : T12 t) {ls : List Zc} (hl : ls.length ≤ 1000) (hw : ∀ x ∈ ls, x.Zv = DV (val x.Zv) s ∧ Sm (val x.Zv))
  {M : List (KZ × Za)} {z : List (KZ × Int)} (hM : MZ s M z) {j : Nat} (hj : j < ls.length) (p : Int) (es : List Zd) (n i : Int) (bl : List Zd) (per : Int) (ls2 : List Zc) (of : Int) :
  Zba.l11.once k (p, es, n, i, ls, (ls.length : Int), (j : Int), (s : Int), bl, bt, M, t, per, ls2, of) = some (match Zzi (kzL (opn t per) (ls.getD j Zc.zero)) (val (ls.getD j Zc.zero).Zv) z with
   | some z' => .inl (p, es, n, i, ls, (ls.length : Int), ((j + 1 : Nat) : Int), (s : Int), bl, bt, Zke (Zcd (kzL (opn t per) (ls.getD j Zc.zero))) (kzL (opn t per) (ls.getD j Zc.zero)) (DV ((Zjy (kzL (opn t per) (ls.getD j Zc.zero)) z).getD 0 + val (ls.getD j Zc.zero).Zv) s) M, t, per, ls2, of)
   | none => .inr (.inr ([], 3, ⟨(s : Int), bl, bt⟩))) := by
 have hx := hw _ (Zfs Zc.zero hj)
 have hwr := Zhh (show -9223372036854775808 ≤ (j : Int) + 1 ∧ (j : Int) + 1 < 9223372036854775808 by omega)
 have e1 := pk hb
 have e2 := pk ht
 unfold Zba.l11.once
 dsimp only
 simp only [e1, e2]
 rw [ct (show (j : Int) < (ls.length : Int) by omega), Zhk (by omega) (by omega), cond_true, Int.toNat_natCast]
 generalize ls.getD j Zc.zero = x at hx ⊢
 obtain ⟨hx1, hx2⟩ := hx
 refine bof (Zxr k ht per) (bof (key_eq k x _) ?_)
 generalize kzL (opn t per) x = key
 have hg : Zhz (Zcd (key.1, key.2)) M = (Zjy key z).map fun v => DV v s := hM.get key
 have hu : Sm ((Zjy key z).getD 0) := by
  cases hgz : Zjy key z with
  | none => exact Sm0
  | some u => exact hM.sm _ (Zvn hgz)
 have hv := putZ_val (k := key) hx2 hM.ris hM.sm
 rw [hg, Z0, Z0]
 refine bof (v := (p, es, n, i, ls, (ls.length : Int), (j : Int), (s : Int), bl, bt, M, t, per, ls2, of, x.Zdz, x.Zv.Zgw, x.Zv.f_C.1, x.Zv.f_C.2, x.Zv.Zj, x.Zel, key.1, key.2, (DV ((Zjy key z).getD 0) s).Zgw, (DV ((Zjy key z).getD 0) s).f_C.1, (DV ((Zjy key z).getD 0) s).f_C.2, (DV ((Zjy key z).getD 0) s).Zj)) ?_ ?_
 ·cases Zjy key z with
  | none =>
   have ho : Zgp.f k 0 (s : Int) = some (DV 0 s) := by
    have := Of_DV k (n := 0) (by omega) (s : Int)
    rwa [cl_of (by omega)] at this
   rw [Option.map_none, Option.isSome_none, Bool.not_false, cond_true]
   refine bof (v := ((s : Int), (⟨(s : Int), bl, bt⟩ : Zi))) ?_ ?_
   ·unfold Zdq.f
    simp only [e1]
   ·refine bof ho ?_
    simp only [e1]
    rfl
  | some u => rfl
 ·dsimp only
  have ha : Zeo.f k (⟨(DV ((Zjy key z).getD 0) s).Zgw, ((DV ((Zjy key z).getD 0) s).f_C.1, (DV ((Zjy key z).getD 0) s).f_C.2), (DV ((Zjy key z).getD 0) s).Zj⟩ : Za) (⟨x.Zv.Zgw, (x.Zv.f_C.1, x.Zv.f_C.2), x.Zv.Zj⟩ : Za) = some (mkD ((Zjy key z).getD 0 + val x.Zv) s) := by
   show Zeo.f k (DV ((Zjy key z).getD 0) s) x.Zv = _
   rw [hx1, Zky]
   exact Yok (by omega) hu hx2 (by omega)
  refine bof ha ?_
  simp only [e1, e2, hwr]
  cases hp : Zzi key (val x.Zv) z with
  | some z' =>
   rw [hp] at hv
   have hS : Sm ((Zjy key z).getD 0 + val x.Zv) := of_decide_eq_true hv.symm
   have hm : mkD ((Zjy key z).getD 0 + val x.Zv) s = (DV ((Zjy key z).getD 0 + val x.Zv) s, 0) := if_pos hS
   rw [hm]
   rfl
  | none =>
   rw [hp] at hv
   have hS : ¬ Sm ((Zjy key z).getD 0 + val x.Zv) := of_decide_eq_false hv.symm
   have hm : mkD ((Zjy key z).getD 0 + val x.Zv) s = (nil0, 3) := if_neg hS
   rw [hm]
   rfl
theorem lines_in {k : Nat} (hk : 1002 < k) {s : Nat} (hs : s ≤ 4) {bt t : Ze} (hb : T12 bt) (ht : T12 t) {ls : List Zc} (hl : ls.length ≤ 1000) (hw : ∀ x ∈ ls, x.Zv = DV (val x.Zv) s ∧ Sm (val x.Zv))
  (p : Int) (es : List Zd) (n i : Int) (bl : List Zd) (per : Int) (ls2 : List Zc) (of : Int) : ∀ (m j : Nat) (M : List (KZ × Za)) (z : List (KZ × Int)), MZ s M z → j ≤ ls.length → ls.length - j < m →
  ∃ r, iter (Zba.l11.once k) m (p, es, n, i, ls, (ls.length : Int), (j : Int), (s : Int), bl, bt, M, t, per, ls2, of) = some r ∧ (match Ztw (opn t per) (ls.drop j) z with
   | some z' => ∃ M', r = .inl (p, es, n, i, (s : Int), bl, bt, M', t) ∧ MZ s M' z'
   | none => r = .inr ([], 3, ⟨(s : Int), bl, bt⟩)) := by
 intro m
 induction m with
 | zero => intro j M z _ _ h; omega
 | succ m ih =>
  intro j M z hM hj hm
  by_cases hc : j < ls.length
  ·have st := line_in hk hs hb ht hl hw hM hc p es n i bl per ls2 of
   have hx := hw _ (Zfs Zc.zero hc)
   rw [Zgm Zc.zero hc]
   unfold Ztw
   cases hp : Zzi (kzL (opn t per) (ls.getD j Zc.zero)) (val (ls.getD j Zc.zero).Zv) z with
   | some z' =>
    rw [hp] at st
    rw [Zcl st, Z0]
    exact ih (j + 1) _ z' (hM.put hx.2 hp) (by omega) (by omega)
   | none =>
    rw [hp] at st
    exact ⟨_, Zbm st, rfl⟩
  ·rw [List.drop_eq_nil_of_le (by omega)]
   refine ⟨_, Zbm ?_, M, rfl, hM⟩
   unfold Zba.l11.once
   dsimp only
   rw [cf (by omega), pk hb, pk ht]
theorem ents_in {k : Nat} (hk : 1002 < k) {s : Nat} (hs : s ≤ 4) {bt t : Ze} (hb : T12 bt) (ht : T12 t) {es : List Zd} (hl : es.length ≤ 1000) (hw : ∀ x ∈ es, LsOk s x.Zci) (p : Int) (bl : List Zd) :
  ∀ (m i : Nat) (M : List (KZ × Za)) (z : List (KZ × Int)), MZ s M z → i ≤ es.length → es.length - i < m →
  ∃ r, iter (Zba.l7.once k) m (p, es, (es.length : Int), (i : Int), (s : Int), bl, bt, M, t) = some r ∧ (match entZ p t (es.drop i) z with
   | some z' => ∃ M', r = .inl (M', (s : Int), bl, bt) ∧ MZ s M' z'
   | none => r = .inr ([], 3, ⟨(s : Int), bl, bt⟩)) := by
 intro m
 induction m with
 | zero => intro i M z _ _ h; omega
 | succ m ih =>
  intro i M z hM hi hm
  have e1 := pk hb
  have e2 := pk ht
  by_cases hc : i < es.length
  ·have hx := hw _ (Zfs Zd.zero hc)
   have hwr := Zhh (show -9223372036854775808 ≤ (i : Int) + 1 ∧ (i : Int) + 1 < 9223372036854775808 by omega)
   rw [Zgm Zd.zero hc]
   unfold entZ
   have st : Zba.l7.once k (p, es, (es.length : Int), (i : Int), (s : Int), bl, bt, M, t) = cond (decide ((es.getD i Zd.zero).Zbj > p)) (some (.inl (p, es, (es.length : Int), ((i + 1 : Nat) : Int), (s : Int), bl, bt, M, t)))
     ((iter (Zba.l11.once k) k (p, es, (es.length : Int), (i : Int), (es.getD i Zd.zero).Zci, ((es.getD i Zd.zero).Zci.length : Int), 0, (s : Int), bl, bt, M, t, (es.getD i Zd.zero).Zbj, (es.getD i Zd.zero).Zci, (es.getD i Zd.zero).Zjl)).bind fun | .inl y => (some (.inl (y.1, y.2.1, y.2.2.1, IntKind.wrap .i64 (y.2.2.2.1 + 1), y.2.2.2.2.1, y.2.2.2.2.2.1, (⟨pack 12 false y.2.2.2.2.2.2.1.Zo, pack 12 0 y.2.2.2.2.2.2.1.Zk⟩ : Ze), y.2.2.2.2.2.2.2.1, (⟨pack 12 false y.2.2.2.2.2.2.2.2.Zo, pack 12 0 y.2.2.2.2.2.2.2.2.Zk⟩ : Ze)))) | .inr y => (some (.inr (.inr (y.1, y.2.1, (⟨y.2.2.Zbc, y.2.2.f_l, (⟨pack 12 false y.2.2.f_t.Zo, pack 12 0 y.2.2.f_t.Zk⟩ : Ze)⟩ : Zi)))))) := by
    unfold Zba.l7.once
    dsimp only
    simp only [e1, e2]
    rw [ct (show (i : Int) < (es.length : Int) by omega), Zhk (by omega) (by omega), cond_true, Int.toNat_natCast, hwr]
    rfl
   generalize es.getD i Zd.zero = x at hx st ⊢
   by_cases hp : x.Zbj > p
   ·rw [ct hp] at st
    rw [if_pos hp, Zcl st]
    exact ih (i + 1) M z hM (by omega) (by omega)
   ·rw [cf hp] at st
    rw [if_neg hp]
    obtain ⟨r, hr, hr2⟩ := lines_in hk hs hb ht (ls := x.Zci) (by have := hx.1; omega) hx.2 p es (es.length : Int) (i : Int) bl x.Zbj x.Zci x.Zjl k 0 M z hM (Nat.zero_le _) (by have := hx.1; omega)
    rw [List.drop_zero] at hr2
    have hr' : iter (Zba.l11.once k) k (p, es, (es.length : Int), (i : Int), x.Zci, (x.Zci.length : Int), 0, (s : Int), bl, bt, M, t, x.Zbj, x.Zci, x.Zjl) = some r := hr
    rw [hr', Z0] at st
    cases hq : Ztw (opn t x.Zbj) x.Zci z with
    | some z' =>
     rw [hq] at hr2
     obtain ⟨M', rfl, hM'⟩ := hr2
     dsimp only at st
     rw [e1, e2, hwr] at st
     rw [Zcl st, Z0]
     exact ih (i + 1) M' z' hM' (by omega) (by omega)
    | none =>
     rw [hq] at hr2
     subst hr2
     dsimp only at st
     rw [e1] at st
     exact ⟨_, Zbm st, rfl⟩
  ·rw [List.drop_eq_nil_of_le (by omega)]
   refine ⟨_, Zbm ?_, M, rfl, hM⟩
   unfold Zba.l7.once
   dsimp only
   rw [cf (by omega), e1]
theorem Yyu {k : Nat} (hk : 1002 < k) {s : Nat} (hs : s ≤ 4) {M : List (KZ × Za)} {z : List (KZ × Int)} (hM : MZ s M z) : Zxy (fun p => (Zfl.f k p.1 p.2).bind fun y => some y) M = some (M.filter fun p => !(val p.2 == 0)) := by
 refine Yky fun p hp => ?_
 obtain ⟨q, hq, rfl⟩ := List.mem_map.1 (hM.perm.mem_iff.1 hp)
 have h := Zgo (k := k) (by omega) (hM.sm q hq) (by omega : s ≤ 9)
 have h' : Zfl.f k (mkz s q).1 (mkz s q).2 = some (sgn q.2 == 0) := by
  unfold Zfl.f
  exact bof h rfl
 rw [h', Z0, Yay]
 show some (decide (q.2 = 0)) = some (val (DV q.2 s) == 0)
 rw [Zky]
 rfl
theorem Trial_eq {k : Nat} (hk : 1002 < k) {s : Nat} (hs : s ≤ 4) {b : Zi} (h : Zqu s b) (p : Int) : ∃ M e, Zba.f k b p = some (M, e, b) ∧
  (if p < 0 ∨ p ≥ 12 then M = [] ∧ e = 8 else match entZ p b.f_t b.f_l [] with
   | some z => e = 0 ∧ MZ s M (Zie z)
   | none => M = [] ∧ e = 3) := by
 have e1 := pk h.T
 have e2 : (⟨b.Zbc, b.f_l, ⟨pack 12 false b.f_t.Zo, pack 12 0 b.f_t.Zk⟩⟩ : Zi) = b := pkB h.T
 unfold Zba.f
 simp only [e1]
 by_cases hp : p < 0
 ·refine ⟨[], 8, ?_, by rw [if_pos (.inl hp)]; exact ⟨rfl, rfl⟩⟩
  rw [ct hp, Z0]
  dsimp only
  rw [cond_true, e1]
 ·rw [cf hp, Z0]
  dsimp only
  by_cases hp2 : p ≥ 12
  ·refine ⟨[], 8, ?_, by rw [if_pos (.inr hp2)]; exact ⟨rfl, rfl⟩⟩
   rw [ct hp2, e1]
  ·rw [cf hp2]
   simp only [if_neg (show ¬ (p < 0 ∨ p ≥ 12) by omega)]
   have hE := Yyt (k := k) (by omega) h.T h.len (fun x hx => by have := (h.ls x hx).1; omega)
   obtain ⟨r, hr, hr2⟩ := ents_in hk hs h.T h.T (es := b.f_l) (by have := h.len; omega) h.ls p b.f_l k 0 [] [] (MZ.nil s) (Nat.zero_le _) (by have := h.len; omega)
   rw [List.drop_zero] at hr2
   have hr' : iter (Zba.l7.once k) k (p, b.f_l, (b.f_l.length : Int), 0, b.Zbc, b.f_l, b.f_t, [], b.f_t) = some r := by rw [h.sc]; exact hr
   have hP : Zct.f k (⟨b.Zbc, b.f_l, ⟨pack 12 false b.f_t.Zo, pack 12 0 b.f_t.Zk⟩⟩ : Zi) = some (b.f_t, b) := by
    rw [e2]
    unfold Zct.f
    rw [e1]
   have hE' : Zac.f k (⟨b.Zbc, b.f_l, ⟨pack 12 false b.f_t.Zo, pack 12 0 b.f_t.Zk⟩⟩ : Zi) = some (b.f_l, b) := by rw [e2]; exact hE
   cases hz : entZ p b.f_t b.f_l [] with
   | some z =>
    rw [hz] at hr2
    obtain ⟨M, rfl, hM⟩ := hr2
    refine ⟨M.filter fun p => !(val p.2 == 0), 0, ?_, rfl, hM.some⟩
    refine bof hP (bof hE' (bof (v := .inl (M, (s : Int), b.f_l, b.f_t)) (by simp only [e1]; exact hr') ?_))
    dsimp only
    refine bof (Yyu hk hs hM) ?_
    rw [← h.sc, e2]
   | none =>
    rw [hz] at hr2
    subst hr2
    refine ⟨[], 3, ?_, rfl, rfl⟩
    refine bof hP (bof hE' (bof (v := .inr ([], 3, ⟨(s : Int), b.f_l, b.f_t⟩)) (by simp only [e1]; exact hr') ?_))
    dsimp only
    rw [← h.sc, e2]
end Go.Proofs.YtbchcjlllddlpaaGreat.Pure
namespace Go.Proofs.YtbchcjlllddlpaaGreat.Pure
set_option linter.unusedVariables false
set_option linter.unusedSimpArgs false
open Go Go.Ev Go.Lm Go.Pu Go.Dg
theorem getD_map {α β : Type} (f : α → β) {l : List α} {i : Nat} (d : α) (e : β) (h : i < l.length) : (l.map f).getD i e = f (l.getD i d) := by
 rw [List.getD_eq_getElem?_getD, List.getD_eq_getElem?_getD, List.getElem?_map, Z3 h]
 rfl
end Go.Proofs.YtbchcjlllddlpaaGreat.Pure
namespace Go.Proofs.YtbchcjlllddlpaaGreat.Pure
set_option linter.unusedVariables false
set_option linter.unusedSimpArgs false
open Go Go.Ev Go.Lm Go.Pu Go.Dg
def FlowW (x : Zc) : Prop := Zjv x.Zdz = 4 → x.Zel = -1
def EInv (b : Zi) : Prop := ∀ x ∈ b.f_l, (0 ≤ x.Zbj ∧ x.Zbj < 12) ∧ ∀ y ∈ x.Zci, FlowW y
theorem opn_p {t : Ze} {p : Int} (h : opn t p = true) : 0 ≤ p ∧ p < 12 := by
 unfold opn at h
 simp only [Bool.and_eq_true, decide_eq_true_eq] at h
 exact ⟨h.1, h.2.1⟩
theorem EInv.add {b : Zi} (h : EInv b) {x : Zd} (hx : ∀ y ∈ x.Zci, FlowW y) : EInv (Znu b x).2.2 := by
 unfold Znu
 split
 ·rename_i ho
  split
  ·exact h
  ·intro y hy
   rcases List.mem_append.1 hy with hy | hy
   ·exact h y hy
   ·have : y = x := by simpa using hy
    rw [this]
    exact ⟨opn_p ho, hx⟩
 ·exact h
theorem FlowW_rl {s : Nat} {x : Zc} (h : rlB s x = true) : FlowW x := by
 intro hk
 unfold rlB at h
 simp only [Bool.and_eq_true] at h
 have hw := h.2.2.2
 have hi : isW x.Zdz = false := by
  unfold Zjv at hk
  unfold isW
  rw [Bool.eq_false_iff]
  intro hh
  rw [Bool.or_eq_true, beq_iff_eq, beq_iff_eq] at hh
  rcases hh with e | e <;> rw [e] at hk <;> simp at hk
 rw [hi] at hw
 simpa using hw
theorem EInv.step {k : Nat} {s : Nat} {b : Zi} (h : EInv b) (x : Zr) : EInv (Zjs k s b x) := by
 have turn : ∀ c, EInv (Zjz b c).2 := fun c => by
  unfold Zjz
  dsimp only
  cases c.2.2 == 0 <;> exact h
 unfold Zjs
 cases pick x.Zes 8 == 0 with
 | true => exact turn _
 | false =>
  rw [cond_false]
  cases pick x.Zes 8 == 1 with
  | true =>
   rw [cond_true]
   unfold Ybe
   split
   ·exact h
   ·rename_i h0
    split
    ·exact h
    ·refine h.add fun y hy => ?_
     obtain ⟨z, hz, rfl⟩ := List.mem_map.1 hy
     exact (h _ (Zfs Zd.zero (by omega))).2 z hz
  | false =>
   rw [cond_false]
   cases pick x.Zes 8 == 2 with
   | true => exact turn _
   | false =>
    rw [cond_false]
    unfold Zqx
    split
    ·rename_i h0
     refine h.add fun y hy => ?_
     unfold Zkc at h0
     split at h0
     ·cases h0
     ·split at h0
      ·rename_i ha
       exact FlowW_rl (List.all_eq_true.1 ha y hy)
      ·cases h0
    ·exact h
theorem putZ_len {key : KZ} {v : Int} (hv : Sm v) {z z' : List (KZ × Int)} (hr : Ris z) (hs : SmL z) (h : Zzi key v z = some z') : Ris z' ∧ SmL z' ∧ z'.length ≤ z.length + 1 := by
 have := Zws (k := key) hv hr hs
 rw [h] at this
 exact ⟨this.1, this.2.1, this.2.2.1⟩
theorem Ykw {o : Bool} : ∀ {ls : List Zc} {z z' : List (KZ × Int)}, (∀ x ∈ ls, Sm (val x.Zv)) → Ris z → SmL z → Ztw o ls z = some z' → Ris z' ∧ SmL z' ∧ z'.length ≤ z.length + ls.length
 | [], z, z', _, hr, hz, h => by cases h; exact ⟨hr, hz, Nat.le_refl _⟩
 | x :: r, z, z', hw, hr, hz, h => by
  unfold Ztw at h
  obtain ⟨z1, h1, h2⟩ := Option.bind_eq_some_iff.1 h
  obtain ⟨g1, g2, g3⟩ := putZ_len (hw x List.mem_cons_self) hr hz h1
  obtain ⟨f1, f2, f3⟩ := Ykw (fun y hy => hw y (List.mem_cons_of_mem _ hy)) g1 g2 h2
  exact ⟨f1, f2, by rw [List.length_cons]; omega⟩
theorem Ymo {p : Int} {t : Ze} {s : Nat} : ∀ {es : List Zd} {z z' : List (KZ × Int)}, (∀ x ∈ es, LsOk s x.Zci) → Ris z → SmL z → entZ p t es z = some z' → Ris z' ∧ SmL z' ∧ z'.length ≤ z.length + 8 * es.length
 | [], z, z', _, hr, hz, h => by cases h; exact ⟨hr, hz, Nat.le_refl _⟩
 | x :: r, z, z', hw, hr, hz, h => by
  unfold entZ at h
  rw [List.length_cons]
  split at h
  ·obtain ⟨g1, g2, g3⟩ := Ymo (fun y hy => hw y (List.mem_cons_of_mem _ hy)) hr hz h
   exact ⟨g1, g2, by omega⟩
  ·obtain ⟨z1, h1, h2⟩ := Option.bind_eq_some_iff.1 h
   have hx := hw x List.mem_cons_self
   obtain ⟨f1, f2, f3⟩ := Ykw (fun y hy => (hx.2 y hy).2) hr hz h1
   obtain ⟨g1, g2, g3⟩ := Ymo (fun y hy => hw y (List.mem_cons_of_mem _ hy)) f1 f2 h2
   have := hx.1
   exact ⟨g1, g2, by omega⟩
end Go.Proofs.YtbchcjlllddlpaaGreat.Pure
namespace Go.Proofs.YtbchcjlllddlpaaGreat.Pure
set_option linter.unusedVariables false
set_option linter.unusedSimpArgs false
open Go Go.Ev Go.Lm Go.Pu Go.Dg
end Go.Proofs.YtbchcjlllddlpaaGreat.Pure
namespace Go.Proofs.YtbchcjlllddlpaaGreat.Pure
set_option linter.unusedVariables false
set_option linter.unusedSimpArgs false
open Go Go.Ev Go.Lm Go.Pu Go.Dg
theorem srt_id (l : List KZ) : Zgf l = isrt l := by
 unfold Zgf
 rw [show l.map (fun (x : Int × Int) => (x.1, x.2)) = l from List.map_id l]
 exact List.map_id _
theorem lt_le {a b : KZ} (h : ltZ a b = true) : Zkp a b = true := by
 rw [Yby] at h
 unfold Zkp
 simp
 omega
theorem MZ.keys {s : Nat} {M : List (KZ × Za)} {z : List (KZ × Int)} (h : MZ s M z) : Zgf (M.map fun p => p.1) = z.map (·.1) := by
 rw [srt_id]
 refine Zmz Yfd ((Yfk _).trans ?_) (Zvi _) ?_
 ·have := h.perm.map (·.1)
  rw [Ywg] at this
  exact this
 ·rw [List.pairwise_map]
  exact h.ris.imp fun h => lt_le h
theorem Keys2_eq {k s : Nat} {M : List (KZ × Za)} {z : List (KZ × Int)} (h : MZ s M z) (hl : z.length ≤ 1000) : Zfu.f k M = some (z.map (·.1), M) := by
 unfold Zfu.f
 rw [Zgb (by rw [List.length_map, h.len]; omega), cond_true, h.keys]
 refine bof (v := z.map (·.1)) ?_ rfl
 unfold Zbw.f
 have : inS 0 ((z.map (·.1)).length : Int) (z.map (·.1)).length = true := by unfold inS; simp
 rw [decide_eq_true rfl, this, Bool.true_and, cond_true, Int.toNat_natCast, List.take_length]
theorem Yco : ∀ {z : List (KZ × Int)}, Ris z → ∀ p ∈ z, Zjy p.1 z = some p.2
 | [], _, p, hp => (List.not_mem_nil hp).elim
 | x :: r, h, p, hp => by
  have h' := List.pairwise_cons.1 h
  unfold Zjy
  rcases List.mem_cons.1 hp with rfl | hp
  ·rw [if_pos rfl]
  ·rw [if_neg (Ybw (h'.1 p hp)), Yco h'.2 p hp]
theorem getD_memZ {z : List (KZ × Int)} {i : Nat} (hi : i < z.length) : z.getD i ((0, 0), 0) ∈ z := by
 rw [List.getD_eq_getElem?_getD, Z3 hi]
 exact List.getElem_mem hi
end Go.Proofs.YtbchcjlllddlpaaGreat.Pure
namespace Go.Proofs.YtbchcjlllddlpaaGreat.Pure
set_option linter.unusedVariables false
set_option linter.unusedSimpArgs false
open Go Go.Ev Go.Lm Go.Pu Go.Dg
def kdZ (a : Int) : Nat := if Zjv a = 1 ∨ Zjv a = 2 then 0 else if Zjv a = 3 then 2 else 1
theorem TKind_eq (k : Nat) (a : Int) : Zfb.f k a = some (kdZ a : Int) := by
 unfold Zfb.f kdZ
 rw [CK_eq, Z0]
 by_cases h1 : Zjv a = 1
 ·rw [show (Zjv a == 1) = true by simpa using h1, cond_true, Z0]
  dsimp only
  rw [cond_true, if_pos (.inl h1)]
  rfl
 ·rw [show (Zjv a == 1) = false by simpa using h1, cond_false, Z0]
  dsimp only
  by_cases h2 : Zjv a = 2
  ·rw [show (Zjv a == 2) = true by simpa using h2, cond_true, if_pos (.inr h2)]
   rfl
  ·rw [show (Zjv a == 2) = false by simpa using h2, cond_false, if_neg (by omega)]
   by_cases h3 : Zjv a = 3
   ·rw [show (Zjv a == 3) = true by simpa using h3, cond_true, if_pos h3]
    rfl
   ·rw [show (Zjv a == 3) = false by simpa using h3, cond_false, if_neg h3]
    rfl
theorem kdZ_lt (a : Int) : kdZ a < 3 := by
 unfold kdZ
 split
 ·decide
 ·split <;> decide
def wz (v : Int) (s : Nat) (r : Za) : Int := sgB (!(decide (v < 0) == r.Zgw)) (tmN (v.natAbs * (val r).natAbs) (s + r.Zj.toNat))
theorem tmR_eq {v : Int} {s : Nat} {r : Za} (hv : Sm v) (hs : s ≤ 9) (hr : dOk r = true) : tmR (DV v s) r = mkD (wz v s r) 2 := by
 unfold tmR wz
 rw [if_pos ⟨Yge hv hs, hr⟩, Zky]
 rfl
def trZ (s : Nat) (by_ : Nat → Za) : List (KZ × Int) → Int → Option (List (KZ × Int) × Int)
 | [], S => some ([], S)
 | x :: r, S => if Sm (wz x.2 s (by_ (kdZ x.1.1))) ∧ Sm (S + wz x.2 s (by_ (kdZ x.1.1))) then (trZ s by_ r (S + wz x.2 s (by_ (kdZ x.1.1)))).map fun q => ((x.1, wz x.2 s (by_ (kdZ x.1.1))) :: q.1, q.2) else none
theorem Yiw {s : Nat} {by_ : Nat → Za} : ∀ {z : List (KZ × Int)} {S : Int} {q : List (KZ × Int) × Int}, Sm S → trZ s by_ z S = some q → q.1.map (·.1) = z.map (·.1) ∧ SmL q.1 ∧ Sm q.2
 | [], S, q, hS, h => by
  cases h
  exact ⟨rfl, fun p hp => (List.not_mem_nil hp).elim, hS⟩
 | x :: r, S, q, hS, h => by
  unfold trZ at h
  split at h
  ·rename_i hc
   obtain ⟨q', h1, h2⟩ := Option.map_eq_some_iff.1 h
   subst h2
   obtain ⟨g1, g2, g3⟩ := Yiw hc.2 h1
   refine ⟨by rw [List.map_cons, List.map_cons, g1], fun p hp => ?_, g3⟩
   rcases List.mem_cons.1 hp with rfl | hp
   ·exact hc.1
   ·exact g2 p hp
  ·cases h
theorem ris_keys {a b : List (KZ × Int)} (h : a.map (·.1) = b.map (·.1)) (hb : Ris b) : Ris a := by
 unfold Ris at hb ⊢
 have h1 : (b.map (·.1)).Pairwise fun x y => ltZ x y = true := by rw [List.pairwise_map]; exact hb
 rw [← h, List.pairwise_map] at h1
 exact h1
def By3 (l : List Za) : Prop := l.length = 3 ∧ ∀ i, i < 3 → W2 (l.getD i Za.zero).f_C ∧ dOk (l.getD i Za.zero) = true
theorem sgn_ne (v : Int) : (sgn v != 0) = !decide (v = 0) := by
 rw [bne, Yay]
theorem tr_step {k : Nat} (hk : 1002 < k) {s : Nat} (hs : s ≤ 4) {M : List (KZ × Za)} {z : List (KZ × Int)} (hM : MZ s M z) {l : List Za} (hl : By3 l) {i : Nat} (hi : i < z.length) (hz : z.length ≤ 1000) (d : Za) (N : List (KZ × Za)) {S : Int} (hS : Sm S) (T : List (Zm × Za)) :
  Zco.l6.once k (z.map (·.1), (z.length : Int), (i : Int), M, d.Zgw, d.f_C.1, d.f_C.2, d.Zj, l, N, (DV S 2).Zgw, (DV S 2).f_C.1, (DV S 2).f_C.2, (DV S 2).Zj, T) =
   some (if Sm (wz (z.getD i ((0, 0), 0)).2 s (l.getD (kdZ (z.getD i ((0, 0), 0)).1.1) Za.zero)) ∧ Sm (S + wz (z.getD i ((0, 0), 0)).2 s (l.getD (kdZ (z.getD i ((0, 0), 0)).1.1) Za.zero)) then
    .inl (z.map (·.1), (z.length : Int), ((i + 1 : Nat) : Int), M, d.Zgw, d.f_C.1, d.f_C.2, d.Zj, l, (if wz (z.getD i ((0, 0), 0)).2 s (l.getD (kdZ (z.getD i ((0, 0), 0)).1.1) Za.zero) = 0 then N else Zke (Zcd (z.getD i ((0, 0), 0)).1) (z.getD i ((0, 0), 0)).1 (DV (wz (z.getD i ((0, 0), 0)).2 s (l.getD (kdZ (z.getD i ((0, 0), 0)).1.1) Za.zero)) 2) N),
     (DV (S + wz (z.getD i ((0, 0), 0)).2 s (l.getD (kdZ (z.getD i ((0, 0), 0)).1.1) Za.zero)) 2).Zgw, (DV (S + wz (z.getD i ((0, 0), 0)).2 s (l.getD (kdZ (z.getD i ((0, 0), 0)).1.1) Za.zero)) 2).f_C.1, (DV (S + wz (z.getD i ((0, 0), 0)).2 s (l.getD (kdZ (z.getD i ((0, 0), 0)).1.1) Za.zero)) 2).f_C.2, (DV (S + wz (z.getD i ((0, 0), 0)).2 s (l.getD (kdZ (z.getD i ((0, 0), 0)).1.1) Za.zero)) 2).Zj, T)
   else .inr (.inr ([], ⟨false, (0, 0), 0⟩, 3, M, ⟨T⟩))) := by
 have hx := getD_memZ hi
 have hg := hM.get (z.getD i ((0, 0), 0)).1
 rw [Yco hM.ris _ hx] at hg
 have hsx := hM.sm _ hx
 have hwr := Zhh (show -9223372036854775808 ≤ (i : Int) + 1 ∧ (i : Int) + 1 < 9223372036854775808 by omega)
 have hgd := getD_map (fun p : KZ × Int => p.1) ((0, 0), 0) (0, 0) hi
 unfold Zco.l6.once
 dsimp only
 rw [ct (show (i : Int) < (z.length : Int) by omega), Zhk (by omega) (by rw [List.length_map]; omega), cond_true, Int.toNat_natCast]
 simp only [hgd, hwr]
 generalize z.getD i ((0, 0), 0) = x at hg hsx ⊢
 have hg' : Zhz (Zcd (x.1.1, x.1.2)) M = some (DV x.2 s) := hg
 have hk3 := kdZ_lt x.1.1
 obtain ⟨r1, r2⟩ := hl.2 _ hk3
 rw [hg', Z0, Z0]
 refine bof (TKind_eq k x.1.1) ?_
 rw [Zhk (by omega) (by omega), cond_true, Int.toNat_natCast, Zja hk3, cond_true]
 generalize l.getD (kdZ x.1.1) Za.zero = r at r1 r2 ⊢
 have hT : Zex.f k (⟨(DV x.2 s).Zgw, ((DV x.2 s).f_C.1, (DV x.2 s).f_C.2), (DV x.2 s).Zj⟩ : Za) (⟨r.Zgw, (r.f_C.1, r.f_C.2), r.Zj⟩ : Za) 2 4 = some (mkD (wz x.2 s r) 2) := by
  rw [← tmR_eq hsx (by omega) r2]
  exact Wap (by omega) (Zjg hsx) r1
 refine bof hT ?_
 by_cases h1 : Sm (wz x.2 s r)
 ·have m1 : mkD (wz x.2 s r) 2 = (DV (wz x.2 s r) 2, 0) := if_pos h1
  rw [m1]
  dsimp only
  rw [show ((0 : Int) != 0) = false from rfl, cond_false]
  refine bof (v := mkD (S + wz x.2 s r) 2) (Yok (by omega) hS h1 (by decide)) ?_
  by_cases h2 : Sm (S + wz x.2 s r)
  ·have m2 : mkD (S + wz x.2 s r) 2 = (DV (S + wz x.2 s r) 2, 0) := if_pos h2
   rw [m2, if_pos ⟨h1, h2⟩]
   dsimp only
   rw [show ((0 : Int) != 0) = false from rfl, cond_false]
   refine bof (v := sgn (wz x.2 s r)) (Zgo (by omega) h1 (by decide)) ?_
   rw [sgn_ne]
   by_cases h0 : wz x.2 s r = 0
   ·rw [decide_eq_true h0, if_pos h0]
    rfl
   ·rw [decide_eq_false h0, if_neg h0]
    rfl
  ·have m2 : mkD (S + wz x.2 s r) 2 = (nil0, 3) := if_neg h2
   rw [m2, if_neg (fun h => h2 h.2)]
   rfl
 ·have m1 : mkD (wz x.2 s r) 2 = (nil0, 3) := if_neg h1
  rw [m1, if_neg (fun h => h1 h.1)]
  rfl
theorem tr_loop {k : Nat} (hk : 1002 < k) {s : Nat} (hs : s ≤ 4) {M : List (KZ × Za)} {z : List (KZ × Int)} (hM : MZ s M z) {l : List Za} (hl : By3 l) (hz : z.length ≤ 1000) (d : Za) (T : List (Zm × Za)) : ∀ (m i : Nat) (w : List (KZ × Int)) (S : Int), Sm S → i ≤ z.length → w.map (·.1) = (z.take i).map (·.1) → z.length - i < m →
  iter (Zco.l6.once k) m (z.map (·.1), (z.length : Int), (i : Int), M, d.Zgw, d.f_C.1, d.f_C.2, d.Zj, l, (Zie w).map (mkz 2), (DV S 2).Zgw, (DV S 2).f_C.1, (DV S 2).f_C.2, (DV S 2).Zj, T) = some (match trZ s (fun j => l.getD j Za.zero) (z.drop i) S with
   | some q => .inl (d.Zgw, d.f_C.1, d.f_C.2, d.Zj, (Zie (w ++ q.1)).map (mkz 2), (DV q.2 2).Zgw, (DV q.2 2).f_C.1, (DV q.2 2).f_C.2, (DV q.2 2).Zj, M, T)
   | none => .inr ([], ⟨false, (0, 0), 0⟩, 3, M, ⟨T⟩)) := by
 intro m
 induction m with
 | zero => intro i w S _ _ _ h; omega
 | succ m ih =>
  intro i w S hS hi hw hm
  by_cases hc : i < z.length
  ·have st := tr_step hk hs hM hl hc hz d ((Zie w).map (mkz 2)) hS T
   have hnew : ∀ p ∈ w, p.1 ≠ (z.getD i ((0, 0), 0)).1 := fun p hp e => by
    have h1 : p.1 ∈ (z.take i).map (·.1) := by rw [← hw]; exact List.mem_map.2 ⟨p, hp, rfl⟩
    obtain ⟨q, hq, hqe⟩ := List.mem_map.1 h1
    have h2 := hM.ris
    unfold Ris at h2
    rw [← List.take_append_drop i z, List.pairwise_append] at h2
    have h3 := h2.2.2 q hq (z.getD i ((0, 0), 0)) (by rw [Zgm ((0, 0), 0) hc]; exact List.mem_cons_self)
    exact Ybw h3 (hqe.trans e)
   have htk : (z.take (i + 1)).map (·.1) = (z.take i).map (·.1) ++ [(z.getD i ((0, 0), 0)).1] := by
    rw [List.take_add_one, Z3 hc, List.map_append, List.getD_eq_getElem?_getD, Z3 hc]
    rfl
   rw [Zgm ((0, 0), 0) hc]
   unfold trZ
   generalize z.getD i ((0, 0), 0) = x at st hnew htk ⊢
   generalize wz x.2 s (l.getD (kdZ x.1.1) Za.zero) = v at st ⊢
   by_cases h : Sm v ∧ Sm (S + v)
   ·rw [if_pos h] at st ⊢
    have hput : (if v = 0 then (Zie w).map (mkz 2) else Zke (Zcd x.1) x.1 (DV v 2) ((Zie w).map (mkz 2))) = (Zie (w ++ [(x.1, v)])).map (mkz 2) := by
     unfold Zie
     rw [List.filter_append]
     by_cases h0 : v = 0
     ·rw [if_pos h0, h0]
      simp
     ·rw [if_neg h0, Ysm fun p hp => by
       obtain ⟨q, hq, rfl⟩ := List.mem_map.1 hp
       exact hnew q (List.mem_filter.1 hq).1]
      simp [h0, mkz]
    rw [hput] at st
    rw [Zcl st, ih (i + 1) (w ++ [(x.1, v)]) (S + v) h.2 (by omega) (by rw [List.map_append, hw, htk]; rfl) (by omega)]
    cases trZ s (fun j => l.getD j Za.zero) (z.drop (i + 1)) (S + v) with
    | none => rfl
    | some q =>
     show some (Sum.inl (_, _, _, _, (Zie (w ++ [(x.1, v)] ++ q.1)).map (mkz 2), _)) = some (Sum.inl (_, _, _, _, (Zie (w ++ (x.1, v) :: q.1)).map (mkz 2), _))
     rw [List.append_assoc]
     rfl
   ·rw [if_neg h] at st ⊢
    exact Zbm st
  ·rw [List.drop_eq_nil_of_le (by omega)]
   refine Zbm ?_
   unfold Zco.l6.once trZ
   dsimp only
   rw [cf (by omega), List.append_nil]
end Go.Proofs.YtbchcjlllddlpaaGreat.Pure
namespace Go.Proofs.YtbchcjlllddlpaaGreat.Pure
set_option linter.unusedVariables false
set_option linter.unusedSimpArgs false
open Go Go.Ev Go.Lm Go.Pu Go.Dg
theorem Sim.gotR {T : List (Zm × Za)} {has : List Bool} {ds : List Za} (h : Sim T has ds) (q : Zm) :
  gotR has ds q = (match Zhz (Zam q) T with | some d => (d, 0, ⟨has, ds⟩) | none => (nil0, 11, ⟨has, ds⟩)) := by
 obtain ⟨D, E, h1, h2, _⟩ := h.agree q
 rw [h2]
 cases hm : Zhz (Zam q) T with
 | some d => rw [hm] at h1; cases h1; rfl
 | none => rw [hm] at h1; cases h1; rfl
def RT (T : List (Zm × Za)) : Prop := ∀ p ∈ T, W2 p.2.f_C ∧ dOk p.2 = true
theorem Ykn {q : Zm} {d : Za} : ∀ {T : List (Zm × Za)}, Zhz (Zam q) T = some d → ∃ p ∈ T, p.2 = d
 | [], h => by cases h
 | x :: r, h => by
  unfold Zhz at h
  cases hk : Zam q x.1 with
  | true =>
   rw [hk] at h
   cases h
   exact ⟨x, List.mem_cons_self, rfl⟩
  | false =>
   rw [hk] at h
   obtain ⟨p, hp, e⟩ := Ykn h
   exact ⟨p, List.mem_cons_of_mem _ hp, e⟩
theorem RT.get {T : List (Zm × Za)} (h : RT T) {q : Zm} {d : Za} (hq : Zhz (Zam q) T = some d) : W2 d.f_C ∧ dOk d = true := by
 obtain ⟨p, hp, rfl⟩ := Ykn hq
 exact h p hp
theorem Ykm {q : Zm} {d : Za} : ∀ {T : List (Zm × Za)} {p : Zm × Za}, p ∈ Zke (Zam q) q d T → p.2 = d ∨ p ∈ T
 | [], p, h => by
  rw [List.mem_singleton.1 h]
  exact .inl rfl
 | x :: r, p, h => by
  unfold Zke at h
  cases hk : Zam q x.1 with
  | true =>
   rw [hk, cond_true] at h
   rcases List.mem_cons.1 h with rfl | h
   ·exact .inl rfl
   ·exact .inr (List.mem_cons_of_mem _ h)
  | false =>
   rw [hk, cond_false] at h
   rcases List.mem_cons.1 h with rfl | h
   ·exact .inr List.mem_cons_self
   ·rcases Ykm h with h | h
    ·exact .inl h
    ·exact .inr (List.mem_cons_of_mem _ h)
noncomputable def rt3 (T : List (Zm × Za)) (p : Int) : Option (Za × Za × Za) := match Zhz (Zam ⟨p, 0⟩) T, Zhz (Zam ⟨p, 1⟩) T, Zhz (Zam ⟨p, 2⟩) T with
 | some a, some b, some c => some (a, b, c)
 | _, _, _ => none
theorem Yry (k : Nat) (T : List (Zm × Za)) (p : Int) {i : Nat} (hi : i < 3) (x3 x4 : List Za) :
  match Zhz (Zam ⟨p, (i : Int)⟩) T with
  | some d => Zbl.l3.once k (p, (i : Int), T, x3, x4) = some (.inl (p, ((i + 1 : Nat) : Int), T, x3, x4.set i d))
  | none => ∃ g, Zbl.l3.once k (p, (i : Int), T, x3, x4) = some (.inr (.inr (g, 11, ⟨T⟩))) := by
 have hwr := Zhh (show -9223372036854775808 ≤ (i : Int) + 1 ∧ (i : Int) + 1 < 9223372036854775808 by omega)
 have hg := Get_eq k T ⟨p, (i : Int)⟩
 unfold Zbl.l3.once
 dsimp only
 rw [ct (show (i : Int) < 3 by omega), hg, Z0, Zhk (by omega) (by omega), cond_true, Int.toNat_natCast, Zja hi, cond_true, hwr]
 cases Zhz (Zam ⟨p, (i : Int)⟩) T with
 | some d => rfl
 | none => exact ⟨_, rfl⟩
theorem TRates_eq {k : Nat} (hk : 10 < k) (T : List (Zm × Za)) (p : Int) : ∃ g, Zbl.f k ⟨T⟩ p = some (match rt3 T p with
  | some d => (d, 0, ⟨T⟩)
  | none => (g, 11, ⟨T⟩)) := by
 obtain ⟨j, rfl⟩ : ∃ j, k = j + 5 := ⟨k - 5, by omega⟩
 have s0 := Yry (j + 5) T p (i := 0) (by decide) [⟨false, (0, 0), 0⟩, ⟨false, (0, 0), 0⟩, ⟨false, (0, 0), 0⟩] [⟨false, (0, 0), 0⟩, ⟨false, (0, 0), 0⟩, ⟨false, (0, 0), 0⟩]
 have fin : ∀ (a b c : Za), Zbl.l3.once (j + 5) (p, 3, T, [⟨false, (0, 0), 0⟩, ⟨false, (0, 0), 0⟩, ⟨false, (0, 0), 0⟩], [a, b, c]) = some (.inr (.inl ([⟨false, (0, 0), 0⟩, ⟨false, (0, 0), 0⟩, ⟨false, (0, 0), 0⟩], [a, b, c], T))) := fun _ _ _ => rfl
 unfold Zbl.f rt3
 cases h0 : Zhz (Zam ⟨p, 0⟩) T with
 | none =>
  rw [show ((0 : Nat) : Int) = 0 from rfl, h0] at s0
  obtain ⟨g, s0⟩ := s0
  refine ⟨(⟨g.1.Zgw, (g.1.f_C.1, g.1.f_C.2), g.1.Zj⟩, ⟨g.2.1.Zgw, (g.2.1.f_C.1, g.2.1.f_C.2), g.2.1.Zj⟩, ⟨g.2.2.Zgw, (g.2.2.f_C.1, g.2.2.f_C.2), g.2.2.Zj⟩), ?_⟩
  exact bof (Zbm (n := j + 4) s0) rfl
 | some a =>
  rw [show ((0 : Nat) : Int) = 0 from rfl, h0] at s0
  have s1 := Yry (j + 5) T p (i := 1) (by decide) [⟨false, (0, 0), 0⟩, ⟨false, (0, 0), 0⟩, ⟨false, (0, 0), 0⟩] [a, ⟨false, (0, 0), 0⟩, ⟨false, (0, 0), 0⟩]
  cases h1 : Zhz (Zam ⟨p, 1⟩) T with
  | none =>
   rw [show ((1 : Nat) : Int) = 1 from rfl, h1] at s1
   obtain ⟨g, s1⟩ := s1
   refine ⟨(⟨g.1.Zgw, (g.1.f_C.1, g.1.f_C.2), g.1.Zj⟩, ⟨g.2.1.Zgw, (g.2.1.f_C.1, g.2.1.f_C.2), g.2.1.Zj⟩, ⟨g.2.2.Zgw, (g.2.2.f_C.1, g.2.2.f_C.2), g.2.2.Zj⟩), ?_⟩
   exact bof ((Zcl (n := j + 4) s0).trans (Zbm (n := j + 3) s1)) rfl
  | some b =>
   rw [show ((1 : Nat) : Int) = 1 from rfl, h1] at s1
   have s2 := Yry (j + 5) T p (i := 2) (by decide) [⟨false, (0, 0), 0⟩, ⟨false, (0, 0), 0⟩, ⟨false, (0, 0), 0⟩] [a, b, ⟨false, (0, 0), 0⟩]
   cases h2 : Zhz (Zam ⟨p, 2⟩) T with
   | none =>
    rw [show ((2 : Nat) : Int) = 2 from rfl, h2] at s2
    obtain ⟨g, s2⟩ := s2
    refine ⟨(⟨g.1.Zgw, (g.1.f_C.1, g.1.f_C.2), g.1.Zj⟩, ⟨g.2.1.Zgw, (g.2.1.f_C.1, g.2.1.f_C.2), g.2.1.Zj⟩, ⟨g.2.2.Zgw, (g.2.2.f_C.1, g.2.2.f_C.2), g.2.2.Zj⟩), ?_⟩
    exact bof ((Zcl (n := j + 4) s0).trans ((Zcl (n := j + 3) s1).trans (Zbm (n := j + 2) s2))) rfl
   | some c =>
    rw [show ((2 : Nat) : Int) = 2 from rfl, h2] at s2
    refine ⟨(a, b, c), ?_⟩
    exact bof ((Zcl (n := j + 4) s0).trans ((Zcl (n := j + 3) s1).trans ((Zcl (n := j + 2) s2).trans (Zbm (n := j + 1) (fin a b c))))) rfl
theorem rt3_by {T : List (Zm × Za)} (h : RT T) {p : Int} {d : Za × Za × Za} (hd : rt3 T p = some d) : By3 [d.1, d.2.1, d.2.2] ∧ ∀ i : Nat, i < 3 → Zhz (Zam ⟨p, (i : Int)⟩) T = some ([d.1, d.2.1, d.2.2].getD i Za.zero) := by
 unfold rt3 at hd
 split at hd
 ·rename_i a b c ha hb hc
  cases hd
  have g : ∀ i : Nat, i < 3 → Zhz (Zam ⟨p, (i : Int)⟩) T = some ([a, b, c].getD i Za.zero) := fun i hi => by
   rcases i with _ | _ | _ | i
   ·exact ha
   ·exact hb
   ·exact hc
   ·omega
  exact ⟨⟨rfl, fun i hi => h.get (g i hi)⟩, g⟩
 ·cases hd
theorem Trans_eq {k : Nat} (hk : 1002 < k) {s : Nat} (hs : s ≤ 4) {M : List (KZ × Za)} {z : List (KZ × Int)} (hM : MZ s M z) (hz : z.length ≤ 1000) {T : List (Zm × Za)} (hT : RT T) (p : Int) :
  Zco.f k M ⟨T⟩ p = some (match rt3 T p with
   | some d => (match trZ s (fun j => [d.1, d.2.1, d.2.2].getD j Za.zero) z 0 with
    | some q => ((Zie q.1).map (mkz 2), DV (-q.2) 2, 0, M, ⟨T⟩)
    | none => ([], ⟨false, (0, 0), 0⟩, 3, M, ⟨T⟩))
   | none => ([], ⟨false, (0, 0), 0⟩, 11, M, ⟨T⟩)) := by
 obtain ⟨g, hr⟩ := TRates_eq (k := k) (by omega) T p
 unfold Zco.f
 refine bof hr ?_
 cases hd : rt3 T p with
 | none => rfl
 | some d =>
  obtain ⟨hby, _⟩ := rt3_by hT hd
  dsimp only
  rw [show ((0 : Int) != 0) = false from rfl, cond_false]
  have ho : Zgp.f k 0 2 = some (DV 0 2) := Of_DV k (n := 0) (by omega) 2
  refine bof ho (bof (Keys2_eq hM hz) ?_)
  have it := tr_loop hk hs hM hby hz ⟨false, (0, 0), 0⟩ T k 0 [] 0 Sm0 (Nat.zero_le _) rfl (by omega)
  rw [List.drop_zero] at it
  dsimp only
  rw [List.length_map]
  refine bof it ?_
  cases hq : trZ s (fun j => [d.1, d.2.1, d.2.2].getD j Za.zero) z 0 with
  | none => rfl
  | some q =>
   dsimp only
   obtain ⟨_, _, h3⟩ := Yiw Sm0 hq
   exact bof (v := DV (-q.2) 2) (Yub (k := k) (by omega) h3 (by decide)) rfl
end Go.Proofs.YtbchcjlllddlpaaGreat.Pure
namespace Go.Proofs.YtbchcjlllddlpaaGreat.Pure
set_option linter.unusedVariables false
set_option linter.unusedSimpArgs false
open Go Go.Ev Go.Lm Go.Pu Go.Dg
def sumP (P : KZ → Bool) : List (KZ × Int) → Int
 | [] => 0
 | x :: r => (if P x.1 = true then x.2 else 0) + sumP P r
structure BZ (n : Nat) (z : List (KZ × Int)) : Prop where
 h : ∀ q ∈ z, q.2.natAbs ≤ n * 100000000
theorem Sm_of {v : Int} {n : Nat} (hn : n ≤ 100000) (h : v.natAbs ≤ n * 100000000) : Sm v := by
 unfold Sm
 have : n * 100000000 ≤ 100000 * 100000000 := Nat.mul_le_mul_right _ hn
 omega
theorem putZ_ok {k : KZ} {v : Int} (hv : v.natAbs ≤ 100000000) {n : Nat} (hn : n + 1 ≤ 100000) (z : List (KZ × Int)) (h : BZ n z) : ∃ z', Zzi k v z = some z' ∧ BZ (n + 1) z' := by
 induction z with
 | nil =>
  refine ⟨[(k, v)], by unfold Zzi; rfl, ⟨fun q hq => ?_⟩⟩
  rw [List.mem_singleton.1 hq]
  dsimp only
  omega
 | cons x r ih =>
  have hx := h.h x List.mem_cons_self
  have up : ∀ q ∈ x :: r, q.2.natAbs ≤ (n + 1) * 100000000 := fun q hq => Nat.le_trans (h.h q hq) (Nat.mul_le_mul_right _ (Nat.le_succ n))
  unfold Zzi
  by_cases e : x.1 = k
  ·have hS : (x.2 + v).natAbs ≤ (n + 1) * 100000000 := by omega
   rw [if_pos e, if_pos (Sm_of hn hS)]
   refine ⟨_, rfl, ⟨fun q hq => ?_⟩⟩
   rcases List.mem_cons.1 hq with rfl | hq
   ·exact hS
   ·exact up q (List.mem_cons_of_mem _ hq)
  ·rw [if_neg e]
   by_cases hl : ltZ k x.1 = true
   ·rw [if_pos hl]
    refine ⟨_, rfl, ⟨fun q hq => ?_⟩⟩
    rcases List.mem_cons.1 hq with rfl | hq
    ·dsimp only
     omega
    ·exact up q hq
   ·rw [if_neg hl]
    obtain ⟨z', h1, h2⟩ := ih ⟨fun q hq => h.h q (List.mem_cons_of_mem _ hq)⟩
    rw [h1]
    refine ⟨_, rfl, ⟨fun q hq => ?_⟩⟩
    rcases List.mem_cons.1 hq with rfl | hq
    ·exact up _ List.mem_cons_self
    ·exact h2.h q hq
def LB (x : Zc) : Prop := (val x.Zv).natAbs ≤ 100000000
theorem Yqb {o : Bool} : ∀ {ls : List Zc} {n : Nat} {z : List (KZ × Int)}, (∀ x ∈ ls, LB x) → n + ls.length ≤ 100000 → BZ n z → ∃ z', Ztw o ls z = some z' ∧ BZ (n + ls.length) z'
 | [], n, z, _, _, h => ⟨z, rfl, h⟩
 | x :: r, n, z, hl, hn, h => by
  rw [List.length_cons] at hn ⊢
  obtain ⟨z1, h1, h2⟩ := putZ_ok (k := kzL o x) (hl x List.mem_cons_self) (n := n) (by omega) z h
  obtain ⟨z2, h3, h4⟩ := Yqb (o := o) (fun y hy => hl y (List.mem_cons_of_mem _ hy)) (by omega) h2
  refine ⟨z2, ?_, by rw [show n + (r.length + 1) = n + 1 + r.length by omega]; exact h4⟩
  unfold Ztw
  rw [h1, Z0, h3]
theorem BZ.up {n m : Nat} {z : List (KZ × Int)} (h : BZ n z) (hn : n ≤ m) : BZ m z := ⟨fun q hq => Nat.le_trans (h.h q hq) (Nat.mul_le_mul_right _ hn)⟩
theorem Ytj {p : Int} {t : Ze} : ∀ {es : List Zd} {n : Nat} {z : List (KZ × Int)}, (∀ x ∈ es, x.Zci.length ≤ 8 ∧ ∀ y ∈ x.Zci, LB y) → n + 8 * es.length ≤ 100000 → BZ n z → ∃ z', entZ p t es z = some z' ∧ BZ (n + 8 * es.length) z'
 | [], n, z, _, _, h => ⟨z, rfl, h⟩
 | x :: r, n, z, hl, hn, h => by
  rw [List.length_cons] at hn ⊢
  have hx := hl x List.mem_cons_self
  unfold entZ
  split
  ·obtain ⟨z2, h3, h4⟩ := Ytj (p := p) (t := t) (fun y hy => hl y (List.mem_cons_of_mem _ hy)) (by omega) h
   exact ⟨z2, h3, h4.up (by omega)⟩
  ·obtain ⟨z1, h1, h2⟩ := Yqb (o := opn t x.Zbj) hx.2 (n := n) (by omega) h
   obtain ⟨z2, h3, h4⟩ := Ytj (p := p) (t := t) (fun y hy => hl y (List.mem_cons_of_mem _ hy)) (n := n + x.Zci.length) (by omega) h2
   refine ⟨z2, ?_, h4.up (by omega)⟩
   rw [h1, Z0, h3]
theorem Ypb (P : KZ → Bool) : ∀ z : List (KZ × Int), sumP P (Zie z) = sumP P z
 | [] => rfl
 | x :: r => by
  have ih := Ypb P r
  unfold Zie at ih ⊢
  by_cases h : x.2 = 0
  ·rw [List.filter_cons_of_neg (by simp [h]), ih]
   show _ = (if P x.1 = true then x.2 else 0) + sumP P r
   rw [h]
   split <;> exact (Int.zero_add _).symm
  ·rw [List.filter_cons_of_pos (by simpa using h)]
   unfold sumP
   rw [ih]
theorem BZ.some {n : Nat} {z : List (KZ × Int)} (h : BZ n z) : BZ n (Zie z) := ⟨fun q hq => h.h q (List.mem_filter.1 hq).1⟩
end Go.Proofs.YtbchcjlllddlpaaGreat.Pure
namespace Go.Proofs.YtbchcjlllddlpaaGreat.Pure
set_option linter.unusedVariables false
set_option linter.unusedSimpArgs false
open Go Go.Ev Go.Lm Go.Pu Go.Dg
theorem Yzt {k : Nat} (hk : 1002 < k) {s : Nat} (hs : s ≤ 4) {L : List Int} (hL : L.length ≤ 9223372036854775807) : ∀ x ∈ Zpl k s L, LB x := by
 obtain ⟨y, hy, y1, y2, y3⟩ := Yny (k := k) (by omega) L hL (by omega : s ≤ 9) (b := 0) (by decide) (e := 4) (by decide)
 have : Zpl k s L = y := by unfold Zpl; rw [hy]; rfl
 rw [this]
 intro x hx
 obtain ⟨v, v1, v2, _⟩ := (y3 rfl).2.2.2 x hx
 unfold LB
 rw [v1, Zky]
 exact v2
def BInv (b : Zi) : Prop := ∀ x ∈ b.f_l, ∀ y ∈ x.Zci, LB y
theorem BInv.add {b : Zi} (h : BInv b) {x : Zd} (hx : ∀ y ∈ x.Zci, LB y) : BInv (Znu b x).2.2 := by
 unfold Znu
 split
 ·split
  ·exact h
  ·intro y hy
   rcases List.mem_append.1 hy with hy | hy
   ·exact h y hy
   ·have : y = x := by simpa using hy
    rw [this]
    exact hx
 ·exact h
theorem BInv.post {s : Nat} {b : Zi} (h : BInv b) (p : Int) {l : List Zc} (hl : ∀ y ∈ l, LB y) : BInv (Zqx s b p l).2.2 := by
 unfold Zqx
 split
 ·exact h.add hl
 ·exact h
theorem BInv.step {k : Nat} (hk : 1002 < k) {s : Nat} (hs : s ≤ 4) {b : Zi} (h : BInv b) {x : Zr} (hx : Yij x) : BInv (Zjs k s b x) := by
 have turn : ∀ c, BInv (Zjz b c).2 := fun c => by
  unfold Zjz
  dsimp only
  cases c.2.2 == 0 <;> exact h
 unfold Zjs
 cases pick x.Zes 8 == 0 with
 | true => exact turn _
 | false =>
  rw [cond_false]
  cases pick x.Zes 8 == 1 with
  | true =>
   rw [cond_true]
   unfold Ybe
   split
   ·exact h
   ·rename_i h0
    split
    ·exact h
    ·refine h.add fun y hy => ?_
     obtain ⟨z, hz, rfl⟩ := List.mem_map.1 hy
     have := h _ (Zfs Zd.zero (by omega)) z hz
     unfold LB at this ⊢
     show (val (DV (-(val z.Zv)) s)).natAbs ≤ _
     rw [Zky, Int.natAbs_neg]
     exact this
  | false =>
   rw [cond_false]
   cases pick x.Zes 8 == 2 with
   | true => exact turn _
   | false => exact h.post _ (Yzt hk hs hx)
theorem bkN_B {k : Nat} (hk : 1002 < k) {s : Nat} (hs : s ≤ 4) {l : List Zr} (hw : ∀ z ∈ l, Yij z) : BInv (bkN k s l) := by
 have : ∀ i, i ≤ l.length → BInv (bkR k s l i) := by
  intro i
  induction i with
  | zero => exact fun _ x hx => (List.not_mem_nil hx).elim
  | succ i ih => exact fun hi => (ih (by omega)).step hk hs (hw _ (Zxd (by omega)))
 exact this _ (Nat.min_le_left _ _)
theorem Yqj {C : List Bool} {n : Nat} (h : n < C.length) (v : Bool) (i : Nat) : (C.set n v).getD i false = if i = n then v else C.getD i false := by
 rw [List.getD_eq_getElem?_getD, List.getD_eq_getElem?_getD, List.getElem?_set]
 by_cases e : i = n
 ·rw [if_pos e, if_pos e.symm, if_pos h]; rfl
 ·rw [if_neg e, if_neg (fun h => e h.symm)]
def ClC (c : Nat) (C : List Bool) : Prop := C.length = 12 ∧ ∀ i : Nat, i < 12 → C.getD i false = decide (i < c)
def ClN (b : Zi) : Prop := ∃ c : Nat, c ≤ 3 ∧ ClC c b.f_t.Zo
theorem ClC.clo {c : Nat} {C : List Bool} (h : ClC c C) {p : Int} (hp : 0 ≤ p ∧ p < 12) (hc : Pe.cOk C p = true) : p.toNat = c := by
 unfold Pe.cOk at hc
 simp only [Bool.and_eq_true, decide_eq_true_eq, Bool.not_eq_true', Bool.or_eq_true, decide_eq_false_iff_not] at hc
 obtain ⟨_, _, h1, h2⟩ := hc
 rw [h.2 _ (by omega), decide_eq_false_iff_not] at h1
 rcases h2 with h2 | h2
 ·omega
 ·rw [h.2 _ (by omega), decide_eq_true_eq] at h2
  omega
theorem ClC.reo {c : Nat} {C : List Bool} (h : ClC c C) {p : Int} (hp : 0 ≤ p ∧ p < 11) (hc : Pe.rOk C p = true) : p.toNat + 1 = c := by
 unfold Pe.rOk at hc
 simp only [Bool.and_eq_true, decide_eq_true_eq, Bool.not_eq_true', Bool.or_eq_true, decide_eq_false_iff_not] at hc
 obtain ⟨_, _, h1, h2⟩ := hc
 rw [h.2 _ (by omega), decide_eq_true_eq] at h1
 rcases h2 with h2 | h2
 ·omega
 ·rw [h.2 _ (by omega), decide_eq_false_iff_not] at h2
  omega
theorem ClC.up {c : Nat} {C : List Bool} (h : ClC c C) (hc : c < 12) : ClC (c + 1) (C.set c true) := by
 refine ⟨by rw [List.length_set]; exact h.1, fun i hi => ?_⟩
 rw [Yqj (by rw [h.1]; exact hc), h.2 i hi]
 by_cases e : i = c
 ·rw [if_pos e, decide_eq_true (by omega)]
 ·rw [if_neg e]
  exact decide_eq_decide.2 ⟨fun h => by omega, fun h => by omega⟩
theorem ClC.down {c : Nat} {C : List Bool} (h : ClC (c + 1) C) (hc : c < 12) : ClC c (C.set c false) := by
 refine ⟨by rw [List.length_set]; exact h.1, fun i hi => ?_⟩
 rw [Yqj (by rw [h.1]; exact hc), h.2 i hi]
 by_cases e : i = c
 ·rw [if_pos e, decide_eq_false (by omega)]
 ·rw [if_neg e]
  exact decide_eq_decide.2 ⟨fun h => by omega, fun h => by omega⟩
theorem ClN.step {k s : Nat} {b : Zi} (h : ClN b) (x : Zr) : ClN (Zjs k s b x) := by
 obtain ⟨c, hc, hC⟩ := h
 have add : ∀ y, ClN (Znu b y).2.2 := fun y => by
  unfold Znu
  split
  ·split
   ·exact ⟨c, hc, hC⟩
   ·exact ⟨c, hc, hC⟩
  ·exact ⟨c, hc, hC⟩
 have bp := Zfw x.f_B (m := 3) (by decide)
 unfold Zjs
 cases pick x.Zes 8 == 0 with
 | true =>
  rw [cond_true]
  unfold Zjz Pe.clo
  by_cases h0 : Pe.cOk b.f_t.Zo (pick x.f_B 3) = true
  ·rw [if_pos h0]
   have e := hC.clo (by omega) h0
   refine ⟨c + 1, by omega, ?_⟩
   have := hC.up (by omega)
   rw [← e] at this ⊢
   exact this
  ·rw [if_neg h0]
   exact ⟨c, hc, hC⟩
 | false =>
  rw [cond_false]
  cases pick x.Zes 8 == 1 with
  | true =>
   rw [cond_true]
   unfold Ybe
   split
   ·exact ⟨c, hc, hC⟩
   ·split
    ·exact ⟨c, hc, hC⟩
    ·exact add _
  | false =>
   rw [cond_false]
   cases pick x.Zes 8 == 2 with
   | true =>
    rw [cond_true]
    unfold Zjz Pe.reo
    by_cases h0 : Pe.rOk b.f_t.Zo (pick x.f_B 3) = true
    ·rw [if_pos h0]
     have e := hC.reo (by omega) h0
     refine ⟨(pick x.f_B 3).toNat, by omega, ?_⟩
     rw [← e] at hC
     exact hC.down (by omega)
    ·rw [if_neg h0]
     exact ⟨c, hc, hC⟩
   | false =>
    rw [cond_false]
    unfold Zqx
    split
    ·exact add _
    ·exact ⟨c, hc, hC⟩
theorem trial_ok {k : Nat} (hk : 1002 < k) {s : Nat} (hs : s ≤ 4) {b : Zi} (h : Zqu s b) (hB : BInv b) {p : Int} (hp : 0 ≤ p ∧ p < 12) :
  ∃ M z, Zba.f k b p = some (M, 0, b) ∧ entZ p b.f_t b.f_l [] = some z ∧ MZ s M (Zie z) ∧ Ris z ∧ (Zie z).length ≤ 1000 ∧ BZ 320 (Zie z) := by
 obtain ⟨M, e, h1, h2⟩ := Trial_eq hk hs h p
 have hl := h.len
 obtain ⟨z, h3, h4⟩ := Ytj (p := p) (t := b.f_t) (es := b.f_l) (n := 0) (z := []) (fun x hx => ⟨(h.ls x hx).1, hB x hx⟩) (by omega) ⟨fun q hq => (List.not_mem_nil hq).elim⟩
 obtain ⟨g1, g2, g3⟩ := Ymo h.ls List.Pairwise.nil (fun p hp => (List.not_mem_nil hp).elim) h3
 have hso : (Zie z).length ≤ z.length := List.length_filter_le _ _
 rw [if_neg (by omega), h3] at h2
 obtain ⟨rfl, h6⟩ := h2
 exact ⟨M, z, h1, h3, h6, g1, by simp at g3; omega, h4.some.up (by omega)⟩
end Go.Proofs.YtbchcjlllddlpaaGreat.Pure
namespace Go.Proofs.YtbchcjlllddlpaaGreat.Pure
set_option linter.unusedVariables false
set_option linter.unusedSimpArgs false
open Go Go.Ev Go.Lm Go.Pu Go.Dg
def allK : KZ → Bool := fun _ => true
def sumA : List Zc → Int
 | [] => 0
 | x :: r => val x.Zv + sumA r
theorem Yvl : ∀ (l : List Zc) (a S : Int), Zuv a l = some S → S = a + sumA l
 | [], a, S, h => by cases h; exact (Int.add_zero _).symm
 | x :: r, a, S, h => by
  unfold Zuv at h
  split at h
  ·have := Yvl r _ _ h
   unfold sumA
   omega
  ·cases h
theorem Yzg {s : Nat} {l : List Zc} (h : Zkc s l = 0) : sumA l = 0 := by
 unfold Zkc at h
 split at h
 ·cases h
 ·split at h
  ·split at h
   ·cases h
   ·rename_i S hS
    have := Yvl _ _ _ hS
    split at h
    ·omega
    ·cases h
  ·cases h
theorem Ypc (s : Nat) : ∀ l : List Zc, sumA (l.map (turn s)) = -sumA l
 | [] => rfl
 | x :: r => by
  rw [List.map_cons]
  unfold sumA
  rw [Ypc s r, show val (turn s x).Zv = -(val x.Zv) from Zky _ _]
  omega
def ZInv (b : Zi) : Prop := ∀ x ∈ b.f_l, sumA x.Zci = 0
theorem ZInv.add {b : Zi} (h : ZInv b) {x : Zd} (hx : sumA x.Zci = 0) : ZInv (Znu b x).2.2 := by
 unfold Znu
 split
 ·split
  ·exact h
  ·intro y hy
   rcases List.mem_append.1 hy with hy | hy
   ·exact h y hy
   ·have : y = x := by simpa using hy
    rw [this]
    exact hx
 ·exact h
theorem ZInv.rev {s : Nat} {b : Zi} (h : ZInv b) (n p : Int) : ZInv (Ybe s b n p).2.2 := by
 unfold Ybe
 split
 ·exact h
 ·rename_i h0
  split
  ·exact h
  ·refine h.add ?_
   show sumA (List.map (turn s) _) = 0
   rw [Ypc, h _ (Zfs Zd.zero (by omega))]
   rfl
theorem ZInv.step {k s : Nat} {b : Zi} (h : ZInv b) (x : Zr) : ZInv (Zjs k s b x) := by
 have turn : ∀ c, ZInv (Zjz b c).2 := fun c => by
  unfold Zjz
  dsimp only
  cases c.2.2 == 0 <;> exact h
 unfold Zjs
 cases pick x.Zes 8 == 0 with
 | true => exact turn _
 | false =>
  rw [cond_false]
  cases pick x.Zes 8 == 1 with
  | true =>
   rw [cond_true]
   exact h.rev _ _
  | false =>
   rw [cond_false]
   cases pick x.Zes 8 == 2 with
   | true => exact turn _
   | false =>
    rw [cond_false]
    unfold Zqx
    split
    ·rename_i h0
     exact h.add (Yzg h0)
    ·exact h
end Go.Proofs.YtbchcjlllddlpaaGreat.Pure
namespace Go.Proofs.YtbchcjlllddlpaaGreat.Pure
set_option linter.unusedVariables false
set_option linter.unusedSimpArgs false
open Go Go.Ev Go.Lm Go.Pu Go.Dg
theorem trZ_sum {s : Nat} {by_ : Nat → Za} : ∀ {z : List (KZ × Int)} {S : Int} {q : List (KZ × Int) × Int}, trZ s by_ z S = some q → q.2 = S + sumP allK q.1 ∧ q.1 = z.map fun x => (x.1, wz x.2 s (by_ (kdZ x.1.1)))
 | [], S, q, h => by cases h; exact ⟨(Int.add_zero _).symm, rfl⟩
 | x :: r, S, q, h => by
  unfold trZ at h
  split at h
  ·obtain ⟨q', h1, h2⟩ := Option.map_eq_some_iff.1 h
   subst h2
   obtain ⟨g1, g2⟩ := trZ_sum h1
   refine ⟨?_, by rw [List.map_cons, ← g2]⟩
   show q'.2 = S + ((if allK x.1 = true then wz x.2 s (by_ (kdZ x.1.1)) else 0) + sumP allK q'.1)
   rw [if_pos (show allK x.1 = true from rfl)]
   omega
  ·cases h
theorem trZ_ok {s B : Nat} {by_ : Nat → Za} : ∀ {z : List (KZ × Int)} {S : Int}, (∀ x ∈ z, (wz x.2 s (by_ (kdZ x.1.1))).natAbs ≤ B) → S.natAbs + B * z.length < 1000000000000000000000000000000 → ∃ q, trZ s by_ z S = some q
 | [], S, _, _ => ⟨_, rfl⟩
 | x :: r, S, hw, hb => by
  rw [List.length_cons, Nat.mul_add, Nat.mul_one] at hb
  have hx := hw x List.mem_cons_self
  unfold trZ
  rw [if_pos ⟨by unfold Sm; omega, by unfold Sm; omega⟩]
  obtain ⟨q, hq⟩ := trZ_ok (S := S + wz x.2 s (by_ (kdZ x.1.1))) (fun y hy => hw y (List.mem_cons_of_mem _ hy)) (by omega)
  rw [hq]
  exact ⟨_, rfl⟩
end Go.Proofs.YtbchcjlllddlpaaGreat.Pure
namespace Go.Proofs.YtbchcjlllddlpaaGreat.Pure
set_option linter.unusedVariables false
set_option linter.unusedSimpArgs false
open Go Go.Ev Go.Lm Go.Pu Go.Dg
theorem sgn_mul (i j : Int) : (if (!(decide (i < 0) == decide (j < 0))) = true then -((i.natAbs * j.natAbs : Nat) : Int) else ((i.natAbs * j.natAbs : Nat) : Int)) = i * j := by
 rw [Int.natCast_mul]
 by_cases h1 : i < 0 <;> by_cases h2 : j < 0
 ·rw [decide_eq_true h1, decide_eq_true h2]
  show (i.natAbs : Int) * j.natAbs = i * j
  rw [show (i.natAbs : Int) = -i by omega, show (j.natAbs : Int) = -j by omega, Int.neg_mul_neg]
 ·rw [decide_eq_true h1, decide_eq_false h2]
  show -((i.natAbs : Int) * j.natAbs) = i * j
  rw [show (i.natAbs : Int) = -i by omega, show (j.natAbs : Int) = j by omega, Int.neg_mul, Int.neg_neg]
 ·rw [decide_eq_false h1, decide_eq_true h2]
  show -((i.natAbs : Int) * j.natAbs) = i * j
  rw [show (i.natAbs : Int) = i by omega, show (j.natAbs : Int) = -j by omega, Int.mul_neg, Int.neg_neg]
 ·rw [decide_eq_false h1, decide_eq_false h2]
  show (i.natAbs : Int) * j.natAbs = i * j
  rw [show (i.natAbs : Int) = i by omega, show (j.natAbs : Int) = j by omega]
theorem Mul_DV {k : Nat} (hk : 60 < k) {i j : Int} {s t : Nat} (hi : Sm i) (hj : Sm j) (hs : s + t ≤ 9) : Zku.f k (DV i s) (DV j t) = some (mkD (i * j) (s + t)) := by
 have hw1 : W2 (DV i s).f_C := Zjg hi
 have hw2 : W2 (DV j t).f_C := Zjg hj
 have r1 : Zbk.f k ⟨(DV i s).Zgw, ((DV i s).f_C.1, (DV i s).f_C.2), (DV i s).Zj⟩ = some (dOk (DV i s)) := Zkv hk hw1
 have r2 : Zbk.f k ⟨(DV j t).Zgw, ((DV j t).f_C.1, (DV j t).f_C.2), (DV j t).Zj⟩ = some (dOk (DV j t)) := Zkv hk hw2
 unfold Zku.f
 refine bof (v := (false, (DV i s).Zgw, (DV i s).f_C.1, (DV i s).f_C.2, (DV i s).Zj, (DV j t).Zgw, (DV j t).f_C.1, (DV j t).f_C.2, (DV j t).Zj, false, 0, 0, 0)) ?_ ?_
 ·rw [r1, Yge hi (by omega), Z0, Bool.not_true, cond_false, r2, Yge hj (by omega), Z0]
  rfl
 dsimp only
 have e : (DV i s).Zj + (DV j t).Zj = ((s + t : Nat) : Int) := by
  show (s : Int) + (t : Int) = _
  omega
 rw [cond_false, e, Zhh (by omega), show decide (((s + t : Nat) : Int) > 9) = false from decide_eq_false (by omega), cond_false]
 obtain ⟨z, z1, z2, z3⟩ := Ynw (k := k) (by omega) hw1 hw2
 have z1' : Zal.f k ((DV i s).f_C.1, (DV i s).f_C.2) ((DV j t).f_C.1, (DV j t).f_C.2) = some z := z1
 have m1 := Ztu hk (!((DV i s).Zgw == (DV j t).Zgw)) z2 (s + t)
 have m1' : Zeg.f k (!((DV i s).Zgw == (DV j t).Zgw)) (z.1, z.2.1, z.2.2.1, z.2.2.2) ((s + t : Nat) : Int) = _ := m1
 rw [z1', Z0, m1', Z0]
 have hN : N4 z = ((i.natAbs * j.natAbs : Nat) : Int) := by
  have q1 := Yil (DV i s) hw1
  have q2 := Yil (DV j t) hw2
  rw [Zky] at q1 q2
  rw [z3, q1, q2, Int.natCast_mul]
 rw [hN]
 have := sgn_mul i j
 have e2 : (if (!((DV i s).Zgw == (DV j t).Zgw)) = true then -((i.natAbs * j.natAbs : Nat) : Int) else ((i.natAbs * j.natAbs : Nat) : Int)) = i * j := this
 rw [e2]
theorem hev_near (n d : Nat) (hd : 0 < d) : 2 * (hev n d * d) ≤ 2 * n + d ∧ 2 * n ≤ 2 * (hev n d * d) + d := by
 have h := Nat.div_add_mod n d
 have hm := Nat.mod_lt n hd
 have e : (n / d + 1) * d = d * (n / d) + d := by rw [Nat.add_mul, Nat.one_mul, Nat.mul_comm]
 have e2 : n / d * d = d * (n / d) := Nat.mul_comm _ _
 unfold hev
 split
 ·rename_i hc
  rw [e]
  omega
 ·rename_i hc
  rw [e2]
  omega
theorem wz_DV {v r : Int} (hr : 0 ≤ r) (s t : Nat) : wz v s (DV r t) = sgB (decide (v < 0)) (tmN (v.natAbs * r.natAbs) (s + t)) := by
 unfold wz
 rw [Zky, show (DV r t).Zgw = decide (r < 0) from rfl, decide_eq_false (show ¬ r < 0 by omega), show (DV r t).Zj.toNat = t from Int.toNat_natCast t]
 cases decide (v < 0) <;> rfl
theorem tmN_le (n σ : Nat) : tmN n σ ≤ n * 100 + 1 := by
 unfold tmN hev
 have := Nat.div_le_self (n * 10 ^ 2) (10 ^ σ)
 split <;> omega
theorem wz_bd {v r : Int} (hv : v.natAbs ≤ 32000000000) (hr : 0 ≤ r ∧ r ≤ 30001) (s t : Nat) : (wz v s (DV r t)).natAbs ≤ 100000000000000000 := by
 rw [wz_DV hr.1]
 have h1 := tmN_le (v.natAbs * r.natAbs) (s + t)
 have h2 : v.natAbs * r.natAbs ≤ 32000000000 * 30001 := Nat.mul_le_mul hv (by omega)
 have h3 : (sgB (decide (v < 0)) (tmN (v.natAbs * r.natAbs) (s + t))).natAbs = tmN (v.natAbs * r.natAbs) (s + t) := by unfold sgB; split <;> omega
 rw [h3]
 omega
theorem off_le {v r : Int} (hr : 0 ≤ r) {s t : Nat} :
  (wz v s (DV r t) * 10 ^ (max 2 (s + t) - 2) - v * r * 10 ^ (max 2 (s + t) - (s + t))).natAbs * 10 ^ (max (max 2 (s + t)) 3 - max 2 (s + t)) ≤ 5 * 10 ^ (max (max 2 (s + t)) 3 - 3) := by
 have hsg : ∀ n : Nat, sgB (decide (v < 0)) n = (if v < 0 then -1 else 1) * (n : Int) := fun n => by
  unfold sgB
  by_cases h : v < 0
  ·rw [decide_eq_true h, if_pos rfl, if_pos h]; omega
  ·rw [decide_eq_false h, if_neg (by simp), if_neg h]; omega
 have hvr : v * r = (if v < 0 then -1 else 1) * ((v.natAbs * r.natAbs : Nat) : Int) := by
  rw [Int.natCast_mul, show (r.natAbs : Int) = r by omega, ← Int.mul_assoc]
  by_cases h : v < 0
  ·rw [if_pos h, show (v.natAbs : Int) = -v by omega, show (-1 : Int) * -v = v by omega]
  ·rw [if_neg h, show (v.natAbs : Int) = v by omega, Int.one_mul]
 rw [wz_DV hr, hsg, hvr]
 generalize hn : v.natAbs * r.natAbs = n
 generalize he : (if v < 0 then (-1 : Int) else 1) = ε
 have hε : ε.natAbs = 1 := by rw [← he]; split <;> rfl
 by_cases h2 : s + t ≤ 2
 ·rw [show max 2 (s + t) = 2 by omega, Nat.sub_self, Int.pow_zero, Int.mul_one, ← tmN_lo h2, Int.mul_assoc, ← Int.mul_sub, Int.natCast_mul, Int.natCast_pow]
  rw [show ((n : Int) * ((10 : Nat) : Int) ^ (2 - (s + t)) - (n : Int) * 10 ^ (2 - (s + t))) = 0 from Int.sub_self _, Int.mul_zero]
  show 0 * _ ≤ _
  rw [Nat.zero_mul]
  exact Nat.zero_le _
 ·rw [show max 2 (s + t) = s + t by omega, show max (s + t) 3 = s + t by omega, Nat.sub_self, Int.pow_zero, Int.mul_one, Nat.pow_zero, Nat.mul_one, Int.mul_assoc, ← Int.mul_sub, Int.natAbs_mul, hε, Nat.one_mul]
  obtain ⟨m, hm⟩ : ∃ m, s + t = m + 3 := ⟨s + t - 3, by omega⟩
  rw [hm, show m + 3 - 3 = m by omega, show m + 3 - 2 = m + 1 by omega]
  obtain ⟨g1, g2⟩ := hev_near (n * 10 ^ 2) (10 ^ (m + 3)) (Nat.pow_pos (by decide))
  have e1 : hev (n * 10 ^ 2) (10 ^ (m + 3)) = tmN n (m + 3) := rfl
  rw [e1] at g1 g2
  generalize tmN n (m + 3) = w at g1 g2
  have p3 : 10 ^ (m + 3) = 1000 * 10 ^ m := by rw [Nat.pow_add, Nat.mul_comm]
  have p1 : ((10 : Int) ^ (m + 1)) = ((10 * 10 ^ m : Nat) : Int) := by rw [Int.natCast_mul, Int.natCast_pow, Int.pow_succ, Int.mul_comm]; rfl
  rw [p3] at g1 g2
  rw [p1, ← Int.natCast_mul]
  have e5 : w * (1000 * 10 ^ m) = 100 * (w * (10 * 10 ^ m)) := by
   rw [Nat.mul_left_comm w 1000, Nat.mul_left_comm w 10]
   generalize w * 10 ^ m = B
   omega
  rw [e5] at g1 g2
  generalize w * (10 * 10 ^ m) = A at g1 g2 ⊢
  generalize 10 ^ m = P at g1 g2 ⊢
  omega
end Go.Proofs.YtbchcjlllddlpaaGreat.Pure
namespace Go.Proofs.YtbchcjlllddlpaaGreat.Pure
set_option linter.unusedVariables false
set_option linter.unusedSimpArgs false
open Go Go.Ev Go.Lm Go.Pu Go.Dg
def RBd (d : Za) : Prop := ∃ (v : Int) (t : Nat), d = DV v t ∧ 0 ≤ v ∧ v ≤ 30001 ∧ t ≤ 4
def RB (T : List (Zm × Za)) : Prop := ∀ p ∈ T, RBd p.2
theorem Sim.sets2 {k : Nat} (hk : 602 < k) {T : List (Zm × Za)} {has : List Bool} {ds : List Za} (h : Sim T has ds) (hT : RT T) (hB : RB T) (p kd : Int) {d : Za} (hw : W2 d.f_C) (hd : RBd d) :
  ∃ e T' has' ds', Zbu.f k ⟨T⟩ ⟨p, kd⟩ d = some (e, ⟨T'⟩) ∧ Zbx.f k ⟨has, ds⟩ p kd d = some (e, ⟨has', ds'⟩) ∧ Sim T' has' ds' ∧ RT T' ∧ RB T' := by
 rw [Set_eq (by omega) T ⟨p, kd⟩ hw, Waj hk h.h1 h.h2 p kd hw]
 cases hb : placed ⟨p, kd⟩ && okR d with
 | true =>
  rw [Bool.and_eq_true] at hb
  have hd' : dOk d = true := by
   have := hb.2
   unfold okR at this
   rw [Bool.and_eq_true] at this
   exact this.1
  refine ⟨_, _, _, _, rfl, rfl, h.set hb.1 d, fun q hq => ?_, fun q hq => ?_⟩
  ·rcases Ykm hq with e | hq
   ·rw [e]; exact ⟨hw, hd'⟩
   ·exact hT q hq
  ·rcases Ykm hq with e | hq
   ·rw [e]; exact hd
   ·exact hB q hq
 | false => exact ⟨_, _, _, _, rfl, rfl, h, hT, hB⟩
theorem Yzi {k : Nat} (hk : 602 < k) {l : List Int} (hl : l.length ≤ 9223372036854775807) {i : Nat} (hi : i < 9) {T : List (Zm × Za)} {has : List Bool} {ds : List Za} (h : Sim T has ds) (hT : RT T) (hB : RB T) :
  ∃ r, Zan.l4.once k (l, (i : Int), T, ⟨has, ds⟩) = some r ∧ ∃ T' has' ds', r = .inl (l, ((i + 1 : Nat) : Int), T', ⟨has', ds'⟩) ∧ Sim T' has' ds' ∧ RT T' ∧ RB T' := by
 have e1 : pack 36 false has = has := Zca false h.h1
 have e2 : pack 36 Za.zero ds = ds := Zca _ h.h2
 have hwr := Zhh (show -9223372036854775808 ≤ (i : Int) + 1 ∧ (i : Int) + 1 < 9223372036854775808 by omega)
 unfold Zan.l4.once
 dsimp only
 simp only [e1, e2]
 rw [ct (show (i : Int) < 9 by omega), Z0]
 dsimp only
 simp only [e1, e2]
 rw [cond_true]
 refine bex (fun y => ∃ T' has' ds', y = (l, (i : Int), T', (⟨has', ds'⟩ : Zaa)) ∧ Sim T' has' ds' ∧ RT T' ∧ RB T') ?_ ?_
 ·refine bex (fun y => ∃ n, y = (l, (i : Int), n, T, (⟨has, ds⟩ : Zaa))) ?_ ?_
  ·by_cases h0 : (l.length : Int) > 0
   ·have hmod : Int.tmod (i : Int) (l.length : Int) = ((i % l.length : Nat) : Int) := rfl
    have hdiv : Int.tdiv (i : Int) (l.length : Int) = ((i / l.length : Nat) : Int) := rfl
    have hlt := Nat.mod_lt i (show l.length > 0 by omega)
    have hle := Nat.div_le_self i l.length
    have hne : ((l.length : Int) == 0) = false := by
     rw [Bool.eq_false_iff]
     intro hh
     rw [beq_iff_eq] at hh
     omega
    generalize i / l.length = q at hdiv hle
    generalize i % l.length = r at hmod hlt
    rw [ct h0, hne, cond_false, hmod, hdiv, Zhk (by omega) (by omega), cond_true, cond_false, Zhh (n := (q : Int)) (by omega), Zhh (n := 1 + (q : Int)) (by omega)]
    have hn1 : ((1 + (q : Int)) == 0) = false := by
     rw [Bool.eq_false_iff]
     intro hh
     rw [beq_iff_eq] at hh
     omega
    rw [hn1, cond_false]
    exact ⟨_, rfl, _, rfl⟩
   ·rw [cf h0]
    exact ⟨_, rfl, _, rfl⟩
  ·rintro _ ⟨n, rfl⟩
   dsimp only
   simp only [e1, e2]
   refine bexv (Zeh k n (by decide) (by decide)) ?_
   cases pick n 23 == 22 with
   | true => exact ⟨_, rfl, T, has, ds, rfl, h, hT, hB⟩
   | false =>
    rw [cond_false]
    have p1 := Zfw (IntKind.wrap .i64 (Int.tdiv n 3)) (m := 30000) (by decide)
    have p2 := Zfw (IntKind.wrap .i64 (Int.tdiv n 3)) (m := 300) (by decide)
    have p3 := Zfw n (m := 3) (by decide)
    refine bexv (Zrk hk (by decide) 0) (bexv (Zeh k _ (by decide) (by decide)) ?_)
    rw [Zhh (n := 1 + pick (IntKind.wrap .i64 (Int.tdiv n 3)) 30000) (by omega)]
    refine bexv (Zrk hk (by omega) 4) (bexv (Zeh k _ (by decide) (by decide)) ?_)
    rw [Zhh (n := 1 + pick (IntKind.wrap .i64 (Int.tdiv n 3)) 300) (by omega)]
    refine bexv (Zrk hk (by omega) 1) (bexv (Zeh k _ (by decide) (by decide)) ?_)
    rw [Zhk (by omega) (by omega), cond_true]
    generalize hd : List.getD [(⟨(DV 1 (cl 0)).Zgw, ((DV 1 (cl 0)).f_C.1, (DV 1 (cl 0)).f_C.2), (DV 1 (cl 0)).Zj⟩ : Za), (⟨(DV (1 + pick (IntKind.wrap .i64 (Int.tdiv n 3)) 30000) (cl 4)).Zgw, ((DV (1 + pick (IntKind.wrap .i64 (Int.tdiv n 3)) 30000) (cl 4)).f_C.1, (DV (1 + pick (IntKind.wrap .i64 (Int.tdiv n 3)) 30000) (cl 4)).f_C.2), (DV (1 + pick (IntKind.wrap .i64 (Int.tdiv n 3)) 30000) (cl 4)).Zj⟩ : Za), (⟨(DV (1 + pick (IntKind.wrap .i64 (Int.tdiv n 3)) 300) (cl 1)).Zgw, ((DV (1 + pick (IntKind.wrap .i64 (Int.tdiv n 3)) 300) (cl 1)).f_C.1, (DV (1 + pick (IntKind.wrap .i64 (Int.tdiv n 3)) 300) (cl 1)).f_C.2), (DV (1 + pick (IntKind.wrap .i64 (Int.tdiv n 3)) 300) (cl 1)).Zj⟩ : Za)] (Int.toNat (pick n 3)) Za.zero = d
    have hdw : W2 d.f_C := by
     rw [← hd]
     generalize Int.toNat (pick n 3) = j
     rcases j with _ | _ | _ | j
     ·exact Zjg (i := 1) (by unfold Sm; decide)
     ·exact Zjg (i := 1 + pick (IntKind.wrap .i64 (Int.tdiv n 3)) 30000) (by unfold Sm; omega)
     ·exact Zjg (i := 1 + pick (IntKind.wrap .i64 (Int.tdiv n 3)) 300) (by unfold Sm; omega)
     ·exact (show W2 ((0 : Int), (0 : Int)) from ⟨⟨by decide, by decide⟩, by decide, by decide⟩)
    have hdb : RBd d := by
     rw [← hd]
     generalize Int.toNat (pick n 3) = j
     rcases j with _ | _ | _ | j
     ·exact ⟨1, 0, rfl, by decide, by decide, by decide⟩
     ·exact ⟨1 + pick (IntKind.wrap .i64 (Int.tdiv n 3)) 30000, 4, rfl, by omega, by omega, by decide⟩
     ·exact ⟨1 + pick (IntKind.wrap .i64 (Int.tdiv n 3)) 300, 1, rfl, by omega, by omega, by decide⟩
     ·exact ⟨0, 0, rfl, by decide, by decide, by decide⟩
    obtain ⟨e, T', has', ds', g1, g2, g3, g4, g5⟩ := h.sets2 hk hT hB (IntKind.wrap .i64 (Int.tdiv (i : Int) 3)) (Int.tmod (i : Int) 3) hdw hdb
    have e3 : pack 36 false has' = has' := Zca false g3.h1
    have e4 : pack 36 Za.zero ds' = ds' := Zca _ g3.h2
    refine bexv g1 (bexv g2 ?_)
    dsimp only
    simp only [e3, e4]
    exact ⟨_, rfl, T', has', ds', rfl, g3, g4, g5⟩
 ·rintro _ ⟨T', has', ds', rfl, g3, g4, g5⟩
  have e3 : pack 36 false has' = has' := Zca false g3.h1
  have e4 : pack 36 Za.zero ds' = ds' := Zca _ g3.h2
  dsimp only
  simp only [e3, e4, hwr]
  exact ⟨_, rfl, T', has', ds', rfl, g3, g4, g5⟩
theorem rates_eq {k : Nat} (hk : 602 < k) {l : List Int} (hl : l.length ≤ 9223372036854775807) : ∃ T has ds, Zan.f k l = some (⟨T⟩, ⟨has, ds⟩) ∧ Sim T has ds ∧ RT T ∧ RB T := by
 obtain ⟨y, h1, T, has, ds, rfl, h2, h3, h4⟩ := Zfn (once := Zan.l4.once k) (fun st => ∃ (i : Nat) (T : List (Zm × Za)) (has : List Bool) (ds : List Za), st = (l, (i : Int), T, (⟨has, ds⟩ : Zaa)) ∧ i ≤ 9 ∧ Sim T has ds ∧ RT T ∧ RB T) (fun st => 9 - st.2.1.toNat)
  (fun r => ∃ (T : List (Zm × Za)) (has : List Bool) (ds : List Za), r = (T, (⟨has, ds⟩ : Zaa)) ∧ Sim T has ds ∧ RT T ∧ RB T) (by
  rintro _ ⟨i, T, has, ds, rfl, hi, h, hT, hB⟩
  by_cases hc : i < 9
  ·left
   obtain ⟨r, h1, T', has', ds', rfl, g1, g2, g3⟩ := Yzi hk hl hc h hT hB
   exact ⟨_, h1, ⟨i + 1, T', has', ds', rfl, by omega, g1, g2, g3⟩, by dsimp only; omega⟩
  ·right
   have e1 : pack 36 false has = has := Zca false h.h1
   have e2 : pack 36 Za.zero ds = ds := Zca _ h.h2
   refine ⟨(T, ⟨has, ds⟩), ?_, T, has, ds, rfl, h, hT, hB⟩
   unfold Zan.l4.once
   dsimp only
   simp only [e1, e2]
   rw [cf (by omega), Z0]
   dsimp only
   rw [cond_false, e1, e2]) k (l, 0, [], ⟨List.replicate 36 false, List.replicate 36 Za.zero⟩) ⟨0, [], _, _, rfl, by omega, sim_nil, fun p hp => (List.not_mem_nil hp).elim, fun p hp => (List.not_mem_nil hp).elim⟩ (by show 9 - 0 < k; omega)
 refine ⟨T, has, ds, ?_, h2, h3, h4⟩
 have e1 : pack 36 false has = has := Zca false h2.h1
 have e2 : pack 36 Za.zero ds = ds := Zca _ h2.h2
 unfold Zan.f
 refine bof (v := ⟨[]⟩) rfl (bof (v := (T, ⟨has, ds⟩)) h1 ?_)
 dsimp only
 rw [e1, e2]
end Go.Proofs.YtbchcjlllddlpaaGreat.Pure
namespace Go.Proofs.YtbchcjlllddlpaaGreat.Pure
set_option linter.unusedVariables false
set_option linter.unusedSimpArgs false
open Go Go.Ev
def insA {α : Type} (a : α) : List α → List (List α)
 | [] => [[a]]
 | x :: r => (a :: x :: r) :: (insA a r).map (x :: ·)
def permsA {α : Type} : List α → List (List α)
 | [] => [[]]
 | a :: l => (permsA l).flatMap (insA a)
theorem Ywm {α : Type} (a : α) : ∀ s t : List α, s ++ a :: t ∈ insA a (s ++ t)
 | [], [] => List.mem_cons_self
 | [], x :: t => List.mem_cons_self
 | x :: s, t => List.mem_cons_of_mem _ (List.mem_map.2 ⟨_, Ywm a s t, rfl⟩)
theorem Yka {α : Type} : ∀ {l σ : List α}, σ.Perm l → σ ∈ permsA l
 | [], σ, h => by
  rw [h.eq_nil]
  exact List.mem_cons_self
 | a :: l, σ, h => by
  obtain ⟨s, t, rfl⟩ := List.append_of_mem (h.mem_iff.2 List.mem_cons_self)
  have h2 : (s ++ t).Perm l := List.Perm.cons_inv (List.perm_middle.symm.trans h)
  exact List.mem_flatMap.2 ⟨_, Yka h2, Ywm a s t⟩
def anyC {α ρ : Type} [DecidableEq ρ] (es : List α) (f : List α → Option ρ) : Option ρ := match f es with
 | some r => if (permsA es).all (fun σ => decide (f σ = some r)) then some r else none
 | none => none
theorem anyC_P {α ρ : Type} [DecidableEq ρ] {es : List α} {f : List α → Option ρ} {r : ρ} (h : anyC es f = some r) : anyP es f = some r := by
 unfold anyC at h
 split at h
 ·split at h
  ·rename_i ha
   cases h
   exact anyP_of fun σ hσ => of_decide_eq_true (List.all_eq_true.1 ha σ (Yka hσ))
  ·cases h
 ·cases h
theorem Yxx {α β : Type} {X : Option α} {F G : α → Option β} {r : β} (h : ∀ v, F v = some r → G v = some r) (h' : X.bind F = some r) : X.bind G = some r := by
 cases X with
 | none => cases h'
 | some v => exact h v h'
end Go.Proofs.YtbchcjlllddlpaaGreat.Pure
namespace Go.Proofs.YtbchcjlllddlpaaGreat.Pure
set_option linter.unusedVariables false
set_option linter.unusedSimpArgs false
open Go Go.Ev
theorem Yug {X Y T : Type} {once : X → T → Option (X ⊕ Y)} {es : List T} (I : List T → X → Prop) (hs : ∀ pre e rest x, (pre ++ e :: rest).Perm es → I pre x → ∃ x', once x e = some (.inl x') ∧ I (pre ++ [e]) x') :
  ∀ rest pre x, (pre ++ rest).Perm es → I pre x → ∃ x', Yaq once rest x = some (.inl x') ∧ I (pre ++ rest) x'
 | [], pre, x, _, h => ⟨x, rfl, by rw [List.append_nil]; exact h⟩
 | e :: r, pre, x, hp, h => by
  obtain ⟨x1, h1, h2⟩ := hs pre e r x hp h
  obtain ⟨x2, h3, h4⟩ := Yug I hs r (pre ++ [e]) x1 (by rw [List.append_assoc]; exact hp) h2
  refine ⟨x2, ?_, by rw [List.append_assoc] at h4; exact h4⟩
  unfold Yaq
  rw [h1, Z0]
  exact h3
theorem Yvr {X Y T : Type} {once : X → T → Option (X ⊕ Y)} {es : List T} {x z : X} (I : List T → X → Prop) (h0 : I [] x) (hs : ∀ pre e rest x, (pre ++ e :: rest).Perm es → I pre x → ∃ x', once x e = some (.inl x') ∧ I (pre ++ [e]) x')
  (he : ∀ σ x', σ.Perm es → I σ x' → x' = z) : rngP once es x = some (.inl z) := anyP_of fun σ hσ => by
 obtain ⟨x', h1, h2⟩ := Yug I hs σ [] x hσ h0
 rw [h1, he σ x' hσ h2]
theorem rngP_same {X Y T : Type} {once : X → T → Option (X ⊕ Y)} {es : List T} {x : X} (h : ∀ e ∈ es, once x e = some (.inl x)) : rngP once es x = some (.inl x) :=
 Yvr (fun _ x' => x' = x) rfl (fun pre e rest x' hp hx => by subst hx; exact ⟨x', h e (hp.mem_iff.1 (by simp)), rfl⟩) (fun _ _ _ h => h)
end Go.Proofs.YtbchcjlllddlpaaGreat.Pure
namespace Go.Proofs.YtbchcjlllddlpaaGreat.Pure
set_option linter.unusedVariables false
set_option linter.unusedSimpArgs false
open Go Go.Ev Go.Lm Go.Pu Go.Dg
theorem known17 : Zec.f 2000 = some true := by
 unfold Zec.f
 refine Yxx (fun t1 => Yxx (fun t2 => anyC_P)) ?_
 decide +kernel
def Zkb : List (KZ × Za) → Int
 | [] => 0
 | x :: r => val x.2 + Zkb r
theorem Yuv : ∀ a b : List (KZ × Za), Zkb (a ++ b) = Zkb a + Zkb b
 | [], b => (Int.zero_add _).symm
 | x :: r, b => by
  show val x.2 + Zkb (r ++ b) = val x.2 + Zkb r + Zkb b
  rw [Yuv r b]
  omega
theorem sumD_perm {a b : List (KZ × Za)} (h : a.Perm b) : Zkb a = Zkb b := by
 induction h with
 | nil => rfl
 | cons x _ ih => unfold Zkb; rw [ih]
 | swap x y l => unfold Zkb; unfold Zkb; omega
 | trans _ _ ih1 ih2 => exact ih1.trans ih2
theorem Yut (s : Nat) : ∀ z : List (KZ × Int), Zkb (z.map (mkz s)) = sumP allK z
 | [] => rfl
 | x :: r => by
  rw [List.map_cons]
  show val (DV x.2 s) + Zkb (r.map (mkz s)) = (if allK x.1 = true then x.2 else 0) + sumP allK r
  rw [Zky, Yut s r, if_pos (show allK x.1 = true from rfl)]
theorem Yrp {B : Nat} : ∀ {a : List (KZ × Za)}, (∀ x ∈ a, (val x.2).natAbs ≤ B) → (Zkb a).natAbs ≤ B * a.length
 | [], _ => Nat.zero_le _
 | x :: r, h => by
  have h1 := h x List.mem_cons_self
  have h2 := Yrp fun y hy => h y (List.mem_cons_of_mem x hy)
  rw [List.length_cons, Nat.mul_add, Nat.mul_one]
  unfold Zkb
  omega
theorem sum_range {k : Nat} (hk : 60 < k) (p : Int) (T : List (Zm × Za)) (M : List (KZ × Za)) {u : List (KZ × Za)} {S : Int} (hu : ∀ x ∈ u, x.2 = DV (val x.2) 2 ∧ (val x.2).natAbs ≤ 100000000000000000) (hl : u.length ≤ 1000) (hS : S.natAbs ≤ 100000000000000000000) :
  rngP (Zf.r10.once k) u (p, T, M, (DV S 2).Zgw, (DV S 2).f_C.1, (DV S 2).f_C.2, (DV S 2).Zj) = some (.inl (p, T, M, (DV (S + Zkb u) 2).Zgw, (DV (S + Zkb u) 2).f_C.1, (DV (S + Zkb u) 2).f_C.2, (DV (S + Zkb u) 2).Zj)) := by
 refine Yvr (fun pre x => x = (p, T, M, (DV (S + Zkb pre) 2).Zgw, (DV (S + Zkb pre) 2).f_C.1, (DV (S + Zkb pre) 2).f_C.2, (DV (S + Zkb pre) 2).Zj)) ?_ ?_ ?_
 ·show _ = (p, T, M, (DV (S + 0) 2).Zgw, (DV (S + 0) 2).f_C.1, (DV (S + 0) 2).f_C.2, (DV (S + 0) 2).Zj)
  rw [Int.add_zero]
 ·rintro pre e rest x hp rfl
  have hin : ∀ y ∈ pre ++ e :: rest, y ∈ u := fun y hy => hp.mem_iff.1 hy
  have hlen := hp.length_eq
  rw [List.length_append, List.length_cons] at hlen
  obtain ⟨he, heb⟩ := hu e (hin e (by simp))
  have hpb := Yrp (B := 100000000000000000) (a := pre) fun y hy => (hu y (hin y (List.mem_append_left _ hy))).2
  have hpl : 100000000000000000 * pre.length ≤ 100000000000000000 * 1000 := Nat.mul_le_mul_left _ (by omega)
  have hs1 : Sm (S + Zkb pre) := by unfold Sm; omega
  have hs2 : Sm (val e.2) := by unfold Sm; omega
  have ha := Yok (k := k) (by omega) hs1 hs2 (s := 2) (by decide)
  have hm : mkD (S + Zkb pre + val e.2) 2 = (DV (S + Zkb pre + val e.2) 2, 0) := if_pos (by omega)
  rw [hm, ← he] at ha
  have ha' : Zeo.f k ⟨(DV (S + Zkb pre) 2).Zgw, ((DV (S + Zkb pre) 2).f_C.1, (DV (S + Zkb pre) 2).f_C.2), (DV (S + Zkb pre) 2).Zj⟩ ⟨e.2.Zgw, (e.2.f_C.1, e.2.f_C.2), e.2.Zj⟩ = _ := ha
  refine ⟨(p, T, M, (DV (S + Zkb (pre ++ [e])) 2).Zgw, (DV (S + Zkb (pre ++ [e])) 2).f_C.1, (DV (S + Zkb (pre ++ [e])) 2).f_C.2, (DV (S + Zkb (pre ++ [e])) 2).Zj), ?_, rfl⟩
  unfold Zf.r10.once
  dsimp only
  rw [ha', Z0, Yuv, show Zkb [e] = val e.2 + 0 from rfl, Int.add_zero, ← Int.add_assoc]
 ·rintro σ x hp rfl
  rw [sumD_perm hp]
theorem near_once {k : Nat} (hk : 1002 < k) {s : Nat} (hs : s ≤ 4) {p : Int} {T : List (Zm × Za)} {u : List (KZ × Za)} {x : KZ × Int} (hx : x.2.natAbs ≤ 32000000000) {v : Int} {t : Nat} (hv : 0 ≤ v ∧ v ≤ 30001) (ht : t ≤ 4)
  (hg : Zhz (Zam ⟨p, (kdZ x.1.1 : Int)⟩) T = some (DV v t)) (hu : Zhz (Zcd x.1) u = if wz x.2 s (DV v t) = 0 then none else some (DV (wz x.2 s (DV v t)) 2)) :
  Zf.r16.once k (p, T, u) (mkz s x) = some (.inl (p, T, u)) := by
 unfold Zf.r16.once
 dsimp only
 have hKd := CK_eq k x.1.1
 have hKd' : Zdg.f k (mkz s x).1.1 = some (Zjv x.1.1) := hKd
 refine bof hKd' ?_
 refine bof (v := (p, (kdZ x.1.1 : Int), T, u, x.1.1, x.1.2, (DV x.2 s).Zgw, (DV x.2 s).f_C.1, (DV x.2 s).f_C.2, (DV x.2 s).Zj)) ?_ ?_
 ·unfold kdZ
  by_cases h1 : Zjv x.1.1 = 1
  ·rw [if_pos (.inl h1), h1]; rfl
  ·by_cases h2 : Zjv x.1.1 = 2
   ·rw [if_pos (.inr h2), h2]; rfl
   ·rw [if_neg (by omega)]
    have c1 : (Zjv x.1.1 == 1) = false := by rw [beq_eq_false_iff_ne]; exact h1
    have c2 : (Zjv x.1.1 == 2) = false := by rw [beq_eq_false_iff_ne]; exact h2
    rw [c1, cond_false, Z0]
    dsimp only
    rw [c2, cond_false]
    by_cases h3 : Zjv x.1.1 = 3
    ·rw [if_pos h3, h3]; rfl
    ·have c3 : (Zjv x.1.1 == 3) = false := by rw [beq_eq_false_iff_ne]; exact h3
     rw [if_neg h3, c3, cond_false]
     rfl
 dsimp only
 have g1 := Get_eq k T ⟨p, (kdZ x.1.1 : Int)⟩
 rw [hg] at g1
 have hx1 : Sm x.2 := by unfold Sm; omega
 have hv1 : Sm v := by unfold Sm; omega
 have hxv : (x.2 * v).natAbs ≤ 32000000000 * 30001 := by rw [Int.natAbs_mul]; exact Nat.mul_le_mul hx (by omega)
 have m1 := Mul_DV (k := k) (by omega) hx1 hv1 (s := s) (t := t) (by omega)
 have m2 : mkD (x.2 * v) (s + t) = (DV (x.2 * v) (s + t), 0) := if_pos (by omega)
 rw [m2] at m1
 have m1' : Zku.f k ⟨(DV x.2 s).Zgw, ((DV x.2 s).f_C.1, (DV x.2 s).f_C.2), (DV x.2 s).Zj⟩ ⟨(DV v t).Zgw, ((DV v t).f_C.1, (DV v t).f_C.2), (DV v t).Zj⟩ = _ := m1
 refine bof g1 (bof m1' ?_)
 dsimp only [got]
 have hwb := wz_bd hx hv s t
 have hoff := off_le (v := x.2) hv.1 (s := s) (t := t)
 generalize hw : wz x.2 s (DV v t) = w at hu hwb hoff
 have hu' : Zhz (Zcd (x.1.1, x.1.2)) u = _ := hu
 have hw1 : Sm w := by unfold Sm; omega
 have hvx1 : Sm (x.2 * v) := by unfold Sm; omega
 have hpw : ∀ n : Nat, n ≤ 6 → (10 : Int) ^ n ≤ 1000000 ∧ 0 < (10 : Int) ^ n := by
  have : ∀ n : Nat, n < 7 → (10 : Int) ^ n ≤ 1000000 ∧ 0 < (10 : Int) ^ n := by decide
  exact fun n hn => this n (by omega)
 have p1 := hpw (max 2 (s + t) - 2) (by omega)
 have p2 := hpw (max 2 (s + t) - (s + t)) (by omega)
 have sb := Sub_DV (k := k) (by omega) hw1 hvx1 (s := 2) (t := s + t) (by decide) (by omega)
 generalize hm : max 2 (s + t) = m at sb hoff p1 p2
 have hm9 : m ≤ 9 := by omega
 have hm2 : 2 ≤ m := by omega
 have hob : (w * 10 ^ (m - 2) - x.2 * v * 10 ^ (m - (s + t))).natAbs < 1000000000000000000000000000000 := by
  have q1 : (w * 10 ^ (m - 2)).natAbs ≤ 100000000000000000 * 1000000 := by rw [Int.natAbs_mul]; exact Nat.mul_le_mul hwb (by omega)
  have q2 : (x.2 * v * 10 ^ (m - (s + t))).natAbs ≤ 32000000000 * 30001 * 1000000 := by rw [Int.natAbs_mul]; exact Nat.mul_le_mul hxv (by omega)
  omega
 generalize w * 10 ^ (m - 2) - x.2 * v * 10 ^ (m - (s + t)) = o at sb hoff hob
 have hmk : mkD o m = (DV o m, 0) := if_pos hob
 rw [hmk] at sb
 have ho : Sm o := hob
 have ho' : Sm ((o.natAbs : Nat) : Int) := by unfold Sm; rw [Int.natAbs_natCast]; exact hob
 have sb' : Znd.f k ⟨(DV w 2).Zgw, ((DV w 2).f_C.1, (DV w 2).f_C.2), (DV w 2).Zj⟩ ⟨(DV (x.2 * v) (s + t)).Zgw, ((DV (x.2 * v) (s + t)).f_C.1, (DV (x.2 * v) (s + t)).f_C.2), (DV (x.2 * v) (s + t)).Zj⟩ = _ := sb
 have sg : Zcf.f k ⟨(DV o m).Zgw, ((DV o m).f_C.1, (DV o m).f_C.2), (DV o m).Zj⟩ = some (if o = 0 then 0 else if o < 0 then -1 else 1) := Zgo (k := k) (by omega) ho hm9
 have sn : Zfp.f k ⟨(DV o m).Zgw, ((DV o m).f_C.1, (DV o m).f_C.2), (DV o m).Zj⟩ = some (DV (-o) m) := Yub (k := k) (by omega) ho hm9
 have c5 := Cmp_DV (k := k) (by omega) ho' (show Sm 5 by unfold Sm; decide) (s := m) (t := 3) hm9 (by decide)
 have hle : ((o.natAbs : Nat) : Int) * 10 ^ (max m 3 - m) - 5 * 10 ^ (max m 3 - 3) ≤ 0 := by
  have e1 : ((o.natAbs : Nat) : Int) * 10 ^ (max m 3 - m) = ((o.natAbs * 10 ^ (max m 3 - m) : Nat) : Int) := by rw [Int.natCast_mul, Int.natCast_pow]; rfl
  have e2 : (5 : Int) * 10 ^ (max m 3 - 3) = ((5 * 10 ^ (max m 3 - 3) : Nat) : Int) := by rw [Int.natCast_mul, Int.natCast_pow]; rfl
  rw [e1, e2]
  omega
 have c6 : Zfx.f k ⟨(DV ((o.natAbs : Nat) : Int) m).Zgw, ((DV ((o.natAbs : Nat) : Int) m).f_C.1, (DV ((o.natAbs : Nat) : Int) m).f_C.2), (DV ((o.natAbs : Nat) : Int) m).Zj⟩ ⟨(DV 5 3).Zgw, ((DV 5 3).f_C.1, (DV 5 3).f_C.2), (DV 5 3).Zj⟩ = _ := c5
 have hsg0 : decide (sgn (((o.natAbs : Nat) : Int) * 10 ^ (max m 3 - m) - 5 * 10 ^ (max m 3 - 3)) > 0) = false := by
  rw [decide_eq_false_iff_not]
  have := (Yjp (((o.natAbs : Nat) : Int) * 10 ^ (max m 3 - m) - 5 * 10 ^ (max m 3 - 3))).2 hle
  omega
 have of5 : Zbd.f k 5 3 = some (DV 5 3) := Zrk (k := k) (by omega) (by decide) 3
 have tail : ∀ is : Bool, (is = true → w ≠ 0) → ∀ X : Option (Int × Int × Bool × List (Zm × Za) × List (KZ × Za) × Bool × Int × Int × Int × Bool × Int × Int × Int), X = some (p, 0, is, T, u, (DV w 2).Zgw, (DV w 2).f_C.1, (DV w 2).f_C.2, (DV w 2).Zj, (DV ((o.natAbs : Nat) : Int) m).Zgw, (DV ((o.natAbs : Nat) : Int) m).f_C.1, (DV ((o.natAbs : Nat) : Int) m).f_C.2, (DV ((o.natAbs : Nat) : Int) m).Zj) →
   (X.bind fun Zjr => (cond (Zjr.2.1 != 0) (some (.inr false)) (cond (Zjr.2.2.2.2.2.2.2.2.1 != 2) (some (.inr false)) (cond (Zjr.2.2.1) ((Zcf.f k (⟨Zjr.2.2.2.2.2.1, (Zjr.2.2.2.2.2.2.1, Zjr.2.2.2.2.2.2.2.1), Zjr.2.2.2.2.2.2.2.2.1⟩ : Za)).bind fun t135 => (cond (t135 == 0) (some (.inr false)) ((Zbd.f k 5 3).bind fun t136 => ((Zfx.f k (⟨Zjr.2.2.2.2.2.2.2.2.2.1, (Zjr.2.2.2.2.2.2.2.2.2.2.1, Zjr.2.2.2.2.2.2.2.2.2.2.2.1), Zjr.2.2.2.2.2.2.2.2.2.2.2.2⟩ : Za) (⟨t136.Zgw, (t136.f_C.1, t136.f_C.2), t136.Zj⟩ : Za)).bind fun t137 => (cond (decide (t137 > 0)) (some (.inr false)) (some (.inl (Zjr.1, Zjr.2.2.2.1, Zjr.2.2.2.2.1)))))))) ((Zbd.f k 5 3).bind fun t138 => ((Zfx.f k (⟨Zjr.2.2.2.2.2.2.2.2.2.1, (Zjr.2.2.2.2.2.2.2.2.2.2.1, Zjr.2.2.2.2.2.2.2.2.2.2.2.1), Zjr.2.2.2.2.2.2.2.2.2.2.2.2⟩ : Za) (⟨t138.Zgw, (t138.f_C.1, t138.f_C.2), t138.Zj⟩ : Za)).bind fun t139 => (cond (decide (t139 > 0)) (some (.inr false)) (some (.inl (Zjr.1, Zjr.2.2.2.1, Zjr.2.2.2.2.1)))))))))) = (some (.inl (p, T, u)) : Option ((Int × List (Zm × Za) × List (KZ × Za)) ⊕ Bool)) := by
  rintro is his X rfl
  rw [Z0]
  dsimp only
  rw [show ((0 : Int) != 0) = false from rfl, cond_false, show ((DV w 2).Zj != 2) = false from rfl, cond_false]
  have swd : Zcf.f k ⟨(DV w 2).Zgw, ((DV w 2).f_C.1, (DV w 2).f_C.2), (DV w 2).Zj⟩ = some (if w = 0 then 0 else if w < 0 then -1 else 1) := Zgo (k := k) (by omega) hw1 (by decide)
  cases is with
  | false =>
   rw [cond_false]
   refine bof of5 (bof c6 ?_)
   rw [hsg0, cond_false]
  | true =>
   rw [cond_true]
   have hne := his rfl
   refine bof swd ?_
   rw [if_neg hne]
   have : ((if w < 0 then (-1 : Int) else 1) == 0) = false := by
    rw [beq_eq_false_iff_ne]
    split <;> omega
   rw [this, cond_false]
   refine bof of5 (bof c6 ?_)
   rw [hsg0, cond_false]
 have neg : ∀ is : Bool, (cond (decide ((if o = 0 then (0 : Int) else if o < 0 then -1 else 1) < 0)) ((Zfp.f k ⟨(DV o m).Zgw, ((DV o m).f_C.1, (DV o m).f_C.2), (DV o m).Zj⟩).bind fun t120 => (some (p, (0 : Int), is, T, u, (DV w 2).Zgw, (DV w 2).f_C.1, (DV w 2).f_C.2, (DV w 2).Zj, t120.Zgw, t120.f_C.1, t120.f_C.2, t120.Zj))) (some (p, (0 : Int), is, T, u, (DV w 2).Zgw, (DV w 2).f_C.1, (DV w 2).f_C.2, (DV w 2).Zj, (DV o m).Zgw, (DV o m).f_C.1, (DV o m).f_C.2, (DV o m).Zj)) : Option (Int × Int × Bool × List (Zm × Za) × List (KZ × Za) × Bool × Int × Int × Int × Bool × Int × Int × Int)) = some (p, 0, is, T, u, (DV w 2).Zgw, (DV w 2).f_C.1, (DV w 2).f_C.2, (DV w 2).Zj, (DV ((o.natAbs : Nat) : Int) m).Zgw, (DV ((o.natAbs : Nat) : Int) m).f_C.1, (DV ((o.natAbs : Nat) : Int) m).f_C.2, (DV ((o.natAbs : Nat) : Int) m).Zj) := by
  intro is
  by_cases h0 : o < 0
  ·rw [if_neg (by omega), if_pos h0, sn, Z0, show ((o.natAbs : Nat) : Int) = -o by omega]
   rfl
  ·have : decide ((if o = 0 then (0 : Int) else if o < 0 then -1 else 1) < 0) = false := by
    rw [decide_eq_false_iff_not]
    split <;> (try split) <;> omega
   rw [this, cond_false, show ((o.natAbs : Nat) : Int) = o by omega]
 rw [hu']
 by_cases hw0 : w = 0
 ·rw [if_pos hw0, Z0, Z0, Option.isSome_none, Bool.not_false, cond_true]
  have hz : Zdu.f k 2 = some (DV w 2) := by rw [hw0]; exact Zero_eq k 2
  refine bof (v := (p, 0, false, T, u, (DV (x.2 * v) (s + t)).Zgw, (DV (x.2 * v) (s + t)).f_C.1, (DV (x.2 * v) (s + t)).f_C.2, (DV (x.2 * v) (s + t)).Zj, (DV w 2).Zgw, (DV w 2).f_C.1, (DV w 2).f_C.2, (DV w 2).Zj)) (bof hz rfl) ?_
  dsimp only
  refine bof sb' (bof sg ?_)
  exact tail false (fun h => by cases h) _ (neg false)
 ·rw [if_neg hw0, Z0, Z0, Option.isSome_some, Bool.not_true, cond_false]
  refine bof (v := (p, 0, true, T, u, (DV (x.2 * v) (s + t)).Zgw, (DV (x.2 * v) (s + t)).f_C.1, (DV (x.2 * v) (s + t)).f_C.2, (DV (x.2 * v) (s + t)).Zj, (DV w 2).Zgw, (DV w 2).f_C.1, (DV w 2).f_C.2, (DV w 2).Zj)) rfl ?_
  dsimp only
  refine bof sb' (bof sg ?_)
  exact tail true (fun _ => hw0) _ (neg true)
theorem get_some {q : List (KZ × Int)} (hr : Ris q) (hs : SmL q) {k : KZ} {w : Int} (hm : (k, w) ∈ q) : Zhz (Zcd k) ((Zie q).map (mkz 2)) = if w = 0 then none else some (DV w 2) := by
 have hU : MZ 2 ((Zie q).map (mkz 2)) (Zie q) := ⟨.refl _, Yej hr, Yux hs⟩
 rw [hU.get k]
 by_cases hw : w = 0
 ·rw [if_pos hw]
  cases hg : Zjy k (Zie q) with
  | none => rfl
  | some v =>
   obtain ⟨h1, h2⟩ := List.mem_filter.1 (Zvn hg)
   have e1 := Yco hr _ h1
   have e2 := Yco hr _ hm
   rw [e1] at e2
   cases e2
   rw [hw] at h2
   simp at h2
 ·rw [if_neg hw]
  have : (k, w) ∈ Zie q := List.mem_filter.2 ⟨hm, by simpa using hw⟩
  rw [Yco (Yej hr) _ this]
  rfl
theorem TransEven (l : List Zr) (w0 : (l.length ≤ 9223372036854775807 ∧ l.length * 80 ≤ 140737488351232 ∧ ∀ z ∈ l, ((Lit.int .i64 z.Zes).wf = true) ∧ ((Lit.int .i64 z.f_Who).wf = true) ∧ ((Lit.int .i64 z.f_A).wf = true) ∧ ((Lit.int .i64 z.f_B).wf = true) ∧ ((Lit.int .i64 z.f_C).wf = true) ∧ ((Lit.int .i64 z.f_N).wf = true) ∧ ((Lit.int .i64 z.Yte).wf = true) ∧ ((z.f_L.length ≤ 9223372036854775807 ∧ z.f_L.length * 8 ≤ 140737488351232 ∧ ∀ z1 ∈ z.f_L, (Lit.int .i64 z1).wf = true)) ∧ True))
  (a1 : Int) (w1 : (Lit.int .i64 a1).wf = true) (a2 : Int) (w2 : (Lit.int .i64 a2).wf = true) (l3 : List Int) (w3 : (l3.length ≤ 9223372036854775807 ∧ l3.length * 8 ≤ 140737488351232 ∧ ∀ z ∈ l3, (Lit.int .i64 z).wf = true)) :
  ∃ k, Zf.f k l a1 a2 l3 = some true := by
 have hw : ∀ z ∈ l, Yij z := fun z hz => by
  obtain ⟨_, _, _, _, _, _, _, g8, _⟩ := w0.2.2 z hz
  exact g8.1
 refine ⟨2000, ?_⟩
 have hk : 1002 < 2000 := by decide
 have bs := Zfw a1 (m := 5) (by decide)
 have bp := Zfw a2 (m := 3) (by decide)
 unfold Zf.f
 refine bof (Zeh 2000 a1 (by decide) (by decide)) ?_
 obtain ⟨s, hsc⟩ : ∃ s : Nat, pick a1 5 = (s : Int) := ⟨(pick a1 5).toNat, by omega⟩
 rw [hsc] at bs ⊢
 have hs : s ≤ 4 := by omega
 have hB := bkN_inv hk hs hw
 have hBB := bkN_B hk hs hw
 obtain ⟨T, has, ds, hr, hS, hT, hRB⟩ := rates_eq (k := 2000) (by decide) w3.1
 refine bof (books_eq hk hs hw) (bof hr (bof (Zeh 2000 a2 (by decide) (by decide)) ?_))
 dsimp only
 generalize bkN 2000 s l = b at hB hBB ⊢
 generalize pick a2 3 = p at bp ⊢
 have e1 := pk hB.T
 simp only [e1]
 refine bof (v := (p, false, b.Zbc, b.f_l, b.f_t, T)) (bof known17 rfl) ?_
 dsimp only
 simp only [e1]
 rw [cond_false]
 obtain ⟨M, z0, hTr, hz0, hM, hris, hlen, hbz⟩ := trial_ok hk hs hB hBB (p := p) (by omega)
 have hTr' : Zba.f 2000 (⟨b.Zbc, b.f_l, b.f_t⟩ : Zi) p = some (M, 0, b) := hTr
 generalize Zie z0 = z at hM hlen hbz
 refine bof hTr' ?_
 dsimp only
 have hTq := Trans_eq hk hs hM hlen hT p
 cases hd : rt3 T p with
 | none =>
  rw [hd] at hTq
  refine bof hTq rfl
 | some d =>
  rw [hd] at hTq
  dsimp only at hTq
  obtain ⟨_, hget⟩ := rt3_by hT hd
  generalize hby : (fun j => [d.1, d.2.1, d.2.2].getD j Za.zero) = by_ at hTq
  have hby3 : ∀ i : Nat, i < 3 → ∃ (v : Int) (t : Nat), by_ i = DV v t ∧ (0 ≤ v ∧ v ≤ 30001) ∧ t ≤ 4 ∧ Zhz (Zam ⟨p, (i : Int)⟩) T = some (DV v t) := by
   intro i hi
   have h1 := hget i hi
   obtain ⟨q, hq, he⟩ := Ykn h1
   obtain ⟨v, t, h2, h3, h4, h5⟩ := hRB q hq
   refine ⟨v, t, ?_, ⟨h3, h4⟩, h5, ?_⟩
   ·rw [← hby]
    exact he.symm.trans h2
   ·rw [h1, ← he, h2]
  have hwb : ∀ x ∈ z, (wz x.2 s (by_ (kdZ x.1.1))).natAbs ≤ 100000000000000000 := fun x hx => by
   obtain ⟨v, t, e, hv, _⟩ := hby3 _ (kdZ_lt x.1.1)
   rw [e]
   have := hbz.h x hx
   exact wz_bd (by omega) hv s t
  obtain ⟨q, hq⟩ := trZ_ok (s := s) (B := 100000000000000000) (by_ := by_) (z := z) (S := 0) hwb (by
   have : 100000000000000000 * z.length ≤ 100000000000000000 * 1000 := Nat.mul_le_mul_left _ hlen
   show 0 + _ < _
   omega)
  rw [hq] at hTq
  dsimp only at hTq
  obtain ⟨hq2, hq1⟩ := trZ_sum hq
  obtain ⟨f1, f2, f3⟩ := Yiw Sm0 hq
  have hris1 : Ris q.1 := ris_keys f1 hM.ris
  have hlq : q.1.length = z.length := by rw [hq1, List.length_map]
  have hso : (Zie q.1).length ≤ q.1.length := List.length_filter_le _ _
  refine bof hTq ?_
  dsimp only
  rw [show ((0 : Int) != 0) = false from rfl, cond_false]
  have hu : ∀ x ∈ (Zie q.1).map (mkz 2), x.2 = DV (val x.2) 2 ∧ (val x.2).natAbs ≤ 100000000000000000 := by
   intro x hx
   obtain ⟨y, hy, rfl⟩ := List.mem_map.1 hx
   have hy1 := (List.mem_filter.1 hy).1
   rw [hq1] at hy1
   obtain ⟨x0, hx0, rfl⟩ := List.mem_map.1 hy1
   show DV _ 2 = DV (val (DV _ 2)) 2 ∧ (val (DV _ 2)).natAbs ≤ _
   rw [Zky]
   exact ⟨rfl, hwb x0 hx0⟩
  have hsD : Zkb ((Zie q.1).map (mkz 2)) = q.2 := by
   rw [Yut, Ypb, hq2, Int.zero_add]
  have hSb : (-q.2).natAbs ≤ 100000000000000000000 := by
   rw [← hsD, Int.natAbs_neg]
   have h1 := Yrp (B := 100000000000000000) (a := (Zie q.1).map (mkz 2)) fun x hx => (hu x hx).2
   rw [List.length_map] at h1
   have : 100000000000000000 * (Zie q.1).length ≤ 100000000000000000 * 1000 := Nat.mul_le_mul_left _ (by omega)
   omega
  have R1 := sum_range (k := 2000) (by decide) p T M hu (by rw [List.length_map]; omega) hSb
  rw [hsD, show -q.2 + q.2 = 0 by omega] at R1
  have R1' : Zf.r10.f 2000 (p, T, M, (Zie q.1).map (mkz 2), (DV (-q.2) 2).Zgw, (DV (-q.2) 2).f_C.1, (DV (-q.2) 2).f_C.2, (DV (-q.2) 2).Zj) = some (p, T, M, (Zie q.1).map (mkz 2), (DV 0 2).Zgw, (DV 0 2).f_C.1, (DV 0 2).f_C.2, (DV 0 2).Zj) := by
   unfold Zf.r10.f
   show (rngP (Zf.r10.once 2000) ((Zie q.1).map (mkz 2)) (p, T, M, (DV (-q.2) 2).Zgw, (DV (-q.2) 2).f_C.1, (DV (-q.2) 2).f_C.2, (DV (-q.2) 2).Zj)).map _ = _
   rw [R1]
   rfl
  refine bof R1' ?_
  dsimp only
  have hsg : Zcf.f 2000 ⟨(DV 0 2).Zgw, ((DV 0 2).f_C.1, (DV 0 2).f_C.2), (DV 0 2).Zj⟩ = some 0 := Zgo (k := 2000) (by decide) (i := 0) (by unfold Sm; decide) (by decide)
  refine bof hsg ?_
  rw [show ((0 : Int) != 0) = false from rfl, cond_false]
  have R2 : rngP (Zf.r16.once 2000) M (p, T, (Zie q.1).map (mkz 2)) = some (.inl (p, T, (Zie q.1).map (mkz 2))) := by
   refine rngP_same fun e he => ?_
   obtain ⟨x, hx, rfl⟩ := List.mem_map.1 (hM.perm.mem_iff.1 he)
   obtain ⟨v, t, e2, hv, ht, hg⟩ := hby3 _ (kdZ_lt x.1.1)
   have hxb := hbz.h x hx
   refine near_once (k := 2000) hk hs (by omega) hv ht hg ?_
   refine get_some hris1 f2 ?_
   rw [hq1]
   exact List.mem_map.2 ⟨x, hx, by rw [e2]⟩
  have R2' : Zf.r16.f 2000 (p, T, M, (Zie q.1).map (mkz 2)) = some (.inl (M, (Zie q.1).map (mkz 2))) := by
   unfold Zf.r16.f
   show (rngP (Zf.r16.once 2000) M (p, T, (Zie q.1).map (mkz 2))).map _ = _
   rw [R2]
   rfl
  refine bof R2' ?_
  dsimp only
  rw [List.length_map, hM.len, decide_eq_true (show ((Zie q.1).length : Int) ≤ (z.length : Int) by omega)]
end Go.Proofs.YtbchcjlllddlpaaGreat.Pure
