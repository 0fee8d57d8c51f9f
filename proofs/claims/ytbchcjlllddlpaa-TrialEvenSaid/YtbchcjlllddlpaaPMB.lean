/- Plain laws: Ti, Tj, Tv, Xc, Rn, Xd, An, PureTrialEven. No conditions but size. -/
import Derived.Test.YtbchcjlllddlpaaPMA
import Derived.Test.YtbchcjlllddlpaaFs
namespace Go.Proofs.Ytbchcjlllddlpaa.Pure
set_option linter.unusedVariables false
set_option linter.unusedSimpArgs false
open Go Go.Ev Go.Lm Go.Pu Go.Dg
def sumP (P : KZ → Bool) : List (KZ × Int) → Int
 | [] => 0
 | x :: r => (if P x.1 = true then x.2 else 0) + sumP P r
structure BZ (n : Nat) (z : List (KZ × Int)) : Prop where
 h : ∀ q ∈ z, q.2.natAbs ≤ n * 100000000
theorem Sm_of {v : Int} {n : Nat} (hn : n ≤ 100000) (h : v.natAbs ≤ n * 100000000) : Sm v := by
 unfold Sm
 have : n * 100000000 ≤ 100000 * 100000000 := Nat.mul_le_mul_right _ hn
 omega
theorem putZ_ok {k : KZ} {v : Int} (hv : v.natAbs ≤ 100000000) {n : Nat} (hn : n + 1 ≤ 100000) (z : List (KZ × Int)) (h : BZ n z) : ∃ z', Woo k v z = some z' ∧ BZ (n + 1) z' := by
 induction z with
 | nil =>
  refine ⟨[(k, v)], by unfold Woo; rfl, ⟨fun q hq => ?_⟩⟩
  rw [List.mem_singleton.1 hq]
  dsimp only
  omega
 | cons x r ih =>
  have hx := h.h x List.mem_cons_self
  have up : ∀ q ∈ x :: r, q.2.natAbs ≤ (n + 1) * 100000000 := fun q hq => Nat.le_trans (h.h q hq) (Nat.mul_le_mul_right _ (Nat.le_succ n))
  unfold Woo
  by_cases e : x.1 = k
  ·have hS : (x.2 + v).natAbs ≤ (n + 1) * 100000000 := by omega
   rw [if_pos e, if_pos (Sm_of hn hS)]
   refine ⟨_, rfl, ⟨fun q hq => ?_⟩⟩
   rcases List.mem_cons.1 hq with rfl | hq
   ·exact hS
   ·exact up q (List.mem_cons_of_mem _ hq)
  ·rw [if_neg e]
   by_cases hl : ltZ k x.1 = true
   ·rw [if_pos hl]
    refine ⟨_, rfl, ⟨fun q hq => ?_⟩⟩
    rcases List.mem_cons.1 hq with rfl | hq
    ·dsimp only
     omega
    ·exact up q hq
   ·rw [if_neg hl]
    obtain ⟨z', h1, h2⟩ := ih ⟨fun q hq => h.h q (List.mem_cons_of_mem _ hq)⟩
    rw [h1]
    refine ⟨_, rfl, ⟨fun q hq => ?_⟩⟩
    rcases List.mem_cons.1 hq with rfl | hq
    ·exact up _ List.mem_cons_self
    ·exact h2.h q hq
theorem Qiz {P : KZ → Bool} {k : KZ} {v : Int} : ∀ {z z' : List (KZ × Int)}, Woo k v z = some z' → sumP P z' = sumP P z + (if P k = true then v else 0)
 | [], z', h => by
  cases h
  show (if P k = true then v else 0) + 0 = 0 + _
  omega
 | x :: r, z', h => by
  unfold Woo at h
  by_cases e : x.1 = k
  ·rw [if_pos e] at h
   split at h
   ·cases h
    unfold sumP
    dsimp only
    rw [e]
    split <;> omega
   ·cases h
  ·rw [if_neg e] at h
   by_cases hl : ltZ k x.1 = true
   ·rw [if_pos hl] at h
    cases h
    show (if P k = true then v else 0) + sumP P (x :: r) = _
    omega
   ·rw [if_neg hl] at h
    obtain ⟨z1, h1, h2⟩ := Option.map_eq_some_iff.1 h
    subst h2
    have := Qiz (P := P) h1
    unfold sumP
    omega
def Wzc (P : KZ → Bool) (o : Bool) : List Zd → Int
 | [] => 0
 | x :: r => (if P (kzL o x) = true then val x.Zq else 0) + Wzc P o r
def totE (P : KZ → Bool) (p : Int) (t : Ze) : List Za → Int
 | [] => 0
 | x :: r => (if x.Zad > p then 0 else Wzc P (opn t x.Zad) x.Zay) + totE P p t r
theorem Qby {P : KZ → Bool} {o : Bool} : ∀ {ls : List Zd} {z z' : List (KZ × Int)}, Wiu o ls z = some z' → sumP P z' = sumP P z + Wzc P o ls
 | [], z, z', h => by cases h; exact (Int.add_zero _).symm
 | x :: r, z, z', h => by
  unfold Wiu at h
  obtain ⟨z1, h1, h2⟩ := Option.bind_eq_some_iff.1 h
  have e1 := Qiz (P := P) h1
  have e2 := Qby (P := P) h2
  unfold Wzc
  omega
theorem Wsc {P : KZ → Bool} {p : Int} {t : Ze} : ∀ {es : List Za} {z z' : List (KZ × Int)}, entZ p t es z = some z' → sumP P z' = sumP P z + totE P p t es
 | [], z, z', h => by cases h; exact (Int.add_zero _).symm
 | x :: r, z, z', h => by
  unfold entZ at h
  unfold totE
  split at h
  ·rename_i hp
   have := Wsc (P := P) h
   rw [if_pos hp]
   omega
  ·rename_i hp
   obtain ⟨z1, h1, h2⟩ := Option.bind_eq_some_iff.1 h
   have e1 := Qby (P := P) h1
   have e2 := Wsc (P := P) h2
   rw [if_neg hp]
   omega
def LB (x : Zd) : Prop := (val x.Zq).natAbs ≤ 100000000
theorem Qjn {o : Bool} : ∀ {ls : List Zd} {n : Nat} {z : List (KZ × Int)}, (∀ x ∈ ls, LB x) → n + ls.length ≤ 100000 → BZ n z → ∃ z', Wiu o ls z = some z' ∧ BZ (n + ls.length) z'
 | [], n, z, _, _, h => ⟨z, rfl, h⟩
 | x :: r, n, z, hl, hn, h => by
  rw [List.length_cons] at hn ⊢
  obtain ⟨z1, h1, h2⟩ := putZ_ok (k := kzL o x) (hl x List.mem_cons_self) (n := n) (by omega) z h
  obtain ⟨z2, h3, h4⟩ := Qjn (o := o) (fun y hy => hl y (List.mem_cons_of_mem _ hy)) (by omega) h2
  refine ⟨z2, ?_, by rw [show n + (r.length + 1) = n + 1 + r.length by omega]; exact h4⟩
  unfold Wiu
  rw [h1, Z0, h3]
theorem BZ.up {n m : Nat} {z : List (KZ × Int)} (h : BZ n z) (hn : n ≤ m) : BZ m z := ⟨fun q hq => Nat.le_trans (h.h q hq) (Nat.mul_le_mul_right _ hn)⟩
theorem Qmq {p : Int} {t : Ze} : ∀ {es : List Za} {n : Nat} {z : List (KZ × Int)}, (∀ x ∈ es, x.Zay.length ≤ 8 ∧ ∀ y ∈ x.Zay, LB y) → n + 8 * es.length ≤ 100000 → BZ n z → ∃ z', entZ p t es z = some z' ∧ BZ (n + 8 * es.length) z'
 | [], n, z, _, _, h => ⟨z, rfl, h⟩
 | x :: r, n, z, hl, hn, h => by
  rw [List.length_cons] at hn ⊢
  have hx := hl x List.mem_cons_self
  unfold entZ
  split
  ·obtain ⟨z2, h3, h4⟩ := Qmq (p := p) (t := t) (fun y hy => hl y (List.mem_cons_of_mem _ hy)) (by omega) h
   exact ⟨z2, h3, h4.up (by omega)⟩
  ·obtain ⟨z1, h1, h2⟩ := Qjn (o := opn t x.Zad) hx.2 (n := n) (by omega) h
   obtain ⟨z2, h3, h4⟩ := Qmq (p := p) (t := t) (fun y hy => hl y (List.mem_cons_of_mem _ hy)) (n := n + x.Zay.length) (by omega) h2
   refine ⟨z2, ?_, h4.up (by omega)⟩
   rw [h1, Z0, h3]
theorem Wzd (P : KZ → Bool) : ∀ z : List (KZ × Int), sumP P (Wjr z) = sumP P z
 | [] => rfl
 | x :: r => by
  have ih := Wzd P r
  unfold Wjr at ih ⊢
  by_cases h : x.2 = 0
  ·rw [List.filter_cons_of_neg (by simp [h]), ih]
   show _ = (if P x.1 = true then x.2 else 0) + sumP P r
   rw [h]
   split <;> exact (Int.zero_add _).symm
  ·rw [List.filter_cons_of_pos (by simpa using h)]
   unfold sumP
   rw [ih]
theorem BZ.some {n : Nat} {z : List (KZ × Int)} (h : BZ n z) : BZ n (Wjr z) := ⟨fun q hq => h.h q (List.mem_filter.1 hq).1⟩
theorem Qir {P : KZ → Bool} : ∀ {z : List (KZ × Int)}, (∀ q ∈ z, P q.1 = false) → sumP P z = 0
 | [], _ => rfl
 | x :: r, h => by
  unfold sumP
  rw [if_neg (by rw [h x List.mem_cons_self]; decide), Qir fun q hq => h q (List.mem_cons_of_mem _ hq)]
  rfl
theorem sumP_key {z : List (KZ × Int)} (hz : Ris z) {q : KZ × Int} (hq : q ∈ z) : sumP (fun k => k == q.1) z = q.2 := by
 induction z with
 | nil => cases hq
 | cons x r ih =>
  have h' := List.pairwise_cons.1 hz
  unfold sumP
  rcases List.mem_cons.1 hq with rfl | hr
  ·rw [Qir fun p hp => by
    rw [beq_eq_false_iff_ne]
    exact (Wwy (h'.1 p hp)).symm, if_pos (by simp)]
   omega
  ·rw [if_neg (by simpa using Wwy (h'.1 q hr)), ih h'.2 hr]
   omega
end Go.Proofs.Ytbchcjlllddlpaa.Pure
namespace Go.Proofs.Ytbchcjlllddlpaa.Pure
set_option linter.unusedVariables false
set_option linter.unusedSimpArgs false
open Go Go.Ev Go.Lm Go.Pu Go.Dg
theorem Qtk {k : Nat} (hk : 1002 < k) {s : Nat} (hs : s ≤ 4) {L : List Int} (hL : L.length ≤ 9223372036854775807) : ∀ x ∈ Wkc k s L, LB x := by
 obtain ⟨y, hy, y1, y2, y3⟩ := Qhx (k := k) (by omega) L hL (by omega : s ≤ 9) (b := 0) (by decide) (e := 4) (by decide)
 have : Wkc k s L = y := by unfold Wkc; rw [hy]; rfl
 rw [this]
 intro x hx
 obtain ⟨v, v1, v2, _⟩ := (y3 rfl).2.2.2 x hx
 unfold LB
 rw [v1, Wgh]
 exact v2
def BInv (b : Zf) : Prop := ∀ x ∈ b.f_l, ∀ y ∈ x.Zay, LB y
theorem BInv.add {b : Zf} (h : BInv b) {x : Za} (hx : ∀ y ∈ x.Zay, LB y) : BInv (Whz b x).2.2 := by
 unfold Whz
 split
 ·split
  ·exact h
  ·intro y hy
   rcases List.mem_append.1 hy with hy | hy
   ·exact h y hy
   ·have : y = x := by simpa using hy
    rw [this]
    exact hx
 ·exact h
theorem BInv.post {s : Nat} {b : Zf} (h : BInv b) (p : Int) {l : List Zd} (hl : ∀ y ∈ l, LB y) : BInv (Wkp s b p l).2.2 := by
 unfold Wkp
 split
 ·exact h.add hl
 ·exact h
theorem BInv.step {k : Nat} (hk : 1002 < k) {s : Nat} (hs : s ≤ 4) {b : Zf} (h : BInv b) {x : Zp} (hx : Qcx x) : BInv (Wdv k s b x) := by
 have turn : ∀ c, BInv (Wec b c).2 := fun c => by
  unfold Wec
  dsimp only
  cases c.2.2 == 0 <;> exact h
 unfold Wdv
 cases pick x.Zdr 8 == 0 with
 | true => exact turn _
 | false =>
  rw [cond_false]
  cases pick x.Zdr 8 == 1 with
  | true =>
   rw [cond_true]
   unfold Won
   split
   ·exact h
   ·rename_i h0
    split
    ·exact h
    ·refine h.add fun y hy => ?_
     obtain ⟨z, hz, rfl⟩ := List.mem_map.1 hy
     have := h _ (Zec Za.zero (by omega)) z hz
     unfold LB at this ⊢
     show (val (DV (-(val z.Zq)) s)).natAbs ≤ _
     rw [Wgh, Int.natAbs_neg]
     exact this
  | false =>
   rw [cond_false]
   cases pick x.Zdr 8 == 2 with
   | true => exact turn _
   | false => exact h.post _ (Qtk hk hs hx)
theorem bkN_B {k : Nat} (hk : 1002 < k) {s : Nat} (hs : s ≤ 4) {l : List Zp} (hw : ∀ z ∈ l, Qcx z) : BInv (bkN k s l) := by
 have : ∀ i, i ≤ l.length → BInv (bkR k s l i) := by
  intro i
  induction i with
  | zero => exact fun _ x hx => (List.not_mem_nil hx).elim
  | succ i ih => exact fun hi => (ih (by omega)).step hk hs (hw _ (Wrw (by omega)))
 exact this _ (Nat.min_le_left _ _)
theorem Qal {C : List Bool} {n : Nat} (h : n < C.length) (v : Bool) (i : Nat) : (C.set n v).getD i false = if i = n then v else C.getD i false := by
 rw [List.getD_eq_getElem?_getD, List.getD_eq_getElem?_getD, List.getElem?_set]
 by_cases e : i = n
 ·rw [if_pos e, if_pos e.symm, if_pos h]; rfl
 ·rw [if_neg e, if_neg (fun h => e h.symm)]
def ClC (c : Nat) (C : List Bool) : Prop := C.length = 12 ∧ ∀ i : Nat, i < 12 → C.getD i false = decide (i < c)
def ClN (b : Zf) : Prop := ∃ c : Nat, c ≤ 3 ∧ ClC c b.f_t.Zk
theorem ClC.clo {c : Nat} {C : List Bool} (h : ClC c C) {p : Int} (hp : 0 ≤ p ∧ p < 12) (hc : Pe.cOk C p = true) : p.toNat = c := by
 unfold Pe.cOk at hc
 simp only [Bool.and_eq_true, decide_eq_true_eq, Bool.not_eq_true', Bool.or_eq_true, decide_eq_false_iff_not] at hc
 obtain ⟨_, _, h1, h2⟩ := hc
 rw [h.2 _ (by omega), decide_eq_false_iff_not] at h1
 rcases h2 with h2 | h2
 ·omega
 ·rw [h.2 _ (by omega), decide_eq_true_eq] at h2
  omega
theorem ClC.reo {c : Nat} {C : List Bool} (h : ClC c C) {p : Int} (hp : 0 ≤ p ∧ p < 11) (hc : Pe.rOk C p = true) : p.toNat + 1 = c := by
 unfold Pe.rOk at hc
 simp only [Bool.and_eq_true, decide_eq_true_eq, Bool.not_eq_true', Bool.or_eq_true, decide_eq_false_iff_not] at hc
 obtain ⟨_, _, h1, h2⟩ := hc
 rw [h.2 _ (by omega), decide_eq_true_eq] at h1
 rcases h2 with h2 | h2
 ·omega
 ·rw [h.2 _ (by omega), decide_eq_false_iff_not] at h2
  omega
theorem ClC.up {c : Nat} {C : List Bool} (h : ClC c C) (hc : c < 12) : ClC (c + 1) (C.set c true) := by
 refine ⟨by rw [List.length_set]; exact h.1, fun i hi => ?_⟩
 rw [Qal (by rw [h.1]; exact hc), h.2 i hi]
 by_cases e : i = c
 ·rw [if_pos e, decide_eq_true (by omega)]
 ·rw [if_neg e]
  exact decide_eq_decide.2 ⟨fun h => by omega, fun h => by omega⟩
theorem ClC.down {c : Nat} {C : List Bool} (h : ClC (c + 1) C) (hc : c < 12) : ClC c (C.set c false) := by
 refine ⟨by rw [List.length_set]; exact h.1, fun i hi => ?_⟩
 rw [Qal (by rw [h.1]; exact hc), h.2 i hi]
 by_cases e : i = c
 ·rw [if_pos e, decide_eq_false (by omega)]
 ·rw [if_neg e]
  exact decide_eq_decide.2 ⟨fun h => by omega, fun h => by omega⟩
theorem ClN.step {k s : Nat} {b : Zf} (h : ClN b) (x : Zp) : ClN (Wdv k s b x) := by
 obtain ⟨c, hc, hC⟩ := h
 have add : ∀ y, ClN (Whz b y).2.2 := fun y => by
  unfold Whz
  split
  ·split
   ·exact ⟨c, hc, hC⟩
   ·exact ⟨c, hc, hC⟩
  ·exact ⟨c, hc, hC⟩
 have bp := Zfe x.f_B (m := 3) (by decide)
 unfold Wdv
 cases pick x.Zdr 8 == 0 with
 | true =>
  rw [cond_true]
  unfold Wec Pe.clo
  by_cases h0 : Pe.cOk b.f_t.Zk (pick x.f_B 3) = true
  ·rw [if_pos h0]
   have e := hC.clo (by omega) h0
   refine ⟨c + 1, by omega, ?_⟩
   have := hC.up (by omega)
   rw [← e] at this ⊢
   exact this
  ·rw [if_neg h0]
   exact ⟨c, hc, hC⟩
 | false =>
  rw [cond_false]
  cases pick x.Zdr 8 == 1 with
  | true =>
   rw [cond_true]
   unfold Won
   split
   ·exact ⟨c, hc, hC⟩
   ·split
    ·exact ⟨c, hc, hC⟩
    ·exact add _
  | false =>
   rw [cond_false]
   cases pick x.Zdr 8 == 2 with
   | true =>
    rw [cond_true]
    unfold Wec Pe.reo
    by_cases h0 : Pe.rOk b.f_t.Zk (pick x.f_B 3) = true
    ·rw [if_pos h0]
     have e := hC.reo (by omega) h0
     refine ⟨(pick x.f_B 3).toNat, by omega, ?_⟩
     rw [← e] at hC
     exact hC.down (by omega)
    ·rw [if_neg h0]
     exact ⟨c, hc, hC⟩
   | false =>
    rw [cond_false]
    unfold Wkp
    split
    ·exact add _
    ·exact ⟨c, hc, hC⟩
theorem bkN_C (k s : Nat) (l : List Zp) : ClN (bkN k s l) := by
 unfold bkN
 generalize min l.length 14 = n
 induction n with
 | zero =>
  refine ⟨0, Nat.zero_le _, rfl, ?_⟩
  show ∀ i : Nat, i < 12 → [false, false, false, false, false, false, false, false, false, false, false, false].getD i false = decide (i < 0)
  decide
 | succ n ih => exact ih.step _
theorem opn_eq {t : Ze} {c : Nat} (h : ClC c t.Zk) (i : Int) : opn t i = decide (0 ≤ i ∧ i < 12 ∧ (c : Int) ≤ i) := by
 unfold opn
 by_cases h1 : i ≥ 0
 ·by_cases h2 : i < 12
  ·rw [h.2 _ (by omega), decide_eq_true h1, decide_eq_true h2, Bool.true_and, Bool.true_and, ← decide_not]
   exact decide_eq_decide.2 ⟨fun h => by omega, fun h => by omega⟩
  ·rw [decide_eq_false h2, Bool.false_and, Bool.and_false, decide_eq_false (by omega)]
 ·rw [decide_eq_false h1, Bool.false_and, decide_eq_false (by omega)]
theorem l12 : ∀ {C : List Bool}, C.length = 12 → [List.getD C 0 false, List.getD C 1 false, List.getD C 2 false, List.getD C 3 false, List.getD C 4 false, List.getD C 5 false, List.getD C 6 false, List.getD C 7 false, List.getD C 8 false, List.getD C 9 false, List.getD C 10 false, List.getD C 11 false] = C
 | [_, _, _, _, _, _, _, _, _, _, _, _], _ => rfl
theorem Quv (k : Nat) {b : Zf} (h : T12 b.f_t) : Zbd.f k b = some (b.f_t, b) := by
 unfold Zbd.f
 simp only [pk h, pkB h]
theorem trial_ok {k : Nat} (hk : 1002 < k) {s : Nat} (hs : s ≤ 4) {b : Zf} (h : Wla s b) (hB : BInv b) {p : Int} (hp : 0 ≤ p ∧ p < 12) :
  ∃ M z, Zar.f k b p = some (M, 0, b) ∧ entZ p b.f_t b.f_l [] = some z ∧ MZ s M (Wjr z) ∧ Ris z ∧ (Wjr z).length ≤ 1000 ∧ BZ 320 (Wjr z) := by
 obtain ⟨M, e, h1, h2⟩ := Trial_eq hk hs h p
 have hl := h.len
 obtain ⟨z, h3, h4⟩ := Qmq (p := p) (t := b.f_t) (es := b.f_l) (n := 0) (z := []) (fun x hx => ⟨(h.ls x hx).1, hB x hx⟩) (by omega) ⟨fun q hq => (List.not_mem_nil hq).elim⟩
 obtain ⟨g1, g2, g3⟩ := Qhh h.ls List.Pairwise.nil (fun p hp => (List.not_mem_nil hp).elim) h3
 have hso : (Wjr z).length ≤ z.length := List.length_filter_le _ _
 rw [if_neg (by omega), h3] at h2
 obtain ⟨rfl, h6⟩ := h2
 exact ⟨M, z, h1, h3, h6, g1, by simp at g3; omega, h4.some.up (by omega)⟩
end Go.Proofs.Ytbchcjlllddlpaa.Pure
namespace Go.Proofs.Ytbchcjlllddlpaa.Pure
set_option linter.unusedVariables false
set_option linter.unusedSimpArgs false
open Go Go.Ev Go.Lm Go.Pu Go.Dg
def allK : KZ → Bool := fun _ => true
def sumA : List Zd → Int
 | [] => 0
 | x :: r => val x.Zq + sumA r
theorem Qpl : ∀ (l : List Zd) (a S : Int), Wpo a l = some S → S = a + sumA l
 | [], a, S, h => by cases h; exact (Int.add_zero _).symm
 | x :: r, a, S, h => by
  unfold Wpo at h
  split at h
  ·have := Qpl r _ _ h
   unfold sumA
   omega
  ·cases h
theorem Qta {s : Nat} {l : List Zd} (h : Wfb s l = 0) : sumA l = 0 := by
 unfold Wfb at h
 split at h
 ·cases h
 ·split at h
  ·split at h
   ·cases h
   ·rename_i S hS
    have := Qpl _ _ _ hS
    split at h
    ·omega
    ·cases h
  ·cases h
theorem Qit (s : Nat) : ∀ l : List Zd, sumA (l.map (turn s)) = -sumA l
 | [] => rfl
 | x :: r => by
  rw [List.map_cons]
  unfold sumA
  rw [Qit s r, show val (turn s x).Zq = -(val x.Zq) from Wgh _ _]
  omega
theorem Qoh (o : Bool) : ∀ l : List Zd, Wzc allK o l = sumA l
 | [] => rfl
 | x :: r => by
  unfold Wzc sumA
  rw [Qoh o r]
  rfl
def ZInv (b : Zf) : Prop := ∀ x ∈ b.f_l, sumA x.Zay = 0
theorem ZInv.add {b : Zf} (h : ZInv b) {x : Za} (hx : sumA x.Zay = 0) : ZInv (Whz b x).2.2 := by
 unfold Whz
 split
 ·split
  ·exact h
  ·intro y hy
   rcases List.mem_append.1 hy with hy | hy
   ·exact h y hy
   ·have : y = x := by simpa using hy
    rw [this]
    exact hx
 ·exact h
theorem ZInv.rev {s : Nat} {b : Zf} (h : ZInv b) (n p : Int) : ZInv (Won s b n p).2.2 := by
 unfold Won
 split
 ·exact h
 ·rename_i h0
  split
  ·exact h
  ·refine h.add ?_
   show sumA (List.map (turn s) _) = 0
   rw [Qit, h _ (Zec Za.zero (by omega))]
   rfl
theorem ZInv.step {k s : Nat} {b : Zf} (h : ZInv b) (x : Zp) : ZInv (Wdv k s b x) := by
 have turn : ∀ c, ZInv (Wec b c).2 := fun c => by
  unfold Wec
  dsimp only
  cases c.2.2 == 0 <;> exact h
 unfold Wdv
 cases pick x.Zdr 8 == 0 with
 | true => exact turn _
 | false =>
  rw [cond_false]
  cases pick x.Zdr 8 == 1 with
  | true =>
   rw [cond_true]
   exact h.rev _ _
  | false =>
   rw [cond_false]
   cases pick x.Zdr 8 == 2 with
   | true => exact turn _
   | false =>
    rw [cond_false]
    unfold Wkp
    split
    ·rename_i h0
     exact h.add (Qta h0)
    ·exact h
theorem bkN_Z (k s : Nat) (l : List Zp) : ZInv (bkN k s l) := by
 unfold bkN
 generalize min l.length 14 = n
 induction n with
 | zero => exact fun x hx => (List.not_mem_nil hx).elim
 | succ n ih => exact ih.step _
theorem Qok {p : Int} {t : Ze} : ∀ {es : List Za}, (∀ x ∈ es, sumA x.Zay = 0) → totE allK p t es = 0
 | [], _ => rfl
 | x :: r, h => by
  unfold totE
  rw [Qok fun y hy => h y (List.mem_cons_of_mem _ hy), Qoh, h x List.mem_cons_self]
  split <;> rfl
theorem Qsl {b : Zf} (h : ZInv b) {p : Int} {z : List (KZ × Int)} (hz : entZ p b.f_t b.f_l [] = some z) : sumP allK (Wjr z) = 0 := by
 rw [Wzd, Wsc hz, Qok h]
 rfl
end Go.Proofs.Ytbchcjlllddlpaa.Pure
namespace Go.Proofs.Ytbchcjlllddlpaa.Pure
set_option linter.unusedVariables false
set_option linter.unusedSimpArgs false
open Go Go.Ev Go.Lm Go.Pu Go.Dg
def Wze : List Int → Int
 | [] => 0
 | x :: r => x + Wze r
theorem sumI_perm {a b : List Int} (h : a.Perm b) : Wze a = Wze b := by
 induction h with
 | nil => rfl
 | cons x _ ih => unfold Wze; rw [ih]
 | swap x y l =>
  show y + (x + Wze l) = x + (y + Wze l)
  omega
 | trans _ _ ih1 ih2 => exact ih1.trans ih2
theorem Qos (f : Nat → Int) : ∀ l : List Nat, Wze (l.map fun i => -(f i)) = -Wze (l.map f)
 | [] => rfl
 | x :: r => by
  show -(f x) + Wze (r.map fun i => -(f i)) = -(f x + Wze (r.map f))
  rw [Qos f r]
  omega
theorem pair_zero {n : Nat} {f : Nat → Int} {π : Nat → Nat} (h : ∀ i, i < n → f i ≠ 0 → π i < n ∧ f (π i) = -(f i) ∧ π (π i) = i) : Wze ((List.range n).map f) = 0 := by
 let σ : Nat → Nat := fun i => if f i = 0 then i else π i
 have h1 : ∀ i, i < n → σ i < n ∧ f (σ i) = -(f i) ∧ σ (σ i) = i := by
  intro i hi
  by_cases h0 : f i = 0
  ·have e : σ i = i := if_pos h0
   rw [e, e, h0]
   exact ⟨hi, rfl, rfl⟩
  ·obtain ⟨g1, g2, g3⟩ := h i hi h0
   have e : σ i = π i := if_neg h0
   have e2 : σ (π i) = π (π i) := if_neg (by rw [g2]; omega)
   rw [e, e2]
   exact ⟨g1, g2, g3⟩
 have hp : ((List.range n).map σ).Perm (List.range n) := by
  refine (List.perm_ext_iff_of_nodup ?_ List.nodup_range).2 fun x => ⟨fun hx => ?_, fun hx => ?_⟩
  ·refine List.pairwise_map.2 (List.Pairwise.imp_of_mem ?_ (List.nodup_range (n := n)))
   intro a b ha hb hab e
   have := congrArg σ e
   rw [(h1 a (List.mem_range.1 ha)).2.2, (h1 b (List.mem_range.1 hb)).2.2] at this
   exact hab this
  ·obtain ⟨a, ha, rfl⟩ := List.mem_map.1 hx
   exact List.mem_range.2 (h1 a (List.mem_range.1 ha)).1
  ·obtain ⟨g1, _, g3⟩ := h1 x (List.mem_range.1 hx)
   exact List.mem_map.2 ⟨σ x, List.mem_range.2 g1, g3⟩
 have e1 := sumI_perm (hp.map f)
 rw [List.map_map] at e1
 have e2 : (List.range n).map (f ∘ σ) = (List.range n).map fun i => -(f i) := List.map_congr_left fun i hi => (h1 i (List.mem_range.1 hi)).2.1
 rw [e2, Qos] at e1
 omega
def cE (P : KZ → Bool) (p : Int) (t : Ze) (x : Za) : Int := if x.Zad > p then 0 else Wzc P (opn t x.Zad) x.Zay
theorem Qoj (P : KZ → Bool) (p : Int) (t : Ze) : ∀ es : List Za, totE P p t es = Wze (es.map (cE P p t))
 | [] => rfl
 | x :: r => by
  show (if x.Zad > p then 0 else Wzc P (opn t x.Zad) x.Zay) + totE P p t r = cE P p t x + Wze (r.map (cE P p t))
  rw [Qoj P p t r]
  rfl
theorem map_range {α β : Type} (g : α → β) (d : α) (l : List α) : l.map g = (List.range l.length).map fun i => g (l.getD i d) := by
 apply List.ext_getElem?
 intro i
 rw [List.getElem?_map, List.getElem?_map]
 by_cases h : i < l.length
 ·rw [Z3 h, List.getElem?_range h]
  simp [List.getD_eq_getElem?_getD, Z3 h]
 ·rw [List.getElem?_eq_none (by omega), List.getElem?_eq_none (by rw [List.length_range]; omega)]
  rfl
theorem Wza (P : KZ → Bool) (o : Bool) (s : Nat) : ∀ l : List Zd, Wzc P o (l.map (turn s)) = -Wzc P o l
 | [] => rfl
 | x :: r => by
  show (if P (kzL o (turn s x)) = true then val (turn s x).Zq else 0) + Wzc P o (r.map (turn s)) = -((if P (kzL o x) = true then val x.Zq else 0) + Wzc P o r)
  rw [Wza P o s r, show val (turn s x).Zq = -(val x.Zq) from Wgh _ _, show kzL o (turn s x) = kzL o x from rfl]
  split <;> omega
structure RInv (s : Nat) (l : List Za) : Prop where
 ev : ∀ i, i < l.length → 0 ≤ (l.getD i Za.zero).Wbm → (l.getD i Za.zero).Wbm.toNat < i ∧ (l.getD (l.getD i Za.zero).Wbm.toNat Za.zero).Wbm < 0 ∧ (l.getD i Za.zero).Zay = (l.getD (l.getD i Za.zero).Wbm.toNat Za.zero).Zay.map (turn s)
 un : ∀ i j, i < l.length → j < l.length → 0 ≤ (l.getD i Za.zero).Wbm → (l.getD i Za.zero).Wbm = (l.getD j Za.zero).Wbm → i = j
theorem getA {α : Type} (l : List α) (x d : α) {i : Nat} (h : i < l.length) : (l ++ [x]).getD i d = l.getD i d := by
 rw [List.getD_eq_getElem?_getD, List.getD_eq_getElem?_getD, List.getElem?_append_left h]
theorem getL {α : Type} (l : List α) (x d : α) : (l ++ [x]).getD l.length d = x := by
 rw [List.getD_eq_getElem?_getD, List.getElem?_append_right (Nat.le_refl _), Nat.sub_self]
 rfl
theorem RInv.snoc {s : Nat} {l : List Za} (h : RInv s l) {x : Za} (hx : 0 ≤ x.Wbm → x.Wbm.toNat < l.length ∧ (l.getD x.Wbm.toNat Za.zero).Wbm < 0 ∧ x.Zay = (l.getD x.Wbm.toNat Za.zero).Zay.map (turn s))
  (hu : 0 ≤ x.Wbm → ∀ y ∈ l, y.Wbm ≠ x.Wbm) : RInv s (l ++ [x]) := by
 have hlen : (l ++ [x]).length = l.length + 1 := by simp
 constructor
 ·intro i hi h0
  rw [hlen] at hi
  by_cases e : i < l.length
  ·rw [getA l x _ e] at h0 ⊢
   obtain ⟨g1, g2, g3⟩ := h.ev i e h0
   rw [getA l x _ (by omega)]
   exact ⟨g1, g2, g3⟩
  ·have : i = l.length := by omega
   subst this
   rw [getL] at h0 ⊢
   obtain ⟨g1, g2, g3⟩ := hx h0
   rw [getA l x _ g1]
   exact ⟨g1, g2, g3⟩
 ·intro i j hi hj h0 he
  rw [hlen] at hi hj
  by_cases e : i < l.length
  ·rw [getA l x _ e] at h0 he
   by_cases e2 : j < l.length
   ·rw [getA l x _ e2] at he
    exact h.un i j e e2 h0 he
   ·have : j = l.length := by omega
    subst this
    rw [getL] at he
    exact absurd he (hu (by omega) _ (Zec Za.zero e))
  ·have : i = l.length := by omega
   subst this
   rw [getL] at h0 he
   by_cases e2 : j < l.length
   ·rw [getA l x _ e2] at he
    exact absurd he.symm (hu h0 _ (Zec Za.zero e2))
   ·omega
theorem RInv.add {s : Nat} {b : Zf} (h : RInv s b.f_l) {x : Za} (hx : RInv s (b.f_l ++ [x])) : RInv s (Whz b x).2.2.f_l := by
 unfold Whz
 split
 ·split
  ·exact h
  ·exact hx
 ·exact h
theorem RInv.rev {s : Nat} {b : Zf} (h : RInv s b.f_l) (n p : Int) : RInv s (Won s b n p).2.2.f_l := by
 unfold Won
 split
 ·exact h
 ·rename_i h0
  split
  ·exact h
  ·rename_i h1
   have h2 : Wnh b.f_l n = false := by
    cases hh : Wnh b.f_l n with
    | false => rfl
    | true => exact absurd (.inr hh) h1
   refine h.add (h.snoc (fun _ => ⟨by dsimp only; omega, by dsimp only; omega, rfl⟩) fun _ y hy e => ?_)
   unfold Wnh at h2
   have := List.any_eq_false.1 h2 y hy
   exact this (by simpa using e)
theorem RInv.step {k s : Nat} {b : Zf} (h : RInv s b.f_l) (x : Zp) : RInv s (Wdv k s b x).f_l := by
 have turn : ∀ c, RInv s (Wec b c).2.f_l := fun c => by
  unfold Wec
  dsimp only
  cases c.2.2 == 0 <;> exact h
 unfold Wdv
 cases pick x.Zdr 8 == 0 with
 | true => exact turn _
 | false =>
  rw [cond_false]
  cases pick x.Zdr 8 == 1 with
  | true =>
   rw [cond_true]
   exact h.rev _ _
  | false =>
   rw [cond_false]
   cases pick x.Zdr 8 == 2 with
   | true => exact turn _
   | false =>
    rw [cond_false]
    unfold Wkp
    split
    ·exact h.add (h.snoc (fun h0 => by dsimp only at h0; omega) fun h0 => by dsimp only at h0; omega)
    ·exact h
theorem bkN_R (k s : Nat) (l : List Zp) : RInv s (bkN k s l).f_l := by
 unfold bkN
 generalize min l.length 14 = n
 induction n with
 | zero => exact ⟨fun i hi => (Nat.not_lt_zero _ hi).elim, fun i j hi => (Nat.not_lt_zero _ hi).elim⟩
 | succ n ih => exact ih.step _
open Classical in
theorem tot_none {s : Nat} {l : List Za} (h : RInv s l) {p : Int} (P : KZ → Bool) (t : Ze)
  (h1 : ∀ i, i < l.length → 0 ≤ (l.getD i Za.zero).Wbm → (l.getD i Za.zero).Zad ≤ p → (l.getD i Za.zero).Zad = (l.getD (l.getD i Za.zero).Wbm.toNat Za.zero).Zad)
  (h2 : ∀ i, i < l.length → (l.getD i Za.zero).Wbm < 0 → (l.getD i Za.zero).Zad ≤ p → ∃ j, j < l.length ∧ (l.getD j Za.zero).Wbm = (i : Int) ∧ (l.getD j Za.zero).Zad ≤ p) : totE P p t l = 0 := by
 rw [Qoj, map_range (cE P p t) Za.zero]
 let g : Nat → Za := fun i => l.getD i Za.zero
 have big : ∀ i, cE P p t (g i) ≠ 0 → (g i).Zad ≤ p := fun i hi => by
  refine Classical.byContradiction fun hn => hi ?_
  exact if_pos (by omega)
 have small : ∀ i, (g i).Zad ≤ p → cE P p t (g i) = Wzc P (opn t (g i).Zad) (g i).Zay := fun i hi => if_neg (by omega)
 let π : Nat → Nat := fun i => if 0 ≤ (g i).Wbm then (g i).Wbm.toNat else if hh : ∃ j, j < l.length ∧ (g j).Wbm = (i : Int) ∧ (g j).Zad ≤ p then hh.choose else i
 refine pair_zero (f := fun i => cE P p t (l.getD i Za.zero)) (π := π) fun i hi h0 => ?_
 have hpi := big i h0
 by_cases ho : 0 ≤ (g i).Wbm
 ·
  have e : π i = (g i).Wbm.toNat := if_pos ho
  obtain ⟨g1, g2, g3⟩ := h.ev i hi ho
  have hper := h1 i hi ho hpi
  have hlt : (g i).Wbm.toNat < l.length := Nat.lt_trans g1 hi
  have g2' : (g (g i).Wbm.toNat).Wbm < 0 := g2
  have g3' : (g i).Zay = (g (g i).Wbm.toNat).Zay.map (turn s) := g3
  have hper' : (g i).Zad = (g (g i).Wbm.toNat).Zad := hper
  rw [e]
  refine ⟨hlt, ?_, ?_⟩
  ·show cE P p t (g (g i).Wbm.toNat) = -(cE P p t (g i))
   rw [small _ hpi, small _ (by rw [← hper']; exact hpi), g3', Wza, hper']
   omega
  ·have hh : ∃ j, j < l.length ∧ (g j).Wbm = (((g i).Wbm.toNat : Nat) : Int) ∧ (g j).Zad ≤ p := ⟨i, hi, by omega, hpi⟩
   have e2 : π (g i).Wbm.toNat = hh.choose := by
    show (if 0 ≤ (g (g i).Wbm.toNat).Wbm then _ else if hh : _ then _ else _) = _
    rw [if_neg (by omega), dif_pos hh]
   rw [e2]
   obtain ⟨c1, c2, c3⟩ := hh.choose_spec
   exact (h.un i _ hi c1 ho (by show (g i).Wbm = (g hh.choose).Wbm; rw [c2]; omega)).symm
 ·
  have hh := h2 i hi (by show (g i).Wbm < 0; omega) hpi
  have hh : ∃ j, j < l.length ∧ (g j).Wbm = (i : Int) ∧ (g j).Zad ≤ p := hh
  have e : π i = hh.choose := by
   show (if 0 ≤ (g i).Wbm then _ else if hh : _ then _ else _) = _
   rw [if_neg ho, dif_pos hh]
  obtain ⟨c1, c2, c3⟩ := hh.choose_spec
  rw [e]
  generalize hh.choose = j at c1 c2 c3
  have hoj : 0 ≤ (g j).Wbm := by omega
  have htn : (g j).Wbm.toNat = i := by omega
  obtain ⟨g1, g2, g3⟩ := h.ev j c1 hoj
  have hper := h1 j c1 hoj c3
  have g3' : (g j).Zay = (g (g j).Wbm.toNat).Zay.map (turn s) := g3
  have hper' : (g j).Zad = (g (g j).Wbm.toNat).Zad := hper
  rw [htn] at g3' hper'
  refine ⟨c1, ?_, ?_⟩
  ·show cE P p t (g j) = -(cE P p t (g i))
   rw [small _ c3, small _ hpi, g3', Wza, hper']
  ·show (if 0 ≤ (g j).Wbm then (g j).Wbm.toNat else _) = i
   rw [if_pos hoj, htn]
end Go.Proofs.Ytbchcjlllddlpaa.Pure
namespace Go.Proofs.Ytbchcjlllddlpaa.Pure
set_option linter.unusedVariables false
set_option linter.unusedSimpArgs false
open Go Go.Ev
theorem Qnx {X Y T : Type} {once : X → T → Option (X ⊕ Y)} {es : List T} (I : List T → X → Prop) (hs : ∀ pre e rest x, (pre ++ e :: rest).Perm es → I pre x → ∃ x', once x e = some (.inl x') ∧ I (pre ++ [e]) x') :
  ∀ rest pre x, (pre ++ rest).Perm es → I pre x → ∃ x', Wvr once rest x = some (.inl x') ∧ I (pre ++ rest) x'
 | [], pre, x, _, h => ⟨x, rfl, by rw [List.append_nil]; exact h⟩
 | e :: r, pre, x, hp, h => by
  obtain ⟨x1, h1, h2⟩ := hs pre e r x hp h
  obtain ⟨x2, h3, h4⟩ := Qnx I hs r (pre ++ [e]) x1 (by rw [List.append_assoc]; exact hp) h2
  refine ⟨x2, ?_, by rw [List.append_assoc] at h4; exact h4⟩
  unfold Wvr
  rw [h1, Z0]
  exact h3
theorem Qpp {X Y T : Type} {once : X → T → Option (X ⊕ Y)} {es : List T} {x z : X} (I : List T → X → Prop) (h0 : I [] x) (hs : ∀ pre e rest x, (pre ++ e :: rest).Perm es → I pre x → ∃ x', once x e = some (.inl x') ∧ I (pre ++ [e]) x')
  (he : ∀ σ x', σ.Perm es → I σ x' → x' = z) : rngP once es x = some (.inl z) := anyP_of fun σ hσ => by
 obtain ⟨x', h1, h2⟩ := Qnx I hs σ [] x hσ h0
 rw [h1, he σ x' hσ h2]
theorem rngP_same {X Y T : Type} {once : X → T → Option (X ⊕ Y)} {es : List T} {x : X} (h : ∀ e ∈ es, once x e = some (.inl x)) : rngP once es x = some (.inl x) :=
 Qpp (fun _ x' => x' = x) rfl (fun pre e rest x' hp hx => by subst hx; exact ⟨x', h e (hp.mem_iff.1 (by simp)), rfl⟩) (fun _ _ _ h => h)
end Go.Proofs.Ytbchcjlllddlpaa.Pure
namespace Go.Proofs.Ytbchcjlllddlpaa.Pure
set_option linter.unusedVariables false
set_option linter.unusedSimpArgs false
open Go Go.Ev Go.Lm Go.Pu Go.Dg
def Wep : List (KZ × Zi) → Int
 | [] => 0
 | x :: r => val x.2 + Wep r
theorem Qou : ∀ a b : List (KZ × Zi), Wep (a ++ b) = Wep a + Wep b
 | [], b => (Int.zero_add _).symm
 | x :: r, b => by
  show val x.2 + Wep (r ++ b) = val x.2 + Wep r + Wep b
  rw [Qou r b]
  omega
theorem sumD_perm {a b : List (KZ × Zi)} (h : a.Perm b) : Wep a = Wep b := by
 induction h with
 | nil => rfl
 | cons x _ ih => unfold Wep; rw [ih]
 | swap x y l => unfold Wep; unfold Wep; omega
 | trans _ _ ih1 ih2 => exact ih1.trans ih2
theorem Qot (s : Nat) : ∀ z : List (KZ × Int), Wep (z.map (mkz s)) = sumP allK z
 | [] => rfl
 | x :: r => by
  rw [List.map_cons]
  show val (DV x.2 s) + Wep (r.map (mkz s)) = (if allK x.1 = true then x.2 else 0) + sumP allK r
  rw [Wgh, Qot s r, if_pos (show allK x.1 = true from rfl)]
theorem sumD_bd {B : Nat} : ∀ {a : List (KZ × Zi)}, (∀ x ∈ a, (val x.2).natAbs ≤ B) → (Wep a).natAbs ≤ B * a.length
 | [], _ => Nat.zero_le _
 | x :: r, h => by
  have h1 := h x List.mem_cons_self
  have h2 := sumD_bd fun y hy => h y (List.mem_cons_of_mem x hy)
  rw [List.length_cons, Nat.mul_add, Nat.mul_one]
  unfold Wep
  omega
theorem Qpt {k : KZ} {v : Int} : ∀ {z z' : List (KZ × Int)}, Woo k v z = some z' → ∀ q ∈ z', q.1 = k ∨ ∃ q' ∈ z, q'.1 = q.1
 | [], z', h, q, hq => by
  cases h
  exact .inl (by rw [List.mem_singleton.1 hq])
 | x :: r, z', h, q, hq => by
  unfold Woo at h
  by_cases e : x.1 = k
  ·rw [if_pos e] at h
   split at h
   ·cases h
    rcases List.mem_cons.1 hq with rfl | hq
    ·exact .inl rfl
    ·exact .inr ⟨q, List.mem_cons_of_mem _ hq, rfl⟩
   ·cases h
  ·rw [if_neg e] at h
   by_cases hl : ltZ k x.1 = true
   ·rw [if_pos hl] at h
    cases h
    rcases List.mem_cons.1 hq with rfl | hq
    ·exact .inl rfl
    ·exact .inr ⟨q, hq, rfl⟩
   ·rw [if_neg hl] at h
    obtain ⟨z1, h1, h2⟩ := Option.map_eq_some_iff.1 h
    subst h2
    rcases List.mem_cons.1 hq with rfl | hq
    ·exact .inr ⟨_, List.mem_cons_self, rfl⟩
    ·rcases Qpt h1 q hq with h3 | ⟨q', h3, h4⟩
     ·exact .inl h3
     ·exact .inr ⟨q', List.mem_cons_of_mem _ h3, h4⟩
theorem Qga {o : Bool} : ∀ {ls : List Zd} {z z' : List (KZ × Int)}, Wiu o ls z = some z' → ∀ q ∈ z', (∃ y ∈ ls, q.1 = kzL o y) ∨ ∃ q' ∈ z, q'.1 = q.1
 | [], z, z', h, q, hq => by cases h; exact .inr ⟨q, hq, rfl⟩
 | x :: r, z, z', h, q, hq => by
  unfold Wiu at h
  obtain ⟨z1, h1, h2⟩ := Option.bind_eq_some_iff.1 h
  rcases Qga h2 q hq with ⟨y, h3, h4⟩ | ⟨q', h3, h4⟩
  ·exact .inl ⟨y, List.mem_cons_of_mem _ h3, h4⟩
  ·rcases Qpt h1 q' h3 with h5 | ⟨q2, h5, h6⟩
   ·exact .inl ⟨x, List.mem_cons_self, by rw [← h4, h5]⟩
   ·exact .inr ⟨q2, h5, h6.trans h4⟩
theorem Qhk {p : Int} {t : Ze} : ∀ {es : List Za} {z z' : List (KZ × Int)}, entZ p t es z = some z' → ∀ q ∈ z', (∃ x ∈ es, x.Zad ≤ p ∧ ∃ y ∈ x.Zay, q.1 = kzL (opn t x.Zad) y) ∨ ∃ q' ∈ z, q'.1 = q.1
 | [], z, z', h, q, hq => by cases h; exact .inr ⟨q, hq, rfl⟩
 | x :: r, z, z', h, q, hq => by
  unfold entZ at h
  split at h
  ·rcases Qhk h q hq with ⟨x', h3, h4⟩ | h3
   ·exact .inl ⟨x', List.mem_cons_of_mem _ h3, h4⟩
   ·exact .inr h3
  ·rename_i hp
   obtain ⟨z1, h1, h2⟩ := Option.bind_eq_some_iff.1 h
   rcases Qhk h2 q hq with ⟨x', h3, h4⟩ | ⟨q', h3, h4⟩
   ·exact .inl ⟨x', List.mem_cons_of_mem _ h3, h4⟩
   ·rcases Qga h1 q' h3 with ⟨y, h5, h6⟩ | ⟨q2, h5, h6⟩
    ·exact .inl ⟨x, List.mem_cons_self, by omega, y, h5, by rw [← h4, h6]⟩
    ·exact .inr ⟨q2, h5, h6.trans h4⟩
theorem kzL_no (y : Zd) : Wlm (kzL false y).1 ≠ 4 := by
 unfold kzL
 by_cases h : Wlm y.Zde = 4
 ·rw [if_pos ⟨h, rfl⟩]
  show Wlm 8 ≠ 4
  decide
 ·rw [if_neg fun hh => h hh.1]
  exact h
end Go.Proofs.Ytbchcjlllddlpaa.Pure
namespace Go.Proofs.Ytbchcjlllddlpaa.Pure
set_option linter.unusedVariables false
set_option linter.unusedSimpArgs false
open Go Go.Ev
end Go.Proofs.Ytbchcjlllddlpaa.Pure
namespace Go.Proofs.Ytbchcjlllddlpaa.Pure
set_option linter.unusedVariables false
set_option linter.unusedSimpArgs false
open Go Go.Ev Go.Lm Go.Pu Go.Dg
theorem known15 : Zdq.f 2000 = some true := by decide +kernel
theorem sum_range {k : Nat} (hk : 1002 < k) (p e : Int) {b : Zf} (hT : T12 b.f_t) {s : Nat} (hs : s ≤ 4) (hsc : b.Zac = (s : Int)) {u : List (KZ × Zi)} (hu : ∀ x ∈ u, x.2 = DV (val x.2) s ∧ (val x.2).natAbs ≤ 32000000000 ∧ val x.2 ≠ 0) (hl : u.length ≤ 1000) :
  rngP (Zb.r7.once k) u (p, e, b.Zac, b.f_l, b.f_t, (DV 0 s).Wbe, (DV 0 s).f_C.1, (DV 0 s).f_C.2, (DV 0 s).Zu) = some (.inl (p, e, b.Zac, b.f_l, b.f_t, (DV (Wep u) s).Wbe, (DV (Wep u) s).f_C.1, (DV (Wep u) s).f_C.2, (DV (Wep u) s).Zu)) := by
 refine Qpp (fun pre x => x = (p, e, b.Zac, b.f_l, b.f_t, (DV (Wep pre) s).Wbe, (DV (Wep pre) s).f_C.1, (DV (Wep pre) s).f_C.2, (DV (Wep pre) s).Zu)) rfl ?_ ?_
 ·rintro pre x rest _ hp rfl
  have hin : ∀ y ∈ pre ++ x :: rest, y ∈ u := fun y hy => hp.mem_iff.1 hy
  have hlen := hp.length_eq
  rw [List.length_append, List.length_cons] at hlen
  obtain ⟨he, heb, hen⟩ := hu x (hin x (by simp))
  have hpb := sumD_bd (B := 32000000000) (a := pre) fun y hy => (hu y (hin y (List.mem_append_left _ hy))).2.1
  have hpl : 32000000000 * pre.length ≤ 32000000000 * 1000 := Nat.mul_le_mul_left _ (by omega)
  have hs1 : Sm (Wep pre) := by unfold Sm; omega
  have hs2 : Sm (val x.2) := by unfold Sm; omega
  have ha := Qsj (k := k) (by omega) hs1 hs2 (s := s) (by omega)
  have hm : mkD (Wep pre + val x.2) s = (DV (Wep pre + val x.2) s, 0) := if_pos (by omega)
  rw [hm, ← he] at ha
  have ha' : Zel.f k ⟨(DV (Wep pre) s).Wbe, ((DV (Wep pre) s).f_C.1, (DV (Wep pre) s).f_C.2), (DV (Wep pre) s).Zu⟩ ⟨x.2.Wbe, (x.2.f_C.1, x.2.f_C.2), x.2.Zu⟩ = _ := ha
  have hg := Wls (k := k) (by omega) hs2 (s := s) (by omega)
  rw [← he] at hg
  have hg' : Zcs.f k ⟨x.2.Wbe, (x.2.f_C.1, x.2.f_C.2), x.2.Zu⟩ = _ := hg
  have hsx : x.2.Zu = (s : Int) := by rw [he]; rfl
  have e1 := pk hT
  have hS := Qkz k hT
  have hS' : Zbe.f k ⟨b.Zac, b.f_l, b.f_t⟩ = some (b.Zac, b) := hS
  refine ⟨(p, e, b.Zac, b.f_l, b.f_t, (DV (Wep (pre ++ [x])) s).Wbe, (DV (Wep (pre ++ [x])) s).f_C.1, (DV (Wep (pre ++ [x])) s).f_C.2, (DV (Wep (pre ++ [x])) s).Zu), ?_, rfl⟩
  unfold Zb.r7.once
  dsimp only
  simp only [e1]
  refine bof (v := (p, e, false, b.Zac, b.f_l, b.f_t, (DV (Wep pre) s).Wbe, (DV (Wep pre) s).f_C.1, (DV (Wep pre) s).f_C.2, (DV (Wep pre) s).Zu, x.2.Wbe, x.2.f_C.1, x.2.f_C.2, x.2.Zu)) ?_ ?_
  ·rw [hg', Z0, if_neg hen]
   have : ((if val x.2 < 0 then (-1 : Int) else 1) == 0) = false := by
    rw [beq_eq_false_iff_ne]
    split <;> omega
   rw [this, cond_false, hS', Z0]
   simp only [e1]
   rw [hsx, hsc, bne_self_eq_false]
  dsimp only
  simp only [e1]
  rw [cond_false, ha', Z0, Qou, show Wep [x] = val x.2 + 0 from rfl, Int.add_zero]
 ·rintro σ x hp rfl
  rw [sumD_perm hp]
structure Bk3 (s : Nat) (b : Zf) : Prop where
 ti : Wla s b
 bi : BInv b
 ri : RInv s b.f_l
theorem BInv.rev {s : Nat} {b : Zf} (h : BInv b) (n p : Int) : BInv (Won s b n p).2.2 := by
 unfold Won
 split
 ·exact h
 ·rename_i h0
  split
  ·exact h
  ·refine h.add fun y hy => ?_
   obtain ⟨z, hz, rfl⟩ := List.mem_map.1 hy
   have := h _ (Zec Za.zero (by omega)) z hz
   unfold LB at this ⊢
   show (val (DV (-(val z.Zq)) s)).natAbs ≤ _
   rw [Wgh, Int.natAbs_neg]
   exact this
theorem rev_loop {k : Nat} (hk : 1002 < k) {s : Nat} (hs : s ≤ 4) (p : Int) {es : List Za} (hes : es.length ≤ 40) {b : Zf} (h : Bk3 s b) :
  ∃ b', iter (Zb.l22.once k) k (p, es, (es.length : Int), 0, b.Zac, b.f_l, b.f_t) = some (p, b'.Zac, b'.f_l, b'.f_t) ∧ Bk3 s b' := by
 obtain ⟨y, h1, b', rfl, h2⟩ := Zeb (once := Zb.l22.once k) (fun st => ∃ (i : Nat) (b : Zf), st = (p, es, (es.length : Int), (i : Int), b.Zac, b.f_l, b.f_t) ∧ i ≤ es.length ∧ Bk3 s b) (fun st => es.length - st.2.2.2.1.toNat)
  (fun r => ∃ b : Zf, r = (p, b.Zac, b.f_l, b.f_t) ∧ Bk3 s b) (by
  rintro _ ⟨i, b, rfl, hi, h⟩
  have e1 := pk h.ti.T
  have hw : IntKind.wrap .i64 ((i : Int) + 1) = ((i + 1 : Nat) : Int) := Wbt (by omega)
  by_cases hc : i < es.length
  ·left
   unfold Zb.l22.once
   dsimp only
   simp only [e1]
   rw [ct (show (i : Int) < (es.length : Int) by omega), Wbv (by omega) (by omega), cond_true, Int.toNat_natCast]
   generalize es.getD i Za.zero = x
   have hj : (cond (decide (x.Wbm < 0)) (some (p, (i : Int), es, (es.length : Int), (i : Int), decide (x.Zad ≤ p), b.Zac, b.f_l, b.f_t, x.Zad, x.Zay, x.Wbm)) (some (p, (i : Int), es, (es.length : Int), (i : Int), false, b.Zac, b.f_l, b.f_t, x.Zad, x.Zay, x.Wbm)) : Option (Int × Int × List Za × Int × Int × Bool × Int × List Za × Ze × Int × List Zd × Int)) = some (p, (i : Int), es, (es.length : Int), (i : Int), decide (x.Wbm < 0 ∧ x.Zad ≤ p), b.Zac, b.f_l, b.f_t, x.Zad, x.Zay, x.Wbm) := by
    by_cases h0 : x.Wbm < 0
    ·rw [decide_eq_true h0, cond_true, show decide (x.Zad ≤ p) = decide (x.Wbm < 0 ∧ x.Zad ≤ p) from decide_eq_decide.2 ⟨fun h => ⟨h0, h⟩, fun h => h.2⟩]
    ·rw [decide_eq_false h0, cond_false, decide_eq_false (fun h => h0 h.1)]
   rw [hj, Z0]
   dsimp only
   simp only [e1, hw]
   by_cases hq : x.Wbm < 0 ∧ x.Zad ≤ p
   ·have hr := Brev_eq (k := k) (by omega) h.ti.T h.ti.len (s := s) (by omega) (i : Int) x.Zad h.ti.ls
    have hr' : Zaz.f k ⟨b.Zac, b.f_l, b.f_t⟩ (i : Int) x.Zad = _ := hr
    have h' : Bk3 s (Won s b (i : Int) x.Zad).2.2 := ⟨h.ti.rev _ _, h.bi.rev _ _, h.ri.rev _ _⟩
    have e2 := pk h'.ti.T
    rw [decide_eq_true hq, cond_true, hr', Z0]
    simp only [e2]
    exact ⟨_, rfl, ⟨i + 1, _, rfl, by omega, h'⟩, by dsimp only; omega⟩
   ·rw [decide_eq_false hq, cond_false]
    exact ⟨_, rfl, ⟨i + 1, b, rfl, by omega, h⟩, by dsimp only; omega⟩
  ·right
   refine ⟨(p, b.Zac, b.f_l, b.f_t), ?_, b, rfl, h⟩
   unfold Zb.l22.once
   dsimp only
   simp only [e1]
   rw [cf (by omega)]) k (p, es, (es.length : Int), 0, b.Zac, b.f_l, b.f_t) ⟨0, b, rfl, Nat.zero_le _, h⟩ (by show es.length - 0 < k; omega)
 exact ⟨b', h1, h2⟩
structure DoneI (p : Int) (es : List Za) (i : Nat) (all : Bool) (done : List Bool) : Prop where
 len : done.length = es.length
 d : ∀ j : Nat, done.getD j false = true → ∃ i', i' < i ∧ (es.getD i' Za.zero).Wbm = (j : Int) ∧ (es.getD i' Za.zero).Zad ≤ p
 a : all = true → ∀ i', i' < i → 0 ≤ (es.getD i' Za.zero).Wbm → (es.getD i' Za.zero).Wbm < (es.length : Int) → (es.getD i' Za.zero).Zad ≤ p → (es.getD i' Za.zero).Zad = (es.getD (es.getD i' Za.zero).Wbm.toNat Za.zero).Zad
theorem done_loop {k : Nat} (hk : 1002 < k) (p e : Int) {es : List Za} (hes : es.length ≤ 40) (M : List (KZ × Zi)) :
  ∃ all done, iter (Zb.l32.once k) k (p, e, es, true, es, (es.length : Int), 0, M, List.replicate es.length false) = some (p, e, es, all, M, done) ∧ DoneI p es es.length all done := by
 obtain ⟨y, h1, all, done, rfl, h2⟩ := Zeb (once := Zb.l32.once k) (fun st => ∃ (i : Nat) (all : Bool) (done : List Bool), st = (p, e, es, all, es, (es.length : Int), (i : Int), M, done) ∧ i ≤ es.length ∧ DoneI p es i all done) (fun st => es.length - st.2.2.2.2.2.2.1.toNat)
  (fun r => ∃ (all : Bool) (done : List Bool), r = (p, e, es, all, M, done) ∧ DoneI p es es.length all done) (by
  rintro _ ⟨i, all, done, rfl, hi, h⟩
  have hw : IntKind.wrap .i64 ((i : Int) + 1) = ((i + 1 : Nat) : Int) := Wbt (by omega)
  by_cases hc : i < es.length
  ·left
   unfold Zb.l32.once
   dsimp only
   rw [ct (show (i : Int) < (es.length : Int) by omega), Wbv (by omega) (by omega), cond_true, Int.toNat_natCast]
   generalize hx : es.getD i Za.zero = x
   have hj : (cond (decide (x.Wbm < 0)) (some (p, e, es, all, es, (es.length : Int), (i : Int), true, M, done, x.Zad, x.Zay, x.Wbm)) (cond (decide (x.Wbm ≥ (es.length : Int))) (some (p, e, es, all, es, (es.length : Int), (i : Int), true, M, done, x.Zad, x.Zay, x.Wbm)) (some (p, e, es, all, es, (es.length : Int), (i : Int), decide (x.Zad > p), M, done, x.Zad, x.Zay, x.Wbm))) : Option (Int × Int × List Za × Bool × List Za × Int × Int × Bool × List (KZ × Zi) × List Bool × Int × List Zd × Int)) = some (p, e, es, all, es, (es.length : Int), (i : Int), decide (x.Wbm < 0 ∨ x.Wbm ≥ (es.length : Int) ∨ x.Zad > p), M, done, x.Zad, x.Zay, x.Wbm) := by
    by_cases h0 : x.Wbm < 0
    ·rw [decide_eq_true h0, cond_true, decide_eq_true (.inl h0)]
    ·rw [decide_eq_false h0, cond_false]
     by_cases h1 : x.Wbm ≥ (es.length : Int)
     ·rw [decide_eq_true h1, cond_true, decide_eq_true (.inr (.inl h1))]
     ·have : decide (x.Zad > p) = decide (x.Wbm < 0 ∨ x.Wbm ≥ (es.length : Int) ∨ x.Zad > p) := decide_eq_decide.2 ⟨fun h => .inr (.inr h), fun h => by omega⟩
      rw [decide_eq_false h1, cond_false, this]
   rw [hj, Z0]
   dsimp only
   simp only [hw]
   by_cases hs : x.Wbm < 0 ∨ x.Wbm ≥ (es.length : Int) ∨ x.Zad > p
   ·rw [decide_eq_true hs, cond_true]
    refine ⟨_, rfl, ⟨i + 1, all, done, rfl, by omega, h.len, fun j hj => ?_, fun ha i' hi' h0 h1 h2 => ?_⟩, by dsimp only; omega⟩
    ·obtain ⟨i', g1, g2⟩ := h.d j hj
     exact ⟨i', by omega, g2⟩
    ·by_cases e1 : i' = i
     ·subst e1
      rw [hx] at h0 h1 h2
      omega
     ·exact h.a ha i' (by omega) h0 h1 h2
   ·rw [decide_eq_false hs, cond_false]
    have hof : 0 ≤ x.Wbm ∧ x.Wbm < (es.length : Int) ∧ x.Zad ≤ p := by omega
    have hdl := h.len
    rw [Wbv (by omega) (by omega), cond_true, show Nat.blt x.Wbm.toNat done.length = true by simp [Nat.blt]; omega, cond_true]
    have hset : ∀ j : Nat, (done.set x.Wbm.toNat true).getD j false = true → ∃ i', i' < i + 1 ∧ (es.getD i' Za.zero).Wbm = (j : Int) ∧ (es.getD i' Za.zero).Zad ≤ p := fun j hj => by
     rw [Qal (by omega)] at hj
     by_cases e1 : j = x.Wbm.toNat
     ·exact ⟨i, by omega, by rw [hx]; omega, by rw [hx]; exact hof.2.2⟩
     ·rw [if_neg e1] at hj
      obtain ⟨i', g1, g2⟩ := h.d j hj
      exact ⟨i', by omega, g2⟩
    cases all with
    | true =>
     rw [cond_true, Wbv (by omega) (by omega), cond_true]
     refine ⟨_, rfl, ⟨i + 1, _, _, rfl, by omega, by rw [List.length_set]; exact hdl, hset, fun ha i' hi' h0 h1 h2 => ?_⟩, by dsimp only; omega⟩
     by_cases e1 : i' = i
     ·subst e1
      rw [hx]
      simpa using ha
     ·exact h.a rfl i' (by omega) h0 h1 h2
    | false =>
     rw [cond_false]
     exact ⟨_, rfl, ⟨i + 1, false, _, rfl, by omega, by rw [List.length_set]; exact hdl, hset, fun ha => by cases ha⟩, by dsimp only; omega⟩
  ·right
   have : i = es.length := by omega
   subst this
   refine ⟨(p, e, es, all, M, done), ?_, all, done, rfl, h⟩
   unfold Zb.l32.once
   dsimp only
   rw [cf (by omega)]) k (p, e, es, true, es, (es.length : Int), 0, M, List.replicate es.length false) ⟨0, true, _, rfl, Nat.zero_le _, List.length_replicate, fun j hj => (by
    rw [List.getD_eq_getElem?_getD, List.getElem?_replicate] at hj
    split at hj <;> cases hj), fun _ i' hi' => (Nat.not_lt_zero _ hi').elim⟩ (by show es.length - 0 < k; omega)
 exact ⟨all, done, h1, h2⟩
theorem all_loop {k : Nat} (hk : 1002 < k) (p e : Int) {es : List Za} (hes : es.length ≤ 40) (M : List (KZ × Zi)) {done : List Bool} (hd : done.length = es.length) (all0 : Bool) :
  ∃ all, iter (Zb.l39.once k) k (p, e, all0, es, (es.length : Int), 0, M, done) = some (e, all, M) ∧ (all = true → all0 = true ∧ ∀ i, i < es.length → (es.getD i Za.zero).Wbm < 0 → (es.getD i Za.zero).Zad ≤ p → done.getD i false = true) := by
 obtain ⟨y, h1, all, rfl, h2⟩ := Zeb (once := Zb.l39.once k) (fun st => ∃ (i : Nat) (all : Bool), st = (p, e, all, es, (es.length : Int), (i : Int), M, done) ∧ i ≤ es.length ∧ (all = true → all0 = true ∧ ∀ i', i' < i → (es.getD i' Za.zero).Wbm < 0 → (es.getD i' Za.zero).Zad ≤ p → done.getD i' false = true)) (fun st => es.length - st.2.2.2.2.2.1.toNat)
  (fun r => ∃ all : Bool, r = (e, all, M) ∧ (all = true → all0 = true ∧ ∀ i, i < es.length → (es.getD i Za.zero).Wbm < 0 → (es.getD i Za.zero).Zad ≤ p → done.getD i false = true)) (by
  rintro _ ⟨i, all, rfl, hi, h⟩
  have hw : IntKind.wrap .i64 ((i : Int) + 1) = ((i + 1 : Nat) : Int) := Wbt (by omega)
  by_cases hc : i < es.length
  ·left
   unfold Zb.l39.once
   dsimp only
   rw [ct (show (i : Int) < (es.length : Int) by omega), Wbv (by omega) (by omega), cond_true, Int.toNat_natCast]
   generalize hx : es.getD i Za.zero = x
   simp only [hw]
   cases all with
   | false =>
    rw [cond_false]
    exact ⟨_, rfl, ⟨i + 1, false, rfl, by omega, fun h => by cases h⟩, by dsimp only; omega⟩
   | true =>
    obtain ⟨g1, g2⟩ := h rfl
    rw [cond_true]
    by_cases h0 : x.Wbm ≥ 0
    ·rw [decide_eq_true h0, cond_true]
     refine ⟨_, rfl, ⟨i + 1, true, rfl, by omega, fun _ => ⟨g1, fun i' hi' h1 h2 => ?_⟩⟩, by dsimp only; omega⟩
     by_cases e1 : i' = i
     ·subst e1; rw [hx] at h1; omega
     ·exact g2 i' (by omega) h1 h2
    ·rw [decide_eq_false h0, cond_false]
     by_cases h3 : x.Zad > p
     ·rw [decide_eq_true h3, cond_true]
      refine ⟨_, rfl, ⟨i + 1, true, rfl, by omega, fun _ => ⟨g1, fun i' hi' h1 h2 => ?_⟩⟩, by dsimp only; omega⟩
      by_cases e1 : i' = i
      ·subst e1; rw [hx] at h2; omega
      ·exact g2 i' (by omega) h1 h2
     ·rw [decide_eq_false h3, cond_false, Wbv (by omega) (by omega), cond_true, show Nat.blt i done.length = true by simp [Nat.blt]; omega, cond_true]
      refine ⟨_, rfl, ⟨i + 1, _, rfl, by omega, fun ha => ⟨g1, fun i' hi' h1 h2 => ?_⟩⟩, by dsimp only; omega⟩
      by_cases e1 : i' = i
      ·subst e1; exact ha
      ·exact g2 i' (by omega) h1 h2
  ·right
   have : i = es.length := by omega
   subst this
   refine ⟨(e, all, M), ?_, all, rfl, h⟩
   unfold Zb.l39.once
   dsimp only
   rw [cf (by omega)]) k (p, e, all0, es, (es.length : Int), 0, M, done) ⟨0, all0, rfl, Nat.zero_le _, fun h => ⟨h, fun i' hi' => (Nat.not_lt_zero _ hi').elim⟩⟩ (by show es.length - 0 < k; omega)
 exact ⟨all, h1, h2⟩
theorem TrialEven (l : List Zp) (w0 : (l.length ≤ 9223372036854775807 ∧ l.length * 80 ≤ 140737488351232 ∧ ∀ z ∈ l, ((Lit.int .i64 z.Zdr).wf = true) ∧ ((Lit.int .i64 z.f_Who).wf = true) ∧ ((Lit.int .i64 z.f_A).wf = true) ∧ ((Lit.int .i64 z.f_B).wf = true) ∧ ((Lit.int .i64 z.f_C).wf = true) ∧ ((Lit.int .i64 z.f_N).wf = true) ∧ ((Lit.int .i64 z.Qmn).wf = true) ∧ ((z.f_L.length ≤ 9223372036854775807 ∧ z.f_L.length * 8 ≤ 140737488351232 ∧ ∀ z1 ∈ z.f_L, (Lit.int .i64 z1).wf = true)) ∧ True))
  (a1 : Int) (w1 : (Lit.int .i64 a1).wf = true) (a2 : Int) (w2 : (Lit.int .i64 a2).wf = true) :
  ∃ k, Zb.f k l a1 a2 = some true := by
 have hw : ∀ z ∈ l, Qcx z := fun z hz => by
  obtain ⟨_, _, _, _, _, _, _, g8, _⟩ := w0.2.2 z hz
  exact g8.1
 refine ⟨2000, ?_⟩
 have hk : 1002 < 2000 := by decide
 have bs := Zfe a1 (m := 5) (by decide)
 have bp := Zfe a2 (m := 3) (by decide)
 unfold Zb.f
 refine bof (Zdu 2000 a1 (by decide) (by decide)) ?_
 obtain ⟨s, hsc⟩ : ∃ s : Nat, pick a1 5 = (s : Int) := ⟨(pick a1 5).toNat, by omega⟩
 rw [hsc] at bs ⊢
 have hs : s ≤ 4 := by omega
 have hB := bkN_inv hk hs hw
 have hBB := bkN_B hk hs hw
 have hZ := bkN_Z 2000 s l
 have hR := bkN_R 2000 s l
 have hC := bkN_C 2000 s l
 have hE := bkN_E 2000 s l
 refine bof (books_eq hk hs hw) (bof (Zdu 2000 a2 (by decide) (by decide)) ?_)
 dsimp only
 generalize bkN 2000 s l = b at hB hBB hZ hR hC hE ⊢
 generalize pick a2 3 = p at bp ⊢
 have e1 := pk hB.T
 simp only [e1]
 refine bof (v := (p, false, b.Zac, b.f_l, b.f_t)) (bof known15 rfl) ?_
 dsimp only
 simp only [e1]
 rw [cond_false]
 obtain ⟨M, z0, hTr, hz0, hM, hris, hlen, hbz⟩ := trial_ok hk hs hB hBB (p := p) (by omega)
 have hTr' : Zar.f 2000 (⟨b.Zac, b.f_l, b.f_t⟩ : Zf) p = some (M, 0, b) := hTr
 have hsum := Qsl hZ hz0
 refine bof hTr' ?_
 dsimp only
 simp only [e1]
 have hS' : Zbe.f 2000 ⟨b.Zac, b.f_l, b.f_t⟩ = some (b.Zac, b) := Qkz 2000 hB.T
 refine bof hS' ?_
 dsimp only
 simp only [e1]
 have hz : Zcy.f 2000 b.Zac = some (DV 0 s) := by rw [hB.sc]; exact Zero_eq 2000 s
 refine bof hz ?_
 have hu : ∀ x ∈ M, x.2 = DV (val x.2) s ∧ (val x.2).natAbs ≤ 32000000000 ∧ val x.2 ≠ 0 := fun x hx => by
  obtain ⟨y, hy, rfl⟩ := List.mem_map.1 (hM.perm.mem_iff.1 hx)
  show DV y.2 s = DV (val (DV y.2 s)) s ∧ (val (DV y.2 s)).natAbs ≤ _ ∧ val (DV y.2 s) ≠ 0
  rw [Wgh]
  have := hbz.h y hy
  exact ⟨rfl, by omega, by simpa using (List.mem_filter.1 hy).2⟩
 have R1 := sum_range (k := 2000) hk p 0 hB.T hs hB.sc hu (by rw [hM.len]; exact hlen)
 rw [sumD_perm hM.perm, Qot, hsum] at R1
 have R1' : Zb.r7.f 2000 (p, 0, b.Zac, b.f_l, b.f_t, M, (DV 0 s).Wbe, (DV 0 s).f_C.1, (DV 0 s).f_C.2, (DV 0 s).Zu) = some (.inl (p, 0, b.Zac, b.f_l, b.f_t, M, (DV 0 s).Wbe, (DV 0 s).f_C.1, (DV 0 s).f_C.2, (DV 0 s).Zu)) := by
  unfold Zb.r7.f Zb.r7.x0 Zb.r7.l Zb.r7.fo
  dsimp only
  simp only [e1]
  rw [R1]
  simp only [Option.map_some, e1]
 refine bof R1' ?_
 dsimp only
 simp only [e1]
 have hsg : Zcs.f 2000 ⟨(DV 0 s).Wbe, ((DV 0 s).f_C.1, (DV 0 s).f_C.2), (DV 0 s).Zu⟩ = some 0 := Wls (k := 2000) (by decide) (i := 0) (by unfold Sm; decide) (by omega)
 refine bof (v := (p, false, b.Zac, b.f_l, b.f_t, M)) ?_ ?_
 ·rw [show ((0 : Int) != 0) = false from rfl, cond_false, hsg, Z0]
  rfl
 dsimp only
 simp only [e1]
 rw [cond_false]
 have hP' : Zbd.f 2000 ⟨b.Zac, b.f_l, b.f_t⟩ = some (b.f_t, b) := Quv 2000 hB.T
 refine bof hP' ?_
 dsimp only
 simp only [e1]
 rw [Wbv (by omega) (by omega), cond_true, l12 hB.T.1]
 have hj : (cond (List.getD b.f_t.Zk p.toNat false) ((Zb.r16.f 2000 (p, b.Zac, b.f_l, b.f_t, M)).bind fun | .inl y305 => (some (.inl (y305.1, y305.2.1, y305.2.2.1, (⟨pack 12 false y305.2.2.2.Zk, pack 12 0 y305.2.2.2.Zj⟩ : Ze)))) | .inr y334 => (some (.inr y334))) (some (.inl (p, b.Zac, b.f_l, b.f_t))) : Option ((Int × Int × List Za × Ze) ⊕ Bool)) = some (.inl (p, b.Zac, b.f_l, b.f_t)) := by
  cases hcl : List.getD b.f_t.Zk p.toNat false with
  | false => rfl
  | true =>
   rw [cond_true]
   obtain ⟨c, hc3, hcc⟩ := hC
   have hpc : p.toNat < c := by
    have := hcc.2 p.toNat (by omega)
    rw [hcl] at this
    simpa using this.symm
   have R2 : rngP (Zb.r16.once 2000) M (p, b.Zac, b.f_l, b.f_t) = some (.inl (p, b.Zac, b.f_l, b.f_t)) := by
    refine rngP_same fun e he => ?_
    obtain ⟨x, hx, rfl⟩ := List.mem_map.1 (hM.perm.mem_iff.1 he)
    have hk4 : Wlm x.1.1 ≠ 4 := by
     rcases Qhk hz0 x (List.mem_filter.1 hx).1 with ⟨y, hy, hyp, w, hw, hkey⟩ | ⟨q', hq', _⟩
     ·have hpd := (hE y hy).1
      have ho : opn b.f_t y.Zad = false := by
       rw [opn_eq hcc]
       exact decide_eq_false (by omega)
      rw [hkey, ho]
      exact kzL_no w
     ·cases hq'
    have hK' : Zct.f 2000 (mkz s x).1.1 = some (Wlm x.1.1) := CK_eq 2000 x.1.1
    unfold Zb.r16.once
    dsimp only
    simp only [e1]
    rw [hK', Z0, show (Wlm x.1.1 == 4) = false by rw [beq_eq_false_iff_ne]; exact hk4, cond_false]
   have R2' : Zb.r16.f 2000 (p, b.Zac, b.f_l, b.f_t, M) = some (.inl (p, b.Zac, b.f_l, b.f_t)) := by
    unfold Zb.r16.f Zb.r16.x0 Zb.r16.l Zb.r16.fo
    dsimp only
    simp only [e1]
    rw [R2]
    simp only [Option.map_some, e1]
   rw [R2', Z0]
   simp only [e1]
 refine bof hj ?_
 dsimp only
 simp only [e1]
 have hEn' : Zaa.f 2000 ⟨b.Zac, b.f_l, b.f_t⟩ = some (b.f_l, b) := Wrj (k := 2000) (by decide) hB.T hB.len fun x hx => by have := (hB.ls x hx).1; omega
 refine bof hEn' ?_
 dsimp only
 simp only [e1]
 obtain ⟨b', hrl, hb'⟩ := rev_loop (k := 2000) hk hs p hB.len ⟨hB, hBB, hR⟩
 refine bof hrl ?_
 dsimp only
 have e2 := pk hb'.ti.T
 simp only [e2]
 obtain ⟨M', z', hTr2, hz', hM', hris', hlen', _⟩ := trial_ok hk hs hb'.ti hb'.bi (p := p) (by omega)
 have hTr2' : Zar.f 2000 (⟨b'.Zac, b'.f_l, b'.f_t⟩ : Zf) p = some (M', 0, b') := hTr2
 refine bof hTr2' ?_
 dsimp only
 simp only [e2]
 have hEn2 : Zaa.f 2000 ⟨b'.Zac, b'.f_l, b'.f_t⟩ = some (b'.f_l, b') := Wrj (k := 2000) (by decide) hb'.ti.T hb'.ti.len fun x hx => by have := (hb'.ti.ls x hx).1; omega
 refine bof hEn2 ?_
 dsimp only
 have hl40 := hb'.ti.len
 have hA : decide (0 ≤ (b'.f_l.length : Int)) = true := decide_eq_true (by omega)
 have hB1 : decide ((b'.f_l.length : Int) * 1 ≤ 140737488355328) = true := decide_eq_true (by omega)
 simp only [hA, hB1, decide_true, Bool.and_self, cond_true, Int.toNat_natCast]
 obtain ⟨all1, done, hd1, hd2⟩ := done_loop (k := 2000) hk p 0 hl40 M'
 refine bof hd1 ?_
 dsimp only
 obtain ⟨all2, ha1, ha2⟩ := all_loop (k := 2000) hk p 0 hl40 M' hd2.len all1
 refine bof ha1 ?_
 dsimp only
 rw [show ((0 : Int) == 0) = true from rfl, cond_true]
 cases all2 with
 | false => rfl
 | true =>
  obtain ⟨g1, g2⟩ := ha2 rfl
  have hnone : ∀ P : KZ → Bool, totE P p b'.f_t b'.f_l = 0 := fun P => by
   refine tot_none hb'.ri P b'.f_t (fun i hi h0 hp => ?_) (fun i hi h0 hp => ?_)
   ·obtain ⟨q1, _, _⟩ := hb'.ri.ev i hi h0
    exact hd2.a g1 i hi h0 (by omega) hp
   ·obtain ⟨j, q1, q2, q3⟩ := hd2.d i (g2 i hi h0 hp)
    exact ⟨j, q1, q2, q3⟩
  have hempty : Wjr z' = [] := by
   cases hzz : Wjr z' with
   | nil => rfl
   | cons q r =>
    have hq : q ∈ Wjr z' := by rw [hzz]; exact List.mem_cons_self
    have hne : q.2 ≠ 0 := by simpa using (List.mem_filter.1 hq).2
    have h1 := sumP_key (Qiu hris') hq
    rw [Wzd, Wsc hz', hnone] at h1
    exact absurd h1.symm (by show ¬ q.2 = 0 + 0; omega)
  have hM0 : M'.length = 0 := by rw [hM'.len, hempty]; rfl
  rw [Bool.not_true, cond_false, hM0]
  rfl
end Go.Proofs.Ytbchcjlllddlpaa.Pure
