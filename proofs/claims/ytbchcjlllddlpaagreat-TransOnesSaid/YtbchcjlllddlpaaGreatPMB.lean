/- Plain laws: Rx, Bk, Tz, Tp, Td, Te, Tf, Tg, Tn, To, Ti, Tj, Tv, Tw, Qq, An, Rn, PureTransOnes. No conditions but size. -/
import Derived.Test.YtbchcjlllddlpaaGreatPMA
import Derived.Test.YtbchcjlllddlpaaGreatFs
namespace Go.Proofs.YtbchcjlllddlpaaGreat.Pure
set_option linter.unusedVariables false
set_option linter.unusedSimpArgs false
open Go Go.Ev Go.Lm Go.Pu Go.Dg
theorem Ybo (a b : Zz) : Zav a b = true ↔ a = b := by
 cases a
 cases b
 unfold Zav
 simp
theorem Yek {α β : Type} {K : α → α → Bool} (hK : ∀ a b, K a b = true ↔ a = b) (k k' : α) (v : β) [Decidable (k' = k)] : ∀ l : List (α × β), Zib (K k') (Zkp (K k) k v l) = if k' = k then some v else Zib (K k') l
 | [] => by
  simp only [Zkp, Zib]
  by_cases h : k' = k
  ·rw [if_pos h, (hK k' k).2 h]; rfl
  ·rw [if_neg h, Bool.eq_false_iff.2 (fun e => h ((hK _ _).1 e))]; rfl
 | p :: r => by
  simp only [Zkp]
  cases hp : K k p.1 with
  | true =>
   have e := (hK _ _).1 hp
   simp only [cond_true, Zib]
   by_cases h : k' = k
   ·rw [if_pos h, (hK k' p.1).2 (h.trans e)]; rfl
   ·rw [if_neg h, Bool.eq_false_iff.2 (fun e' => h (((hK _ _).1 e').trans e.symm))]; rfl
  | false =>
   simp only [cond_false, Zib]
   rw [Yek hK k k' v r]
   by_cases h : k' = k
   ·have : K k' p.1 = false := by rw [h]; exact hp
    rw [this, if_pos h, if_pos h]; rfl
   ·rw [if_neg h, if_neg h]
def placed (q : Zz) : Bool := decide ((0 ≤ q.Zbj ∧ q.Zbj < 12) ∧ (0 ≤ q.Zlm ∧ q.Zlm < 3))
def got (T : List (Zz × Zb)) : Option Zb → Zb × Int × Zaq
 | some d => (d, 0, ⟨T⟩)
 | none => (nil0, 11, ⟨T⟩)
theorem Get_eq (k : Nat) (T : List (Zz × Zb)) (q : Zz) : Zdf.f k ⟨T⟩ q = some (got T (Zib (Zav q) T)) := by
 unfold Zdf.f
 show (some (Zib (Zav q) T)).bind _ = _
 rw [Z0]
 cases Zib (Zav q) T <;> rfl
theorem get_same (T : List (Zz × Zb)) (q : Zz) (d : Zb) : Zib (Zav q) (Zkp (Zav q) q d T) = some d := by
 rw [@Yek _ _ _ Ybo q q d (Classical.propDecidable _) T, if_pos rfl]
theorem get_other (T : List (Zz × Zb)) {q q' : Zz} (h : q' ≠ q) (d : Zb) : Zib (Zav q') (Zkp (Zav q) q d T) = Zib (Zav q') T := by
 rw [@Yek _ _ _ Ybo q q' d (Classical.propDecidable _) T, if_neg h]
theorem Yoz {α β : Type} {K : α → α → Bool} (hK : ∀ a b, K a b = true ↔ a = b) (k : α) : ∀ l : List (α × β), (Zib (K k) l).isSome = true ↔ k ∈ l.map (·.1)
 | [] => by simp [Zib]
 | p :: r => by
  simp only [Zib, List.map_cons, List.mem_cons]
  cases h : K k p.1 with
  | true => simp [(hK _ _).1 h]
  | false =>
   have hn : k ≠ p.1 := fun e => by rw [(hK _ _).2 e] at h; cases h
   rw [cond_false, Yoz hK k r]
   simp [hn]
theorem Yov {α β : Type} {K : α → α → Bool} (hK : ∀ a b, K a b = true ↔ a = b) (k : α) (v : β) : ∀ l : List (α × β), (Zkp (K k) k v l).map (·.1) = cond (Zib (K k) l).isSome (l.map (·.1)) (l.map (·.1) ++ [k])
 | [] => by simp [Zkp, Zib]
 | p :: r => by
  simp only [Zkp, Zib]
  cases h : K k p.1 with
  | true => rfl
  | false =>
   simp only [cond_false, List.map_cons]
   rw [Yov hK k v r]
   cases (Zib (K k) r).isSome <;> rfl
def idx (q : Zz) : Nat := q.Zbj.toNat * 3 + q.Zlm.toNat
theorem Yee {q : Zz} (h : placed q = true) : (0 ≤ q.Zbj ∧ q.Zbj < 12) ∧ (0 ≤ q.Zlm ∧ q.Zlm < 3) := of_decide_eq_true h
theorem idx_lt {q : Zz} (h : placed q = true) : idx q < 36 := by
 have := Yee h
 unfold idx
 omega
theorem idx_inj {q q' : Zz} (h : placed q = true) (h' : placed q' = true) (e : idx q = idx q') : q = q' := by
 have a := Yee h
 have b := Yee h'
 unfold idx at e
 cases q
 cases q'
 simp only [Zz.mk.injEq] at *
 omega
structure Sim (T : List (Zz × Zb)) (has : List Bool) (ds : List Zb) : Prop where
 h1 : has.length = 36
 h2 : ds.length = 36
 pl : ∀ q ∈ T.map (·.1), placed q = true
 nd : (T.map (·.1)).Nodup
 on : ∀ q, placed q = true → Zib (Zav q) T = cond (has.getD (idx q) false) (some (ds.getD (idx q) Zb.zero)) none
theorem Sim.set {T : List (Zz × Zb)} {has : List Bool} {ds : List Zb} (h : Sim T has ds) {q : Zz} (hq : placed q = true) (d : Zb) : Sim (Zkp (Zav q) q d T) (has.set (idx q) true) (ds.set (idx q) d) := by
 have hlt := idx_lt hq
 have hmk := Yov Ybo q d T
 have hmem : q ∈ T.map (·.1) ↔ (Zib (Zav q) T).isSome = true := (Yoz Ybo q T).symm
 refine ⟨by rw [List.length_set]; exact h.h1, by rw [List.length_set]; exact h.h2, ?_, ?_, ?_⟩
 ·rw [hmk]
  intro x hx
  cases hs : (Zib (Zav q) T).isSome with
  | true => rw [hs, cond_true] at hx; exact h.pl x hx
  | false =>
   rw [hs, cond_false, List.mem_append] at hx
   rcases hx with hx | hx
   ·exact h.pl x hx
   ·have : x = q := by simpa using hx
    rw [this]; exact hq
 ·rw [hmk]
  cases hs : (Zib (Zav q) T).isSome with
  | true => exact h.nd
  | false =>
   rw [cond_false, List.nodup_append]
   exact ⟨h.nd, by simp, fun a ha b hb e => by
    have hb' : b = q := by simpa using hb
    rw [e, hb'] at ha
    rw [hmem.1 ha] at hs
    cases hs⟩
 ·intro x hx
  have hxlt := idx_lt hx
  rw [Zpl, Zpl, h.h1, h.h2]
  by_cases e : idx q = idx x
  ·have := idx_inj hq hx e
   subst this
   rw [get_same, if_pos ⟨rfl, hlt⟩, if_pos ⟨rfl, hlt⟩]
   rfl
  ·rw [get_other T (fun h' => e (by rw [h'])), if_neg (fun h' => e h'.1), if_neg (fun h' => e h'.1)]
   exact h.on x hx
end Go.Proofs.YtbchcjlllddlpaaGreat.Pure
namespace Go.Proofs.YtbchcjlllddlpaaGreat.Pure
set_option linter.unusedVariables false
set_option linter.unusedSimpArgs false
open Go Go.Ev Go.Lm Go.Pu Go.Dg
noncomputable def Zox (k : Nat) (s : Nat) (L : List Int) : List Zc := (Zv.f k L (s : Int) 0 4).getD []
theorem Zyx {k : Nat} (hk : 1002 < k) {s : Nat} (hs : s ≤ 4) {L : List Int} (hL : L.length ≤ 9223372036854775807) :
  Zv.f k L (s : Int) 0 4 = some (Zox k s L) ∧ (Zox k s L).length ≤ 1000 ∧ ∀ x ∈ Zox k s L, LnW x := by
 obtain ⟨y, hy, y1, y2⟩ := HLines_ok (k := k) (by omega) L hL (by omega : s ≤ 9) (b := 0) (by decide) (e := 4) (by decide)
 have : Zox k s L = y := by unfold Zox; rw [hy]; rfl
 rw [this]
 exact ⟨hy, by omega, y2⟩
noncomputable def Zjk (k : Nat) (s : Nat) (b : Zg) (x : Zq) : Zg :=
 cond (pick x.Zeo 8 == 0) (Zjs b (Pe.clo b.f_t.Zm b.f_t.Zi (pick x.f_B 3))).2
  (cond (pick x.Zeo 8 == 1) (Yar s b (pick x.f_N 5) (pick x.f_B 3)).2.2
   (cond (pick x.Zeo 8 == 2) (Zjs b (Pe.reo b.f_t.Zm b.f_t.Zi (pick x.f_B 3))).2 (Zqm s b (pick x.f_B 3) (Zox k s x.f_L)).2.2))
def Yhz (z : Zq) : Prop := z.f_L.length ≤ 9223372036854775807
theorem Zqk.step {k : Nat} (hk : 1002 < k) {s : Nat} (hs : s ≤ 4) {b : Zg} (h : Zqk s b) {x : Zq} (hx : Yhz x) : Zqk s (Zjk k s b x) := by
 unfold Zjk
 cases pick x.Zeo 8 == 0 with
 | true => exact h.turn (Pe.Yta h.T.1 h.T.2 _)
 | false =>
  rw [cond_false]
  cases pick x.Zeo 8 == 1 with
  | true => exact h.rev _ _
  | false =>
   rw [cond_false]
   cases pick x.Zeo 8 == 2 with
   | true => exact h.turn (Pe.Yrm h.T.1 h.T.2 _)
   | false => exact h.post _ (Zyx hk hs hx).2.2
theorem Zvz {l : List Zq} {i : Nat} (hi : i < l.length) : l.getD i Zq.zero ∈ l := by
 rw [List.getD_eq_getElem?_getD, List.getElem?_eq_getElem hi]
 exact List.getElem_mem hi
theorem bk_step {k : Nat} (hk : 1002 < k) {l : List Zq} (hw : ∀ z ∈ l, Yhz z) {s : Nat} (hs : s ≤ 4) {i : Nat} (hi : i < l.length) (h14 : i < 14) {b : Zg} (h : Zqk s b) (r : Zw) (hr : r.f_T.Zm.length = 12 ∧ r.f_T.Zi.length = 12) (hrs : r.Zp = (s : Int)) :
  Zam.l6.once k (l, (i : Int), b.Zbb, b.f_l, b.f_t, r.Zp, r.f_L, r.f_T) = some (.inl (l, ((i + 1 : Nat) : Int), (Zjk k s b (l.getD i Zq.zero)).Zbb, (Zjk k s b (l.getD i Zq.zero)).f_l, (Zjk k s b (l.getD i Zq.zero)).f_t, r.Zp, r.f_L, r.f_T)) := by
 have e1 := pk h.T
 have e2 : (⟨pack 12 false r.f_T.Zm, pack 12 0 r.f_T.Zi⟩ : Zh) = r.f_T := pkR hr.1 hr.2
 have hx : Yhz (l.getD i Zq.zero) := hw _ (Zvz hi)
 have hI := h.step hk hs hx
 have e3 := pk hI.T
 have hwr := Zhe (show -9223372036854775808 ≤ (i : Int) + 1 ∧ (i : Int) + 1 < 9223372036854775808 by omega)
 unfold Zam.l6.once
 dsimp only
 simp only [e1, e2]
 rw [ct (show (i : Int) < (l.length : Int) by omega), Z0]
 dsimp only
 rw [ct (show (i : Int) < 14 by omega), Zhh (by omega) (by omega), cond_true, Int.toNat_natCast]
 generalize l.getD i Zq.zero = x at hx hI e3 ⊢
 refine bof (v := (l, (i : Int), (Zjk k s b x).Zbb, (Zjk k s b x).f_l, (Zjk k s b x).f_t, r.Zp, r.f_L, r.f_T)) ?_ ?_
 ·refine bof (Zek k x.Zeo (by decide) (by decide)) ?_
  have bp := Zgd x.f_B (m := 3) (by decide)
  have bn := Zgd x.f_N (m := 5) (by decide)
  have pB := Zek k x.f_B (m := 3) (by decide) (by decide)
  have pN := Zek k x.f_N (m := 5) (by decide) (by decide)
  unfold Zjk at hI e3 ⊢
  cases h0 : pick x.Zeo 8 == 0 with
  | true =>
   rw [h0] at hI e3
   simp only [cond_true] at hI e3 ⊢
   refine bof pB (bof (Bclose2 k h.T (by omega)) ?_)
   simp only [e2, e3]
  | false =>
   rw [h0] at hI e3
   simp only [cond_false] at hI e3 ⊢
   cases h1 : pick x.Zeo 8 == 1 with
   | true =>
    rw [h1] at hI e3
    simp only [cond_true] at hI e3 ⊢
    refine bof pN (bof pB (bof (Brev_eq (k := k) (by omega) h.T h.len (by omega : s ≤ 9) _ _ h.ls) ?_))
    simp only [e2, e3]
   | false =>
    rw [h1] at hI e3
    simp only [cond_false] at hI e3 ⊢
    cases h2 : pick x.Zeo 8 == 2 with
    | true =>
     rw [h2] at hI e3
     simp only [cond_true] at hI e3 ⊢
     refine bof pB (bof (Breopen2 k h.T (by omega)) ?_)
     simp only [e2, e3]
    | false =>
     rw [h2] at hI e3
     simp only [cond_false] at hI e3 ⊢
     obtain ⟨y0, y1, y2⟩ := Zyx hk hs hx
     refine bof pB (bof ((congrArg (fun z => Zv.f k x.f_L z 0 4) hrs).trans y0) (bof (Bpost_eq (k := k) (by omega) h.T h.len (by omega : s ≤ 9) h.sc _ y1 y2) ?_))
     simp only [e2, e3]
 ·dsimp only
  simp only [e2, e3, hwr]
  rfl
theorem rk_step {k : Nat} (hk : 1002 < k) {l : List Zq} (hw : ∀ z ∈ l, Yhz z) {s : Nat} (hs : s ≤ 4) {i : Nat} (hi : i < l.length) (h14 : i < 14) {b : Zg} (h : Zqk s b) :
  Zaw.l3.once k (l, (i : Int), (rof b).Zp, (rof b).f_L, (rof b).f_T) = some (.inl (l, ((i + 1 : Nat) : Int), (rof (Zjk k s b (l.getD i Zq.zero))).Zp, (rof (Zjk k s b (l.getD i Zq.zero))).f_L, (rof (Zjk k s b (l.getD i Zq.zero))).f_T)) := by
 have e1 : (⟨pack 12 false (rof b).f_T.Zm, pack 12 0 (rof b).f_T.Zi⟩ : Zh) = (rof b).f_T := pkR h.T.1 h.T.2
 have hx : Yhz (l.getD i Zq.zero) := hw _ (Zvz hi)
 have hI := h.step hk hs hx
 have e3 : (⟨pack 12 false (rof (Zjk k s b (l.getD i Zq.zero))).f_T.Zm, pack 12 0 (rof (Zjk k s b (l.getD i Zq.zero))).f_T.Zi⟩ : Zh) = (rof (Zjk k s b (l.getD i Zq.zero))).f_T := pkR hI.T.1 hI.T.2
 have hwr := Zhe (show -9223372036854775808 ≤ (i : Int) + 1 ∧ (i : Int) + 1 < 9223372036854775808 by omega)
 unfold Zaw.l3.once
 dsimp only
 simp only [e1]
 rw [ct (show (i : Int) < (l.length : Int) by omega), Z0]
 dsimp only
 rw [ct (show (i : Int) < 14 by omega), Zhh (by omega) (by omega), cond_true, Int.toNat_natCast]
 generalize l.getD i Zq.zero = x at hx hI e3 ⊢
 refine bof (v := (l, (i : Int), (rof (Zjk k s b x)).Zp, (rof (Zjk k s b x)).f_L, (rof (Zjk k s b x)).f_T)) ?_ ?_
 ·refine bof (Zek k x.Zeo (by decide) (by decide)) ?_
  have bp := Zgd x.f_B (m := 3) (by decide)
  have bn := Zgd x.f_N (m := 5) (by decide)
  have pB := Zek k x.f_B (m := 3) (by decide) (by decide)
  have pN := Zek k x.f_N (m := 5) (by decide) (by decide)
  unfold Zjk at hI e3 ⊢
  cases h0 : pick x.Zeo 8 == 0 with
  | true =>
   rw [h0] at hI e3
   simp only [cond_true] at hI e3 ⊢
   refine bof pB (bof (RBclose k h.T (by omega)) ?_)
   simp only [e3]
  | false =>
   rw [h0] at hI e3
   simp only [cond_false] at hI e3 ⊢
   cases h1 : pick x.Zeo 8 == 1 with
   | true =>
    rw [h1] at hI e3
    simp only [cond_true] at hI e3 ⊢
    refine bof pN (bof pB (bof (RRev_eq hk h.T h.len (by omega : s ≤ 9) _ _ h.ls) ?_))
    simp only [e3]
   | false =>
    rw [h1] at hI e3
    simp only [cond_false] at hI e3 ⊢
    cases h2 : pick x.Zeo 8 == 2 with
    | true =>
     rw [h2] at hI e3
     simp only [cond_true] at hI e3 ⊢
     refine bof pB (bof (RBreopen k h.T (by omega)) ?_)
     simp only [e3]
    | false =>
     rw [h2] at hI e3
     simp only [cond_false] at hI e3 ⊢
     obtain ⟨y0, y1, y2⟩ := Zyx hk hs hx
     refine bof pB (bof ((congrArg (fun z => Zv.f k x.f_L z 0 4) h.sc).trans y0) (bof (RPost_eq hk h.T h.len (by omega : s ≤ 9) h.sc _ y1 y2) ?_))
     simp only [e3]
 ·dsimp only
  simp only [e3, hwr]
  rfl
def b0 (s : Nat) : Zg := ⟨(s : Int), [], ⟨[false, false, false, false, false, false, false, false, false, false, false, false], [0, 0, 0, 0, 0, 0, 0, 0, 0, 0, 0, 0]⟩⟩
theorem b0_inv (s : Nat) : Zqk s (b0 s) := ⟨⟨rfl, rfl⟩, Nat.zero_le _, rfl, fun x hx => (List.not_mem_nil hx).elim⟩
noncomputable def bkR (k s : Nat) (l : List Zq) : Nat → Zg
 | 0 => b0 s
 | i + 1 => Zjk k s (bkR k s l i) (l.getD i Zq.zero)
theorem Yim {k : Nat} (hk : 1002 < k) {s : Nat} (hs : s ≤ 4) {l : List Zq} (hw : ∀ z ∈ l, Yhz z) : ∀ i, i ≤ l.length → Zqk s (bkR k s l i)
 | 0, _ => b0_inv s
 | i + 1, hi => (Yim hk hs hw i (by omega)).step hk hs (hw _ (Zvz (by omega)))
noncomputable def bkN (k s : Nat) (l : List Zq) : Zg := bkR k s l (min l.length 14)
theorem bkN_inv {k : Nat} (hk : 1002 < k) {s : Nat} (hs : s ≤ 4) {l : List Zq} (hw : ∀ z ∈ l, Yhz z) : Zqk s (bkN k s l) := Yim hk hs hw _ (Nat.min_le_left _ _)
theorem HBook_eq {k : Nat} (hk : 1002 < k) {s : Nat} (hs : s ≤ 4) {l : List Zq} (hw : ∀ z ∈ l, Yhz z) : Zaw.f k l (s : Int) = some (rof (bkN k s l)) := by
 unfold Zaw.f
 refine bof (v := rof (b0 s)) ?_ ?_
 ·unfold Zdp.f Zct.f
  rw [Z0]
  have : (if (if (s : Int) < 4 then (s : Int) else 4) > 0 then (if (s : Int) < 4 then (s : Int) else 4) else 0) = (s : Int) := by
   split <;> split <;> omega
  rw [this]
  rfl
 ·have hI := fun i (h : i ≤ l.length) => Yim hk hs hw i h
  have hN := hI (min l.length 14) (Nat.min_le_left _ _)
  have it := Zrp (once := Zaw.l3.once k) (fun i => (l, (i : Int), (rof (bkR k s l i)).Zp, (rof (bkR k s l i)).f_L, (rof (bkR k s l i)).f_T)) (min l.length 14)
   (fun i hi => rk_step hk hw hs (by omega) (by omega) (hI i (by omega))) ((rof (bkN k s l)).Zp, (rof (bkN k s l)).f_L, (rof (bkN k s l)).f_T) (by
    have e1 : (⟨pack 12 false (rof (bkR k s l (min l.length 14))).f_T.Zm, pack 12 0 (rof (bkR k s l (min l.length 14))).f_T.Zi⟩ : Zh) = (rof (bkR k s l (min l.length 14))).f_T := pkR hN.T.1 hN.T.2
    unfold Zaw.l3.once
    dsimp only
    simp only [e1]
    by_cases h : ((min l.length 14 : Nat) : Int) < (l.length : Int)
    ·rw [ct h, Z0]
     dsimp only
     rw [cf (show ¬ ((min l.length 14 : Nat) : Int) < 14 by omega)]
     simp only [e1]
     rfl
    ·rw [cf h, Z0]
     dsimp only
     rw [cond_false]
     simp only [e1]
     rfl) k 0 (Nat.zero_le _) (by omega)
  refine bof it ?_
  have e2 : (⟨pack 12 false (rof (bkN k s l)).f_T.Zm, pack 12 0 (rof (bkN k s l)).f_T.Zi⟩ : Zh) = (rof (bkN k s l)).f_T := pkR hN.T.1 hN.T.2
  dsimp only
  rw [e2]
theorem books_eq {k : Nat} (hk : 1002 < k) {s : Nat} (hs : s ≤ 4) {l : List Zq} (hw : ∀ z ∈ l, Yhz z) : Zam.f k l (s : Int) = some (bkN k s l, rof (bkN k s l)) := by
 have hI := fun i (h : i ≤ l.length) => Yim hk hs hw i h
 have hN := hI (min l.length 14) (Nat.min_le_left _ _)
 have e2 : (⟨pack 12 false (rof (bkN k s l)).f_T.Zm, pack 12 0 (rof (bkN k s l)).f_T.Zi⟩ : Zh) = (rof (bkN k s l)).f_T := pkR hN.T.1 hN.T.2
 have e3 : (⟨pack 12 false (bkN k s l).f_t.Zm, pack 12 0 (bkN k s l).f_t.Zi⟩ : Ze) = (bkN k s l).f_t := pk hN.T
 unfold Zam.f
 refine bof (v := b0 s) ?_ (bof (HBook_eq hk hs hw) ?_)
 ·unfold Zgb.f
  have : (if (if 4 < (s : Int) then 4 else (s : Int)) > 0 then (if 4 < (s : Int) then 4 else (s : Int)) else 0) = (s : Int) := by
   split <;> split <;> omega
  rw [this]
  rfl
 ·simp only [e2]
  have it := Zrp (once := Zam.l6.once k) (fun i => (l, (i : Int), (bkR k s l i).Zbb, (bkR k s l i).f_l, (bkR k s l i).f_t, (rof (bkN k s l)).Zp, (rof (bkN k s l)).f_L, (rof (bkN k s l)).f_T)) (min l.length 14)
   (fun i hi => bk_step hk hw hs (by omega) (by omega) (hI i (by omega)) (rof (bkN k s l)) ⟨hN.T.1, hN.T.2⟩ hN.sc) ((bkN k s l).Zbb, (bkN k s l).f_l, (bkN k s l).f_t, (rof (bkN k s l)).Zp, (rof (bkN k s l)).f_L, (rof (bkN k s l)).f_T) (by
    have e1 : (⟨pack 12 false (bkR k s l (min l.length 14)).f_t.Zm, pack 12 0 (bkR k s l (min l.length 14)).f_t.Zi⟩ : Ze) = (bkR k s l (min l.length 14)).f_t := pk hN.T
    unfold Zam.l6.once
    dsimp only
    simp only [e1, e2]
    by_cases h : ((min l.length 14 : Nat) : Int) < (l.length : Int)
    ·rw [ct h, Z0]
     dsimp only
     rw [cf (show ¬ ((min l.length 14 : Nat) : Int) < 14 by omega)]
     simp only [e1, e2]
     rfl
    ·rw [cf h, Z0]
     dsimp only
     rw [cond_false]
     simp only [e1, e2]
     rfl) k 0 (Nat.zero_le _) (by omega)
  have hp : (⟨pack 12 false (b0 s).f_t.Zm, pack 12 0 (b0 s).f_t.Zi⟩ : Ze) = (b0 s).f_t := pk (b0_inv s).T
  refine bof (v := ((bkN k s l).Zbb, (bkN k s l).f_l, (bkN k s l).f_t, (rof (bkN k s l)).Zp, (rof (bkN k s l)).f_L, (rof (bkN k s l)).f_T)) ?_ ?_
  ·simp only [hp]
   exact it
  ·dsimp only
   simp only [e2, e3]
end Go.Proofs.YtbchcjlllddlpaaGreat.Pure
namespace Go.Proofs.YtbchcjlllddlpaaGreat.Pure
set_option linter.unusedVariables false
set_option linter.unusedSimpArgs false
open Go Go.Ev Go.Lm Go.Pu Go.Dg
abbrev KZ := Int × Int
def ltZ (a b : KZ) : Bool := decide (a.1 < b.1) || (a.1 == b.1 && decide (a.2 < b.2))
theorem Ybj {a b : KZ} : ltZ a b = true ↔ a.1 < b.1 ∨ (a.1 = b.1 ∧ a.2 < b.2) := by unfold ltZ; simp
theorem Ybh {a b : KZ} (h : ltZ a b = true) : a ≠ b := by
 rintro rfl
 rw [Ybj] at h
 omega
theorem ltZ_trans {a b c : KZ} (h : ltZ a b = true) (h' : ltZ b c = true) : ltZ a c = true := by
 rw [Ybj] at *
 omega
theorem ltZ_total {a b : KZ} (h : ltZ a b = false) (h' : b ≠ a) : ltZ b a = true := by
 rw [Ybj]
 have h1 : ¬ (a.1 < b.1 ∨ (a.1 = b.1 ∧ a.2 < b.2)) := fun hh => by rw [Ybj.2 hh] at h; cases h
 by_cases e1 : b.1 = a.1
 ·by_cases e2 : b.2 = a.2
  ·exact absurd (Prod.ext e1 e2) h'
  ·omega
 ·omega
theorem Zvy {a b : KZ} : Zcb a b = true ↔ a = b := by
 unfold Zcb
 rw [Bool.and_eq_true, beq_iff_eq, beq_iff_eq]
 exact ⟨fun h => Prod.ext h.1 h.2, fun h => by rw [h]; exact ⟨rfl, rfl⟩⟩
def Ris (l : List (KZ × Int)) : Prop := l.Pairwise fun a b => ltZ a.1 b.1 = true
def SmL (l : List (KZ × Int)) : Prop := ∀ p ∈ l, Sm p.2
instance (v : Int) : Decidable (Sm v) := by unfold Sm; exact inferInstance
def Zuq (k : KZ) (v : Int) : List (KZ × Int) → Option (List (KZ × Int))
 | [] => some [(k, v)]
 | x :: r => if x.1 = k then (if Sm (x.2 + v) then some ((k, x.2 + v) :: r) else none) else if ltZ k x.1 = true then some ((k, v) :: x :: r) else (Zuq k v r).map (x :: ·)
def Zjv (k : KZ) : List (KZ × Int) → Option Int
 | [] => none
 | x :: r => if x.1 = k then some x.2 else Zjv k r
theorem Yby : ∀ {l : List (KZ × Int)} {k : KZ} {v : Int}, Zjv k l = some v → (k, v) ∈ l
 | [], k, v, h => by cases h
 | x :: r, k, v, h => by
  unfold Zjv at h
  split at h
  ·rename_i e
   cases h
   rw [← e]
   exact List.mem_cons_self
  ·exact List.mem_cons_of_mem _ (Yby h)
theorem Yfd : ∀ {l : List (KZ × Int)} {k : KZ}, Zjv k l = none → ∀ p ∈ l, p.1 ≠ k
 | [], k, h, p, hp => (List.not_mem_nil hp).elim
 | x :: r, k, h, p, hp => by
  unfold Zjv at h
  split at h
  ·cases h
  ·rename_i e
   rcases List.mem_cons.1 hp with rfl | hp
   ·exact e
   ·exact Yfd h p hp
theorem Yzl {k : KZ} {l : List (KZ × Int)} (h : ∀ p ∈ l, ltZ k p.1 = true) : Zjv k l = none := by
 induction l with
 | nil => rfl
 | cons x r ih =>
  unfold Zjv
  rw [if_neg (fun e => Ybh (h x List.mem_cons_self) e.symm), ih fun p hp => h p (List.mem_cons_of_mem _ hp)]
theorem Zvu {k : KZ} {v : Int} (hv : Sm v) : ∀ {l : List (KZ × Int)}, Ris l → SmL l → match Zuq k v l with
  | some z => Ris z ∧ SmL z ∧ z.length ≤ l.length + 1 ∧ (∀ p ∈ z, p.1 = k ∨ p.1 ∈ l.map (·.1)) ∧ (match Zjv k l with
   | some u => Sm (u + v) ∧ z = l.map fun p => if p.1 = k then (k, u + v) else p
   | none => z.Perm ((k, v) :: l))
  | none => ∃ u, Zjv k l = some u ∧ ¬ Sm (u + v)
 | [], _, _ => ⟨List.pairwise_singleton _ _, fun p hp => by rw [List.mem_singleton.1 hp]; exact hv, Nat.le_refl _, fun p hp => .inl (by rw [List.mem_singleton.1 hp]), .refl _⟩
 | x :: r, hr, hs => by
  have hr' := List.pairwise_cons.1 hr
  have hsr : SmL r := fun p hp => hs p (List.mem_cons_of_mem _ hp)
  unfold Zuq Zjv
  by_cases e : x.1 = k
  ·rw [if_pos e, if_pos e]
   by_cases hm : Sm (x.2 + v)
   ·rw [if_pos hm]
    have hmap : ∀ p ∈ r, (if p.1 = k then (k, x.2 + v) else p) = p := fun p hp => by
     have := hr'.1 p hp
     rw [if_neg (fun e' => Ybh this (by rw [e, e']))]
    refine ⟨List.pairwise_cons.2 ⟨fun p hp => by have := hr'.1 p hp; rw [e] at this; exact this, hr'.2⟩, fun p hp => ?_, by simp, fun p hp => ?_, hm, ?_⟩
    ·rcases List.mem_cons.1 hp with rfl | hp
     ·exact hm
     ·exact hsr p hp
    ·rcases List.mem_cons.1 hp with rfl | hp
     ·exact .inl rfl
     ·exact .inr (List.mem_map.2 ⟨p, List.mem_cons_of_mem _ hp, rfl⟩)
    ·rw [List.map_cons, if_pos e, (List.map_congr_left hmap).trans (List.map_id _)]
   ·rw [if_neg hm]
    exact ⟨x.2, rfl, hm⟩
  ·rw [if_neg e, if_neg e]
   by_cases hl : ltZ k x.1 = true
   ·rw [if_pos hl]
    have hab : ∀ p ∈ r, ltZ k p.1 = true := fun p hp => ltZ_trans hl (hr'.1 p hp)
    rw [Yzl hab]
    refine ⟨List.pairwise_cons.2 ⟨fun p hp => ?_, hr⟩, fun p hp => ?_, by simp, fun p hp => ?_, .refl _⟩
    ·rcases List.mem_cons.1 hp with rfl | hp
     ·exact hl
     ·exact hab p hp
    ·rcases List.mem_cons.1 hp with rfl | hp
     ·exact hv
     ·exact hs p hp
    ·rcases List.mem_cons.1 hp with rfl | hp
     ·exact .inl rfl
     ·exact .inr (List.mem_map.2 ⟨p, hp, rfl⟩)
   ·rw [if_neg hl]
    have hxk : ltZ x.1 k = true := ltZ_total (by simpa using hl) e
    have ih := Zvu (k := k) hv hr'.2 hsr
    cases hz : Zuq k v r with
    | none =>
     rw [hz] at ih
     exact ih
    | some z =>
     rw [hz] at ih
     obtain ⟨h1, h2, h3, h4, h5⟩ := ih
     refine ⟨List.pairwise_cons.2 ⟨fun p hp => ?_, h1⟩, fun p hp => ?_, by simp; omega, fun p hp => ?_, ?_⟩
     ·rcases h4 p hp with h | h
      ·rw [h]; exact hxk
      ·obtain ⟨q, hq, e'⟩ := List.mem_map.1 h
       rw [← e']
       exact hr'.1 q hq
     ·rcases List.mem_cons.1 hp with rfl | hp
      ·exact hs _ List.mem_cons_self
      ·exact h2 p hp
     ·rcases List.mem_cons.1 hp with rfl | hp
      ·exact .inr (List.mem_map.2 ⟨_, List.mem_cons_self, rfl⟩)
      ·rcases h4 p hp with h | h
       ·exact .inl h
       ·exact .inr (by rw [List.map_cons]; exact List.mem_cons_of_mem _ h)
     ·cases hg : Zjv k r with
      | some u =>
       rw [hg] at h5
       refine ⟨h5.1, ?_⟩
       rw [List.map_cons, if_neg e, h5.2]
      | none =>
       rw [hg] at h5
       exact (List.Perm.cons x h5).trans (.swap _ _ _)
def mkz (s : Nat) (p : KZ × Int) : KZ × Zb := (p.1, DV p.2 s)
theorem Ris.nd {l : List (KZ × Int)} (h : Ris l) : (l.map (·.1)).Nodup := by
 unfold List.Nodup
 rw [List.pairwise_map]
 exact h.imp fun h => Ybh h
theorem Yvr (s : Nat) (l : List (KZ × Int)) : (l.map (mkz s)).map (·.1) = l.map (·.1) := by
 rw [List.map_map]
 rfl
theorem mget_nd {k : KZ} {d : Zb} : ∀ {M : List (KZ × Zb)}, (M.map (·.1)).Nodup → (k, d) ∈ M → Zib (Zcb k) M = some d
 | [], _, h => by cases h
 | x :: r, hn, h => by
  rw [List.map_cons, List.nodup_cons] at hn
  unfold Zib
  rcases List.mem_cons.1 h with e | h
  ·subst e
   rw [Zvy.2 rfl]
   rfl
  ·have : Zcb k x.1 = false := by
    rw [Bool.eq_false_iff]
    intro hk
    exact hn.1 (List.mem_map.2 ⟨_, h, Zvy.1 hk⟩)
   rw [this]
   exact mget_nd hn.2 h
theorem mget_no {k : KZ} : ∀ {M : List (KZ × Zb)}, (∀ p ∈ M, p.1 ≠ k) → Zib (Zcb k) M = none
 | [], _ => rfl
 | x :: r, h => by
  unfold Zib
  have : Zcb k x.1 = false := by
   rw [Bool.eq_false_iff]
   intro hk
   exact h x List.mem_cons_self (Zvy.1 hk).symm
  rw [this]
  exact mget_no fun p hp => h p (List.mem_cons_of_mem _ hp)
theorem Yru {k : KZ} {d : Zb} : ∀ {M : List (KZ × Zb)}, (∀ p ∈ M, p.1 ≠ k) → Zkp (Zcb k) k d M = M ++ [(k, d)]
 | [], _ => rfl
 | x :: r, h => by
  unfold Zkp
  have : Zcb k x.1 = false := by
   rw [Bool.eq_false_iff]
   intro hk
   exact h x List.mem_cons_self (Zvy.1 hk).symm
  rw [this, cond_false, Yru fun p hp => h p (List.mem_cons_of_mem _ hp)]
  rfl
theorem mput_nd {k : KZ} {d u : Zb} : ∀ {M : List (KZ × Zb)}, (M.map (·.1)).Nodup → (k, u) ∈ M → Zkp (Zcb k) k d M = M.map fun p => if p.1 = k then (k, d) else p
 | [], _, h => by cases h
 | x :: r, hn, h => by
  rw [List.map_cons, List.nodup_cons] at hn
  unfold Zkp
  by_cases e : x.1 = k
  ·rw [Zvy.2 e.symm, cond_true, List.map_cons, if_pos e, e]
   congr 1
   refine ((List.map_congr_left fun p hp => ?_).trans (List.map_id r)).symm
   exact if_neg fun e' => hn.1 (List.mem_map.2 ⟨p, hp, by rw [e, e']⟩)
  ·have hk : Zcb k x.1 = false := by
    rw [Bool.eq_false_iff]
    intro hk
    exact e (Zvy.1 hk).symm
   rw [hk, cond_false, List.map_cons, if_neg e]
   rcases List.mem_cons.1 h with e' | h
   ·exact absurd (congrArg Prod.fst e').symm e
   ·rw [mput_nd hn.2 h]
structure MZ (s : Nat) (M : List (KZ × Zb)) (l : List (KZ × Int)) : Prop where
 perm : M.Perm (l.map (mkz s))
 ris : Ris l
 sm : SmL l
theorem MZ.nil (s : Nat) : MZ s [] [] := ⟨.refl _, List.Pairwise.nil, fun p hp => (List.not_mem_nil hp).elim⟩
theorem MZ.nd {s : Nat} {M : List (KZ × Zb)} {l : List (KZ × Int)} (h : MZ s M l) : (M.map (·.1)).Nodup := by
 have := h.perm.map (·.1)
 rw [Yvr] at this
 exact this.nodup_iff.2 h.ris.nd
theorem MZ.get {s : Nat} {M : List (KZ × Zb)} {l : List (KZ × Int)} (h : MZ s M l) (k : KZ) : Zib (Zcb k) M = (Zjv k l).map fun v => DV v s := by
 cases hg : Zjv k l with
 | some v => exact mget_nd h.nd (h.perm.mem_iff.2 (List.mem_map.2 ⟨_, Yby hg, rfl⟩))
 | none =>
  refine mget_no fun p hp => ?_
  obtain ⟨q, hq, rfl⟩ := List.mem_map.1 (h.perm.mem_iff.1 hp)
  exact Yfd hg q hq
theorem MZ.put {s : Nat} {M : List (KZ × Zb)} {l z : List (KZ × Int)} (h : MZ s M l) {k : KZ} {v : Int} (hv : Sm v) (hz : Zuq k v l = some z) : MZ s (Zkp (Zcb k) k (DV ((Zjv k l).getD 0 + v) s) M) z := by
 have sp := Zvu (k := k) hv h.ris h.sm
 rw [hz] at sp
 obtain ⟨h1, h2, h3, h4, h5⟩ := sp
 refine ⟨?_, h1, h2⟩
 cases hg : Zjv k l with
 | some u =>
  rw [hg] at h5
  obtain ⟨h6, h7⟩ := h5
  rw [mput_nd h.nd (h.perm.mem_iff.2 (List.mem_map.2 ⟨_, Yby hg, rfl⟩)), h7]
  refine (h.perm.map _).trans (List.Perm.of_eq ?_)
  rw [List.map_map, List.map_map]
  refine List.map_congr_left fun p _ => ?_
  show (if p.1 = k then (k, DV (u + v) s) else mkz s p) = mkz s (if p.1 = k then (k, u + v) else p)
  split <;> rfl
 | none =>
  rw [hg] at h5
  rw [Yru fun p hp => by
   obtain ⟨q, hq, rfl⟩ := List.mem_map.1 (h.perm.mem_iff.1 hp)
   exact Yfd hg q hq]
  refine (List.perm_append_comm.trans ((List.Perm.cons _ h.perm).trans ?_))
  show (mkz s (k, 0 + v) :: l.map (mkz s)).Perm (z.map (mkz s))
  rw [Int.zero_add]
  exact (h5.map (mkz s)).symm
def Zjt (l : List (KZ × Int)) : List (KZ × Int) := l.filter fun p => p.2 != 0
theorem Ykm {α : Type} {p : α → Option Bool} {q : α → Bool} : ∀ {l : List α}, (∀ x ∈ l, p x = some (q x)) → Zxd p l = some (l.filter fun x => !q x)
 | [], _ => rfl
 | x :: r, h => by
  unfold Zxd
  rw [h x List.mem_cons_self, Z0, Ykm fun y hy => h y (List.mem_cons_of_mem _ hy), Z0]
  cases hq : q x with
  | true => rw [List.filter_cons_of_neg (by simp [hq])]; rfl
  | false => rw [List.filter_cons_of_pos (by simp [hq])]; rfl
theorem someZ_ris {l : List (KZ × Int)} (h : Ris l) : Ris (Zjt l) := h.sublist List.filter_sublist
theorem someZ_sm {l : List (KZ × Int)} (h : SmL l) : SmL (Zjt l) := fun p hp => h p ((List.mem_filter.1 hp).1)
theorem w2_zero {v : Int} {s : Nat} : (val (DV v s) == 0) = (v == 0) := by rw [Zkl]
theorem MZ.some {s : Nat} {M : List (KZ × Zb)} {l : List (KZ × Int)} (h : MZ s M l) : MZ s (M.filter fun p => !(val p.2 == 0)) (Zjt l) := by
 refine ⟨(h.perm.filter _).trans (List.Perm.of_eq ?_), someZ_ris h.ris, someZ_sm h.sm⟩
 unfold Zjt
 rw [List.filter_map]
 congr 1
 refine List.filter_congr fun p _ => ?_
 show (!(val (DV p.2 s) == 0)) = (p.2 != 0)
 rw [w2_zero]
 rfl
theorem MZ.len {s : Nat} {M : List (KZ × Zb)} {l : List (KZ × Int)} (h : MZ s M l) : M.length = l.length := by rw [h.perm.length_eq, List.length_map]
end Go.Proofs.YtbchcjlllddlpaaGreat.Pure
namespace Go.Proofs.YtbchcjlllddlpaaGreat.Pure
set_option linter.unusedVariables false
set_option linter.unusedSimpArgs false
open Go Go.Ev Go.Lm Go.Pu Go.Dg
def Zlx (a : Int) : Int := if a < 0 ∨ a ≥ 16 then 0 else if a ≤ 3 then 1 else if a ≤ 6 then 2 else if a ≤ 8 then 3 else 4
theorem CK_eq (k : Nat) (a : Int) : Zdo.f k a = some (Zlx a) := by
 unfold Zdo.f Zlx
 by_cases h : a < 0
 ·rw [ct h, if_pos (.inl h)]; rfl
 ·rw [cf h, Z0]
  dsimp only
  by_cases h2 : a ≥ 16
  ·rw [ct h2, if_pos (.inr h2)]
  ·rw [cf h2, if_neg (by omega)]
   by_cases h3 : a ≤ 3
   ·rw [ct h3, if_pos h3]
   ·rw [cf h3, if_neg h3]
    by_cases h4 : a ≤ 6
    ·rw [ct h4, if_pos h4]
    ·rw [cf h4, if_neg h4]
     by_cases h5 : a ≤ 8
     ·rw [ct h5, if_pos h5]
     ·rw [cf h5, if_neg h5]
def kzL (o : Bool) (x : Zc) : KZ := if Zlx x.Zdt = 4 ∧ o = false then (8, 0) else (x.Zdt, IntKind.wrap .i64 (x.Zeg + 1))
theorem key_eq (k : Nat) (x : Zc) (o : Bool) : Zfo.f k x o = some (kzL o x) := by
 unfold Zfo.f kzL
 rw [CK_eq, Z0]
 by_cases h : Zlx x.Zdt = 4
 ·rw [show (Zlx x.Zdt == 4) = true by rw [h]; rfl, cond_true, Z0]
  cases o
  ·rw [if_pos ⟨h, rfl⟩]; rfl
  ·rw [if_neg (by simp)]; rfl
 ·rw [show (Zlx x.Zdt == 4) = false by simpa using h, cond_false, Z0, if_neg (fun hh => h hh.1)]
  rfl
theorem Yyi {k : Nat} (hk : 60 < k) {i j : Int} {s : Nat} (hi : Sm i) (hj : Sm j) (hs : s ≤ 9) : Zex.f k (DV i s) (DV j s) = some (mkD (i + j) s) := by
 have h := Add_DV hk hi hj hs hs
 rw [Nat.max_self, Nat.sub_self, Int.pow_zero, Int.mul_one, Int.mul_one] at h
 exact h
theorem Sm0 : Sm 0 := by unfold Sm; decide
theorem putZ_val {k : KZ} {v : Int} {l : List (KZ × Int)} (hv : Sm v) (hr : Ris l) (hs : SmL l) : (Zuq k v l).isSome = decide (Sm ((Zjv k l).getD 0 + v)) := by
 have h := Zvu (k := k) hv hr hs
 cases hz : Zuq k v l with
 | some z =>
  rw [hz] at h
  obtain ⟨_, _, _, _, h5⟩ := h
  cases hg : Zjv k l with
  | some u => rw [hg] at h5; rw [decide_eq_true (show Sm ((some u).getD 0 + v) from h5.1)]; rfl
  | none => rw [decide_eq_true (show Sm ((none : Option Int).getD 0 + v) by rw [Option.getD_none, Int.zero_add]; exact hv)]; rfl
 | none =>
  rw [hz] at h
  obtain ⟨u, hu, hn⟩ := h
  rw [hu, decide_eq_false (show ¬ Sm ((some u).getD 0 + v) from hn)]
  rfl
def Zpv (o : Bool) : List Zc → List (KZ × Int) → Option (List (KZ × Int))
 | [], z => some z
 | x :: r, z => (Zuq (kzL o x) (val x.Zu) z).bind (Zpv o r)
def Ych (p : Int) (t : Ze) : List Zd → List (KZ × Int) → Option (List (KZ × Int))
 | [], z => some z
 | x :: r, z => if x.Zbj > p then Ych p t r z else (Zpv (opn t x.Zbj) x.Zby z).bind (Ych p t r)
theorem line_in {k : Nat} (hk : 1002 < k) {s : Nat} (hs : s ≤ 4) {bt t : Ze} (hb : T12 bt) (ht : T12 t) {ls : List Zc} (hl : ls.length ≤ 1000) (hw : ∀ x ∈ ls, x.Zu = DV (val x.Zu) s ∧ Sm (val x.Zu))
  {M : List (KZ × Zb)} {z : List (KZ × Int)} (hM : MZ s M z) {j : Nat} (hj : j < ls.length) (p : Int) (es : List Zd) (n i : Int) (bl : List Zd) (per : Int) (ls2 : List Zc) (of : Int) :
  Zaz.l11.once k (p, es, n, i, ls, (ls.length : Int), (j : Int), (s : Int), bl, bt, M, t, per, ls2, of) = some (match Zuq (kzL (opn t per) (ls.getD j Zc.zero)) (val (ls.getD j Zc.zero).Zu) z with
   | some z' => .inl (p, es, n, i, ls, (ls.length : Int), ((j + 1 : Nat) : Int), (s : Int), bl, bt, Zkp (Zcb (kzL (opn t per) (ls.getD j Zc.zero))) (kzL (opn t per) (ls.getD j Zc.zero)) (DV ((Zjv (kzL (opn t per) (ls.getD j Zc.zero)) z).getD 0 + val (ls.getD j Zc.zero).Zu) s) M, t, per, ls2, of)
   | none => .inr (.inr ([], 3, ⟨(s : Int), bl, bt⟩))) := by
 have hx := hw _ (Zfq Zc.zero hj)
 have hwr := Zhe (show -9223372036854775808 ≤ (j : Int) + 1 ∧ (j : Int) + 1 < 9223372036854775808 by omega)
 have e1 := pk hb
 have e2 := pk ht
 unfold Zaz.l11.once
 dsimp only
 simp only [e1, e2]
 rw [ct (show (j : Int) < (ls.length : Int) by omega), Zhh (by omega) (by omega), cond_true, Int.toNat_natCast]
 generalize ls.getD j Zc.zero = x at hx ⊢
 obtain ⟨hx1, hx2⟩ := hx
 refine bof (Zws k ht per) (bof (key_eq k x _) ?_)
 generalize kzL (opn t per) x = key
 have hg : Zib (Zcb (key.1, key.2)) M = (Zjv key z).map fun v => DV v s := hM.get key
 have hu : Sm ((Zjv key z).getD 0) := by
  cases hgz : Zjv key z with
  | none => exact Sm0
  | some u => exact hM.sm _ (Yby hgz)
 have hv := putZ_val (k := key) hx2 hM.ris hM.sm
 rw [hg, Z0, Z0]
 refine bof (v := (p, es, n, i, ls, (ls.length : Int), (j : Int), (s : Int), bl, bt, M, t, per, ls2, of, x.Zdt, x.Zu.Zgv, x.Zu.f_C.1, x.Zu.f_C.2, x.Zu.Zp, x.Zeg, key.1, key.2, (DV ((Zjv key z).getD 0) s).Zgv, (DV ((Zjv key z).getD 0) s).f_C.1, (DV ((Zjv key z).getD 0) s).f_C.2, (DV ((Zjv key z).getD 0) s).Zp)) ?_ ?_
 ·cases Zjv key z with
  | none =>
   have ho : Zgk.f k 0 (s : Int) = some (DV 0 s) := by
    have := Of_DV k (n := 0) (by omega) (s : Int)
    rwa [Yqc (by omega)] at this
   rw [Option.map_none, Option.isSome_none, Bool.not_false, cond_true]
   refine bof (v := ((s : Int), (⟨(s : Int), bl, bt⟩ : Zg))) ?_ ?_
   ·unfold Zdk.f
    simp only [e1]
   ·refine bof ho ?_
    simp only [e1]
    rfl
  | some u => rfl
 ·dsimp only
  have ha : Zex.f k (⟨(DV ((Zjv key z).getD 0) s).Zgv, ((DV ((Zjv key z).getD 0) s).f_C.1, (DV ((Zjv key z).getD 0) s).f_C.2), (DV ((Zjv key z).getD 0) s).Zp⟩ : Zb) (⟨x.Zu.Zgv, (x.Zu.f_C.1, x.Zu.f_C.2), x.Zu.Zp⟩ : Zb) = some (mkD ((Zjv key z).getD 0 + val x.Zu) s) := by
   show Zex.f k (DV ((Zjv key z).getD 0) s) x.Zu = _
   rw [hx1, Zkl]
   exact Yyi (by omega) hu hx2 (by omega)
  refine bof ha ?_
  simp only [e1, e2, hwr]
  cases hp : Zuq key (val x.Zu) z with
  | some z' =>
   rw [hp] at hv
   have hS : Sm ((Zjv key z).getD 0 + val x.Zu) := of_decide_eq_true hv.symm
   have hm : mkD ((Zjv key z).getD 0 + val x.Zu) s = (DV ((Zjv key z).getD 0 + val x.Zu) s, 0) := if_pos hS
   rw [hm]
   rfl
  | none =>
   rw [hp] at hv
   have hS : ¬ Sm ((Zjv key z).getD 0 + val x.Zu) := of_decide_eq_false hv.symm
   have hm : mkD ((Zjv key z).getD 0 + val x.Zu) s = (nil0, 3) := if_neg hS
   rw [hm]
   rfl
theorem lines_in {k : Nat} (hk : 1002 < k) {s : Nat} (hs : s ≤ 4) {bt t : Ze} (hb : T12 bt) (ht : T12 t) {ls : List Zc} (hl : ls.length ≤ 1000) (hw : ∀ x ∈ ls, x.Zu = DV (val x.Zu) s ∧ Sm (val x.Zu))
  (p : Int) (es : List Zd) (n i : Int) (bl : List Zd) (per : Int) (ls2 : List Zc) (of : Int) : ∀ (m j : Nat) (M : List (KZ × Zb)) (z : List (KZ × Int)), MZ s M z → j ≤ ls.length → ls.length - j < m →
  ∃ r, iter (Zaz.l11.once k) m (p, es, n, i, ls, (ls.length : Int), (j : Int), (s : Int), bl, bt, M, t, per, ls2, of) = some r ∧ (match Zpv (opn t per) (ls.drop j) z with
   | some z' => ∃ M', r = .inl (p, es, n, i, (s : Int), bl, bt, M', t) ∧ MZ s M' z'
   | none => r = .inr ([], 3, ⟨(s : Int), bl, bt⟩)) := by
 intro m
 induction m with
 | zero => intro j M z _ _ h; omega
 | succ m ih =>
  intro j M z hM hj hm
  by_cases hc : j < ls.length
  ·have st := line_in hk hs hb ht hl hw hM hc p es n i bl per ls2 of
   have hx := hw _ (Zfq Zc.zero hc)
   rw [Zgf Zc.zero hc]
   unfold Zpv
   cases hp : Zuq (kzL (opn t per) (ls.getD j Zc.zero)) (val (ls.getD j Zc.zero).Zu) z with
   | some z' =>
    rw [hp] at st
    rw [Zca st, Z0]
    exact ih (j + 1) _ z' (hM.put hx.2 hp) (by omega) (by omega)
   | none =>
    rw [hp] at st
    exact ⟨_, Zbh st, rfl⟩
  ·rw [List.drop_eq_nil_of_le (by omega)]
   refine ⟨_, Zbh ?_, M, rfl, hM⟩
   unfold Zaz.l11.once
   dsimp only
   rw [cf (by omega), pk hb, pk ht]
theorem ents_in {k : Nat} (hk : 1002 < k) {s : Nat} (hs : s ≤ 4) {bt t : Ze} (hb : T12 bt) (ht : T12 t) {es : List Zd} (hl : es.length ≤ 1000) (hw : ∀ x ∈ es, LsOk s x.Zby) (p : Int) (bl : List Zd) :
  ∀ (m i : Nat) (M : List (KZ × Zb)) (z : List (KZ × Int)), MZ s M z → i ≤ es.length → es.length - i < m →
  ∃ r, iter (Zaz.l7.once k) m (p, es, (es.length : Int), (i : Int), (s : Int), bl, bt, M, t) = some r ∧ (match Ych p t (es.drop i) z with
   | some z' => ∃ M', r = .inl (M', (s : Int), bl, bt) ∧ MZ s M' z'
   | none => r = .inr ([], 3, ⟨(s : Int), bl, bt⟩)) := by
 intro m
 induction m with
 | zero => intro i M z _ _ h; omega
 | succ m ih =>
  intro i M z hM hi hm
  have e1 := pk hb
  have e2 := pk ht
  by_cases hc : i < es.length
  ·have hx := hw _ (Zfq Zd.zero hc)
   have hwr := Zhe (show -9223372036854775808 ≤ (i : Int) + 1 ∧ (i : Int) + 1 < 9223372036854775808 by omega)
   rw [Zgf Zd.zero hc]
   unfold Ych
   have st : Zaz.l7.once k (p, es, (es.length : Int), (i : Int), (s : Int), bl, bt, M, t) = cond (decide ((es.getD i Zd.zero).Zbj > p)) (some (.inl (p, es, (es.length : Int), ((i + 1 : Nat) : Int), (s : Int), bl, bt, M, t)))
     ((iter (Zaz.l11.once k) k (p, es, (es.length : Int), (i : Int), (es.getD i Zd.zero).Zby, ((es.getD i Zd.zero).Zby.length : Int), 0, (s : Int), bl, bt, M, t, (es.getD i Zd.zero).Zbj, (es.getD i Zd.zero).Zby, (es.getD i Zd.zero).Zje)).bind fun | .inl y => (some (.inl (y.1, y.2.1, y.2.2.1, IntKind.wrap .i64 (y.2.2.2.1 + 1), y.2.2.2.2.1, y.2.2.2.2.2.1, (⟨pack 12 false y.2.2.2.2.2.2.1.Zm, pack 12 0 y.2.2.2.2.2.2.1.Zi⟩ : Ze), y.2.2.2.2.2.2.2.1, (⟨pack 12 false y.2.2.2.2.2.2.2.2.Zm, pack 12 0 y.2.2.2.2.2.2.2.2.Zi⟩ : Ze)))) | .inr y => (some (.inr (.inr (y.1, y.2.1, (⟨y.2.2.Zbb, y.2.2.f_l, (⟨pack 12 false y.2.2.f_t.Zm, pack 12 0 y.2.2.f_t.Zi⟩ : Ze)⟩ : Zg)))))) := by
    unfold Zaz.l7.once
    dsimp only
    simp only [e1, e2]
    rw [ct (show (i : Int) < (es.length : Int) by omega), Zhh (by omega) (by omega), cond_true, Int.toNat_natCast, hwr]
    rfl
   generalize es.getD i Zd.zero = x at hx st ⊢
   by_cases hp : x.Zbj > p
   ·rw [ct hp] at st
    rw [if_pos hp, Zca st]
    exact ih (i + 1) M z hM (by omega) (by omega)
   ·rw [cf hp] at st
    rw [if_neg hp]
    obtain ⟨r, hr, hr2⟩ := lines_in hk hs hb ht (ls := x.Zby) (by have := hx.1; omega) hx.2 p es (es.length : Int) (i : Int) bl x.Zbj x.Zby x.Zje k 0 M z hM (Nat.zero_le _) (by have := hx.1; omega)
    rw [List.drop_zero] at hr2
    have hr' : iter (Zaz.l11.once k) k (p, es, (es.length : Int), (i : Int), x.Zby, (x.Zby.length : Int), 0, (s : Int), bl, bt, M, t, x.Zbj, x.Zby, x.Zje) = some r := hr
    rw [hr', Z0] at st
    cases hq : Zpv (opn t x.Zbj) x.Zby z with
    | some z' =>
     rw [hq] at hr2
     obtain ⟨M', rfl, hM'⟩ := hr2
     dsimp only at st
     rw [e1, e2, hwr] at st
     rw [Zca st, Z0]
     exact ih (i + 1) M' z' hM' (by omega) (by omega)
    | none =>
     rw [hq] at hr2
     subst hr2
     dsimp only at st
     rw [e1] at st
     exact ⟨_, Zbh st, rfl⟩
  ·rw [List.drop_eq_nil_of_le (by omega)]
   refine ⟨_, Zbh ?_, M, rfl, hM⟩
   unfold Zaz.l7.once
   dsimp only
   rw [cf (by omega), e1]
theorem Yyl {k : Nat} (hk : 1002 < k) {s : Nat} (hs : s ≤ 4) {M : List (KZ × Zb)} {z : List (KZ × Int)} (hM : MZ s M z) : Zxd (fun p => (Zfj.f k p.1 p.2).bind fun y => some y) M = some (M.filter fun p => !(val p.2 == 0)) := by
 refine Ykm fun p hp => ?_
 obtain ⟨q, hq, rfl⟩ := List.mem_map.1 (hM.perm.mem_iff.1 hp)
 have h := Znu (k := k) (by omega) (hM.sm q hq) (by omega : s ≤ 9)
 have h' : Zfj.f k (mkz s q).1 (mkz s q).2 = some (sgn q.2 == 0) := by
  unfold Zfj.f
  exact bof h rfl
 rw [h', Z0, Yak]
 show some (decide (q.2 = 0)) = some (val (DV q.2 s) == 0)
 rw [Zkl]
 rfl
theorem Trial_eq {k : Nat} (hk : 1002 < k) {s : Nat} (hs : s ≤ 4) {b : Zg} (h : Zqk s b) (p : Int) : ∃ M e, Zaz.f k b p = some (M, e, b) ∧
  (if p < 0 ∨ p ≥ 12 then M = [] ∧ e = 8 else match Ych p b.f_t b.f_l [] with
   | some z => e = 0 ∧ MZ s M (Zjt z)
   | none => M = [] ∧ e = 3) := by
 have e1 := pk h.T
 have e2 : (⟨b.Zbb, b.f_l, ⟨pack 12 false b.f_t.Zm, pack 12 0 b.f_t.Zi⟩⟩ : Zg) = b := pkB h.T
 unfold Zaz.f
 simp only [e1]
 by_cases hp : p < 0
 ·refine ⟨[], 8, ?_, by rw [if_pos (.inl hp)]; exact ⟨rfl, rfl⟩⟩
  rw [ct hp, Z0]
  dsimp only
  rw [cond_true, e1]
 ·rw [cf hp, Z0]
  dsimp only
  by_cases hp2 : p ≥ 12
  ·refine ⟨[], 8, ?_, by rw [if_pos (.inr hp2)]; exact ⟨rfl, rfl⟩⟩
   rw [ct hp2, e1]
  ·rw [cf hp2]
   simp only [if_neg (show ¬ (p < 0 ∨ p ≥ 12) by omega)]
   have hE := Yyg (k := k) (by omega) h.T h.len (fun x hx => by have := (h.ls x hx).1; omega)
   obtain ⟨r, hr, hr2⟩ := ents_in hk hs h.T h.T (es := b.f_l) (by have := h.len; omega) h.ls p b.f_l k 0 [] [] (MZ.nil s) (Nat.zero_le _) (by have := h.len; omega)
   rw [List.drop_zero] at hr2
   have hr' : iter (Zaz.l7.once k) k (p, b.f_l, (b.f_l.length : Int), 0, b.Zbb, b.f_l, b.f_t, [], b.f_t) = some r := by rw [h.sc]; exact hr
   have hP : Zcn.f k (⟨b.Zbb, b.f_l, ⟨pack 12 false b.f_t.Zm, pack 12 0 b.f_t.Zi⟩⟩ : Zg) = some (b.f_t, b) := by
    rw [e2]
    unfold Zcn.f
    rw [e1]
   have hE' : Zab.f k (⟨b.Zbb, b.f_l, ⟨pack 12 false b.f_t.Zm, pack 12 0 b.f_t.Zi⟩⟩ : Zg) = some (b.f_l, b) := by rw [e2]; exact hE
   cases hz : Ych p b.f_t b.f_l [] with
   | some z =>
    rw [hz] at hr2
    obtain ⟨M, rfl, hM⟩ := hr2
    refine ⟨M.filter fun p => !(val p.2 == 0), 0, ?_, rfl, hM.some⟩
    refine bof hP (bof hE' (bof (v := .inl (M, (s : Int), b.f_l, b.f_t)) (by simp only [e1]; exact hr') ?_))
    dsimp only
    refine bof (Yyl hk hs hM) ?_
    rw [← h.sc, e2]
   | none =>
    rw [hz] at hr2
    subst hr2
    refine ⟨[], 3, ?_, rfl, rfl⟩
    refine bof hP (bof hE' (bof (v := .inr ([], 3, ⟨(s : Int), b.f_l, b.f_t⟩)) (by simp only [e1]; exact hr') ?_))
    dsimp only
    rw [← h.sc, e2]
end Go.Proofs.YtbchcjlllddlpaaGreat.Pure
namespace Go.Proofs.YtbchcjlllddlpaaGreat.Pure
set_option linter.unusedVariables false
set_option linter.unusedSimpArgs false
open Go Go.Ev Go.Lm Go.Pu Go.Dg
theorem getD_map {α β : Type} (f : α → β) {l : List α} {i : Nat} (d : α) (e : β) (h : i < l.length) : (l.map f).getD i e = f (l.getD i d) := by
 rw [List.getD_eq_getElem?_getD, List.getD_eq_getElem?_getD, List.getElem?_map, List.getElem?_eq_getElem h]
 rfl
end Go.Proofs.YtbchcjlllddlpaaGreat.Pure
namespace Go.Proofs.YtbchcjlllddlpaaGreat.Pure
set_option linter.unusedVariables false
set_option linter.unusedSimpArgs false
open Go Go.Ev Go.Lm Go.Pu Go.Dg
def FlowW (x : Zc) : Prop := Zlx x.Zdt = 4 → x.Zeg = -1
def EInv (b : Zg) : Prop := ∀ x ∈ b.f_l, (0 ≤ x.Zbj ∧ x.Zbj < 12) ∧ ∀ y ∈ x.Zby, FlowW y
theorem opn_p {t : Ze} {p : Int} (h : opn t p = true) : 0 ≤ p ∧ p < 12 := by
 unfold opn at h
 simp only [Bool.and_eq_true, decide_eq_true_eq] at h
 exact ⟨h.1, h.2.1⟩
theorem EInv.add {b : Zg} (h : EInv b) {x : Zd} (hx : ∀ y ∈ x.Zby, FlowW y) : EInv (Znj b x).2.2 := by
 unfold Znj
 split
 ·rename_i ho
  split
  ·exact h
  ·intro y hy
   rcases List.mem_append.1 hy with hy | hy
   ·exact h y hy
   ·have : y = x := by simpa using hy
    rw [this]
    exact ⟨opn_p ho, hx⟩
 ·exact h
theorem FlowW_rl {s : Nat} {x : Zc} (h : rlB s x = true) : FlowW x := by
 intro hk
 unfold rlB at h
 simp only [Bool.and_eq_true] at h
 have hw := h.2.2.2
 have hi : isW x.Zdt = false := by
  unfold Zlx at hk
  unfold isW
  rw [Bool.eq_false_iff]
  intro hh
  rw [Bool.or_eq_true, beq_iff_eq, beq_iff_eq] at hh
  rcases hh with e | e <;> rw [e] at hk <;> simp at hk
 rw [hi] at hw
 simpa using hw
theorem EInv.step {k : Nat} {s : Nat} {b : Zg} (h : EInv b) (x : Zq) : EInv (Zjk k s b x) := by
 have turn : ∀ c, EInv (Zjs b c).2 := fun c => by
  unfold Zjs
  dsimp only
  cases c.2.2 == 0 <;> exact h
 unfold Zjk
 cases pick x.Zeo 8 == 0 with
 | true => exact turn _
 | false =>
  rw [cond_false]
  cases pick x.Zeo 8 == 1 with
  | true =>
   rw [cond_true]
   unfold Yar
   split
   ·exact h
   ·rename_i h0
    split
    ·exact h
    ·refine h.add fun y hy => ?_
     obtain ⟨z, hz, rfl⟩ := List.mem_map.1 hy
     exact (h _ (Zfq Zd.zero (by omega))).2 z hz
  | false =>
   rw [cond_false]
   cases pick x.Zeo 8 == 2 with
   | true => exact turn _
   | false =>
    rw [cond_false]
    unfold Zqm
    split
    ·rename_i h0
     refine h.add fun y hy => ?_
     unfold Zjx at h0
     split at h0
     ·cases h0
     ·split at h0
      ·rename_i ha
       exact FlowW_rl (List.all_eq_true.1 ha y hy)
      ·cases h0
    ·exact h
theorem putZ_len {key : KZ} {v : Int} (hv : Sm v) {z z' : List (KZ × Int)} (hr : Ris z) (hs : SmL z) (h : Zuq key v z = some z') : Ris z' ∧ SmL z' ∧ z'.length ≤ z.length + 1 := by
 have := Zvu (k := key) hv hr hs
 rw [h] at this
 exact ⟨this.1, this.2.1, this.2.2.1⟩
theorem Ykk {o : Bool} : ∀ {ls : List Zc} {z z' : List (KZ × Int)}, (∀ x ∈ ls, Sm (val x.Zu)) → Ris z → SmL z → Zpv o ls z = some z' → Ris z' ∧ SmL z' ∧ z'.length ≤ z.length + ls.length
 | [], z, z', _, hr, hz, h => by cases h; exact ⟨hr, hz, Nat.le_refl _⟩
 | x :: r, z, z', hw, hr, hz, h => by
  unfold Zpv at h
  obtain ⟨z1, h1, h2⟩ := Option.bind_eq_some_iff.1 h
  obtain ⟨g1, g2, g3⟩ := putZ_len (hw x List.mem_cons_self) hr hz h1
  obtain ⟨f1, f2, f3⟩ := Ykk (fun y hy => hw y (List.mem_cons_of_mem _ hy)) g1 g2 h2
  exact ⟨f1, f2, by rw [List.length_cons]; omega⟩
theorem Ylp {p : Int} {t : Ze} {s : Nat} : ∀ {es : List Zd} {z z' : List (KZ × Int)}, (∀ x ∈ es, LsOk s x.Zby) → Ris z → SmL z → Ych p t es z = some z' → Ris z' ∧ SmL z' ∧ z'.length ≤ z.length + 8 * es.length
 | [], z, z', _, hr, hz, h => by cases h; exact ⟨hr, hz, Nat.le_refl _⟩
 | x :: r, z, z', hw, hr, hz, h => by
  unfold Ych at h
  rw [List.length_cons]
  split at h
  ·obtain ⟨g1, g2, g3⟩ := Ylp (fun y hy => hw y (List.mem_cons_of_mem _ hy)) hr hz h
   exact ⟨g1, g2, by omega⟩
  ·obtain ⟨z1, h1, h2⟩ := Option.bind_eq_some_iff.1 h
   have hx := hw x List.mem_cons_self
   obtain ⟨f1, f2, f3⟩ := Ykk (fun y hy => (hx.2 y hy).2) hr hz h1
   obtain ⟨g1, g2, g3⟩ := Ylp (fun y hy => hw y (List.mem_cons_of_mem _ hy)) f1 f2 h2
   have := hx.1
   exact ⟨g1, g2, by omega⟩
end Go.Proofs.YtbchcjlllddlpaaGreat.Pure
namespace Go.Proofs.YtbchcjlllddlpaaGreat.Pure
set_option linter.unusedVariables false
set_option linter.unusedSimpArgs false
open Go Go.Ev Go.Lm Go.Pu Go.Dg
end Go.Proofs.YtbchcjlllddlpaaGreat.Pure
namespace Go.Proofs.YtbchcjlllddlpaaGreat.Pure
set_option linter.unusedVariables false
set_option linter.unusedSimpArgs false
open Go Go.Ev Go.Lm Go.Pu Go.Dg
theorem srt_id (l : List KZ) : Zga l = isrt l := by
 unfold Zga
 rw [show l.map (fun (x : Int × Int) => (x.1, x.2)) = l from List.map_id l]
 exact List.map_id _
theorem lt_le {a b : KZ} (h : ltZ a b = true) : Zkg a b = true := by
 rw [Ybj] at h
 unfold Zkg
 simp
 omega
theorem MZ.keys {s : Nat} {M : List (KZ × Zb)} {z : List (KZ × Int)} (h : MZ s M z) : Zga (M.map fun p => p.1) = z.map (·.1) := by
 rw [srt_id]
 refine Zmo Yer ((Yfb _).trans ?_) (Zuv _) ?_
 ·have := h.perm.map (·.1)
  rw [Yvr] at this
  exact this
 ·rw [List.pairwise_map]
  exact h.ris.imp fun h => lt_le h
theorem Keys2_eq {k s : Nat} {M : List (KZ × Zb)} {z : List (KZ × Int)} (h : MZ s M z) (hl : z.length ≤ 1000) : Zfr.f k M = some (z.map (·.1), M) := by
 unfold Zfr.f
 rw [Zfv (by rw [List.length_map, h.len]; omega), cond_true, h.keys]
 refine bof (v := z.map (·.1)) ?_ rfl
 unfold Zbs.f
 have : inS 0 ((z.map (·.1)).length : Int) (z.map (·.1)).length = true := by unfold inS; simp
 rw [decide_eq_true rfl, this, Bool.true_and, cond_true, Int.toNat_natCast, List.take_length]
theorem Ysk : ∀ {z : List (KZ × Int)}, Ris z → ∀ p ∈ z, Zjv p.1 z = some p.2
 | [], _, p, hp => (List.not_mem_nil hp).elim
 | x :: r, h, p, hp => by
  have h' := List.pairwise_cons.1 h
  unfold Zjv
  rcases List.mem_cons.1 hp with rfl | hp
  ·rw [if_pos rfl]
  ·rw [if_neg (Ybh (h'.1 p hp)), Ysk h'.2 p hp]
theorem getD_memZ {z : List (KZ × Int)} {i : Nat} (hi : i < z.length) : z.getD i ((0, 0), 0) ∈ z := by
 rw [List.getD_eq_getElem?_getD, List.getElem?_eq_getElem hi]
 exact List.getElem_mem hi
end Go.Proofs.YtbchcjlllddlpaaGreat.Pure
namespace Go.Proofs.YtbchcjlllddlpaaGreat.Pure
set_option linter.unusedVariables false
set_option linter.unusedSimpArgs false
open Go Go.Ev Go.Lm Go.Pu Go.Dg
def kdZ (a : Int) : Nat := if Zlx a = 1 ∨ Zlx a = 2 then 0 else if Zlx a = 3 then 2 else 1
theorem TKind_eq (k : Nat) (a : Int) : Zey.f k a = some (kdZ a : Int) := by
 unfold Zey.f kdZ
 rw [CK_eq, Z0]
 by_cases h1 : Zlx a = 1
 ·rw [show (Zlx a == 1) = true by simpa using h1, cond_true, Z0]
  dsimp only
  rw [cond_true, if_pos (.inl h1)]
  rfl
 ·rw [show (Zlx a == 1) = false by simpa using h1, cond_false, Z0]
  dsimp only
  by_cases h2 : Zlx a = 2
  ·rw [show (Zlx a == 2) = true by simpa using h2, cond_true, if_pos (.inr h2)]
   rfl
  ·rw [show (Zlx a == 2) = false by simpa using h2, cond_false, if_neg (by omega)]
   by_cases h3 : Zlx a = 3
   ·rw [show (Zlx a == 3) = true by simpa using h3, cond_true, if_pos h3]
    rfl
   ·rw [show (Zlx a == 3) = false by simpa using h3, cond_false, if_neg h3]
    rfl
theorem kdZ_lt (a : Int) : kdZ a < 3 := by
 unfold kdZ
 split
 ·decide
 ·split <;> decide
def wz (v : Int) (s : Nat) (r : Zb) : Int := sgB (!(decide (v < 0) == r.Zgv)) (tmN (v.natAbs * (val r).natAbs) (s + r.Zp.toNat))
theorem tmR_eq {v : Int} {s : Nat} {r : Zb} (hv : Sm v) (hs : s ≤ 9) (hr : dOk r = true) : tmR (DV v s) r = mkD (wz v s r) 2 := by
 unfold tmR wz
 rw [if_pos ⟨Zwm hv hs, hr⟩, Zkl]
 rfl
def trZ (s : Nat) (by_ : Nat → Zb) : List (KZ × Int) → Int → Option (List (KZ × Int) × Int)
 | [], S => some ([], S)
 | x :: r, S => if Sm (wz x.2 s (by_ (kdZ x.1.1))) ∧ Sm (S + wz x.2 s (by_ (kdZ x.1.1))) then (trZ s by_ r (S + wz x.2 s (by_ (kdZ x.1.1)))).map fun q => ((x.1, wz x.2 s (by_ (kdZ x.1.1))) :: q.1, q.2) else none
theorem Yiq {s : Nat} {by_ : Nat → Zb} : ∀ {z : List (KZ × Int)} {S : Int} {q : List (KZ × Int) × Int}, Sm S → trZ s by_ z S = some q → q.1.map (·.1) = z.map (·.1) ∧ SmL q.1 ∧ Sm q.2
 | [], S, q, hS, h => by
  cases h
  exact ⟨rfl, fun p hp => (List.not_mem_nil hp).elim, hS⟩
 | x :: r, S, q, hS, h => by
  unfold trZ at h
  split at h
  ·rename_i hc
   obtain ⟨q', h1, h2⟩ := Option.map_eq_some_iff.1 h
   subst h2
   obtain ⟨g1, g2, g3⟩ := Yiq hc.2 h1
   refine ⟨by rw [List.map_cons, List.map_cons, g1], fun p hp => ?_, g3⟩
   rcases List.mem_cons.1 hp with rfl | hp
   ·exact hc.1
   ·exact g2 p hp
  ·cases h
theorem ris_keys {a b : List (KZ × Int)} (h : a.map (·.1) = b.map (·.1)) (hb : Ris b) : Ris a := by
 unfold Ris at hb ⊢
 have h1 : (b.map (·.1)).Pairwise fun x y => ltZ x y = true := by rw [List.pairwise_map]; exact hb
 rw [← h, List.pairwise_map] at h1
 exact h1
def By3 (l : List Zb) : Prop := l.length = 3 ∧ ∀ i, i < 3 → W2 (l.getD i Zb.zero).f_C ∧ dOk (l.getD i Zb.zero) = true
theorem sgn_ne (v : Int) : (sgn v != 0) = !decide (v = 0) := by
 rw [bne, Yak]
theorem tr_step {k : Nat} (hk : 1002 < k) {s : Nat} (hs : s ≤ 4) {M : List (KZ × Zb)} {z : List (KZ × Int)} (hM : MZ s M z) {l : List Zb} (hl : By3 l) {i : Nat} (hi : i < z.length) (hz : z.length ≤ 1000) (d : Zb) (N : List (KZ × Zb)) {S : Int} (hS : Sm S) (T : List (Zz × Zb)) :
  Zcg.l6.once k (z.map (·.1), (z.length : Int), (i : Int), M, d.Zgv, d.f_C.1, d.f_C.2, d.Zp, l, N, (DV S 2).Zgv, (DV S 2).f_C.1, (DV S 2).f_C.2, (DV S 2).Zp, T) =
   some (if Sm (wz (z.getD i ((0, 0), 0)).2 s (l.getD (kdZ (z.getD i ((0, 0), 0)).1.1) Zb.zero)) ∧ Sm (S + wz (z.getD i ((0, 0), 0)).2 s (l.getD (kdZ (z.getD i ((0, 0), 0)).1.1) Zb.zero)) then
    .inl (z.map (·.1), (z.length : Int), ((i + 1 : Nat) : Int), M, d.Zgv, d.f_C.1, d.f_C.2, d.Zp, l, (if wz (z.getD i ((0, 0), 0)).2 s (l.getD (kdZ (z.getD i ((0, 0), 0)).1.1) Zb.zero) = 0 then N else Zkp (Zcb (z.getD i ((0, 0), 0)).1) (z.getD i ((0, 0), 0)).1 (DV (wz (z.getD i ((0, 0), 0)).2 s (l.getD (kdZ (z.getD i ((0, 0), 0)).1.1) Zb.zero)) 2) N),
     (DV (S + wz (z.getD i ((0, 0), 0)).2 s (l.getD (kdZ (z.getD i ((0, 0), 0)).1.1) Zb.zero)) 2).Zgv, (DV (S + wz (z.getD i ((0, 0), 0)).2 s (l.getD (kdZ (z.getD i ((0, 0), 0)).1.1) Zb.zero)) 2).f_C.1, (DV (S + wz (z.getD i ((0, 0), 0)).2 s (l.getD (kdZ (z.getD i ((0, 0), 0)).1.1) Zb.zero)) 2).f_C.2, (DV (S + wz (z.getD i ((0, 0), 0)).2 s (l.getD (kdZ (z.getD i ((0, 0), 0)).1.1) Zb.zero)) 2).Zp, T)
   else .inr (.inr ([], ⟨false, (0, 0), 0⟩, 3, M, ⟨T⟩))) := by
 have hx := getD_memZ hi
 have hg := hM.get (z.getD i ((0, 0), 0)).1
 rw [Ysk hM.ris _ hx] at hg
 have hsx := hM.sm _ hx
 have hwr := Zhe (show -9223372036854775808 ≤ (i : Int) + 1 ∧ (i : Int) + 1 < 9223372036854775808 by omega)
 have hgd := getD_map (fun p : KZ × Int => p.1) ((0, 0), 0) (0, 0) hi
 unfold Zcg.l6.once
 dsimp only
 rw [ct (show (i : Int) < (z.length : Int) by omega), Zhh (by omega) (by rw [List.length_map]; omega), cond_true, Int.toNat_natCast]
 simp only [hgd, hwr]
 generalize z.getD i ((0, 0), 0) = x at hg hsx ⊢
 have hg' : Zib (Zcb (x.1.1, x.1.2)) M = some (DV x.2 s) := hg
 have hk3 := kdZ_lt x.1.1
 obtain ⟨r1, r2⟩ := hl.2 _ hk3
 rw [hg', Z0, Z0]
 refine bof (TKind_eq k x.1.1) ?_
 rw [Zhh (by omega) (by omega), cond_true, Int.toNat_natCast, Zix hk3, cond_true]
 generalize l.getD (kdZ x.1.1) Zb.zero = r at r1 r2 ⊢
 have hT : Zee.f k (⟨(DV x.2 s).Zgv, ((DV x.2 s).f_C.1, (DV x.2 s).f_C.2), (DV x.2 s).Zp⟩ : Zb) (⟨r.Zgv, (r.f_C.1, r.f_C.2), r.Zp⟩ : Zb) 2 4 = some (mkD (wz x.2 s r) 2) := by
  rw [← tmR_eq hsx (by omega) r2]
  exact Ymw (by omega) (Zjw hsx) r1
 refine bof hT ?_
 by_cases h1 : Sm (wz x.2 s r)
 ·have m1 : mkD (wz x.2 s r) 2 = (DV (wz x.2 s r) 2, 0) := if_pos h1
  rw [m1]
  dsimp only
  rw [show ((0 : Int) != 0) = false from rfl, cond_false]
  refine bof (v := mkD (S + wz x.2 s r) 2) (Yyi (by omega) hS h1 (by decide)) ?_
  by_cases h2 : Sm (S + wz x.2 s r)
  ·have m2 : mkD (S + wz x.2 s r) 2 = (DV (S + wz x.2 s r) 2, 0) := if_pos h2
   rw [m2, if_pos ⟨h1, h2⟩]
   dsimp only
   rw [show ((0 : Int) != 0) = false from rfl, cond_false]
   refine bof (v := sgn (wz x.2 s r)) (Znu (by omega) h1 (by decide)) ?_
   rw [sgn_ne]
   by_cases h0 : wz x.2 s r = 0
   ·rw [decide_eq_true h0, if_pos h0]
    rfl
   ·rw [decide_eq_false h0, if_neg h0]
    rfl
  ·have m2 : mkD (S + wz x.2 s r) 2 = (nil0, 3) := if_neg h2
   rw [m2, if_neg (fun h => h2 h.2)]
   rfl
 ·have m1 : mkD (wz x.2 s r) 2 = (nil0, 3) := if_neg h1
  rw [m1, if_neg (fun h => h1 h.1)]
  rfl
theorem tr_loop {k : Nat} (hk : 1002 < k) {s : Nat} (hs : s ≤ 4) {M : List (KZ × Zb)} {z : List (KZ × Int)} (hM : MZ s M z) {l : List Zb} (hl : By3 l) (hz : z.length ≤ 1000) (d : Zb) (T : List (Zz × Zb)) : ∀ (m i : Nat) (w : List (KZ × Int)) (S : Int), Sm S → i ≤ z.length → w.map (·.1) = (z.take i).map (·.1) → z.length - i < m →
  iter (Zcg.l6.once k) m (z.map (·.1), (z.length : Int), (i : Int), M, d.Zgv, d.f_C.1, d.f_C.2, d.Zp, l, (Zjt w).map (mkz 2), (DV S 2).Zgv, (DV S 2).f_C.1, (DV S 2).f_C.2, (DV S 2).Zp, T) = some (match trZ s (fun j => l.getD j Zb.zero) (z.drop i) S with
   | some q => .inl (d.Zgv, d.f_C.1, d.f_C.2, d.Zp, (Zjt (w ++ q.1)).map (mkz 2), (DV q.2 2).Zgv, (DV q.2 2).f_C.1, (DV q.2 2).f_C.2, (DV q.2 2).Zp, M, T)
   | none => .inr ([], ⟨false, (0, 0), 0⟩, 3, M, ⟨T⟩)) := by
 intro m
 induction m with
 | zero => intro i w S _ _ _ h; omega
 | succ m ih =>
  intro i w S hS hi hw hm
  by_cases hc : i < z.length
  ·have st := tr_step hk hs hM hl hc hz d ((Zjt w).map (mkz 2)) hS T
   have hnew : ∀ p ∈ w, p.1 ≠ (z.getD i ((0, 0), 0)).1 := fun p hp e => by
    have h1 : p.1 ∈ (z.take i).map (·.1) := by rw [← hw]; exact List.mem_map.2 ⟨p, hp, rfl⟩
    obtain ⟨q, hq, hqe⟩ := List.mem_map.1 h1
    have h2 := hM.ris
    unfold Ris at h2
    rw [← List.take_append_drop i z, List.pairwise_append] at h2
    have h3 := h2.2.2 q hq (z.getD i ((0, 0), 0)) (by rw [Zgf ((0, 0), 0) hc]; exact List.mem_cons_self)
    exact Ybh h3 (hqe.trans e)
   have htk : (z.take (i + 1)).map (·.1) = (z.take i).map (·.1) ++ [(z.getD i ((0, 0), 0)).1] := by
    rw [List.take_add_one, List.getElem?_eq_getElem hc, List.map_append, List.getD_eq_getElem?_getD, List.getElem?_eq_getElem hc]
    rfl
   rw [Zgf ((0, 0), 0) hc]
   unfold trZ
   generalize z.getD i ((0, 0), 0) = x at st hnew htk ⊢
   generalize wz x.2 s (l.getD (kdZ x.1.1) Zb.zero) = v at st ⊢
   by_cases h : Sm v ∧ Sm (S + v)
   ·rw [if_pos h] at st ⊢
    have hput : (if v = 0 then (Zjt w).map (mkz 2) else Zkp (Zcb x.1) x.1 (DV v 2) ((Zjt w).map (mkz 2))) = (Zjt (w ++ [(x.1, v)])).map (mkz 2) := by
     unfold Zjt
     rw [List.filter_append]
     by_cases h0 : v = 0
     ·rw [if_pos h0, h0]
      simp
     ·rw [if_neg h0, Yru fun p hp => by
       obtain ⟨q, hq, rfl⟩ := List.mem_map.1 hp
       exact hnew q (List.mem_filter.1 hq).1]
      simp [h0, mkz]
    rw [hput] at st
    rw [Zca st, ih (i + 1) (w ++ [(x.1, v)]) (S + v) h.2 (by omega) (by rw [List.map_append, hw, htk]; rfl) (by omega)]
    cases trZ s (fun j => l.getD j Zb.zero) (z.drop (i + 1)) (S + v) with
    | none => rfl
    | some q =>
     show some (Sum.inl (_, _, _, _, (Zjt (w ++ [(x.1, v)] ++ q.1)).map (mkz 2), _)) = some (Sum.inl (_, _, _, _, (Zjt (w ++ (x.1, v) :: q.1)).map (mkz 2), _))
     rw [List.append_assoc]
     rfl
   ·rw [if_neg h] at st ⊢
    exact Zbh st
  ·rw [List.drop_eq_nil_of_le (by omega)]
   refine Zbh ?_
   unfold Zcg.l6.once trZ
   dsimp only
   rw [cf (by omega), List.append_nil]
end Go.Proofs.YtbchcjlllddlpaaGreat.Pure
namespace Go.Proofs.YtbchcjlllddlpaaGreat.Pure
set_option linter.unusedVariables false
set_option linter.unusedSimpArgs false
open Go Go.Ev Go.Lm Go.Pu Go.Dg
def RT (T : List (Zz × Zb)) : Prop := ∀ p ∈ T, W2 p.2.f_C ∧ dOk p.2 = true
theorem Yvs {q : Zz} {d : Zb} : ∀ {T : List (Zz × Zb)}, Zib (Zav q) T = some d → ∃ p ∈ T, p.2 = d
 | [], h => by cases h
 | x :: r, h => by
  unfold Zib at h
  cases hk : Zav q x.1 with
  | true =>
   rw [hk] at h
   cases h
   exact ⟨x, List.mem_cons_self, rfl⟩
  | false =>
   rw [hk] at h
   obtain ⟨p, hp, e⟩ := Yvs h
   exact ⟨p, List.mem_cons_of_mem _ hp, e⟩
theorem RT.get {T : List (Zz × Zb)} (h : RT T) {q : Zz} {d : Zb} (hq : Zib (Zav q) T = some d) : W2 d.f_C ∧ dOk d = true := by
 obtain ⟨p, hp, rfl⟩ := Yvs hq
 exact h p hp
noncomputable def rt3 (T : List (Zz × Zb)) (p : Int) : Option (Zb × Zb × Zb) := match Zib (Zav ⟨p, 0⟩) T, Zib (Zav ⟨p, 1⟩) T, Zib (Zav ⟨p, 2⟩) T with
 | some a, some b, some c => some (a, b, c)
 | _, _, _ => none
theorem Yrd (k : Nat) (T : List (Zz × Zb)) (p : Int) {i : Nat} (hi : i < 3) (x3 x4 : List Zb) :
  match Zib (Zav ⟨p, (i : Int)⟩) T with
  | some d => Zbg.l3.once k (p, (i : Int), T, x3, x4) = some (.inl (p, ((i + 1 : Nat) : Int), T, x3, x4.set i d))
  | none => ∃ g, Zbg.l3.once k (p, (i : Int), T, x3, x4) = some (.inr (.inr (g, 11, ⟨T⟩))) := by
 have hwr := Zhe (show -9223372036854775808 ≤ (i : Int) + 1 ∧ (i : Int) + 1 < 9223372036854775808 by omega)
 have hg := Get_eq k T ⟨p, (i : Int)⟩
 unfold Zbg.l3.once
 dsimp only
 rw [ct (show (i : Int) < 3 by omega), hg, Z0, Zhh (by omega) (by omega), cond_true, Int.toNat_natCast, Zix hi, cond_true, hwr]
 cases Zib (Zav ⟨p, (i : Int)⟩) T with
 | some d => rfl
 | none => exact ⟨_, rfl⟩
theorem TRates_eq {k : Nat} (hk : 10 < k) (T : List (Zz × Zb)) (p : Int) : ∃ g, Zbg.f k ⟨T⟩ p = some (match rt3 T p with
  | some d => (d, 0, ⟨T⟩)
  | none => (g, 11, ⟨T⟩)) := by
 obtain ⟨j, rfl⟩ : ∃ j, k = j + 5 := ⟨k - 5, by omega⟩
 have s0 := Yrd (j + 5) T p (i := 0) (by decide) [⟨false, (0, 0), 0⟩, ⟨false, (0, 0), 0⟩, ⟨false, (0, 0), 0⟩] [⟨false, (0, 0), 0⟩, ⟨false, (0, 0), 0⟩, ⟨false, (0, 0), 0⟩]
 have fin : ∀ (a b c : Zb), Zbg.l3.once (j + 5) (p, 3, T, [⟨false, (0, 0), 0⟩, ⟨false, (0, 0), 0⟩, ⟨false, (0, 0), 0⟩], [a, b, c]) = some (.inr (.inl ([⟨false, (0, 0), 0⟩, ⟨false, (0, 0), 0⟩, ⟨false, (0, 0), 0⟩], [a, b, c], T))) := fun _ _ _ => rfl
 unfold Zbg.f rt3
 cases h0 : Zib (Zav ⟨p, 0⟩) T with
 | none =>
  rw [show ((0 : Nat) : Int) = 0 from rfl, h0] at s0
  obtain ⟨g, s0⟩ := s0
  refine ⟨(⟨g.1.Zgv, (g.1.f_C.1, g.1.f_C.2), g.1.Zp⟩, ⟨g.2.1.Zgv, (g.2.1.f_C.1, g.2.1.f_C.2), g.2.1.Zp⟩, ⟨g.2.2.Zgv, (g.2.2.f_C.1, g.2.2.f_C.2), g.2.2.Zp⟩), ?_⟩
  exact bof (Zbh (n := j + 4) s0) rfl
 | some a =>
  rw [show ((0 : Nat) : Int) = 0 from rfl, h0] at s0
  have s1 := Yrd (j + 5) T p (i := 1) (by decide) [⟨false, (0, 0), 0⟩, ⟨false, (0, 0), 0⟩, ⟨false, (0, 0), 0⟩] [a, ⟨false, (0, 0), 0⟩, ⟨false, (0, 0), 0⟩]
  cases h1 : Zib (Zav ⟨p, 1⟩) T with
  | none =>
   rw [show ((1 : Nat) : Int) = 1 from rfl, h1] at s1
   obtain ⟨g, s1⟩ := s1
   refine ⟨(⟨g.1.Zgv, (g.1.f_C.1, g.1.f_C.2), g.1.Zp⟩, ⟨g.2.1.Zgv, (g.2.1.f_C.1, g.2.1.f_C.2), g.2.1.Zp⟩, ⟨g.2.2.Zgv, (g.2.2.f_C.1, g.2.2.f_C.2), g.2.2.Zp⟩), ?_⟩
   exact bof ((Zca (n := j + 4) s0).trans (Zbh (n := j + 3) s1)) rfl
  | some b =>
   rw [show ((1 : Nat) : Int) = 1 from rfl, h1] at s1
   have s2 := Yrd (j + 5) T p (i := 2) (by decide) [⟨false, (0, 0), 0⟩, ⟨false, (0, 0), 0⟩, ⟨false, (0, 0), 0⟩] [a, b, ⟨false, (0, 0), 0⟩]
   cases h2 : Zib (Zav ⟨p, 2⟩) T with
   | none =>
    rw [show ((2 : Nat) : Int) = 2 from rfl, h2] at s2
    obtain ⟨g, s2⟩ := s2
    refine ⟨(⟨g.1.Zgv, (g.1.f_C.1, g.1.f_C.2), g.1.Zp⟩, ⟨g.2.1.Zgv, (g.2.1.f_C.1, g.2.1.f_C.2), g.2.1.Zp⟩, ⟨g.2.2.Zgv, (g.2.2.f_C.1, g.2.2.f_C.2), g.2.2.Zp⟩), ?_⟩
    exact bof ((Zca (n := j + 4) s0).trans ((Zca (n := j + 3) s1).trans (Zbh (n := j + 2) s2))) rfl
   | some c =>
    rw [show ((2 : Nat) : Int) = 2 from rfl, h2] at s2
    refine ⟨(a, b, c), ?_⟩
    exact bof ((Zca (n := j + 4) s0).trans ((Zca (n := j + 3) s1).trans ((Zca (n := j + 2) s2).trans (Zbh (n := j + 1) (fin a b c))))) rfl
theorem rt3_by {T : List (Zz × Zb)} (h : RT T) {p : Int} {d : Zb × Zb × Zb} (hd : rt3 T p = some d) : By3 [d.1, d.2.1, d.2.2] ∧ ∀ i : Nat, i < 3 → Zib (Zav ⟨p, (i : Int)⟩) T = some ([d.1, d.2.1, d.2.2].getD i Zb.zero) := by
 unfold rt3 at hd
 split at hd
 ·rename_i a b c ha hb hc
  cases hd
  have g : ∀ i : Nat, i < 3 → Zib (Zav ⟨p, (i : Int)⟩) T = some ([a, b, c].getD i Zb.zero) := fun i hi => by
   rcases i with _ | _ | _ | i
   ·exact ha
   ·exact hb
   ·exact hc
   ·omega
  exact ⟨⟨rfl, fun i hi => h.get (g i hi)⟩, g⟩
 ·cases hd
theorem Trans_eq {k : Nat} (hk : 1002 < k) {s : Nat} (hs : s ≤ 4) {M : List (KZ × Zb)} {z : List (KZ × Int)} (hM : MZ s M z) (hz : z.length ≤ 1000) {T : List (Zz × Zb)} (hT : RT T) (p : Int) :
  Zcg.f k M ⟨T⟩ p = some (match rt3 T p with
   | some d => (match trZ s (fun j => [d.1, d.2.1, d.2.2].getD j Zb.zero) z 0 with
    | some q => ((Zjt q.1).map (mkz 2), DV (-q.2) 2, 0, M, ⟨T⟩)
    | none => ([], ⟨false, (0, 0), 0⟩, 3, M, ⟨T⟩))
   | none => ([], ⟨false, (0, 0), 0⟩, 11, M, ⟨T⟩)) := by
 obtain ⟨g, hr⟩ := TRates_eq (k := k) (by omega) T p
 unfold Zcg.f
 refine bof hr ?_
 cases hd : rt3 T p with
 | none => rfl
 | some d =>
  obtain ⟨hby, _⟩ := rt3_by hT hd
  dsimp only
  rw [show ((0 : Int) != 0) = false from rfl, cond_false]
  have ho : Zgk.f k 0 2 = some (DV 0 2) := Of_DV k (n := 0) (by omega) 2
  refine bof ho (bof (Keys2_eq hM hz) ?_)
  have it := tr_loop hk hs hM hby hz ⟨false, (0, 0), 0⟩ T k 0 [] 0 Sm0 (Nat.zero_le _) rfl (by omega)
  rw [List.drop_zero] at it
  dsimp only
  rw [List.length_map]
  refine bof it ?_
  cases hq : trZ s (fun j => [d.1, d.2.1, d.2.2].getD j Zb.zero) z 0 with
  | none => rfl
  | some q =>
   dsimp only
   obtain ⟨_, _, h3⟩ := Yiq Sm0 hq
   exact bof (v := DV (-q.2) 2) (Neg_DV (k := k) (by omega) h3 (by decide)) rfl
end Go.Proofs.YtbchcjlllddlpaaGreat.Pure
namespace Go.Proofs.YtbchcjlllddlpaaGreat.Pure
set_option linter.unusedVariables false
set_option linter.unusedSimpArgs false
open Go Go.Ev Go.Lm Go.Pu Go.Dg
def Zqs (P : KZ → Bool) : List (KZ × Int) → Int
 | [] => 0
 | x :: r => (if P x.1 = true then x.2 else 0) + Zqs P r
structure BZ (n : Nat) (z : List (KZ × Int)) : Prop where
 h : ∀ q ∈ z, q.2.natAbs ≤ n * 100000000
theorem Sm_of {v : Int} {n : Nat} (hn : n ≤ 100000) (h : v.natAbs ≤ n * 100000000) : Sm v := by
 unfold Sm
 have : n * 100000000 ≤ 100000 * 100000000 := Nat.mul_le_mul_right _ hn
 omega
theorem putZ_ok {k : KZ} {v : Int} (hv : v.natAbs ≤ 100000000) {n : Nat} (hn : n + 1 ≤ 100000) (z : List (KZ × Int)) (h : BZ n z) : ∃ z', Zuq k v z = some z' ∧ BZ (n + 1) z' := by
 induction z with
 | nil =>
  refine ⟨[(k, v)], by unfold Zuq; rfl, ⟨fun q hq => ?_⟩⟩
  rw [List.mem_singleton.1 hq]
  dsimp only
  omega
 | cons x r ih =>
  have hx := h.h x List.mem_cons_self
  have up : ∀ q ∈ x :: r, q.2.natAbs ≤ (n + 1) * 100000000 := fun q hq => Nat.le_trans (h.h q hq) (Nat.mul_le_mul_right _ (Nat.le_succ n))
  unfold Zuq
  by_cases e : x.1 = k
  ·have hS : (x.2 + v).natAbs ≤ (n + 1) * 100000000 := by omega
   rw [if_pos e, if_pos (Sm_of hn hS)]
   refine ⟨_, rfl, ⟨fun q hq => ?_⟩⟩
   rcases List.mem_cons.1 hq with rfl | hq
   ·exact hS
   ·exact up q (List.mem_cons_of_mem _ hq)
  ·rw [if_neg e]
   by_cases hl : ltZ k x.1 = true
   ·rw [if_pos hl]
    refine ⟨_, rfl, ⟨fun q hq => ?_⟩⟩
    rcases List.mem_cons.1 hq with rfl | hq
    ·dsimp only
     omega
    ·exact up q hq
   ·rw [if_neg hl]
    obtain ⟨z', h1, h2⟩ := ih ⟨fun q hq => h.h q (List.mem_cons_of_mem _ hq)⟩
    rw [h1]
    refine ⟨_, rfl, ⟨fun q hq => ?_⟩⟩
    rcases List.mem_cons.1 hq with rfl | hq
    ·exact up _ List.mem_cons_self
    ·exact h2.h q hq
theorem Yoo {P : KZ → Bool} {k : KZ} {v : Int} : ∀ {z z' : List (KZ × Int)}, Zuq k v z = some z' → Zqs P z' = Zqs P z + (if P k = true then v else 0)
 | [], z', h => by
  cases h
  show (if P k = true then v else 0) + 0 = 0 + _
  omega
 | x :: r, z', h => by
  unfold Zuq at h
  by_cases e : x.1 = k
  ·rw [if_pos e] at h
   split at h
   ·cases h
    unfold Zqs
    dsimp only
    rw [e]
    split <;> omega
   ·cases h
  ·rw [if_neg e] at h
   by_cases hl : ltZ k x.1 = true
   ·rw [if_pos hl] at h
    cases h
    show (if P k = true then v else 0) + Zqs P (x :: r) = _
    omega
   ·rw [if_neg hl] at h
    obtain ⟨z1, h1, h2⟩ := Option.map_eq_some_iff.1 h
    subst h2
    have := Yoo (P := P) h1
    unfold Zqs
    omega
def totL (P : KZ → Bool) (o : Bool) : List Zc → Int
 | [] => 0
 | x :: r => (if P (kzL o x) = true then val x.Zu else 0) + totL P o r
def totE (P : KZ → Bool) (p : Int) (t : Ze) : List Zd → Int
 | [] => 0
 | x :: r => (if x.Zbj > p then 0 else totL P (opn t x.Zbj) x.Zby) + totE P p t r
theorem Ygt {P : KZ → Bool} {o : Bool} : ∀ {ls : List Zc} {z z' : List (KZ × Int)}, Zpv o ls z = some z' → Zqs P z' = Zqs P z + totL P o ls
 | [], z, z', h => by cases h; exact (Int.add_zero _).symm
 | x :: r, z, z', h => by
  unfold Zpv at h
  obtain ⟨z1, h1, h2⟩ := Option.bind_eq_some_iff.1 h
  have e1 := Yoo (P := P) h1
  have e2 := Ygt (P := P) h2
  unfold totL
  omega
theorem Yfn {P : KZ → Bool} {p : Int} {t : Ze} : ∀ {es : List Zd} {z z' : List (KZ × Int)}, Ych p t es z = some z' → Zqs P z' = Zqs P z + totE P p t es
 | [], z, z', h => by cases h; exact (Int.add_zero _).symm
 | x :: r, z, z', h => by
  unfold Ych at h
  unfold totE
  split at h
  ·rename_i hp
   have := Yfn (P := P) h
   rw [if_pos hp]
   omega
  ·rename_i hp
   obtain ⟨z1, h1, h2⟩ := Option.bind_eq_some_iff.1 h
   have e1 := Ygt (P := P) h1
   have e2 := Yfn (P := P) h2
   rw [if_neg hp]
   omega
def LB (x : Zc) : Prop := (val x.Zu).natAbs ≤ 100000000
theorem Ypc {o : Bool} : ∀ {ls : List Zc} {n : Nat} {z : List (KZ × Int)}, (∀ x ∈ ls, LB x) → n + ls.length ≤ 100000 → BZ n z → ∃ z', Zpv o ls z = some z' ∧ BZ (n + ls.length) z'
 | [], n, z, _, _, h => ⟨z, rfl, h⟩
 | x :: r, n, z, hl, hn, h => by
  rw [List.length_cons] at hn ⊢
  obtain ⟨z1, h1, h2⟩ := putZ_ok (k := kzL o x) (hl x List.mem_cons_self) (n := n) (by omega) z h
  obtain ⟨z2, h3, h4⟩ := Ypc (o := o) (fun y hy => hl y (List.mem_cons_of_mem _ hy)) (by omega) h2
  refine ⟨z2, ?_, by rw [show n + (r.length + 1) = n + 1 + r.length by omega]; exact h4⟩
  unfold Zpv
  rw [h1, Z0, h3]
theorem BZ.up {n m : Nat} {z : List (KZ × Int)} (h : BZ n z) (hn : n ≤ m) : BZ m z := ⟨fun q hq => Nat.le_trans (h.h q hq) (Nat.mul_le_mul_right _ hn)⟩
theorem Yst {p : Int} {t : Ze} : ∀ {es : List Zd} {n : Nat} {z : List (KZ × Int)}, (∀ x ∈ es, x.Zby.length ≤ 8 ∧ ∀ y ∈ x.Zby, LB y) → n + 8 * es.length ≤ 100000 → BZ n z → ∃ z', Ych p t es z = some z' ∧ BZ (n + 8 * es.length) z'
 | [], n, z, _, _, h => ⟨z, rfl, h⟩
 | x :: r, n, z, hl, hn, h => by
  rw [List.length_cons] at hn ⊢
  have hx := hl x List.mem_cons_self
  unfold Ych
  split
  ·obtain ⟨z2, h3, h4⟩ := Yst (p := p) (t := t) (fun y hy => hl y (List.mem_cons_of_mem _ hy)) (by omega) h
   exact ⟨z2, h3, h4.up (by omega)⟩
  ·obtain ⟨z1, h1, h2⟩ := Ypc (o := opn t x.Zbj) hx.2 (n := n) (by omega) h
   obtain ⟨z2, h3, h4⟩ := Yst (p := p) (t := t) (fun y hy => hl y (List.mem_cons_of_mem _ hy)) (n := n + x.Zby.length) (by omega) h2
   refine ⟨z2, ?_, h4.up (by omega)⟩
   rw [h1, Z0, h3]
theorem Yok (P : KZ → Bool) : ∀ z : List (KZ × Int), Zqs P (Zjt z) = Zqs P z
 | [] => rfl
 | x :: r => by
  have ih := Yok P r
  unfold Zjt at ih ⊢
  by_cases h : x.2 = 0
  ·rw [List.filter_cons_of_neg (by simp [h]), ih]
   show _ = (if P x.1 = true then x.2 else 0) + Zqs P r
   rw [h]
   split <;> exact (Int.zero_add _).symm
  ·rw [List.filter_cons_of_pos (by simpa using h)]
   unfold Zqs
   rw [ih]
theorem BZ.some {n : Nat} {z : List (KZ × Int)} (h : BZ n z) : BZ n (Zjt z) := ⟨fun q hq => h.h q (List.mem_filter.1 hq).1⟩
end Go.Proofs.YtbchcjlllddlpaaGreat.Pure
namespace Go.Proofs.YtbchcjlllddlpaaGreat.Pure
set_option linter.unusedVariables false
set_option linter.unusedSimpArgs false
open Go Go.Ev Go.Lm Go.Pu Go.Dg
theorem Yze {k : Nat} (hk : 1002 < k) {s : Nat} (hs : s ≤ 4) {L : List Int} (hL : L.length ≤ 9223372036854775807) : ∀ x ∈ Zox k s L, LB x := by
 obtain ⟨y, hy, y1, y2, y3⟩ := Ymz (k := k) (by omega) L hL (by omega : s ≤ 9) (b := 0) (by decide) (e := 4) (by decide)
 have : Zox k s L = y := by unfold Zox; rw [hy]; rfl
 rw [this]
 intro x hx
 obtain ⟨v, v1, v2, _⟩ := (y3 rfl).2.2.2 x hx
 unfold LB
 rw [v1, Zkl]
 exact v2
def BInv (b : Zg) : Prop := ∀ x ∈ b.f_l, ∀ y ∈ x.Zby, LB y
theorem BInv.add {b : Zg} (h : BInv b) {x : Zd} (hx : ∀ y ∈ x.Zby, LB y) : BInv (Znj b x).2.2 := by
 unfold Znj
 split
 ·split
  ·exact h
  ·intro y hy
   rcases List.mem_append.1 hy with hy | hy
   ·exact h y hy
   ·have : y = x := by simpa using hy
    rw [this]
    exact hx
 ·exact h
theorem BInv.post {s : Nat} {b : Zg} (h : BInv b) (p : Int) {l : List Zc} (hl : ∀ y ∈ l, LB y) : BInv (Zqm s b p l).2.2 := by
 unfold Zqm
 split
 ·exact h.add hl
 ·exact h
theorem BInv.step {k : Nat} (hk : 1002 < k) {s : Nat} (hs : s ≤ 4) {b : Zg} (h : BInv b) {x : Zq} (hx : Yhz x) : BInv (Zjk k s b x) := by
 have turn : ∀ c, BInv (Zjs b c).2 := fun c => by
  unfold Zjs
  dsimp only
  cases c.2.2 == 0 <;> exact h
 unfold Zjk
 cases pick x.Zeo 8 == 0 with
 | true => exact turn _
 | false =>
  rw [cond_false]
  cases pick x.Zeo 8 == 1 with
  | true =>
   rw [cond_true]
   unfold Yar
   split
   ·exact h
   ·rename_i h0
    split
    ·exact h
    ·refine h.add fun y hy => ?_
     obtain ⟨z, hz, rfl⟩ := List.mem_map.1 hy
     have := h _ (Zfq Zd.zero (by omega)) z hz
     unfold LB at this ⊢
     show (val (DV (-(val z.Zu)) s)).natAbs ≤ _
     rw [Zkl, Int.natAbs_neg]
     exact this
  | false =>
   rw [cond_false]
   cases pick x.Zeo 8 == 2 with
   | true => exact turn _
   | false => exact h.post _ (Yze hk hs hx)
theorem bkN_B {k : Nat} (hk : 1002 < k) {s : Nat} (hs : s ≤ 4) {l : List Zq} (hw : ∀ z ∈ l, Yhz z) : BInv (bkN k s l) := by
 have : ∀ i, i ≤ l.length → BInv (bkR k s l i) := by
  intro i
  induction i with
  | zero => exact fun _ x hx => (List.not_mem_nil hx).elim
  | succ i ih => exact fun hi => (ih (by omega)).step hk hs (hw _ (Zvz (by omega)))
 exact this _ (Nat.min_le_left _ _)
theorem Ypo {C : List Bool} {n : Nat} (h : n < C.length) (v : Bool) (i : Nat) : (C.set n v).getD i false = if i = n then v else C.getD i false := by
 rw [List.getD_eq_getElem?_getD, List.getD_eq_getElem?_getD, List.getElem?_set]
 by_cases e : i = n
 ·rw [if_pos e, if_pos e.symm, if_pos h]; rfl
 ·rw [if_neg e, if_neg (fun h => e h.symm)]
def ClC (c : Nat) (C : List Bool) : Prop := C.length = 12 ∧ ∀ i : Nat, i < 12 → C.getD i false = decide (i < c)
def ClN (b : Zg) : Prop := ∃ c : Nat, c ≤ 3 ∧ ClC c b.f_t.Zm
theorem ClC.clo {c : Nat} {C : List Bool} (h : ClC c C) {p : Int} (hp : 0 ≤ p ∧ p < 12) (hc : Pe.cOk C p = true) : p.toNat = c := by
 unfold Pe.cOk at hc
 simp only [Bool.and_eq_true, decide_eq_true_eq, Bool.not_eq_true', Bool.or_eq_true, decide_eq_false_iff_not] at hc
 obtain ⟨_, _, h1, h2⟩ := hc
 rw [h.2 _ (by omega), decide_eq_false_iff_not] at h1
 rcases h2 with h2 | h2
 ·omega
 ·rw [h.2 _ (by omega), decide_eq_true_eq] at h2
  omega
theorem ClC.reo {c : Nat} {C : List Bool} (h : ClC c C) {p : Int} (hp : 0 ≤ p ∧ p < 11) (hc : Pe.rOk C p = true) : p.toNat + 1 = c := by
 unfold Pe.rOk at hc
 simp only [Bool.and_eq_true, decide_eq_true_eq, Bool.not_eq_true', Bool.or_eq_true, decide_eq_false_iff_not] at hc
 obtain ⟨_, _, h1, h2⟩ := hc
 rw [h.2 _ (by omega), decide_eq_true_eq] at h1
 rcases h2 with h2 | h2
 ·omega
 ·rw [h.2 _ (by omega), decide_eq_false_iff_not] at h2
  omega
theorem ClC.up {c : Nat} {C : List Bool} (h : ClC c C) (hc : c < 12) : ClC (c + 1) (C.set c true) := by
 refine ⟨by rw [List.length_set]; exact h.1, fun i hi => ?_⟩
 rw [Ypo (by rw [h.1]; exact hc), h.2 i hi]
 by_cases e : i = c
 ·rw [if_pos e, decide_eq_true (by omega)]
 ·rw [if_neg e]
  exact decide_eq_decide.2 ⟨fun h => by omega, fun h => by omega⟩
theorem ClC.down {c : Nat} {C : List Bool} (h : ClC (c + 1) C) (hc : c < 12) : ClC c (C.set c false) := by
 refine ⟨by rw [List.length_set]; exact h.1, fun i hi => ?_⟩
 rw [Ypo (by rw [h.1]; exact hc), h.2 i hi]
 by_cases e : i = c
 ·rw [if_pos e, decide_eq_false (by omega)]
 ·rw [if_neg e]
  exact decide_eq_decide.2 ⟨fun h => by omega, fun h => by omega⟩
theorem ClN.step {k s : Nat} {b : Zg} (h : ClN b) (x : Zq) : ClN (Zjk k s b x) := by
 obtain ⟨c, hc, hC⟩ := h
 have add : ∀ y, ClN (Znj b y).2.2 := fun y => by
  unfold Znj
  split
  ·split
   ·exact ⟨c, hc, hC⟩
   ·exact ⟨c, hc, hC⟩
  ·exact ⟨c, hc, hC⟩
 have bp := Zgd x.f_B (m := 3) (by decide)
 unfold Zjk
 cases pick x.Zeo 8 == 0 with
 | true =>
  rw [cond_true]
  unfold Zjs Pe.clo
  by_cases h0 : Pe.cOk b.f_t.Zm (pick x.f_B 3) = true
  ·rw [if_pos h0]
   have e := hC.clo (by omega) h0
   refine ⟨c + 1, by omega, ?_⟩
   have := hC.up (by omega)
   rw [← e] at this ⊢
   exact this
  ·rw [if_neg h0]
   exact ⟨c, hc, hC⟩
 | false =>
  rw [cond_false]
  cases pick x.Zeo 8 == 1 with
  | true =>
   rw [cond_true]
   unfold Yar
   split
   ·exact ⟨c, hc, hC⟩
   ·split
    ·exact ⟨c, hc, hC⟩
    ·exact add _
  | false =>
   rw [cond_false]
   cases pick x.Zeo 8 == 2 with
   | true =>
    rw [cond_true]
    unfold Zjs Pe.reo
    by_cases h0 : Pe.rOk b.f_t.Zm (pick x.f_B 3) = true
    ·rw [if_pos h0]
     have e := hC.reo (by omega) h0
     refine ⟨(pick x.f_B 3).toNat, by omega, ?_⟩
     rw [← e] at hC
     exact hC.down (by omega)
    ·rw [if_neg h0]
     exact ⟨c, hc, hC⟩
   | false =>
    rw [cond_false]
    unfold Zqm
    split
    ·exact add _
    ·exact ⟨c, hc, hC⟩
theorem trial_ok {k : Nat} (hk : 1002 < k) {s : Nat} (hs : s ≤ 4) {b : Zg} (h : Zqk s b) (hB : BInv b) {p : Int} (hp : 0 ≤ p ∧ p < 12) :
  ∃ M z, Zaz.f k b p = some (M, 0, b) ∧ Ych p b.f_t b.f_l [] = some z ∧ MZ s M (Zjt z) ∧ Ris z ∧ (Zjt z).length ≤ 1000 ∧ BZ 320 (Zjt z) := by
 obtain ⟨M, e, h1, h2⟩ := Trial_eq hk hs h p
 have hl := h.len
 obtain ⟨z, h3, h4⟩ := Yst (p := p) (t := b.f_t) (es := b.f_l) (n := 0) (z := []) (fun x hx => ⟨(h.ls x hx).1, hB x hx⟩) (by omega) ⟨fun q hq => (List.not_mem_nil hq).elim⟩
 obtain ⟨g1, g2, g3⟩ := Ylp h.ls List.Pairwise.nil (fun p hp => (List.not_mem_nil hp).elim) h3
 have hso : (Zjt z).length ≤ z.length := List.length_filter_le _ _
 rw [if_neg (by omega), h3] at h2
 obtain ⟨rfl, h6⟩ := h2
 exact ⟨M, z, h1, h3, h6, g1, by simp at g3; omega, h4.some.up (by omega)⟩
end Go.Proofs.YtbchcjlllddlpaaGreat.Pure
namespace Go.Proofs.YtbchcjlllddlpaaGreat.Pure
set_option linter.unusedVariables false
set_option linter.unusedSimpArgs false
open Go Go.Ev Go.Lm Go.Pu Go.Dg
def Zzr : KZ → Bool := fun _ => true
def Ydx : List Zc → Int
 | [] => 0
 | x :: r => val x.Zu + Ydx r
theorem Yuw : ∀ (l : List Zc) (a S : Int), Zuh a l = some S → S = a + Ydx l
 | [], a, S, h => by cases h; exact (Int.add_zero _).symm
 | x :: r, a, S, h => by
  unfold Zuh at h
  split at h
  ·have := Yuw r _ _ h
   unfold Ydx
   omega
  ·cases h
theorem Yyz {s : Nat} {l : List Zc} (h : Zjx s l = 0) : Ydx l = 0 := by
 unfold Zjx at h
 split at h
 ·cases h
 ·split at h
  ·split at h
   ·cases h
   ·rename_i S hS
    have := Yuw _ _ _ hS
    split at h
    ·omega
    ·cases h
  ·cases h
theorem Yol (s : Nat) : ∀ l : List Zc, Ydx (l.map (turn s)) = -Ydx l
 | [] => rfl
 | x :: r => by
  rw [List.map_cons]
  unfold Ydx
  rw [Yol s r, show val (turn s x).Zu = -(val x.Zu) from Zkl _ _]
  omega
theorem Yty (o : Bool) : ∀ l : List Zc, totL Zzr o l = Ydx l
 | [] => rfl
 | x :: r => by
  unfold totL Ydx
  rw [Yty o r]
  rfl
def Yhy (b : Zg) : Prop := ∀ x ∈ b.f_l, Ydx x.Zby = 0
theorem Yhy.add {b : Zg} (h : Yhy b) {x : Zd} (hx : Ydx x.Zby = 0) : Yhy (Znj b x).2.2 := by
 unfold Znj
 split
 ·split
  ·exact h
  ·intro y hy
   rcases List.mem_append.1 hy with hy | hy
   ·exact h y hy
   ·have : y = x := by simpa using hy
    rw [this]
    exact hx
 ·exact h
theorem Yhy.rev {s : Nat} {b : Zg} (h : Yhy b) (n p : Int) : Yhy (Yar s b n p).2.2 := by
 unfold Yar
 split
 ·exact h
 ·rename_i h0
  split
  ·exact h
  ·refine h.add ?_
   show Ydx (List.map (turn s) _) = 0
   rw [Yol, h _ (Zfq Zd.zero (by omega))]
   rfl
theorem Yhy.step {k s : Nat} {b : Zg} (h : Yhy b) (x : Zq) : Yhy (Zjk k s b x) := by
 have turn : ∀ c, Yhy (Zjs b c).2 := fun c => by
  unfold Zjs
  dsimp only
  cases c.2.2 == 0 <;> exact h
 unfold Zjk
 cases pick x.Zeo 8 == 0 with
 | true => exact turn _
 | false =>
  rw [cond_false]
  cases pick x.Zeo 8 == 1 with
  | true =>
   rw [cond_true]
   exact h.rev _ _
  | false =>
   rw [cond_false]
   cases pick x.Zeo 8 == 2 with
   | true => exact turn _
   | false =>
    rw [cond_false]
    unfold Zqm
    split
    ·rename_i h0
     exact h.add (Yyz h0)
    ·exact h
theorem bkN_Z (k s : Nat) (l : List Zq) : Yhy (bkN k s l) := by
 unfold bkN
 generalize min l.length 14 = n
 induction n with
 | zero => exact fun x hx => (List.not_mem_nil hx).elim
 | succ n ih => exact ih.step _
theorem Ytz {p : Int} {t : Ze} : ∀ {es : List Zd}, (∀ x ∈ es, Ydx x.Zby = 0) → totE Zzr p t es = 0
 | [], _ => rfl
 | x :: r, h => by
  unfold totE
  rw [Ytz fun y hy => h y (List.mem_cons_of_mem _ hy), Yty, h x List.mem_cons_self]
  split <;> rfl
theorem Yyk {b : Zg} (h : Yhy b) {p : Int} {z : List (KZ × Int)} (hz : Ych p b.f_t b.f_l [] = some z) : Zqs Zzr (Zjt z) = 0 := by
 rw [Yok, Yfn hz, Ytz h]
 rfl
end Go.Proofs.YtbchcjlllddlpaaGreat.Pure
namespace Go.Proofs.YtbchcjlllddlpaaGreat.Pure
set_option linter.unusedVariables false
set_option linter.unusedSimpArgs false
open Go Go.Ev Go.Lm Go.Pu Go.Dg
theorem trZ_sum {s : Nat} {by_ : Nat → Zb} : ∀ {z : List (KZ × Int)} {S : Int} {q : List (KZ × Int) × Int}, trZ s by_ z S = some q → q.2 = S + Zqs Zzr q.1 ∧ q.1 = z.map fun x => (x.1, wz x.2 s (by_ (kdZ x.1.1)))
 | [], S, q, h => by cases h; exact ⟨(Int.add_zero _).symm, rfl⟩
 | x :: r, S, q, h => by
  unfold trZ at h
  split at h
  ·obtain ⟨q', h1, h2⟩ := Option.map_eq_some_iff.1 h
   subst h2
   obtain ⟨g1, g2⟩ := trZ_sum h1
   refine ⟨?_, by rw [List.map_cons, ← g2]⟩
   show q'.2 = S + ((if Zzr x.1 = true then wz x.2 s (by_ (kdZ x.1.1)) else 0) + Zqs Zzr q'.1)
   rw [if_pos (show Zzr x.1 = true from rfl)]
   omega
  ·cases h
theorem trZ_ok {s B : Nat} {by_ : Nat → Zb} : ∀ {z : List (KZ × Int)} {S : Int}, (∀ x ∈ z, (wz x.2 s (by_ (kdZ x.1.1))).natAbs ≤ B) → S.natAbs + B * z.length < 1000000000000000000000000000000 → ∃ q, trZ s by_ z S = some q
 | [], S, _, _ => ⟨_, rfl⟩
 | x :: r, S, hw, hb => by
  rw [List.length_cons, Nat.mul_add, Nat.mul_one] at hb
  have hx := hw x List.mem_cons_self
  unfold trZ
  rw [if_pos ⟨by unfold Sm; omega, by unfold Sm; omega⟩]
  obtain ⟨q, hq⟩ := trZ_ok (S := S + wz x.2 s (by_ (kdZ x.1.1))) (fun y hy => hw y (List.mem_cons_of_mem _ hy)) (by omega)
  rw [hq]
  exact ⟨_, rfl⟩
theorem Yuh {f : KZ × Int → Int} {c : Int} : ∀ {z : List (KZ × Int)}, (∀ x ∈ z, f x = x.2 * c) → Zqs Zzr (z.map fun x => (x.1, f x)) = Zqs Zzr z * c
 | [], _ => (Int.zero_mul c).symm
 | x :: r, h => by
  rw [List.map_cons]
  show (if Zzr x.1 = true then f x else 0) + Zqs Zzr (r.map fun x => (x.1, f x)) = ((if Zzr x.1 = true then x.2 else 0) + Zqs Zzr r) * c
  rw [Yuh fun y hy => h y (List.mem_cons_of_mem _ hy), if_pos (show Zzr x.1 = true from rfl), if_pos (show Zzr x.1 = true from rfl), Int.add_mul, h x List.mem_cons_self]
def T1 : List (Zz × Zb) := [(⟨0, 0⟩, DV 1 0), (⟨0, 1⟩, DV 1 0), (⟨0, 2⟩, DV 1 0), (⟨1, 0⟩, DV 1 0), (⟨1, 1⟩, DV 1 0), (⟨1, 2⟩, DV 1 0), (⟨2, 0⟩, DV 1 0), (⟨2, 1⟩, DV 1 0), (⟨2, 2⟩, DV 1 0)]
theorem ones_eq : Zay.f 2000 = some ⟨T1⟩ := by kernel_rfl
theorem Ytm {p : Int} (hp : 0 ≤ p ∧ p < 3) {j : Nat} (hj : j < 3) : Zib (Zav ⟨p, (j : Int)⟩) T1 = some (DV 1 0) := by
 obtain ⟨n, rfl⟩ : ∃ n : Nat, p = (n : Int) := ⟨p.toNat, by omega⟩
 have h : ∀ n : Nat, n < 3 → ∀ j : Nat, j < 3 → Zib (Zav ⟨(n : Int), (j : Int)⟩) T1 = some (DV 1 0) := by
  intro n hn j hj
  rcases n with _ | _ | _ | n <;> rcases j with _ | _ | _ | j <;> first | omega | kernel_rfl
 exact h n (by omega) j hj
theorem T1_RT : RT T1 := by
 intro p hp
 have : p.2 = DV 1 0 := by
  simp only [T1, List.mem_cons, List.not_mem_nil, or_false] at hp
  rcases hp with rfl | rfl | rfl | rfl | rfl | rfl | rfl | rfl | rfl <;> rfl
 rw [this]
 exact ⟨Zjw (i := 1) (by unfold Sm; decide), Zwm (by unfold Sm; decide) (by decide)⟩
theorem T1_rt3 {p : Int} (hp : 0 ≤ p ∧ p < 3) : rt3 T1 p = some (DV 1 0, DV 1 0, DV 1 0) := by
 have h0 := Ytm hp (j := 0) (by decide)
 have h1 := Ytm hp (j := 1) (by decide)
 have h2 := Ytm hp (j := 2) (by decide)
 unfold rt3
 rw [show (⟨p, 0⟩ : Zz) = ⟨p, ((0 : Nat) : Int)⟩ from rfl, show (⟨p, 1⟩ : Zz) = ⟨p, ((1 : Nat) : Int)⟩ from rfl, show (⟨p, 2⟩ : Zz) = ⟨p, ((2 : Nat) : Int)⟩ from rfl, h0, h1, h2]
theorem by1 {j : Nat} (hj : j < 3) : [DV 1 0, DV 1 0, DV 1 0].getD j Zb.zero = DV 1 0 := by
 rcases j with _ | _ | _ | j <;> first | rfl | omega
theorem wz_one {v : Int} {s : Nat} (hs : s ≤ 2) : wz v s (DV 1 0) = v * 10 ^ (2 - s) := by
 unfold wz
 rw [Zkl, show (DV 1 0).Zgv = false from rfl, show ((1 : Int).natAbs) = 1 from rfl, Nat.mul_one, show (DV 1 0).Zp.toNat = 0 from rfl, Nat.add_zero, ← Yqv hs]
 unfold sgB
 have e : ((v.natAbs * 10 ^ (2 - s) : Nat) : Int) = (v.natAbs : Int) * 10 ^ (2 - s) := by
  rw [Int.natCast_mul, Int.natCast_pow]
  rfl
 by_cases h : v < 0
 ·rw [decide_eq_true h]
  show -((v.natAbs * 10 ^ (2 - s) : Nat) : Int) = _
  rw [e, show (v.natAbs : Int) = -v by omega, Int.neg_mul, Int.neg_neg]
 ·rw [decide_eq_false h]
  show ((v.natAbs * 10 ^ (2 - s) : Nat) : Int) = _
  rw [e, show (v.natAbs : Int) = v by omega]
end Go.Proofs.YtbchcjlllddlpaaGreat.Pure
namespace Go.Proofs.YtbchcjlllddlpaaGreat.Pure
set_option linter.unusedVariables false
set_option linter.unusedSimpArgs false
open Go Go.Ev Go.Lm Go.Pu Go.Dg
theorem Yvh {k : Nat} (hk : 60 < k) {a : Zb} (ha : W2 a.f_C) : Zas.f k 2 4 [a] = some (dOk a) := by
 unfold Zas.f
 have r1 := Zma hk ha
 have s0 : Zas.l2.once k (2, 4, [a], 1, ((0 : Nat) : Int)) = cond (dOk a) (some (.inl (2, 4, [a], 1, ((0 + 1 : Nat) : Int)))) (some (.inr (.inr false))) := by
  unfold Zas.l2.once
  dsimp only
  have hr' : Zbi.f k ⟨a.Zgv, (a.f_C.1, a.f_C.2), a.Zp⟩ = some (dOk a) := r1
  rw [ct (by omega), Zhh (by omega) (by simp), cond_true, Int.toNat_natCast, show [a].getD 0 Zb.zero = a from rfl, hr', Z0, Zhe (by omega)]
  cases dOk a <;> rfl
 have s2 : Zas.l2.once k (2, 4, [a], 1, ((0 + 1 : Nat) : Int)) = some (.inr (.inl (2, 4))) := by unfold Zas.l2.once; rfl
 obtain ⟨j, hj⟩ : ∃ j, k = j + 3 := ⟨k - 3, by omega⟩
 have e : iter (Zas.l2.once k) k (2, 4, [a], (([a].length : Nat) : Int), 0) = some (cond (dOk a) (.inl (2, 4)) (.inr false)) := by
  conv => lhs; arg 2; rw [hj]
  cases ha : dOk a
  ·rw [ha, cond_false] at s0
   exact Zbh s0
  ·rw [ha, cond_true] at s0
   refine (Zca s0).trans ?_
   exact Zbh s2
 rw [e, Z0]
 cases dOk a <;> rfl
theorem sgB_neg (b : Bool) (n : Nat) : (if b = true then -((n : Nat) : Int) else ((n : Nat) : Int)) = sgB b n := rfl
theorem Quant_eq {k : Nat} (hk : 260 < k) {i : Int} {c : Nat} (hi : Sm i) (hc : c ≤ 9) : Zeu.f k (DV i c) 2 4 = some (mkD (wz i c (DV 1 0)) 2) := by
 have hw : W2 (DV i c).f_C := Zjw hi
 have hr : Zas.f k 2 4 [(⟨(DV i c).Zgv, ((DV i c).f_C.1, (DV i c).f_C.2), (DV i c).Zp⟩ : Zb)] = some (dOk (DV i c)) := Yvh (by omega) hw
 have hd := Zwm hi hc
 have hwz : wz i c (DV 1 0) = sgB (decide (i < 0)) (tmN i.natAbs c) := by
  unfold wz
  rw [Zkl, show (DV 1 0).Zgv = false from rfl, show ((1 : Int).natAbs) = 1 from rfl, Nat.mul_one, show (DV 1 0).Zp.toNat = 0 from rfl, Nat.add_zero]
  cases decide (i < 0) <;> rfl
 have hN : N2 (DV i c).f_C = (i.natAbs : Int) := by
  have := Yqp (DV i c) hw
  rw [Zkl] at this
  exact this
 unfold Zeu.f
 rw [hr, hd, Z0, Bool.not_true, cond_false, hwz]
 by_cases h2 : c ≤ 2
 ·rw [show decide ((2 : Int) ≥ (DV i c).Zp) = true from decide_eq_true (by show (c : Int) ≤ 2; omega), cond_true]
  have hs : Zer.f k (DV i c) 2 = some (mkD (sgB (decide (i < 0)) (tmN i.natAbs c)) 2) := by
   unfold Zer.f
   have r1 : Zbi.f k ⟨(DV i c).Zgv, ((DV i c).f_C.1, (DV i c).f_C.2), (DV i c).Zp⟩ = some (dOk (DV i c)) := Zma (by omega) hw
   obtain ⟨z, z1, z2, z3⟩ := Zzw (k := k) (by omega) (DV i c).Zgv hw (s := c) (t := 2) h2 (by omega) (by omega)
   have z1' : Zei.f k ⟨(DV i c).Zgv, ((DV i c).f_C.1, (DV i c).f_C.2), (DV i c).Zp⟩ 2 = some z := z1
   have m1 := Ztd (k := k) (by omega) (DV i c).Zgv z2 2
   have m1' : Zeb.f k (DV i c).Zgv (z.1, z.2.1, z.2.2.1, z.2.2.2) 2 = _ := m1
   refine bof (v := (2, false, (DV i c).Zgv, (DV i c).f_C.1, (DV i c).f_C.2, (DV i c).Zp, false, 0, 0, 0)) ?_ ?_
   ·rw [r1, hd, Z0, Bool.not_true, cond_false, show decide ((2 : Int) < (DV i c).Zp) = false from decide_eq_false (by show ¬ (2 : Int) < (c : Int); omega), cond_false]
    rfl
   dsimp only
   rw [cond_false, z1', Z0, m1', Z0]
   have e : N4 z = ((tmN i.natAbs c : Nat) : Int) := by rw [z3, hN, ← Yqv h2, Int.natCast_mul, Int.natCast_pow]; rfl
   rw [e, sgB_neg]
   rfl
  have hs' : Zer.f k ⟨(DV i c).Zgv, ((DV i c).f_C.1, (DV i c).f_C.2), (DV i c).Zp⟩ 2 = _ := hs
  rw [hs', Z0]
 ·rw [show decide ((2 : Int) ≥ (DV i c).Zp) = false from decide_eq_false (by show ¬ (c : Int) ≤ 2; omega), cond_false, Yth, Z0]
  unfold Zfc.f
  obtain ⟨x, x1, x2, x3⟩ := Ymq (k := k) (by omega) (i := c - 2) (by omega)
  rw [show (DV i c).Zp = (c : Int) from rfl, Zhe (by omega), show (c : Int) - 2 = ((c - 2 : Nat) : Int) by omega, x1, Z0, Z0]
  dsimp only
  have hx4 : W4 ((DV i c).f_C.1, (DV i c).f_C.2, 0, 0) := ⟨⟨hw.1.1, hw.1.2⟩, ⟨hw.2.1, hw.2.2⟩, ⟨(show (0 : Int) ≤ 0 by decide), (show (0 : Int) < 18446744073709551616 by decide)⟩, (show (0 : Int) ≤ 0 by decide), (show (0 : Int) < 18446744073709551616 by decide)⟩
  have hn4 : N4 ((DV i c).f_C.1, (DV i c).f_C.2, 0, 0) = ((i.natAbs : Nat) : Int) := by
   rw [← hN]
   unfold N4 N2
   dsimp only
   omega
  have q : Zch.f k (DV i c).Zgv ((DV i c).f_C.1, (DV i c).f_C.2, 0, 0) (x.1, x.2) 2 4 = _ := Ygm hk (DV i c).Zgv hx4 (d := x) x2 hn4 (m := 10 ^ (c - 2)) (by rw [x3, Int.natCast_pow]; rfl) (Nat.pow_pos (by decide)) (s := 2) (by decide)
  rw [q, Z0, tmN_hi (by omega)]
  rfl
end Go.Proofs.YtbchcjlllddlpaaGreat.Pure
namespace Go.Proofs.YtbchcjlllddlpaaGreat.Pure
set_option linter.unusedVariables false
set_option linter.unusedSimpArgs false
open Go Go.Ev
def insA {α : Type} (a : α) : List α → List (List α)
 | [] => [[a]]
 | x :: r => (a :: x :: r) :: (insA a r).map (x :: ·)
def permsA {α : Type} : List α → List (List α)
 | [] => [[]]
 | a :: l => (permsA l).flatMap (insA a)
theorem Yvz {α : Type} (a : α) : ∀ s t : List α, s ++ a :: t ∈ insA a (s ++ t)
 | [], [] => List.mem_cons_self
 | [], x :: t => List.mem_cons_self
 | x :: s, t => List.mem_cons_of_mem _ (List.mem_map.2 ⟨_, Yvz a s t, rfl⟩)
theorem Yjo {α : Type} : ∀ {l σ : List α}, σ.Perm l → σ ∈ permsA l
 | [], σ, h => by
  rw [h.eq_nil]
  exact List.mem_cons_self
 | a :: l, σ, h => by
  obtain ⟨s, t, rfl⟩ := List.append_of_mem (h.mem_iff.2 List.mem_cons_self)
  have h2 : (s ++ t).Perm l := List.Perm.cons_inv (List.perm_middle.symm.trans h)
  exact List.mem_flatMap.2 ⟨_, Yjo h2, Yvz a s t⟩
def anyC {α ρ : Type} [DecidableEq ρ] (es : List α) (f : List α → Option ρ) : Option ρ := match f es with
 | some r => if (permsA es).all (fun σ => decide (f σ = some r)) then some r else none
 | none => none
theorem anyC_P {α ρ : Type} [DecidableEq ρ] {es : List α} {f : List α → Option ρ} {r : ρ} (h : anyC es f = some r) : anyP es f = some r := by
 unfold anyC at h
 split at h
 ·split at h
  ·rename_i ha
   cases h
   exact anyP_of fun σ hσ => of_decide_eq_true (List.all_eq_true.1 ha σ (Yjo hσ))
  ·cases h
 ·cases h
theorem Yxd {α β : Type} {X : Option α} {F G : α → Option β} {r : β} (h : ∀ v, F v = some r → G v = some r) (h' : X.bind F = some r) : X.bind G = some r := by
 cases X with
 | none => cases h'
 | some v => exact h v h'
end Go.Proofs.YtbchcjlllddlpaaGreat.Pure
namespace Go.Proofs.YtbchcjlllddlpaaGreat.Pure
set_option linter.unusedVariables false
set_option linter.unusedSimpArgs false
open Go Go.Ev
theorem Ytt {X Y T : Type} {once : X → T → Option (X ⊕ Y)} {es : List T} (I : List T → X → Prop) (hs : ∀ pre e rest x, (pre ++ e :: rest).Perm es → I pre x → ∃ x', once x e = some (.inl x') ∧ I (pre ++ [e]) x') :
  ∀ rest pre x, (pre ++ rest).Perm es → I pre x → ∃ x', Zzz once rest x = some (.inl x') ∧ I (pre ++ rest) x'
 | [], pre, x, _, h => ⟨x, rfl, by rw [List.append_nil]; exact h⟩
 | e :: r, pre, x, hp, h => by
  obtain ⟨x1, h1, h2⟩ := hs pre e r x hp h
  obtain ⟨x2, h3, h4⟩ := Ytt I hs r (pre ++ [e]) x1 (by rw [List.append_assoc]; exact hp) h2
  refine ⟨x2, ?_, by rw [List.append_assoc] at h4; exact h4⟩
  unfold Zzz
  rw [h1, Z0]
  exact h3
theorem rngP_inv {X Y T : Type} {once : X → T → Option (X ⊕ Y)} {es : List T} {x z : X} (I : List T → X → Prop) (h0 : I [] x) (hs : ∀ pre e rest x, (pre ++ e :: rest).Perm es → I pre x → ∃ x', once x e = some (.inl x') ∧ I (pre ++ [e]) x')
  (he : ∀ σ x', σ.Perm es → I σ x' → x' = z) : rngP once es x = some (.inl z) := anyP_of fun σ hσ => by
 obtain ⟨x', h1, h2⟩ := Ytt I hs σ [] x hσ h0
 rw [h1, he σ x' hσ h2]
theorem rngP_same {X Y T : Type} {once : X → T → Option (X ⊕ Y)} {es : List T} {x : X} (h : ∀ e ∈ es, once x e = some (.inl x)) : rngP once es x = some (.inl x) :=
 rngP_inv (fun _ x' => x' = x) rfl (fun pre e rest x' hp hx => by subst hx; exact ⟨x', h e (hp.mem_iff.1 (by simp)), rfl⟩) (fun _ _ _ h => h)
end Go.Proofs.YtbchcjlllddlpaaGreat.Pure
namespace Go.Proofs.YtbchcjlllddlpaaGreat.Pure
set_option linter.unusedVariables false
set_option linter.unusedSimpArgs false
open Go Go.Ev Go.Lm Go.Pu Go.Dg
theorem known17 : Zdw.f 2000 = some true := by
 unfold Zdw.f
 refine Yxd (fun t1 => Yxd (fun t2 => anyC_P)) ?_
 decide +kernel
theorem pow2 {s : Nat} (h : s ≤ 2) : 0 < (10 : Int) ^ (2 - s) ∧ (10 : Int) ^ (2 - s) ≤ 100 := by
 rcases s with _ | _ | _ | s <;> first | omega | decide
theorem i64_bd {n : Int} (h : (Lit.int .i64 n).wf = true) : -9223372036854775808 ≤ n ∧ n < 9223372036854775808 := by
 have := h
 simp [Lit.wf, IntKind.min, IntKind.max, IntKind.signed, IntKind.bits] at this
 omega
theorem TransOnes (l : List Zq) (w0 : (l.length ≤ 9223372036854775807 ∧ l.length * 80 ≤ 140737488351232 ∧ ∀ z ∈ l, ((Lit.int .i64 z.Zeo).wf = true) ∧ ((Lit.int .i64 z.f_Who).wf = true) ∧ ((Lit.int .i64 z.f_A).wf = true) ∧ ((Lit.int .i64 z.f_B).wf = true) ∧ ((Lit.int .i64 z.f_C).wf = true) ∧ ((Lit.int .i64 z.f_N).wf = true) ∧ ((Lit.int .i64 z.Ysr).wf = true) ∧ ((z.f_L.length ≤ 9223372036854775807 ∧ z.f_L.length * 8 ≤ 140737488351232 ∧ ∀ z1 ∈ z.f_L, (Lit.int .i64 z1).wf = true)) ∧ True))
  (a1 : Int) (w1 : (Lit.int .i64 a1).wf = true) (a2 : Int) (w2 : (Lit.int .i64 a2).wf = true) (a3 : Int) (w3 : (Lit.int .i64 a3).wf = true) (a4 : Int) (w4 : (Lit.int .i64 a4).wf = true) :
  ∃ k, Zk.f k l a1 a2 a3 a4 = some true := by
 have hw : ∀ z ∈ l, Yhz z := fun z hz => by
  obtain ⟨_, _, _, _, _, _, _, g8, _⟩ := w0.2.2 z hz
  exact g8.1
 refine ⟨2000, ?_⟩
 have hk : 1002 < 2000 := by decide
 have bs := Zgd a1 (m := 3) (by decide)
 have bp := Zgd a2 (m := 3) (by decide)
 have bc := Zgd a4 (m := 5) (by decide)
 have b3 := i64_bd w3
 unfold Zk.f
 refine bof (Zek 2000 a1 (by decide) (by decide)) ?_
 obtain ⟨s, hsc⟩ : ∃ s : Nat, pick a1 3 = (s : Int) := ⟨(pick a1 3).toNat, by omega⟩
 rw [hsc] at bs ⊢
 have hs2 : s ≤ 2 := by omega
 have hs : s ≤ 4 := by omega
 have hB := bkN_inv hk hs hw
 have hBB := bkN_B hk hs hw
 have hZ := bkN_Z 2000 s l
 refine bof (books_eq hk hs hw) (bof (Zek 2000 a2 (by decide) (by decide)) ?_)
 dsimp only
 generalize bkN 2000 s l = b at hB hBB hZ ⊢
 generalize pick a2 3 = p at bp ⊢
 have e1 := pk hB.T
 simp only [e1]
 refine bof (v := (p, a3, a4, false, b.Zbb, b.f_l, b.f_t)) (bof known17 rfl) ?_
 dsimp only
 simp only [e1]
 rw [cond_false]
 obtain ⟨M, z0, hTr, hz0, hM, hris, hlen, hbz⟩ := trial_ok hk hs hB hBB (p := p) (by omega)
 have hTr' : Zaz.f 2000 (⟨b.Zbb, b.f_l, b.f_t⟩ : Zg) p = some (M, 0, b) := hTr
 have hsum := Yyk hZ hz0
 have hnz : ∀ x ∈ Zjt z0, x.2 ≠ 0 := fun x hx => by simpa using (List.mem_filter.1 hx).2
 generalize Zjt z0 = z at hM hlen hbz hsum hnz
 refine bof hTr' (bof ones_eq ?_)
 dsimp only
 have hT := Trans_eq hk hs hM hlen T1_RT p
 rw [T1_rt3 bp] at hT
 dsimp only at hT
 have hwx : ∀ x ∈ z, wz x.2 s ([DV 1 0, DV 1 0, DV 1 0].getD (kdZ x.1.1) Zb.zero) = x.2 * 10 ^ (2 - s) := fun x hx => by rw [by1 (kdZ_lt _), wz_one hs2]
 have hp2 := pow2 hs2
 have hbd : ∀ x ∈ z, (x.2 * 10 ^ (2 - s)).natAbs ≤ 3200000000000 := fun x hx => by
  have h1 := hbz.h x hx
  rw [Int.natAbs_mul]
  have h2 : ((10 : Int) ^ (2 - s)).natAbs ≤ 100 := by omega
  have := Nat.mul_le_mul h1 h2
  omega
 obtain ⟨q, hq⟩ := trZ_ok (s := s) (B := 3200000000000) (by_ := fun j => [DV 1 0, DV 1 0, DV 1 0].getD j Zb.zero) (z := z) (S := 0) (fun x hx => by rw [hwx x hx]; exact hbd x hx) (by show 0 + _ < _; omega)
 rw [hq] at hT
 dsimp only at hT
 obtain ⟨hq2, hq1⟩ := trZ_sum hq
 have hq1' : q.1 = z.map fun x => (x.1, x.2 * 10 ^ (2 - s)) := by
  rw [hq1]
  exact List.map_congr_left fun x hx => by rw [hwx x hx]
 have hq0 : q.2 = 0 := by
  rw [hq2, hq1', Yuh (f := fun x => x.2 * 10 ^ (2 - s)) (fun x _ => rfl), hsum, Int.zero_mul]
  rfl
 obtain ⟨f1, f2, f3⟩ := Yiq Sm0 hq
 have hso : Zjt q.1 = q.1 := List.filter_eq_self.2 fun x hx => by
  rw [hq1'] at hx
  obtain ⟨y, hy, rfl⟩ := List.mem_map.1 hx
  have := hnz y hy
  have h2 : y.2 * 10 ^ (2 - s) ≠ 0 := Int.mul_ne_zero this (by omega)
  simpa using h2
 have hris1 : Ris q.1 := ris_keys f1 hM.ris
 have hU : MZ 2 (q.1.map (mkz 2)) q.1 := ⟨.refl _, hris1, f2⟩
 rw [hq0, hso] at hT
 refine bof hT ?_
 dsimp only
 have hlen2 : q.1.length = z.length := by rw [hq1', List.length_map]
 have hsg : Zco.f 2000 ⟨(DV (-0) 2).Zgv, ((DV (-0) 2).f_C.1, (DV (-0) 2).f_C.2), (DV (-0) 2).Zp⟩ = some 0 := Znu (k := 2000) (by decide) (i := -0) (by unfold Sm; decide) (by decide)
 refine bof (v := (p, a3, a4, false, M, q.1.map (mkz 2))) ?_ ?_
 ·rw [bne_self_eq_false, cond_false, hsg, Z0, bne_self_eq_false, cond_false, List.length_map, hlen2, hM.len, bne_self_eq_false]
 dsimp only
 rw [cond_false]
 have hrng : rngP (Zk.r10.once 2000) M (p, a3, a4, q.1.map (mkz 2)) = some (.inl (p, a3, a4, q.1.map (mkz 2))) := by
  refine rngP_same fun e he => ?_
  have he' := hM.perm.mem_iff.1 he
  obtain ⟨x, hx, rfl⟩ := List.mem_map.1 he'
  have hg := hU.get x.1
  have hmem : (x.1, x.2 * 10 ^ (2 - s)) ∈ q.1 := by rw [hq1']; exact List.mem_map.2 ⟨x, hx, rfl⟩
  rw [Ysk hris1 _ hmem] at hg
  have hg' : Zib (Zcb ((mkz s x).1.1, (mkz s x).1.2)) (q.1.map (mkz 2)) = some (DV (x.2 * 10 ^ (2 - s)) 2) := hg
  unfold Zk.r10.once
  dsimp only
  rw [hg', Z0, Z0, Option.isSome_some, Bool.not_true, cond_false]
  have hv1 : Sm (x.2 * 10 ^ (2 - s)) := by have := hbd x hx; unfold Sm; omega
  have hv2 : Sm x.2 := by have := hbz.h x hx; unfold Sm; omega
  have hc := Cmp_DV (k := 2000) (by decide) hv1 hv2 (s := 2) (t := s) (by decide) (by omega)
  have hc' : Zgi.f 2000 ⟨((some (DV (x.2 * 10 ^ (2 - s)) 2)).getD (⟨false, (0, 0), 0⟩ : Zb)).Zgv, (((some (DV (x.2 * 10 ^ (2 - s)) 2)).getD (⟨false, (0, 0), 0⟩ : Zb)).f_C.1, ((some (DV (x.2 * 10 ^ (2 - s)) 2)).getD (⟨false, (0, 0), 0⟩ : Zb)).f_C.2), ((some (DV (x.2 * 10 ^ (2 - s)) 2)).getD (⟨false, (0, 0), 0⟩ : Zb)).Zp⟩ ⟨(mkz s x).2.Zgv, ((mkz s x).2.f_C.1, (mkz s x).2.f_C.2), (mkz s x).2.Zp⟩ = _ := hc
  rw [hc', Z0, show max 2 s = 2 by omega, Nat.sub_self, Int.pow_zero, Int.mul_one, Int.sub_self]
  rfl
 have hrf : Zk.r10.f 2000 (p, a3, a4, M, q.1.map (mkz 2)) = some (.inl (p, a3, a4)) := by
  unfold Zk.r10.f
  show (rngP (Zk.r10.once 2000) M (p, a3, a4, q.1.map (mkz 2))).map _ = _
  rw [hrng]
  rfl
 refine bof hrf ?_
 dsimp only
 refine bof (Zek 2000 a4 (by decide) (by decide)) ?_
 have hmod : -1000000000 < Int.tmod a3 1000000000 ∧ Int.tmod a3 1000000000 < 1000000000 := by
  have h1 := Int.natAbs_tmod a3 1000000000
  have h2 := Nat.mod_lt a3.natAbs (show (1000000000 : Int).natAbs > 0 by decide)
  rw [← h1] at h2
  have h3 : (1000000000 : Int).natAbs = 1000000000 := rfl
  omega
 generalize Int.tmod a3 1000000000 = m at hmod
 obtain ⟨c, hcc⟩ : ∃ c : Nat, pick a4 5 = (c : Int) := ⟨(pick a4 5).toNat, by omega⟩
 rw [hcc] at bc ⊢
 have hc9 : c ≤ 9 := by omega
 have hcl : cl (c : Int) = c := Yqc hc9
 have hm : Sm m := by unfold Sm; omega
 have hOf := Ygd (k := 2000) (by decide) (n := m) (by omega) (c : Int)
 rw [hcl] at hOf
 refine bof hOf (bof ones_eq ?_)
 try dsimp only
 have hwz : wz m c (DV 1 0) = sgB (decide (m < 0)) (tmN m.natAbs c) := by
  unfold wz
  rw [Zkl, show (DV 1 0).Zgv = false from rfl, show ((1 : Int).natAbs) = 1 from rfl, Nat.mul_one, show (DV 1 0).Zp.toNat = 0 from rfl, Nat.add_zero]
  cases decide (m < 0) <;> rfl
 have hfl : Zfk.f 2000 (DV m c) ⟨T1⟩ p = some ((mkD (wz m c (DV 1 0)) 2).1, (mkD (wz m c (DV 1 0)) 2).2, ⟨T1⟩) := by
  have g1 := Get_eq 2000 T1 ⟨p, 1⟩
  have g2 := Ytm bp (j := 1) (by decide)
  rw [show (⟨p, 1⟩ : Zz) = ⟨p, ((1 : Nat) : Int)⟩ from rfl, g2] at g1
  unfold Zfk.f
  refine bof g1 ?_
  dsimp only [got]
  rw [show ((0 : Int) != 0) = false from rfl, cond_false]
  have hq := Ymw (k := 2000) (by decide) (a := DV m c) (b := DV 1 0) (Zjw hm) (Zjw (i := 1) (by unfold Sm; decide))
  rw [tmR_eq hm hc9 (Zwm (by unfold Sm; decide) (by decide))] at hq
  exact bof hq rfl
 have hfl' : Zfk.f 2000 ⟨(DV m c).Zgv, ((DV m c).f_C.1, (DV m c).f_C.2), (DV m c).Zp⟩ ⟨T1⟩ p = _ := hfl
 have hqu : Zeu.f 2000 ⟨(DV m c).Zgv, ((DV m c).f_C.1, (DV m c).f_C.2), (DV m c).Zp⟩ 2 4 = _ := Quant_eq (k := 2000) (by decide) hm hc9
 refine bof hfl' (bof hqu ?_)
 dsimp only
 have hfit : mkD (wz m c (DV 1 0)) 2 = (DV (wz m c (DV 1 0)) 2, 0) := by
  refine if_pos ?_
  rw [hwz]
  have h1 : tmN m.natAbs c ≤ m.natAbs * 100 + 1 := by
   unfold tmN hev
   have := Nat.div_le_self (m.natAbs * 10 ^ 2) (10 ^ c)
   split <;> omega
  unfold sgB
  split <;> omega
 rw [hfit]
 dsimp only
 rw [beq_self_eq_true, cond_true, beq_self_eq_true, beq_self_eq_true, beq_self_eq_true, beq_self_eq_true]
 rfl
end Go.Proofs.YtbchcjlllddlpaaGreat.Pure
