import Derived.Test.YtbchcjlllddlpaaEvH
import Derived.MapKept
import Derived.Carry
import Derived.WideKeyRuns
universe u
namespace Go.Ev
set_option linter.unusedVariables false
set_option linter.unusedSimpArgs false
open Go.RowKit (Below)
variable {U : Wdr} {ρ : Type}
section
variable {P : Program} {D : Wbf U} {R : Rl}
theorem Qqj : ∀ (ks : List Nat) (xs ys : List (AV U)), ks.all (Nat.beq 0) = true → eqL ks xs ys = some true → xs = ys ∧ ∀ x ∈ xs, ∃ k n, x = .flat (.int k n)
 | [], xs, ys, _, h => by
  cases xs <;> cases ys <;> simp [eqL] at h
  exact ⟨rfl, by simp⟩
 | k :: ks, [], ys, _, h => by cases ys <;> simp [eqL] at h
 | k :: ks, x :: xs, [], _, h => by simp [eqL] at h
 | k :: ks, x :: xs, y :: ys, hk, h => by
  simp only [List.all_cons, Bool.and_eq_true] at hk
  have hk0 := Z2 hk.1
  subst hk0
  simp only [eqL] at h
  split at h
  ·rename_i a b ha hb
   simp only [Option.some.injEq, Bool.and_eq_true] at h
   obtain ⟨rfl, rfl⟩ := h
   obtain ⟨e, h2⟩ := Qqj ks xs ys hk.2 hb
   subst e
   unfold eqV at ha
   split at ha
   ·rename_i q n q' n'
    obtain ⟨hq, ha⟩ := Zr ha
    have hq := eq_of_beq hq
    simp only [Option.some.injEq] at ha
    have := eq_of_beq ha
    subst hq; subst this
    refine ⟨rfl, fun z hz => ?_⟩
    rcases List.mem_cons.1 hz with rfl | hz
    ·exact ⟨_, _, rfl⟩
    ·exact h2 z hz
   ·rename_i e; cases e
   ·rename_i e; cases e
   ·cases ha
  ·cases h
theorem rep_same {t : TypeId} {xs : List (AV U)} {X Y : Value} (hX : Rep P D R t xs X) (hY : Rep P D R t xs Y) (hi : ∀ x ∈ xs, ∃ k n, x = .flat (.int k n)) : X = Y ∧ Instr.sameBits 10000 X X = true := by
 rcases hX with ⟨h1, as, rfl, hl, hv⟩ | ⟨h1, x, rfl, hv⟩
 ·rcases hY with ⟨h1', bs, rfl, hl', hv'⟩ | ⟨h1', _⟩
  ·have hint : ∀ i, i < as.size → ∃ k n, as[i]? = some (.int k n) ∧ bs[i]? = some (.int k n) := by
    intro i hi'
    have hx := Z3 (show i < xs.length by omega)
    obtain ⟨k, n, e⟩ := hi _ (List.mem_of_getElem? hx)
    rw [e] at hx
    have ha : as[i]? = some as[i] := Array.getElem?_eq_getElem hi'
    have hb : bs[i]? = some (bs[i]'(by omega)) := Array.getElem?_eq_getElem (by omega)
    have e1 := (hv i _ _ hx ha).Wbg
    have e2 := (hv' i _ _ hx hb).Wbg
    exact ⟨k, n, by rw [ha, e1], by rw [hb, e2]⟩
   have e : as = bs := by
    apply Array.ext_getElem?
    intro i
    by_cases hi' : i < as.size
    ·obtain ⟨k, n, e1, e2⟩ := hint i hi'
     rw [e1, e2]
    ·rw [Array.getElem?_eq_none (by omega), Array.getElem?_eq_none (by omega)]
   subst e
   refine ⟨rfl, ?_⟩
   show Instr.sameBits (9999 + 1) (.agg as) (.agg as) = true
   simp only [Instr.sameBits, beq_self_eq_true, Bool.true_and]
   rw [List.all_eq_true]
   rintro ⟨u, v⟩ huv
   have : u = v ∧ u ∈ as.toList := by
    have h3 : ∀ (l : List Value), (u, v) ∈ l.zip l → u = v ∧ u ∈ l := by
     intro l
     induction l with
     | nil => intro h; cases h
     | cons z l ih =>
      intro h
      simp only [List.zip_cons_cons, List.mem_cons, Prod.mk.injEq] at h
      rcases h with ⟨rfl, rfl⟩ | h
      ·exact ⟨rfl, by simp⟩
      ·obtain ⟨h1, h2⟩ := ih h
       exact ⟨h1, List.mem_cons_of_mem _ h2⟩
    exact h3 _ huv
   obtain ⟨rfl, hu⟩ := this
   obtain ⟨i, hi'⟩ := List.getElem?_of_mem hu
   have hi2 : as[i]? = some u := by simpa using hi'
   have hlt : i < as.size := (Array.getElem?_eq_some_iff.1 hi2).1
   obtain ⟨k, n, e1, _⟩ := hint i hlt
   rw [hi2] at e1
   cases e1
   simp [Instr.sameBits]
  ·rw [h1] at h1'; cases h1'
 ·rcases hY with ⟨h1', _⟩ | ⟨_, y, hy, hv'⟩
  ·rw [h1] at h1'; cases h1'
  ·cases hy
   obtain ⟨k, n, rfl⟩ := hi x (by simp)
   rw [hv.Wbg, hv'.Wbg]
   exact ⟨rfl, by simp [Instr.sameBits]⟩
theorem Wul {t : TypeId} (h : Qjp P t = true) (em : Bool) (n : Nat) (v : Value) (w : World) : (Instr.checkKey em (n + 1) t v).run P w = .ok () w := by
 unfold Qjp at h
 split at h
 ·rename_i k hu
  simp [Instr.checkKey, Zak w hu]
 ·cases h
theorem Qrc {t : TypeId} {ks : List Nat} {xs : List (AV U)} {X : Value} (h : Wdm P 8 t = some ks) (hk : Wzx P t = true) (hX : Rep P D R t xs X) (hl : xs.length = ks.length) (em : Bool) :
  (Instr.checkKey em 10000 t X).run P R.w = .ok () R.w := by
 show (Instr.checkKey em (9998 + 1 + 1) t X).run P R.w = .ok () R.w
 unfold Wzx at hk
 split at hk
 ·rename_i k hu
  exact Wul (by unfold Qjp; rw [hu]) em _ X R.w
 ·rename_i fs hu
  have hag : Wce P t = true := by simp [Wce, hu]
  rcases hX with ⟨_, as, rfl, hxl, hxv⟩ | ⟨h1, _⟩
  ·unfold Wdm at h
   simp only [hu] at h
   cases hst : P.stoodInHeld t with
   | true => simp [hst] at h
   | false =>
    simp only [hst, cond_false] at h
    rw [Instr.checkKey]
    simp only [Sem.run_bind, Zak R.w hu, Result.andThen_ok]
    rw [← Array.forIn_toList]
    have go : ∀ (fl : List Field) (off : Nat) (ls : List Nat), (fl.all fun f => Qjp P f.type) = true → Wos P (Wdm P 7) fl off = some ls → off + ls.length ≤ xs.length →
      (forIn fl PUnit.unit (fun f _ => do
       if f.name ≠ "_" then Instr.checkKey em (9998 + 1) f.type (← part f.type as f.offset)
       pure (ForInStep.yield PUnit.unit)) : Sem PUnit).run P R.w = .ok PUnit.unit R.w := by
     intro fl
     induction fl with
     | nil => intro off ls _ _ _; simp
     | cons f fl ih =>
      intro off ls hf h1 hle
      simp only [List.all_cons, Bool.and_eq_true] at hf
      simp only [Wos] at h1
      split at h1
      ·rename_i kf hkf
       obtain ⟨hc, h1⟩ := Zr h1
       simp only [Bool.and_eq_true, Bool.not_eq_true'] at hc
       obtain ⟨⟨hc1, hc2⟩, hc3⟩ := hc
       have hc1 := Z2 hc1
       have hc3 : Wfg P f.type = some kf.length := by simpa [Wfg] using hc3
       have hc2 : f.name ≠ "_" := by simpa using hc2
       simp only [Z4] at h1
       obtain ⟨lr, hlr, rfl⟩ := h1
       simp only [List.length_append] at hle
       obtain ⟨X1, x1, x2⟩ := Wmp (P := P) (D := D) (R := R) (off := off) (Wgt hkf) hc3 (Zfc hkf) hxl (by omega) hxv
       have := ih (off + kf.length) lr hf.2 hlr (by omega)
       simp only [List.forIn_cons, if_pos hc2, Sem.run_bind, hc1, x1, Result.andThen_ok, Wul hf.1 em 9998 X1 R.w, Sem.run_pure]
       exact this
      ·cases h1
    refine (congrArg (fun r => Result.andThen r _) (go fs.toList 0 ks hk h (by omega))).trans ?_
    rfl
  ·rw [hag] at h1; cases h1
 ·rename_i len e hu
  have hag : Wce P t = true := by simp [Wce, hu]
  rcases hX with ⟨_, as, rfl, hxl, hxv⟩ | ⟨h1, _⟩
  ·unfold Wdm at h
   simp only [hu] at h
   split at h
   ·rename_i ke hke
    obtain ⟨hc, h⟩ := Zr h
    have hc : Wfg P e = some ke.length := by simpa [Wfg] using hc
    simp only [Option.some.injEq] at h
    subst h
    rw [Instr.checkKey]
    simp only [Sem.run_bind, Zak R.w hu, Result.andThen_ok]
    simp only [Std.Legacy.Range.forIn_eq_forIn_range', Std.Legacy.Range.size, Nat.sub_zero, Nat.add_one_sub_one, Nat.div_one]
    have hlen : xs.length = len * ke.length := by rw [hl]; simp
    have go : ∀ (n i : Nat), i + n = len →
      (forIn (List.range' i n) PUnit.unit (fun i _ => do
       Instr.checkKey em (9998 + 1) e (← part e as (i * (← sizeOf e)))
       pure (ForInStep.yield PUnit.unit)) : Sem PUnit).run P R.w = .ok PUnit.unit R.w := by
     intro n
     induction n with
     | zero => intro i _; simp
     | succ n ih =>
      intro i hi
      have hle : i * ke.length + ke.length ≤ xs.length := by rw [hlen, ← Nat.succ_mul]; exact Nat.mul_le_mul_right _ (by omega)
      obtain ⟨X1, x1, x2⟩ := Wmp (P := P) (D := D) (R := R) (off := i * ke.length) (Wgt hke) hc (Zfc hke) hxl hle hxv
      have := ih (i + 1) (by omega)
      simp only [List.range'_succ, List.forIn_cons, Sem.run_bind, Zdz R.w hc, Result.andThen_ok, x1, Wul hk em 9998 X1 R.w, Sem.run_pure]
      exact this
    refine (congrArg (fun r => Result.andThen r _) (go len 0 (by omega))).trans ?_
    rfl
   ·cases h
  ·rw [hag] at h1; cases h1
 ·cases hk
end
section
variable {P : Program} {D : Wbf U} {R : Rl}
theorem Qmp : ∀ (ks : List Nat) (xs ys : List (AV U)) (b : Bool), ks.all (Nat.beq 0) = true → eqL ks xs ys = some b → (∀ x ∈ xs, ∃ k n, x = .flat (.int k n)) ∧ (∀ y ∈ ys, ∃ k n, y = .flat (.int k n))
 | [], xs, ys, b, _, h => by
  cases xs <;> cases ys <;> simp [eqL] at h
  simp
 | k :: ks, [], ys, b, _, h => by cases ys <;> simp [eqL] at h
 | k :: ks, x :: xs, [], b, _, h => by simp [eqL] at h
 | k :: ks, x :: xs, y :: ys, b, hk, h => by
  simp only [List.all_cons, Bool.and_eq_true] at hk
  have hk0 := Z2 hk.1
  subst hk0
  simp only [eqL] at h
  split at h
  ·rename_i a c ha hb
   obtain ⟨h1, h2⟩ := Qmp ks xs ys c hk.2 hb
   unfold eqV at ha
   split at ha
   ·refine ⟨fun z hz => ?_, fun z hz => ?_⟩
    ·rcases List.mem_cons.1 hz with rfl | hz
     ·exact ⟨_, _, rfl⟩
     ·exact h1 z hz
    ·rcases List.mem_cons.1 hz with rfl | hz
     ·exact ⟨_, _, rfl⟩
     ·exact h2 z hz
   ·rename_i e; cases e
   ·rename_i e; cases e
   ·cases ha
  ·cases h
theorem Qqm : ∀ (ks : List Nat) (xs : List (AV U)) (b : Bool), ks.all (Nat.beq 0) = true → eqL ks xs xs = some b → b = true
 | [], xs, b, _, h => by cases xs <;> simp [eqL] at h; exact h
 | k :: ks, [], b, _, h => by simp [eqL] at h
 | k :: ks, x :: xs, b, hk, h => by
  simp only [List.all_cons, Bool.and_eq_true] at hk
  have hk0 := Z2 hk.1
  subst hk0
  simp only [eqL] at h
  split at h
  ·rename_i a c ha hb
   have := Qqm ks xs c hk.2 hb
   subst this
   unfold eqV at ha
   split at ha
   ·rename_i q n q' n' _ e2
    cases e2
    simp only [beq_self_eq_true, cond_true, Option.some.injEq] at ha
    subst ha
    simpa using h.symm
   ·rename_i e _; cases e
   ·rename_i e _; cases e
   ·cases ha
  ·cases h
theorem rep_inj {t : TypeId} {xs ys : List (AV U)} {X : Value} (hX : Rep P D R t xs X) (hY : Rep P D R t ys X) (hi : ∀ x ∈ xs, ∃ k n, x = .flat (.int k n)) (hj : ∀ x ∈ ys, ∃ k n, x = .flat (.int k n)) : xs = ys := by
 rcases hX with ⟨h1, as, rfl, hl, hv⟩ | ⟨h1, x, rfl, hv⟩
 ·rcases hY with ⟨h1', bs, e, hl', hv'⟩ | ⟨h1', _⟩
  ·cases e
   apply List.ext_getElem?
   intro i
   by_cases hlt : i < as.size
   ·have hx := Z3 (show i < xs.length by omega)
    have hy := Z3 (show i < ys.length by omega)
    obtain ⟨k, n, e1⟩ := hi _ (List.mem_of_getElem? hx)
    obtain ⟨k', n', e2⟩ := hj _ (List.mem_of_getElem? hy)
    rw [e1] at hx
    rw [e2] at hy
    have ha : as[i]? = some as[i] := Array.getElem?_eq_getElem hlt
    have g1 := (hv i _ _ hx ha).Wbg
    have g2 := (hv' i _ _ hy ha).Wbg
    rw [hx, hy, ← g1, ← g2]
   ·rw [List.getElem?_eq_none (by omega), List.getElem?_eq_none (by omega)]
  ·rw [h1] at h1'; cases h1'
 ·rcases hY with ⟨h1', _⟩ | ⟨_, y, rfl, hv'⟩
  ·rw [h1] at h1'; cases h1'
  ·obtain ⟨k, n, rfl⟩ := hi x (by simp)
   obtain ⟨k', n', rfl⟩ := hj y (by simp)
   have g1 := hv.Wbg
   have g2 := hv'.Wbg
   rw [← g1, ← g2]
theorem Qra {L : Lawful D} {c : U.C} {g : Bool} {v : AV U} {x : U.El c} {X : Value} (h : datum D c g v = some x) (hv : VR D R v X) : VR D R (Wcg g (D.enc c x)) X := by
 unfold datum at h
 split at h
 ·rw [← L.Wpc _ _ _ h]; exact hv
 ·cases h
 ·cases h
 ·rw [← L.Wpc _ _ _ h]; exact hv
 ·cases h
theorem Qfa {t : TypeId} {c : U.C} {g : Bool} {x : U.El c} {X : Value} (hg : g = Wce P t) (hl : Wce P t = false → (D.enc c x).length = 1) (hv : VR D R (Wcg g (D.enc c x)) X) : Rep P D R t (D.enc c x) X := by
 cases g with
 | true =>
  obtain ⟨as, rfl, h1, h2⟩ := hv.Wfx
  exact .inl ⟨hg.symm, as, rfl, h1, h2⟩
 | false =>
  have := hl hg.symm
  obtain ⟨v, e⟩ : ∃ v, D.enc c x = [v] := by
   cases he : D.enc c x with
   | nil => rw [he] at this; cases this
   | cons v r => rw [he] at this; cases r with
    | nil => exact ⟨v, rfl⟩
    | cons _ _ => simp at this
  rw [e] at hv
  exact .inr ⟨hg.symm, v, e, hv⟩
def fidx {α β : Type} (eq : α → Bool) : List (α × β) → Nat → Option Nat
 | [], _ => none
 | p :: r, i => cond (eq p.1) (some i) (fidx eq r (i + 1))
theorem Wje {α β : Type} {eq : α → Bool} : ∀ {l : List (α × β)} {i j : Nat}, fidx eq l i = some j → i ≤ j ∧ j < i + l.length ∧ ∃ p, l[j - i]? = some p ∧ eq p.1 = true
 | [], i, j, h => by cases h
 | p :: r, i, j, h => by
  simp only [fidx] at h
  cases hb : eq p.1 with
  | true =>
   rw [hb] at h
   cases h
   exact ⟨Nat.le_refl _, by simp, p, by simp, hb⟩
  | false =>
   rw [hb] at h
   obtain ⟨h1, h2, p', h3, h4⟩ := Wje (show fidx eq r (i + 1) = some j from h)
   refine ⟨by omega, by simp; omega, p', ?_, h4⟩
   rw [show j - i = (j - (i + 1)) + 1 by omega, List.getElem?_cons_succ]
   exact h3
theorem Qar {α β : Type} {eq : α → Bool} : ∀ {l : List (α × β)} {i : Nat}, fidx eq l i = none → ∀ p ∈ l, eq p.1 = false
 | [], i, _, p, hp => by cases hp
 | q :: r, i, h, p, hp => by
  simp only [fidx] at h
  cases hb : eq q.1 with
  | true => rw [hb] at h; cases h
  | false =>
   rw [hb] at h
   rcases List.mem_cons.1 hp with rfl | hp
   ·exact hb
   ·exact Qar (show fidx eq r (i + 1) = none from h) p hp
theorem Wzr {α β : Type} {eq : α → Bool} : ∀ {l : List (α × β)} {i : Nat}, Wpq eq l = match fidx eq l i with | some j => (l[j - i]?).map (·.2) | none => none
 | [], i => rfl
 | p :: r, i => by
  simp only [Wpq, fidx]
  cases hb : eq p.1 with
  | true => simp
  | false =>
   simp only [cond_false]
   rw [Wzr (l := r) (i := i + 1)]
   cases hf : fidx eq r (i + 1) with
   | none => rfl
   | some j =>
    have := (Wje hf).1
    simp only
    rw [show j - i = (j - (i + 1)) + 1 by omega, List.getElem?_cons_succ]
theorem Qjh {α β : Type} {eq : α → Bool} {k : α} {v : β} : ∀ {l : List (α × β)} {i : Nat}, match fidx eq l i with
  | some j => ∃ p, l[j - i]? = some p ∧ Woy eq k v l = l.set (j - i) (p.1, v)
  | none => Woy eq k v l = l ++ [(k, v)]
 | [], i => rfl
 | p :: r, i => by
  simp only [Woy, fidx]
  cases hb : eq p.1 with
  | true => simp
  | false =>
   simp only [cond_false]
   have := Qjh (eq := eq) (k := k) (v := v) (l := r) (i := i + 1)
   cases hf : fidx eq r (i + 1) with
   | none => rw [hf] at this; simp only at this ⊢; rw [this]; rfl
   | some j =>
    rw [hf] at this
    have hge := (Wje hf).1
    simp only at this ⊢
    obtain ⟨q, h1, h2⟩ := this
    rw [show j - i = (j - (i + 1)) + 1 by omega, List.getElem?_cons_succ]
    exact ⟨q, h1, by rw [h2, List.set_cons_succ]⟩
theorem Qcc {α β : Type} {kt : TypeId} {X : Value} {eq : α → Bool} : ∀ (l : List (α × β)) (es : List MapEntry) (off : Nat), es.length = l.length →
  (∀ (i : Nat) (p : α × β) (e : MapEntry), l[i]? = some p → es[i]? = some e → (Op.equal kt X e.key).run P R.w = .ok (eq p.1) R.w) →
  (Instr.findAsking kt X es off).run P R.w = .ok (match fidx eq l off with | some j => (es[j - off]?).map (fun e => (j, e.val)) | none => none) R.w
 | [], [], off, _, _ => rfl
 | [], _ :: _, _, h, _ => by cases h
 | _ :: _, [], _, h, _ => by cases h
 | p :: l, e :: es, off, hl, hq => by
  have h0 := hq 0 p e rfl rfl
  have ih := Qcc l es (off + 1) (by simpa using hl) (fun i p' e' h1 h2 => hq (i + 1) p' e' (by simpa using h1) (by simpa using h2))
  simp only [Instr.findAsking, Sem.run_bind, h0, Result.andThen_ok, fidx]
  cases hb : eq p.1 with
  | true => simp
  | false =>
   simp only [Bool.false_eq_true, if_false, cond_false]
   rw [ih]
   cases hf : fidx eq l (off + 1) with
   | none => rfl
   | some j =>
    have := (Wje hf).1
    simp only
    rw [show j - off = (j - (off + 1)) + 1 by omega, List.getElem?_cons_succ]
theorem Qqi {α β : Type} {d : TypeDesc} {X : Value} {eq : α → Bool} : ∀ (l : List (α × β)) (es : List MapEntry) (off : Nat), es.length = l.length →
  (∀ (i : Nat) (p : α × β) (e : MapEntry), l[i]? = some p → es[i]? = some e → Instr.sameNow d X e.key = some (eq p.1)) →
  Instr.findNow d X es off = some (match fidx eq l off with | some j => (es[j - off]?).map (fun e => (j, e.val)) | none => none)
 | [], [], off, _, _ => rfl
 | [], _ :: _, _, h, _ => by cases h
 | _ :: _, [], _, h, _ => by cases h
 | p :: l, e :: es, off, hl, hq => by
  have h0 := hq 0 p e rfl rfl
  have ih := Qqi l es (off + 1) (by simpa using hl) (fun i p' e' h1 h2 => hq (i + 1) p' e' (by simpa using h1) (by simpa using h2))
  simp only [Instr.findNow, h0, fidx]
  cases hb : eq p.1 with
  | true => simp
  | false =>
   simp only [cond_false]
   rw [ih]
   cases hf : fidx eq l (off + 1) with
   | none => rfl
   | some j =>
    have := (Wje hf).1
    simp only
    rw [show j - off = (j - (off + 1)) + 1 by omega, List.getElem?_cons_succ]
end
section
variable {E : Env U} {nt : Nat} {w0 : Cx} {N0 : Nat → Nat → Prop} {R : Rl} {s : St U} {a : Act}
structure KeyOk (E : Env U) (R : Rl) (kt : TypeId) (c : U.C) (g : Bool) (k : U.El c) (X : Value) : Prop where
 ks : ∃ ks, E.D.kinds c = some ks ∧ Wdm E.P 8 kt = some ks ∧ ks.all (Nat.beq 0) = true
 ok : Wzx E.P kt = true
 ag : g = Wce E.P kt
 rep : Rep E.P E.D R kt (E.D.enc c k) X
 vr : VR E.D R (Wcg g (E.D.enc c k)) X
theorem Qdj (L : Lawful E.D) {c : U.C} {ks : List Nat} (h : E.D.kinds c = some ks) (x : U.El c) : (E.D.enc c x).length = ks.length := (Qdk _ _ _ _ (Wsb _ _ _ _ (L.Wzy c ks x x h))).1
theorem keyC_ok (L : Lawful E.D) {kt : TypeId} {c : U.C} {g : Bool} {v : AV U} {k : U.El c} {X : Value} (h : keyC E kt c g v = some k) (hv : VR E.D R v X) : KeyOk E R kt c g k X := by
 unfold keyC at h
 split at h
 ·rename_i ks ks' e1 e2
  obtain ⟨hc, h9⟩ := Zr h
  simp only [Bool.and_eq_true] at hc
  obtain ⟨⟨⟨hk, ha⟩, hok⟩, hg⟩ := hc
  have hk := eq_of_beq hk
  have hg := eq_of_beq hg
  subst hk
  have hvr := Qra (L := L) h9 hv
  exact ⟨⟨ks, e1, e2, ha⟩, hok, hg, Qfa hg (fun hh => by rw [Qdj L e1]; exact Zfc e2 hh) hvr, hvr⟩
 ·cases h
theorem Wkr (L : Lawful E.D) {kt : TypeId} {c cv : U.C} {g : Bool} {k : U.El c} {X : Value} (h : KeyOk E R kt c g k X) {l : List (U.El c × U.El cv)} {es : Array MapEntry} (hl : es.size = l.length)
  (hr : ∀ (i : Nat) (x : U.El c × U.El cv) (e : MapEntry), l[i]? = some x → es[i]? = some e → VR E.D R (Wcg g (E.D.enc c x.1)) e.key) :
  (Instr.findKey kt X es.toList).run E.P R.w = .ok (match fidx (E.D.keq c k) l 0 with | some j => (es.toList[j]?).map (fun e => (j, e.val)) | none => none) R.w ∧
  (∀ em, (Instr.checkKey em 10000 kt X).run E.P R.w = .ok () R.w) ∧
  (∀ (j : Nat) (p : U.El c × U.El cv) (e : MapEntry), l[j]? = some p → es[j]? = some e → E.D.keq c k p.1 = true → e.key = X ∧ Instr.sameBits 10000 X X = true ∧ E.D.enc c k = E.D.enc c p.1) ∧
  (∀ (j : Nat) (p : U.El c × U.El cv) (e : MapEntry), l[j]? = some p → es[j]? = some e → E.D.keq c k p.1 = false → e.key ≠ X) := by
 obtain ⟨ks, e1, e2, e3⟩ := h.ks
 have hrep : ∀ (i : Nat) (x : U.El c × U.El cv) (e : MapEntry), l[i]? = some x → es[i]? = some e → Rep E.P E.D R kt (E.D.enc c x.1) e.key := fun i x e hx he =>
  Qfa h.ag (fun hh => by rw [Qdj L e1]; exact Zfc e2 hh) (hr i x e hx he)
 have heq : ∀ x : U.El c, eqL ks (E.D.enc c k) (E.D.enc c x) = some (E.D.keq c k x) := fun x => Wsb _ _ _ _ (L.Wzy c ks k x e1)
 have hq : ∀ (i : Nat) (x : U.El c × U.El cv) (e : MapEntry), l[i]? = some x → es.toList[i]? = some e → (Op.equal kt X e.key).run E.P R.w = .ok (E.D.keq c k x.1) R.w := fun i x e hx he =>
  eqIn 8 kt ks e2 10000 (by omega) _ _ _ _ h.rep (hrep i x e hx (by simpa using he)) _ (heq x.1)
 refine ⟨?_, fun em => Qrc e2 h.ok h.rep (Qdj L e1 k) em, fun j p e hp he hb => ?_, fun j p e hp he hb hX => ?_⟩
 ·have hok := h.ok
  unfold Wzx at hok
  have wide : (match E.P.underlying kt with | some (.array _ _) | some (.struct _) => true | _ => false) = true →
    (Instr.findKey kt X es.toList).run E.P R.w = .ok (match fidx (E.D.keq c k) l 0 with | some j => (es.toList[j]?).map (fun e => (j, e.val)) | none => none) R.w := by
   intro hw
   rw [run_findKey_eq R.w hw]
   exact Qcc l es.toList 0 (by simpa using hl) hq
  split at hok
  ·rename_i q hu
   have hag : Wce E.P kt = false := by simp [Wce, hu]
   have hs : ∀ (i : Nat) (x : U.El c × U.El cv) (e : MapEntry), l[i]? = some x → es.toList[i]? = some e → Instr.sameNow (.int q) X e.key = some (E.D.keq c k x.1) := by
    intro i x e hx he
    have hre := hrep i x e hx (by simpa using he)
    rcases h.rep with ⟨g1, _⟩ | ⟨_, u, eu, hu1⟩
    ·rw [hag] at g1; cases g1
    ·rcases hre with ⟨g1, _⟩ | ⟨_, v, ev, hv1⟩
     ·rw [hag] at g1; cases g1
     ·have hk1 := heq x.1
      rw [eu, ev] at hk1
      have hks : ks = [0] := by
       have h1 := Zfc e2 hag
       cases ks with
       | nil => cases h1
       | cons z r => cases r with
        | nil => simp only [List.all_cons, List.all_nil, Bool.and_true] at e3; rw [← Z2 e3]
        | cons _ _ => simp at h1
      subst hks
      simp only [eqL] at hk1
      split at hk1
      ·rename_i a' b' ha' hb'
       simp only [Option.some.injEq] at hb' hk1
       subst hb'
       rw [Bool.and_true] at hk1
       subst hk1
       unfold eqV at ha'
       split at ha'
       ·obtain ⟨hkk, ha'⟩ := Zr ha'
        have hkk := eq_of_beq hkk
        simp only [Option.some.injEq] at ha'
        rw [hu1.Wbg, hv1.Wbg]
        simp only [Instr.sameNow, hkk, if_true, ha']
       ·rename_i z; cases z
       ·rename_i z; cases z
       ·cases ha'
      ·cases hk1
   have := Qqi (d := .int q) (X := X) (eq := E.D.keq c k) l es.toList 0 (by simpa using hl) hs
   exact MapKept.run_findKey hu this
  ·rename_i fs hu; exact wide (by rw [hu])
  ·rename_i n e hu; exact wide (by rw [hu])
  ·cases hok
 ·have hh := heq p.1
  rw [hb] at hh
  obtain ⟨h1, h2⟩ := Qqj ks _ _ e3 hh
  have hre := hrep j p e hp he
  rw [← h1] at hre
  obtain ⟨h3, h4⟩ := rep_same h.rep hre h2
  exact ⟨h3.symm, h4, h1⟩
 ·have hh := heq p.1
  rw [hb] at hh
  obtain ⟨h1, h2⟩ := Qmp ks _ _ _ e3 hh
  have hre := hrep j p e hp he
  rw [hX] at hre
  have := rep_inj h.rep hre h1 h2
  rw [← this] at hh
  have := Qqm ks _ _ e3 hh
  cases this
theorem zero_pack (L : Lawful E.D) {et : TypeId} {z : List (AV U)} {cv : U.C} {q : U.El cv} {va : Bool} (hz : zeroCells E et = some z) (hq : decs E.D cv 1 z = some [q]) (hva : Wys E.P et va = true) :
  ∃ y, (zeroValue et).run E.P R.w = .ok y R.w ∧ VR E.D R (Wcg va (E.D.enc cv q)) y := by
 obtain ⟨i, v, hi, hv, hl, hrel⟩ := Wiw hz
 have henc : z = E.D.enc cv q := by
  simp only [decs] at hq
  split at hq
  ·rename_i x r hx hr
   simp only [Option.some.injEq, List.cons.injEq] at hq
   obtain ⟨rfl, rfl⟩ := hq
   split at hr
   ·rename_i hd
    have := L.Wpc _ _ _ hx
    rw [← this]
    have h2 : z = z.take (E.D.size cv) ++ z.drop (E.D.size cv) := (List.take_append_drop _ _).symm
    rw [hd, List.append_nil] at h2
    exact h2
   ·cases hr
  ·cases hq
 refine ⟨v, by simp [zeroValue, Zdj R.w hi, hv], ?_⟩
 rw [← henc]
 unfold Wys at hva
 simp only [hi, hv] at hva
 have sc : v.cells = #[v] → va = false → VR E.D R (Wcg va z) v := by
  intro hc hva
  subst hva
  rw [hc] at hl
  cases z with
  | nil => simp at hl
  | cons x r => cases r with
   | nil => exact hrel E.D R 0 x v rfl (by rw [hc]; rfl)
   | cons _ _ => simp at hl
 cases v with
 | agg as =>
  simp only at hva
  subst hva
  exact .agg hl (fun j x y hx hy => hrel E.D R j x y hx hy)
 | tuple _ => cases hva
 | _ => exact sc rfl (by simpa using hva)
theorem Qmc (he : Wbx E) (h : SR E.D nt w0 N0 R s a) {o : Oper} {t : TypeId} {x ix : Operand} {ok : Bool} {K : AV U → Eff U → Option ρ} {r : ρ} (ho : o.op = .lookup t x ix ok)
  (hk : Whg E (lk s.o) t (s.op x) (s.op ix).drop ok K = some r) : Told E nt w0 N0 R s a o K r := by
 unfold Whg at hk
 split at hk
 ·rename_i kt et id hu hx
  split at hk
  ·rename_i w ka va ck cv l hob
   split at hk
   ·rename_i k z hkc hz
    split at hk
    ·rename_i q hq
     obtain ⟨hsh, hk9⟩ := Zr hk
     have hxv := h.op x
     rw [hx] at hxv
     obtain ⟨B, hhd, hy⟩ := hxv.Wfo
     obtain ⟨B', hhd', hor⟩ := h.objs id _ hob
     rw [hhd] at hhd'
     have hBB : B = B' := by
      cases B <;> cases B' <;> simp at hhd'
      ·rfl
      ·rw [hhd']
     subst hBB
     have hkey := keyC_ok he.law hkc (h.op ix).drop
     obtain ⟨zv, hzr, hzv⟩ := zero_pack (R := R) he.law hz hq hsh
     have fin : ∀ (res : Value) (b : Bool), VR E.D R (Wcg va (E.D.enc cv ((Wpq (E.D.keq ck k) l).getD q))) res → (Wpq (E.D.keq ck k) l).isSome = b →
       (Instr.lookup t (a.eval x) (a.eval ix) ok).run E.P R.w = .ok (if ok then .tuple #[res, .bool b] else res) R.w → Told E nt w0 N0 R s a o K r := by
      intro res b hres hb hrun
      refine Zah h hk9 (by simp only [execOp, ho]; exact Zbt hrun) ?_
      cases ok with
      | true =>
       simp only [if_true]
       refine .tup (by simp) (fun i u v hu hv => ?_)
       match i, hu, hv with
       | 0, hu, hv => simp at hu hv; subst hu; subst hv; exact hres
       | 1, hu, hv => simp at hu hv; subst hu; subst hv; rw [hb]; exact .flat _
      | false => simpa using hres
     rcases hor with ⟨rfl, rfl, _⟩ | ⟨b, es, clock, rfl, _, hheap, ⟨hl, hst⟩, hrel⟩
     ·refine fin zv false (by simpa [Wpq] using hzv) rfl ?_
      obtain ⟨hf, hc, _⟩ := Wkr he.law hkey (cv := cv) (l := []) (es := #[]) rfl (fun i x e hx => by simp at hx)
      have hc := hc true
      simp only [fidx] at hf
      rw [hy]
      simp only [Instr.lookup, Sem.run_bind, Zak R.w hu, Result.andThen_ok, Sem.run_pure]
      simp [hc, hf, hzr]
      all_goals (cases ok <;> rfl)
     ·obtain ⟨hf, hc, hfound, _⟩ := Wkr he.law hkey hl (fun i x e hx he' => (hrel i x e hx he').1)
      have hc := hc es.isEmpty
      have hmg := Wzr (eq := E.D.keq ck k) (l := l) (i := 0)
      cases hfi : fidx (E.D.keq ck k) l 0 with
      | none =>
       rw [hfi] at hf hmg
       refine fin zv false (by rw [hmg]; exact hzv) (by rw [hmg]; rfl) ?_
       rw [hy]
       simp only [Instr.lookup, Sem.run_bind, Zak R.w hu, Result.andThen_ok, Sem.run_pure, MapKept.run_getObj_map hheap, hc, hf, hzr]
       all_goals (cases ok <;> rfl)
      | some j =>
       obtain ⟨_, hjl, p, hp, _⟩ := Wje hfi
       simp only [Nat.sub_zero] at hp
       have hje : j < es.size := by omega
       have hej : es[j]? = some es[j] := Array.getElem?_eq_getElem hje
       rw [hfi] at hf hmg
       simp only [Nat.sub_zero, hp, Option.map_some] at hmg
       have hej2 : es.toList[j]? = some es[j] := by simp [hej]
       simp only [hej2, Option.map_some] at hf
       refine fin es[j].val true (by rw [hmg]; exact (hrel j p _ hp hej).2) (by rw [hmg]; rfl) ?_
       rw [hy]
       simp only [Instr.lookup, Sem.run_bind, Zak R.w hu, Result.andThen_ok, Sem.run_pure, MapKept.run_getObj_map hheap, hc, hf, Option.map_some]
       all_goals (cases ok <;> rfl)
    ·cases hk
   ·cases hk
  ·cases hk
 ·cases hk
theorem Qig (h : SR E.D nt w0 N0 R s a) {o : Oper} {t : TypeId} {K : AV U → Eff U → Option ρ} {r : ρ} (ho : o.op = .makeMap t none)
  (hk : Wmt E (lk s.o) t o.dst K = some r) : Told E nt w0 N0 R s a o K r := by
 unfold Wmt at hk
 split at hk
 ·rename_i kt et ck cv d hu hmp hd
  split at hk
  ·rename_i hfd
   refine ⟨_, _, hk, fun next Q hnext => ?_⟩
   unfold Oper.wp
   have hrun : (execOp a.eval o).run E.P R.w = .ok (.value (.map (some R.w.heap.size))) (R.w.alloc (.map #[] 0)) := by
    simp only [execOp, ho, Option.map_none]
    exact Zbt rfl
   rw [hrun]
   have hn := h.none d hfd
   have hle : R.le (R.fresh (.map #[] 0) d 0 (fun _ => True) (some (some ⟨R.w.heap.size, 0, none⟩, 0, 0))) := Rl.Whh hn.1 hn.2
   refine hnext _ _ hle (.mp (B := some R.w.heap.size) (by simp [Rl.fresh])) (h.freshG hfd ?_ (fun _ _ => True.intro))
   exact ⟨some R.w.heap.size, by simp [Rl.fresh], .inr ⟨R.w.heap.size, #[], 0, rfl, by simp [Rl.fresh], (MapKept.heap_alloc R.w _).1, ⟨rfl, MapKept.stamped_empty 0⟩, fun i x e hx => by simp at hx⟩⟩
  ·cases hk
 ·cases hk
theorem Wvs (he : Wbx E) (h : SR E.D nt w0 N0 R s a) {o : Oper} {t : TypeId} {m k v : Operand} {vv : AV U} {K : AV U → Eff U → Option ρ} {r : ρ} (ho : o.op = .mapUpdate t m k v ∨ o.op = .insert t m k v)
  (hvv : VR E.D R vv (a.eval v)) (hk : Wiy E (lk s.o) t (s.op m) (s.op k).drop vv K = some r) : Told E nt w0 N0 R s a o K r := by
 unfold Wiy at hk
 split at hk
 ·rename_i kt et id hu hx
  split at hk
  ·rename_i ka va ck cv l hob
   split at hk
   ·rename_i kk x hkc hdv
    have hxv := h.op m
    rw [hx] at hxv
    obtain ⟨B, hhd, hy⟩ := hxv.Wfo
    obtain ⟨B', hhd', hor⟩ := h.objs id _ hob
    have hhd0 := hhd
    rw [hhd] at hhd'
    have hBB : B = B' := by
     cases B <;> cases B' <;> simp at hhd'
     ·rfl
     ·rw [hhd']
    subst hBB
    have hkey := keyC_ok he.law hkc (h.op k).drop
    have hval := Qra (L := he.law) hdv hvv
    rcases hor with ⟨_, _, h0, _⟩ | ⟨b, es, clock, rfl, hblk, hheap, ⟨hl, hst⟩, hrel⟩
    ·cases h0
    obtain ⟨hf, hc, hfound, hmiss⟩ := Wkr he.law hkey hl (fun i x e hx he' => (hrel i x e hx he').1)
    have hc := hc false
    have hput := Qjh (eq := E.D.keq ck kk) (k := kk) (v := x) (l := l) (i := 0)
    have hbl : b < R.w.heap.size := (Array.getElem?_eq_some_iff.1 hheap).1
    have fin : ∀ (es' : Array MapEntry) (clock' : Nat), es'.size = (Woy (E.D.keq ck kk) kk x l).length → MapKept.Stamped es' clock' →
      (∀ (R' : Rl), R.le R' → ∀ (i : Nat) (p : U.El ck × U.El cv) (e : MapEntry), (Woy (E.D.keq ck kk) kk x l)[i]? = some p → es'[i]? = some e → VR E.D R' (Wcg ka (E.D.enc ck p.1)) e.key ∧ VR E.D R' (Wcg va (E.D.enc cv p.2)) e.val) →
      (Instr.mapUpdate t (a.eval m) (a.eval k) (a.eval v)).run E.P R.w = .ok () { R.w with heap := R.w.heap.setIfInBounds b (.map es' clock') } → Told E nt w0 N0 R s a o K r := by
     intro es' clock' hsz' hst' hrel' hrun
     refine ⟨_, _, hk, fun next Q hnext => ?_⟩
     unfold Oper.wp
     have hrun2 : (execOp a.eval o).run E.P R.w = .ok .skip { R.w with heap := R.w.heap.setIfInBounds b (.map es' clock') } := by
      rcases ho with ho | ho <;> simp only [execOp, ho, Sem.run_bind, hrun, Result.andThen_ok, Sem.run_pure] <;> rfl
     rw [hrun2]
     obtain ⟨g1, g2⟩ := MapKept.heap_set (o' := .map es' clock') hheap
     obtain ⟨hle, hsr⟩ := h.write (ob := .map true ka va ck cv (Woy (E.D.keq ck kk) kk x l)) (w' := { R.w with heap := R.w.heap.setIfInBounds b (.map es' clock') }) hob True.intro True.intro True.intro hblk (by simp) g2 rfl rfl rfl
      ⟨some b, hhd0, .inr ⟨b, es', clock', rfl, hblk, g1, ⟨hsz', hst'⟩, fun i p e hp he' => hrel' { R with w := { R.w with heap := R.w.heap.setIfInBounds b (.map es' clock') } } ⟨fun _ _ e => e, fun _ _ e => e, by simp, fun B i hB hn => ⟨Zdn (w' := { R.w with heap := R.w.heap.setIfInBounds b (.map es' clock') }) (g2 B (fun e => hn (e ▸ (h.own id _ b 0 hob True.intro hblk).1 True.intro i))), hn⟩⟩ i p e hp he'⟩⟩
     exact hnext _ _ hle (.undef _) hsr
    rw [hy] at fin
    cases hfi : fidx (E.D.keq ck kk) l 0 with
    | none =>
     rw [hfi] at hf hput
     refine fin (es.push { key := a.eval k, val := a.eval v, born := clock }) (clock + 1) (by rw [hput]; simp [hl]) (MapKept.stamped_push hst (fun e he' => ?_)) (fun R' hle i p e hp he' => ?_) ?_
     ·obtain ⟨i, hi⟩ := List.getElem?_of_mem he'
      have hi2 : es[i]? = some e := by simpa using hi
      have hlt : i < es.size := (Array.getElem?_eq_some_iff.1 hi2).1
      have hp := Z3 (show i < l.length by omega)
      exact hmiss i _ e hp hi2 (Qar hfi _ (List.mem_of_getElem? hp))
     ·rw [hput] at hp
      by_cases hlt : i < l.length
      ·rw [List.getElem?_append_left hlt] at hp
       rw [Array.getElem?_push, if_neg (by omega)] at he'
       exact ⟨(hrel i p e hp he').1.mono hle, (hrel i p e hp he').2.mono hle⟩
      ·rw [List.getElem?_append_right (by omega)] at hp
       have hi : i = l.length := by
        have := (List.getElem?_eq_some_iff.1 hp).1
        simp at this
        omega
       subst hi
       rw [Array.getElem?_push, if_pos hl.symm] at he'
       simp at hp he'
       subst hp; subst he'
       exact ⟨hkey.vr.mono hle, hval.mono hle⟩
     ·simp only [Instr.mapUpdate, Sem.run_bind, Zak R.w hu, Result.andThen_ok, Sem.run_pure, MapKept.run_getObj_map hheap, hc, hf, MapKept.run_setObj_map _ hheap]
    | some j =>
     obtain ⟨_, hjl, p0, hp0, hp1⟩ := Wje hfi
     simp only [Nat.sub_zero] at hp0
     have hje : j < es.size := by omega
     have hej : es[j]? = some es[j] := Array.getElem?_eq_getElem hje
     obtain ⟨hk1, hk2, hk3⟩ := hfound j p0 _ hp0 hej hp1
     rw [hfi] at hf hput
     simp only [Nat.sub_zero] at hput
     obtain ⟨p2, hp2, hput⟩ := hput
     rw [hp0] at hp2
     cases hp2
     have hej2 : es.toList[j]? = some es[j] := by simp [hej]
     simp only [hej2, Option.map_some] at hf
     refine fin (es.modify j fun e => { e with key := a.eval k, val := a.eval v }) clock (by rw [hput]; simp [hl]) (MapKept.stamped_modify hst j _ (fun _ _ => rfl) (fun e he' hee => ?_)) (fun R' hle i p e hp he' => ?_) ?_
     ·rw [hej] at hee
      cases hee
      exact hk1.symm
     ·rw [hput] at hp
      rw [Array.getElem?_modify] at he'
      by_cases hij : j = i
      ·subst hij
       rw [List.getElem?_set_self (by omega)] at hp
       rw [if_pos rfl, hej] at he'
       simp at hp he'
       subst hp; subst he'
       refine ⟨?_, hval.mono hle⟩
       have := hkey.vr
       rw [hk3] at this
       exact this.mono hle
      ·rw [List.getElem?_set_ne hij] at hp
       rw [if_neg hij] at he'
       exact ⟨(hrel i p e hp he').1.mono hle, (hrel i p e hp he').2.mono hle⟩
     ·have hkt : (Instr.keyThatStays es[j].key (a.eval k)).run E.P R.w = .ok (a.eval k) R.w := by
       rw [hk1]
       simp [Instr.keyThatStays, hk2]
      simp only [Instr.mapUpdate, Sem.run_bind, Zak R.w hu, Result.andThen_ok, Sem.run_pure, MapKept.run_getObj_map hheap, hc, hf, Option.map_some, hej, Option.getD_some, hkt, MapKept.run_setObj_map _ hheap]
   ·cases hk
  ·cases hk
 ·cases hk
end
end Go.Ev
