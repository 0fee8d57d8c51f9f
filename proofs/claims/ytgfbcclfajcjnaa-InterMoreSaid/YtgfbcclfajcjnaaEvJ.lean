import Derived.Test.YtgfbcclfajcjnaaEvQ
import Derived.MapKept
import Derived.Carry
import Derived.WideKeyRuns
universe u
namespace Go.Ev
set_option linter.unusedVariables false
set_option linter.unusedSimpArgs false
open Go.RowKit (Below)
variable {U : Univ} {ρ : Type}
section
variable {P : Program} {D : Codec U} {R : Rl}
theorem eqL_same : ∀ (ks : List Nat) (xs ys : List (AV U)), ks.all (Nat.beq 0) = true → eqL ks xs ys = some true → xs = ys ∧ ∀ x ∈ xs, ∃ k n, x = .flat (.int k n)
  | [], xs, ys, _, h => by
    cases xs <;> cases ys <;> simp [eqL] at h
    exact ⟨rfl, by simp⟩
  | k :: ks, [], ys, _, h => by cases ys <;> simp [eqL] at h
  | k :: ks, x :: xs, [], _, h => by simp [eqL] at h
  | k :: ks, x :: xs, y :: ys, hk, h => by
    simp only [List.all_cons, Bool.and_eq_true] at hk
    have hk0 := Nat.eq_of_beq_eq_true hk.1
    subst hk0
    simp only [eqL] at h
    split at h
    · rename_i a b ha hb
      simp only [Option.some.injEq, Bool.and_eq_true] at h
      obtain ⟨rfl, rfl⟩ := h
      obtain ⟨e, h2⟩ := eqL_same ks xs ys hk.2 hb
      subst e
      unfold eqV at ha
      split at ha
      · rename_i q n q' n'
        obtain ⟨hq, ha⟩ := cond_none ha
        have hq := eq_of_beq hq
        simp only [Option.some.injEq] at ha
        have := eq_of_beq ha
        subst hq; subst this
        refine ⟨rfl, fun z hz => ?_⟩
        rcases List.mem_cons.1 hz with rfl | hz
        · exact ⟨_, _, rfl⟩
        · exact h2 z hz
      · rename_i e; cases e
      · rename_i e; cases e
      · cases ha
    · cases h
theorem rep_same {t : TypeId} {xs : List (AV U)} {X Y : Value} (hX : Rep P D R t xs X) (hY : Rep P D R t xs Y) (hi : ∀ x ∈ xs, ∃ k n, x = .flat (.int k n)) : X = Y ∧ Instr.sameBits 10000 X X = true := by
  rcases hX with ⟨h1, as, rfl, hl, hv⟩ | ⟨h1, x, rfl, hv⟩
  · rcases hY with ⟨h1', bs, rfl, hl', hv'⟩ | ⟨h1', _⟩
    · have hint : ∀ i, i < as.size → ∃ k n, as[i]? = some (.int k n) ∧ bs[i]? = some (.int k n) := by
        intro i hi'
        have hx := List.getElem?_eq_getElem (show i < xs.length by omega)
        obtain ⟨k, n, e⟩ := hi _ (List.mem_of_getElem? hx)
        rw [e] at hx
        have ha : as[i]? = some as[i] := Array.getElem?_eq_getElem hi'
        have hb : bs[i]? = some (bs[i]'(by omega)) := Array.getElem?_eq_getElem (by omega)
        have e1 := (hv i _ _ hx ha).flat_inv
        have e2 := (hv' i _ _ hx hb).flat_inv
        exact ⟨k, n, by rw [ha, e1], by rw [hb, e2]⟩
      have e : as = bs := by
        apply Array.ext_getElem?
        intro i
        by_cases hi' : i < as.size
        · obtain ⟨k, n, e1, e2⟩ := hint i hi'
          rw [e1, e2]
        · rw [Array.getElem?_eq_none (by omega), Array.getElem?_eq_none (by omega)]
      subst e
      refine ⟨rfl, ?_⟩
      show Instr.sameBits (9999 + 1) (.agg as) (.agg as) = true
      simp only [Instr.sameBits, beq_self_eq_true, Bool.true_and]
      rw [List.all_eq_true]
      rintro ⟨u, v⟩ huv
      have : u = v ∧ u ∈ as.toList := by
        have h3 : ∀ (l : List Value), (u, v) ∈ l.zip l → u = v ∧ u ∈ l := by
          intro l
          induction l with
          | nil => intro h; cases h
          | cons z l ih =>
            intro h
            simp only [List.zip_cons_cons, List.mem_cons, Prod.mk.injEq] at h
            rcases h with ⟨rfl, rfl⟩ | h
            · exact ⟨rfl, by simp⟩
            · obtain ⟨h1, h2⟩ := ih h
              exact ⟨h1, List.mem_cons_of_mem _ h2⟩
        exact h3 _ huv
      obtain ⟨rfl, hu⟩ := this
      obtain ⟨i, hi'⟩ := List.getElem?_of_mem hu
      have hi2 : as[i]? = some u := by simpa using hi'
      have hlt : i < as.size := (Array.getElem?_eq_some_iff.1 hi2).1
      obtain ⟨k, n, e1, _⟩ := hint i hlt
      rw [hi2] at e1
      cases e1
      simp [Instr.sameBits]
    · rw [h1] at h1'; cases h1'
  · rcases hY with ⟨h1', _⟩ | ⟨_, y, hy, hv'⟩
    · rw [h1] at h1'; cases h1'
    · cases hy
      obtain ⟨k, n, rfl⟩ := hi x (by simp)
      rw [hv.flat_inv, hv'.flat_inv]
      exact ⟨rfl, by simp [Instr.sameBits]⟩
theorem leaf_check {t : TypeId} (h : leafB P t = true) (em : Bool) (n : Nat) (v : Value) (w : World) : (Instr.checkKey em (n + 1) t v).run P w = .ok () w := by
  unfold leafB at h
  split at h
  · rename_i k hu
    simp [Instr.checkKey, run_underlying' w hu]
  · cases h
theorem check_plain {t : TypeId} {ks : List Nat} {xs : List (AV U)} {X : Value} (h : plainEq P 8 t = some ks) (hk : keyOkB P t = true) (hX : Rep P D R t xs X) (hl : xs.length = ks.length) (em : Bool) :
    (Instr.checkKey em 10000 t X).run P R.w = .ok () R.w := by
  show (Instr.checkKey em (9998 + 1 + 1) t X).run P R.w = .ok () R.w
  unfold keyOkB at hk
  split at hk
  · rename_i k hu
    exact leaf_check (by unfold leafB; rw [hu]) em _ X R.w
  · rename_i fs hu
    have hag : isAggB P t = true := by simp [isAggB, hu]
    rcases hX with ⟨_, as, rfl, hxl, hxv⟩ | ⟨h1, _⟩
    · unfold plainEq at h
      simp only [hu] at h
      cases hst : P.stoodInHeld t with
      | true => simp [hst] at h
      | false =>
        simp only [hst, cond_false] at h
        rw [Instr.checkKey]
        simp only [Sem.run_bind, run_underlying' R.w hu, Result.andThen_ok]
        rw [← Array.forIn_toList]
        have go : ∀ (fl : List Field) (off : Nat) (ls : List Nat), (fl.all fun f => leafB P f.type) = true → plainFs P (plainEq P 7) fl off = some ls → off + ls.length ≤ xs.length →
            (forIn fl PUnit.unit (fun f _ => do
              if f.name ≠ "_" then Instr.checkKey em (9998 + 1) f.type (← part f.type as f.offset)
              pure (ForInStep.yield PUnit.unit)) : Sem PUnit).run P R.w = .ok PUnit.unit R.w := by
          intro fl
          induction fl with
          | nil => intro off ls _ _ _; simp
          | cons f fl ih =>
            intro off ls hf h1 hle
            simp only [List.all_cons, Bool.and_eq_true] at hf
            simp only [plainFs] at h1
            split at h1
            · rename_i kf hkf
              obtain ⟨hc, h1⟩ := cond_none h1
              simp only [Bool.and_eq_true, Bool.not_eq_true'] at hc
              obtain ⟨⟨hc1, hc2⟩, hc3⟩ := hc
              have hc1 := Nat.eq_of_beq_eq_true hc1
              have hc3 : szOf P f.type = some kf.length := by simpa [szOf] using hc3
              have hc2 : f.name ≠ "_" := by simpa using hc2
              simp only [Option.map_eq_some_iff] at h1
              obtain ⟨lr, hlr, rfl⟩ := h1
              simp only [List.length_append] at hle
              obtain ⟨X1, x1, x2⟩ := rep_part (P := P) (D := D) (R := R) (off := off) (plain_under hkf) hc3 (plain_one hkf) hxl (by omega) hxv
              have := ih (off + kf.length) lr hf.2 hlr (by omega)
              simp only [List.forIn_cons, if_pos hc2, Sem.run_bind, hc1, x1, Result.andThen_ok, leaf_check hf.1 em 9998 X1 R.w, Sem.run_pure]
              exact this
            · cases h1
        refine (congrArg (fun r => Result.andThen r _) (go fs.toList 0 ks hk h (by omega))).trans ?_
        rfl
    · rw [hag] at h1; cases h1
  · rename_i len e hu
    have hag : isAggB P t = true := by simp [isAggB, hu]
    rcases hX with ⟨_, as, rfl, hxl, hxv⟩ | ⟨h1, _⟩
    · unfold plainEq at h
      simp only [hu] at h
      split at h
      · rename_i ke hke
        obtain ⟨hc, h⟩ := cond_none h
        have hc : szOf P e = some ke.length := by simpa [szOf] using hc
        simp only [Option.some.injEq] at h
        subst h
        rw [Instr.checkKey]
        simp only [Sem.run_bind, run_underlying' R.w hu, Result.andThen_ok]
        simp only [Std.Legacy.Range.forIn_eq_forIn_range', Std.Legacy.Range.size, Nat.sub_zero, Nat.add_one_sub_one, Nat.div_one]
        have hlen : xs.length = len * ke.length := by rw [hl]; simp
        have go : ∀ (n i : Nat), i + n = len →
            (forIn (List.range' i n) PUnit.unit (fun i _ => do
              Instr.checkKey em (9998 + 1) e (← part e as (i * (← sizeOf e)))
              pure (ForInStep.yield PUnit.unit)) : Sem PUnit).run P R.w = .ok PUnit.unit R.w := by
          intro n
          induction n with
          | zero => intro i _; simp
          | succ n ih =>
            intro i hi
            have hle : i * ke.length + ke.length ≤ xs.length := by rw [hlen, ← Nat.succ_mul]; exact Nat.mul_le_mul_right _ (by omega)
            obtain ⟨X1, x1, x2⟩ := rep_part (P := P) (D := D) (R := R) (off := i * ke.length) (plain_under hke) hc (plain_one hke) hxl hle hxv
            have := ih (i + 1) (by omega)
            simp only [List.range'_succ, List.forIn_cons, Sem.run_bind, run_sizeOf' R.w hc, Result.andThen_ok, x1, leaf_check hk em 9998 X1 R.w, Sem.run_pure]
            exact this
        refine (congrArg (fun r => Result.andThen r _) (go len 0 (by omega))).trans ?_
        rfl
      · cases h
    · rw [hag] at h1; cases h1
  · cases hk
end
section
variable {P : Program} {D : Codec U} {R : Rl}
theorem eqL_int : ∀ (ks : List Nat) (xs ys : List (AV U)) (b : Bool), ks.all (Nat.beq 0) = true → eqL ks xs ys = some b → (∀ x ∈ xs, ∃ k n, x = .flat (.int k n)) ∧ (∀ y ∈ ys, ∃ k n, y = .flat (.int k n))
  | [], xs, ys, b, _, h => by
    cases xs <;> cases ys <;> simp [eqL] at h
    simp
  | k :: ks, [], ys, b, _, h => by cases ys <;> simp [eqL] at h
  | k :: ks, x :: xs, [], b, _, h => by simp [eqL] at h
  | k :: ks, x :: xs, y :: ys, b, hk, h => by
    simp only [List.all_cons, Bool.and_eq_true] at hk
    have hk0 := Nat.eq_of_beq_eq_true hk.1
    subst hk0
    simp only [eqL] at h
    split at h
    · rename_i a c ha hb
      obtain ⟨h1, h2⟩ := eqL_int ks xs ys c hk.2 hb
      unfold eqV at ha
      split at ha
      · refine ⟨fun z hz => ?_, fun z hz => ?_⟩
        · rcases List.mem_cons.1 hz with rfl | hz
          · exact ⟨_, _, rfl⟩
          · exact h1 z hz
        · rcases List.mem_cons.1 hz with rfl | hz
          · exact ⟨_, _, rfl⟩
          · exact h2 z hz
      · rename_i e; cases e
      · rename_i e; cases e
      · cases ha
    · cases h
theorem eqL_refl : ∀ (ks : List Nat) (xs : List (AV U)) (b : Bool), ks.all (Nat.beq 0) = true → eqL ks xs xs = some b → b = true
  | [], xs, b, _, h => by cases xs <;> simp [eqL] at h; exact h
  | k :: ks, [], b, _, h => by simp [eqL] at h
  | k :: ks, x :: xs, b, hk, h => by
    simp only [List.all_cons, Bool.and_eq_true] at hk
    have hk0 := Nat.eq_of_beq_eq_true hk.1
    subst hk0
    simp only [eqL] at h
    split at h
    · rename_i a c ha hb
      have := eqL_refl ks xs c hk.2 hb
      subst this
      unfold eqV at ha
      split at ha
      · rename_i q n q' n' _ e2
        cases e2
        simp only [beq_self_eq_true, cond_true, Option.some.injEq] at ha
        subst ha
        simpa using h.symm
      · rename_i e _; cases e
      · rename_i e _; cases e
      · cases ha
    · cases h
theorem rep_inj {t : TypeId} {xs ys : List (AV U)} {X : Value} (hX : Rep P D R t xs X) (hY : Rep P D R t ys X) (hi : ∀ x ∈ xs, ∃ k n, x = .flat (.int k n)) (hj : ∀ x ∈ ys, ∃ k n, x = .flat (.int k n)) : xs = ys := by
  rcases hX with ⟨h1, as, rfl, hl, hv⟩ | ⟨h1, x, rfl, hv⟩
  · rcases hY with ⟨h1', bs, e, hl', hv'⟩ | ⟨h1', _⟩
    · cases e
      apply List.ext_getElem?
      intro i
      by_cases hlt : i < as.size
      · have hx := List.getElem?_eq_getElem (show i < xs.length by omega)
        have hy := List.getElem?_eq_getElem (show i < ys.length by omega)
        obtain ⟨k, n, e1⟩ := hi _ (List.mem_of_getElem? hx)
        obtain ⟨k', n', e2⟩ := hj _ (List.mem_of_getElem? hy)
        rw [e1] at hx
        rw [e2] at hy
        have ha : as[i]? = some as[i] := Array.getElem?_eq_getElem hlt
        have g1 := (hv i _ _ hx ha).flat_inv
        have g2 := (hv' i _ _ hy ha).flat_inv
        rw [hx, hy, ← g1, ← g2]
      · rw [List.getElem?_eq_none (by omega), List.getElem?_eq_none (by omega)]
    · rw [h1] at h1'; cases h1'
  · rcases hY with ⟨h1', _⟩ | ⟨_, y, rfl, hv'⟩
    · rw [h1] at h1'; cases h1'
    · obtain ⟨k, n, rfl⟩ := hi x (by simp)
      obtain ⟨k', n', rfl⟩ := hj y (by simp)
      have g1 := hv.flat_inv
      have g2 := hv'.flat_inv
      rw [← g1, ← g2]
theorem datum_vr {L : Lawful D} {c : U.C} {g : Bool} {v : AV U} {x : U.El c} {X : Value} (h : datum D c g v = some x) (hv : VR D R v X) : VR D R (packV g (D.enc c x)) X := by
  unfold datum at h
  split at h
  · rw [← L.dec_enc _ _ _ h]; exact hv
  · cases h
  · cases h
  · rw [← L.dec_enc _ _ _ h]; exact hv
  · cases h
theorem rep_pack {t : TypeId} {c : U.C} {g : Bool} {x : U.El c} {X : Value} (hg : g = isAggB P t) (hl : isAggB P t = false → (D.enc c x).length = 1) (hv : VR D R (packV g (D.enc c x)) X) : Rep P D R t (D.enc c x) X := by
  cases g with
  | true =>
    obtain ⟨as, rfl, h1, h2⟩ := hv.agg_inv
    exact .inl ⟨hg.symm, as, rfl, h1, h2⟩
  | false =>
    have := hl hg.symm
    obtain ⟨v, e⟩ : ∃ v, D.enc c x = [v] := by
      cases he : D.enc c x with
      | nil => rw [he] at this; cases this
      | cons v r => rw [he] at this; cases r with
        | nil => exact ⟨v, rfl⟩
        | cons _ _ => simp at this
    rw [e] at hv
    exact .inr ⟨hg.symm, v, e, hv⟩
def fidx {α β : Type} (eq : α → Bool) : List (α × β) → Nat → Option Nat
  | [], _ => none
  | p :: r, i => cond (eq p.1) (some i) (fidx eq r (i + 1))
theorem fidx_ge {α β : Type} {eq : α → Bool} : ∀ {l : List (α × β)} {i j : Nat}, fidx eq l i = some j → i ≤ j ∧ j < i + l.length ∧ ∃ p, l[j - i]? = some p ∧ eq p.1 = true
  | [], i, j, h => by cases h
  | p :: r, i, j, h => by
    simp only [fidx] at h
    cases hb : eq p.1 with
    | true =>
      rw [hb] at h
      cases h
      exact ⟨Nat.le_refl _, by simp, p, by simp, hb⟩
    | false =>
      rw [hb] at h
      obtain ⟨h1, h2, p', h3, h4⟩ := fidx_ge (show fidx eq r (i + 1) = some j from h)
      refine ⟨by omega, by simp; omega, p', ?_, h4⟩
      rw [show j - i = (j - (i + 1)) + 1 by omega, List.getElem?_cons_succ]
      exact h3
theorem fidx_none {α β : Type} {eq : α → Bool} : ∀ {l : List (α × β)} {i : Nat}, fidx eq l i = none → ∀ p ∈ l, eq p.1 = false
  | [], i, _, p, hp => by cases hp
  | q :: r, i, h, p, hp => by
    simp only [fidx] at h
    cases hb : eq q.1 with
    | true => rw [hb] at h; cases h
    | false =>
      rw [hb] at h
      rcases List.mem_cons.1 hp with rfl | hp
      · exact hb
      · exact fidx_none (show fidx eq r (i + 1) = none from h) p hp
theorem mget_fidx {α β : Type} {eq : α → Bool} : ∀ {l : List (α × β)} {i : Nat}, mget eq l = match fidx eq l i with | some j => (l[j - i]?).map (·.2) | none => none
  | [], i => rfl
  | p :: r, i => by
    simp only [mget, fidx]
    cases hb : eq p.1 with
    | true => simp
    | false =>
      simp only [cond_false]
      rw [mget_fidx (l := r) (i := i + 1)]
      cases hf : fidx eq r (i + 1) with
      | none => rfl
      | some j =>
        have := (fidx_ge hf).1
        simp only
        rw [show j - i = (j - (i + 1)) + 1 by omega, List.getElem?_cons_succ]
theorem mput_fidx {α β : Type} {eq : α → Bool} {k : α} {v : β} : ∀ {l : List (α × β)} {i : Nat}, match fidx eq l i with
    | some j => ∃ p, l[j - i]? = some p ∧ mput eq k v l = l.set (j - i) (p.1, v)
    | none => mput eq k v l = l ++ [(k, v)]
  | [], i => rfl
  | p :: r, i => by
    simp only [mput, fidx]
    cases hb : eq p.1 with
    | true => simp
    | false =>
      simp only [cond_false]
      have := mput_fidx (eq := eq) (k := k) (v := v) (l := r) (i := i + 1)
      cases hf : fidx eq r (i + 1) with
      | none => rw [hf] at this; simp only at this ⊢; rw [this]; rfl
      | some j =>
        rw [hf] at this
        have hge := (fidx_ge hf).1
        simp only at this ⊢
        obtain ⟨q, h1, h2⟩ := this
        rw [show j - i = (j - (i + 1)) + 1 by omega, List.getElem?_cons_succ]
        exact ⟨q, h1, by rw [h2, List.set_cons_succ]⟩
theorem find_asking {α β : Type} {kt : TypeId} {X : Value} {eq : α → Bool} : ∀ (l : List (α × β)) (es : List MapEntry) (off : Nat), es.length = l.length →
    (∀ (i : Nat) (p : α × β) (e : MapEntry), l[i]? = some p → es[i]? = some e → (Op.equal kt X e.key).run P R.w = .ok (eq p.1) R.w) →
    (Instr.findAsking kt X es off).run P R.w = .ok (match fidx eq l off with | some j => (es[j - off]?).map (fun e => (j, e.val)) | none => none) R.w
  | [], [], off, _, _ => rfl
  | [], _ :: _, _, h, _ => by cases h
  | _ :: _, [], _, h, _ => by cases h
  | p :: l, e :: es, off, hl, hq => by
    have h0 := hq 0 p e rfl rfl
    have ih := find_asking l es (off + 1) (by simpa using hl) (fun i p' e' h1 h2 => hq (i + 1) p' e' (by simpa using h1) (by simpa using h2))
    simp only [Instr.findAsking, Sem.run_bind, h0, Result.andThen_ok, fidx]
    cases hb : eq p.1 with
    | true => simp
    | false =>
      simp only [Bool.false_eq_true, if_false, cond_false]
      rw [ih]
      cases hf : fidx eq l (off + 1) with
      | none => rfl
      | some j =>
        have := (fidx_ge hf).1
        simp only
        rw [show j - off = (j - (off + 1)) + 1 by omega, List.getElem?_cons_succ]
theorem find_now {α β : Type} {d : TypeDesc} {X : Value} {eq : α → Bool} : ∀ (l : List (α × β)) (es : List MapEntry) (off : Nat), es.length = l.length →
    (∀ (i : Nat) (p : α × β) (e : MapEntry), l[i]? = some p → es[i]? = some e → Instr.sameNow d X e.key = some (eq p.1)) →
    Instr.findNow d X es off = some (match fidx eq l off with | some j => (es[j - off]?).map (fun e => (j, e.val)) | none => none)
  | [], [], off, _, _ => rfl
  | [], _ :: _, _, h, _ => by cases h
  | _ :: _, [], _, h, _ => by cases h
  | p :: l, e :: es, off, hl, hq => by
    have h0 := hq 0 p e rfl rfl
    have ih := find_now l es (off + 1) (by simpa using hl) (fun i p' e' h1 h2 => hq (i + 1) p' e' (by simpa using h1) (by simpa using h2))
    simp only [Instr.findNow, h0, fidx]
    cases hb : eq p.1 with
    | true => simp
    | false =>
      simp only [cond_false]
      rw [ih]
      cases hf : fidx eq l (off + 1) with
      | none => rfl
      | some j =>
        have := (fidx_ge hf).1
        simp only
        rw [show j - off = (j - (off + 1)) + 1 by omega, List.getElem?_cons_succ]
end
section
variable {E : Env U} {nt : Nat} {w0 : Cx} {N0 : Nat → Nat → Prop} {R : Rl} {s : St U} {a : Act}
structure KeyOk (E : Env U) (R : Rl) (kt : TypeId) (c : U.C) (g : Bool) (k : U.El c) (X : Value) : Prop where
  ks : ∃ ks, E.D.kinds c = some ks ∧ plainEq E.P 8 kt = some ks ∧ ks.all (Nat.beq 0) = true
  ok : keyOkB E.P kt = true
  ag : g = isAggB E.P kt
  rep : Rep E.P E.D R kt (E.D.enc c k) X
  vr : VR E.D R (packV g (E.D.enc c k)) X
theorem key_len (L : Lawful E.D) {c : U.C} {ks : List Nat} (h : E.D.kinds c = some ks) (x : U.El c) : (E.D.enc c x).length = ks.length := (eqL_len _ _ _ _ (eqF_eqL _ _ _ _ (L.keq_ok c ks x x h))).1
theorem keyC_ok (L : Lawful E.D) {kt : TypeId} {c : U.C} {g : Bool} {v : AV U} {k : U.El c} {X : Value} (h : keyC E kt c g v = some k) (hv : VR E.D R v X) : KeyOk E R kt c g k X := by
  unfold keyC at h
  split at h
  · rename_i ks ks' e1 e2
    obtain ⟨hc, h9⟩ := cond_none h
    simp only [Bool.and_eq_true] at hc
    obtain ⟨⟨⟨hk, ha⟩, hok⟩, hg⟩ := hc
    have hk := eq_of_beq hk
    have hg := eq_of_beq hg
    subst hk
    have hvr := datum_vr (L := L) h9 hv
    exact ⟨⟨ks, e1, e2, ha⟩, hok, hg, rep_pack hg (fun hh => by rw [key_len L e1]; exact plain_one e2 hh) hvr, hvr⟩
  · cases h
theorem keyOk_find (L : Lawful E.D) {kt : TypeId} {c : U.C} {β : Type} {g : Bool} {k : U.El c} {X : Value} (h : KeyOk E R kt c g k X) {l : List (U.El c × β)} {es : Array MapEntry} (hl : es.size = l.length)
    (hr : ∀ (i : Nat) (x : U.El c × β) (e : MapEntry), l[i]? = some x → es[i]? = some e → VR E.D R (packV g (E.D.enc c x.1)) e.key) :
    (Instr.findKey kt X es.toList).run E.P R.w = .ok (match fidx (E.D.keq c k) l 0 with | some j => (es.toList[j]?).map (fun e => (j, e.val)) | none => none) R.w ∧
    (∀ em, (Instr.checkKey em 10000 kt X).run E.P R.w = .ok () R.w) ∧
    (∀ (j : Nat) (p : U.El c × β) (e : MapEntry), l[j]? = some p → es[j]? = some e → E.D.keq c k p.1 = true → e.key = X ∧ Instr.sameBits 10000 X X = true ∧ E.D.enc c k = E.D.enc c p.1) ∧
    (∀ (j : Nat) (p : U.El c × β) (e : MapEntry), l[j]? = some p → es[j]? = some e → E.D.keq c k p.1 = false → e.key ≠ X) := by
  obtain ⟨ks, e1, e2, e3⟩ := h.ks
  have hrep : ∀ (i : Nat) (x : U.El c × β) (e : MapEntry), l[i]? = some x → es[i]? = some e → Rep E.P E.D R kt (E.D.enc c x.1) e.key := fun i x e hx he =>
    rep_pack h.ag (fun hh => by rw [key_len L e1]; exact plain_one e2 hh) (hr i x e hx he)
  have heq : ∀ x : U.El c, eqL ks (E.D.enc c k) (E.D.enc c x) = some (E.D.keq c k x) := fun x => eqF_eqL _ _ _ _ (L.keq_ok c ks k x e1)
  have hq : ∀ (i : Nat) (x : U.El c × β) (e : MapEntry), l[i]? = some x → es.toList[i]? = some e → (Op.equal kt X e.key).run E.P R.w = .ok (E.D.keq c k x.1) R.w := fun i x e hx he =>
    eqIn 8 kt ks e2 10000 (by omega) _ _ _ _ h.rep (hrep i x e hx (by simpa using he)) _ (heq x.1)
  refine ⟨?_, fun em => check_plain e2 h.ok h.rep (key_len L e1 k) em, fun j p e hp he hb => ?_, fun j p e hp he hb hX => ?_⟩
  · have hok := h.ok
    unfold keyOkB at hok
    have wide : (match E.P.underlying kt with | some (.array _ _) | some (.struct _) => true | _ => false) = true →
        (Instr.findKey kt X es.toList).run E.P R.w = .ok (match fidx (E.D.keq c k) l 0 with | some j => (es.toList[j]?).map (fun e => (j, e.val)) | none => none) R.w := by
      intro hw
      rw [run_findKey_eq R.w hw]
      exact find_asking l es.toList 0 (by simpa using hl) hq
    split at hok
    · rename_i q hu
      have hag : isAggB E.P kt = false := by simp [isAggB, hu]
      have hs : ∀ (i : Nat) (x : U.El c × β) (e : MapEntry), l[i]? = some x → es.toList[i]? = some e → Instr.sameNow (.int q) X e.key = some (E.D.keq c k x.1) := by
        intro i x e hx he
        have hre := hrep i x e hx (by simpa using he)
        rcases h.rep with ⟨g1, _⟩ | ⟨_, u, eu, hu1⟩
        · rw [hag] at g1; cases g1
        · rcases hre with ⟨g1, _⟩ | ⟨_, v, ev, hv1⟩
          · rw [hag] at g1; cases g1
          · have hk1 := heq x.1
            rw [eu, ev] at hk1
            have hks : ks = [0] := by
              have h1 := plain_one e2 hag
              cases ks with
              | nil => cases h1
              | cons z r => cases r with
                | nil => simp only [List.all_cons, List.all_nil, Bool.and_true] at e3; rw [← Nat.eq_of_beq_eq_true e3]
                | cons _ _ => simp at h1
            subst hks
            simp only [eqL] at hk1
            split at hk1
            · rename_i a' b' ha' hb'
              simp only [Option.some.injEq] at hb' hk1
              subst hb'
              rw [Bool.and_true] at hk1
              subst hk1
              unfold eqV at ha'
              split at ha'
              · obtain ⟨hkk, ha'⟩ := cond_none ha'
                have hkk := eq_of_beq hkk
                simp only [Option.some.injEq] at ha'
                rw [hu1.flat_inv, hv1.flat_inv]
                simp only [Instr.sameNow, hkk, if_true, ha']
              · rename_i z; cases z
              · rename_i z; cases z
              · cases ha'
            · cases hk1
      have := find_now (d := .int q) (X := X) (eq := E.D.keq c k) l es.toList 0 (by simpa using hl) hs
      exact MapKept.run_findKey hu this
    · rename_i fs hu; exact wide (by rw [hu])
    · rename_i n e hu; exact wide (by rw [hu])
    · cases hok
  · have hh := heq p.1
    rw [hb] at hh
    obtain ⟨h1, h2⟩ := eqL_same ks _ _ e3 hh
    have hre := hrep j p e hp he
    rw [← h1] at hre
    obtain ⟨h3, h4⟩ := rep_same h.rep hre h2
    exact ⟨h3.symm, h4, h1⟩
  · have hh := heq p.1
    rw [hb] at hh
    obtain ⟨h1, h2⟩ := eqL_int ks _ _ _ e3 hh
    have hre := hrep j p e hp he
    rw [hX] at hre
    have := rep_inj h.rep hre h1 h2
    rw [← this] at hh
    have := eqL_refl ks _ _ e3 hh
    cases this
theorem zero_pack (L : Lawful E.D) {et : TypeId} {z : List (AV U)} {cv : U.C} {q : U.El cv} {va : Bool} (hz : zeroCells E et = some z) (hq : decs E.D cv 1 z = some [q]) (hva : zeroShape E.P et va = true) :
    ∃ y, (zeroValue et).run E.P R.w = .ok y R.w ∧ VR E.D R (packV va (E.D.enc cv q)) y := by
  obtain ⟨i, v, hi, hv, hl, hrel⟩ := zeroCells_inv hz
  have henc : z = E.D.enc cv q := by
    simp only [decs] at hq
    split at hq
    · rename_i x r hx hr
      simp only [Option.some.injEq, List.cons.injEq] at hq
      obtain ⟨rfl, rfl⟩ := hq
      split at hr
      · rename_i hd
        have := L.dec_enc _ _ _ hx
        rw [← this]
        have h2 : z = z.take (E.D.size cv) ++ z.drop (E.D.size cv) := (List.take_append_drop _ _).symm
        rw [hd, List.append_nil] at h2
        exact h2
      · cases hr
    · cases hq
  refine ⟨v, by simp [zeroValue, run_typeInfo' R.w hi, hv], ?_⟩
  rw [← henc]
  unfold zeroShape at hva
  simp only [hi, hv] at hva
  have sc : v.cells = #[v] → va = false → VR E.D R (packV va z) v := by
    intro hc hva
    subst hva
    rw [hc] at hl
    cases z with
    | nil => simp at hl
    | cons x r => cases r with
      | nil => exact hrel E.D R 0 x v rfl (by rw [hc]; rfl)
      | cons _ _ => simp at hl
  cases v with
  | agg as =>
    simp only at hva
    subst hva
    exact .agg hl (fun j x y hx hy => hrel E.D R j x y hx hy)
  | tuple _ => cases hva
  | _ => exact sc rfl (by simpa using hva)
theorem keq_same (L : Lawful E.D) {c : U.C} {ks : List Nat} (h : E.D.kinds c = some ks) (h0 : ks.all (Nat.beq 0) = true) {x y : U.El c} (hk : E.D.keq c x y = true) : E.D.enc c x = E.D.enc c y :=
  (eqL_same ks _ _ h0 (by rw [eqF_eqL _ _ _ _ (L.keq_ok c ks x y h), hk])).1
theorem keq_of (L : Lawful E.D) {c : U.C} {ks : List Nat} (h : E.D.kinds c = some ks) (h0 : ks.all (Nat.beq 0) = true) {x y : U.El c} (he : E.D.enc c x = E.D.enc c y) : E.D.keq c x y = true := by
  have h1 := eqF_eqL _ _ _ _ (L.keq_ok c ks x y h)
  rw [← he] at h1
  exact eqL_refl ks _ _ h0 h1
theorem mget_filter {α β : Type} {eq : α → Bool} : ∀ {l : List (α × β)}, mget eq l = ((l.filter fun p => eq p.1).head?).map (·.2)
  | [] => rfl
  | p :: r => by
    cases hb : eq p.1 with
    | true => simp [mget, hb]
    | false => simp [mget, hb, mget_filter (l := r)]
theorem filter_one {α β : Type} {eq : α → α → Bool} {f : α → Bool} (hf : ∀ x y, f x = true → f y = true → eq x y = true) : ∀ {l : List (α × β)}, nodK eq l = true → (l.filter fun p => f p.1).length ≤ 1
  | [], _ => by simp
  | p :: r, h => by
    simp only [nodK, Bool.and_eq_true] at h
    have ih := filter_one hf h.2
    cases hb : f p.1 with
    | false => simpa [hb] using ih
    | true =>
      have : (r.filter fun q => f q.1) = [] := by
        rw [List.filter_eq_nil_iff]
        intro q hq hfq
        have := List.all_eq_true.1 h.1 q hq
        rw [hf p.1 q.1 hb hfq] at this
        cases this
      simp [hb, this]
theorem perm_one {α : Type} {l m : List α} (h : l.Perm m) (h1 : m.length ≤ 1) : l = m := by
  cases m with
  | nil => exact h.eq_nil
  | cons x r =>
    cases r with
    | nil => exact List.perm_singleton.1 h
    | cons y r => simp at h1
theorem mget_perm (L : Lawful E.D) {c : U.C} {β : Type} {ks : List Nat} (h : E.D.kinds c = some ks) (h0 : ks.all (Nat.beq 0) = true) {l m : List (U.El c × β)} (hp : l.Perm m) (hn : nodK (E.D.keq c) m = true) (k : U.El c) : mget (E.D.keq c k) l = mget (E.D.keq c k) m := by
  rw [mget_filter, mget_filter, perm_one (hp.filter _) (filter_one (fun x y hx hy => ?_) hn)]
  exact keq_of L h h0 ((keq_same L h h0 hx).symm.trans (keq_same L h h0 hy))
def HoldsM (D : Codec U) (R : Rl) (B : Option Nat) (ka va : Bool) (ck cv : U.C) (l : List (U.El ck × U.El cv)) : Prop :=
  (B = none ∧ l = []) ∨ ∃ b es clock, B = some b ∧ R.w.heap[b]? = some (.map es clock) ∧ (es.size = l.length ∧ MapKept.Stamped es clock) ∧ ∀ (i : Nat) (x : U.El ck × U.El cv) (e : MapEntry), l[i]? = some x → es[i]? = some e →
    VR D R (packV ka (D.enc ck x.1)) e.key ∧ VR D R (packV va (D.enc cv x.2)) e.val
theorem VR.fm_inv {D : Codec U} {R : Rl} {ka va : Bool} {ck cv : U.C} {l : List (U.El ck × U.El cv)} {y : Value} (h : VR D R (.fm ka va ck cv l) y) :
    ∃ B l', y = .map B ∧ (l' = l ∨ (l'.Perm l ∧ nodK (D.keq ck) l = true)) ∧ HoldsM D R B ka va ck cv l' := by
  generalize hx : AV.fm ka va ck cv l = x at h
  induction h generalizing l with
  | fmnil => cases hx; exact ⟨none, [], rfl, .inl rfl, .inl ⟨rfl, rfl⟩⟩
  | fm hB hm hN hs st hk hv => cases hx; exact ⟨some _, _, rfl, .inl rfl, .inr ⟨_, _, _, rfl, hm, ⟨hs, st⟩, fun i x e h1 h2 => ⟨hk i x e h1 h2, hv i x e h1 h2⟩⟩⟩
  | fmp hp hn h ih =>
    cases hx
    obtain ⟨B, l', h1, h2, h3⟩ := ih rfl
    refine ⟨B, l', h1, .inr ⟨?_, hn⟩, h3⟩
    rcases h2 with rfl | h2
    · exact hp
    · exact h2.1.trans hp
  | _ => cases hx
theorem look_run (he : EnvOk E) {B : Option Nat} {t kt et : TypeId} {ka va ok : Bool} {ck cv : U.C} {l : List (U.El ck × U.El cv)} {k : U.El ck} {X : Value} {z : List (AV U)} {q : U.El cv} (hu : E.P.underlying t = some (.map kt et))
    (hor : HoldsM E.D R B ka va ck cv l) (hkey : KeyOk E R kt ck ka k X) (hz : zeroCells E et = some z) (hq : decs E.D cv 1 z = some [q]) (hsh : zeroShape E.P et va = true) :
    ∃ res, VR E.D R (packV va (E.D.enc cv ((mget (E.D.keq ck k) l).getD q))) res ∧ (Instr.lookup t (.map B) X ok).run E.P R.w = .ok (if ok then .tuple #[res, .bool (mget (E.D.keq ck k) l).isSome] else res) R.w := by
  obtain ⟨zv, hzr, hzv⟩ := zero_pack (R := R) he.law hz hq hsh
  rcases hor with ⟨rfl, rfl⟩ | ⟨b, es, clock, rfl, hheap, ⟨hl, hst⟩, hrel⟩
  · obtain ⟨hf, hc, _⟩ := keyOk_find he.law hkey (β := U.El cv) (l := []) (es := #[]) rfl (fun i x e hx => by simp at hx)
    have hc := hc true
    simp only [fidx] at hf
    refine ⟨zv, by simpa [mget] using hzv, ?_⟩
    simp only [Instr.lookup, Sem.run_bind, run_underlying' R.w hu, Result.andThen_ok, Sem.run_pure]
    simp [hc, hf, hzr, mget]
    all_goals (cases ok <;> rfl)
  · obtain ⟨hf, hc, hfound, _⟩ := keyOk_find he.law hkey hl (fun i x e hx he' => (hrel i x e hx he').1)
    have hc := hc es.isEmpty
    have hmg := mget_fidx (eq := E.D.keq ck k) (l := l) (i := 0)
    cases hfi : fidx (E.D.keq ck k) l 0 with
    | none =>
      rw [hfi] at hf hmg
      refine ⟨zv, by rw [hmg]; exact hzv, ?_⟩
      rw [hmg]
      simp only [Instr.lookup, Sem.run_bind, run_underlying' R.w hu, Result.andThen_ok, Sem.run_pure, MapKept.run_getObj_map hheap, hc, hf, hzr]
      all_goals (cases ok <;> rfl)
    | some j =>
      obtain ⟨_, hjl, p, hp, _⟩ := fidx_ge hfi
      simp only [Nat.sub_zero] at hp
      have hje : j < es.size := by omega
      have hej : es[j]? = some es[j] := Array.getElem?_eq_getElem hje
      rw [hfi] at hf hmg
      simp only [Nat.sub_zero, hp, Option.map_some] at hmg
      have hej2 : es.toList[j]? = some es[j] := by simp [hej]
      simp only [hej2, Option.map_some] at hf
      refine ⟨es[j].val, by rw [hmg]; exact (hrel j p _ hp hej).2, ?_⟩
      rw [hmg]
      simp only [Instr.lookup, Sem.run_bind, run_underlying' R.w hu, Result.andThen_ok, Sem.run_pure, MapKept.run_getObj_map hheap, hc, hf, Option.map_some]
      all_goals (cases ok <;> rfl)
theorem look_vr {va ok : Bool} {cv : U.C} {x : U.El cv} {b : Bool} {res : Value} (h : VR E.D R (packV va (E.D.enc cv x)) res) :
    VR E.D R (match ok with | true => .tup [packV va (E.D.enc cv x), .flat (.bool b)] | false => packV va (E.D.enc cv x)) (if ok then .tuple #[res, .bool b] else res) := by
  cases ok with
  | true =>
    simp only [if_true]
    refine .tup (by simp) (fun i u v hu hv => ?_)
    match i, hu, hv with
    | 0, hu, hv => simp at hu hv; subst hu; subst hv; exact h
    | 1, hu, hv => simp at hu hv; subst hu; subst hv; exact .flat _
  | false => simpa using h
theorem lookK_run (he : EnvOk E) {t : TypeId} {x ix : AV U} {X IX : Value} {ok : Bool} {K : AV U → Option ρ} {r : ρ} (hx : VR E.D R x X) (hix : VR E.D R ix IX) (hk : lookK E t x ix ok K = some r) :
    ∃ v res, K v = some r ∧ VR E.D R v res ∧ (Instr.lookup t X IX ok).run E.P R.w = .ok res R.w := by
  unfold lookK at hk
  split at hk
  · rename_i kt et ka va ck cv l hu
    split at hk
    · rename_i k z hkc hz
      split at hk
      · rename_i q hq
        obtain ⟨hsh, hk9⟩ := cond_none hk
        obtain ⟨B, l', rfl, hl, hor⟩ := hx.fm_inv
        have hkey := keyC_ok he.law hkc hix
        obtain ⟨res, h1, h2⟩ := look_run he (ok := ok) hu hor hkey hz hq hsh
        have hm : mget (E.D.keq ck k) l' = mget (E.D.keq ck k) l := by
          rcases hl with rfl | ⟨h3, h4⟩
          · rfl
          · obtain ⟨ks, e1, _, e3⟩ := hkey.ks
            exact mget_perm he.law e1 e3 h3 h4 k
        rw [hm] at h1 h2
        exact ⟨_, _, hk9, look_vr h1, h2⟩
      · cases hk
    · cases hk
  · cases hk
end
end Go.Ev
