import Derived.Test.YtgfbcclfajcjnaaEvO
universe u
namespace Go.Ev
set_option linter.unusedVariables false
set_option linter.unusedSimpArgs false
variable {U : Univ}
def eqL : List Nat → List (AV U) → List (AV U) → Option Bool
  | [], [], [] => some true
  | k :: ks, x :: xs, y :: ys => match eqV k x y, eqL ks xs ys with
    | some a, some b => some (a && b)
    | _, _ => none
  | _, _, _ => none
theorem eqF_eqL : ∀ (ks : List Nat) (xs ys : List (AV U)) (b : Bool), eqF ks xs ys = some b → eqL ks xs ys = some b
  | [], xs, ys, b, h => by
    cases xs with
    | nil => cases ys with
      | nil => exact h
      | cons y ys => simp [eqF] at h
    | cons x xs => simp [eqF] at h
  | [k], xs, ys, b, h => by
    cases xs with
    | nil => simp [eqF] at h
    | cons x xs => cases ys with
      | nil => cases xs <;> simp [eqF] at h
      | cons y ys =>
        cases xs with
        | nil => cases ys with
          | nil => simp only [eqF] at h; simp [eqL, h]
          | cons z zs => simp only [eqF] at h; split at h <;> simp_all
        | cons z zs => cases ys <;> (simp only [eqF] at h; split at h <;> simp_all)
  | k :: k2 :: ks, xs, ys, b, h => by
    cases xs with
    | nil => simp [eqF] at h
    | cons x xs => cases ys with
      | nil => simp [eqF] at h
      | cons y ys =>
        simp only [eqF] at h
        split at h
        · rename_i p q hp hq
          have := eqF_eqL (k2 :: ks) xs ys q hq
          simp only [eqL, hp] at this ⊢
          rw [this]
          exact h
        · cases h
theorem eqL_len : ∀ (ks : List Nat) (xs ys : List (AV U)) (b : Bool), eqL ks xs ys = some b → xs.length = ks.length ∧ ys.length = ks.length
  | [], [], [], _, _ => ⟨rfl, rfl⟩
  | [], [], _ :: _, _, h => by simp [eqL] at h
  | [], _ :: _, _, _, h => by simp [eqL] at h
  | _ :: _, [], _, _, h => by simp [eqL] at h
  | _ :: _, _ :: _, [], _, h => by simp [eqL] at h
  | k :: ks, x :: xs, y :: ys, b, h => by
    simp only [eqL] at h
    split at h
    · rename_i p q hp hq
      obtain ⟨h1, h2⟩ := eqL_len ks xs ys q hq
      exact ⟨by simp [h1], by simp [h2]⟩
    · cases h
theorem eqL_split : ∀ (ks ls : List Nat) (xs ys : List (AV U)) (b : Bool), eqL (ks ++ ls) xs ys = some b →
    ∃ p q, eqL ks (xs.take ks.length) (ys.take ks.length) = some p ∧ eqL ls (xs.drop ks.length) (ys.drop ks.length) = some q ∧ b = (p && q)
  | [], ls, xs, ys, b, h => ⟨true, b, by simp [eqL], by simpa using h, by simp⟩
  | k :: ks, ls, xs, ys, b, h => by
    cases xs with
    | nil => simp [eqL] at h
    | cons x xs => cases ys with
      | nil => simp [eqL] at h
      | cons y ys =>
        simp only [List.cons_append, eqL] at h
        split at h
        · rename_i p q hp hq
          obtain ⟨p2, q2, h1, h2, h3⟩ := eqL_split ks ls xs ys q hq
          simp only [Option.some.injEq] at h
          refine ⟨p && p2, q2, by simp [eqL, hp, h1], by simpa using h2, by rw [← h, h3, Bool.and_assoc]⟩
        · cases h
section
variable {P : Program} {D : Codec U} {R : Rl}
def Rep (P : Program) (D : Codec U) (R : Rl) (t : TypeId) (xs : List (AV U)) (X : Value) : Prop :=
  (isAggB P t = true ∧ ∃ as : Array Value, X = .agg as ∧ xs.length = as.size ∧ ∀ (i : Nat) (x : AV U) (y : Value), xs[i]? = some x → as[i]? = some y → VR D R x y) ∨
  (isAggB P t = false ∧ ∃ x, xs = [x] ∧ VR D R x X)
theorem rep_part {t : TypeId} {n off : Nat} {xs : List (AV U)} {as : Array Value} (hd : ∃ d, P.underlying t = some d) (hs : szOf P t = some n) (hn : isAggB P t = false → n = 1) (hl : xs.length = as.size) (hle : off + n ≤ xs.length)
    (hv : ∀ (i : Nat) (x : AV U) (y : Value), xs[i]? = some x → as[i]? = some y → VR D R x y) :
    ∃ X, (part t as off).run P R.w = .ok X R.w ∧ Rep P D R t ((xs.drop off).take n) X := by
  obtain ⟨d, hd⟩ := hd
  cases ha : isAggB P t with
  | true =>
    obtain ⟨y, h1, h2⟩ := run_part (P := P) (D := D) (R := R) (v := .agg ((xs.drop off).take n)) R.w hd (by omega) hv (by
      unfold cut
      simp only [hs, hd, Option.isSome_some, ha]
      rw [show Nat.ble (off + n) xs.length = true from Nat.ble_eq_true_of_le hle]
      rfl)
    obtain ⟨ys, rfl, h3, h4⟩ := h2.agg_inv
    exact ⟨_, h1, .inl ⟨ha, ys, rfl, h3, h4⟩⟩
  | false =>
    have hn1 := hn ha
    subst hn1
    have hlt : off < xs.length := by omega
    obtain ⟨y, h1, h2⟩ := run_part (P := P) (D := D) (R := R) (v := xs[off]) R.w hd (by omega) hv (by
      unfold cut
      simp only [hs, hd, Option.isSome_some, ha]
      exact List.getElem?_eq_getElem hlt)
    refine ⟨_, h1, .inr ⟨ha, xs[off], ?_, h2⟩⟩
    rw [List.drop_eq_getElem_cons hlt]
    rfl
theorem plain_under {d : Nat} {t : TypeId} {ks : List Nat} (h : plainEq P d t = some ks) : ∃ dd, P.underlying t = some dd := by
  cases d with
  | zero => cases h
  | succ d =>
    unfold plainEq at h
    cases hu : P.underlying t with
    | none => rw [hu] at h; cases h
    | some dd => exact ⟨dd, rfl⟩
theorem plain_one {d : Nat} {t : TypeId} {ks : List Nat} (h : plainEq P d t = some ks) (ha : isAggB P t = false) : ks.length = 1 := by
  cases d with
  | zero => cases h
  | succ d =>
    unfold plainEq at h
    unfold isAggB at ha
    split at h
    · cases h; rfl
    · cases h; rfl
    · cases h; rfl
    · rename_i hu; simp [hu] at ha
    · rename_i hu; simp [hu] at ha
    · cases h
theorem eqIn : ∀ (d : Nat) (t : TypeId) (ks : List Nat), plainEq P d t = some ks → ∀ (m : Nat), d ≤ m → ∀ (xs ys : List (AV U)) (X Y : Value), Rep P D R t xs X → Rep P D R t ys Y → ∀ (b : Bool), eqL ks xs ys = some b →
    (Op.equalIn m t X Y).run P R.w = .ok b R.w
  | 0, t, ks, h => by cases h
  | d + 1, t, ks, h => by
    intro m hm xs ys X Y hX hY b hb
    obtain ⟨m, rfl⟩ : ∃ k, m = k + 1 := ⟨m - 1, by omega⟩
    have leaf : ∀ (k : Nat), ks = [k] → isAggB P t = false → ∃ x y, eqV k x y = some b ∧ VR D R x X ∧ VR D R y Y := by
      rintro k rfl hag
      rcases hX with ⟨h1, _⟩ | ⟨_, x, rfl, hx⟩
      · rw [hag] at h1; cases h1
      · rcases hY with ⟨h1, _⟩ | ⟨_, y, rfl, hy⟩
        · rw [hag] at h1; cases h1
        · refine ⟨x, y, ?_, hx, hy⟩
          simp only [eqL] at hb
          split at hb
          · rename_i p q hp hq
            simp only [Option.some.injEq] at hq hb
            rw [hp, ← hb, ← hq, Bool.and_true]
          · cases hb
    unfold plainEq at h
    split at h
    · rename_i hu
      cases h
      obtain ⟨x, y, he, hx, hy⟩ := leaf 1 rfl (by simp [isAggB, hu])
      unfold eqV at he
      split at he
      · rename_i e; cases e
      · cases he; rw [hx.flat_inv, hy.flat_inv]; exact run_equalIn_bool' R.w m t _ _ hu
      · rename_i e; cases e
      · cases he
    · rename_i kk hu
      cases h
      obtain ⟨x, y, he, hx, hy⟩ := leaf 0 rfl (by simp [isAggB, hu])
      unfold eqV at he
      split at he
      · obtain ⟨hkk, he⟩ := cond_none he
        have hkk := eq_of_beq hkk
        cases he; rw [hx.flat_inv, hy.flat_inv, hkk]; exact run_equalIn_int R.w m t _ kk _ _ hu
      · rename_i e; cases e
      · rename_i e; cases e
      · cases he
    · rename_i hu
      cases h
      obtain ⟨x, y, he, hx, hy⟩ := leaf 2 rfl (by simp [isAggB, hu])
      unfold eqV at he
      split at he
      · rename_i e; cases e
      · rename_i e; cases e
      · cases he; rw [hx.flat_inv, hy.flat_inv]; exact run_equalIn_string R.w m t _ _ hu
      · cases he
    · rename_i fs hu
      have hag : isAggB P t = true := by simp [isAggB, hu]
      cases hst : P.stoodInHeld t with
      | true => simp [hst] at h
      | false =>
        simp only [hst, cond_false] at h
        rcases hX with ⟨_, as, rfl, hxl, hxv⟩ | ⟨h1, _⟩
        · rcases hY with ⟨_, bs, rfl, hyl, hyv⟩ | ⟨h1, _⟩
          · have hfo : P.fieldsOf t = fs := by simp [Program.fieldsOf, hu]
            rw [run_equalIn_struct R.w m t as bs (by rw [hfo]; exact hu) hst, hfo]
            have go : ∀ (fl : List Field) (off : Nat) (ls : List Nat) (b : Bool), off ≤ xs.length → off ≤ ys.length → plainFs P (plainEq P d) fl off = some ls → eqL ls (xs.drop off) (ys.drop off) = some b →
                (Op.eqFields m as bs fl).run P R.w = .ok b R.w := by
              intro fl
              induction fl with
              | nil =>
                intro off ls b _ _ h1 h2
                simp only [plainFs, Option.some.injEq] at h1
                subst h1
                have : b = true := by
                  cases hx : xs.drop off <;> cases hy : ys.drop off <;> simp [hx, hy, eqL] at h2
                  exact h2
                subst this
                rfl
              | cons f fl ih =>
                intro off ls b ox oy h1 h2
                simp only [plainFs] at h1
                split at h1
                · rename_i kf hkf
                  obtain ⟨hc, h1⟩ := cond_none h1
                  simp only [Bool.and_eq_true, Bool.not_eq_true'] at hc
                  obtain ⟨⟨hc1, hc2⟩, hc3⟩ := hc
                  have hc1 := Nat.eq_of_beq_eq_true hc1
                  have hc3 : szOf P f.type = some kf.length := by simpa [szOf] using hc3
                  have hc2 : f.name ≠ "_" := by simpa using hc2
                  simp only [Option.map_eq_some_iff] at h1
                  obtain ⟨lr, hlr, rfl⟩ := h1
                  obtain ⟨p, q, e1, e2, rfl⟩ := eqL_split kf lr _ _ b h2
                  obtain ⟨l1, l2⟩ := eqL_len _ _ _ _ e1
                  rw [List.length_take, List.length_drop] at l1 l2
                  obtain ⟨X1, x1, x2⟩ := rep_part (P := P) (D := D) (R := R) (off := off) (plain_under hkf) hc3 (plain_one hkf) hxl (by omega) hxv
                  obtain ⟨Y1, y1, y2⟩ := rep_part (P := P) (D := D) (R := R) (off := off) (plain_under hkf) hc3 (plain_one hkf) hyl (by omega) hyv
                  have hr := eqIn d f.type kf hkf m (by omega) _ _ X1 Y1 x2 y2 p e1
                  rw [List.drop_drop, List.drop_drop] at e2
                  have hrest := ih (off + kf.length) lr q (by omega) (by omega) hlr e2
                  simp only [Op.eqFields, if_pos hc2, Sem.run_bind, hc1, x1, Result.andThen_ok, y1, hr]
                  cases p with
                  | false => simp
                  | true => simpa using hrest
                · cases h1
            exact go fs.toList 0 ks b (Nat.zero_le _) (Nat.zero_le _) h (by simpa using hb)
          · rw [hag] at h1; cases h1
        · rw [hag] at h1; cases h1
    · rename_i len e hu
      have hag : isAggB P t = true := by simp [isAggB, hu]
      split at h
      · rename_i ke hke
        obtain ⟨hc, h⟩ := cond_none h
        have hc : szOf P e = some ke.length := by simpa [szOf] using hc
        simp only [Option.some.injEq] at h
        subst h
        obtain ⟨i, hi⟩ : ∃ i, P.info? e = some i := by
          unfold szOf at hc
          cases hi : P.info? e with
          | none => rw [hi] at hc; cases hc
          | some i => exact ⟨i, rfl⟩
        have hcells : P.cellsOf e = ke.length := by
          unfold szOf at hc
          unfold Program.cellsOf
          rw [hc]
          rfl
        rcases hX with ⟨_, as, rfl, hxl, hxv⟩ | ⟨h1, _⟩
        · rcases hY with ⟨_, bs, rfl, hyl, hyv⟩ | ⟨h1, _⟩
          · rw [run_equalIn_array R.w m as bs hu hi, hcells, List.range_eq_range']
            have go : ∀ (n i : Nat) (b : Bool), i * ke.length ≤ xs.length → i * ke.length ≤ ys.length → eqL (List.replicate n ke).flatten (xs.drop (i * ke.length)) (ys.drop (i * ke.length)) = some b →
                (Op.eqItems m e ke.length as bs (List.range' i n)).run P R.w = .ok b R.w := by
              intro n
              induction n with
              | zero =>
                intro i b _ _ h2
                have : b = true := by
                  cases hx : xs.drop (i * ke.length) <;> cases hy : ys.drop (i * ke.length) <;> simp [hx, hy, eqL] at h2
                  exact h2
                subst this
                rfl
              | succ n ih =>
                intro i b ox oy h2
                rw [List.replicate_succ, List.flatten_cons] at h2
                obtain ⟨p, q, e1, e2, rfl⟩ := eqL_split ke _ _ _ b h2
                obtain ⟨l1, l2⟩ := eqL_len _ _ _ _ e1
                rw [List.length_take, List.length_drop] at l1 l2
                obtain ⟨X1, x1, x2⟩ := rep_part (P := P) (D := D) (R := R) (off := i * ke.length) (plain_under hke) hc (plain_one hke) hxl (by omega) hxv
                obtain ⟨Y1, y1, y2⟩ := rep_part (P := P) (D := D) (R := R) (off := i * ke.length) (plain_under hke) hc (plain_one hke) hyl (by omega) hyv
                have hr := eqIn d e ke hke m (by omega) _ _ X1 Y1 x2 y2 p e1
                rw [List.drop_drop, List.drop_drop, ← Nat.succ_mul] at e2
                have hrest := ih (i + 1) q (by rw [Nat.succ_mul]; omega) (by rw [Nat.succ_mul]; omega) e2
                simp only [List.range'_succ, Op.eqItems, Sem.run_bind, x1, Result.andThen_ok, y1, hr]
                cases p with
                | false => simp
                | true => simpa using hrest
            exact go len 0 b (by simp) (by simp) (by simpa using hb)
          · rw [hag] at h1; cases h1
        · rw [hag] at h1; cases h1
      · cases h
    · cases h
end
end Go.Ev
