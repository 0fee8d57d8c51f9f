/- LedgerEven: each entry of a book comes to nothing, whatever is done. No conditions but size. -/
import Derived.Test.YtlaogfkgkpgofaaLb
namespace Go.Proofs.Ytlaogfkgkpgofaa.Pure
set_option linter.unusedVariables false
set_option linter.unusedSimpArgs false
open Go Go.Ev Go.Lm Go.Pu Go.Dg

theorem ex_of2 {α : Type} {x r : Option α} {β : Type} {P : β → Prop} {f : β → Option α} (h : x = r) (h' : ∃ v, r = f v ∧ P v) : ∃ v, x = f v ∧ P v := by rw [h]; exact h'
theorem getD_map {α β : Type} (f : α → β) (d : β) (d' : α) {l : List α} {j : Nat} (h : j < l.length) : (l.map f).getD j d = f (l.getD j d') := by
  rw [List.getD_eq_getElem?_getD, List.getElem?_map, List.getElem?_eq_getElem h, List.getD_eq_getElem?_getD, List.getElem?_eq_getElem h]; rfl
theorem runS_turn (s : Nat) : ∀ (l : List Sapi_Line) (a S : Int), runS a l = some S → runS (-a) (l.map (turn s)) = some (-S) := by
  intro l
  induction l with
  | nil => intro a S h; unfold runS at h; cases h; rfl
  | cons x r ih =>
    intro a S h
    rw [List.map_cons]
    unfold runS at h ⊢
    have hv : val (turn s x).f_Amount = -(val x.f_Amount) := by unfold turn; rw [val_DV]
    rw [hv]
    split at h
    · rw [if_pos (by omega), show -a + -(val x.f_Amount) = -(a + val x.f_Amount) by omega]
      exact ih _ _ h
    · cases h
theorem LsOk_turn {s : Nat} {l : List Sapi_Line} (h : LsOk s l) : LsOk s (l.map (turn s)) := by
  refine ⟨by rw [List.length_map]; exact h.1, fun x hx => ?_⟩
  obtain ⟨y, hy, rfl⟩ := List.mem_map.1 hx
  obtain ⟨_, h2⟩ := h.2 y hy
  have : val (turn s y).f_Amount = -(val y.f_Amount) := by unfold turn; rw [val_DV]
  rw [this]
  exact ⟨rfl, by unfold Sm at *; omega⟩
/-- An entry that comes to nothing; a reversal is that of an earlier one, which is none itself, once. -/
def EvE (all : List Sapi_Entry) (i : Nat) (e : Sapi_Entry) : Prop := LsOk 2 e.f_Lines ∧ runS 0 e.f_Lines = some 0 ∧ (e.f_Of < 0 ∨ (0 ≤ e.f_Of ∧ e.f_Of.toNat < i ∧ (all.getD e.f_Of.toNat Sapi_Entry.zero).f_Of < 0 ∧ e.f_Lines = (all.getD e.f_Of.toNat Sapi_Entry.zero).f_Lines.map (turn 2) ∧ ∀ j, j < i → (all.getD j Sapi_Entry.zero).f_Of ≠ e.f_Of))
def BInv (b : Sledger_Book) : Prop := T12 b.f_t ∧ b.f_scale = 2 ∧ b.f_l.length ≤ 40 ∧ ∀ i, i < b.f_l.length → EvE b.f_l i (b.f_l.getD i Sapi_Entry.zero)
theorem getD_app {α : Type} (l : List α) (x d : α) {i : Nat} (h : i < l.length) : (l ++ [x]).getD i d = l.getD i d := by
  rw [List.getD_eq_getElem?_getD, List.getD_eq_getElem?_getD, List.getElem?_append_left h]
theorem getD_app_last {α : Type} (l : List α) (x d : α) : (l ++ [x]).getD l.length d = x := by
  rw [List.getD_eq_getElem?_getD, List.getElem?_append_right (by omega), Nat.sub_self]; rfl
theorem EvE_app {l : List Sapi_Entry} {x e : Sapi_Entry} {i : Nat} (hi : i ≤ l.length) (h : EvE l i e) : EvE (l ++ [x]) i e := by
  obtain ⟨h1, h2, h3⟩ := h
  refine ⟨h1, h2, ?_⟩
  rcases h3 with h3 | ⟨g0, g1, g2, g3, g4⟩
  · exact .inl h3
  · refine .inr ⟨g0, g1, ?_, ?_, fun j hj => ?_⟩
    · rw [getD_app _ _ _ (by omega)]; exact g2
    · rw [getD_app _ _ _ (by omega)]; exact g3
    · rw [getD_app _ _ _ (by omega)]; exact g4 j hj
theorem addR_inv {b : Sledger_Book} (h : BInv b) {x : Sapi_Entry} (hx : EvE b.f_l b.f_l.length x) : BInv (addR b x).2.2 ∧ ((addR b x).2.1 = 0 → (addR b x).1 = (b.f_l.length : Int)) := by
  obtain ⟨h1, h2, h3, h4⟩ := h
  unfold addR
  split
  · split
    · exact ⟨⟨h1, h2, h3, h4⟩, fun h => by cases h⟩
    · refine ⟨⟨h1, h2, by dsimp only; rw [List.length_append, List.length_singleton]; omega, ?_⟩, fun _ => rfl⟩
      dsimp only
      intro i hi
      rw [List.length_append, List.length_singleton] at hi
      by_cases hc : i < b.f_l.length
      · rw [getD_app _ _ _ hc]
        exact EvE_app (by omega) (h4 i hc)
      · obtain rfl : i = b.f_l.length := by omega
        rw [getD_app_last]
        exact EvE_app (Nat.le_refl _) hx
  · exact ⟨⟨h1, h2, h3, h4⟩, fun h => by cases h⟩
theorem rightE_ok {l : List Sapi_Line} (hw : ∀ x ∈ l, LnW x) {s : Nat} (h : rightE s l = 0) : LsOk s l ∧ runS 0 l = some 0 := by
  unfold rightE at h
  split at h
  · cases h
  · split at h
    · rename_i h1 h2
      refine ⟨⟨by omega, fun x hx => ?_⟩, ?_⟩
      · obtain ⟨g1, g2, _⟩ := rl_DV (hw x hx) (List.all_eq_true.1 h2 x hx)
        exact ⟨g1, g2⟩
      · cases hr : runS 0 l with
        | none => rw [hr] at h; cases h
        | some S =>
          rw [hr] at h
          dsimp only at h
          split at h
          · rename_i h0; rw [h0]
          · cases h
    · cases h
theorem postR_inv {b : Sledger_Book} (h : BInv b) (p : Int) {l : List Sapi_Line} (hw : ∀ x ∈ l, LnW x) : BInv (postR 2 b p l).2.2 ∧ ((postR 2 b p l).2.1 = 0 → (postR 2 b p l).1 = (b.f_l.length : Int)) := by
  unfold postR
  split
  · rename_i h0
    obtain ⟨h1, h2⟩ := rightE_ok hw h0
    exact addR_inv h ⟨h1, h2, .inl (show (-1 : Int) < 0 by decide)⟩
  · rename_i h0
    exact ⟨h, fun hh => absurd hh h0⟩
theorem revR_inv {b : Sledger_Book} (h : BInv b) (n p : Int) : BInv (revR 2 b n p).2.2 ∧ ((revR 2 b n p).2.1 = 0 → (revR 2 b n p).1 = (b.f_l.length : Int)) := by
  unfold revR
  split
  · exact ⟨h, fun h => by cases h⟩
  · split
    · exact ⟨h, fun h => by cases h⟩
    · rename_i h0 h1
      have hn : n.toNat < b.f_l.length := by omega
      obtain ⟨g1, g2, _⟩ := h.2.2.2 n.toNat hn
      refine addR_inv h ⟨LsOk_turn g1, ?_, .inr ⟨show (0 : Int) ≤ n by omega, hn, show (b.f_l.getD n.toNat Sapi_Entry.zero).f_Of < 0 by omega, rfl, fun j hj he => ?_⟩⟩
      · have := runS_turn 2 _ _ _ g2
        exact this
      · refine h1 (.inr ?_)
        unfold isRev
        refine List.any_eq_true.2 ⟨_, getD_mem Sapi_Entry.zero hj, ?_⟩
        rw [beq_iff_eq]
        exact he
theorem closeB_inv {b : Sledger_Book} (h : BInv b) (p : Int) : BInv (closeB b p).2 := by
  obtain ⟨h1, h2, h3, h4⟩ := h
  obtain ⟨g1, g2⟩ := closeB_l b p
  refine ⟨closeB_T h1 p, by rw [g2]; exact h2, by rw [g1]; exact h3, ?_⟩
  rw [g1]
  exact h4
/-- The law's own sum of an entry's lines. -/
theorem Even_sums {k : Nat} (hk : 60 < k) (A B : List Sapi_Entry) (n i : Int) (i' : Int) (dn : List Bool) (pd fo : Int) {l l' : List Sapi_Line} (hl : LsOk 2 l) : ∀ (m j : Nat) (a S : Int), j ≤ l.length → l.length - j < m → Sm a → runS a (l.drop j) = some S →
    iter (pyxlaw14_LedgerEven.l28.once k) m (A, i', B, n, i, l, (l.length : Int), (j : Int), dn, pd, l', fo, (DV a 2).f_Neg, (DV a 2).f_C.1, (DV a 2).f_C.2, (DV a 2).f_Scale) = some (A, i', B, n, i, dn, pd, l', fo, (DV S 2).f_Neg, (DV S 2).f_C.1, (DV S 2).f_C.2, (DV S 2).f_Scale) := by
  intro m
  induction m with
  | zero => intro j a S _ h; omega
  | succ m ih =>
    intro j a S hj hm ha hS
    by_cases hc : j < l.length
    · obtain ⟨g1, g2⟩ := hl.2 _ (getD_mem Sapi_Line.zero hc)
      have hx : l.getD (Int.toNat (j : Int)) Sapi_Line.zero = l.getD j Sapi_Line.zero := by rw [Int.toNat_natCast]
      rw [drop_getD Sapi_Line.zero hc] at hS
      unfold runS at hS
      split at hS
      · rename_i hf
        have e1 : dec_Add.f k ⟨(DV a 2).f_Neg, ((DV a 2).f_C.1, (DV a 2).f_C.2), (DV a 2).f_Scale⟩ ⟨(l.getD j Sapi_Line.zero).f_Amount.f_Neg, ((l.getD j Sapi_Line.zero).f_Amount.f_C.1, (l.getD j Sapi_Line.zero).f_Amount.f_C.2), (l.getD j Sapi_Line.zero).f_Amount.f_Scale⟩ = some (mkD (a + val (l.getD j Sapi_Line.zero).f_Amount) 2) := by
          have := Add_DV hk (i := a) (j := val (l.getD j Sapi_Line.zero).f_Amount) (s := 2) (t := 2) ha g2 (by decide) (by decide)
          rw [← g1, Nat.max_self, Nat.sub_self, Int.pow_zero, Int.mul_one, Int.mul_one] at this
          exact this
        unfold mkD at e1
        rw [if_pos hf] at e1
        rw [← ih (j + 1) _ S (by omega) (by omega) hf hS]
        refine iter_step ?_
        unfold pyxlaw14_LedgerEven.l28.once
        dsimp only
        rw [ct (by omega), inb_t (by omega) (by have := hl.1; omega), cond_true, hx, e1, Option.bind_some, wrapi (by have := hl.1; omega)]
        rfl
      · cases hS
    · rw [List.drop_eq_nil_of_le (by omega)] at hS
      unfold runS at hS
      cases hS
      refine iter_stop ?_
      unfold pyxlaw14_LedgerEven.l28.once
      dsimp only
      rw [cf (by omega)]
theorem Even_pairs {k : Nat} (hk : 60 < k) (A B : List Sapi_Entry) (n i : Int) (dn : List Bool) (pd : Int) (l' : List Sapi_Line) {fo : Int} (hf : 0 ≤ fo ∧ fo.toNat < A.length) (hA : A.length ≤ 1000) {l : List Sapi_Line} (hl : LsOk 2 (A.getD fo.toNat Sapi_Entry.zero).f_Lines) (hll : l = (A.getD fo.toNat Sapi_Entry.zero).f_Lines.map (turn 2)) (hk' : 1000 < k) :
    iter (pyxlaw14_LedgerEven.l39.once k) k (A, B, n, i, l, (l.length : Int), 0, dn, pd, l', fo) = some (.inl (A, B, n, i, dn)) := by
  have hlen : l.length = (A.getD fo.toNat Sapi_Entry.zero).f_Lines.length := by rw [hll, List.length_map]
  have hl8 := hl.1
  have h := iter_seq (once := pyxlaw14_LedgerEven.l39.once k) (fun j => (A, B, n, i, l, (l.length : Int), (j : Int), dn, pd, l', fo)) l.length (by
    intro j hj
    have hz : j < (A.getD fo.toNat Sapi_Entry.zero).f_Lines.length := by omega
    obtain ⟨g1, g2⟩ := hl.2 _ (getD_mem Sapi_Line.zero hz)
    have hy : l.getD j Sapi_Line.zero = turn 2 ((A.getD fo.toNat Sapi_Entry.zero).f_Lines.getD j Sapi_Line.zero) := by
      rw [hll, getD_map _ _ _ hz]
    unfold pyxlaw14_LedgerEven.l39.once
    dsimp only
    rw [ct (by omega), inb_t (by omega) (by omega), cond_true, inb_t hf.1 (by omega), cond_true, Int.toNat_natCast, hy]
    generalize (A.getD fo.toNat Sapi_Entry.zero).f_Lines.getD j Sapi_Line.zero = z at *
    have e1 : dec_Add.f k ⟨(turn 2 z).f_Amount.f_Neg, ((turn 2 z).f_Amount.f_C.1, (turn 2 z).f_Amount.f_C.2), (turn 2 z).f_Amount.f_Scale⟩ ⟨z.f_Amount.f_Neg, (z.f_Amount.f_C.1, z.f_Amount.f_C.2), z.f_Amount.f_Scale⟩ = some (DV 0 2, 0) := by
      have := Add_DV hk (i := -(val z.f_Amount)) (j := val z.f_Amount) (s := 2) (t := 2) (by unfold Sm at *; omega) g2 (by decide) (by decide)
      rw [← g1, Nat.max_self, Nat.sub_self, Int.pow_zero, Int.mul_one, Int.mul_one, show -(val z.f_Amount) + val z.f_Amount = 0 by omega] at this
      exact this
    have e2 : dec_Sign.f k ⟨(DV 0 2).f_Neg, ((DV 0 2).f_C.1, (DV 0 2).f_C.2), (DV 0 2).f_Scale⟩ = some 0 := Sign_DV hk (i := 0) (by unfold Sm; decide) (by decide)
    rw [inb_t (by omega) (by omega), cond_true, e1, Option.bind_some]
    dsimp only
    rw [show (turn 2 z).f_Acct = z.f_Acct from rfl, show (turn 2 z).f_With = z.f_With from rfl, bne_self_eq_false, cond_false, bne_self_eq_false, cond_false, e2, Option.bind_some, Option.bind_some]
    dsimp only
    rw [show ((0 : Int) != 0) = false from rfl, cond_false, wrapi (by omega)]
    rfl) (.inl (A, B, n, i, dn)) (by
    unfold pyxlaw14_LedgerEven.l39.once
    dsimp only
    rw [cf (by omega)]) k 0 (by omega) (by omega)
  exact h
theorem Even_all {k : Nat} (hk : 1000 < k) {b : Sledger_Book} (hb : BInv b) : ∀ (m i : Nat) (dn : List Bool), i ≤ b.f_l.length → b.f_l.length - i < m → dn.length = b.f_l.length → (∀ j, dn.getD j false = true → ∃ i', i' < i ∧ (b.f_l.getD i' Sapi_Entry.zero).f_Of = (j : Int)) →
    iter (pyxlaw14_LedgerEven.l24.once k) m (b.f_l, b.f_l, (b.f_l.length : Int), (i : Int), dn) = some (.inl ()) := by
  obtain ⟨_, _, hl40, hE⟩ := hb
  intro m
  induction m with
  | zero => intro i dn _ h; omega
  | succ m ih =>
    intro i dn hi hm hd hdn
    by_cases hc : i < b.f_l.length
    · obtain ⟨e1, e2, e3⟩ := hE i hc
      have hx : b.f_l.getD (Int.toNat (i : Int)) Sapi_Entry.zero = b.f_l.getD i Sapi_Entry.zero := by rw [Int.toNat_natCast]
      have hz : pyxref11_Zero.f k 2 = some (DV 0 2) := Zero_eq k 2
      have sums := Even_sums (k := k) (by omega) b.f_l b.f_l (b.f_l.length : Int) (i : Int) (i : Int) dn (b.f_l.getD i Sapi_Entry.zero).f_Period (b.f_l.getD i Sapi_Entry.zero).f_Of (l' := (b.f_l.getD i Sapi_Entry.zero).f_Lines) e1 k 0 0 0 (by omega) (by have := e1.1; omega) (by unfold Sm; decide) (by rw [List.drop_zero]; exact e2)
      have sg : dec_Sign.f k ⟨(DV 0 2).f_Neg, ((DV 0 2).f_C.1, (DV 0 2).f_C.2), (DV 0 2).f_Scale⟩ = some 0 := Sign_DV (by omega) (i := 0) (by unfold Sm; decide) (by decide)
      have sums' : iter (pyxlaw14_LedgerEven.l28.once k) k (b.f_l, (i : Int), b.f_l, (b.f_l.length : Int), (i : Int), (b.f_l.getD i Sapi_Entry.zero).f_Lines, ((b.f_l.getD i Sapi_Entry.zero).f_Lines.length : Int), 0, dn, (b.f_l.getD i Sapi_Entry.zero).f_Period, (b.f_l.getD i Sapi_Entry.zero).f_Lines, (b.f_l.getD i Sapi_Entry.zero).f_Of, (DV 0 2).f_Neg, (DV 0 2).f_C.1, (DV 0 2).f_C.2, (DV 0 2).f_Scale) = _ := sums
      rcases e3 with e3 | ⟨g0, g1, g2, g3, g4⟩
      · rw [← ih (i + 1) dn (by omega) (by omega) hd (fun j hj => by obtain ⟨i', h1, h2⟩ := hdn j hj; exact ⟨i', by omega, h2⟩)]
        refine iter_step ?_
        unfold pyxlaw14_LedgerEven.l24.once
        dsimp only
        rw [ct (by omega), inb_t (by omega) (by omega), cond_true, hz, Option.bind_some, hx, sums', Option.bind_some]
        dsimp only
        rw [sg, Option.bind_some, show ((0 : Int) != 0) = false from rfl, cond_false, ct e3, wrapi (by omega)]
        rfl
      · have hfo : (b.f_l.getD i Sapi_Entry.zero).f_Of = (((b.f_l.getD i Sapi_Entry.zero).f_Of.toNat : Nat) : Int) := by omega
        have hfree : dn.getD (b.f_l.getD i Sapi_Entry.zero).f_Of.toNat false = false := by
          cases hh : dn.getD (b.f_l.getD i Sapi_Entry.zero).f_Of.toNat false with
          | false => rfl
          | true =>
            obtain ⟨i', h1, h2⟩ := hdn _ hh
            exact absurd (h2.trans hfo.symm) (g4 i' h1)
        have hb8 := (hE _ (show (b.f_l.getD i Sapi_Entry.zero).f_Of.toNat < b.f_l.length by omega)).1
        have pairs := Even_pairs (k := k) (by omega) b.f_l b.f_l (b.f_l.length : Int) (i : Int) (dn.set (b.f_l.getD i Sapi_Entry.zero).f_Of.toNat true) (b.f_l.getD i Sapi_Entry.zero).f_Period (b.f_l.getD i Sapi_Entry.zero).f_Lines ⟨g0, by omega⟩ (by omega) hb8 g3 hk
        have hlen : (b.f_l.getD i Sapi_Entry.zero).f_Lines.length = (b.f_l.getD (b.f_l.getD i Sapi_Entry.zero).f_Of.toNat Sapi_Entry.zero).f_Lines.length := by
          have := congrArg List.length g3
          rw [List.length_map] at this
          exact this
        rw [← ih (i + 1) (dn.set (b.f_l.getD i Sapi_Entry.zero).f_Of.toNat true) (by omega) (by omega) (by rw [List.length_set]; exact hd) (fun j hj => by
          by_cases hje : j = (b.f_l.getD i Sapi_Entry.zero).f_Of.toNat
          · exact ⟨i, by omega, by rw [hje]; exact hfo⟩
          · rw [List.getD_eq_getElem?_getD, List.getElem?_set_ne (Ne.symm hje), ← List.getD_eq_getElem?_getD] at hj
            obtain ⟨i', h1, h2⟩ := hdn j hj
            exact ⟨i', by omega, h2⟩)]
        refine iter_step ?_
        unfold pyxlaw14_LedgerEven.l24.once
        dsimp only
        rw [ct (by omega), inb_t (by omega) (by omega), cond_true, hz, Option.bind_some, hx, sums', Option.bind_some]
        dsimp only
        rw [sg, Option.bind_some, show ((0 : Int) != 0) = false from rfl, cond_false, cf (by omega), cf (by omega), inb_t g0 (by omega), cond_true, blt_t (by omega), cond_true, hfree, cond_false, inb_t g0 (by omega), cond_true, cf (by omega), cond_true, hlen, bne_self_eq_false, Option.bind_some]
        dsimp only
        rw [cond_false, inb_t g0 (by omega), cond_true, blt_t (by omega), cond_true, pairs, Option.bind_some]
        dsimp only
        rw [wrapi (by omega)]
        rfl
    · refine iter_stop ?_
      unfold pyxlaw14_LedgerEven.l24.once
      dsimp only
      rw [cf (by omega)]
theorem LedgerEven (l0 : List Spyxhand_Act) (w0 : (l0.length ≤ 9223372036854775807 ∧ l0.length * 80 ≤ 140737488351232 ∧ ∀ z ∈ l0, ((Lit.int .i64 z.f_What).wf = true) ∧ ((Lit.int .i64 z.f_Who).wf = true) ∧ ((Lit.int .i64 z.f_A).wf = true) ∧ ((Lit.int .i64 z.f_B).wf = true) ∧ ((Lit.int .i64 z.f_C).wf = true) ∧ ((Lit.int .i64 z.f_N).wf = true) ∧ ((Lit.int .i64 z.f_Bend).wf = true) ∧ ((z.f_L.length ≤ 9223372036854775807 ∧ z.f_L.length * 8 ≤ 140737488351232 ∧ ∀ z1 ∈ z.f_L, (Lit.int .i64 z1).wf = true)) ∧ True)) : ∃ k, pyxlaw14_LedgerEven.f k l0 = some true := by
  obtain ⟨hlen, hb, hz⟩ := w0
  refine ⟨l0.length + 2000, ?_⟩
  generalize hk : l0.length + 2000 = k
  have hk1 : 1000 < k := by omega
  unfold pyxlaw14_LedgerEven.f
  have hnew : ledger_New.f k 2 = some ⟨2, [], T0⟩ := rfl
  rw [hnew, Option.bind_some, known14 hk1, Option.bind_some, Bool.not_true, cond_false, Option.bind_some]
  dsimp only
  rw [cond_false]
  have hT0 : (⟨pack 12 false (pack 12 false T0.f_Closed), pack 12 0 (pack 12 0 T0.f_Version)⟩ : Speriod_Table) = T0 := rfl
  rw [hT0]
  obtain ⟨y, h1, h2⟩ := iter_rule (once := pyxlaw14_LedgerEven.l5.once k) (fun st => ∃ (i : Nat) (b : Sledger_Book), st = (l0, (l0.length : Int), (i : Int), b.f_scale, b.f_l, b.f_t) ∧ i ≤ l0.length ∧ BInv b) (fun st => l0.length - st.2.2.1.toNat)
    (fun r => ∃ b : Sledger_Book, r = .inl (b.f_scale, b.f_l, b.f_t) ∧ BInv b) (by
    rintro _ ⟨i, b, rfl, hi, hB⟩
    have hB0 := hB
    obtain ⟨b1, b2, b3, b4⟩ := hB
    unfold pyxlaw14_LedgerEven.l5.once
    dsimp only
    by_cases hc : i < l0.length
    · left
      have hx : l0.getD (Int.toNat (i : Int)) Spyxhand_Act.zero = l0.getD i Spyxhand_Act.zero := by rw [Int.toNat_natCast]
      obtain ⟨_, _, _, wB, _, wN, wBe, ⟨wL, _, _⟩, _⟩ := hz _ (getD_mem Spyxhand_Act.zero hc)
      rw [ct (by omega), inb_t (by omega) (by omega), cond_true, hx, Pick_eq k _ (by decide) (by decide), Option.bind_some, pk b1]
      have ent : ledger_Book_Entries.f k ⟨b.f_scale, b.f_l, b.f_t⟩ = some (b.f_l, b) := Bentries_eq hk1 b1 b3 (fun x hx => by
        obtain ⟨j, hj, rfl⟩ := List.getElem_of_mem hx
        have := (b4 j hj).1.1
        rw [List.getD_eq_getElem?_getD, List.getElem?_eq_getElem hj] at this
        exact Nat.le_trans this (by decide))
      rw [ent, Option.bind_some, Pick_eq k _ (by decide) (by decide), Option.bind_some]
      dsimp only
      rw [pk b1]
      -- what comes of the act
      have fin : ∀ (m e : Int) (b' : Sledger_Book), BInv b' → (e = 0 → m = (b.f_l.length : Int)) → ∃ x', (((some ((b.f_l.length : Int), m, e, l0, (l0.length : Int), (i : Int), b'.f_scale, b'.f_l, b'.f_t)) : Option (Int × Int × Int × List Spyxhand_Act × Int × Int × Int × List Sapi_Entry × Speriod_Table)).bind fun y104 => (((cond (y104.2.2.1 == 0) (some (y104.2.2.2.1, y104.2.2.2.2.1, y104.2.2.2.2.2.1, y104.2.1 != y104.1, y104.2.2.2.2.2.2.1, y104.2.2.2.2.2.2.2.1, (⟨pack 12 false y104.2.2.2.2.2.2.2.2.f_Closed, pack 12 0 y104.2.2.2.2.2.2.2.2.f_Version⟩ : Speriod_Table))) (some (y104.2.2.2.1, y104.2.2.2.2.1, y104.2.2.2.2.2.1, false, y104.2.2.2.2.2.2.1, y104.2.2.2.2.2.2.2.1, (⟨pack 12 false y104.2.2.2.2.2.2.2.2.f_Closed, pack 12 0 y104.2.2.2.2.2.2.2.2.f_Version⟩ : Speriod_Table)))) : Option (List Spyxhand_Act × Int × Int × Bool × Int × List Sapi_Entry × Speriod_Table)).bind fun y136 => (cond (y136.2.2.2.1) (some (.inr (.inr false))) (some (.inl (y136.1, y136.2.1, IntKind.wrap .i64 (y136.2.2.1 + 1), y136.2.2.2.2.1, y136.2.2.2.2.2.1, (⟨pack 12 false y136.2.2.2.2.2.2.f_Closed, pack 12 0 y136.2.2.2.2.2.2.f_Version⟩ : Speriod_Table)))) : Option ((List Spyxhand_Act × Int × Int × Int × List Sapi_Entry × Speriod_Table) ⊕ ((Int × List Sapi_Entry × Speriod_Table) ⊕ Bool))))) = some (.inl x') ∧ (∃ (i : Nat) (b : Sledger_Book), x' = (l0, (l0.length : Int), (i : Int), b.f_scale, b.f_l, b.f_t) ∧ i ≤ l0.length ∧ BInv b) ∧ l0.length - x'.2.2.1.toNat < l0.length - i := by
        intro m e b' hb' he
        rw [Option.bind_some]
        dsimp only
        rw [pk hb'.1]
        have last : ∃ x', (some (.inl (l0, (l0.length : Int), IntKind.wrap .i64 ((i : Int) + 1), b'.f_scale, b'.f_l, b'.f_t)) : Option ((List Spyxhand_Act × Int × Int × Int × List Sapi_Entry × Speriod_Table) ⊕ ((Int × List Sapi_Entry × Speriod_Table) ⊕ Bool))) = some (.inl x') ∧ (∃ (i : Nat) (b : Sledger_Book), x' = (l0, (l0.length : Int), (i : Int), b.f_scale, b.f_l, b.f_t) ∧ i ≤ l0.length ∧ BInv b) ∧ l0.length - x'.2.2.1.toNat < l0.length - i := by
          rw [wrapi (by omega)]
          exact ⟨_, rfl, ⟨i + 1, b', rfl, by omega, hb'⟩, by dsimp only; omega⟩
        cases h0 : e == 0 with
        | true =>
          have hm := he (by rw [beq_iff_eq] at h0; exact h0)
          rw [cond_true, Option.bind_some]
          dsimp only
          rw [hm, bne_self_eq_false, cond_false, pk hb'.1]
          exact last
        | false =>
          rw [cond_false, Option.bind_some]
          dsimp only
          rw [cond_false, pk hb'.1]
          exact last
      cases hp : (pick (l0.getD i Spyxhand_Act.zero).f_What 8 == 0) with
      | true =>
        have hcl : ledger_Book_Close.f k ⟨b.f_scale, b.f_l, b.f_t⟩ (pick (l0.getD i Spyxhand_Act.zero).f_B 3) = some (closeB b _) := Bclose_eq k b1 _
        have hI := closeB_inv hB0 (pick (l0.getD i Spyxhand_Act.zero).f_B 3)
        refine ex_of2 (bind_at (v := ((b.f_l.length : Int), (b.f_l.length : Int), (closeB b (pick (l0.getD i Spyxhand_Act.zero).f_B 3)).1, l0, (l0.length : Int), (i : Int), (closeB b (pick (l0.getD i Spyxhand_Act.zero).f_B 3)).2.f_scale, (closeB b (pick (l0.getD i Spyxhand_Act.zero).f_B 3)).2.f_l, (closeB b (pick (l0.getD i Spyxhand_Act.zero).f_B 3)).2.f_t)) ?_ rfl) (fin _ _ _ hI (fun _ => rfl))
        rw [cond_true, hcl, Option.bind_some, pk hI.1]
      | false =>
        cases hp1 : (pick (l0.getD i Spyxhand_Act.zero).f_What 8 == 1) with
        | true =>
          have hrv : ledger_Book_Reverse.f k ⟨b.f_scale, b.f_l, b.f_t⟩ (pick (l0.getD i Spyxhand_Act.zero).f_N 6) (pick (l0.getD i Spyxhand_Act.zero).f_B 3) = some (revR 2 b _ _) := Brev_eq hk1 b1 b3 (by decide) _ _ (fun x hx => by
            obtain ⟨j, hj, rfl⟩ := List.getElem_of_mem hx
            have := (b4 j hj).1
            rw [List.getD_eq_getElem?_getD, List.getElem?_eq_getElem hj] at this
            exact this)
          obtain ⟨hI, hn⟩ := revR_inv hB0 (pick (l0.getD i Spyxhand_Act.zero).f_N 6) (pick (l0.getD i Spyxhand_Act.zero).f_B 3)
          generalize revR 2 b (pick (l0.getD i Spyxhand_Act.zero).f_N 6) (pick (l0.getD i Spyxhand_Act.zero).f_B 3) = r at *
          refine ex_of2 (bind_at (v := ((b.f_l.length : Int), r.1, r.2.1, l0, (l0.length : Int), (i : Int), r.2.2.f_scale, r.2.2.f_l, r.2.2.f_t)) ?_ rfl) (fin _ _ _ hI hn)
          rw [cond_false, cond_true, Pick_eq k _ (by decide) (by decide), Option.bind_some, hrv, Option.bind_some, pk hI.1]
        | false =>
          obtain ⟨out, o1, o2, o3⟩ := HLines_ok (k := k) (by omega) (l0.getD i Spyxhand_Act.zero).f_L wL (s := 2) (by decide) (b := (l0.getD i Spyxhand_Act.zero).f_Bend) (wfi64 wBe) (e := 4) (by decide)
          have o1' : pyxhand_Lines.f k (l0.getD i Spyxhand_Act.zero).f_L 2 (l0.getD i Spyxhand_Act.zero).f_Bend 4 = some out := o1
          have hps : ledger_Book_Post.f k ⟨b.f_scale, b.f_l, b.f_t⟩ (pick (l0.getD i Spyxhand_Act.zero).f_B 3) out = some (postR 2 b _ _) := Bpost_eq hk1 b1 b3 (s := 2) (by decide) b2 _ (by omega) o3
          obtain ⟨hI, hn⟩ := postR_inv hB0 (pick (l0.getD i Spyxhand_Act.zero).f_B 3) o3
          generalize postR 2 b (pick (l0.getD i Spyxhand_Act.zero).f_B 3) out = r at *
          refine ex_of2 (bind_at (v := ((b.f_l.length : Int), r.1, r.2.1, l0, (l0.length : Int), (i : Int), r.2.2.f_scale, r.2.2.f_l, r.2.2.f_t)) ?_ rfl) (fin _ _ _ hI hn)
          rw [cond_false, cond_false, o1', Option.bind_some, hps, Option.bind_some, pk hI.1]
    · right
      rw [cf (by omega), pk b1]
      exact ⟨_, rfl, b, rfl, hB0⟩) k (l0, (l0.length : Int), 0, 2, [], T0) ⟨0, ⟨2, [], T0⟩, rfl, by omega, T12_0, rfl, by simp, fun i hi => by cases hi⟩ (by dsimp only; omega)
  obtain ⟨b, rfl, hB⟩ := h2
  rw [h1, Option.bind_some]
  dsimp only
  rw [pk hB.1]
  have ent : ledger_Book_Entries.f k ⟨b.f_scale, b.f_l, b.f_t⟩ = some (b.f_l, b) := Bentries_eq hk1 hB.1 hB.2.2.1 (fun x hx => by
    obtain ⟨j, hj, rfl⟩ := List.getElem_of_mem hx
    have := (hB.2.2.2 j hj).1.1
    rw [List.getD_eq_getElem?_getD, List.getElem?_eq_getElem hj] at this
    exact Nat.le_trans this (by decide))
  rw [ent, Option.bind_some]
  dsimp only
  have h40 := hB.2.2.1
  have al := Even_all hk1 hB k 0 (List.replicate b.f_l.length false) (by omega) (by omega) (by simp) (fun j hj => by
    rw [List.getD_eq_getElem?_getD, List.getElem?_replicate] at hj
    split at hj <;> cases hj)
  have al' : iter (pyxlaw14_LedgerEven.l24.once k) k (b.f_l, b.f_l, (b.f_l.length : Int), 0, List.replicate (Int.toNat (b.f_l.length : Int)) false) = some (.inl ()) := by rw [Int.toNat_natCast]; exact al
  rw [decide_eq_true (show (0 : Int) ≤ (b.f_l.length : Int) by omega), decide_eq_true (show (b.f_l.length : Int) = (b.f_l.length : Int) from rfl), decide_eq_true (show (b.f_l.length : Int) * 1 ≤ 140737488355328 by omega), Bool.and_self, Bool.and_self, cond_true, al', Option.bind_some]
end Go.Proofs.Ytlaogfkgkpgofaa.Pure
