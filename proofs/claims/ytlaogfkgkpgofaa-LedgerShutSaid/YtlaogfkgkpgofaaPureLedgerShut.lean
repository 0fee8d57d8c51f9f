/- LedgerShut: what is refused changes nothing. No conditions but size. -/
import Derived.Test.YtlaogfkgkpgofaaLb
namespace Go.Proofs.Ytlaogfkgkpgofaa.Pure
set_option linter.unusedVariables false
set_option linter.unusedSimpArgs false
open Go Go.Ev Go.Lm Go.Pu Go.Dg

theorem ex_of2 {α : Type} {x r : Option α} {β : Type} {P : β → Prop} {f : β → Option α} (h : x = r) (h' : ∃ v, r = f v ∧ P v) : ∃ v, x = f v ∧ P v := by rw [h]; exact h'
theorem bind_ex {α β γ : Type} {X : Option α} {G : α → Option β} {P : γ → Prop} {f : γ → Option β} (Q : α → Prop) (h : ∃ v, X = some v ∧ Q v) (h' : ∀ v, Q v → ∃ x', G v = f x' ∧ P x') : ∃ x', X.bind G = f x' ∧ P x' := by
  obtain ⟨v, rfl, hv⟩ := h
  exact h' v hv
theorem Same_lines {k : Nat} (hk : 1000 < k) (l : List Sapi_Entry) {i : Nat} (hi : i < l.length) (hl : l.length ≤ 1000) (h8 : (l.getD i Sapi_Entry.zero).f_Lines.length ≤ 1000 - 1) (n i' : Int) :
    iter (pyxlaw14_same.l9.once k) k (l, l, (i : Int), n, i', ((l.getD i Sapi_Entry.zero).f_Lines.length : Int), 0) = some (.inl (l, l, n, i')) := by
  have h := iter_seq (once := pyxlaw14_same.l9.once k) (fun j => (l, l, (i : Int), n, i', ((l.getD i Sapi_Entry.zero).f_Lines.length : Int), (j : Int))) (l.getD i Sapi_Entry.zero).f_Lines.length (by
    intro j hj
    unfold pyxlaw14_same.l9.once
    dsimp only
    rw [ct (by omega), inb_t (by omega) (by omega), cond_true, Int.toNat_natCast, inb_t (by omega) (by omega), cond_true, cond_true, cond_true]
    simp only [beq_self_eq_true, Bool.and_self, Bool.not_true, cond_false]
    rw [wrapi (by omega)]
    rfl) (.inl (l, l, n, i')) (by
    unfold pyxlaw14_same.l9.once
    dsimp only
    rw [cf (by omega)]) k 0 (by omega) (by omega)
  exact h
theorem Same_refl {k : Nat} (hk : 1000 < k) (l : List Sapi_Entry) (hl : l.length ≤ 900) (h8 : ∀ x ∈ l, x.f_Lines.length ≤ 900) : pyxlaw14_same.f k l l = some true := by
  unfold pyxlaw14_same.f
  rw [bne_self_eq_false, cond_false]
  have h := iter_seq (once := pyxlaw14_same.l4.once k) (fun i => (l, l, (l.length : Int), (i : Int))) l.length (by
    intro i hi
    have hm := h8 _ (getD_mem Sapi_Entry.zero hi)
    have hs := Same_lines hk l hi (by omega) (by omega) (l.length : Int) (i : Int)
    unfold pyxlaw14_same.l4.once
    dsimp only
    rw [ct (by omega), inb_t (by omega) (by omega)]
    simp only [cond_true, bne_self_eq_false, cond_false, Option.bind_some]
    rw [inb_t (by omega) (by omega), cond_true, Int.toNat_natCast, hs, Option.bind_some]
    dsimp only
    rw [wrapi (by omega)]
    rfl) (.inl ()) (by
    unfold pyxlaw14_same.l4.once
    dsimp only
    rw [cf (by omega)]) k 0 (by omega) (by omega)
  have h' : iter (pyxlaw14_same.l4.once k) k (l, l, (l.length : Int), 0) = some (.inl ()) := h
  rw [h', Option.bind_some]
def SInv (b : Sledger_Book) : Prop := T12 b.f_t ∧ b.f_scale = 2 ∧ b.f_l.length ≤ 40 ∧ ∀ x ∈ b.f_l, LsOk 2 x.f_Lines
/-- What an act in period p may make of a book. -/
def ActOk (b : Sledger_Book) (p : Int) (e : Int) (b' : Sledger_Book) : Prop := SInv b' ∧ (e ≠ 0 → b' = b) ∧ (b'.f_l = b.f_l ∨ ((∃ x, b'.f_l = b.f_l ++ [x]) ∧ b.f_t.f_Closed.getD p.toNat false = false))
theorem ActOk.same {b : Sledger_Book} (h : SInv b) (p e : Int) : ActOk b p e b := ⟨h, fun _ => rfl, .inl rfl⟩
theorem addR_act {b : Sledger_Book} (h : SInv b) {x : Sapi_Entry} (hx : LsOk 2 x.f_Lines) : ActOk b x.f_Period (addR b x).2.1 (addR b x).2.2 := by
  have h0 := h
  obtain ⟨h1, h2, h3, h4⟩ := h
  unfold addR
  split
  · rename_i ho
    split
    · exact .same h0 _ _
    · refine ⟨⟨h1, h2, by dsimp only; rw [List.length_append, List.length_singleton]; omega, fun y hy => ?_⟩, fun h => absurd rfl h, .inr ⟨⟨x, rfl⟩, ?_⟩⟩
      · dsimp only at hy
        rcases List.mem_append.1 hy with hy | hy
        · exact h4 y hy
        · simp only [List.mem_cons, List.not_mem_nil, or_false] at hy
          subst hy
          exact hx
      · unfold opn at ho
        simp only [Bool.and_eq_true, Bool.not_eq_true'] at ho
        exact ho.2.2
  · exact .same h0 _ _
theorem rightE_ls {l : List Sapi_Line} (hw : ∀ x ∈ l, LnW x) {s : Nat} (h : rightE s l = 0) : LsOk s l := by
  unfold rightE at h
  split at h
  · cases h
  · split at h
    · rename_i h1 h2
      refine ⟨by omega, fun x hx => ?_⟩
      obtain ⟨g1, g2, _⟩ := rl_DV (hw x hx) (List.all_eq_true.1 h2 x hx)
      exact ⟨g1, g2⟩
    · cases h
theorem LsOk_turn {s : Nat} {l : List Sapi_Line} (h : LsOk s l) : LsOk s (l.map (turn s)) := by
  refine ⟨by rw [List.length_map]; exact h.1, fun x hx => ?_⟩
  obtain ⟨y, hy, rfl⟩ := List.mem_map.1 hx
  obtain ⟨_, h2⟩ := h.2 y hy
  have : val (turn s y).f_Amount = -(val y.f_Amount) := by unfold turn; rw [val_DV]
  rw [this]
  exact ⟨rfl, by unfold Sm at *; omega⟩
theorem postR_act {b : Sledger_Book} (h : SInv b) (p : Int) {l : List Sapi_Line} (hw : ∀ x ∈ l, LnW x) : ActOk b p (postR 2 b p l).2.1 (postR 2 b p l).2.2 := by
  unfold postR
  split
  · rename_i h0
    exact addR_act h (x := ⟨p, l, -1⟩) (rightE_ls hw h0)
  · exact .same h _ _
theorem revR_act {b : Sledger_Book} (h : SInv b) (n p : Int) : ActOk b p (revR 2 b n p).2.1 (revR 2 b n p).2.2 := by
  unfold revR
  split
  · exact .same h _ _
  · split
    · exact .same h _ _
    · rename_i h0 h1
      exact addR_act h (x := ⟨p, (b.f_l.getD n.toNat Sapi_Entry.zero).f_Lines.map (turn 2), n⟩) (LsOk_turn (h.2.2.2 _ (getD_mem Sapi_Entry.zero (by omega))))
theorem closeB_act {b : Sledger_Book} (h : SInv b) (p : Int) : ActOk b p (closeB b p).1 (closeB b p).2 := by
  obtain ⟨h1, h2, h3, h4⟩ := h
  obtain ⟨g1, g2⟩ := closeB_l b p
  refine ⟨⟨closeB_T h1 p, by rw [g2]; exact h2, by rw [g1]; exact h3, by rw [g1]; exact h4⟩, fun he => ?_, .inl g1⟩
  unfold closeB at he ⊢
  dsimp only at he ⊢
  rw [if_neg he]
theorem Preopen_ok (k : Nat) {t : Speriod_Table} (h : T12 t) (p : Int) : ∃ t' e, period_Reopen.f k t p = some (t', e) ∧ T12 t' := by
  unfold period_Reopen.f period_is.f
  rw [pk h, pack_eq false h.1]
  have fin : ∀ bb : Bool, (bb = false → 0 ≤ p ∧ p < 12) → ∃ t' e, (some (p, bb, t, T0) : Option (Int × Bool × Speriod_Table × Speriod_Table)).bind (fun y7 => (cond (y7.2.1) (some ((⟨[false, false, false, false, false, false, false, false, false, false, false, false], [0, 0, 0, 0, 0, 0, 0, 0, 0, 0, 0, 0]⟩ : Speriod_Table), 8)) (cond (inb y7.1 12) (cond (Nat.blt (Int.toNat y7.1) 12) (some ((⟨putAll (Int.toNat y7.1) false 0 (pack 12 false y7.2.2.1.f_Closed), pack 12 0 y7.2.2.1.f_Version⟩ : Speriod_Table), (0 : Int))) none) none))) = some (t', e) ∧ T12 t' := by
    intro bb hb
    rw [Option.bind_some]
    dsimp only
    cases bb
    · obtain ⟨p0, p1⟩ := hb rfl
      rw [cond_false, inb_t (by omega) (by omega), blt_t (by omega), pack_eq false h.1, pack_eq 0 h.2, putAll_set]
      exact ⟨_, _, rfl, by rw [List.length_set]; exact h.1, h.2⟩
    · exact ⟨_, _, rfl, T12_0⟩
  have go : ∀ {r : Option (Int × Bool × Speriod_Table × Speriod_Table)} (bb : Bool), r = some (p, bb, t, T0) → (bb = false → 0 ≤ p ∧ p < 12) → ∃ t' e, r.bind (fun y7 => (cond (y7.2.1) (some ((⟨[false, false, false, false, false, false, false, false, false, false, false, false], [0, 0, 0, 0, 0, 0, 0, 0, 0, 0, 0, 0]⟩ : Speriod_Table), 8)) (cond (inb y7.1 12) (cond (Nat.blt (Int.toNat y7.1) 12) (some ((⟨putAll (Int.toNat y7.1) false 0 (pack 12 false y7.2.2.1.f_Closed), pack 12 0 y7.2.2.1.f_Version⟩ : Speriod_Table), (0 : Int))) none) none))) = some (t', e) ∧ T12 t' := by
    intro r bb hr hb
    rw [hr]
    exact fin bb hb
  by_cases h0 : p ≥ 0
  · by_cases h1 : p < 12
    · rw [ct h0, decide_eq_true h1, Option.bind_some, Bool.not_true, cond_false, inb_t (by omega) (by omega), cond_true, blt_t (by omega), cond_true]
      cases t.f_Closed.getD p.toNat false
      · exact go true rfl (fun h => by cases h)
      · rw [Bool.not_true, cond_false, wrapi (by omega)]
        by_cases h2 : p + 1 < 12
        · rw [ct (by omega), decide_eq_true h2, Option.bind_some, cond_true, inb_t (by omega) (by omega), cond_true, blt_t (by omega), cond_true]
          exact go _ rfl (fun _ => ⟨h0, h1⟩)
        · rw [ct (by omega), decide_eq_false h2, Option.bind_some, cond_false]
          exact go _ rfl (fun _ => ⟨h0, h1⟩)
    · rw [ct h0, decide_eq_false h1, Option.bind_some]
      exact go true rfl (fun h => by cases h)
  · rw [cf h0, Option.bind_some]
    exact go true rfl (fun h => by cases h)
theorem Breopen_ok (k : Nat) {b : Sledger_Book} (h : SInv b) (p : Int) : ∃ e b', ledger_Book_Reopen.f k b p = some (e, b') ∧ ActOk b p e b' := by
  obtain ⟨t, e, t1, t2⟩ := Preopen_ok k h.1 p
  unfold ledger_Book_Reopen.f ledger_Book_turn_c90.f
  rw [pkB h.1, pk h.1, t1, Option.bind_some]
  dsimp only
  rw [pk t2]
  cases h0 : e == 0
  · rw [cond_false, Option.bind_some]
    dsimp only
    rw [pk h.1]
    exact ⟨_, _, rfl, .same h _ _⟩
  · rw [cond_true, Option.bind_some]
    dsimp only
    rw [pk t2]
    exact ⟨_, _, rfl, ⟨t2, h.2⟩, fun he => absurd (by rw [beq_iff_eq] at h0; exact h0) he, .inl rfl⟩
theorem LedgerShut (l0 : List Spyxhand_Act) (w0 : (l0.length ≤ 9223372036854775807 ∧ l0.length * 80 ≤ 140737488351232 ∧ ∀ z ∈ l0, ((Lit.int .i64 z.f_What).wf = true) ∧ ((Lit.int .i64 z.f_Who).wf = true) ∧ ((Lit.int .i64 z.f_A).wf = true) ∧ ((Lit.int .i64 z.f_B).wf = true) ∧ ((Lit.int .i64 z.f_C).wf = true) ∧ ((Lit.int .i64 z.f_N).wf = true) ∧ ((Lit.int .i64 z.f_Bend).wf = true) ∧ ((z.f_L.length ≤ 9223372036854775807 ∧ z.f_L.length * 8 ≤ 140737488351232 ∧ ∀ z1 ∈ z.f_L, (Lit.int .i64 z1).wf = true)) ∧ True)) : ∃ k, pyxlaw14_LedgerShut.f k l0 = some true := by
  obtain ⟨hlen, hb, hz⟩ := w0
  refine ⟨l0.length + 2000, ?_⟩
  generalize hk : l0.length + 2000 = k
  have hk1 : 1000 < k := by omega
  unfold pyxlaw14_LedgerShut.f
  have hnew : ledger_New.f k 2 = some ⟨2, [], T0⟩ := rfl
  rw [hnew, Option.bind_some, known14 hk1, Option.bind_some, Bool.not_true, cond_false, Option.bind_some]
  dsimp only
  rw [cond_false]
  have hT0 : (⟨pack 12 false (pack 12 false T0.f_Closed), pack 12 0 (pack 12 0 T0.f_Version)⟩ : Speriod_Table) = T0 := rfl
  rw [hT0]
  obtain ⟨y, h1, h2⟩ := iter_rule (once := pyxlaw14_LedgerShut.l5.once k) (fun st => ∃ (i : Nat) (b : Sledger_Book), st = (l0, (l0.length : Int), (i : Int), b.f_scale, b.f_l, b.f_t) ∧ i ≤ l0.length ∧ SInv b) (fun st => l0.length - st.2.2.1.toNat)
    (fun r => r = .inl ()) (by
    rintro _ ⟨i, b, rfl, hi, hB⟩
    have hB0 := hB
    obtain ⟨b1, b2, b3, b4⟩ := hB
    unfold pyxlaw14_LedgerShut.l5.once
    dsimp only
    by_cases hc : i < l0.length
    · left
      have hx : l0.getD (Int.toNat (i : Int)) Spyxhand_Act.zero = l0.getD i Spyxhand_Act.zero := by rw [Int.toNat_natCast]
      obtain ⟨_, _, _, wB, _, wN, wBe, ⟨wL, _, _⟩, _⟩ := hz _ (getD_mem Spyxhand_Act.zero hc)
      have pb := pick_bd (l0.getD i Spyxhand_Act.zero).f_B (m := 3) (by decide)
      rw [ct (by omega), inb_t (by omega) (by omega), cond_true, hx, Pick_eq k _ (by decide) (by decide), Option.bind_some, pk b1]
      generalize pick (l0.getD i Spyxhand_Act.zero).f_B 3 = p at *
      have entA : ∀ b' : Sledger_Book, SInv b' → ledger_Book_Entries.f k ⟨b'.f_scale, b'.f_l, b'.f_t⟩ = some (b'.f_l, b') := fun b' hb' => Bentries_eq hk1 hb'.1 hb'.2.2.1 (fun x hx => Nat.le_trans (hb'.2.2.2 x hx).1 (by decide))
      have perA : ∀ b' : Sledger_Book, SInv b' → ledger_Book_Periods.f k ⟨b'.f_scale, b'.f_l, b'.f_t⟩ = some (b'.f_t, b') := fun b' hb' => by
        unfold ledger_Book_Periods.f
        dsimp only
        rw [pk hb'.1]
      rw [entA b hB0, Option.bind_some]
      dsimp only
      rw [pk b1, perA b hB0, Option.bind_some, Pick_eq k _ (by decide) (by decide), Option.bind_some]
      dsimp only
      rw [pk b1]
      have sameA : ∀ b' : Sledger_Book, ActOk b p 0 b' ∨ True → SInv b' → (b'.f_l = b.f_l ∨ ∃ x, b'.f_l = b.f_l ++ [x]) → inS 0 (b.f_l.length : Int) b'.f_l.length = true ∧ pyxlaw14_same.f k (List.take (Int.toNat (b.f_l.length : Int)) b'.f_l) b.f_l = some true := by
        intro b' _ hb' hl
        have ht : List.take (Int.toNat (b.f_l.length : Int)) b'.f_l = b.f_l := by
          rw [Int.toNat_natCast]
          rcases hl with hl | ⟨x, hl⟩
          · rw [hl, List.take_length]
          · rw [hl, List.take_left]
        rw [ht]
        refine ⟨inS_t (by omega) (by omega) ?_, Same_refl hk1 _ (by omega) (fun x hx => Nat.le_trans (b4 x hx).1 (by decide))⟩
        rcases hl with hl | ⟨x, hl⟩
        · rw [hl]; omega
        · rw [hl, List.length_append]; omega
      have last : ∀ b' : Sledger_Book, SInv b' → ∃ x', (some (.inl (l0, (l0.length : Int), IntKind.wrap .i64 ((i : Int) + 1), b'.f_scale, b'.f_l, b'.f_t)) : Option ((List Spyxhand_Act × Int × Int × Int × List Sapi_Entry × Speriod_Table) ⊕ (Unit ⊕ Bool))) = some (.inl x') ∧ (∃ (i : Nat) (b : Sledger_Book), x' = (l0, (l0.length : Int), (i : Int), b.f_scale, b.f_l, b.f_t) ∧ i ≤ l0.length ∧ SInv b) ∧ l0.length - x'.2.2.1.toNat < l0.length - i := by
        intro b' hb'
        rw [wrapi (by omega)]
        exact ⟨_, rfl, ⟨i + 1, b', rfl, by omega, hb'⟩, by dsimp only; omega⟩
      refine bind_ex (fun v => ∃ e b', ActOk b p e b' ∧ v = (p, b.f_l, e, l0, (l0.length : Int), (i : Int), b'.f_scale, b'.f_l, b'.f_t, b.f_t)) ?_ ?_
      · cases (pick (l0.getD i Spyxhand_Act.zero).f_What 7 == 0)
        · rw [cond_false]
          cases (pick (l0.getD i Spyxhand_Act.zero).f_What 7 == 1)
          · rw [cond_false]
            cases (pick (l0.getD i Spyxhand_Act.zero).f_What 7 == 2)
            · obtain ⟨out, o1, o2, o3⟩ := HLines_ok (k := k) (by omega) (l0.getD i Spyxhand_Act.zero).f_L wL (s := 2) (by decide) (b := (l0.getD i Spyxhand_Act.zero).f_Bend) (wfi64 wBe) (e := 4) (by decide)
              have o1' : pyxhand_Lines.f k (l0.getD i Spyxhand_Act.zero).f_L 2 (l0.getD i Spyxhand_Act.zero).f_Bend 4 = some out := o1
              have hps : ledger_Book_Post.f k ⟨b.f_scale, b.f_l, b.f_t⟩ p out = some (postR 2 b p out) := Bpost_eq hk1 b1 b3 (s := 2) (by decide) b2 _ (by omega) o3
              have hA := postR_act hB0 p o3
              rw [cond_false, o1', Option.bind_some, hps, Option.bind_some]
              refine ⟨_, rfl, _, _, hA, ?_⟩
              rw [pk hA.1.1]
            · have hrv : ledger_Book_Reverse.f k ⟨b.f_scale, b.f_l, b.f_t⟩ (pick (l0.getD i Spyxhand_Act.zero).f_N 6) p = some (revR 2 b _ p) := Brev_eq hk1 b1 b3 (by decide) _ _ b4
              have hA := revR_act hB0 (pick (l0.getD i Spyxhand_Act.zero).f_N 6) p
              rw [cond_true, Pick_eq k _ (by decide) (by decide), Option.bind_some, hrv, Option.bind_some]
              refine ⟨_, rfl, _, _, hA, ?_⟩
              rw [pk hA.1.1]
          · obtain ⟨e, b', r1, hA⟩ := Breopen_ok k hB0 p
            have r1' : ledger_Book_Reopen.f k ⟨b.f_scale, b.f_l, b.f_t⟩ p = some (e, b') := r1
            rw [cond_true, r1', Option.bind_some]
            refine ⟨_, rfl, _, _, hA, ?_⟩
            rw [pk hA.1.1]
        · have hcl : ledger_Book_Close.f k ⟨b.f_scale, b.f_l, b.f_t⟩ p = some (closeB b p) := Bclose_eq k b1 _
          have hA := closeB_act hB0 p
          rw [cond_true, hcl, Option.bind_some]
          refine ⟨_, rfl, _, _, hA, ?_⟩
          rw [pk hA.1.1]
      · rintro _ ⟨e, b', hA, rfl⟩
        have hS := hA.1
        obtain ⟨hin, hsm⟩ := sameA b' (.inr trivial) hS (hA.2.2.imp_right And.left)
        dsimp only
        rw [pk hS.1, entA b' hS, Option.bind_some]
        dsimp only
        rw [pk hS.1, pack_eq false b1.1, perA b' hS, hin, hsm]
        have hlen2 : ¬ ((b'.f_l.length : Int) < (b.f_l.length : Int)) := by
          rcases hA.2.2 with hl | ⟨⟨x, hl⟩, _⟩
          · rw [hl]; omega
          · rw [hl, List.length_append]; omega
        rw [cf hlen2]
        have hcl : (b'.f_l.length : Int) > (b.f_l.length : Int) → b.f_t.f_Closed.getD p.toNat false = false := by
          rcases hA.2.2 with hl | ⟨⟨x, hl⟩, hf⟩
          · rw [hl]; omega
          · exact fun _ => hf
        cases he : (e != 0)
        · rw [cond_false]
          by_cases hg : (b'.f_l.length : Int) > (b.f_l.length : Int)
          · rw [ct hg, inb_t (by omega) (by omega), cond_true, blt_t (by omega), cond_true, hcl hg, cond_false, cond_true, Option.bind_some, Option.bind_some]
            dsimp only
            rw [Bool.not_true, cond_false, pk hS.1]
            exact last b' hS
          · rw [cf hg, cond_true, Option.bind_some, Option.bind_some]
            dsimp only
            rw [Bool.not_true, cond_false, pk hS.1]
            exact last b' hS
        · have hbb : b' = b := hA.2.1 (by rw [bne_iff_ne] at he; exact he)
          subst hbb
          rw [cond_true, bne_self_eq_false, cond_false, Option.bind_some]
          simp only [beq_self_eq_true, Bool.and_self, Bool.not_true, cond_false]
          rw [cf (by omega), cond_true, Option.bind_some, Option.bind_some]
          dsimp only
          rw [Bool.not_true, cond_false]
          simp only [pack_eq false hS.1.1, pack_eq (0 : Int) hS.1.2]
          exact last b' hS
    · right
      rw [cf (by omega)]
      exact ⟨_, rfl, rfl⟩) k (l0, (l0.length : Int), 0, 2, [], T0) ⟨0, ⟨2, [], T0⟩, rfl, by omega, T12_0, rfl, by simp, fun x hx => by cases hx⟩ (by dsimp only; omega)
  subst h2
  rw [h1, Option.bind_some]
end Go.Proofs.Ytlaogfkgkpgofaa.Pure
