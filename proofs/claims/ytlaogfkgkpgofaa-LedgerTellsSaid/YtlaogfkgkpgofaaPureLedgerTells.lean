/- LedgerTells: of any book, whatever is done, each answer, and the book, are as the document says. No conditions but size. -/
import Derived.Test.YtlaogfkgkpgofaaLs
namespace Go.Proofs.Ytlaogfkgkpgofaa.Pure
set_option linter.unusedVariables false
set_option linter.unusedSimpArgs false
open Go Go.Ev Go.Lm Go.Pu Go.Dg
theorem bexv {α β : Type} {X : Option α} {v : α} {G : α → Option β} {P : β → Prop} (h : X = some v) (h' : ∃ r, G v = some r ∧ P r) : ∃ r, X.bind G = some r ∧ P r := by
  rw [h]
  exact h'
theorem bex {α β : Type} {X : Option α} {G : α → Option β} {P : β → Prop} (Q : α → Prop) (h : ∃ v, X = some v ∧ Q v) (h' : ∀ v, Q v → ∃ r, G v = some r ∧ P r) : ∃ r, X.bind G = some r ∧ P r := by
  obtain ⟨v, hv, hq⟩ := h
  rw [hv]
  exact h' v hq
structure TInv (s : Nat) (b : Sledger_Book) : Prop where
  T : T12 b.f_t
  len : b.f_l.length ≤ 40
  sc : b.f_scale = (s : Int)
  ls : ∀ x ∈ b.f_l, LsOk s x.f_Lines
theorem TInv.add {s : Nat} {b : Sledger_Book} (h : TInv s b) {x : Sapi_Entry} (hx : LsOk s x.f_Lines) : TInv s (addR b x).2.2 := by
  unfold addR
  split
  · split
    · exact h
    · rename_i h40
      have := h.len
      refine ⟨h.T, by simp; omega, h.sc, fun y hy => ?_⟩
      rcases List.mem_append.1 hy with hy | hy
      · exact h.ls y hy
      · have : y = x := by simpa using hy
        rw [this]; exact hx
  · exact h
theorem LsOk_right {s : Nat} {l : List Sapi_Line} (hw : ∀ x ∈ l, LnW x) (h : rightE s l = 0) : LsOk s l := by
  unfold rightE at h
  split at h
  · cases h
  · rename_i h0
    split at h
    · rename_i ha
      refine ⟨by omega, fun x hx => ?_⟩
      obtain ⟨e1, e2, _, _⟩ := rl_DV (hw x hx) (List.all_eq_true.1 ha x hx)
      exact ⟨e1, e2⟩
    · cases h
theorem TInv.post {s : Nat} {b : Sledger_Book} (h : TInv s b) (p : Int) {l : List Sapi_Line} (hw : ∀ x ∈ l, LnW x) : TInv s (postR s b p l).2.2 := by
  unfold postR
  split
  · rename_i h0
    exact h.add (LsOk_right hw h0)
  · exact h
theorem LsOk_turned {s : Nat} {l : List Sapi_Line} (h : LsOk s l) : LsOk s (l.map (turn s)) := by
  refine ⟨by rw [List.length_map]; exact h.1, fun x hx => ?_⟩
  obtain ⟨y, hy, rfl⟩ := List.mem_map.1 hx
  obtain ⟨_, h2⟩ := h.2 y hy
  have : val (turn s y).f_Amount = -(val y.f_Amount) := by unfold turn; rw [val_DV]
  rw [this]
  exact ⟨rfl, by unfold Sm at *; omega⟩
theorem TInv.rev {s : Nat} {b : Sledger_Book} (h : TInv s b) (n p : Int) : TInv s (revR s b n p).2.2 := by
  unfold revR
  split
  · exact h
  · rename_i h0
    split
    · exact h
    · exact h.add (LsOk_turned (h.ls _ (getD_memL Sapi_Entry.zero (by omega))))
theorem TInv.turn {s : Nat} {b : Sledger_Book} (h : TInv s b) {c : List Bool × List Int × Int} (hc : c.1.length = 12 ∧ c.2.1.length = 12) : TInv s (turnB b c).2 := by
  refine ⟨turnB_T h.T hc, ?_, ?_, ?_⟩ <;> unfold turnB <;> dsimp only <;> cases c.2.2 == 0
  · exact h.len
  · exact h.len
  · exact h.sc
  · exact h.sc
  · exact h.ls
  · exact h.ls
/-- An act of raw numbers. -/
def ActW (z : Spyxhand_Act) : Prop := z.f_L.length ≤ 9223372036854775807 ∧ (-9223372036854775808 ≤ z.f_Bend ∧ z.f_Bend < 9223372036854775808)
theorem book_step {k : Nat} (hk : 1002 < k) {l : List Spyxhand_Act} (hl : l.length ≤ 9223372036854775807) (hw : ∀ z ∈ l, ActW z) {s : Nat} (hs : s ≤ 4) {i : Nat} (hi : i < l.length) {b : Sledger_Book} (h : TInv s b) :
    ∃ r, pyxlaw14_LedgerTells.l7.once k (l, (l.length : Int), (i : Int), b.f_scale, b.f_l, b.f_t, b.f_scale, b.f_l, ⟨b.f_t.f_Closed, b.f_t.f_Version⟩) = some r ∧
      ∃ b', r = .inl (l, (l.length : Int), ((i + 1 : Nat) : Int), b'.f_scale, b'.f_l, b'.f_t, b'.f_scale, b'.f_l, ⟨b'.f_t.f_Closed, b'.f_t.f_Version⟩) ∧ TInv s b' := by
  have e1 := pk h.T
  have e2 := pkR h.T.1 h.T.2
  have hx : ActW (l.getD i Spyxhand_Act.zero) := by
    refine hw _ ?_
    rw [List.getD_eq_getElem?_getD, List.getElem?_eq_getElem hi]
    exact List.getElem_mem hi
  have hwr := wrapi (show -9223372036854775808 ≤ (i : Int) + 1 ∧ (i : Int) + 1 < 9223372036854775808 by omega)
  unfold pyxlaw14_LedgerTells.l7.once
  dsimp only
  rw [ct (show (i : Int) < (l.length : Int) by omega), inb_t (by omega) (by omega), cond_true, Int.toNat_natCast]
  simp only [e1, e2]
  generalize l.getD i Spyxhand_Act.zero = x at hx ⊢
  have bp := pick_bd x.f_B (m := 5) (by decide)
  have bn := pick_bd x.f_N (m := 8) (by decide)
  have pN := Pick_eq k x.f_N (m := 8) (by decide) (by decide)
  refine bexv (Pick_eq k x.f_B (by decide) (by decide)) (bexv (Pick_eq k x.f_What (by decide) (by decide)) ?_)
  generalize pick x.f_B 5 = p0 at bp
  generalize pick x.f_What 9 = w
  generalize pick x.f_N 8 = n0 at bn pN
  rw [wrapi (show -9223372036854775808 ≤ p0 - 1 ∧ p0 - 1 < 9223372036854775808 by omega)]
  have hp : -1000 ≤ p0 - 1 ∧ p0 - 1 ≤ 1000 := by omega
  generalize p0 - 1 = p at hp
  refine bex (fun y => ∃ b', y = .inl (l, (l.length : Int), (i : Int), b'.f_scale, b'.f_l, b'.f_t, b'.f_scale, b'.f_l, ⟨b'.f_t.f_Closed, b'.f_t.f_Version⟩) ∧ TInv s b') ?_ ?_
  · cases w == 0 with
    | true =>
      have hI := h.turn (Pe.clo_len h.T.1 h.T.2 p)
      rw [cond_true]
      refine bexv (Bclose2 k h.T hp) (bexv (RBclose k h.T hp) ?_)
      dsimp only [rof]
      simp only [pk hI.T, pkR hI.T.1 hI.T.2, bne_self_eq_false, cond_false]
      exact ⟨_, rfl, _, rfl, hI⟩
    | false =>
      rw [cond_false]
      cases w == 1 with
      | true =>
        have hI := h.turn (Pe.reo_len h.T.1 h.T.2 p)
        rw [cond_true]
        refine bexv (Breopen2 k h.T hp) (bexv (RBreopen k h.T hp) ?_)
        dsimp only [rof]
        simp only [pk hI.T, pkR hI.T.1 hI.T.2, bne_self_eq_false, cond_false]
        exact ⟨_, rfl, _, rfl, hI⟩
      | false =>
        rw [cond_false]
        refine bexv (v := (p, l, (l.length : Int), (i : Int), (w == 2) || (w == 3), b.f_scale, b.f_l, b.f_t, b.f_scale, b.f_l, ⟨b.f_t.f_Closed, b.f_t.f_Version⟩, x)) ?_ ?_
        · cases w == 2 <;> rfl
        dsimp only
        simp only [e1, e2]
        cases (w == 2) || (w == 3) with
        | true =>
          have hI := h.rev (n0 - 1) p
          rw [cond_true]
          refine bexv pN ?_
          rw [wrapi (show -9223372036854775808 ≤ n0 - 1 ∧ n0 - 1 < 9223372036854775808 by omega)]
          refine bexv (Brev_eq (k := k) (by omega) h.T h.len (by omega : s ≤ 9) (n0 - 1) p h.ls) (bexv pN ?_)
          rw [wrapi (show -9223372036854775808 ≤ n0 - 1 ∧ n0 - 1 < 9223372036854775808 by omega)]
          refine bexv (RRev_eq hk h.T h.len (by omega : s ≤ 9) (n0 - 1) p h.ls) ?_
          dsimp only [rof]
          simp only [pk hI.T, pkR hI.T.1 hI.T.2, bne_self_eq_false, cond_false]
          exact ⟨_, rfl, _, rfl, hI⟩
        | false =>
          rw [cond_false]
          obtain ⟨y, hy, y1, y2⟩ := HLines_ok (k := k) (by omega) x.f_L hx.1 (by omega : s ≤ 9) hx.2 (e := 4) (by decide)
          have hI := h.post p y2
          refine bexv ((congrArg (fun z => pyxhand_Lines.f k x.f_L z x.f_Bend 4) h.sc).trans hy) ?_
          refine bexv (Bpost_eq (k := k) (by omega) h.T h.len (by omega : s ≤ 9) h.sc p (by omega) y2) (bexv (RPost_eq hk h.T h.len (by omega : s ≤ 9) h.sc p (by omega) y2) ?_)
          dsimp only [rof]
          simp only [pk hI.T, pkR hI.T.1 hI.T.2, bne_self_eq_false, cond_false]
          exact ⟨_, rfl, _, rfl, hI⟩
  · rintro _ ⟨b', rfl, hI⟩
    have f1 := pk hI.T
    have f2 := pkR hI.T.1 hI.T.2
    dsimp only
    simp only [f1, f2]
    refine bexv (v := (b'.f_t, b')) ?_ ?_
    · unfold ledger_Book_Periods.f
      rw [pk hI.T]
    dsimp only
    simp only [f1, f2]
    refine bexv (v := (l, (l.length : Int), (i : Int), false, b'.f_scale, b'.f_l, b'.f_t, b'.f_scale, b'.f_l, ⟨b'.f_t.f_Closed, b'.f_t.f_Version⟩)) ?_ ?_
    · simp only [beq_self_eq_true, Bool.and_self, Bool.not_true, cond_false]
    dsimp only
    simp only [f1, f2]
    rw [cond_false, hwr]
    exact ⟨_, rfl, b', rfl, hI⟩
/-- A scale within bounds. -/
def s4 (n : Int) : Nat := (max 0 (min n 4)).toNat
theorem RNew_eq (k : Nat) (n : Int) : pyxref11_NewBook.f k n = some (rof ⟨(s4 n : Int), [], T0⟩) := by
  have e : pyxref1_Within.f k n 0 4 = some ((s4 n : Nat) : Int) := by
    unfold pyxref1_Within.f s4
    refine congrArg some ?_
    by_cases h9 : n < 4
    · rw [if_pos h9]; split <;> omega
    · rw [if_neg h9, if_pos (by omega)]; omega
  unfold pyxref11_NewBook.f
  exact bof e rfl
theorem LedgerTells (n : Int) (w0 : (Lit.int .i64 n).wf = true) (l : List Spyxhand_Act) (w1 : (l.length ≤ 9223372036854775807 ∧ l.length * 80 ≤ 140737488351232 ∧ ∀ z ∈ l, ((Lit.int .i64 z.f_What).wf = true) ∧ ((Lit.int .i64 z.f_Who).wf = true) ∧ ((Lit.int .i64 z.f_A).wf = true) ∧ ((Lit.int .i64 z.f_B).wf = true) ∧ ((Lit.int .i64 z.f_C).wf = true) ∧ ((Lit.int .i64 z.f_N).wf = true) ∧ ((Lit.int .i64 z.f_Bend).wf = true) ∧ ((z.f_L.length ≤ 9223372036854775807 ∧ z.f_L.length * 8 ≤ 140737488351232 ∧ ∀ z1 ∈ z.f_L, (Lit.int .i64 z1).wf = true)) ∧ True)) :
    ∃ k, pyxlaw14_LedgerTells.f k n l = some true := by
  have hw : ∀ z ∈ l, ActW z := fun z hz => by
    obtain ⟨_, _, _, _, _, _, g7, g8, _⟩ := w1.2.2 z hz
    exact ⟨g8.1, wfi64 g7⟩
  refine ⟨l.length + 2000, ?_⟩
  obtain ⟨k, hk⟩ : ∃ k, l.length + 2000 = k := ⟨_, rfl⟩
  rw [hk]
  have b0 := pick_bd n (m := 8) (by decide)
  unfold pyxlaw14_LedgerTells.f
  refine bof (Pick_eq k n (by decide) (by decide)) ?_
  generalize pick n 8 = t at b0
  rw [wrapi (by omega)]
  have hT : TInv (s4 (t - 1)) ⟨(s4 (t - 1) : Int), [], T0⟩ := ⟨T12_0, Nat.zero_le _, rfl, fun x hx => (List.not_mem_nil hx).elim⟩
  have hs : s4 (t - 1) ≤ 4 := by unfold s4; omega
  have hN : ledger_New.f k (t - 1) = some ⟨(s4 (t - 1) : Int), [], T0⟩ := by
    rw [Bnew_eq]
    refine congrArg (fun z => some (⟨z, [], T0⟩ : Sledger_Book)) ?_
    unfold s4
    split <;> split <;> omega
  refine bof hN (bof (RNew_eq k (t - 1)) ?_)
  have e1 := pk T12_0
  have e2 := pkR T12_0.1 T12_0.2
  have e3 := pkB (b := ⟨(s4 (t - 1) : Int), [], T0⟩) T12_0
  dsimp only [rof] at e3 ⊢
  simp only [e1, e2]
  refine bof (v := (l, false, (s4 (t - 1) : Int), [], T0, (s4 (t - 1) : Int), [], ⟨T0.f_Closed, T0.f_Version⟩)) ?_ ?_
  · refine bof (known14 (k := k) (by omega)) ?_
    rw [Bool.not_true, cond_false]
    refine bof (Bscale_eq k (b := ⟨(s4 (t - 1) : Int), [], T0⟩) T12_0) ?_
    dsimp only
    simp only [e1, e2, bne_self_eq_false]
  dsimp only
  simp only [e1, e2]
  rw [cond_false]
  have st := iter_rule (once := pyxlaw14_LedgerTells.l7.once k)
    (fun x => ∃ (i : Nat) (b : Sledger_Book), x = (l, (l.length : Int), (i : Int), b.f_scale, b.f_l, b.f_t, b.f_scale, b.f_l, ⟨b.f_t.f_Closed, b.f_t.f_Version⟩) ∧ i ≤ l.length ∧ TInv (s4 (t - 1)) b)
    (fun x => l.length - x.2.2.1.toNat)
    (fun y => ∃ (b : Sledger_Book), y = .inl (b.f_scale, b.f_l, b.f_t, b.f_scale, b.f_l, ⟨b.f_t.f_Closed, b.f_t.f_Version⟩) ∧ TInv (s4 (t - 1)) b)
    (by
      rintro _ ⟨i, b, rfl, hi, hB⟩
      by_cases h : i < l.length
      · obtain ⟨r, h1, b', rfl, h2⟩ := book_step (k := k) (by omega) w1.1 hw hs h hB
        exact .inl ⟨_, h1, ⟨i + 1, b', rfl, by omega, h2⟩, by dsimp only; omega⟩
      · refine .inr ⟨_, ?_, b, rfl, hB⟩
        unfold pyxlaw14_LedgerTells.l7.once
        dsimp only
        rw [cf (show ¬ (i : Int) < (l.length : Int) by omega), pk hB.T, pkR hB.T.1 hB.T.2])
  obtain ⟨y, hy, b, rfl, hB⟩ := st k _ ⟨0, ⟨(s4 (t - 1) : Int), [], T0⟩, rfl, Nat.zero_le _, hT⟩ (by dsimp only; omega)
  refine bof hy ?_
  dsimp only
  rw [pkB hB.T]
  refine bof (Bentries_eq (k := k) (by omega) hB.T hB.len (fun x hx => by have := (hB.ls x hx).1; omega)) ?_
  refine bof (same_eq (k := k) (by omega) hB.len (fun x hx => by have := (hB.ls x hx).1; omega)) rfl
end Go.Proofs.Ytlaogfkgkpgofaa.Pure
