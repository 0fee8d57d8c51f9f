/- What the calls on an entity's book compute. No conditions but size. -/
import Derived.Test.YtlaogfkgkpgofaaEn
namespace Go.Proofs.Ytlaogfkgkpgofaa.Pure
set_option linter.unusedVariables false
set_option linter.unusedSimpArgs false
open Go Go.Ev Go.Lm Go.Pu Go.Dg

def T12 (t : Speriod_Table) : Prop := t.f_Closed.length = 12 ∧ t.f_Version.length = 12
theorem pk {t : Speriod_Table} (h : T12 t) : (⟨pack 12 false t.f_Closed, pack 12 0 t.f_Version⟩ : Speriod_Table) = t := by
  rw [pack_eq false h.1, pack_eq 0 h.2]
theorem pkB {b : Sledger_Book} (h : T12 b.f_t) : (⟨b.f_scale, b.f_l, ⟨pack 12 false b.f_t.f_Closed, pack 12 0 b.f_t.f_Version⟩⟩ : Sledger_Book) = b := by
  rw [pk h]
/-- Is a period one, and open? -/
def opn (t : Speriod_Table) (p : Int) : Bool := decide (p ≥ 0) && (decide (p < 12) && !(t.f_Closed.getD p.toNat false))
theorem IsOpen_eq (k : Nat) {t : Speriod_Table} (h : T12 t) (p : Int) : period_IsOpen.f k t p = some (opn t p) := by
  unfold period_IsOpen.f period_is.f opn
  by_cases h0 : p ≥ 0
  · rw [ct h0, decide_eq_true h0, Option.bind_some]
    by_cases h1 : p < 12
    · rw [ct h1, decide_eq_true h1, inb_t (by omega) (by omega), blt_t (by omega), cond_true, cond_true, pack_eq false h.1]
      rfl
    · rw [cf h1, decide_eq_false h1]; rfl
  · rw [cf h0, decide_eq_false h0]; rfl
noncomputable def addR (b : Sledger_Book) (x : Sapi_Entry) : Int × Int × Sledger_Book := if opn b.f_t x.f_Period then (if b.f_l.length = 40 then (0, 5, b) else ((b.f_l.length : Int), 0, ⟨b.f_scale, b.f_l ++ [x], b.f_t⟩)) else (0, 8, b)
theorem Badd_eq (k : Nat) {b : Sledger_Book} (h : T12 b.f_t) (hl : b.f_l.length ≤ 40) {x : Sapi_Entry} (hx : x.f_Lines.length ≤ 1000) : ledger_Book_add.f k b x = some (addR b x) := by
  unfold ledger_Book_add.f addR slices_Clone_api_Line.f
  rw [pkB h, pk h, IsOpen_eq k h, Option.bind_some]
  cases opn b.f_t x.f_Period
  · rw [if_neg (by decide)]; rfl
  · rw [Bool.not_true, cond_false, if_pos rfl]
    by_cases h40 : b.f_l.length = 40
    · rw [if_pos h40, show ((b.f_l.length : Int) == 40) = true by rw [h40]; rfl, cond_true]
    · rw [if_neg h40, show ((b.f_l.length : Int) == 40) = false by rw [Bool.eq_false_iff]; intro hh; rw [beq_iff_eq] at hh; omega, cond_false, okLen_t (by simp; omega), cond_true, Option.bind_some, okLen_t (by simp; omega), cond_true, List.nil_append, wrapi (by simp; omega), List.length_append, List.length_singleton]
      rw [show (((b.f_l.length + 1 : Nat) : Int) - 1) = (b.f_l.length : Int) by omega]
theorem addR_T {b : Sledger_Book} (h : T12 b.f_t) (x : Sapi_Entry) : T12 (addR b x).2.2.f_t := by
  unfold addR; split <;> (try split) <;> exact h
noncomputable def postR (s : Nat) (b : Sledger_Book) (p : Int) (l : List Sapi_Line) : Int × Int × Sledger_Book := if rightE s l = 0 then addR b ⟨p, l, -1⟩ else (0, rightE s l, b)
theorem Bpost_eq {k : Nat} (hk : 1000 < k) {b : Sledger_Book} (h : T12 b.f_t) (hl : b.f_l.length ≤ 40) {s : Nat} (hs : s ≤ 9) (hb : b.f_scale = (s : Int)) (p : Int) {l : List Sapi_Line} (hn : l.length ≤ 1000) (hw : ∀ x ∈ l, LnW x) :
    ledger_Book_Post.f k b p l = some (postR s b p l) := by
  unfold ledger_Book_Post.f postR
  rw [hb, ERight_eq (k := k) (by omega) ⟨hn, by omega⟩ hw hs, Option.bind_some, ← hb, pkB h]
  by_cases h0 : rightE s l = 0
  · rw [if_pos h0, show (rightE s l != 0) = false by rw [h0]; rfl, cond_false, Badd_eq k h hl (x := ⟨p, l, -1⟩) hn, Option.bind_some, pkB (addR_T h _)]
  · rw [if_neg h0, show (rightE s l != 0) = true by rw [bne_iff_ne]; exact h0, cond_true]
/-- Is one of them the reversal of entry n? -/
def isRev (l : List Sapi_Entry) (n : Int) : Bool := l.any fun x => x.f_Of == n
theorem Index_eq {k : Nat} {l : List Sapi_Entry} (hl : l.length ≤ 1000) (m : Int) : ∀ (n i : Nat), i ≤ l.length → l.length - i < n →
    ∃ r, iter (slices_IndexFunc_api_Entry_c80.l2.once k) n (l, m, (l.length : Int), (i : Int)) = some r ∧ (match r with | .inl () => (l.drop i).any (fun x => x.f_Of == m) = false | .inr j => j ≥ 0 ∧ (l.drop i).any (fun x => x.f_Of == m) = true) := by
  intro n
  induction n with
  | zero => intro i _ h; omega
  | succ n ih =>
    intro i hi hn
    by_cases hc : i < l.length
    · have hx : l.getD (Int.toNat (i : Int)) Sapi_Entry.zero = l.getD i Sapi_Entry.zero := by rw [Int.toNat_natCast]
      rw [drop_getD Sapi_Entry.zero hc]
      by_cases hb : ((l.getD i Sapi_Entry.zero).f_Of == m) = true
      · refine ⟨.inr (i : Int), iter_stop ?_, by omega, by rw [List.any_cons, hb, Bool.true_or]⟩
        unfold slices_IndexFunc_api_Entry_c80.l2.once ledger_Book_Reverse_1.f
        dsimp only
        rw [ct (by omega), inb_t (by omega) (by omega), cond_true, hx, Option.bind_some, hb, cond_true]
      · have hb : ((l.getD i Sapi_Entry.zero).f_Of == m) = false := by simpa using hb
        obtain ⟨r, r1, r2⟩ := ih (i + 1) (by omega) (by omega)
        refine ⟨r, ?_, by rw [List.any_cons, hb, Bool.false_or]; exact r2⟩
        rw [← r1]
        refine iter_step ?_
        unfold slices_IndexFunc_api_Entry_c80.l2.once ledger_Book_Reverse_1.f
        dsimp only
        rw [ct (by omega), inb_t (by omega) (by omega), cond_true, hx, Option.bind_some, hb, cond_false, wrapi (by omega)]
        rfl
    · refine ⟨.inl (), iter_stop ?_, by rw [List.drop_eq_nil_of_le (by omega)]; rfl⟩
      unfold slices_IndexFunc_api_Entry_c80.l2.once
      dsimp only
      rw [cf (by omega)]
theorem Contains_eq {k : Nat} (hk : 1000 < k) {l : List Sapi_Entry} (hl : l.length ≤ 1000) (m : Int) : slices_ContainsFunc_api_Entry_c80.f k l m = some (isRev l m) := by
  unfold slices_ContainsFunc_api_Entry_c80.f slices_IndexFunc_api_Entry_c80.f isRev
  obtain ⟨r, r1, r2⟩ := Index_eq (k := k) hl m k 0 (by omega) (by omega)
  have r1' : iter (slices_IndexFunc_api_Entry_c80.l2.once k) k (l, m, (l.length : Int), 0) = some r := r1
  rw [List.drop_zero] at r2
  rw [r1', Option.bind_some]
  cases r with
  | inl u =>
    have e : (l.any fun x => x.f_Of == m) = false := r2
    rw [e]; rfl
  | inr j =>
    have e : j ≥ 0 ∧ (l.any fun x => x.f_Of == m) = true := r2
    rw [e.2]
    show some (decide (j ≥ 0)) = some true
    rw [decide_eq_true e.1]
noncomputable def revR (s : Nat) (b : Sledger_Book) (n p : Int) : Int × Int × Sledger_Book :=
  if n < 0 ∨ n ≥ b.f_l.length then (0, 10, b) else if (b.f_l.getD n.toNat Sapi_Entry.zero).f_Of ≥ 0 ∨ isRev b.f_l n = true then (0, 13, b) else addR b ⟨p, (b.f_l.getD n.toNat Sapi_Entry.zero).f_Lines.map (turn s), n⟩
/-- Lines that were posted. -/
def LsOk (s : Nat) (l : List Sapi_Line) : Prop := l.length ≤ 8 ∧ ∀ x ∈ l, x.f_Amount = DV (val x.f_Amount) s ∧ Sm (val x.f_Amount)
theorem Brev_eq {k : Nat} (hk : 1000 < k) {b : Sledger_Book} (h : T12 b.f_t) (hl : b.f_l.length ≤ 40) {s : Nat} (hs : s ≤ 9) (n p : Int) (he : ∀ x ∈ b.f_l, LsOk s x.f_Lines) :
    ledger_Book_Reverse.f k b n p = some (revR s b n p) := by
  unfold ledger_Book_Reverse.f revR
  have hj : (cond (decide (n < 0)) (some (p, true, b.f_scale, b.f_l, (⟨pack 12 false b.f_t.f_Closed, pack 12 0 b.f_t.f_Version⟩ : Speriod_Table), n)) (some (p, decide (n ≥ (List.length b.f_l : Int)), b.f_scale, b.f_l, (⟨pack 12 false b.f_t.f_Closed, pack 12 0 b.f_t.f_Version⟩ : Speriod_Table), n)) : Option (Int × Bool × Int × List Sapi_Entry × Speriod_Table × Int)) = some (p, decide (n < 0 ∨ n ≥ b.f_l.length), b.f_scale, b.f_l, b.f_t, n) := by
    rw [pk h]
    by_cases h0 : n < 0
    · rw [ct h0, decide_eq_true (.inl h0)]
    · rw [cf h0]
      congr 3
      rw [decide_eq_decide]; omega
  rw [hj, Option.bind_some]
  dsimp only
  rw [pkB h]
  by_cases h0 : n < 0 ∨ n ≥ b.f_l.length
  · rw [ct h0, if_pos h0]
  · rw [cf h0, if_neg h0]
    have hn : n.toNat < b.f_l.length := by omega
    have hm := getD_mem Sapi_Entry.zero hn
    have hj2 : (cond (inb n (List.length b.f_l)) (cond (decide (((List.getD b.f_l (Int.toNat n) Sapi_Entry.zero).f_Of) ≥ 0)) (some (p, n, true, b.f_scale, b.f_l, (⟨pack 12 false b.f_t.f_Closed, pack 12 0 b.f_t.f_Version⟩ : Speriod_Table))) ((slices_ContainsFunc_api_Entry_c80.f k b.f_l n).bind fun t62 => (some (p, n, t62, b.f_scale, b.f_l, (⟨pack 12 false b.f_t.f_Closed, pack 12 0 b.f_t.f_Version⟩ : Speriod_Table))))) none : Option (Int × Int × Bool × Int × List Sapi_Entry × Speriod_Table)) = some (p, n, decide ((b.f_l.getD n.toNat Sapi_Entry.zero).f_Of ≥ 0 ∨ isRev b.f_l n = true), b.f_scale, b.f_l, b.f_t) := by
      rw [inb_t (by omega) (by omega), cond_true, pk h, Contains_eq hk (by omega), Option.bind_some]
      by_cases h1 : (b.f_l.getD n.toNat Sapi_Entry.zero).f_Of ≥ 0
      · rw [ct h1, decide_eq_true (.inl h1)]
      · rw [cf h1]
        congr 4
        cases hr : isRev b.f_l n with
        | true => rw [decide_eq_true (.inr rfl)]
        | false => rw [decide_eq_false (by rintro (h2 | h2); · exact h1 h2
                                           · cases h2)]
    rw [hj2, Option.bind_some]
    dsimp only
    rw [pkB h]
    by_cases h1 : (b.f_l.getD n.toNat Sapi_Entry.zero).f_Of ≥ 0 ∨ isRev b.f_l n = true
    · rw [ct h1, if_pos h1]
    · rw [cf h1, if_neg h1, inb_t (by omega) (by omega), cond_true, ETurned_eq (k := k) (by omega) ⟨by have := (he _ hm).1; omega, by have := (he _ hm).1; omega⟩ hs (he _ hm).2, Option.bind_some, Badd_eq k h hl (x := ⟨p, (b.f_l.getD n.toNat Sapi_Entry.zero).f_Lines.map (turn s), n⟩) (by dsimp only; rw [List.length_map]; have := (he _ hm).1; omega), Option.bind_some, pkB (addR_T h _)]
theorem set_getD {α : Type} (l : List α) (i : Nat) (d : α) : l.set i (l.getD i d) = l := by
  by_cases h : i < l.length
  · rw [List.getD_eq_getElem?_getD, List.getElem?_eq_getElem h, Option.getD_some, List.set_getElem_self]
  · exact List.set_eq_of_length_le (by omega)
theorem Bentries_eq {k : Nat} (hk : 1000 < k) {b : Sledger_Book} (h : T12 b.f_t) (hl : b.f_l.length ≤ 40) (he : ∀ x ∈ b.f_l, x.f_Lines.length ≤ 1000) : ledger_Book_Entries.f k b = some (b.f_l, b) := by
  unfold ledger_Book_Entries.f slices_Clone_api_Entry_o.f slices_Clip_api_Entry_v0_o.f
  rw [okLen_t (by simp; omega), cond_true, List.nil_append, Option.bind_some, decide_eq_true rfl, Bool.and_true, cond_true, Option.bind_some, pk h]
  have hi := iter_seq (once := ledger_Book_Entries.l5.once k) (fun i => ((b.f_l.length : Int), (i : Int), b.f_l, b.f_scale, b.f_l, b.f_t)) b.f_l.length (by
    intro i hi
    have hm := he _ (getD_mem Sapi_Entry.zero hi)
    unfold ledger_Book_Entries.l5.once slices_Clone_api_Line.f slices_Clip_api_Line.f
    dsimp only
    rw [ct (by omega), inb_t (by omega) (by omega), cond_true, Int.toNat_natCast, blt_t hi, cond_true, okLen_t (by simp only [List.length_nil, Nat.zero_add]; omega), cond_true, List.nil_append, Option.bind_some, decide_eq_true rfl, Bool.true_and, inS_t (by omega) (by omega) (by omega), cond_true, Option.bind_some, cond_true, cond_true, pk h, Int.toNat_natCast, List.take_length, wrapi (by omega)]
    have : (⟨(b.f_l.getD i Sapi_Entry.zero).f_Period, (b.f_l.getD i Sapi_Entry.zero).f_Lines, (b.f_l.getD i Sapi_Entry.zero).f_Of⟩ : Sapi_Entry) = b.f_l.getD i Sapi_Entry.zero := rfl
    rw [this, set_getD]
    rfl) (b.f_l, b.f_scale, b.f_l, b.f_t) (by
    unfold ledger_Book_Entries.l5.once
    dsimp only
    rw [cf (by omega), pk h]) k 0 (by omega) (by omega)
  have hi' : iter (ledger_Book_Entries.l5.once k) k ((b.f_l.length : Int), 0, b.f_l, b.f_scale, b.f_l, b.f_t) = some (b.f_l, b.f_scale, b.f_l, b.f_t) := hi
  rw [hi', Option.bind_some]
  dsimp only
  rw [pkB h]
theorem Bscale_eq (k : Nat) {b : Sledger_Book} (h : T12 b.f_t) : ledger_Book_Scale.f k b = some (b.f_scale, b) := by
  unfold ledger_Book_Scale.f
  rw [pkB h]
def T0 : Speriod_Table := ⟨[false, false, false, false, false, false, false, false, false, false, false, false], [0, 0, 0, 0, 0, 0, 0, 0, 0, 0, 0, 0]⟩
theorem T12_0 : T12 T0 := ⟨rfl, rfl⟩
theorem Bnew_eq (k : Nat) (n : Int) : ledger_New.f k n = some ⟨if (if 4 < n then 4 else n) > 0 then (if 4 < n then 4 else n) else 0, [], T0⟩ := by
  rfl
/-- The period closed, or why not. -/
noncomputable def closeR (t : Speriod_Table) (p : Int) : Speriod_Table × Int := if opn t p = false ∨ (p > 0 ∧ t.f_Closed.getD (p - 1).toNat false = false) then (T0, 8) else (⟨t.f_Closed.set p.toNat true, t.f_Version.set p.toNat (IntKind.wrap .i64 (t.f_Version.getD p.toNat 0 + 1))⟩, 0)
theorem Pclose_eq (k : Nat) {t : Speriod_Table} (h : T12 t) (p : Int) : period_Close.f k t p = some (closeR t p) := by
  unfold period_Close.f closeR
  rw [pk h, IsOpen_eq k h, Option.bind_some]
  cases ho : opn t p with
  | false => rw [if_pos (.inl rfl)]; rfl
  | true =>
    unfold opn at ho
    simp only [Bool.and_eq_true, decide_eq_true_eq] at ho
    rw [Bool.not_true, cond_false, pack_eq false h.1]
    have fin : ∀ bb : Bool, (some (p, bb, t, T0) : Option (Int × Bool × Speriod_Table × Speriod_Table)).bind (fun y6 => (cond (y6.2.1) (some ((⟨[false, false, false, false, false, false, false, false, false, false, false, false], [0, 0, 0, 0, 0, 0, 0, 0, 0, 0, 0, 0]⟩ : Speriod_Table), 8)) (cond (inb y6.1 12) (cond (Nat.blt (Int.toNat y6.1) 12) (cond (inb y6.1 12) (cond (Nat.blt (Int.toNat y6.1) 12) (cond (inb y6.1 12) (cond (Nat.blt (Int.toNat y6.1) 12) (some ((⟨putAll (Int.toNat y6.1) true 0 (pack 12 false y6.2.2.1.f_Closed), putAll (Int.toNat y6.1) (IntKind.wrap .i64 ((List.getD (pack 12 0 y6.2.2.1.f_Version) (Int.toNat y6.1) 0) + 1)) 0 (pack 12 0 y6.2.2.1.f_Version)⟩ : Speriod_Table), (0 : Int))) none) none) none) none) none) none))) = some (if bb then (T0, 8) else (⟨t.f_Closed.set p.toNat true, t.f_Version.set p.toNat (IntKind.wrap .i64 (t.f_Version.getD p.toNat 0 + 1))⟩, 0)) := by
      intro bb
      rw [Option.bind_some]
      dsimp only
      cases bb
      · rw [cond_false, inb_t (by omega) (by omega), blt_t (by omega), pack_eq false h.1, pack_eq 0 h.2, putAll_set, putAll_set]
        rfl
      · rfl
    by_cases h0 : p > 0
    · rw [ct h0, wrapi (by omega), inb_t (by omega) (by omega), cond_true, blt_t (by omega), cond_true]
      refine (fin _).trans (congrArg some ?_)
      cases hc : t.f_Closed.getD (p - 1).toNat false <;> simp [h0]
    · rw [cf h0]
      refine (fin _).trans (congrArg some ?_)
      simp [h0]
noncomputable def closeB (b : Sledger_Book) (p : Int) : Int × Sledger_Book := ((closeR b.f_t p).2, if (closeR b.f_t p).2 = 0 then ⟨b.f_scale, b.f_l, (closeR b.f_t p).1⟩ else b)
theorem closeR_T {t : Speriod_Table} (h : T12 t) (p : Int) : T12 (closeR t p).1 := by
  unfold closeR
  split
  · exact T12_0
  · exact ⟨by rw [List.length_set]; exact h.1, by rw [List.length_set]; exact h.2⟩
theorem Bclose_eq (k : Nat) {b : Sledger_Book} (h : T12 b.f_t) (p : Int) : ledger_Book_Close.f k b p = some (closeB b p) := by
  unfold ledger_Book_Close.f ledger_Book_turn_c78.f closeB
  rw [pkB h, pk h, Pclose_eq k h, Option.bind_some]
  have hT := closeR_T h p
  rw [pk hT]
  by_cases h0 : (closeR b.f_t p).2 = 0
  · rw [if_pos h0, show ((closeR b.f_t p).2 == 0) = true by rw [h0]; rfl, cond_true, Option.bind_some]
    dsimp only
    rw [pk hT]
  · rw [if_neg h0, show ((closeR b.f_t p).2 == 0) = false by rw [Bool.eq_false_iff]; intro hh; rw [beq_iff_eq] at hh; exact h0 hh, cond_false, Option.bind_some]
    dsimp only
    rw [pk h]
theorem closeB_T {b : Sledger_Book} (h : T12 b.f_t) (p : Int) : T12 (closeB b p).2.f_t := by
  unfold closeB
  dsimp only
  split
  · exact closeR_T h p
  · exact h
theorem closeB_l (b : Sledger_Book) (p : Int) : (closeB b p).2.f_l = b.f_l ∧ (closeB b p).2.f_scale = b.f_scale := by
  unfold closeB
  dsimp only
  split <;> exact ⟨rfl, rfl⟩
theorem HLines_nil {k : Nat} (hk : 700 < k) : pyxhand_Lines.f k [] 2 0 2 = some [⟨8, DV (-5) 2, -1⟩, ⟨0, DV 5 2, -1⟩] := by
  unfold pyxhand_Lines.f
  have z : pyxref11_Zero.f k 2 = some (DV 0 2) := Zero_eq k 2
  rw [z, Option.bind_some]
  obtain ⟨j, hj⟩ : ∃ j, k = j + 1 := ⟨k - 1, by omega⟩
  have l1 : iter (pyxhand_Lines.l4.once k) k (([] : List Int), 2, 0, 2, 0, [], (DV 0 2).f_Neg, (DV 0 2).f_C.1, (DV 0 2).f_C.2, (DV 0 2).f_Scale) = some (2, 0, [], (DV 0 2).f_Neg, (DV 0 2).f_C.1, (DV 0 2).f_C.2, (DV 0 2).f_Scale) := by
    conv => lhs; arg 2; rw [hj]
    refine iter_stop ?_
    unfold pyxhand_Lines.l4.once
    rfl
  rw [l1, Option.bind_some]
  dsimp only
  have sg : pyxref1_Sign.f k (⟨(DV 0 2).f_Neg, ((DV 0 2).f_C.1, (DV 0 2).f_C.2), (DV 0 2).f_Scale⟩ : Sapi_Dec) = some 0 := (RSign_eq (d := DV 0 2) (by omega) (Sm_w2 (by unfold Sm; decide))).trans (Sign_DV (by omega) (by unfold Sm; decide) (by decide))
  have ng : pyxref1_Neg.f k (⟨(DV 0 2).f_Neg, ((DV 0 2).f_C.1, (DV 0 2).f_C.2), (DV 0 2).f_Scale⟩ : Sapi_Dec) = some (DV 0 2) := (RNeg_eq (d := DV 0 2) (by omega) (Sm_w2 (by unfold Sm; decide))).trans (Neg_DV (i := 0) (by omega) (by unfold Sm; decide) (by decide))
  have o5 : pyxref1_Of.f k 5 2 = some (DV 5 2) := ROf_DV (k := k) (by omega) (by omega) 2
  have o6 : pyxref1_Of.f k (-5) 2 = some (DV (-5) 2) := ROf_DV (k := k) (by omega) (by omega) 2
  rw [sg, Option.bind_some, show ((0 : Int) != 0) = false from rfl, cond_false, Option.bind_some]
  dsimp only
  rw [show (((([] : List Sapi_Line).length : Nat) : Int) == 0) = true from rfl, cond_true, ng, Option.bind_some, cond_true, o5, Option.bind_some, o6, Option.bind_some]
  rfl
theorem known14 {k : Nat} (hk : 1000 < k) : pyxlaw14_known.f k = some true := by
  unfold pyxlaw14_known.f
  have hw : ∀ x ∈ [(⟨8, DV (-5) 2, -1⟩ : Sapi_Line), ⟨0, DV 5 2, -1⟩], LnW x := by
    intro x hx
    simp only [List.mem_cons, List.not_mem_nil, or_false] at hx
    rcases hx with rfl | rfl
    · exact Sm_w2 (by unfold Sm; decide)
    · exact Sm_w2 (by unfold Sm; decide)
  have hr : rightE 2 [(⟨8, DV (-5) 2, -1⟩ : Sapi_Line), ⟨0, DV 5 2, -1⟩] = 0 := by decide +kernel
  have hb : ledger_New.f k 2 = some ⟨2, [], T0⟩ := rfl
  rw [hb, Option.bind_some, HLines_nil (by omega), Option.bind_some]
  dsimp only
  rw [pk T12_0, Bpost_eq hk (b := ⟨2, [], T0⟩) T12_0 (by simp) (s := 2) (by decide) rfl 0 (by simp) hw, Option.bind_some]
  have hp : postR 2 ⟨2, [], T0⟩ 0 [(⟨8, DV (-5) 2, -1⟩ : Sapi_Line), ⟨0, DV 5 2, -1⟩] = (0, 0, ⟨2, [⟨0, [(⟨8, DV (-5) 2, -1⟩ : Sapi_Line), ⟨0, DV 5 2, -1⟩], -1⟩], T0⟩) := by
    unfold postR
    rw [if_pos hr]
    rfl
  rw [hp]
  dsimp only
  rw [pk T12_0, Bentries_eq hk (b := ⟨2, [⟨0, [(⟨8, DV (-5) 2, -1⟩ : Sapi_Line), ⟨0, DV 5 2, -1⟩], -1⟩], T0⟩) T12_0 (by simp) (by simp), Option.bind_some]
  dsimp only
  rw [pk T12_0, Bscale_eq k (b := ⟨2, [⟨0, [(⟨8, DV (-5) 2, -1⟩ : Sapi_Line), ⟨0, DV 5 2, -1⟩], -1⟩], T0⟩) T12_0]
  rfl
end Go.Proofs.Ytlaogfkgkpgofaa.Pure
