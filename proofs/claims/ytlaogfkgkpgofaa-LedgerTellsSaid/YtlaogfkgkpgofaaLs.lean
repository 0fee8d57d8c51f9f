/- The reference's book against the program's: reversals, periods; the same entries. No conditions but size. -/
import Derived.Test.YtlaogfkgkpgofaaLr
namespace Go.Proofs.Ytlaogfkgkpgofaa.Pure
set_option linter.unusedVariables false
set_option linter.unusedSimpArgs false
open Go Go.Ev Go.Lm Go.Pu Go.Dg
theorem RRev_eq {k : Nat} (hk : 1002 < k) {b : Sledger_Book} (h : T12 b.f_t) (hl : b.f_l.length ≤ 40) {s : Nat} (hs : s ≤ 9) (n p : Int) (he : ∀ x ∈ b.f_l, LsOk s x.f_Lines) :
    pyxref11_Book_Reverse.f k (rof b) n p = some ((revR s b n p).1, (revR s b n p).2.1, rof (revR s b n p).2.2) := by
  have e := pkR h.1 h.2
  unfold pyxref11_Book_Reverse.f rof revR
  simp only [e]
  refine bof (v := (n, p, decide (n < 0 ∨ n ≥ b.f_l.length), b.f_scale, b.f_l, ⟨b.f_t.f_Closed, b.f_t.f_Version⟩)) ?_ ?_
  · by_cases h0 : n < 0
    · rw [ct h0, decide_eq_true (.inl h0)]
    · rw [cf h0]
      refine congrArg some ?_
      rw [show decide (n ≥ (b.f_l.length : Int)) = decide (n < 0 ∨ n ≥ b.f_l.length) from decide_eq_decide.2 ⟨fun h' => .inr h', fun h' => by omega⟩]
  dsimp only
  simp only [e]
  by_cases h0 : n < 0 ∨ n ≥ b.f_l.length
  · rw [ct h0, if_pos h0]
  · rw [cf h0, if_neg h0, inb_t (by omega) (by omega), cond_true]
    have hn : n.toNat < b.f_l.length := by omega
    have hm := getD_memL Sapi_Entry.zero hn
    have it := iter_seq (once := pyxref11_Book_Reverse.l5.once k) (fun i => (n, p, decide ((b.f_l.getD n.toNat Sapi_Entry.zero).f_Of ≥ 0) || (b.f_l.take i).any (fun x => x.f_Of == n), (i : Int), b.f_scale, b.f_l, (⟨b.f_t.f_Closed, b.f_t.f_Version⟩ : Spyxref11_Table))) b.f_l.length (by
      intro i hi
      have hwr := wrapi (show -9223372036854775808 ≤ (i : Int) + 1 ∧ (i : Int) + 1 < 9223372036854775808 by omega)
      unfold pyxref11_Book_Reverse.l5.once
      dsimp only
      simp only [e]
      rw [ct (show (i : Int) < (b.f_l.length : Int) by omega)]
      have htk : (b.f_l.take (i + 1)).any (fun x => x.f_Of == n) = ((b.f_l.take i).any (fun x => x.f_Of == n) || ((b.f_l.getD i Sapi_Entry.zero).f_Of == n)) := by
        rw [List.take_add_one, List.any_append, List.getElem?_eq_getElem hi, List.getD_eq_getElem?_getD, List.getElem?_eq_getElem hi]
        simp
      refine bof (v := (n, p, decide ((b.f_l.getD n.toNat Sapi_Entry.zero).f_Of ≥ 0) || (b.f_l.take (i + 1)).any (fun x => x.f_Of == n), (i : Int), b.f_scale, b.f_l, (⟨b.f_t.f_Closed, b.f_t.f_Version⟩ : Spyxref11_Table))) ?_ ?_
      · rw [htk, ← Bool.or_assoc]
        cases decide ((b.f_l.getD n.toNat Sapi_Entry.zero).f_Of ≥ 0) || (b.f_l.take i).any (fun x => x.f_Of == n) with
        | true => rfl
        | false =>
          rw [cond_false, inb_t (by omega) (by omega), cond_true, Int.toNat_natCast]
          rfl
      · dsimp only
        simp only [e]
        rw [hwr]
        rfl) (n, p, decide ((b.f_l.getD n.toNat Sapi_Entry.zero).f_Of ≥ 0) || isRev b.f_l n, b.f_scale, b.f_l, (⟨b.f_t.f_Closed, b.f_t.f_Version⟩ : Spyxref11_Table)) (by
      unfold pyxref11_Book_Reverse.l5.once
      dsimp only
      simp only [e]
      rw [cf (by omega), List.take_length]
      rfl) k 0 (Nat.zero_le _) (by omega)
    rw [List.take_zero, List.any_nil, Bool.or_false] at it
    refine bof it ?_
    dsimp only
    simp only [e]
    by_cases h1 : (b.f_l.getD n.toNat Sapi_Entry.zero).f_Of ≥ 0 ∨ isRev b.f_l n = true
    · rw [if_pos h1, show (decide ((b.f_l.getD n.toNat Sapi_Entry.zero).f_Of ≥ 0) || isRev b.f_l n) = true by simpa using h1]
      rfl
    · rw [if_neg h1, show (decide ((b.f_l.getD n.toNat Sapi_Entry.zero).f_Of ≥ 0) || isRev b.f_l n) = false by
        rw [Bool.eq_false_iff]; intro hh; exact h1 (by simpa using hh)]
      rw [cond_false, inb_t (by omega) (by omega), cond_true]
      have hls := he _ hm
      refine bof (RTurned_eq (k := k) (by omega) ⟨by have := hls.1; omega, by have := hls.1; omega⟩ hs hls.2) ?_
      refine bof (Rput_eq k h hl _) ?_
      have hT := addR_T h ⟨p, (b.f_l.getD n.toNat Sapi_Entry.zero).f_Lines.map (turn s), n⟩
      show some (_, _, (⟨_, _, ⟨pack 12 false (addR b ⟨p, (b.f_l.getD n.toNat Sapi_Entry.zero).f_Lines.map (turn s), n⟩).2.2.f_t.f_Closed, pack 12 0 (addR b ⟨p, (b.f_l.getD n.toNat Sapi_Entry.zero).f_Lines.map (turn s), n⟩).2.2.f_t.f_Version⟩⟩ : Spyxref11_Book)) = _
      rw [pkR hT.1 hT.2]
      rfl
/-- A book with its periods turned. -/
noncomputable def turnB (b : Sledger_Book) (c : List Bool × List Int × Int) : Int × Sledger_Book := (c.2.2, cond (c.2.2 == 0) ⟨b.f_scale, b.f_l, ⟨c.1, c.2.1⟩⟩ b)
theorem turnB_T {b : Sledger_Book} (h : T12 b.f_t) {c : List Bool × List Int × Int} (hc : c.1.length = 12 ∧ c.2.1.length = 12) : T12 (turnB b c).2.f_t := by
  unfold turnB
  dsimp only
  cases c.2.2 == 0 with
  | true => exact hc
  | false => exact h
theorem Bclose2 (k : Nat) {b : Sledger_Book} (h : T12 b.f_t) {p : Int} (hp : -1000 ≤ p ∧ p ≤ 1000) : ledger_Book_Close.f k b p = some (turnB b (Pe.clo b.f_t.f_Closed b.f_t.f_Version p)) := by
  have hl := Pe.clo_len h.1 h.2 p
  have hT := turnB_T h hl
  have ht : ledger_Book_turn_c78.f k b () p = some (turnB b (Pe.clo b.f_t.f_Closed b.f_t.f_Version p)) := by
    unfold ledger_Book_turn_c78.f
    rw [pk h]
    refine bof (Pe.Close_eq h.1 h.2 k hp) ?_
    dsimp only
    rw [pack_eq false hl.1, pack_eq 0 hl.2]
    unfold turnB
    cases (Pe.clo b.f_t.f_Closed b.f_t.f_Version p).2.2 == 0 <;> rfl
  unfold ledger_Book_Close.f
  rw [pkB h]
  refine bof ht ?_
  rw [pkB hT]
theorem Breopen2 (k : Nat) {b : Sledger_Book} (h : T12 b.f_t) {p : Int} (hp : -1000 ≤ p ∧ p ≤ 1000) : ledger_Book_Reopen.f k b p = some (turnB b (Pe.reo b.f_t.f_Closed b.f_t.f_Version p)) := by
  have hl := Pe.reo_len h.1 h.2 p
  have hT := turnB_T h hl
  have ht : ledger_Book_turn_c90.f k b () p = some (turnB b (Pe.reo b.f_t.f_Closed b.f_t.f_Version p)) := by
    unfold ledger_Book_turn_c90.f
    rw [pk h]
    refine bof (Pe.Reopen_eq h.1 h.2 k hp) ?_
    dsimp only
    rw [pack_eq false hl.1, pack_eq 0 hl.2]
    unfold turnB
    cases (Pe.reo b.f_t.f_Closed b.f_t.f_Version p).2.2 == 0 <;> rfl
  unfold ledger_Book_Reopen.f
  rw [pkB h]
  refine bof ht ?_
  rw [pkB hT]
theorem RBclose (k : Nat) {b : Sledger_Book} (h : T12 b.f_t) {p : Int} (hp : -1000 ≤ p ∧ p ≤ 1000) : pyxref11_Book_Close.f k (rof b) p = some ((turnB b (Pe.clo b.f_t.f_Closed b.f_t.f_Version p)).1, rof (turnB b (Pe.clo b.f_t.f_Closed b.f_t.f_Version p)).2) := by
  have hl := Pe.clo_len h.1 h.2 p
  unfold pyxref11_Book_Close.f rof
  simp only [pkR h.1 h.2]
  refine bof (Pe.RClose_eq h.1 h.2 k hp) ?_
  dsimp only
  rw [pack_eq false hl.1, pack_eq 0 hl.2]
  unfold turnB
  cases (Pe.clo b.f_t.f_Closed b.f_t.f_Version p).2.2 == 0 <;> rfl
theorem RBreopen (k : Nat) {b : Sledger_Book} (h : T12 b.f_t) {p : Int} (hp : -1000 ≤ p ∧ p ≤ 1000) : pyxref11_Book_Reopen.f k (rof b) p = some ((turnB b (Pe.reo b.f_t.f_Closed b.f_t.f_Version p)).1, rof (turnB b (Pe.reo b.f_t.f_Closed b.f_t.f_Version p)).2) := by
  have hl := Pe.reo_len h.1 h.2 p
  unfold pyxref11_Book_Reopen.f rof
  simp only [pkR h.1 h.2]
  refine bof (Pe.RReopen_eq h.1 h.2 k hp) ?_
  dsimp only
  rw [pack_eq false hl.1, pack_eq 0 hl.2]
  unfold turnB
  cases (Pe.reo b.f_t.f_Closed b.f_t.f_Version p).2.2 == 0 <;> rfl
theorem same_eq {k : Nat} (hk : 1002 < k) {l : List Sapi_Entry} (hl : l.length ≤ 40) (he : ∀ x ∈ l, x.f_Lines.length ≤ 1000) : pyxlaw14_same.f k l l = some true := by
  unfold pyxlaw14_same.f
  rw [show ((l.length : Int) != (l.length : Int)) = false by simp, cond_false]
  have it := iter_seq (once := pyxlaw14_same.l4.once k) (fun i => (l, l, (l.length : Int), (i : Int))) l.length (by
    intro i hi
    have hwr := wrapi (show -9223372036854775808 ≤ (i : Int) + 1 ∧ (i : Int) + 1 < 9223372036854775808 by omega)
    have hm := he _ (getD_memL Sapi_Entry.zero hi)
    unfold pyxlaw14_same.l4.once
    dsimp only
    rw [ct (show (i : Int) < (l.length : Int) by omega)]
    refine bof (v := (l, l, (i : Int), (l.length : Int), (i : Int), false)) ?_ ?_
    · rw [inb_t (by omega) (by omega)]
      simp
    dsimp only
    rw [cond_false, inb_t (by omega) (by omega), cond_true, Int.toNat_natCast]
    have it2 := iter_seq (once := pyxlaw14_same.l9.once k) (fun j => (l, l, (i : Int), (l.length : Int), (i : Int), ((l.getD i Sapi_Entry.zero).f_Lines.length : Int), (j : Int))) (l.getD i Sapi_Entry.zero).f_Lines.length (by
      intro j hj
      have hwj := wrapi (show -9223372036854775808 ≤ (j : Int) + 1 ∧ (j : Int) + 1 < 9223372036854775808 by omega)
      unfold pyxlaw14_same.l9.once
      dsimp only
      rw [ct (by omega), inb_t (n := l.length) (by omega) (by omega), cond_true, Int.toNat_natCast, inb_t (by omega) (by omega), cond_true, cond_true, cond_true, hwj]
      simp only [beq_self_eq_true, Bool.and_self, Bool.not_true, cond_false]
      rfl) (.inl (l, l, (l.length : Int), (i : Int))) (by
      unfold pyxlaw14_same.l9.once
      dsimp only
      rw [cf (by omega)]) k 0 (Nat.zero_le _) (by omega)
    refine bof it2 ?_
    dsimp only
    rw [hwr]
    rfl) (.inl ()) (by
    unfold pyxlaw14_same.l4.once
    dsimp only
    rw [cf (by omega)]) k 0 (Nat.zero_le _) (by omega)
  refine bof it ?_
  rfl
end Go.Proofs.Ytlaogfkgkpgofaa.Pure
