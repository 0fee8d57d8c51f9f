/- RateLast: the last one that was set is told; two tables know nothing of one another. No conditions but size. -/
import Derived.Test.YtlaogfkgkpgofaaRt
namespace Go.Proofs.Ytlaogfkgkpgofaa.Pure
set_option linter.unusedVariables false
set_option linter.unusedSimpArgs false
open Go Go.Ev Go.Lm Go.Pu Go.Dg
theorem last_step {k : Nat} (hk : 602 < k) {l : List Int} (hl : l.length ≤ 9223372036854775807) {i : Nat} (hi : i < l.length) (T U : List (Srate_Key × Sapi_Dec)) (p kd : Int) (w : Sapi_Dec) (h : mget (keq_Srate_Key ⟨p, kd⟩) T = some w) :
    ∃ T' w', pyxlaw16_RateLast.l10.once k (l, (l.length : Int), (i : Int), T, U, p, kd, w.f_Neg, w.f_C.1, w.f_C.2, w.f_Scale) = some (.inl (l, (l.length : Int), ((i + 1 : Nat) : Int), T', U, p, kd, w'.f_Neg, w'.f_C.1, w'.f_C.2, w'.f_Scale)) ∧
      mget (keq_Srate_Key ⟨p, kd⟩) T' = some w' := by
  unfold pyxlaw16_RateLast.l10.once
  dsimp only
  rw [ct (show (i : Int) < (l.length : Int) by omega), inb_t (by omega) (by omega), cond_true, Int.toNat_natCast]
  have hw := wrapi (show -9223372036854775808 ≤ (i : Int) + 1 ∧ (i : Int) + 1 < 9223372036854775808 by omega)
  have b3 := pick_bd (l.getD i 0) (m := 900) (by decide)
  have hs : Sm (pick (l.getD i 0) 900 - 300) := by unfold Sm; omega
  generalize e1 : pick (l.getD i 0) 13 = t1
  generalize e2 : pick (IntKind.wrap .i64 (Int.tdiv (l.getD i 0) 13)) 3 = t2
  have p1 := Pick_eq k (l.getD i 0) (m := 13) (by decide) (by decide)
  have p2 := Pick_eq k (IntKind.wrap .i64 (Int.tdiv (l.getD i 0) 13)) (m := 3) (by decide) (by decide)
  have p3 := Pick_eq k (l.getD i 0) (m := 900) (by decide) (by decide)
  rw [e1] at p1
  rw [e2] at p2
  generalize pick (l.getD i 0) 900 = t3 at p3 b3 hs
  cases hb : placed ⟨t1, t2⟩ && goodR (t3 - 300) 1 with
  | true =>
    cases hq : (t1 == p) && (t2 == kd) with
    | true =>
      refine ⟨mput (keq_Srate_Key ⟨t1, t2⟩) ⟨t1, t2⟩ (DV (t3 - 300) 1) T, DV (t3 - 300) 1, ?_, ?_⟩
      · refine bof p1 (bof p2 (bof p3 ?_))
        rw [wrapi (by omega)]
        refine bof (ROf_DV hk (by omega) 1) ?_
        refine bof (bof (Set_ok (by omega) T ⟨t1, t2⟩ hs (by decide) hb) rfl) ?_
        dsimp only
        rw [hq, hw]
        rfl
      · rw [show (⟨p, kd⟩ : Srate_Key) = ⟨t1, t2⟩ from (key_eq.2 hq).symm]
        exact get_same T _ _
    | false =>
      refine ⟨mput (keq_Srate_Key ⟨t1, t2⟩) ⟨t1, t2⟩ (DV (t3 - 300) 1) T, w, ?_, ?_⟩
      · refine bof p1 (bof p2 (bof p3 ?_))
        rw [wrapi (by omega)]
        refine bof (ROf_DV hk (by omega) 1) ?_
        refine bof (bof (Set_ok (by omega) T ⟨t1, t2⟩ hs (by decide) hb) rfl) ?_
        dsimp only
        rw [hq, hw]
        rfl
      · rw [get_other T (fun e => by rw [key_eq.1 e.symm] at hq; cases hq)]
        exact h
  | false =>
    refine ⟨T, w, ?_, h⟩
    refine bof p1 (bof p2 (bof p3 ?_))
    rw [wrapi (by omega)]
    refine bof (ROf_DV hk (by omega) 1) ?_
    refine bof (bof (Set_no (by omega) T ⟨t1, t2⟩ hs (by decide) hb) rfl) ?_
    dsimp only
    rw [hw]
    rfl
theorem RateLast (l : List Int) (w0 : l.length ≤ 9223372036854775807 ∧ l.length * 8 ≤ 140737488351232 ∧ ∀ z ∈ l, (Lit.int .i64 z).wf = true) (a1 : Int) (w1 : (Lit.int .i64 a1).wf = true) (a2 : Int) (w2 : (Lit.int .i64 a2).wf = true) (a3 : Int) (w3 : (Lit.int .i64 a3).wf = true) :
    ∃ k, pyxlaw16_RateLast.f k l a1 a2 a3 = some true := by
  refine ⟨l.length + 1000, ?_⟩
  obtain ⟨k, hk⟩ : ∃ k, l.length + 1000 = k := ⟨_, rfl⟩
  rw [hk]
  unfold pyxlaw16_RateLast.f
  refine bof (v := ⟨[]⟩) rfl ?_
  refine bof (v := ⟨[]⟩) rfl ?_
  refine bof (v := (l, a1, a2, a3, false, [], [])) (bof (known_eq (by omega)) rfl) ?_
  dsimp only
  rw [cond_false]
  have b1 := pick_bd a1 (m := 12) (by decide)
  have b2 := pick_bd a2 (m := 3) (by decide)
  have b3 := pick_bd a3 (m := 5000) (by decide)
  refine bof (Pick_eq k a1 (by decide) (by decide)) ?_
  refine bof (Pick_eq k a2 (by decide) (by decide)) ?_
  refine bof (Pick_eq k a3 (by decide) (by decide)) ?_
  generalize pick a1 12 = p at b1
  generalize pick a2 3 = kd at b2
  generalize pick a3 5000 = n at b3
  rw [wrapi (by omega)]
  refine bof (ROf_DV (by omega) (by omega) 2) ?_
  have hg : (placed ⟨p, kd⟩ && goodR (1 + n) 2) = true := by
    unfold placed goodR
    rw [decide_eq_true ⟨b1, b2⟩, decide_eq_true (show 0 < 1 + n by omega), decide_eq_true (show 1 + n < 1000000 * 10 ^ 2 by omega)]
    rfl
  refine bof (Set_ok (by omega) [] ⟨p, kd⟩ (v := 1 + n) (s := 2) (by unfold Sm; omega) (by decide) hg) ?_
  have st := iter_rule (once := pyxlaw16_RateLast.l10.once k)
    (fun x => ∃ (i : Nat) (T : List (Srate_Key × Sapi_Dec)) (w : Sapi_Dec), x = (l, (l.length : Int), (i : Int), T, [], p, kd, w.f_Neg, w.f_C.1, w.f_C.2, w.f_Scale) ∧ i ≤ l.length ∧ mget (keq_Srate_Key ⟨p, kd⟩) T = some w)
    (fun x => l.length - x.2.2.1.toNat)
    (fun y => ∃ (T : List (Srate_Key × Sapi_Dec)) (w : Sapi_Dec), y = (T, [], p, kd, w.f_Neg, w.f_C.1, w.f_C.2, w.f_Scale) ∧ mget (keq_Srate_Key ⟨p, kd⟩) T = some w)
    (by
      rintro _ ⟨i, T, w, rfl, hi, hm⟩
      by_cases h : i < l.length
      · obtain ⟨T', w', h1, h2⟩ := last_step (k := k) (by omega) w0.1 h T [] p kd w hm
        exact .inl ⟨_, h1, ⟨i + 1, T', w', rfl, by omega, h2⟩, by dsimp only; omega⟩
      · refine .inr ⟨_, ?_, T, w, rfl, hm⟩
        unfold pyxlaw16_RateLast.l10.once
        dsimp only
        rw [cf (show ¬ (i : Int) < (l.length : Int) by omega)])
  obtain ⟨y, hy, T, w, rfl, hm⟩ := st k (l, (l.length : Int), 0, mput (keq_Srate_Key ⟨p, kd⟩) ⟨p, kd⟩ (DV (1 + n) (cl 2)) [], [], p, kd, (DV (1 + n) (cl 2)).f_Neg, (DV (1 + n) (cl 2)).f_C.1, (DV (1 + n) (cl 2)).f_C.2, (DV (1 + n) (cl 2)).f_Scale)
    ⟨0, _, DV (1 + n) (cl 2), rfl, Nat.zero_le _, get_same [] _ _⟩ (by dsimp only; omega)
  refine bof hy ?_
  refine bof (Get_eq k T ⟨p, kd⟩) ?_
  rw [hm]
  refine bof (Get_eq k [] ⟨p, kd⟩) ?_
  dsimp only [got, mget]
  simp only [beq_self_eq_true, Bool.and_self, cond_true]
  refine bof (Keys_eq k (T := []) (by decide)) ?_
  show some ((((srt_Srate_Key []).length : Nat) : Int) == 0) = some true
  unfold srt_Srate_Key
  simp
end Go.Proofs.Ytlaogfkgkpgofaa.Pure
