/- Plain laws: Te, Tf, Tg, PureTrialTells. No conditions but size. -/
import Derived.Test.YtbchcjlllddlpaaGreatPMA
/- The document's trial of a book is the project's; flows; sums of an account. No conditions but size. -/
namespace Go.Proofs.YtbchcjlllddlpaaGreat.Pure
set_option linter.unusedVariables false
set_option linter.unusedSimpArgs false
open Go Go.Ev Go.Lm Go.Pu Go.Dg
/-- A flow is with no one. -/
def FlowW (x : Za) : Prop := kindZ x.Zdx = 4 → x.Zet = -1
def EInv (b : Zi) : Prop := ∀ x ∈ b.f_l, (0 ≤ x.Zdi ∧ x.Zdi < 12) ∧ ∀ y ∈ x.Zdm, FlowW y
theorem opn_p {t : Ze} {p : Int} (h : opn t p = true) : 0 ≤ p ∧ p < 12 := by
 unfold opn at h
 simp only [Bool.and_eq_true, decide_eq_true_eq] at h
 exact ⟨h.1, h.2.1⟩
theorem EInv.add {b : Zi} (h : EInv b) {x : Zc} (hx : ∀ y ∈ x.Zdm, FlowW y) : EInv (addR b x).2.2 := by
 unfold addR
 split
 ·rename_i ho
  split
  ·exact h
  ·intro y hy
   rcases List.mem_append.1 hy with hy | hy
   ·exact h y hy
   ·have : y = x := by simpa using hy
    rw [this]
    exact ⟨opn_p ho, hx⟩
 ·exact h
theorem FlowW_rl {s : Nat} {x : Za} (h : rlB s x = true) : FlowW x := by
 intro hk
 unfold rlB at h
 simp only [Bool.and_eq_true] at h
 have hw := h.2.2.2
 have hi : isW x.Zdx = false := by
  unfold kindZ at hk
  unfold isW
  rw [Bool.eq_false_iff]
  intro hh
  rw [Bool.or_eq_true, beq_iff_eq, beq_iff_eq] at hh
  rcases hh with e | e <;> rw [e] at hk <;> simp at hk
 rw [hi] at hw
 simpa using hw
theorem EInv.step {k : Nat} {s : Nat} {b : Zi} (h : EInv b) (x : Zag) : EInv (stepB k s b x) := by
 have turn : ∀ c, EInv (turnB b c).2 := fun c => by
  unfold turnB
  dsimp only
  cases c.2.2 == 0 <;> exact h
 unfold stepB
 cases pick x.Zfq 8 == 0 with
 | true => exact turn _
 | false =>
  rw [cond_false]
  cases pick x.Zfq 8 == 1 with
  | true =>
   rw [cond_true]
   unfold revR
   split
   ·exact h
   ·rename_i h0
    split
    ·exact h
    ·refine h.add fun y hy => ?_
     obtain ⟨z, hz, rfl⟩ := List.mem_map.1 hy
     exact (h _ (Zew Zc.zero (by omega))).2 z hz
  | false =>
   rw [cond_false]
   cases pick x.Zfq 8 == 2 with
   | true => exact turn _
   | false =>
    rw [cond_false]
    unfold postR
    split
    ·rename_i h0
     refine h.add fun y hy => ?_
     unfold rightE at h0
     split at h0
     ·cases h0
     ·split at h0
      ·rename_i ha
       exact FlowW_rl (List.all_eq_true.1 ha y hy)
      ·cases h0
    ·exact h
theorem bkN_E (k s : Nat) (l : List Zag) : EInv (bkN k s l) := by
 unfold bkN
 generalize min l.length 14 = n
 induction n with
 | zero => exact fun x hx => (List.not_mem_nil hx).elim
 | succ n ih => exact ih.step _
theorem putZ_len {key : KZ} {v : Int} (hv : Sm v) {z z' : List (KZ × Int)} (hr : Ris z) (hs : SmL z) (h : putZ key v z = some z') : Ris z' ∧ SmL z' ∧ z'.length ≤ z.length + 1 := by
 have := putZ_spec (k := key) hv hr hs
 rw [h] at this
 exact ⟨this.1, this.2.1, this.2.2.1⟩
/-- What a round of the document's comes to. -/
abbrev RS := (Int × List Zf × Int × Int × Int × List Zc × Zd × Int × List Za × Int) ⊕ (List Zf × Int × Zr)
theorem rline_in {k : Nat} (hk : 1002 < k) {s : Nat} (hs : s ≤ 4) {t : Ze} (ht : T12 t) {ls : List Za} (hl : ls.length ≤ 1000) (hw : ∀ x ∈ ls, x.Zp = DV (val x.Zp) s ∧ Sm (val x.Zp)) (hf : ∀ x ∈ ls, FlowW x)
  {z : List (KZ × Int)} (hr : Ris z) (hz : SmL z) (hzl : z.length ≤ 1000) {j : Nat} (hj : j < ls.length) (p : Int) (i sc : Int) (L : List Zc) {per : Int} (hp : 0 ≤ per ∧ per < 12) (of : Int) :
  Zl.l10.once k (p, z.map (ckz s), i, (j : Int), sc, L, ⟨t.Zk, t.Zh⟩, per, ls, of) = some (match putZ (kzL (opn t per) (ls.getD j Za.zero)) (val (ls.getD j Za.zero).Zp) z with
   | some z' => .inl (p, z'.map (ckz s), i, ((j + 1 : Nat) : Int), sc, L, ⟨t.Zk, t.Zh⟩, per, ls, of)
   | none => .inr (.inr ([], 3, ⟨sc, L, ⟨t.Zk, t.Zh⟩⟩))) := by
 have hx := hw _ (Zew Za.zero hj)
 have hfx := hf _ (Zew Za.zero hj)
 have hwr := wrapi (show -9223372036854775808 ≤ (j : Int) + 1 ∧ (j : Int) + 1 < 9223372036854775808 by omega)
 have e1 : (⟨pack 12 false t.Zk, pack 12 0 t.Zh⟩ : Zd) = ⟨t.Zk, t.Zh⟩ := pkR ht.1 ht.2
 have e3 := Zel false ht.1
 unfold Zl.l10.once
 dsimp only
 simp only [e1]
 rw [ct (show (j : Int) < (ls.length : Int) by omega), inb_t (by omega) (by omega), cond_true, Int.toNat_natCast]
 generalize ls.getD j Za.zero = x at hx hfx ⊢
 obtain ⟨hx1, hx2⟩ := hx
 have ho : opn t per = !(t.Zk.getD per.toNat false) := by
  unfold opn
  rw [decide_eq_true (show per ≥ 0 by omega), decide_eq_true hp.2]
  rfl
 have hpt : per.toNat < 12 := by omega
 refine bof (v := match putZ (kzL (opn t per) x) (val x.Zp) z with
  | some z' => .inl (p, z'.map (ckz s), i, (j : Int), sc, L, ⟨t.Zk, t.Zh⟩, per, ls, of)
  | none => .inr ([], 3, ⟨sc, L, ⟨t.Zk, t.Zh⟩⟩)) ?_ ?_
 ·refine bof (v := (p, z.map (ckz s), i, (j : Int), (kindZ x.Zdx == 4) && t.Zk.getD per.toNat false, sc, L, ⟨t.Zk, t.Zh⟩, per, ls, of, x.Zdx, x.Zp.f_Neg, x.Zp.f_C.1, x.Zp.f_C.2, x.Zp.Zo, x.Zet)) ?_ ?_
  ·refine bof (RK_eq k x.Zdx) ?_
   cases hk4 : kindZ x.Zdx == 4 with
   | true => rw [cond_true, inb_t (by omega) (by omega), cond_true, blt_t hpt, cond_true, e3]; rfl
   | false => rfl
  ·dsimp only
   simp only [e1]
   have hput : ∀ key, Zw.f k (z.map (ckz s)) key (⟨x.Zp.f_Neg, (x.Zp.f_C.1, x.Zp.f_C.2), x.Zp.Zo⟩ : Zg) = some (match putZ key (val x.Zp) z with | some z => (z.map (ckz s), 0) | none => ([], 3)) := fun key => by
    have := RPut2_eq hk hs hr hz hzl key hx2
    rw [← hx1] at this
    exact this
   have fin : ∀ (ac : Int) (key : KZ), (ac, IntKind.wrap .i64 (x.Zet + 1)) = key → kzL (opn t per) x = key →
     ((Zw.f k (z.map (ckz s)) (ac, IntKind.wrap .i64 (x.Zet + 1)) (⟨x.Zp.f_Neg, (x.Zp.f_C.1, x.Zp.f_C.2), x.Zp.Zo⟩ : Zg)).bind fun t180 => (cond (t180.2 != 0) (some (Sum.inr (([] : List Zf), t180.2, (⟨sc, L, ⟨t.Zk, t.Zh⟩⟩ : Zr)))) (some (Sum.inl (p, t180.1, i, (j : Int), sc, L, (⟨t.Zk, t.Zh⟩ : Zd), per, ls, of))) : Option RS)) = (some (match putZ (kzL (opn t per) x) (val x.Zp) z with
      | some z' => Sum.inl (p, z'.map (ckz s), i, (j : Int), sc, L, ⟨t.Zk, t.Zh⟩, per, ls, of)
      | none => Sum.inr ([], 3, ⟨sc, L, ⟨t.Zk, t.Zh⟩⟩)) : Option RS) := fun ac key h1 h2 => by
    rw [h1, h2]
    refine bof (hput key) ?_
    cases putZ key (val x.Zp) z <;> rfl
   cases hk4 : (kindZ x.Zdx == 4) && t.Zk.getD per.toNat false with
   | true =>
    rw [Bool.and_eq_true, beq_iff_eq] at hk4
    have hkz : kzL (opn t per) x = (8, 0) := by
     unfold kzL
     rw [if_pos ⟨hk4.1, by rw [ho, hk4.2]; rfl⟩]
    refine bof (v := (p, z.map (ckz s), i, (j : Int), sc, L, ⟨t.Zk, t.Zh⟩, per, ls, of, 8, x.Zp.f_Neg, x.Zp.f_C.1, x.Zp.f_C.2, x.Zp.Zo, x.Zet)) rfl ?_
    dsimp only
    simp only [e1]
    exact fin 8 (8, 0) (by rw [hfx hk4.1]; rfl) hkz
   | false =>
    have hkz : kzL (opn t per) x = (x.Zdx, IntKind.wrap .i64 (x.Zet + 1)) := by
     unfold kzL
     rw [if_neg]
     rintro ⟨h1, h2⟩
     rw [ho] at h2
     have h3 : t.Zk.getD per.toNat false = true := by simpa using h2
     rw [h1, h3] at hk4
     cases hk4
    refine bof (v := (p, z.map (ckz s), i, (j : Int), sc, L, ⟨t.Zk, t.Zh⟩, per, ls, of, x.Zdx, x.Zp.f_Neg, x.Zp.f_C.1, x.Zp.f_C.2, x.Zp.Zo, x.Zet)) rfl ?_
    dsimp only
    simp only [e1]
    exact fin x.Zdx _ rfl hkz
 ·cases putZ (kzL (opn t per) x) (val x.Zp) z with
  | some z' =>
   dsimp only
   rw [hwr, e1]
   rfl
  | none =>
   dsimp only
   rw [e1]
theorem rlines_in {k : Nat} (hk : 1002 < k) {s : Nat} (hs : s ≤ 4) {t : Ze} (ht : T12 t) {ls : List Za} (hl : ls.length ≤ 1000) (hw : ∀ x ∈ ls, x.Zp = DV (val x.Zp) s ∧ Sm (val x.Zp)) (hf : ∀ x ∈ ls, FlowW x)
  (p : Int) (i sc : Int) (L : List Zc) {per : Int} (hp : 0 ≤ per ∧ per < 12) (of : Int) : ∀ (m j : Nat) (z : List (KZ × Int)), Ris z → SmL z → z.length + (ls.length - j) ≤ 1000 → j ≤ ls.length → ls.length - j < m →
  iter (Zl.l10.once k) m (p, z.map (ckz s), i, (j : Int), sc, L, ⟨t.Zk, t.Zh⟩, per, ls, of) = some (match linesZ (opn t per) (ls.drop j) z with
   | some z' => .inl (p, z'.map (ckz s), i, sc, L, ⟨t.Zk, t.Zh⟩)
   | none => .inr ([], 3, ⟨sc, L, ⟨t.Zk, t.Zh⟩⟩)) := by
 intro m
 induction m with
 | zero => intro j z _ _ _ _ h; omega
 | succ m ih =>
  intro j z hr hz hzl hj hm
  by_cases hc : j < ls.length
  ·have st := rline_in hk hs ht hl hw hf hr hz (by omega) hc p i sc L hp of
   have hx := hw _ (Zew Za.zero hc)
   rw [Zfa Za.zero hc]
   unfold linesZ
   cases hq : putZ (kzL (opn t per) (ls.getD j Za.zero)) (val (ls.getD j Za.zero).Zp) z with
   | some z' =>
    rw [hq] at st
    obtain ⟨g1, g2, g3⟩ := putZ_len hx.2 hr hz hq
    rw [Zdv st, Option.bind_some]
    exact ih (j + 1) z' g1 g2 (by omega) (by omega) (by omega)
   | none =>
    rw [hq] at st
    exact Zcp st
  ·rw [List.drop_eq_nil_of_le (by omega)]
   refine Zcp ?_
   unfold Zl.l10.once
   dsimp only
   rw [cf (by omega), pkR ht.1 ht.2]
   rfl
theorem linesZ_len {o : Bool} : ∀ {ls : List Za} {z z' : List (KZ × Int)}, (∀ x ∈ ls, Sm (val x.Zp)) → Ris z → SmL z → linesZ o ls z = some z' → Ris z' ∧ SmL z' ∧ z'.length ≤ z.length + ls.length
 | [], z, z', _, hr, hz, h => by cases h; exact ⟨hr, hz, Nat.le_refl _⟩
 | x :: r, z, z', hw, hr, hz, h => by
  unfold linesZ at h
  obtain ⟨z1, h1, h2⟩ := Option.bind_eq_some_iff.1 h
  obtain ⟨g1, g2, g3⟩ := putZ_len (hw x List.mem_cons_self) hr hz h1
  obtain ⟨f1, f2, f3⟩ := linesZ_len (fun y hy => hw y (List.mem_cons_of_mem _ hy)) g1 g2 h2
  exact ⟨f1, f2, by rw [List.length_cons]; omega⟩
theorem rents_in {k : Nat} (hk : 1002 < k) {s : Nat} (hs : s ≤ 4) {t : Ze} (ht : T12 t) {es : List Zc} (hl : es.length ≤ 40) (hw : ∀ x ∈ es, LsOk s x.Zdm) (hE : ∀ x ∈ es, (0 ≤ x.Zdi ∧ x.Zdi < 12) ∧ ∀ y ∈ x.Zdm, FlowW y) (p sc : Int) :
  ∀ (m i : Nat) (z : List (KZ × Int)), Ris z → SmL z → z.length + 8 * (es.length - i) ≤ 1000 → i ≤ es.length → es.length - i < m →
  iter (Zl.l5.once k) m (p, z.map (ckz s), (i : Int), sc, es, ⟨t.Zk, t.Zh⟩) = some (match entZ p t (es.drop i) z with
   | some z' => .inl (z'.map (ckz s), sc, es, ⟨t.Zk, t.Zh⟩)
   | none => .inr ([], 3, ⟨sc, es, ⟨t.Zk, t.Zh⟩⟩)) := by
 intro m
 induction m with
 | zero => intro i z _ _ _ _ h; omega
 | succ m ih =>
  intro i z hr hz hzl hi hm
  have e1 : (⟨pack 12 false t.Zk, pack 12 0 t.Zh⟩ : Zd) = ⟨t.Zk, t.Zh⟩ := pkR ht.1 ht.2
  by_cases hc : i < es.length
  ·have hx := hw _ (Zew Zc.zero hc)
   have hex := hE _ (Zew Zc.zero hc)
   have hwr := wrapi (show -9223372036854775808 ≤ (i : Int) + 1 ∧ (i : Int) + 1 < 9223372036854775808 by omega)
   rw [Zfa Zc.zero hc]
   unfold entZ
   have st : ∀ y : List (KZ × Int) ⊕ Unit, (if (es.getD i Zc.zero).Zdi > p then some (Sum.inl z) else (match linesZ (opn t (es.getD i Zc.zero).Zdi) (es.getD i Zc.zero).Zdm z with | some z' => some (Sum.inl z') | none => some (Sum.inr ()))) = some y →
     Zl.l5.once k (p, z.map (ckz s), (i : Int), sc, es, ⟨t.Zk, t.Zh⟩) = some (match y with
      | .inl z' => .inl (p, z'.map (ckz s), ((i + 1 : Nat) : Int), sc, es, ⟨t.Zk, t.Zh⟩)
      | .inr () => .inr (.inr ([], 3, ⟨sc, es, ⟨t.Zk, t.Zh⟩⟩))) := by
    intro y hy
    unfold Zl.l5.once
    dsimp only
    simp only [e1]
    rw [ct (show (i : Int) < (es.length : Int) by omega), inb_t (by omega) (by omega), cond_true, Int.toNat_natCast]
    generalize es.getD i Zc.zero = x at hx hex hy ⊢
    by_cases hp : x.Zdi > p
    ·rw [if_pos hp] at hy
     cases hy
     rw [ct hp, Option.bind_some]
     dsimp only
     rw [hwr, e1]
     rfl
    ·rw [if_neg hp] at hy
     rw [cf hp]
     have it := rlines_in hk hs ht (ls := x.Zdm) (by have := hx.1; omega) hx.2 hex.2 p (i : Int) sc es hex.1 x.f_Of k 0 z hr hz (by have := hx.1; omega) (Nat.zero_le _) (by have := hx.1; omega)
     rw [List.drop_zero] at it
     have it' : iter (Zl.l10.once k) k (p, z.map (ckz s), (i : Int), 0, sc, es, ⟨t.Zk, t.Zh⟩, x.Zdi, x.Zdm, x.f_Of) = _ := it
     rw [it', Option.bind_some]
     cases hq : linesZ (opn t x.Zdi) x.Zdm z with
     | some z' =>
      rw [hq] at hy
      cases hy
      dsimp only
      rw [e1, Option.bind_some]
      dsimp only
      rw [e1, hwr]
      rfl
     | none =>
      rw [hq] at hy
      cases hy
      dsimp only
      rw [e1, Option.bind_some]
      dsimp only
      rw [e1]
   generalize es.getD i Zc.zero = x at hx hex st ⊢
   by_cases hp : x.Zdi > p
   ·rw [if_pos hp] at st ⊢
    rw [Zdv (st _ rfl)]
    exact ih (i + 1) z hr hz (by omega) (by omega) (by omega)
   ·rw [if_neg hp] at st ⊢
    cases hq : linesZ (opn t x.Zdi) x.Zdm z with
    | some z' =>
     rw [hq] at st
     obtain ⟨g1, g2, g3⟩ := linesZ_len (fun y hy => (hx.2 y hy).2) hr hz hq
     have := hx.1
     rw [Zdv (st _ rfl), Option.bind_some]
     exact ih (i + 1) z' g1 g2 (by omega) (by omega) (by omega)
    | none =>
     rw [hq] at st
     rw [Zcp (st _ rfl)]
     rfl
  ·rw [List.drop_eq_nil_of_le (by omega)]
   refine Zcp ?_
   unfold Zl.l5.once
   dsimp only
   rw [cf (by omega), e1]
   rfl
theorem some_eq {k : Nat} (hk : 1002 < k) {s : Nat} (hs : s ≤ 4) {z : List (KZ × Int)} (hz : SmL z) (hl : z.length ≤ 1000) : Zaf.f k (z.map (ckz s)) = some ((someZ z).map (ckz s)) := by
 have it := iter_seq (once := Zaf.l3.once k) (fun i => (z.map (ckz s), (someZ (z.take i)).map (ckz s), (i : Int))) z.length (by
  intro i hi
  have hwr := wrapi (show -9223372036854775808 ≤ (i : Int) + 1 ∧ (i : Int) + 1 < 9223372036854775808 by omega)
  have hgd := getD_map (ckz s) ((0, 0), 0) Zf.zero hi
  have hx : Sm (z.getD i ((0, 0), 0)).2 := hz _ (by
   rw [List.getD_eq_getElem?_getD, List.getElem?_eq_getElem hi]
   exact List.getElem_mem hi)
  have hlen : (someZ (z.take i)).length ≤ i := Nat.le_trans (List.length_filter_le _ _) (by rw [List.length_take]; omega)
  have htk : someZ (z.take (i + 1)) = someZ (z.take i) ++ (if (z.getD i ((0, 0), 0)).2 = 0 then [] else [z.getD i ((0, 0), 0)]) := by
   unfold someZ
   rw [List.take_add_one, List.getElem?_eq_getElem hi, List.filter_append, List.getD_eq_getElem?_getD, List.getElem?_eq_getElem hi]
   by_cases h0 : z[i].2 = 0
   ·simp [h0]
   ·simp [h0]
  have hsg : Zcd.f k (⟨(DV (z.getD i ((0, 0), 0)).2 s).f_Neg, ((DV (z.getD i ((0, 0), 0)).2 s).f_C.1, (DV (z.getD i ((0, 0), 0)).2 s).f_C.2), (DV (z.getD i ((0, 0), 0)).2 s).Zo⟩ : Zg) = some (sgn (z.getD i ((0, 0), 0)).2) :=
   (RSign_eq (k := k) (by omega) (Sm_w2 hx)).trans (Sign_DV (by omega) hx (by omega))
  unfold Zaf.l3.once
  dsimp only
  rw [List.length_map, ct (by omega), inb_t (by omega) (by omega), cond_true, Int.toNat_natCast]
  simp only [hgd]
  rw [htk]
  generalize z.getD i ((0, 0), 0) = x at hsg ⊢
  refine bof (v := (z.map (ckz s), (someZ (z.take i) ++ (if x.2 = 0 then [] else [x])).map (ckz s), (i : Int))) ?_ ?_
  ·refine bof hsg ?_
   have hb := sgn_beq x.2
   by_cases h0 : x.2 = 0
   ·rw [decide_eq_true h0] at hb
    rw [bne, hb, Bool.not_true, cond_false, if_pos h0, List.append_nil]
   ·rw [decide_eq_false h0] at hb
    rw [bne, hb, Bool.not_false, cond_true, cond_true, Zfe (by rw [List.length_map, List.length_singleton]; omega), cond_true, if_neg h0, List.map_append]
    rfl
  ·dsimp only
   rw [hwr]
   rfl) ((someZ z).map (ckz s)) (by
  unfold Zaf.l3.once
  dsimp only
  rw [List.length_map, cf (by omega), List.take_length]) k 0 (Nat.zero_le _) (by omega)
 unfold Zaf.f
 exact bof it rfl
theorem entZ_len {p : Int} {t : Ze} {s : Nat} : ∀ {es : List Zc} {z z' : List (KZ × Int)}, (∀ x ∈ es, LsOk s x.Zdm) → Ris z → SmL z → entZ p t es z = some z' → Ris z' ∧ SmL z' ∧ z'.length ≤ z.length + 8 * es.length
 | [], z, z', _, hr, hz, h => by cases h; exact ⟨hr, hz, Nat.le_refl _⟩
 | x :: r, z, z', hw, hr, hz, h => by
  unfold entZ at h
  rw [List.length_cons]
  split at h
  ·obtain ⟨g1, g2, g3⟩ := entZ_len (fun y hy => hw y (List.mem_cons_of_mem _ hy)) hr hz h
   exact ⟨g1, g2, by omega⟩
  ·obtain ⟨z1, h1, h2⟩ := Option.bind_eq_some_iff.1 h
   have hx := hw x List.mem_cons_self
   obtain ⟨f1, f2, f3⟩ := linesZ_len (fun y hy => (hx.2 y hy).2) hr hz h1
   obtain ⟨g1, g2, g3⟩ := entZ_len (fun y hy => hw y (List.mem_cons_of_mem _ hy)) f1 f2 h2
   have := hx.1
   exact ⟨g1, g2, by omega⟩
/-- The document's trial. -/
theorem RTrial_eq {k : Nat} (hk : 1002 < k) {s : Nat} (hs : s ≤ 4) {b : Zi} (h : TInv s b) (hE : EInv b) (p : Int) : Zl.f k (rof b) p =
  some (if p < 0 ∨ p ≥ 12 then (([] : List Zf), (8 : Int), rof b) else match entZ p b.f_t b.f_l [] with
   | some z => ((someZ z).map (ckz s), 0, rof b)
   | none => ([], 3, rof b)) := by
 have e1 : (⟨pack 12 false (rof b).f_T.Zk, pack 12 0 (rof b).f_T.Zh⟩ : Zd) = (rof b).f_T := pkR h.T.1 h.T.2
 unfold Zl.f
 simp only [e1]
 have his : Zcn.f k p = some (!decide (p < 0 ∨ p ≥ 12)) := by
  unfold Zcn.f
  by_cases h1 : p ≥ 0
  ·rw [ct h1]
   congr 1
   rw [← decide_not]
   exact decide_eq_decide.2 ⟨fun h => by omega, fun h => by omega⟩
  ·rw [cf h1, decide_eq_true (.inl (by omega))]
   rfl
 refine bof his ?_
 by_cases hp : p < 0 ∨ p ≥ 12
 ·rw [decide_eq_true hp, if_pos hp]
  rfl
 ·rw [decide_eq_false hp, if_neg hp]
  have it := rents_in hk hs h.T (es := b.f_l) h.len h.ls hE p b.Zbw k 0 [] List.Pairwise.nil (fun p hp => (List.not_mem_nil hp).elim) (by have := h.len; simp; omega) (Nat.zero_le _) (by have := h.len; omega)
  rw [List.drop_zero] at it
  rw [Bool.not_false, Bool.not_true, cond_false]
  refine bof it ?_
  cases hz : entZ p b.f_t b.f_l [] with
  | some z =>
   obtain ⟨g1, g2, g3⟩ := entZ_len h.ls List.Pairwise.nil (fun p hp => (List.not_mem_nil hp).elim) hz
   have := h.len
   refine bof (some_eq hk hs g2 (by simp at g3; omega)) ?_
   show some (_, _, (⟨_, _, ⟨pack 12 false b.f_t.Zk, pack 12 0 b.f_t.Zh⟩⟩ : Zr)) = _
   rw [pkR h.T.1 h.T.2]
   rfl
  | none =>
   show some (_, _, (⟨_, _, ⟨pack 12 false b.f_t.Zk, pack 12 0 b.f_t.Zh⟩⟩ : Zr)) = _
   rw [pkR h.T.1 h.T.2]
   rfl
end Go.Proofs.YtbchcjlllddlpaaGreat.Pure
/- Flows, sums of an account, keys, of the project's and of the document's. No conditions but size. -/
namespace Go.Proofs.YtbchcjlllddlpaaGreat.Pure
set_option linter.unusedVariables false
set_option linter.unusedSimpArgs false
open Go Go.Ev Go.Lm Go.Pu Go.Dg
/-- The flows among lines, where they count. -/
def flL (c : Bool) : List Za → Int → Option Int
 | [], a => some a
 | x :: r, a => if c = true ∧ kindZ x.Zdx = 4 then (if Sm (a + val x.Zp) then flL c r (a + val x.Zp) else none) else flL c r a
def flZ (p : Int) : List Zc → Int → Option Int
 | [], a => some a
 | x :: r, a => (flL (x.Zdi == p) x.Zdm a).bind (flZ p r)
theorem flL_Sm {c : Bool} : ∀ {ls : List Za} {a b : Int}, Sm a → flL c ls a = some b → Sm b
 | [], a, b, h, e => by cases e; exact h
 | x :: r, a, b, h, e => by
  unfold flL at e
  split at e
  ·split at e
   ·rename_i h1
    exact flL_Sm h1 e
   ·cases e
  ·exact flL_Sm h e
theorem flZ_Sm {p : Int} : ∀ {es : List Zc} {a b : Int}, Sm a → flZ p es a = some b → Sm b
 | [], a, b, h, e => by cases e; exact h
 | x :: r, a, b, h, e => by
  unfold flZ at e
  obtain ⟨c, h1, h2⟩ := Option.bind_eq_some_iff.1 e
  exact flZ_Sm (flL_Sm h h1) h2
theorem flL_off : ∀ (ls : List Za) (a : Int), flL false ls a = some a
 | [], _ => rfl
 | x :: r, a => by
  unfold flL
  rw [if_neg (by simp)]
  exact flL_off r a
theorem fl_lines {k : Nat} (hk : 1002 < k) {s : Nat} (hs : s ≤ 4) {bt : Ze} (hb : T12 bt) {ls : List Za} (hl : ls.length ≤ 1000) (hw : ∀ x ∈ ls, x.Zp = DV (val x.Zp) s ∧ Sm (val x.Zp))
  (p : Int) (es : List Zc) (n i : Int) (d : Zg) (per : Int) (ls2 : List Za) (of : Int) (sc : Int) (bl : List Zc) : ∀ (m j : Nat) (a : Int), Sm a → j ≤ ls.length → ls.length - j < m →
  iter (Zai.l10.once k) m (p, es, n, i, ls, (ls.length : Int), (j : Int), d.f_Neg, d.f_C.1, d.f_C.2, d.Zo, (DV a s).f_Neg, (DV a s).f_C.1, (DV a s).f_C.2, (DV a s).Zo, per, ls2, of, sc, bl, bt) = some (match flL (per == p) (ls.drop j) a with
   | some b => .inl (p, es, n, i, d.f_Neg, d.f_C.1, d.f_C.2, d.Zo, (DV b s).f_Neg, (DV b s).f_C.1, (DV b s).f_C.2, (DV b s).Zo, sc, bl, bt)
   | none => .inr (⟨false, (0, 0), 0⟩, 3, ⟨sc, bl, bt⟩)) := by
 have e1 := pk hb
 intro m
 induction m with
 | zero => intro j a _ _ h; omega
 | succ m ih =>
  intro j a ha hj hm
  by_cases hc : j < ls.length
  ·have hx := hw _ (Zew Za.zero hc)
   have hwr := wrapi (show -9223372036854775808 ≤ (j : Int) + 1 ∧ (j : Int) + 1 < 9223372036854775808 by omega)
   rw [Zfa Za.zero hc]
   unfold flL
   have st : Zai.l10.once k (p, es, n, i, ls, (ls.length : Int), (j : Int), d.f_Neg, d.f_C.1, d.f_C.2, d.Zo, (DV a s).f_Neg, (DV a s).f_C.1, (DV a s).f_C.2, (DV a s).Zo, per, ls2, of, sc, bl, bt) =
     some (if (per == p) = true ∧ kindZ (ls.getD j Za.zero).Zdx = 4 then (if Sm (a + val (ls.getD j Za.zero).Zp) then .inl (p, es, n, i, ls, (ls.length : Int), ((j + 1 : Nat) : Int), d.f_Neg, d.f_C.1, d.f_C.2, d.Zo, (DV (a + val (ls.getD j Za.zero).Zp) s).f_Neg, (DV (a + val (ls.getD j Za.zero).Zp) s).f_C.1, (DV (a + val (ls.getD j Za.zero).Zp) s).f_C.2, (DV (a + val (ls.getD j Za.zero).Zp) s).Zo, per, ls2, of, sc, bl, bt)
       else .inr (.inr (⟨false, (0, 0), 0⟩, 3, ⟨sc, bl, bt⟩)))
      else .inl (p, es, n, i, ls, (ls.length : Int), ((j + 1 : Nat) : Int), d.f_Neg, d.f_C.1, d.f_C.2, d.Zo, (DV a s).f_Neg, (DV a s).f_C.1, (DV a s).f_C.2, (DV a s).Zo, per, ls2, of, sc, bl, bt)) := by
    unfold Zai.l10.once
    dsimp only
    simp only [e1]
    rw [ct (show (j : Int) < (ls.length : Int) by omega), inb_t (by omega) (by omega), cond_true, Int.toNat_natCast]
    generalize ls.getD j Za.zero = x at hx ⊢
    obtain ⟨hx1, hx2⟩ := hx
    refine bof (v := (p, es, n, i, ls, (ls.length : Int), (j : Int), (per != p) || (kindZ x.Zdx != 4), d.f_Neg, d.f_C.1, d.f_C.2, d.Zo, (DV a s).f_Neg, (DV a s).f_C.1, (DV a s).f_C.2, (DV a s).Zo, per, ls2, of, x.Zdx, x.Zp.f_Neg, x.Zp.f_C.1, x.Zp.f_C.2, x.Zp.Zo, x.Zet, sc, bl, bt)) ?_ ?_
    ·cases per != p with
     | true => rfl
     | false => exact bof (CK_eq k x.Zdx) rfl
    ·dsimp only
     simp only [e1, hwr]
     by_cases h1 : per = p
     ·have hb1 : (per != p) = false := by simp [h1]
      by_cases h2 : kindZ x.Zdx = 4
      ·have hb2 : (kindZ x.Zdx != 4) = false := by simp [h2]
       rw [hb1, hb2, Bool.or_false, cond_false, if_pos ⟨by simpa using h1, h2⟩]
       have hadd : Zem.f k (⟨(DV a s).f_Neg, ((DV a s).f_C.1, (DV a s).f_C.2), (DV a s).Zo⟩ : Zg) (⟨x.Zp.f_Neg, (x.Zp.f_C.1, x.Zp.f_C.2), x.Zp.Zo⟩ : Zg) = some (mkD (a + val x.Zp) s) := by
        show Zem.f k (DV a s) x.Zp = _
        rw [hx1, val_DV]
        exact Add_same (by omega) ha hx2 (by omega)
       refine bof hadd ?_
       by_cases hS : Sm (a + val x.Zp)
       ·have hm : mkD (a + val x.Zp) s = (DV (a + val x.Zp) s, 0) := if_pos hS
        rw [hm, if_pos hS]
        rfl
       ·have hm : mkD (a + val x.Zp) s = (nil0, 3) := if_neg hS
        rw [hm, if_neg hS]
        rfl
      ·have hb2 : (kindZ x.Zdx != 4) = true := by simp [h2]
       rw [hb2, Bool.or_true, cond_true, if_neg (fun hh => h2 hh.2)]
       rfl
     ·have hb1 : (per != p) = true := by simp [h1]
      rw [hb1, Bool.true_or, cond_true, if_neg (fun hh => h1 (by simpa using hh.1))]
      rfl
   generalize ls.getD j Za.zero = x at st ⊢
   by_cases hq : (per == p) = true ∧ kindZ x.Zdx = 4
   ·rw [if_pos hq] at st ⊢
    by_cases hS : Sm (a + val x.Zp)
    ·rw [if_pos hS] at st ⊢
     rw [Zdv st]
     exact ih (j + 1) _ hS (by omega) (by omega)
    ·rw [if_neg hS] at st ⊢
     exact Zcp st
   ·rw [if_neg hq] at st ⊢
    rw [Zdv st]
    exact ih (j + 1) a ha (by omega) (by omega)
  ·rw [List.drop_eq_nil_of_le (by omega)]
   refine Zcp ?_
   unfold Zai.l10.once
   dsimp only
   rw [cf (by omega), e1]
   rfl
theorem fl_ents {k : Nat} (hk : 1002 < k) {s : Nat} (hs : s ≤ 4) {bt : Ze} (hb : T12 bt) {es : List Zc} (hl : es.length ≤ 1000) (hw : ∀ x ∈ es, LsOk s x.Zdm) (p : Int) (d : Zg) (sc : Int) (bl : List Zc) :
  ∀ (m i : Nat) (a : Int), Sm a → i ≤ es.length → es.length - i < m →
  iter (Zai.l7.once k) m (p, es, (es.length : Int), (i : Int), d.f_Neg, d.f_C.1, d.f_C.2, d.Zo, (DV a s).f_Neg, (DV a s).f_C.1, (DV a s).f_C.2, (DV a s).Zo, sc, bl, bt) = some (match flZ p (es.drop i) a with
   | some b => .inl (d.f_Neg, d.f_C.1, d.f_C.2, d.Zo, (DV b s).f_Neg, (DV b s).f_C.1, (DV b s).f_C.2, (DV b s).Zo, sc, bl, bt)
   | none => .inr (⟨false, (0, 0), 0⟩, 3, ⟨sc, bl, bt⟩)) := by
 have e1 := pk hb
 intro m
 induction m with
 | zero => intro i a _ _ h; omega
 | succ m ih =>
  intro i a ha hi hm
  by_cases hc : i < es.length
  ·have hx := hw _ (Zew Zc.zero hc)
   have hwr := wrapi (show -9223372036854775808 ≤ (i : Int) + 1 ∧ (i : Int) + 1 < 9223372036854775808 by omega)
   rw [Zfa Zc.zero hc]
   unfold flZ
   have it := fl_lines hk hs hb (ls := (es.getD i Zc.zero).Zdm) (by have := hx.1; omega) hx.2 p es (es.length : Int) (i : Int) d (es.getD i Zc.zero).Zdi (es.getD i Zc.zero).Zdm (es.getD i Zc.zero).f_Of sc bl k 0 a ha (Nat.zero_le _) (by have := hx.1; omega)
   rw [List.drop_zero] at it
   have st : Zai.l7.once k (p, es, (es.length : Int), (i : Int), d.f_Neg, d.f_C.1, d.f_C.2, d.Zo, (DV a s).f_Neg, (DV a s).f_C.1, (DV a s).f_C.2, (DV a s).Zo, sc, bl, bt) = some (match flL ((es.getD i Zc.zero).Zdi == p) (es.getD i Zc.zero).Zdm a with
     | some b => .inl (p, es, (es.length : Int), ((i + 1 : Nat) : Int), d.f_Neg, d.f_C.1, d.f_C.2, d.Zo, (DV b s).f_Neg, (DV b s).f_C.1, (DV b s).f_C.2, (DV b s).Zo, sc, bl, bt)
     | none => .inr (.inr (⟨false, (0, 0), 0⟩, 3, ⟨sc, bl, bt⟩))) := by
    unfold Zai.l7.once
    dsimp only
    simp only [e1]
    rw [ct (show (i : Int) < (es.length : Int) by omega), inb_t (by omega) (by omega), cond_true, Int.toNat_natCast]
    generalize es.getD i Zc.zero = x at it ⊢
    refine bof it ?_
    cases flL (x.Zdi == p) x.Zdm a with
    | some b =>
     dsimp only
     rw [e1, hwr]
     rfl
    | none =>
     dsimp only
     rw [e1]
   generalize es.getD i Zc.zero = x at st ⊢
   cases hq : flL (x.Zdi == p) x.Zdm a with
   | some b =>
    rw [hq] at st
    rw [Zdv st, Option.bind_some]
    exact ih (i + 1) b (flL_Sm ha hq) (by omega) (by omega)
   | none =>
    rw [hq] at st
    rw [Zcp st]
    rfl
  ·rw [List.drop_eq_nil_of_le (by omega)]
   refine Zcp ?_
   unfold Zai.l7.once
   dsimp only
   rw [cf (by omega), e1]
   rfl
/-- The flows of a period. -/
theorem Flows_eq {k : Nat} (hk : 1002 < k) {s : Nat} (hs : s ≤ 4) {b : Zi} (h : TInv s b) (p : Int) : Zai.f k b p =
  some (if p < 0 ∨ p ≥ 12 then (⟨false, (0, 0), 0⟩, (8 : Int), b) else match flZ p b.f_l 0 with
   | some a => (DV (-a) s, 0, b)
   | none => (⟨false, (0, 0), 0⟩, 3, b)) := by
 have e1 := pk h.T
 have e2 : (⟨b.Zbw, b.f_l, ⟨pack 12 false b.f_t.Zk, pack 12 0 b.f_t.Zh⟩⟩ : Zi) = b := pkB h.T
 unfold Zai.f
 simp only [e1]
 by_cases hp : p < 0
 ·rw [ct hp, if_pos (.inl hp), Option.bind_some]
  dsimp only
  rw [cond_true, e1]
 ·rw [cf hp, Option.bind_some]
  dsimp only
  by_cases hp2 : p ≥ 12
  ·rw [ct hp2, if_pos (.inr hp2), e1]
  ·rw [cf hp2, if_neg (by omega)]
   have hE := Bentries_eq (k := k) (by omega) h.T h.len (fun x hx => by have := (h.ls x hx).1; omega)
   have hS : Zbs.f k (⟨b.Zbw, b.f_l, ⟨pack 12 false b.f_t.Zk, pack 12 0 b.f_t.Zh⟩⟩ : Zi) = some ((s : Int), b) := by
    rw [e2]
    unfold Zbs.f
    rw [e1, h.sc]
    show some ((s : Int), (⟨(s : Int), b.f_l, b.f_t⟩ : Zi)) = _
    rw [← h.sc]
   have ho : Zez.f k 0 (s : Int) = some (DV 0 s) := by
    have := Of_DV k (n := 0) (by omega) (s : Int)
    rwa [cl_of (by omega)] at this
   have hE' : Zz.f k (⟨b.Zbw, b.f_l, ⟨pack 12 false b.f_t.Zk, pack 12 0 b.f_t.Zh⟩⟩ : Zi) = some (b.f_l, b) := by rw [e2]; exact hE
   have it := fl_ents hk hs h.T (es := b.f_l) (by have := h.len; omega) h.ls p ⟨false, (0, 0), 0⟩ b.Zbw b.f_l k 0 0 Sm0 (Nat.zero_le _) (by have := h.len; omega)
   rw [List.drop_zero] at it
   refine bof hS (bof ho (bof hE' ?_))
   simp only [e1]
   refine bof it ?_
   cases hz : flZ p b.f_l 0 with
   | some a =>
    dsimp only
    refine bof (v := DV (-a) s) (Neg_DV (k := k) (by omega) (flZ_Sm Sm0 hz) (by omega)) ?_
    rw [e1]
   | none =>
    dsimp only
    rw [e1]
theorem rfl_lines {k : Nat} (hk : 1002 < k) {s : Nat} (hs : s ≤ 4) {t : Ze} (ht : T12 t) {ls : List Za} (hl : ls.length ≤ 1000) (hw : ∀ x ∈ ls, x.Zp = DV (val x.Zp) s ∧ Sm (val x.Zp))
  (p i sc : Int) (L : List Zc) (d : Zg) (per : Int) (of : Int) : ∀ (m j : Nat) (a : Int), Sm a → j ≤ ls.length → ls.length - j < m →
  iter (Zm.l9.once k) m (p, i, (j : Int), sc, L, ⟨t.Zk, t.Zh⟩, d.f_Neg, d.f_C.1, d.f_C.2, d.Zo, (DV a s).f_Neg, (DV a s).f_C.1, (DV a s).f_C.2, (DV a s).Zo, per, ls, of) = some (match flL (per == p) (ls.drop j) a with
   | some b => .inl (p, i, sc, L, ⟨t.Zk, t.Zh⟩, d.f_Neg, d.f_C.1, d.f_C.2, d.Zo, (DV b s).f_Neg, (DV b s).f_C.1, (DV b s).f_C.2, (DV b s).Zo)
   | none => .inr (⟨false, (0, 0), 0⟩, 3, ⟨sc, L, ⟨t.Zk, t.Zh⟩⟩)) := by
 have e1 : (⟨pack 12 false t.Zk, pack 12 0 t.Zh⟩ : Zd) = ⟨t.Zk, t.Zh⟩ := pkR ht.1 ht.2
 intro m
 induction m with
 | zero => intro j a _ _ h; omega
 | succ m ih =>
  intro j a ha hj hm
  by_cases hpp : (per == p) = false
  ·rw [hpp, flL_off]
   refine Zcp ?_
   unfold Zm.l9.once
   dsimp only
   simp only [e1]
   refine bof (v := (p, i, (j : Int), false, sc, L, ⟨t.Zk, t.Zh⟩, d.f_Neg, d.f_C.1, d.f_C.2, d.Zo, (DV a s).f_Neg, (DV a s).f_C.1, (DV a s).f_C.2, (DV a s).Zo, per, ls, of)) ?_ ?_
   ·cases decide ((j : Int) < (ls.length : Int)) with
    | true => rw [cond_true, hpp]
    | false => rfl
   ·dsimp only
    rw [cond_false, e1]
  ·have hpp : (per == p) = true := by simpa using hpp
   rw [hpp] at ih ⊢
   by_cases hc : j < ls.length
   ·have hx := hw _ (Zew Za.zero hc)
    have hwr := wrapi (show -9223372036854775808 ≤ (j : Int) + 1 ∧ (j : Int) + 1 < 9223372036854775808 by omega)
    rw [Zfa Za.zero hc]
    unfold flL
    have st : Zm.l9.once k (p, i, (j : Int), sc, L, ⟨t.Zk, t.Zh⟩, d.f_Neg, d.f_C.1, d.f_C.2, d.Zo, (DV a s).f_Neg, (DV a s).f_C.1, (DV a s).f_C.2, (DV a s).Zo, per, ls, of) =
      some (if true = true ∧ kindZ (ls.getD j Za.zero).Zdx = 4 then (if Sm (a + val (ls.getD j Za.zero).Zp) then .inl (p, i, ((j + 1 : Nat) : Int), sc, L, ⟨t.Zk, t.Zh⟩, d.f_Neg, d.f_C.1, d.f_C.2, d.Zo, (DV (a + val (ls.getD j Za.zero).Zp) s).f_Neg, (DV (a + val (ls.getD j Za.zero).Zp) s).f_C.1, (DV (a + val (ls.getD j Za.zero).Zp) s).f_C.2, (DV (a + val (ls.getD j Za.zero).Zp) s).Zo, per, ls, of)
        else .inr (.inr (⟨false, (0, 0), 0⟩, 3, ⟨sc, L, ⟨t.Zk, t.Zh⟩⟩)))
       else .inl (p, i, ((j + 1 : Nat) : Int), sc, L, ⟨t.Zk, t.Zh⟩, d.f_Neg, d.f_C.1, d.f_C.2, d.Zo, (DV a s).f_Neg, (DV a s).f_C.1, (DV a s).f_C.2, (DV a s).Zo, per, ls, of)) := by
     unfold Zm.l9.once
     dsimp only
     simp only [e1]
     rw [ct (show (j : Int) < (ls.length : Int) by omega), Option.bind_some]
     dsimp only
     rw [hpp, cond_true, inb_t (by omega) (by omega), cond_true, Int.toNat_natCast]
     simp only [e1]
     generalize ls.getD j Za.zero = x at hx ⊢
     obtain ⟨hx1, hx2⟩ := hx
     rw [RK_eq, Option.bind_some]
     by_cases h2 : kindZ x.Zdx = 4
     ·have hb2 : (kindZ x.Zdx != 4) = false := by simp [h2]
      rw [hb2, cond_false, cond_true, if_pos (by simp [h2])]
      have hadd : Zcc.f k (⟨(DV a s).f_Neg, ((DV a s).f_C.1, (DV a s).f_C.2), (DV a s).Zo⟩ : Zg) (⟨x.Zp.f_Neg, (x.Zp.f_C.1, x.Zp.f_C.2), x.Zp.Zo⟩ : Zg) = some (mkD (a + val x.Zp) s) := by
       show Zcc.f k (DV a s) x.Zp = _
       rw [hx1, val_DV]
       exact RAdd_same (by omega) ha hx2 (by omega)
      rw [hadd, Option.bind_some]
      by_cases hS : Sm (a + val x.Zp)
      ·have hm : mkD (a + val x.Zp) s = (DV (a + val x.Zp) s, 0) := if_pos hS
       rw [hm, if_pos hS]
       dsimp only
       rw [show ((0 : Int) != 0) = false from rfl, cond_false, Option.bind_some]
       dsimp only
       rw [e1, hwr]
       rfl
      ·have hm : mkD (a + val x.Zp) s = (nil0, 3) := if_neg hS
       rw [hm, if_neg hS]
       dsimp only
       rw [show ((3 : Int) != 0) = true from rfl, cond_true, Option.bind_some]
       dsimp only
       rw [e1]
     ·have hb2 : (kindZ x.Zdx != 4) = true := by simp [h2]
      rw [hb2, cond_true, if_neg (by simp [h2]), Option.bind_some]
      dsimp only
      rw [e1, hwr]
      rfl
    generalize ls.getD j Za.zero = x at st ⊢
    by_cases hq : true = true ∧ kindZ x.Zdx = 4
    ·rw [if_pos hq] at st ⊢
     by_cases hS : Sm (a + val x.Zp)
     ·rw [if_pos hS] at st ⊢
      rw [Zdv st]
      exact ih (j + 1) _ hS (by omega) (by omega)
     ·rw [if_neg hS] at st ⊢
      exact Zcp st
    ·rw [if_neg hq] at st ⊢
     rw [Zdv st]
     exact ih (j + 1) a ha (by omega) (by omega)
   ·rw [List.drop_eq_nil_of_le (by omega)]
    refine Zcp ?_
    unfold Zm.l9.once
    dsimp only
    simp only [e1]
    rw [cf (by omega), Option.bind_some]
    dsimp only
    rw [cond_false, e1]
    rfl
theorem rfl_ents {k : Nat} (hk : 1002 < k) {s : Nat} (hs : s ≤ 4) {t : Ze} (ht : T12 t) {es : List Zc} (hl : es.length ≤ 1000) (hw : ∀ x ∈ es, LsOk s x.Zdm) (p : Int) (d : Zg) (sc : Int) :
  ∀ (m i : Nat) (a : Int), Sm a → i ≤ es.length → es.length - i < m →
  iter (Zm.l5.once k) m (p, (i : Int), sc, es, ⟨t.Zk, t.Zh⟩, d.f_Neg, d.f_C.1, d.f_C.2, d.Zo, (DV a s).f_Neg, (DV a s).f_C.1, (DV a s).f_C.2, (DV a s).Zo) = some (match flZ p (es.drop i) a with
   | some b => .inl (d.f_Neg, d.f_C.1, d.f_C.2, d.Zo, (DV b s).f_Neg, (DV b s).f_C.1, (DV b s).f_C.2, (DV b s).Zo, sc, es, ⟨t.Zk, t.Zh⟩)
   | none => .inr (⟨false, (0, 0), 0⟩, 3, ⟨sc, es, ⟨t.Zk, t.Zh⟩⟩)) := by
 have e1 : (⟨pack 12 false t.Zk, pack 12 0 t.Zh⟩ : Zd) = ⟨t.Zk, t.Zh⟩ := pkR ht.1 ht.2
 intro m
 induction m with
 | zero => intro i a _ _ h; omega
 | succ m ih =>
  intro i a ha hi hm
  by_cases hc : i < es.length
  ·have hx := hw _ (Zew Zc.zero hc)
   have hwr := wrapi (show -9223372036854775808 ≤ (i : Int) + 1 ∧ (i : Int) + 1 < 9223372036854775808 by omega)
   rw [Zfa Zc.zero hc]
   unfold flZ
   have it := rfl_lines hk hs ht (ls := (es.getD i Zc.zero).Zdm) (by have := hx.1; omega) hx.2 p (i : Int) sc es d (es.getD i Zc.zero).Zdi (es.getD i Zc.zero).f_Of k 0 a ha (Nat.zero_le _) (by have := hx.1; omega)
   rw [List.drop_zero] at it
   have st : Zm.l5.once k (p, (i : Int), sc, es, ⟨t.Zk, t.Zh⟩, d.f_Neg, d.f_C.1, d.f_C.2, d.Zo, (DV a s).f_Neg, (DV a s).f_C.1, (DV a s).f_C.2, (DV a s).Zo) = some (match flL ((es.getD i Zc.zero).Zdi == p) (es.getD i Zc.zero).Zdm a with
     | some b => .inl (p, ((i + 1 : Nat) : Int), sc, es, ⟨t.Zk, t.Zh⟩, d.f_Neg, d.f_C.1, d.f_C.2, d.Zo, (DV b s).f_Neg, (DV b s).f_C.1, (DV b s).f_C.2, (DV b s).Zo)
     | none => .inr (.inr (⟨false, (0, 0), 0⟩, 3, ⟨sc, es, ⟨t.Zk, t.Zh⟩⟩))) := by
    unfold Zm.l5.once
    dsimp only
    simp only [e1]
    rw [ct (show (i : Int) < (es.length : Int) by omega), inb_t (by omega) (by omega), cond_true, Int.toNat_natCast]
    generalize es.getD i Zc.zero = x at it ⊢
    refine bof it ?_
    cases flL (x.Zdi == p) x.Zdm a with
    | some b =>
     dsimp only
     rw [e1, hwr]
     rfl
    | none =>
     dsimp only
     rw [e1]
   generalize es.getD i Zc.zero = x at st ⊢
   cases hq : flL (x.Zdi == p) x.Zdm a with
   | some b =>
    rw [hq] at st
    rw [Zdv st, Option.bind_some]
    exact ih (i + 1) b (flL_Sm ha hq) (by omega) (by omega)
   | none =>
    rw [hq] at st
    rw [Zcp st]
    rfl
  ·rw [List.drop_eq_nil_of_le (by omega)]
   refine Zcp ?_
   unfold Zm.l5.once
   dsimp only
   rw [cf (by omega), e1]
   rfl
theorem RFlows_eq {k : Nat} (hk : 1002 < k) {s : Nat} (hs : s ≤ 4) {b : Zi} (h : TInv s b) (p : Int) : Zm.f k (rof b) p =
  some (if p < 0 ∨ p ≥ 12 then (⟨false, (0, 0), 0⟩, (8 : Int), rof b) else match flZ p b.f_l 0 with
   | some a => (DV (-a) s, 0, rof b)
   | none => (⟨false, (0, 0), 0⟩, 3, rof b)) := by
 have e1 : (⟨pack 12 false (rof b).f_T.Zk, pack 12 0 (rof b).f_T.Zh⟩ : Zd) = (rof b).f_T := pkR h.T.1 h.T.2
 have e2 : (⟨pack 12 false b.f_t.Zk, pack 12 0 b.f_t.Zh⟩ : Zd) = ⟨b.f_t.Zk, b.f_t.Zh⟩ := pkR h.T.1 h.T.2
 unfold Zm.f
 simp only [e1]
 have his : Zcn.f k p = some (!decide (p < 0 ∨ p ≥ 12)) := by
  unfold Zcn.f
  by_cases h1 : p ≥ 0
  ·rw [ct h1]
   congr 1
   rw [← decide_not]
   exact decide_eq_decide.2 ⟨fun h => by omega, fun h => by omega⟩
  ·rw [cf h1, decide_eq_true (.inl (by omega))]
   rfl
 refine bof his ?_
 by_cases hp : p < 0 ∨ p ≥ 12
 ·rw [decide_eq_true hp, if_pos hp]
  rfl
 ·rw [decide_eq_false hp, if_neg hp]
  rw [Bool.not_false, Bool.not_true, cond_false]
  have hZ : Zcm.f k (rof b).Zo = some (DV 0 s) := by
   show Zcm.f k b.Zbw = _
   rw [h.sc]
   rfl
  have it := rfl_ents hk hs h.T (es := b.f_l) (by have := h.len; omega) h.ls p ⟨false, (0, 0), 0⟩ b.Zbw k 0 0 Sm0 (Nat.zero_le _) (by have := h.len; omega)
  rw [List.drop_zero] at it
  refine bof hZ (bof it ?_)
  cases hz : flZ p b.f_l 0 with
  | some a =>
   dsimp only
   have hS := flZ_Sm Sm0 hz
   refine bof (v := DV (-a) s) ((RNeg_eq (k := k) (by omega) (Sm_w2 hS)).trans (Neg_DV (k := k) (by omega) hS (by omega))) ?_
   rw [e2]
   rfl
  | none =>
   dsimp only
   rw [e2]
   rfl
end Go.Proofs.YtbchcjlllddlpaaGreat.Pure
/- Keys and sums of a trial. No conditions but size. -/
namespace Go.Proofs.YtbchcjlllddlpaaGreat.Pure
set_option linter.unusedVariables false
set_option linter.unusedSimpArgs false
open Go Go.Ev Go.Lm Go.Pu Go.Dg
theorem srt_id (l : List KZ) : Zft l = isrt l := by
 unfold Zft
 rw [show l.map (fun (x : Int × Int) => (x.1, x.2)) = l from List.map_id l]
 exact List.map_id _
theorem lt_le {a b : KZ} (h : ltZ a b = true) : leII a b = true := by
 rw [ltZ_iff] at h
 unfold leII
 simp
 omega
theorem MZ.keys {s : Nat} {M : List (KZ × Zg)} {z : List (KZ × Int)} (h : MZ s M z) : Zft (M.map fun p => p.1) = z.map (·.1) := by
 rw [srt_id]
 refine perm_sorted_eq leII_anti ((isrt_perm _).trans ?_) (isrt_sorted _) ?_
 ·have := h.perm.map (·.1)
  rw [mkz_keys] at this
  exact this
 ·rw [List.pairwise_map]
  exact h.ris.imp fun h => lt_le h
theorem Keys2_eq {k s : Nat} {M : List (KZ × Zg)} {z : List (KZ × Int)} (h : MZ s M z) (hl : z.length ≤ 1000) : Zdu.f k M = some (z.map (·.1), M) := by
 unfold Zdu.f
 rw [Zfe (by rw [List.length_map, h.len]; omega), cond_true, h.keys]
 refine bof (v := z.map (·.1)) ?_ rfl
 unfold Zaz.f
 have : inS 0 ((z.map (·.1)).length : Int) (z.map (·.1)).length = true := by unfold inS; simp
 rw [decide_eq_true rfl, this, Bool.true_and, cond_true, Int.toNat_natCast, List.take_length]
theorem getZ_at : ∀ {z : List (KZ × Int)}, Ris z → ∀ p ∈ z, getZ p.1 z = some p.2
 | [], _, p, hp => (List.not_mem_nil hp).elim
 | x :: r, h, p, hp => by
  have h' := List.pairwise_cons.1 h
  unfold getZ
  rcases List.mem_cons.1 hp with rfl | hp
  ·rw [if_pos rfl]
  ·rw [if_neg (ltZ_irr (h'.1 p hp)), getZ_at h'.2 p hp]
/-- The sum of an account, from what there is. -/
def sumZ (acct : Int) (s : Nat) : List (KZ × Int) → Int × Nat → Option (Int × Nat)
 | [], q => some q
 | x :: r, q => if x.1.1 = acct then (if Sm (q.1 * 10 ^ (max q.2 s - q.2) + x.2 * 10 ^ (max q.2 s - s)) then sumZ acct s r (q.1 * 10 ^ (max q.2 s - q.2) + x.2 * 10 ^ (max q.2 s - s), max q.2 s) else none) else sumZ acct s r q
theorem getD_memZ {z : List (KZ × Int)} {i : Nat} (hi : i < z.length) : z.getD i ((0, 0), 0) ∈ z := by
 rw [List.getD_eq_getElem?_getD, List.getElem?_eq_getElem hi]
 exact List.getElem_mem hi
theorem sum_in {k : Nat} (hk : 1002 < k) {s : Nat} (hs : s ≤ 4) {M : List (KZ × Zg)} {z : List (KZ × Int)} (h : MZ s M z) (hl : z.length ≤ 1000) (acct : Int) (d : Zg) : ∀ (m i : Nat) (q : Int × Nat), Sm q.1 → q.2 ≤ 9 → i ≤ z.length → z.length - i < m →
  iter (Zch.l3.once k) m (acct, z.map (·.1), (z.length : Int), (i : Int), M, d.f_Neg, d.f_C.1, d.f_C.2, d.Zo, (DV q.1 q.2).f_Neg, (DV q.1 q.2).f_C.1, (DV q.1 q.2).f_C.2, (DV q.1 q.2).Zo) = some (match sumZ acct s (z.drop i) q with
   | some r => .inl (d.f_Neg, d.f_C.1, d.f_C.2, d.Zo, (DV r.1 r.2).f_Neg, (DV r.1 r.2).f_C.1, (DV r.1 r.2).f_C.2, (DV r.1 r.2).Zo, M)
   | none => .inr (⟨false, (0, 0), 0⟩, 3, M)) := by
 intro m
 induction m with
 | zero => intro i q _ _ _ h; omega
 | succ m ih =>
  intro i q hq hq2 hi hm
  by_cases hc : i < z.length
  ·have hx := getD_memZ hc
   have hwr := wrapi (show -9223372036854775808 ≤ (i : Int) + 1 ∧ (i : Int) + 1 < 9223372036854775808 by omega)
   have hgd := getD_map (fun p : KZ × Int => p.1) ((0, 0), 0) (0, 0) hc
   have hg := h.get (z.getD i ((0, 0), 0)).1
   rw [getZ_at h.ris _ hx] at hg
   have hsx := h.sm _ hx
   have st : Zch.l3.once k (acct, z.map (·.1), (z.length : Int), (i : Int), M, d.f_Neg, d.f_C.1, d.f_C.2, d.Zo, (DV q.1 q.2).f_Neg, (DV q.1 q.2).f_C.1, (DV q.1 q.2).f_C.2, (DV q.1 q.2).Zo) = some (if (z.getD i ((0, 0), 0)).1.1 = acct then (if Sm (q.1 * 10 ^ (max q.2 s - q.2) + (z.getD i ((0, 0), 0)).2 * 10 ^ (max q.2 s - s)) then
      .inl (acct, z.map (·.1), (z.length : Int), ((i + 1 : Nat) : Int), M, d.f_Neg, d.f_C.1, d.f_C.2, d.Zo, (DV (q.1 * 10 ^ (max q.2 s - q.2) + (z.getD i ((0, 0), 0)).2 * 10 ^ (max q.2 s - s)) (max q.2 s)).f_Neg, (DV (q.1 * 10 ^ (max q.2 s - q.2) + (z.getD i ((0, 0), 0)).2 * 10 ^ (max q.2 s - s)) (max q.2 s)).f_C.1, (DV (q.1 * 10 ^ (max q.2 s - q.2) + (z.getD i ((0, 0), 0)).2 * 10 ^ (max q.2 s - s)) (max q.2 s)).f_C.2, (DV (q.1 * 10 ^ (max q.2 s - q.2) + (z.getD i ((0, 0), 0)).2 * 10 ^ (max q.2 s - s)) (max q.2 s)).Zo)
      else .inr (.inr (⟨false, (0, 0), 0⟩, 3, M)))
     else .inl (acct, z.map (·.1), (z.length : Int), ((i + 1 : Nat) : Int), M, d.f_Neg, d.f_C.1, d.f_C.2, d.Zo, (DV q.1 q.2).f_Neg, (DV q.1 q.2).f_C.1, (DV q.1 q.2).f_C.2, (DV q.1 q.2).Zo)) := by
    unfold Zch.l3.once
    dsimp only
    rw [ct (show (i : Int) < (z.length : Int) by omega), inb_t (by omega) (by rw [List.length_map]; omega), cond_true, Int.toNat_natCast]
    simp only [hgd, hwr]
    generalize z.getD i ((0, 0), 0) = x at hg hsx ⊢
    have hg' : mget (Zef (x.1.1, x.1.2)) M = some (DV x.2 s) := hg
    by_cases e : x.1.1 = acct
    ·rw [show (x.1.1 != acct) = false by simp [e], cond_false, if_pos e, hg', Option.bind_some, Option.bind_some]
     refine bof (v := mkD (q.1 * 10 ^ (max q.2 s - q.2) + x.2 * 10 ^ (max q.2 s - s)) (max q.2 s)) (Add_DV (k := k) (by omega) hq hsx hq2 (by omega)) ?_
     by_cases hS : Sm (q.1 * 10 ^ (max q.2 s - q.2) + x.2 * 10 ^ (max q.2 s - s))
     ·have hm : mkD (q.1 * 10 ^ (max q.2 s - q.2) + x.2 * 10 ^ (max q.2 s - s)) (max q.2 s) = (DV (q.1 * 10 ^ (max q.2 s - q.2) + x.2 * 10 ^ (max q.2 s - s)) (max q.2 s), 0) := if_pos hS
      rw [hm, if_pos hS]
      rfl
     ·have hm : mkD (q.1 * 10 ^ (max q.2 s - q.2) + x.2 * 10 ^ (max q.2 s - s)) (max q.2 s) = (nil0, 3) := if_neg hS
      rw [hm, if_neg hS]
      rfl
    ·rw [show (x.1.1 != acct) = true by simp [e], cond_true, if_neg e]
     rfl
   rw [Zfa ((0, 0), 0) hc]
   unfold sumZ
   generalize z.getD i ((0, 0), 0) = x at st ⊢
   by_cases e : x.1.1 = acct
   ·rw [if_pos e] at st ⊢
    by_cases hS : Sm (q.1 * 10 ^ (max q.2 s - q.2) + x.2 * 10 ^ (max q.2 s - s))
    ·rw [if_pos hS] at st ⊢
     rw [Zdv st]
     exact ih (i + 1) (_, max q.2 s) hS (by dsimp only; omega) (by omega) (by omega)
    ·rw [if_neg hS] at st ⊢
     exact Zcp st
   ·rw [if_neg e] at st ⊢
    rw [Zdv st]
    exact ih (i + 1) q hq hq2 (by omega) (by omega)
  ·rw [List.drop_eq_nil_of_le (by omega)]
   refine Zcp ?_
   unfold Zch.l3.once
   dsimp only
   rw [cf (by omega)]
   rfl
theorem Sum_eq {k : Nat} (hk : 1002 < k) {s : Nat} (hs : s ≤ 4) {M : List (KZ × Zg)} {z : List (KZ × Int)} (h : MZ s M z) (hl : z.length ≤ 1000) (acct : Int) (to : Int) : Zch.f k M acct to = some (match sumZ acct s z (0, cl to) with
  | some r => (DV r.1 r.2, 0, M)
  | none => (⟨false, (0, 0), 0⟩, 3, M)) := by
 have it := sum_in hk hs h hl acct ⟨false, (0, 0), 0⟩ k 0 (0, cl to) Sm0 (cl_le to) (Nat.zero_le _) (by omega)
 rw [List.drop_zero] at it
 unfold Zch.f
 refine bof (Of_DV k (n := 0) (by omega) to) (bof (Keys2_eq h hl) ?_)
 dsimp only
 rw [List.length_map]
 refine bof it ?_
 cases sumZ acct s z (0, cl to) <;> rfl
theorem rsum_in {k : Nat} (hk : 1002 < k) {s : Nat} (hs : s ≤ 4) {z : List (KZ × Int)} (hz : SmL z) (hl : z.length ≤ 1000) (acct : Int) (d : Zg) : ∀ (m i : Nat) (q : Int × Nat), Sm q.1 → q.2 ≤ 9 → i ≤ z.length → z.length - i < m →
  iter (Zac.l3.once k) m (z.map (ckz s), acct, (i : Int), d.f_Neg, d.f_C.1, d.f_C.2, d.Zo, (DV q.1 q.2).f_Neg, (DV q.1 q.2).f_C.1, (DV q.1 q.2).f_C.2, (DV q.1 q.2).Zo) = some (match sumZ acct s (z.drop i) q with
   | some r => .inl (d.f_Neg, d.f_C.1, d.f_C.2, d.Zo, (DV r.1 r.2).f_Neg, (DV r.1 r.2).f_C.1, (DV r.1 r.2).f_C.2, (DV r.1 r.2).Zo)
   | none => .inr (⟨false, (0, 0), 0⟩, 3)) := by
 intro m
 induction m with
 | zero => intro i q _ _ _ h; omega
 | succ m ih =>
  intro i q hq hq2 hi hm
  by_cases hc : i < z.length
  ·have hx := getD_memZ hc
   have hwr := wrapi (show -9223372036854775808 ≤ (i : Int) + 1 ∧ (i : Int) + 1 < 9223372036854775808 by omega)
   have hgd := getD_map (ckz s) ((0, 0), 0) Zf.zero hc
   have hsx := hz _ hx
   have st : Zac.l3.once k (z.map (ckz s), acct, (i : Int), d.f_Neg, d.f_C.1, d.f_C.2, d.Zo, (DV q.1 q.2).f_Neg, (DV q.1 q.2).f_C.1, (DV q.1 q.2).f_C.2, (DV q.1 q.2).Zo) = some (if (z.getD i ((0, 0), 0)).1.1 = acct then (if Sm (q.1 * 10 ^ (max q.2 s - q.2) + (z.getD i ((0, 0), 0)).2 * 10 ^ (max q.2 s - s)) then
      .inl (z.map (ckz s), acct, ((i + 1 : Nat) : Int), d.f_Neg, d.f_C.1, d.f_C.2, d.Zo, (DV (q.1 * 10 ^ (max q.2 s - q.2) + (z.getD i ((0, 0), 0)).2 * 10 ^ (max q.2 s - s)) (max q.2 s)).f_Neg, (DV (q.1 * 10 ^ (max q.2 s - q.2) + (z.getD i ((0, 0), 0)).2 * 10 ^ (max q.2 s - s)) (max q.2 s)).f_C.1, (DV (q.1 * 10 ^ (max q.2 s - q.2) + (z.getD i ((0, 0), 0)).2 * 10 ^ (max q.2 s - s)) (max q.2 s)).f_C.2, (DV (q.1 * 10 ^ (max q.2 s - q.2) + (z.getD i ((0, 0), 0)).2 * 10 ^ (max q.2 s - s)) (max q.2 s)).Zo)
      else .inr (.inr (⟨false, (0, 0), 0⟩, 3)))
     else .inl (z.map (ckz s), acct, ((i + 1 : Nat) : Int), d.f_Neg, d.f_C.1, d.f_C.2, d.Zo, (DV q.1 q.2).f_Neg, (DV q.1 q.2).f_C.1, (DV q.1 q.2).f_C.2, (DV q.1 q.2).Zo)) := by
    unfold Zac.l3.once
    dsimp only
    rw [List.length_map, ct (show (i : Int) < (z.length : Int) by omega), inb_t (by omega) (by omega), cond_true, cond_true, Int.toNat_natCast]
    simp only [hgd, hwr]
    generalize z.getD i ((0, 0), 0) = x at hsx ⊢
    by_cases e : x.1.1 = acct
    ·rw [show ((ckz s x).f_K.1 == acct) = true by show (x.1.1 == acct) = true; simpa using e, cond_true, if_pos e]
     have ha := RAdd_DV (k := k) (by omega) hq hsx hq2 (by omega : s ≤ 9)
     have ha' : Zcc.f k (⟨(DV q.1 q.2).f_Neg, ((DV q.1 q.2).f_C.1, (DV q.1 q.2).f_C.2), (DV q.1 q.2).Zo⟩ : Zg) (⟨(ckz s x).f_D.f_Neg, ((ckz s x).f_D.f_C.1, (ckz s x).f_D.f_C.2), (ckz s x).f_D.Zo⟩ : Zg) = _ := ha
     rw [ha', Option.bind_some]
     by_cases hS : Sm (q.1 * 10 ^ (max q.2 s - q.2) + x.2 * 10 ^ (max q.2 s - s))
     ·have hm : mkD (q.1 * 10 ^ (max q.2 s - q.2) + x.2 * 10 ^ (max q.2 s - s)) (max q.2 s) = (DV (q.1 * 10 ^ (max q.2 s - q.2) + x.2 * 10 ^ (max q.2 s - s)) (max q.2 s), 0) := if_pos hS
      rw [hm, if_pos hS]
      dsimp only
      rw [show ((0 : Int) != 0) = false from rfl, cond_false, Option.bind_some]
      dsimp only
      rw [hwr]
      rfl
     ·have hm : mkD (q.1 * 10 ^ (max q.2 s - q.2) + x.2 * 10 ^ (max q.2 s - s)) (max q.2 s) = (nil0, 3) := if_neg hS
      rw [hm, if_neg hS]
      rfl
    ·rw [show ((ckz s x).f_K.1 == acct) = false by show (x.1.1 == acct) = false; simpa using e, cond_false, if_neg e, Option.bind_some]
     dsimp only
     rw [hwr]
     rfl
   rw [Zfa ((0, 0), 0) hc]
   unfold sumZ
   generalize z.getD i ((0, 0), 0) = x at st ⊢
   by_cases e : x.1.1 = acct
   ·rw [if_pos e] at st ⊢
    by_cases hS : Sm (q.1 * 10 ^ (max q.2 s - q.2) + x.2 * 10 ^ (max q.2 s - s))
    ·rw [if_pos hS] at st ⊢
     rw [Zdv st]
     exact ih (i + 1) (_, max q.2 s) hS (by dsimp only; omega) (by omega) (by omega)
    ·rw [if_neg hS] at st ⊢
     exact Zcp st
   ·rw [if_neg e] at st ⊢
    rw [Zdv st]
    exact ih (i + 1) q hq hq2 (by omega) (by omega)
  ·rw [List.drop_eq_nil_of_le (by omega)]
   refine Zcp ?_
   unfold Zac.l3.once
   dsimp only
   rw [List.length_map, cf (by omega)]
   rfl
theorem RSum_eq {k : Nat} (hk : 1002 < k) {s : Nat} (hs : s ≤ 4) {z : List (KZ × Int)} (hz : SmL z) (hl : z.length ≤ 1000) (acct : Int) (to : Int) : Zac.f k (z.map (ckz s)) acct to = some (match sumZ acct s z (0, cl to) with
  | some r => (DV r.1 r.2, 0)
  | none => (⟨false, (0, 0), 0⟩, 3)) := by
 have it := rsum_in hk hs hz hl acct ⟨false, (0, 0), 0⟩ k 0 (0, cl to) Sm0 (cl_le to) (Nat.zero_le _) (by omega)
 rw [List.drop_zero] at it
 unfold Zac.f
 refine bof (v := ((cl to : Nat) : Int)) ?_ (bof (v := DV 0 (cl to)) rfl (bof it ?_))
 ·unfold Zca.f cl
  refine congrArg some ?_
  split <;> split <;> omega
 ·cases sumZ acct s z (0, cl to) <;> rfl
theorem keqD_refl (d : Zg) : Zfp d d = true := by
 unfold Zfp
 simp
theorem mapEq_refl {s : Nat} {M : List (KZ × Zg)} {z : List (KZ × Int)} (h : MZ s M z) : mapEq Zef Zfp M M = true := by
 unfold mapEq
 rw [beq_self_eq_true, Bool.true_and, List.all_eq_true]
 intro p hp
 rw [mget_nd h.nd (show (p.1, p.2) ∈ M from hp)]
 exact keqD_refl p.2
theorem same15_eq {k : Nat} (hk : 1002 < k) {s : Nat} {M : List (KZ × Zg)} {z : List (KZ × Int)} (h : MZ s M z) (hl : z.length ≤ 1000) : Zax.f k M (z.map (ckz s)) = some (true, M) := by
 unfold Zax.f
 rw [h.len, List.length_map, show ((z.length : Int) != (z.length : Int)) = false by simp, cond_false]
 have it := iter_seq (once := Zax.l4.once k) (fun i => (z.map (ckz s), (z.length : Int), (i : Int), M)) z.length (by
  intro i hi
  have hx := getD_memZ hi
  have hwr := wrapi (show -9223372036854775808 ≤ (i : Int) + 1 ∧ (i : Int) + 1 < 9223372036854775808 by omega)
  have hgd := getD_map (ckz s) ((0, 0), 0) Zf.zero hi
  have hg := h.get (z.getD i ((0, 0), 0)).1
  rw [getZ_at h.ris _ hx] at hg
  unfold Zax.l4.once
  dsimp only
  rw [ct (show (i : Int) < (z.length : Int) by omega), inb_t (by omega) (by rw [List.length_map]; omega), cond_true, Int.toNat_natCast]
  simp only [hgd, hwr]
  generalize z.getD i ((0, 0), 0) = x at hg ⊢
  have hg' : mget (Zef ((ckz s x).f_K.1, (ckz s x).f_K.2)) M = some (DV x.2 s) := hg
  rw [hg', Option.bind_some, Option.bind_some]
  refine bof (v := (z.map (ckz s), (z.length : Int), (i : Int), false, M)) ?_ (by
   dsimp only
   rw [cond_false, hwr]
   rfl)
  rw [Option.isSome_some, Bool.not_true, cond_false]
  have hk2 := keqD_refl (DV x.2 s)
  unfold Zfp at hk2
  show some (_, _, _, !_, _) = _
  exact congrArg (fun b => some (z.map (ckz s), (z.length : Int), (i : Int), b, M)) (congrArg (fun b => !b) hk2)) (.inl M) (by
  unfold Zax.l4.once
  dsimp only
  rw [cf (by omega)]) k 0 (Nat.zero_le _) (by omega)
 refine bof it rfl
end Go.Proofs.YtbchcjlllddlpaaGreat.Pure
/- TrialTells: of any book, at any period, the trial, the flows, the sums, are as the document says. No conditions but size. -/
namespace Go.Proofs.YtbchcjlllddlpaaGreat.Pure
set_option linter.unusedVariables false
set_option linter.unusedSimpArgs false
open Go Go.Ev Go.Lm Go.Pu Go.Dg
theorem known15 : Zda.f 2000 = some true := by decide +kernel
theorem keys_walk {k : Nat} (hk : 1002 < k) {s : Nat} {M : List (KZ × Zg)} {z : List (KZ × Int)} (hl : z.length ≤ 1000) : iter (Zx.l19.once k) k (z.map (ckz s), z.map (·.1), (z.length : Int), 0, M) = some (.inl M) :=
 iter_seq (once := Zx.l19.once k) (fun i => (z.map (ckz s), z.map (·.1), (z.length : Int), (i : Int), M)) z.length (by
  intro i hi
  have hwr := wrapi (show -9223372036854775808 ≤ (i : Int) + 1 ∧ (i : Int) + 1 < 9223372036854775808 by omega)
  have hg1 := getD_map (ckz s) ((0, 0), 0) Zf.zero hi
  have hg2 := getD_map (fun p : KZ × Int => p.1) ((0, 0), 0) (0, 0) hi
  unfold Zx.l19.once
  dsimp only
  rw [ct (show (i : Int) < (z.length : Int) by omega), inb_t (by omega) (by rw [List.length_map]; omega), cond_true, inb_t (by omega) (by rw [List.length_map]; omega), cond_true, Int.toNat_natCast]
  simp only [hg1, hg2, hwr]
  generalize z.getD i ((0, 0), 0) = x
  show cond (!((x.1.1 == x.1.1) && (x.1.2 == x.1.2))) _ _ = _
  rw [beq_self_eq_true, beq_self_eq_true]
  rfl) (.inl M) (by
  unfold Zx.l19.once
  dsimp only
  rw [cf (by omega)]) k 0 (Nat.zero_le _) (by omega)
/-- How what is told of a book at a period goes. -/
theorem tells_tail {s : Nat} (hs : s ≤ 4) {M : List (KZ × Zg)} {z : List (KZ × Int)} (h : MZ s M z) (hl : z.length ≤ 1000) (acct to : Int) :
  ((Zch.f 2000 M acct to).bind fun t77 => ((Zac.f 2000 (z.map (ckz s)) acct to).bind fun t78 => ((Zdu.f 2000 t77.2.2).bind fun t79 => (((cond (!((t77.1.f_Neg == t78.1.f_Neg) && ((t77.1.f_C.1 == t78.1.f_C.1) && ((t77.1.f_C.2 == t78.1.f_C.2) && (t77.1.Zo == t78.1.Zo))))) (some (z.map (ckz s), t79.1, true, t79.2)) (cond (t77.2.1 != t78.2) (some (z.map (ckz s), t79.1, true, t79.2)) (some (z.map (ckz s), t79.1, (List.length t79.1 : Int) != (List.length (z.map (ckz s)) : Int), t79.2)))) : Option (List Zf × List (Int × Int) × Bool × List ((Int × Int) × Zg))).bind fun y84 => (cond (y84.2.2.1) (some false) ((iter (Zx.l19.once 2000) 2000 (y84.1, y84.2.1, (List.length y84.2.1 : Int), 0, y84.2.2.2)).bind fun | .inl y92 => (some (mapEq Zef Zfp y92 y92)) | .inr y93 => (some y93))))))) = some true := by
 have hk : 1002 < 2000 := by decide
 have e1 := Sum_eq hk hs h hl acct to
 have e2 := RSum_eq hk hs h.sm hl acct to
 obtain ⟨d, e, h1, h2⟩ : ∃ (d : Zg) (e : Int), Zch.f 2000 M acct to = some (d, e, M) ∧ Zac.f 2000 (z.map (ckz s)) acct to = some (d, e) := by
  cases hq : sumZ acct s z (0, cl to) with
  | some r =>
   rw [hq] at e1 e2
   exact ⟨_, _, e1, e2⟩
  | none =>
   rw [hq] at e1 e2
   exact ⟨_, _, e1, e2⟩
 refine bof h1 (bof h2 (bof (Keys2_eq h hl) ?_))
 dsimp only
 rw [beq_self_eq_true, beq_self_eq_true, beq_self_eq_true, beq_self_eq_true, bne_self_eq_false]
 rw [show (!(true && (true && (true && true)))) = false from rfl, cond_false, cond_false, Option.bind_some]
 dsimp only
 rw [List.length_map, List.length_map, bne_self_eq_false, cond_false]
 refine bof (keys_walk hk hl) ?_
 dsimp only
 rw [mapEq_refl h]
theorem TrialTells (l : List Zag) (w0 : (l.length ≤ 9223372036854775807 ∧ l.length * 80 ≤ 140737488351232 ∧ ∀ z ∈ l, ((Lit.int .i64 z.Zfq).wf = true) ∧ ((Lit.int .i64 z.f_Who).wf = true) ∧ ((Lit.int .i64 z.f_A).wf = true) ∧ ((Lit.int .i64 z.f_B).wf = true) ∧ ((Lit.int .i64 z.f_C).wf = true) ∧ ((Lit.int .i64 z.f_N).wf = true) ∧ ((Lit.int .i64 z.f_Bend).wf = true) ∧ ((z.f_L.length ≤ 9223372036854775807 ∧ z.f_L.length * 8 ≤ 140737488351232 ∧ ∀ z1 ∈ z.f_L, (Lit.int .i64 z1).wf = true)) ∧ True))
  (a1 : Int) (w1 : (Lit.int .i64 a1).wf = true) (a2 : Int) (w2 : (Lit.int .i64 a2).wf = true) (a3 : Int) (w3 : (Lit.int .i64 a3).wf = true) (a4 : Int) (w4 : (Lit.int .i64 a4).wf = true) :
  ∃ k, Zx.f k l a1 a2 a3 a4 = some true := by
 have hw : ∀ z ∈ l, ActL z := fun z hz => by
  obtain ⟨_, _, _, _, _, _, _, g8, _⟩ := w0.2.2 z hz
  exact g8.1
 refine ⟨2000, ?_⟩
 have hk : 1002 < 2000 := by decide
 have bs := pick_bd a1 (m := 5) (by decide)
 have bp := pick_bd a2 (m := 15) (by decide)
 unfold Zx.f
 refine bof (Zey 2000 a1 (by decide) (by decide)) ?_
 obtain ⟨s, hsc⟩ : ∃ s : Nat, pick a1 5 = (s : Int) := ⟨(pick a1 5).toNat, by omega⟩
 rw [hsc] at bs ⊢
 have hs : s ≤ 4 := by omega
 have hB := bkN_inv hk hs hw
 have hE := bkN_E 2000 s l
 refine bof (books_eq hk hs hw) (bof (Zey 2000 a2 (by decide) (by decide)) ?_)
 dsimp only
 generalize bkN 2000 s l = b at hB hE ⊢
 have e1 := pk hB.T
 have e2 : (⟨pack 12 false (rof b).f_T.Zk, pack 12 0 (rof b).f_T.Zh⟩ : Zd) = (rof b).f_T := pkR hB.T.1 hB.T.2
 simp only [e1, e2]
 rw [wrapi (show -9223372036854775808 ≤ pick a2 15 - 1 ∧ pick a2 15 - 1 < 9223372036854775808 by omega)]
 obtain ⟨p, hp⟩ : ∃ p : Int, (cond (decide (pick a2 15 - 1 > 3)) ((Zas.f 2000 (pick a2 15 - 1) 4).bind fun t4 => (some (t4, a3, a4, b.Zbw, b.f_l, b.f_t, (rof b).Zo, (rof b).f_L, (rof b).f_T))) (some (pick a2 15 - 1, a3, a4, b.Zbw, b.f_l, b.f_t, (rof b).Zo, (rof b).f_L, (rof b).f_T)) : Option (Int × Int × Int × Int × List Zc × Ze × Int × List Zc × Zd)) = some (p, a3, a4, b.Zbw, b.f_l, b.f_t, (rof b).Zo, (rof b).f_L, (rof b).f_T) := by
  by_cases h3 : pick a2 15 - 1 > 3
  ·exact ⟨pick (pick a2 15 - 1) 4, by rw [ct h3]; exact bof (Zey 2000 _ (by decide) (by decide)) rfl⟩
  ·exact ⟨_, by rw [cf h3]⟩
 refine bof hp ?_
 dsimp only
 simp only [e1, e2]
 obtain ⟨M, e, hT, hT2⟩ := Trial_eq hk hs hB p
 have hT' : Zbj.f 2000 (⟨b.Zbw, b.f_l, b.f_t⟩ : Zi) p = some (M, e, b) := hT
 have hR := RTrial_eq hk hs hB hE p
 have hR' : Zl.f 2000 (⟨(rof b).Zo, (rof b).f_L, (rof b).f_T⟩ : Zr) p = _ := hR
 have hF := Flows_eq hk hs hB p
 have hF' : Zai.f 2000 (⟨b.Zbw, b.f_l, b.f_t⟩ : Zi) p = _ := hF
 have hG := RFlows_eq hk hs hB p
 have hG' : Zm.f 2000 (⟨(rof b).Zo, (rof b).f_L, (rof b).f_T⟩ : Zr) p = _ := hG
 -- one trial, whatever it is
 obtain ⟨z, hz, hzl, hR2⟩ : ∃ z, MZ s M z ∧ z.length ≤ 1000 ∧ Zl.f 2000 (⟨(rof b).Zo, (rof b).f_L, (rof b).f_T⟩ : Zr) p = some (z.map (ckz s), e, rof b) := by
  by_cases hp0 : p < 0 ∨ p ≥ 12
  ·rw [if_pos hp0] at hT2 hR'
   obtain ⟨rfl, rfl⟩ := hT2
   exact ⟨[], MZ.nil s, Nat.zero_le _, hR'⟩
  ·rw [if_neg hp0] at hT2 hR'
   cases hq : entZ p b.f_t b.f_l [] with
   | some y =>
    rw [hq] at hT2 hR'
    obtain ⟨rfl, hM⟩ := hT2
    obtain ⟨_, _, g3⟩ := entZ_len hB.ls List.Pairwise.nil (fun p hp => (List.not_mem_nil hp).elim) hq
    have hlen := hB.len
    have hso : (someZ y).length ≤ y.length := List.length_filter_le _ _
    exact ⟨someZ y, hM, by simp at g3; omega, hR'⟩
   | none =>
    rw [hq] at hT2 hR'
    obtain ⟨rfl, rfl⟩ := hT2
    exact ⟨[], MZ.nil s, Nat.zero_le _, hR'⟩
 obtain ⟨D, f, hF2, hG2⟩ : ∃ D f, Zai.f 2000 (⟨b.Zbw, b.f_l, b.f_t⟩ : Zi) p = some (D, f, b) ∧ Zm.f 2000 (⟨(rof b).Zo, (rof b).f_L, (rof b).f_T⟩ : Zr) p = some (D, f, rof b) := by
  by_cases hp0 : p < 0 ∨ p ≥ 12
  ·rw [if_pos hp0] at hF' hG'
   exact ⟨_, _, hF', hG'⟩
  ·rw [if_neg hp0] at hF' hG'
   cases hq : flZ p b.f_l 0 with
   | some a => rw [hq] at hF' hG'; exact ⟨_, _, hF', hG'⟩
   | none => rw [hq] at hF' hG'; exact ⟨_, _, hF', hG'⟩
 refine bof hT' (bof hR2 ?_)
 dsimp only
 simp only [e1, e2]
 refine bof hF2 (bof hG2 ?_)
 dsimp only
 refine bof (v := (a3, a4, z.map (ckz s), false, M)) ?_ ?_
 ·refine bof known15 ?_
  rw [Bool.not_true, cond_false, bne_self_eq_false, cond_false, bne_self_eq_false, cond_false]
  rw [beq_self_eq_true, beq_self_eq_true, beq_self_eq_true, beq_self_eq_true]
  rw [show (!(true && (true && (true && true)))) = false from rfl, cond_false]
  exact bof (same15_eq hk hz hzl) rfl
 ·dsimp only
  rw [cond_false]
  exact bof (Zey 2000 a3 (by decide) (by decide)) (bof (Zey 2000 a4 (by decide) (by decide)) (tells_tail hs hz hzl _ _))
end Go.Proofs.YtbchcjlllddlpaaGreat.Pure
