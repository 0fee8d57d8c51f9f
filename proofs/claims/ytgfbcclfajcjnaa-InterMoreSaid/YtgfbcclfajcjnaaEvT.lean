import Derived.Test.YtgfbcclfajcjnaaEvI
universe u v
namespace Go.Ev
set_option linter.unusedVariables false
set_option linter.unusedSimpArgs false
open Go.RowKit (Below)
variable {U : Univ} {ρ : Type}
theorem SR.congr {D : Codec U} {nt : Nat} {w0 : Cx} {N0 : Nat → Nat → Prop} {R : Rl} {s s' : St U} {a : Act} (h : SR D nt w0 N0 R s a) (hg : ∀ n, s'.get n = s.get n) (ho : ∀ n, lk s'.o n = lk s.o n) :
    SR D nt w0 N0 R s' a := by
  have e : lk s'.o = lk s.o := funext ho
  exact { objs := by rw [e]; exact h.objs, none := by rw [e]; exact h.none, own := by rw [e]; exact h.own, inj := by rw [e]; exact h.inj, keep := h.keep, le0 := h.le0, nn := h.nn, nlt := h.nlt, ri := by rw [e]; exact h.ri,
          size := h.size, defers := h.defers, ntle := h.ntle, tm := fun n => by rw [hg n]; exact h.tm n }
theorem op_congr {s s' : St U} (hg : ∀ n, s'.get n = s.get n) (x : Operand) : s'.op x = s.op x := by
  cases x <;> simp [St.op, hg]
theorem SR.literal {D : Codec U} {nt : Nat} {w0 : Cx} {N0 : Nat → Nat → Prop} {R : Rl} {s : St U} {a : Act} (h : SR D nt w0 N0 R s a) {g : Nat} {v : AV U} (hv : s.get g = v) : SR D nt w0 N0 R (s.set g v) a :=
  h.congr (fun n => by
    rw [get_set]
    split
    · rename_i e; rw [← e, hv]
    · rfl) (fun _ => rfl)
theorem op_get {s : St U} {g : Nat} {v : Value} (h : s.op (.tmp g) = .flat v) : s.get g = .flat v := by
  have h : (bif Nat.blt g gb then s.get g else .undef) = .flat v := h
  cases hb : Nat.blt g gb with
  | true => rw [hb] at h; exact h
  | false => rw [hb] at h; cases h
theorem yielded_of {D : Codec U} {nt : Nat} {w0 : Cx} {N0 : Nat → Nat → Prop} {R : Rl} {s : St U} {a : Act} (h : SR D nt w0 N0 R s a) {all : Array Oper} {j g : Nat} {b : Bool}
    (hj : (all[j]?).bind (·.dst) = some g) (hg : s.op (.tmp g) = .flat (.bool b)) : yielded all a.tmps j = some b := by
  have : VR D R (s.op (.tmp g)) (a.tmps.getD g undef) := h.op (.tmp g)
  rw [hg] at this
  have hv := this.flat_inv
  unfold yielded
  rw [hj]
  simp only [Option.bind_some]
  rw [Array.getD_eq_getD_getElem?] at hv
  cases ht : a.tmps[g]? with
  | none => rw [ht] at hv; cases hv
  | some u => rw [ht] at hv; simp only [Option.getD_some] at hv; subst hv; rfl
theorem yielded_no {D : Codec U} {nt : Nat} {w0 : Cx} {N0 : Nat → Nat → Prop} {R : Rl} {s : St U} {a : Act} (h : SR D nt w0 N0 R s a) {all : Array Oper} {j g : Nat} {ys : Array Value}
    (hj : (all[j]?).bind (·.dst) = some g) (hg : s.op (.tmp g) = .flat (.tuple ys)) : yielded all a.tmps j = none := by
  have : VR D R (s.op (.tmp g)) (a.tmps.getD g undef) := h.op (.tmp g)
  rw [hg] at this
  have hv := this.flat_inv
  unfold yielded
  rw [hj]
  simp only [Option.bind_some]
  rw [Array.getD_eq_getD_getElem?] at hv
  cases ht : a.tmps[g]? with
  | none => rfl
  | some u => rw [ht] at hv; simp only [Option.getD_some] at hv; subst hv; rfl
section
variable {E : Env U} {nt : Nat} {w0 : Cx} {N0 : Nat → Nat → Prop}
def DstOk (nt : Nat) (all : Array Oper) : Prop := ∀ (i : Nat) (o : Oper) (d : Nat), all[i]? = some o → o.dst = some d → d < nt
theorem regC_soundJ (he : EnvOk E) {ck : Nat → Oper → St U → Bool} {all : Array Oper} (hd : DstOk nt all) {K : St U → Option ρ} {r : ρ} {Q : Exit → Act → World → Prop} (js : List Nat) :
    ∀ (l : List Oper) (i : Nat) (s : St U) (a : Act) (R : Rl), (∀ (k : Nat) (o : Oper), l[k]? = some o → all[i + k]? = some o) → SR E.D nt w0 N0 R s a → regC E ck all i l s K = some r →
      (∀ s' a' R', R.le R' → SR E.D nt w0 N0 R' s' a' → K s' = some r → wpOps E.P all Q js a' R'.w) → wpOps E.P all Q (List.range' i l.length ++ js) a R.w
  | [], i, s, a, R, _, h, hk, hq => by
    simp only [regC] at hk
    exact hq s a R (.refl R) h hk
  | o :: l, i, s, a, R, hl, h, hk, hq => by
    have ho := hl 0 o rfl
    simp only [Nat.add_zero] at ho
    have hl' : ∀ (k : Nat) (o : Oper), l[k]? = some o → all[i + 1 + k]? = some o := fun k o hk => by
      have := hl (k + 1) o (by simpa using hk)
      rwa [show i + 1 + k = i + (k + 1) by omega]
    simp only [List.length_cons, List.range'_succ, List.cons_append, wpOps, ho]
    have does : ∀ (s : St U), SR E.D nt w0 N0 R s a → Region.wanted o (yielded all a.tmps) = true → opC E o s (fun s' => regC E ck all (i + 1) l s' K) = some r →
        (if Region.wanted o (yielded all a.tmps) = true then o.wp E.P a R.w (wpOps E.P all Q (List.range' (i + 1) l.length ++ js)) Q ∨ (o.asks E.P a R.w ∧ LetsOut Q)
          else wpOps E.P all Q (List.range' (i + 1) l.length ++ js) (a.put o.dst undef) R.w) := by
      intro s h hw hk
      rw [if_pos hw]
      refine .inl ?_
      obtain ⟨v, us, hk', hgood⟩ := opC_told he h hk
      refine hgood _ Q (fun y R' hle hv hs => ?_)
      exact regC_soundJ he hd js l (i + 1) _ _ R' hl' (hs.put (fun d hd' => hd i o d ho hd') hv) hk' (fun s' a' R'' hle' => hq s' a' R'' (hle.trans hle'))
    have skips : ∀ (s : St U), SR E.D nt w0 N0 R s a → Region.wanted o (yielded all a.tmps) = false → regC E ck all (i + 1) l (s.put o.dst (.flat undef)) K = some r →
        (if Region.wanted o (yielded all a.tmps) = true then o.wp E.P a R.w (wpOps E.P all Q (List.range' (i + 1) l.length ++ js)) Q ∨ (o.asks E.P a R.w ∧ LetsOut Q)
          else wpOps E.P all Q (List.range' (i + 1) l.length ++ js) (a.put o.dst undef) R.w) := by
      intro s h hw hk
      rw [if_neg (by simp [hw])]
      exact regC_soundJ he hd js l (i + 1) _ _ R hl' (h.put (fun d hd' => hd i o d ho hd') (.flat _)) hk hq
    simp only [regC] at hk
    split at hk
    · rename_i hg
      obtain ⟨_, hk⟩ := cond_none hk
      exact does s h (by simp [Region.wanted, hg]) hk
    · rename_i j want hg
      obtain ⟨g, hj, hk⟩ := kont_some hk
      split at hk
      · rename_i b hb
        have hy := yielded_of h hj hb
        rcases cond_some hk with ⟨rfl, hk⟩ | ⟨rfl, hk⟩
        · split at hk
          · obtain ⟨_, hk⟩ := cond_none hk
            exact does _ (h.literal (op_get hb)) (by simp [Region.wanted, hg, hy]) hk
          · exact skips _ (h.literal (op_get hb)) (by simp [Region.wanted, hg, hy]) hk
        · split at hk
          · exact skips _ (h.literal (op_get hb)) (by simp [Region.wanted, hg, hy]) hk
          · obtain ⟨_, hk⟩ := cond_none hk
            exact does _ (h.literal (op_get hb)) (by simp [Region.wanted, hg, hy]) hk
      · rename_i ys hb
        have hy := yielded_no h hj hb
        exact skips _ h (by simp [Region.wanted, hg, hy]) hk
      · cases hk
theorem regC_sound (he : EnvOk E) {ck : Nat → Oper → St U → Bool} {all : Array Oper} (hd : DstOk nt all) {K : St U → Option ρ} {r : ρ} {Q : Exit → Act → World → Prop} (l : List Oper) (i : Nat) (s : St U) (a : Act) (R : Rl) (hl : ∀ (k : Nat) (o : Oper), l[k]? = some o → all[i + k]? = some o)
    (h : SR E.D nt w0 N0 R s a) (hk : regC E ck all i l s K = some r) (hq : ∀ s' a' R', R.le R' → SR E.D nt w0 N0 R' s' a' → K s' = some r → Q .normal a' R'.w) : wpOps E.P all Q (List.range' i l.length) a R.w := by
  have := regC_soundJ he hd [] l i s a R hl h hk hq
  rwa [List.append_nil] at this
end
theorem appendC_param {E : Env U} {ob : Nat → Option (Obj U)} {ts : Array TypeId} {args : List (AV U)} {dst : Option Tmp} {K : AV U → Eff U → Option ρ} {r : ρ} (h : appendC E ob ts args dst K = some r) :
    ∃ v u, appendC E ob ts args dst (fun v u => some (v, u)) = some (v, u) ∧ K v u = some r ∧
      ∃ d, dst = some d ∧ ((∃ n, u = [(d, n)]) ∨ ∃ x y id n, args = [x, y] ∧ tipId x = some id ∧ u = [(id, .dead), (d, n)]) := by
  unfold appendC at h ⊢
  split at h
  case h_2 => cases h
  rename_i t t' x y d e0 e1
  split at h
  case h_2 => cases h
  rename_i e c sz by_ e' e2 e3
  split at h
  case h_2 => cases h
  rename_i c2 l2 e4
  split at h
  · cases h
  rename_i l2' e5
  split at h
  · cases h
  rename_i e6
  split at h
  · rename_i id c1 l1
    split at h
    · cases h
    rename_i l1' e7
    split at h
    case h_2 => cases h
    rename_i sz' e8
    obtain ⟨e9, h⟩ := cond_none h
    obtain ⟨e10, h⟩ := cond_none h
    simp only [e0, e1, e2, e3, e4, e5, e6, e7, e8, e9, e10, cond_true]
    exact ⟨_, _, rfl, h, d, rfl, .inr ⟨_, _, _, _, rfl, rfl, rfl⟩⟩
  · rename_i id
    split at h
    case h_2 => cases h
    rename_i c1 l1 e8
    split at h
    · cases h
    rename_i l1' e7
    obtain ⟨e10, h⟩ := cond_none h
    simp only [e0, e1, e2, e3, e4, e5, e6, e7, e8, e10, cond_true]
    exact ⟨_, _, rfl, h, d, rfl, .inr ⟨_, _, _, _, rfl, rfl, rfl⟩⟩
  · obtain ⟨e10, h⟩ := cond_none h
    simp only [e0, e1, e2, e3, e4, e5, e6, e10, cond_true]
    exact ⟨_, _, rfl, h, d, rfl, .inl ⟨_, rfl⟩⟩
  · cases h
theorem moveC_param {E : Env U} {ob : Nat → Option (Obj U)} {t : TypeId} {d : Option Tmp} {x : AV U} {K : AV U → Eff U → Option ρ} {r : ρ} (h : moveC E ob t d x K = some r) :
    ∃ v u, moveC E ob t d x (fun v u => some (v, u)) = some (v, u) ∧ K v u = some r := by
  unfold moveC at h ⊢
  split at h
  · split at h
    · rename_i e1
      split at h
      · rename_i e2
        simp only [e1, e2]
        rcases cond_some h with ⟨e3, h⟩ | ⟨e3, h⟩
        · rw [e3]; exact ⟨_, _, rfl, h⟩
        · rw [e3]; exact ⟨_, _, rfl, h⟩
      · rename_i e2
        simp only [e1, e2]
        rcases cond_some h with ⟨e3, h⟩ | ⟨e3, h⟩
        · rw [e3]; exact ⟨_, _, rfl, h⟩
        · rw [e3]; exact ⟨_, _, rfl, h⟩
    · rename_i e1
      refine ⟨_, _, ?_, h⟩
      simp only
  · exact ⟨_, _, by simp only, h⟩
theorem condB0 {α : Type u} {β : Type v} {b : Bool} {x y : Option α} {f : α → Option β} : (bif b then x else y).bind f = bif b then x.bind f else y.bind f := by cases b <;> rfl
theorem lookK_bind {E : Env U} {t : TypeId} {x ix : AV U} {ok : Bool} {K : AV U → Option ρ} : lookK E t x ix ok K = (lookK E t x ix ok some).bind K := by
  unfold lookK
  split
  · split
    · split
      · rw [condB0]; rfl
      · rfl
    · rfl
  · rfl
theorem opK_param {E : Env U} {o : Oper} {ev : Operand → AV U} {ob : Nat → Option (Obj U)} {K : AV U → Eff U → Option ρ} {r : ρ} (h : opK E o ev ob K = some r) :
    ∃ v u, opK E o ev ob (fun v u => some (v, u)) = some (v, u) ∧ K v u = some r := by
  have kk : ∀ {α : Type} {x : Option α} {f : α → AV U × Eff U} {K2 : α → Option ρ}, (∀ z, K2 z = K (f z).1 (f z).2) → kont x K2 = some r → ∃ v u, kont x (fun z => some (f z)) = some (v, u) ∧ K v u = some r := by
    intro α x f K2 hf hk
    obtain ⟨z, rfl, hk2⟩ := kont_some hk
    exact ⟨_, _, rfl, (hf z).symm.trans hk2⟩
  have kv : ∀ {x : Option (AV U)}, kont x (fun v => K v []) = some r → ∃ v u, kont x (fun z => some ((z, []) : AV U × Eff U)) = some (v, u) ∧ K v u = some r :=
    fun hk => kk (f := fun z => (z, [])) (fun _ => rfl) hk
  cases ho : o.op with
  | move x => simp only [opK, ho] at h ⊢; exact moveC_param h
  | assign x => simp only [opK, ho] at h ⊢; exact moveC_param h
  | pick c x y =>
    simp only [opK, ho] at h ⊢
    split at h
    · rename_i t ht
      rcases cond_some h with ⟨rfl, h⟩ | ⟨rfl, h⟩ <;> exact ⟨_, _, rfl, h⟩
    · cases h
  | alloc t =>
    simp only [opK, ho] at h ⊢
    split at h
    · rename_i d hd
      obtain ⟨z, hz, h⟩ := kont_some h
      obtain ⟨n, hn, h⟩ := kont_some h
      split at h
      · rename_i hob
        (try simp only [hz, hn, hob, kont])
        exact ⟨_, _, rfl, h⟩
      · cases h
    · cases h
  | box t x =>
    simp only [opK, ho] at h ⊢
    split at h
    · rename_i d hd
      obtain ⟨z, hz, h⟩ := kont_some h
      obtain ⟨n, hn, h⟩ := kont_some h
      split at h
      · rename_i hob
        (try simp only [hz, hn, hob, kont])
        exact ⟨_, _, rfl, h⟩
      · cases h
    · cases h
  | build t parts => simp only [opK, ho] at h ⊢; exact kv h
  | load t x =>
    simp only [opK, ho] at h ⊢
    obtain ⟨e, h⟩ := cond_none h
    simp only [e, cond_true]
    exact kk (f := fun z => (tidy E t z, [])) (fun _ => rfl) h
  | store t x y =>
    simp only [opK, ho] at h ⊢
    obtain ⟨e, h⟩ := cond_none h
    simp only [e, cond_true]
    exact kk (f := fun u => (.undef, [u])) (fun _ => rfl) h
  | binOp op t x y t' =>
    simp only [opK, ho] at h ⊢
    unfold binC at h ⊢
    split at h
    · split at h
      · obtain ⟨e, h⟩ := cond_none' h; (try simp only [e, cond_false]); exact ⟨_, _, rfl, h⟩
      · obtain ⟨e, h⟩ := cond_none' h; (try simp only [e, cond_false]); exact ⟨_, _, rfl, h⟩
      · obtain ⟨e, h⟩ := cond_none h
        (try simp only [e, cond_true])
        unfold binI at h ⊢
        split at h
        case h_4 => obtain ⟨e, h⟩ := cond_none' h; (try simp only [e, cond_false]); exact ⟨_, _, rfl, h⟩
        case h_5 => obtain ⟨e, h⟩ := cond_none' h; (try simp only [e, cond_false]); exact ⟨_, _, rfl, h⟩
        case h_16 => cases h
        all_goals exact ⟨_, _, rfl, h⟩
    · split at h
      · rename_i hu; (try simp only [hu]); exact ⟨_, _, rfl, h⟩
      · rename_i hu; (try simp only [hu]); exact ⟨_, _, rfl, h⟩
      · cases h
    · split at h
      · rename_i hu; (try simp only [hu]); exact ⟨_, _, rfl, h⟩
      · rename_i hu; (try simp only [hu]); exact ⟨_, _, rfl, h⟩
      · cases h
    · split at h
      · rename_i hu; (try simp only [hu]); exact ⟨_, _, rfl, h⟩
      · rename_i hu; (try simp only [hu]); exact ⟨_, _, rfl, h⟩
      · cases h
    · split at h
      · rename_i hu; (try simp only [hu]); exact ⟨_, _, rfl, h⟩
      · rename_i hu; (try simp only [hu]); exact ⟨_, _, rfl, h⟩
      · cases h
    · split at h
      · cases h
      · rename_i hks
        (try simp only [hks])
        obtain ⟨e, h⟩ := cond_none h
        (try simp only [e, cond_true])
        split at h
        · rename_i hb; (try simp only [hb]); exact ⟨_, _, rfl, h⟩
        · rename_i hb; (try simp only [hb]); exact ⟨_, _, rfl, h⟩
        · cases h
    · cases h
  | unOp op t x => simp only [opK, ho] at h ⊢; exact kv h
  | nilCheck x =>
    simp only [opK, ho] at h ⊢
    split at h
    · rename_i e; (try simp only [e]); exact ⟨_, _, rfl, h⟩
    · rename_i e; (try simp only [e]); exact ⟨_, _, rfl, h⟩
    · cases h
  | convert src dst x =>
    simp only [opK, ho] at h ⊢
    split at h
    · exact ⟨_, _, rfl, h⟩
    · cases h
  | fieldAddr t x f =>
    simp only [opK, ho] at h ⊢
    obtain ⟨fl, hfl, h⟩ := kont_some h
    simp only [hfl, kont]
    exact kv h
  | field t x f =>
    simp only [opK, ho] at h ⊢
    obtain ⟨fl, hfl, h⟩ := kont_some h
    (try simp only [hfl])
    split at h
    · rename_i cs e; exact kv h
    · cases h
  | indexAddr t x i =>
    simp only [opK, ho] at h ⊢
    unfold indexAddrC at h ⊢
    split at h
    · split at h
      · split at h
        · cases h
        · rename_i hs
          (try simp only [hs])
          split at h
          · split at h
            · rename_i hob
              (try simp only [hob])
              obtain ⟨e, h⟩ := cond_none h
              obtain ⟨e2, h⟩ := cond_none h
              (try simp only [e, e2, cond_true]); exact ⟨_, _, rfl, h⟩
            · rename_i hob
              (try simp only [hob])
              split at h
              · rename_i hsp
                obtain ⟨e, h⟩ := cond_none h
                obtain ⟨j, h1, h2, hj, h5⟩ := splitK_some h
                rw [hj] at e ⊢
                (try simp only [hsp, e, cond_true]); exact ⟨_, _, splitK_at h1 h2, h5⟩
              rename_i hsp
              obtain ⟨e, h⟩ := cond_none h
              (try simp only [hsp, e, cond_true]); exact ⟨_, _, rfl, h⟩
            · cases h
          · obtain ⟨e, h⟩ := cond_none h
            (try simp only [e, cond_true]); exact ⟨_, _, rfl, h⟩
          · obtain ⟨e, h⟩ := cond_none h
            (try simp only [e, cond_true]); exact ⟨_, _, rfl, h⟩
          · obtain ⟨e, h⟩ := cond_none h
            obtain ⟨e2, h⟩ := cond_none h
            (try simp only [e, e2, cond_true]); exact ⟨_, _, rfl, h⟩
          · cases h
      · split at h
        · obtain ⟨e, h⟩ := cond_none h
          obtain ⟨e2, h⟩ := cond_none h
          (try simp only [e, e2, cond_true]); exact ⟨_, _, rfl, h⟩
        · split at h
          · rename_i hob
            obtain ⟨e, h⟩ := cond_none h
            obtain ⟨e2, h⟩ := cond_none h
            (try simp only [hob, e, e2, cond_true]); exact ⟨_, _, rfl, h⟩
          · cases h
        · cases h
      · cases h
    · cases h
  | index t x i =>
    simp only [opK, ho] at h ⊢
    unfold indexC at h ⊢
    split at h
    · split at h
      · split at h
        · cases h
        · rename_i hs
          (try simp only [hs])
          obtain ⟨e, h⟩ := cond_none h
          (try simp only [e, cond_true])
          split at h
          · rename_i v hv; (try simp only [hv]); exact ⟨_, _, rfl, h⟩
          · cases h
      · cases h
    · cases h
  | makeFunc fn first caps =>
    simp only [opK, ho] at h ⊢
    split at h
    · rename_i e1
      (try simp only [e1])
      exact ⟨_, _, rfl, h⟩
    · cases h
  | extract x i =>
    simp only [opK, ho] at h ⊢
    split at h
    · exact kv h
    · cases h
  | buildSlice t n parts =>
    simp only [opK, ho] at h ⊢
    split at h
    · rename_i d hd
      obtain ⟨z, hz, h⟩ := kont_some h
      split at h
      · rename_i hob
        (try simp only [hd, hz, hob, kont])
        rcases cond_some h with ⟨e3, h⟩ | ⟨e3, h⟩
        · rw [e3]; exact ⟨_, _, rfl, h⟩
        · rw [e3]; exact ⟨_, _, rfl, h⟩
      · cases h
    · cases h
  | makeSlice t x y =>
    simp only [opK, ho] at h ⊢
    unfold makeSliceC at h ⊢
    split at h
    case h_2 => cases h
    rename_i e1 e2 e3
    split at h
    · cases h
    rename_i e4
    split at h
    case h_2 => cases h
    rename_i e5
    split at h
    case h_2 => cases h
    rename_i e6
    obtain ⟨e7, h⟩ := cond_none h
    (try simp only [e1, e2, e3, e4, e5, e6, e7, cond_true])
    rcases cond_some h with ⟨e8, h⟩ | ⟨e8, h⟩
    · rw [e8]; exact ⟨_, _, rfl, h⟩
    · rw [e8]; exact ⟨_, _, rfl, h⟩
  | slice t x lo hi mx =>
    simp only [opK, ho] at h ⊢
    unfold sliceC at h ⊢
    split at h
    case h_2 => cases h
    rename_i e1
    split at h
    case h_2 => cases h
    rename_i e2
    obtain ⟨e3, h⟩ := cond_none h
    split at h
    · rename_i e4 e5
      (try simp only [e1, e2, e3, e4, e5, cond_true]); exact ⟨_, _, rfl, h⟩
    · rename_i e4 e5
      obtain ⟨e6, h⟩ := cond_none h
      (try simp only [e1, e2, e3, e4, e5, e6, cond_true]); exact ⟨_, _, rfl, h⟩
    · rename_i e4 e5
      obtain ⟨e6, h⟩ := cond_none h
      (try simp only [e1, e2, e3, e4, e5, e6, cond_true]); exact ⟨_, _, rfl, h⟩
    · rename_i e4 e5
      obtain ⟨e6, h⟩ := cond_none h
      (try simp only [e1, e2, e3, e4, e5, e6, cond_true]); exact ⟨_, _, rfl, h⟩
    · cases h
  | call c =>
    simp only [opK, ho] at h ⊢
    split at h
    · obtain ⟨v, u, h1, h2, _⟩ := appendC_param h
      exact ⟨v, u, h1, h2⟩
    · unfold lenC at h ⊢
      split at h
      · rename_i e1
        split at h
        · rename_i e2
          split at h
          · rename_i e3 e4
            (try simp only [e1, e2, e3, e4])
            exact ⟨_, _, rfl, h⟩
          · cases h
        · cases h
      · rename_i e1
        split at h
        · rename_i e2
          split at h
          · rename_i e3 e4
            (try simp only [e1, e2, e3, e4])
            exact ⟨_, _, rfl, h⟩
          · cases h
        · cases h
      · rename_i e1
        split at h
        · rename_i e2
          split at h
          · rename_i e3
            (try simp only [e1, e2, e3])
            exact ⟨_, _, rfl, h⟩
          · cases h
        · cases h
      · rename_i e1
        (try simp only [e1])
        split at h
        · rename_i e2
          (try simp only [e2])
          exact ⟨_, _, rfl, h⟩
        · cases h
    · exact kv h
    · split at h
      · obtain ⟨d, hd, h⟩ := kont_some h
        obtain ⟨e, h⟩ := cond_none h
        obtain ⟨x, hx, h⟩ := kont_some h
        obtain ⟨y, hy, h⟩ := Option.bind_eq_some_iff.1 h
        simp only [hd, e, hx, kont, cond_true, hy, Option.bind_some]
        exact ⟨_, _, rfl, h⟩
      · cases h
    · cases h
  | lookup t x ix ok =>
    simp only [opK, ho] at h ⊢
    rw [lookK_bind] at h ⊢
    obtain ⟨z, hz, h⟩ := Option.bind_eq_some_iff.1 h
    rw [hz]
    exact ⟨z, [], rfl, h⟩
  | _ => simp only [opK, ho] at h; cases h
theorem callX_bind {d : FDen U} {ob : Nat → Option (Obj U)} {dst : Option Tmp} {args : List (AV U)} {K : AV U → Eff U → Option ρ} :
    callX d ob dst args K = (callX d ob dst args (fun v u => some (v, u))).bind fun p => K p.1 p.2 := by
  unfold callX
  simp only
  cases (entryOk ob (given ob args 0) args && args.length.ble d.nt) with
  | false => rfl
  | true =>
    simp only [cond_true]
    cases d.un (entry d ob (given ob args 0) args) with
    | none => rfl
    | some x =>
      simp only [kont]
      cases d.f x with
      | none => rfl
      | some y =>
        simp only [Option.bind_some]
        cases exitOk ob (given ob args 0) (backQ (dst.getD 0) (d.fin y) args d.gh) (d.fin y) (backs (d.fin y) args d.gh) <;> rfl
theorem condB {α : Type u} {β : Type v} {b : Bool} {x y : Option α} {f : α → Option β} : (bif b then x else y).bind f = bif b then x.bind f else y.bind f := by cases b <;> rfl
theorem sliceZ_bind {E : Env U} {ob : Nat → Option (Obj U)} {t : TypeId} {d : Option Tmp} {x : AV U} {K : AV U → Eff U → Option ρ} :
    sliceZ E ob t d x K = (sliceZ E ob t d x (fun v u => some (v, u))).bind fun p => K p.1 p.2 := by
  unfold sliceZ
  split
  · split
    · simp only [condB, Option.bind_some, Option.bind_none]
    · rfl
  · rfl
theorem sliceX_bind {E : Env U} {ob : Nat → Option (Obj U)} {t : TypeId} {d : Option Tmp} {x hi mx : AV U} {K : AV U → Eff U → Option ρ} :
    sliceX E ob t d x hi mx K = (sliceX E ob t d x hi mx (fun v u => some (v, u))).bind fun p => K p.1 p.2 := by
  unfold sliceX
  split
  · split
    · simp only [condB, Option.bind_some, Option.bind_none]
    · split
      · split
        · simp only [condB, Option.bind_some, Option.bind_none]
        · rfl
      · rfl
    · rfl
  · rfl
theorem lookupX_bind {E : Env U} {ob : Nat → Option (Obj U)} {t : TypeId} {x ix : AV U} {ok : Bool} {K : AV U → Eff U → Option ρ} :
    lookupX E ob t x ix ok K = (lookupX E ob t x ix ok (fun v u => some (v, u))).bind fun p => K p.1 p.2 := by
  unfold lookupX
  split
  · split
    · split
      · split
        · simp only [condB, Option.bind_some, Option.bind_none]
        · rfl
      · rfl
    · rfl
  · rfl
theorem updateX_bind {E : Env U} {ob : Nat → Option (Obj U)} {t : TypeId} {m k v : AV U} {K : AV U → Eff U → Option ρ} :
    updateX E ob t m k v K = (updateX E ob t m k v (fun v u => some (v, u))).bind fun p => K p.1 p.2 := by
  unfold updateX
  split
  · split
    · split
      · rfl
      · rfl
    · rfl
  · rfl
theorem makeMapX_bind {E : Env U} {ob : Nat → Option (Obj U)} {t : TypeId} {d : Option Tmp} {K : AV U → Eff U → Option ρ} :
    makeMapX E ob t d K = (makeMapX E ob t d (fun v u => some (v, u))).bind fun p => K p.1 p.2 := by
  unfold makeMapX
  split
  · split
    · rfl
    · rfl
  · rfl
theorem sfX_bind {d : SDen U} {E : Env U} {ob : Nat → Option (Obj U)} {args : List (AV U)} {K : AV U → Eff U → Option ρ} : sfX d E ob args K = (sfX d E ob args (fun v u => some (v, u))).bind fun p => K p.1 p.2 := by
  unfold sfX
  simp only
  split
  · split
    · split
      · rw [condB]
        congr 1
        rw [Option.bind_assoc]
        rfl
      · rfl
    · rfl
  · split
    · split
      · rw [condB]; rfl
      · rfl
    · split
      · split
        · rw [condB]; rfl
        · rfl
      · rfl
    · rfl
  · split
    · rfl
    · rfl
    · rfl
  · split
    · split
      · split
        · split
          · rw [condB, condB]; rfl
          · rfl
        · rfl
      · rfl
    · rfl
theorem kontB {α : Type u} {σ : Type} {τ : Type} {x : Option α} {f : α → Option σ} {g : σ → Option τ} : (kont x f).bind g = kont x fun v => (f v).bind g := by cases x <;> rfl
theorem arK_bind {E : Env U} {o : Oper} {ev : Operand → AV U} {ob : Nat → Option (Obj U)} {K : AV U → Eff U → Option ρ} : arK E o ev ob K = (arK E o ev ob (fun v u => some (v, u))).bind fun p => K p.1 p.2 := by
  unfold arK
  split
  · unfold arLook
    split
    · split
      · split
        · simp only [condB, Option.bind_some, Option.bind_none]
        · rfl
      · rfl
    · split
      · split
        · split
          · simp only [condB, Option.bind_some, Option.bind_none]
          · rfl
        · rfl
      · rfl
    · rfl
  · unfold arUpd
    split
    · split
      · split
        · rw [condB, kontB]; rfl
        · rfl
      · rfl
    · split
      · split
        · rw [kontB]; rfl
        · rfl
      · rfl
    · rfl
  · unfold arMake
    split
    · split
      · split
        · rfl
        · rfl
      · split
        · split
          · rfl
          · split
            · rfl
            · split
              · rw [condB]; rfl
              · rfl
            · rfl
        · rfl
    · rfl
  · unfold callB
    split
    · split
      · rw [kontB]
        congr 1
        funext d
        rw [condB, kontB]
        congr 1
        congr 1
        funext x
        rw [Option.bind_assoc]
        congr 1
        funext y
        rw [condB]
        rfl
      · rfl
    · rfl
  · rfl
theorem opX0_bind {E : Env U} {o : Oper} {ev : Operand → AV U} {ob : Nat → Option (Obj U)} {K : AV U → Eff U → Option ρ} : opX0 E o ev ob K = (opX0 E o ev ob (fun v u => some (v, u))).bind fun p => K p.1 p.2 := by
  unfold opX0
  split
  · split
    · split
      · split
        · exact sfX_bind
        · split
          · exact callX_bind
          · rfl
      · rfl
    · rfl
  · exact sliceZ_bind
  · exact sliceX_bind
  · exact lookupX_bind
  · exact updateX_bind
  · cases E.lz with
    | true => rfl
    | false => exact updateX_bind
  · exact makeMapX_bind
  · rfl
theorem opX_bind {E : Env U} {o : Oper} {ev : Operand → AV U} {ob : Nat → Option (Obj U)} {K : AV U → Eff U → Option ρ} : opX E o ev ob K = (opX E o ev ob (fun v u => some (v, u))).bind fun p => K p.1 p.2 := by
  unfold opX
  cases arOp E o ev ob with
  | true => exact arK_bind
  | false => exact opX0_bind
theorem opA_param {E : Env U} {o : Oper} {ev : Operand → AV U} {ob : Nat → Option (Obj U)} {K : AV U → Eff U → Option ρ} {r : ρ} (h : opA E o ev ob K = some r) :
    ∃ v u, opA E o ev ob (fun v u => some (v, u)) = some (v, u) ∧ K v u = some r := by
  unfold opA at h ⊢
  cases hb : isX E o ev with
  | true =>
    rw [hb] at h
    simp only [cond_true] at h ⊢
    rw [opX_bind] at h
    obtain ⟨⟨v, u⟩, h1, h2⟩ := Option.bind_eq_some_iff.1 h
    exact ⟨v, u, h1, h2⟩
  | false =>
    rw [hb] at h
    exact opK_param h
end Go.Ev
