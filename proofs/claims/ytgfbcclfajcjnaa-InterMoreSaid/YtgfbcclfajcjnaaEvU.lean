import Derived.Test.YtgfbcclfajcjnaaEvT
universe u
namespace Go.Ev
set_option linter.unusedVariables false
set_option linter.unusedSimpArgs false
open Go.RowKit (Below)
variable {U : Univ} {ρ : Type}
def pairK : AV U → Eff U → Option (AV U × Eff U) := fun v u => some (v, u)
def relO (o : Oper) (ev : Operand → AV U) : List Nat :=
  match o.op with
  | .load _ x | .store _ x _ => (touchId (ev x)).toList
  | .indexAddr _ x _ => (seeId (ev x)).toList
  | .alloc _ | .box _ _ | .buildSlice .. | .makeSlice .. => o.dst.toList
  | .move x | .assign x => bif isNil (ev x) then o.dst.toList else []
  | .call c => match seeArg c with
    | some a => (tipId (ev a)).toList ++ o.dst.toList
    | none => []
  | _ => []
theorem drop_ptr {x : AV U} {id off : Nat} (h : x.drop = .ptr id off) : x = .ptr id off := by cases x <;> first | exact h | cases h
theorem tidy_agg {E : Env U} {t : TypeId} {xs : List (AV U)} : ∃ ys, tidy E t (.agg xs) = .agg ys := by
  simp only [tidy]
  cases xs.all sleek with
  | true => exact ⟨_, rfl⟩
  | false =>
    simp only [cond_false]
    split
    · rename_i cs _
      cases Nat.beq cs.length xs.length <;> exact ⟨_, rfl⟩
    · exact ⟨_, rfl⟩
theorem nil_ptr {E : Env U} {t : TypeId} {x : AV U} {id off : Nat} (h : nilA E t x.drop = .ptr id off) : x = .ptr id off := by
  unfold nilA at h
  split at h
  · split at h
    · cases h
    · rename_i e _ _; rw [e] at h; cases h
  · split at h
    · rename_i hu
      obtain ⟨_, _, _, _, e⟩ := nilF_inv hu
      rw [e] at h; cases h
    · rename_i e _ _; rw [e] at h; cases h
  · obtain ⟨ys, e⟩ := tidy_agg (E := E) (t := t); rw [e] at h; cases h
  · exact drop_ptr h
theorem appendC_local {E : Env U} {ob ob' : Nat → Option (Obj U)} {ts : Array TypeId} {args : List (AV U)} {dst : Option Tmp} {K : AV U → Eff U → Option ρ}
    (hob : ∀ id, (∃ x, args[0]? = some x ∧ tipId x = some id) ∨ dst = some id → ob id = ob' id) : appendC E ob ts args dst K = appendC E ob' ts args dst K := by
  unfold appendC
  split
  · rename_i t t' x y d e0 e1
    split
    · split
      · split
        · rfl
        · rw [hob d (.inr rfl)]
          split
          · rfl
          · split
            · rename_i id c1 l1
              split
              · rfl
              · rw [hob id (.inl ⟨_, rfl, rfl⟩)]
            · rename_i id
              rw [hob id (.inl ⟨_, rfl, rfl⟩)]
            · rfl
            · rfl
      · rfl
    · rfl
  · rfl
theorem drop_vs {x : AV U} {id : Nat} (h : x.drop = .vs id) : x = .vs id := by cases x <;> first | exact h | cases h
theorem nil_vs {E : Env U} {t : TypeId} {x : AV U} {id : Nat} (h : nilA E t x.drop = .vs id) : x = .vs id := by
  unfold nilA at h
  split at h
  · split at h
    · cases h
    · rename_i e _ _; rw [e] at h; cases h
  · split at h
    · rename_i hu
      obtain ⟨_, _, _, _, e⟩ := nilF_inv hu
      rw [e] at h; cases h
    · rename_i e _ _; rw [e] at h; cases h
  · obtain ⟨ys, e⟩ := tidy_agg (E := E) (t := t); rw [e] at h; cases h
  · exact drop_vs h
theorem moveC_local {E : Env U} {ob ob' : Nat → Option (Obj U)} {t : TypeId} {d : Option Tmp} {x : AV U} {K : AV U → Eff U → Option ρ} (hob : isNil x = true → ∀ id, d = some id → ob id = ob' id) :
    moveC E ob t d x K = moveC E ob' t d x K := by
  unfold moveC
  split
  · split
    · rw [hob rfl _ rfl]
    · rfl
  · rfl
theorem lenC_local {E : Env U} {ob ob' : Nat → Option (Obj U)} {ts : Array TypeId} {args : List (AV U)} {K : AV U → Option ρ} (hob : ∀ id x, args[0]? = some x → tipId x = some id → ob id = ob' id) :
    lenC E ob ts args K = lenC E ob' ts args K := by
  unfold lenC
  split
  · split
    · rw [hob _ _ rfl rfl]
    · rfl
  · split
    · rw [hob _ _ rfl rfl]
    · rfl
  · rfl
  · rfl
theorem makeSliceC_local {E : Env U} {ob ob' : Nat → Option (Obj U)} {t : TypeId} {d : Option Tmp} {x y : AV U} {K : AV U → Eff U → Option ρ} (hob : ∀ id, d = some id → ob id = ob' id) :
    makeSliceC E ob t d x y K = makeSliceC E ob' t d x y K := by
  unfold makeSliceC
  split
  · split
    · rfl
    · split
      · rw [hob _ rfl]
      · rfl
  · rfl
theorem opK_local {E : Env U} {o : Oper} {ev ev' : Operand → AV U} {ob ob' : Nat → Option (Obj U)} {K : AV U → Eff U → Option ρ}
    (hev : ∀ x, x ∈ o.op.operands.toList → ev x = ev' x) (hob : ∀ id, id ∈ relO o ev → ob id = ob' id) : opK E o ev ob K = opK E o ev' ob' K := by
  cases ho : o.op with
  | move x =>
    simp only [ho, Op.operands] at hev
    simp only [opK, ho, hev x (by simp)]
    exact moveC_local (fun hn id hid => hob id (by simp [relO, ho, hid, hev x (by simp), hn]))
  | assign x =>
    simp only [ho, Op.operands] at hev
    simp only [opK, ho, hev x (by simp)]
    exact moveC_local (fun hn id hid => hob id (by simp [relO, ho, hid, hev x (by simp), hn]))
  | pick c x y => simp only [ho, Op.operands] at hev; simp only [opK, ho, hev x (by simp), hev c (by simp), hev y (by simp)]
  | alloc t =>
    simp only [opK, ho]
    cases hd : o.dst with
    | none => rfl
    | some d => simp only [hob d (by simp [relO, ho, hd])]
  | box t x =>
    simp only [ho, Op.operands] at hev
    simp only [opK, ho, hev x (by simp)]
    cases hd : o.dst with
    | none => rfl
    | some d => simp only [hob d (by simp [relO, ho, hd])]
  | build t parts =>
    simp only [ho, Op.operands] at hev
    simp only [opK, ho]
    have : (parts.toList.map fun p => (p.1, (ev p.2).drop)) = (parts.toList.map fun p => (p.1, (ev' p.2).drop)) := by
      apply List.map_congr_left
      intro p hp
      rw [hev p.2 (by simp; exact ⟨p.1, by simpa using hp⟩)]
    rw [this]
  | load t x =>
    simp only [ho, Op.operands] at hev
    have hx := hev x (by simp)
    simp only [relO, ho] at hob
    simp only [opK, ho, ← hx]
    cases e : ev x with
    | ptr id off => simp only [elOk, loadAt0]; rw [hob id (by simp [e, touchId])]
    | el id i off => simp only [elOk, loadAt0]; rw [hob id (by simp [e, touchId])]
    | pe id b sz n i off => simp only [elOk, loadAt0]; rw [hob id (by simp [e, touchId])]
    | _ => rfl
  | store t x y =>
    simp only [ho, Op.operands] at hev
    have hx := hev x (by simp)
    have hy := hev y (by simp)
    simp only [relO, ho] at hob
    simp only [opK, ho, ← hx, ← hy]
    cases e : ev x with
    | ptr id off => simp only [elOk, storeAt0, stV]; rw [hob id (by simp [e, touchId])]
    | el id i off => simp only [elOk, storeAt0, stV]; rw [hob id (by simp [e, touchId])]
    | pe id b sz n i off => simp only [elOk, storeAt0, stV]; rw [hob id (by simp [e, touchId])]
    | _ => rfl
  | binOp op t x y t' => simp only [ho, Op.operands] at hev; simp only [opK, ho, hev x (by simp), hev y (by simp)]
  | unOp op t x => simp only [ho, Op.operands] at hev; simp only [opK, ho, hev x (by simp)]
  | nilCheck x => simp only [ho, Op.operands] at hev; simp only [opK, ho, hev x (by simp)]
  | convert src dst x => simp only [ho, Op.operands] at hev; simp only [opK, ho, hev x (by simp)]
  | fieldAddr t x f => simp only [ho, Op.operands] at hev; simp only [opK, ho, hev x (by simp)]
  | field t x f => simp only [ho, Op.operands] at hev; simp only [opK, ho, hev x (by simp)]
  | indexAddr t x i =>
    simp only [ho, Op.operands] at hev
    have hx := hev x (by simp)
    have hi := hev i (by simp)
    simp only [relO, ho] at hob
    simp only [opK, ho, ← hx, ← hi]
    unfold indexAddrC
    split
    · split
      · split
        · rfl
        · split
          · rename_i id off e; rw [hob id (by simp [nil_ptr e, seeId])]
          · rfl
          · rfl
          · rfl
          · rfl
      · split
        · rfl
        · rename_i id e; rw [hob id (by simp [nil_vs e, seeId])]
        · rfl
      · rfl
    · rfl
  | index t x i => simp only [ho, Op.operands] at hev; simp only [opK, ho, hev x (by simp), hev i (by simp)]
  | extract x i => simp only [ho, Op.operands] at hev; simp only [opK, ho, hev x (by simp)]
  | makeFunc fn first caps =>
    simp only [ho, Op.operands] at hev
    have e : caps.toList.map ev = caps.toList.map ev' := List.map_congr_left fun x hx => hev x (by simp at hx ⊢; exact .inr hx)
    simp only [opK, ho, e]
  | buildSlice t n parts =>
    simp only [ho, Op.operands] at hev
    simp only [opK, ho]
    have : (parts.toList.map fun p => (p.1, nilE E t (ev p.2).drop)) = (parts.toList.map fun p => (p.1, nilE E t (ev' p.2).drop)) := by
      apply List.map_congr_left
      intro p hp
      rw [hev p.2 (by simp; exact ⟨p.1, by simpa using hp⟩)]
    rw [this]
    cases hd : o.dst with
    | none => rfl
    | some d => simp only [hob d (by simp [relO, ho, hd])]
  | makeSlice t x y =>
    simp only [ho, Op.operands] at hev
    simp only [opK, ho, hev x (by simp), hev y (by simp)]
    exact makeSliceC_local (fun id hid => hob id (by simp [relO, ho, hid]))
  | slice t x lo hi mx =>
    simp only [ho, Op.operands] at hev
    have hx := hev x (by simp)
    have hl : lo.map ev = lo.map ev' := by
      cases lo with
      | none => rfl
      | some z => simp only [Option.map_some]; rw [hev z (by simp)]
    have hh : hi.map ev = hi.map ev' := by
      cases hi with
      | none => rfl
      | some z => simp only [Option.map_some]; rw [hev z (by simp)]
    simp only [opK, ho, hx, hl, hh]
  | call c =>
    simp only [ho, Op.operands, Call.operands] at hev
    have hargs : ∀ x, x ∈ c.args.toList → ev x = ev' x := fun x hx => hev x (by simp; exact .inr (by simpa using hx))
    have : c.args.toList.map ev = c.args.toList.map ev' := List.map_congr_left hargs
    have this2 : (c.args.toList.map fun x => (ev x).drop) = (c.args.toList.map fun x => (ev' x).drop) := List.map_congr_left (fun x hx => by rw [hargs x hx])
    have this3 : argsA E c ev = argsA E c ev' := argsFrom_congr E c.argTypes c.args.toList 0 hargs
    simp only [opK, ho, this, this2, this3]
    cases hc : c.callee with
    | builtin b =>
      by_cases hb : b = .append
      · subst hb
        simp only
        cases hz0 : c.args[0]? with
        | none =>
          have : c.args.toList = [] := by
            cases hl : c.args.toList with
            | nil => rfl
            | cons z zs => have h1 := congrArg List.length hl; simp at h1; rw [Array.getElem?_eq_none_iff] at hz0; omega
          simp [this, appendC]
        | some z0 =>
        refine appendC_local (fun id hid => hob id ?_)
        simp only [relO, ho, seeArg, appArg, hc, hz0]
        rcases hid with ⟨x, hx, ht⟩ | hd
        · rw [← this] at hx
          simp only [List.getElem?_map, Option.map_eq_some_iff] at hx
          obtain ⟨z, hz, rfl⟩ := hx
          have h2 : c.args[0]? = some z := by simpa using hz
          rw [hz0] at h2
          cases h2
          simp [ht]
        · simp [hd]
      · by_cases hb2 : b = .len
        · subst hb2
          simp only
          refine lenC_local (fun id x hx ht => hob id ?_)
          rw [← this] at hx
          simp only [List.getElem?_map, Option.map_eq_some_iff] at hx
          obtain ⟨z, hz, rfl⟩ := hx
          have h2 : c.args[0]? = some z := by simpa using hz
          simp [relO, ho, seeArg, appArg, lenArg, hc, h2, ht]
        · cases b <;> first | rfl | exact absurd rfl hb | exact absurd rfl hb2
    | value g => simp only [hev g (by simp [hc])]
    | invoke r m => rfl
  | lookup t x ix ok => simp only [ho, Op.operands] at hev; simp only [opK, ho, hev x (by simp), hev ix (by simp)]
  | _ => simp only [opK, ho]
theorem moveC_ids {E : Env U} {ob : Nat → Option (Obj U)} {t : TypeId} {d : Option Tmp} {x v : AV U} {u : Eff U} (h : moveC E ob t d x pairK = some (v, u)) : u = [] ∨ ∃ d' n, u = [(d', n)] ∧ d = some d' ∧ isNil x = true := by
  unfold moveC at h
  split at h
  · split at h
    · split at h
      · (rcases cond_some h with ⟨_, h⟩ | ⟨_, h⟩ <;> (simp [pairK] at h; exact .inr ⟨_, _, h.2.symm, rfl, rfl⟩))
      · (rcases cond_some h with ⟨_, h⟩ | ⟨_, h⟩ <;> (simp [pairK] at h; exact .inl h.2))
    · simp [pairK] at h; exact .inl h.2
  · simp [pairK] at h; exact .inl h.2
theorem opK_ids0 {E : Env U} {o : Oper} {ev : Operand → AV U} {ob : Nat → Option (Obj U)} {v : AV U} {u : Eff U} (h : opK E o ev ob pairK = some (v, u)) :
    u = [] ∨ (∃ id n, u = [(id, n)] ∧ id ∈ relO o ev ∧ ((∃ t x y, o.op = .store t x y) ∨ (isNew o.op = true ∧ o.dst = some id))) ∨
      ∃ c z id d n, o.op = .call c ∧ appArg c = some z ∧ tipId (ev z) = some id ∧ o.dst = some d ∧ u = [(id, .dead), (d, n)] := by
  have kg : ∀ {x : Option (AV U)} {g : AV U → AV U}, kont x (fun v => pairK (g v) []) = some (v, u) → u = [] := fun hk => by
    obtain ⟨z, rfl, hk2⟩ := kont_some hk
    simp [pairK] at hk2
    exact hk2.2
  have kv : ∀ {x : Option (AV U)}, kont x (fun v => pairK v []) = some (v, u) → u = [] := fun hk => by
    obtain ⟨z, rfl, hk2⟩ := kont_some hk
    simp [pairK] at hk2
    exact hk2.2
  have kp : ∀ {x : AV U}, pairK x [] = some (v, u) → u = [] := fun hk => by simp [pairK] at hk; exact hk.2
  cases ho : o.op with
  | move x =>
    simp only [opK, ho] at h
    rcases moveC_ids h with hu | ⟨d, n, hu, hd, hn⟩
    · exact .inl hu
    · exact .inr (.inl ⟨d, n, hu, by simp [relO, ho, hd, hn], .inr ⟨by simp [isNew], hd⟩⟩)
  | assign x =>
    simp only [opK, ho] at h
    rcases moveC_ids h with hu | ⟨d, n, hu, hd, hn⟩
    · exact .inl hu
    · exact .inr (.inl ⟨d, n, hu, by simp [relO, ho, hd, hn], .inr ⟨by simp [isNew], hd⟩⟩)
  | pick c x y =>
    simp only [opK, ho] at h
    split at h
    · rcases cond_some h with ⟨_, h⟩ | ⟨_, h⟩ <;> exact .inl (kp h)
    · cases h
  | alloc t =>
    simp only [opK, ho] at h
    split at h
    · rename_i d hd
      obtain ⟨z, hz, h⟩ := kont_some h
      obtain ⟨n, hn, h⟩ := kont_some h
      split at h
      · simp [pairK] at h
        exact .inr (.inl ⟨d, n, h.2.symm, by simp [relO, ho, hd], .inr ⟨by simp [isNew, ho], hd⟩⟩)
      · cases h
    · cases h
  | box t x =>
    simp only [opK, ho] at h
    split at h
    · rename_i d hd
      obtain ⟨z, hz, h⟩ := kont_some h
      obtain ⟨n, hn, h⟩ := kont_some h
      split at h
      · simp [pairK] at h
        exact .inr (.inl ⟨d, n, h.2.symm, by simp [relO, ho, hd], .inr ⟨by simp [isNew, ho], hd⟩⟩)
      · cases h
    · cases h
  | build t parts => simp only [opK, ho] at h; exact .inl (kv h)
  | load t x => simp only [opK, ho] at h; exact .inl (kg (cond_none h).2)
  | store t x y =>
    simp only [opK, ho] at h
    obtain ⟨hel, h⟩ := cond_none h
    obtain ⟨⟨id, n⟩, hs, h⟩ := kont_some h
    replace hs := storeAt_of hel hs
    simp [pairK] at h
    refine .inr (.inl ⟨id, n, h.2.symm, ?_, .inl ⟨_, _, _, rfl⟩⟩)
    simp only [relO, ho]
    rw [← touchId_plainAt]
    unfold storeAt at hs
    split at hs
    · cases hs
    · obtain ⟨_, hs⟩ := cond_none hs
      split at hs
      · rename_i id' off e
        have : id' = id := by
          split at hs
          · obtain ⟨_, hs⟩ := cond_none hs; cases hs; rfl
          · split at hs
            · split at hs
              · cases hs; rfl
              · cases hs
            · cases hs
          · cases hs
        simp [e, touchId, this]
      · rename_i id' i off e
        have : id' = id := by
          split at hs
          · obtain ⟨_, hs⟩ := cond_none hs
            split at hs
            · cases hs; rfl
            · cases hs
          · obtain ⟨_, hs⟩ := cond_none hs
            split at hs
            · cases hs; rfl
            · cases hs
          · cases hs
        simp [e, touchId, this]
      · cases hs
  | binOp op t x y t' =>
    simp only [opK, ho] at h
    unfold binC at h
    split at h
    · split at h
      · exact .inl (kp (cond_none' h).2)
      · exact .inl (kp (cond_none' h).2)
      · have h := (cond_none h).2
        unfold binI at h
        split at h
        case h_4 => exact .inl (kp (cond_none' h).2)
        case h_5 => exact .inl (kp (cond_none' h).2)
        case h_16 => cases h
        all_goals exact .inl (kp h)
    · split at h
      · exact .inl (kp h)
      · exact .inl (kp h)
      · cases h
    · split at h
      · exact .inl (kp h)
      · exact .inl (kp h)
      · cases h
    · split at h
      · exact .inl (kp h)
      · exact .inl (kp h)
      · cases h
    · split at h
      · exact .inl (kp h)
      · exact .inl (kp h)
      · cases h
    · split at h
      · cases h
      · have h := (cond_none h).2
        split at h
        · exact .inl (kp h)
        · exact .inl (kp h)
        · cases h
    · cases h
  | unOp op t x => simp only [opK, ho] at h; exact .inl (kv h)
  | nilCheck x =>
    simp only [opK, ho] at h
    split at h
    · exact .inl (kp h)
    · exact .inl (kp h)
    · cases h
  | convert src dst x =>
    simp only [opK, ho] at h
    split at h
    · exact .inl (kp h)
    · cases h
  | fieldAddr t x f =>
    simp only [opK, ho] at h
    obtain ⟨fl, hfl, h⟩ := kont_some h
    exact .inl (kv h)
  | field t x f =>
    simp only [opK, ho] at h
    obtain ⟨fl, hfl, h⟩ := kont_some h
    split at h
    · exact .inl (kv h)
    · cases h
  | indexAddr t x i =>
    simp only [opK, ho] at h
    unfold indexAddrC at h
    split at h
    · split at h
      · split at h
        · cases h
        · split at h
          · split at h
            · exact .inl (kp (cond_none (cond_none h).2).2)
            · split at h
              · obtain ⟨_, _, _, _, h⟩ := splitK_some (cond_none h).2
                exact .inl (kp h)
              exact .inl (kp (cond_none h).2)
            · cases h
          · exact .inl (kp (cond_none h).2)
          · exact .inl (kp (cond_none h).2)
          · exact .inl (kp (cond_none (cond_none h).2).2)
          · cases h
      · split at h
        · exact .inl (kp (cond_none (cond_none h).2).2)
        · split at h
          · exact .inl (kp (cond_none (cond_none h).2).2)
          · cases h
        · cases h
      · cases h
    · cases h
  | index t x i =>
    simp only [opK, ho] at h
    unfold indexC at h
    split at h
    · split at h
      · split at h
        · cases h
        · have h := (cond_none h).2
          split at h
          · exact .inl (kp h)
          · cases h
      · cases h
    · cases h
  | makeFunc fn first caps =>
    simp only [opK, ho] at h
    split at h
    · simp [pairK] at h; exact .inl h.2
    · cases h
  | extract x i =>
    simp only [opK, ho] at h
    split at h
    · exact .inl (kv h)
    · cases h
  | buildSlice t n parts =>
    simp only [opK, ho] at h
    split at h
    · rename_i d hd
      obtain ⟨z, hz, h⟩ := kont_some h
      split at h
      · rcases cond_some h with ⟨_, h⟩ | ⟨_, h⟩
        · simp [pairK] at h
          exact .inr (.inl ⟨d, _, h.2.symm, by simp [relO, ho, hd], .inr ⟨by simp [isNew], hd⟩⟩)
        · simp [pairK] at h
          exact .inr (.inl ⟨d, _, h.2.symm, by simp [relO, ho, hd], .inr ⟨by simp [isNew], hd⟩⟩)
      · cases h
    · cases h
  | makeSlice t x y =>
    simp only [opK, ho] at h
    unfold makeSliceC at h
    split at h
    case h_2 => cases h
    rename_i hd _ _
    split at h
    · cases h
    split at h
    case h_2 => cases h
    split at h
    case h_2 => cases h
    obtain ⟨_, h⟩ := cond_none h
    rcases cond_some h with ⟨_, h⟩ | ⟨_, h⟩
    · simp [pairK] at h
      exact .inr (.inl ⟨_, _, h.2.symm, by simp [relO, ho, hd], .inr ⟨by simp [isNew], hd⟩⟩)
    · simp [pairK] at h
      exact .inr (.inl ⟨_, _, h.2.symm, by simp [relO, ho, hd], .inr ⟨by simp [isNew], hd⟩⟩)
  | slice t x lo hi mx =>
    simp only [opK, ho] at h
    unfold sliceC at h
    split at h
    case h_2 => cases h
    split at h
    case h_2 => cases h
    obtain ⟨_, h⟩ := cond_none h
    split at h
    · exact .inl (kp h)
    · exact .inl (kp (cond_none h).2)
    · exact .inl (kp (cond_none h).2)
    · exact .inl (kp (cond_none h).2)
    · cases h
  | call c =>
    simp only [opK, ho] at h
    split at h
    · rename_i hc
      obtain ⟨v', u', h1, h2, d, hd, hu⟩ := appendC_param h
      simp [pairK] at h2
      obtain ⟨rfl, rfl⟩ := h2
      have hdst : o.dst = some d := hd
      have ha : ∃ z, appArg c = some z := by
        have : 0 < c.args.size := by
          cases hn : c.args.toList with
          | nil => rw [hn] at h; simp [appendC] at h
          | cons z zs => have := congrArg List.length hn; simp at this; omega
        exact ⟨c.args[0], by simp [appArg, hc, this]⟩
      obtain ⟨z, hz⟩ := ha
      rcases hu with ⟨n, hu⟩ | ⟨x, y, id, n, hargs, hx, hu⟩
      · refine .inr (.inl ⟨d, _, hu, ?_, .inr ⟨by simp [isNew, seeArg, hz], hdst⟩⟩)
        simp [relO, ho, seeArg, hz, hdst]
      · refine .inr (.inr ⟨c, z, id, d, _, rfl, hz, ?_, hdst, hu⟩)
        have hz' : c.args[0]? = some z := by simpa [appArg, hc] using hz
        have : (c.args.toList.map ev)[0]? = some (ev z) := by simp [hz']
        rw [hargs] at this
        simp at this
        rw [← this, hx]
    · unfold lenC at h
      split at h
      · split at h
        · split at h
          · exact .inl (kp h)
          · cases h
        · cases h
      · split at h
        · split at h
          · exact .inl (kp h)
          · cases h
        · cases h
      · split at h
        · split at h
          · exact .inl (kp h)
          · cases h
        · cases h
      · split at h
        · exact .inl (kp h)
        · cases h
    · exact .inl (kv h)
    · split at h
      · obtain ⟨d, hd, h⟩ := kont_some h
        have h := (cond_none h).2
        obtain ⟨x, hx, h⟩ := kont_some h
        obtain ⟨y, hy, h⟩ := Option.bind_eq_some_iff.1 h
        exact .inl (kp h)
      · cases h
    · cases h
  | lookup t x ix ok =>
    simp only [opK, ho] at h
    rw [lookK_bind] at h
    obtain ⟨z, _, h⟩ := Option.bind_eq_some_iff.1 h
    exact .inl (kp h)
  | _ => simp only [opK, ho] at h; cases h
theorem opK_ids {E : Env U} {o : Oper} {ev : Operand → AV U} {ob : Nat → Option (Obj U)} {v : AV U} {u : Eff U} (h : opK E o ev ob pairK = some (v, u)) :
    ∀ id, id ∈ u.map (·.1) → id ∈ relO o ev ∧ ((stores o.op = true ∧ ∀ s : St U, s.op = ev → touched o s = some id) ∨ (isNew o.op = true ∧ o.dst = some id)) := by
  intro id hid
  rcases opK_ids0 h with rfl | ⟨id', n, rfl, hr, hs⟩ | ⟨c, z, id', d, n, ho, hz, ht, hd, rfl⟩
  · simp at hid
  · simp at hid
    subst hid
    refine ⟨hr, ?_⟩
    rcases hs with ⟨t, x, y, ho⟩ | hs
    · refine .inl ⟨by simp [ho, stores], fun s hs => ?_⟩
      simp only [relO, ho] at hr
      simp at hr
      simp [touched, ho, hs, hr]
    · exact .inr hs
  · simp at hid
    have hrel : relO o ev = [id', d] := by simp [relO, ho, seeArg, hz, ht, hd]
    rw [hrel]
    rcases hid with rfl | rfl
    · exact ⟨by simp, .inl ⟨by simp [ho, stores, hz], fun s hs => by simp [touched, ho, seeArg, hz, hs, ht]⟩⟩
    · exact ⟨by simp, .inr ⟨by simp [ho, isNew, seeArg, hz], hd⟩⟩
def isLook : Op → Bool
  | .lookup .. => true
  | _ => false
def apart0 (E : Env U) (o : Oper) (ev : Operand → AV U) (ob : Nat → Option (Obj U)) (id : Nat) : Bool := match o.op with
  | .call c => match c.callee with
    | .value g => match ev g with
      | .fn f caps => match E.sf f with
        | some _ => false
        | none => Nat.blt id (10000000000000 * (o.dst.getD 0 + 1)) && !((given ob (argsA E c ev ++ caps) 0).any fun q => Nat.beq q.1 id)
      | _ => false
    | _ => false
  | .lookup _ x _ _ => match ev x with
    | .mp m => !(Nat.beq m id)
    | .sm A _ => !(Nat.beq A id)
    | _ => false
  | .insert _ x _ _ => match ev x with
    | .mp m => !(Nat.beq m id)
    | _ => false
  | .makeMap _ none => match o.dst with
    | some d => !(Nat.beq d id)
    | none => false
  | _ => false
def apartX (E : Env U) (o : Oper) (ev : Operand → AV U) (ob : Nat → Option (Obj U)) (id : Nat) : Bool := bif arOp E o ev ob && !(isLook o.op) then false else apart0 E o ev ob id
def RelA (E : Env U) (o : Oper) (ev : Operand → AV U) (ob : Nat → Option (Obj U)) (id : Nat) : Prop := (isX E o ev = true ∧ apartX E o ev ob id = false) ∨ id ∈ relO o ev
theorem all_congr0 {α : Type} : ∀ {l : List α} {f g : α → Bool}, (∀ x ∈ l, f x = g x) → l.all f = l.all g
  | [], _, _, _ => rfl
  | x :: r, f, g, h => by
    rw [List.all_cons, List.all_cons, h x List.mem_cons_self, all_congr0 fun y hy => h y (List.mem_cons_of_mem _ hy)]
theorem givenOne_congr {ob ob' : Nat → Option (Obj U)} {i : Nat} {v : AV U} (h : ∀ p ∈ givenOne ob i v, ob p.1 = ob' p.1) : givenOne ob' i v = givenOne ob i v := by
  cases v with
  | ptr id off =>
    have : ob id = ob' id := h (id, gid i 0) (by unfold givenOne; exact List.mem_cons_self)
    simp only [givenOne, this]
  | _ => rfl
theorem given_congr {ob ob' : Nat → Option (Obj U)} : ∀ (args : List (AV U)) (i : Nat), (∀ p ∈ given ob args i, ob p.1 = ob' p.1) → given ob' args i = given ob args i
  | [], _, _ => rfl
  | v :: r, i, h => by
    unfold given at h ⊢
    rw [givenOne_congr (fun p hp => h p (List.mem_append_left _ hp)), given_congr r (i + 1) (fun p hp => h p (List.mem_append_right _ hp))]
theorem inQ_mem {q : List (Nat × Nat)} {n : Nat} (h : inQ q n = true) : ∃ p ∈ q, p.1 = n := by
  unfold inQ at h
  split at h
  · rename_i c hc
    exact ⟨(n, c), lk_mem hc, rfl⟩
  · cases h
theorem cov0_congr {ob ob' : Nat → Option (Obj U)} {q : List (Nat × Nat)} (h : ∀ p ∈ q, ob p.1 = ob' p.1) (v : AV U) : cov0 ob q v = cov0 ob' q v := by
  have key : ∀ id, (inQ q id && hasHdr ob id) = (inQ q id && hasHdr ob' id) := fun id => by
    cases hb : inQ q id with
    | false => rfl
    | true =>
      obtain ⟨p, hp, rfl⟩ := inQ_mem hb
      unfold hasHdr
      rw [h p hp]
  cases v <;> first | rfl | exact key _
theorem covA_congr {ob ob' : Nat → Option (Obj U)} {q : List (Nat × Nat)} (h : ∀ p ∈ q, ob p.1 = ob' p.1) (v : AV U) : covA ob q v = covA ob' q v := by
  have : cov0 ob q = cov0 ob' q := funext (cov0_congr h)
  cases v <;> simp only [covA, this]
theorem covV_congr {ob ob' : Nat → Option (Obj U)} {q : List (Nat × Nat)} (h : ∀ p ∈ q, ob p.1 = ob' p.1) (v : AV U) : covV ob q v = covV ob' q v := by
  have : covA ob q = covA ob' q := funext (covA_congr h)
  cases v <;> simp only [covV, this]
theorem covO_congr {ob ob' : Nat → Option (Obj U)} {q : List (Nat × Nat)} (h : ∀ p ∈ q, ob p.1 = ob' p.1) (o : Obj U) : covO ob q o = covO ob' q o := by
  have : cov0 ob q = cov0 ob' q := funext (cov0_congr h)
  cases o <;> simp only [covO, this]
theorem callX_congr {d : FDen U} {ob ob' : Nat → Option (Obj U)} {dst : Option Tmp} {args : List (AV U)} {K : AV U → Eff U → Option ρ} (h1 : ∀ p ∈ given ob args 0, ob p.1 = ob' p.1) (h2 : ∀ id, 10000000000000 * (dst.getD 0 + 1) ≤ id → ob id = ob' id) :
    callX d ob dst args K = callX d ob' dst args K := by
  have hq := given_congr args 0 h1
  have e1 : entryOk ob (given ob args 0) args = entryOk ob' (given ob args 0) args := by
    unfold entryOk
    rw [show (covV ob (given ob args 0)) = covV ob' (given ob args 0) from funext (covV_congr h1)]
    congr 1
    refine all_congr0 fun p hp => ?_
    rw [h1 p hp]
    cases ob' p.1 with
    | none => rfl
    | some o => exact covO_congr h1 o
  have e2 : entry d ob (given ob args 0) args = entry d ob' (given ob args 0) args := by
    unfold entry objsAt
    congr 1
    refine List.map_congr_left fun p hp => ?_
    rw [h1 p hp]
  have e3 : ∀ m : St U, exitOk ob (given ob args 0) (backQ (dst.getD 0) m args d.gh) m (backs m args d.gh) = exitOk ob' (given ob args 0) (backQ (dst.getD 0) m args d.gh) m (backs m args d.gh) := fun m => by
    unfold exitOk
    congr 1
    refine all_congr0 fun p hp => ?_
    cases hk : lk (backs m args d.gh) p.1 with
    | some a =>
      simp only
      cases hb : inQ (given ob args 0) a with
      | false => simp only [Bool.and_false, Bool.false_and]
      | true =>
        obtain ⟨z, hz, rfl⟩ := inQ_mem hb
        rw [h1 z hz]
    | none =>
      simp only
      unfold backQ at hp
      obtain ⟨z, _, rfl⟩ := List.mem_map.1 hp
      simp only at hk ⊢
      rw [hk]
      have hz : ob (nid (dst.getD 0) z.1) = ob' (nid (dst.getD 0) z.1) := h2 _ (Nat.le_add_left _ _)
      simp only [hz]
  unfold callX
  simp only [hq, e1, e2, e3]
theorem isX_local {E : Env U} {o : Oper} {ev ev' : Operand → AV U} (hev : ∀ x, x ∈ o.op.operands.toList → ev x = ev' x) : isX E o ev = isX E o ev' := by
  cases ho : o.op with
  | call c =>
    simp only [ho, Op.operands, Call.operands] at hev
    have hargs : ∀ x, x ∈ c.args.toList → ev x = ev' x := fun x hx => hev x (by simp; exact .inr (by simpa using hx))
    have this3 : argsA E c ev = argsA E c ev' := argsFrom_congr E c.argTypes c.args.toList 0 hargs
    simp only [isX, ho, this3]
    cases hc : c.callee with
    | value g => simp only [hev g (by simp [hc])]
    | _ => rfl
  | slice t x lo hi mx => cases mx <;> simp only [isX, ho]
  | lookup t x ix ok => simp only [ho, Op.operands] at hev; simp only [isX, ho, hev x (by simp)]
  | _ => simp only [isX, ho]
theorem opX0_local {E : Env U} {o : Oper} {ev ev' : Operand → AV U} {ob : Nat → Option (Obj U)} {K : AV U → Eff U → Option ρ} (hev : ∀ x, x ∈ o.op.operands.toList → ev x = ev' x) : opX0 E o ev ob K = opX0 E o ev' ob K := by
  unfold opX0
  split
  · rename_i c ho
    simp only [ho, Op.operands, Call.operands] at hev
    have hargs : ∀ x, x ∈ c.args.toList → ev x = ev' x := fun x hx => hev x (by simp; exact .inr (by simpa using hx))
    have this3 : argsA E c ev = argsA E c ev' := argsFrom_congr E c.argTypes c.args.toList 0 hargs
    cases hc : c.callee with
    | value g => simp only [hev g (by simp [hc]), this3]
    | _ => rfl
  · rename_i t x k k' ho
    simp only [ho, Op.operands] at hev
    rw [hev x (by simp)]
  · rename_i t x hi mx _ ho
    simp only [ho, Op.operands] at hev
    rw [hev x (by simp), hev hi (by simp), hev mx (by simp)]
  · rename_i t x ix ok ho
    simp only [ho, Op.operands] at hev
    rw [hev x (by simp), hev ix (by simp)]
  · rename_i t m k v ho
    simp only [ho, Op.operands] at hev
    rw [hev m (by simp), hev k (by simp), hev v (by simp)]
  · rename_i t m k v ho
    simp only [ho, Op.operands] at hev
    rw [hev m (by simp), hev k (by simp), hev v (by simp)]
  · rfl
  · rfl
theorem opX_local {E : Env U} {o : Oper} {ev ev' : Operand → AV U} {ob : Nat → Option (Obj U)} {K : AV U → Eff U → Option ρ} (hev : ∀ x, x ∈ o.op.operands.toList → ev x = ev' x) : opX E o ev ob K = opX E o ev' ob K := by
  have h1 : arOp E o ev ob = arOp E o ev' ob ∧ arK E o ev ob K = arK E o ev' ob K := by
    cases ho : o.op with
    | call c =>
      simp only [ho, Op.operands, Call.operands] at hev
      have hargs : ∀ x, x ∈ c.args.toList → ev x = ev' x := fun x hx => hev x (by simp; exact .inr (by simpa using hx))
      have this3 : argsA E c ev = argsA E c ev' := argsFrom_congr E c.argTypes c.args.toList 0 hargs
      cases hc : c.callee with
      | value g => simp only [arOp, arK, callB, ho, hc, hev g (by simp [hc]), this3, and_self]
      | _ => simp only [arOp, arK, callB, ho, hc, and_self]
    | lookup t x ix ok => simp only [ho, Op.operands] at hev; simp only [arOp, arK, ho, hev x (by simp), hev ix (by simp), and_self]
    | mapUpdate t m k v => simp only [ho, Op.operands] at hev; simp only [arOp, arK, ho, hev m (by simp), hev k (by simp), hev v (by simp), and_self]
    | makeMap t n => cases n <;> simp only [arOp, arK, ho, and_self]
    | _ => simp only [arOp, arK, ho, and_self]
  unfold opX
  rw [h1.1, h1.2, opX0_local hev]
theorem omAt_congr {ob ob' : Nat → Option (Obj U)} {v : AV U} (h : ∀ id, v = .mp id → ob id = ob' id) : omAt ob v = omAt ob' v := by
  cases v <;> first | rfl | simp only [omAt, h _ rfl]
theorem lookupX_congr {E : Env U} {ob ob' : Nat → Option (Obj U)} {t : TypeId} {m : Nat} {ix : AV U} {ok : Bool} {K : AV U → Eff U → Option ρ} (h : ob m = ob' m) : lookupX E ob t (.mp m) ix ok K = lookupX E ob' t (.mp m) ix ok K := by
  unfold lookupX
  cases E.P.underlying t with
  | none => rfl
  | some d => cases d <;> first | rfl | (dsimp only; rw [h])
theorem updateX_congr {E : Env U} {ob ob' : Nat → Option (Obj U)} {t : TypeId} {m : Nat} {k v : AV U} {K : AV U → Eff U → Option ρ} (h : ob m = ob' m) : updateX E ob t (.mp m) k v K = updateX E ob' t (.mp m) k v K := by
  unfold updateX
  cases E.P.underlying t with
  | none => rfl
  | some d => cases d <;> first | rfl | (dsimp only; rw [h])
theorem makeMapX_congr {E : Env U} {ob ob' : Nat → Option (Obj U)} {t : TypeId} {d : Option Nat} {K : AV U → Eff U → Option ρ} (h : ∀ k, d = some k → ob k = ob' k) : makeMapX E ob t d K = makeMapX E ob' t d K := by
  unfold makeMapX
  split
  · rw [h _ rfl]
  · rfl
theorem arLook_congr {E : Env U} {ob ob' : Nat → Option (Obj U)} {t : TypeId} {m : Nat} {ix : AV U} {ok : Bool} {K : AV U → Eff U → Option ρ} (h : ob m = ob' m) : arLook E ob t (.mp m) ix ok K = arLook E ob' t (.mp m) ix ok K := by
  unfold arLook
  cases E.P.underlying t with
  | none => rfl
  | some d => cases d <;> first | rfl | simp only [h]
theorem arLook_congr2 {E : Env U} {ob ob' : Nat → Option (Obj U)} {t : TypeId} {A : Nat} {j : Option Nat} {ix : AV U} {ok : Bool} {K : AV U → Eff U → Option ρ} (h : ob A = ob' A) : arLook E ob t (.sm A j) ix ok K = arLook E ob' t (.sm A j) ix ok K := by
  unfold arLook
  cases E.P.underlying t with
  | none => rfl
  | some d => cases d <;> first | rfl | simp only [h]
theorem opA_local {E : Env U} {o : Oper} {ev ev' : Operand → AV U} {ob ob' : Nat → Option (Obj U)} {K : AV U → Eff U → Option ρ}
    (hev : ∀ x, x ∈ o.op.operands.toList → ev x = ev' x) (hob : ∀ id, RelA E o ev ob id → ob id = ob' id) : opA E o ev ob K = opA E o ev' ob' K := by
  unfold opA
  rw [← isX_local hev]
  cases hb : isX E o ev with
  | true =>
    simp only [cond_true]
    rw [← opX_local (ob := ob') hev]
    by_cases hl : ∃ t x ix ok, o.op = .lookup t x ix ok
    · obtain ⟨t, x, ix, ok, ho⟩ := hl
      have hap0 : ∀ id, apartX E o ev ob id = apart0 E o ev ob id := fun id => by simp only [apartX, ho, isLook, Bool.not_true, Bool.and_false, cond_false]
      cases hx : ev x with
      | mp m =>
        have hm : ob m = ob' m := hob m (.inl ⟨hb, by rw [hap0]; simp only [apart0, ho, hx, Nat.beq_refl, Bool.not_true]⟩)
        have h2 : omAt ob (.mp m) = omAt ob' (.mp m) := omAt_congr fun id e => by cases e; exact hm
        simp only [opX, arOp, arK, opX0, ho, hx, h2]
        rw [lookupX_congr hm, arLook_congr hm]
      | sm A j =>
        have hm : ob A = ob' A := hob A (.inl ⟨hb, by rw [hap0]; simp only [apart0, ho, hx, Nat.beq_refl, Bool.not_true]⟩)
        simp only [opX, arOp, arK, opX0, ho, hx, omAt, cond_true]
        exact arLook_congr2 hm
      | _ =>
        have : ob = ob' := funext fun id => hob id (.inl ⟨hb, by rw [hap0]; simp only [apart0, ho, hx]⟩)
        rw [this]
    have hnl : ∀ b, (b && !(isLook o.op)) = b := fun b => by
      have : isLook o.op = false := by cases ho : o.op <;> first | rfl | exact absurd ⟨_, _, _, _, ho⟩ hl
      rw [this, Bool.not_false, Bool.and_true]
    cases har : arOp E o ev ob with
    | true =>
      have : ob = ob' := funext fun id => hob id (.inl ⟨hb, by simp only [apartX, har, hnl, cond_true]⟩)
      rw [this]
    | false =>
    have hap0 : ∀ id, apartX E o ev ob id = apart0 E o ev ob id := fun id => by simp only [apartX, har, hnl, cond_false]
    by_cases hc : ∃ c g f caps, o.op = .call c ∧ c.callee = .value g ∧ ev g = .fn f caps ∧ E.sf f = none
    · obtain ⟨c, g, f, caps, ho, hg, hf, hsf⟩ := hc
      have hap : ∀ id, apartX E o ev ob id = (Nat.blt id (10000000000000 * (o.dst.getD 0 + 1)) && !((given ob (argsA E c ev ++ caps) 0).any fun q => Nat.beq q.1 id)) := fun id => by rw [hap0]; simp only [apart0, ho, hg, hf, hsf]
      have h1 : ∀ p ∈ given ob (argsA E c ev ++ caps) 0, ob p.1 = ob' p.1 := fun p hp => hob p.1 (.inl ⟨hb, by
        rw [hap, List.any_eq_true.2 ⟨p, hp, Nat.beq_refl p.1⟩]
        simp⟩)
      have h2 : ∀ id, 10000000000000 * (o.dst.getD 0 + 1) ≤ id → ob id = ob' id := fun id hid => hob id (.inl ⟨hb, by
        rw [hap, show Nat.blt id (10000000000000 * (o.dst.getD 0 + 1)) = false by
          cases hz : Nat.blt id (10000000000000 * (o.dst.getD 0 + 1)) with
          | false => rfl
          | true => exact absurd (blt_lt hz) (Nat.not_lt.2 hid)]
        simp⟩)
      have har2 : arOp E o ev ob' = false := by
        rw [← har]
        simp only [arOp, ho, hg]
      simp only [opX, har, har2, cond_false, opX0, ho, hg, hf, hsf]
      cases E.fa f (argsA E c ev ++ caps) with
      | none => rfl
      | some d => exact callX_congr h1 h2
    by_cases hl2 : ∃ t x k v m, o.op = .insert t x k v ∧ ev x = .mp m
    · obtain ⟨t, x, k, v, m, ho, hx⟩ := hl2
      have hm : ob m = ob' m := hob m (.inl ⟨hb, by rw [hap0]; simp only [apart0, ho, hx, Nat.beq_refl, Bool.not_true]⟩)
      have har2 : arOp E o ev ob' = false := by simp only [arOp, ho]
      simp only [opX, har, har2, cond_false, opX0, ho, hx]
      rw [updateX_congr hm]
    by_cases hl3 : ∃ t, o.op = .makeMap t none
    · obtain ⟨t, ho⟩ := hl3
      have har2 : arOp E o ev ob' = false := by rw [← har]; simp only [arOp, ho]
      simp only [opX, har, har2, cond_false, opX0, ho]
      exact makeMapX_congr fun k hk => hob k (.inl ⟨hb, by rw [hap0]; simp only [apart0, ho, hk, Nat.beq_refl, Bool.not_true]⟩)
    · have : ob = ob' := funext fun id => hob id (.inl ⟨hb, by
        rw [hap0]
        unfold apart0
        split
        · rename_i c ho
          split
          · rename_i g hg
            split
            · rename_i f caps hf
              split
              · rfl
              · rename_i hsf
                exact absurd ⟨c, g, f, caps, ho, hg, hf, hsf⟩ hc
            · rfl
          · rfl
        · rename_i t x ix ok ho
          exact absurd ⟨t, x, ix, ok, ho⟩ hl
        · rename_i t x k v ho
          split
          · rename_i m hx
            exact absurd ⟨t, x, k, v, m, ho, hx⟩ hl2
          · rfl
        · rename_i t ho
          exact absurd ⟨t, ho⟩ hl3
        · rfl⟩)
      rw [this]
  | false => exact opK_local hev (fun id hid => hob id (.inr hid))
theorem opA_ids0 {E : Env U} {o : Oper} {ev : Operand → AV U} {ob : Nat → Option (Obj U)} {v : AV U} {u : Eff U} (h : opA E o ev ob pairK = some (v, u)) :
    ∀ id, id ∈ u.map (·.1) → (isX E o ev = true ∨ id ∈ relO o ev) ∧ (isX E o ev = true ∨ (stores o.op = true ∧ ∀ s : St U, s.op = ev → touched o s = some id) ∨ (isNew o.op = true ∧ o.dst = some id)) := by
  intro id hid
  cases hb : isX E o ev with
  | true => exact ⟨.inl rfl, .inl rfl⟩
  | false =>
    unfold opA at h
    rw [hb] at h
    obtain ⟨h1, h2⟩ := opK_ids h id hid
    exact ⟨.inr h1, .inr h2⟩
theorem isX_can {E : Env U} {o : Oper} {ev : Operand → AV U} (h : isX E o ev = true) : canX o.op = true := by
  unfold isX at h
  unfold canX
  split at h
  · split at h
    · rename_i g hc
      simp only [hc]
    · cases h
  · rfl
  · rfl
  · rfl
  · rfl
  · rfl
  · cases h
end Go.Ev
