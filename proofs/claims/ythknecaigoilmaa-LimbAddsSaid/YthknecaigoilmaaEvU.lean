import Derived.Test.YthknecaigoilmaaEvT
/-! Regions that draw their order: the one run serves all of them. -/
universe u
namespace Go.Ev
open Go.RowKit (Below)
variable {U : Univ} {ρ : Type}

def pairK : AV U → Eff U → Option (AV U × Eff U) := fun v u => some (v, u)

/-- The objects that an operation looks at. -/
def relO (o : Oper) (ev : Operand → AV U) : List Nat :=
  match o.op with
  | .load _ x | .store _ x _ | .indexAddr _ x _ => (touchId (ev x)).toList
  | .alloc _ | .box _ _ => o.dst.toList
  | _ => []

theorem opK_local {E : Env U} {o : Oper} {ev ev' : Operand → AV U} {ob ob' : Nat → Option (Obj U)} {K : AV U → Eff U → Option ρ}
    (hev : ∀ x, x ∈ o.op.operands.toList → ev x = ev' x) (hob : ∀ id, id ∈ relO o ev → ob id = ob' id) : opK E o ev ob K = opK E o ev' ob' K := by
  cases ho : o.op with
  | move x => simp only [ho, Op.operands] at hev; simp only [opK, ho, hev x (by simp)]
  | assign x => simp only [ho, Op.operands] at hev; simp only [opK, ho, hev x (by simp)]
  | pick c x y => simp only [ho, Op.operands] at hev; simp only [opK, ho, hev x (by simp), hev c (by simp), hev y (by simp)]
  | alloc t =>
    simp only [opK, ho]
    cases hd : o.dst with
    | none => rfl
    | some d => simp only [hob d (by simp [relO, ho, hd])]
  | box t x =>
    simp only [ho, Op.operands] at hev
    simp only [opK, ho, hev x (by simp)]
    cases hd : o.dst with
    | none => rfl
    | some d => simp only [hob d (by simp [relO, ho, hd])]
  | build t parts =>
    simp only [ho, Op.operands] at hev
    simp only [opK, ho]
    have : (parts.toList.map fun p => (p.1, ev p.2)) = (parts.toList.map fun p => (p.1, ev' p.2)) := by
      apply List.map_congr_left
      intro p hp
      rw [hev p.2 (by simp; exact ⟨p.1, by simpa using hp⟩)]
    rw [this]
  | load t x =>
    simp only [ho, Op.operands] at hev
    have hx := hev x (by simp)
    simp only [relO, ho] at hob
    simp only [opK, ho, ← hx]
    cases e : ev x with
    | ptr id off => simp only [elOk, loadAt0]; rw [hob id (by simp [e, touchId])]
    | el id i off => simp only [elOk, loadAt0]; rw [hob id (by simp [e, touchId])]
    | _ => rfl
  | store t x y =>
    simp only [ho, Op.operands] at hev
    have hx := hev x (by simp)
    have hy := hev y (by simp)
    simp only [relO, ho] at hob
    simp only [opK, ho, ← hx, ← hy]
    cases e : ev x with
    | ptr id off => simp only [elOk, storeAt0]; rw [hob id (by simp [e, touchId])]
    | el id i off => simp only [elOk, storeAt0]; rw [hob id (by simp [e, touchId])]
    | _ => rfl
  | binOp op t x y t' => simp only [ho, Op.operands] at hev; simp only [opK, ho, hev x (by simp), hev y (by simp)]
  | unOp op t x => simp only [ho, Op.operands] at hev; simp only [opK, ho, hev x (by simp)]
  | convert src dst x => simp only [ho, Op.operands] at hev; simp only [opK, ho, hev x (by simp)]
  | fieldAddr t x f => simp only [ho, Op.operands] at hev; simp only [opK, ho, hev x (by simp)]
  | field t x f => simp only [ho, Op.operands] at hev; simp only [opK, ho, hev x (by simp)]
  | indexAddr t x i =>
    simp only [ho, Op.operands] at hev
    have hx := hev x (by simp)
    have hi := hev i (by simp)
    simp only [relO, ho] at hob
    simp only [opK, ho, ← hx, ← hi]
    unfold indexAddrC
    split
    · split
      · split
        · rfl
        · split
          · rename_i id off e; rw [hob id (by simp [e, touchId])]
          · rfl
          · rfl
          · rfl
      · rfl
      · rfl
    · rfl
  | index t x i => simp only [ho, Op.operands] at hev; simp only [opK, ho, hev x (by simp), hev i (by simp)]
  | extract x i => simp only [ho, Op.operands] at hev; simp only [opK, ho, hev x (by simp)]
  | call c =>
    simp only [ho, Op.operands, Call.operands] at hev
    have : c.args.toList.map ev = c.args.toList.map ev' := by
      apply List.map_congr_left
      intro x hx
      exact hev x (by simp; exact .inr (by simpa using hx))
    simp only [opK, ho, this]
    cases hc : c.callee with
    | builtin b => rfl
    | value g => simp only [hev g (by simp [hc])]
    | invoke r m => rfl
  | _ => simp only [opK, ho]

def isNew : Op → Bool
  | .alloc _ | .box _ _ => true
  | _ => false

theorem opK_ids {E : Env U} {o : Oper} {ev : Operand → AV U} {ob : Nat → Option (Obj U)} {v : AV U} {u : Eff U} (h : opK E o ev ob pairK = some (v, u)) :
    u = [] ∨ ∃ id n, u = [(id, n)] ∧ id ∈ relO o ev ∧ (stores o.op = true ∨ (isNew o.op = true ∧ o.dst = some id)) := by
  have kv : ∀ {x : Option (AV U)}, kont x (fun v => pairK v []) = some (v, u) → u = [] := fun hk => by
    obtain ⟨z, rfl, hk2⟩ := kont_some hk
    simp [pairK] at hk2
    exact hk2.2
  have kp : ∀ {x : AV U}, pairK x [] = some (v, u) → u = [] := fun hk => by simp [pairK] at hk; exact hk.2
  cases ho : o.op with
  | move x => simp only [opK, ho] at h; exact .inl (kp h)
  | assign x => simp only [opK, ho] at h; exact .inl (kp h)
  | pick c x y =>
    simp only [opK, ho] at h
    split at h
    · rcases cond_some h with ⟨_, h⟩ | ⟨_, h⟩ <;> exact .inl (kp h)
    · cases h
  | alloc t =>
    simp only [opK, ho] at h
    split at h
    · rename_i d hd
      obtain ⟨z, hz, h⟩ := kont_some h
      obtain ⟨n, hn, h⟩ := kont_some h
      split at h
      · simp [pairK] at h
        exact .inr ⟨d, n, h.2.symm, by simp [relO, ho, hd], .inr ⟨rfl, hd⟩⟩
      · cases h
    · cases h
  | box t x =>
    simp only [opK, ho] at h
    split at h
    · rename_i d hd
      obtain ⟨z, hz, h⟩ := kont_some h
      obtain ⟨n, hn, h⟩ := kont_some h
      split at h
      · simp [pairK] at h
        exact .inr ⟨d, n, h.2.symm, by simp [relO, ho, hd], .inr ⟨rfl, hd⟩⟩
      · cases h
    · cases h
  | build t parts => simp only [opK, ho] at h; exact .inl (kv h)
  | load t x => simp only [opK, ho] at h; exact .inl (kv (cond_none h).2)
  | store t x y =>
    simp only [opK, ho] at h
    obtain ⟨hel, h⟩ := cond_none h
    obtain ⟨⟨id, n⟩, hs, h⟩ := kont_some h
    replace hs := storeAt_of hel hs
    simp [pairK] at h
    refine .inr ⟨id, n, h.2.symm, ?_, .inl rfl⟩
    simp only [relO, ho]
    unfold storeAt at hs
    split at hs
    · cases hs
    · obtain ⟨_, hs⟩ := cond_none hs
      split at hs
      · rename_i id' off e
        have : id' = id := by
          split at hs
          · obtain ⟨_, hs⟩ := cond_none hs; cases hs; rfl
          · split at hs
            · split at hs
              · cases hs; rfl
              · cases hs
            · cases hs
          · cases hs
        simp [e, touchId, this]
      · rename_i id' i off e
        have : id' = id := by
          split at hs
          · obtain ⟨_, hs⟩ := cond_none hs
            split at hs
            · cases hs; rfl
            · cases hs
          · cases hs
        simp [e, touchId, this]
      · cases hs
  | binOp op t x y t' =>
    simp only [opK, ho] at h
    unfold binC at h
    split at h
    · split at h
      · exact .inl (kp (cond_none' h).2)
      · exact .inl (kp (cond_none' h).2)
      · have h := (cond_none h).2
        unfold binI at h
        split at h
        case h_4 => exact .inl (kp (cond_none' h).2)
        case h_5 => exact .inl (kp (cond_none' h).2)
        case h_16 => cases h
        all_goals exact .inl (kp h)
    · split at h
      · exact .inl (kp h)
      · exact .inl (kp h)
      · cases h
    · split at h
      · cases h
      · have h := (cond_none h).2
        split at h
        · exact .inl (kp h)
        · exact .inl (kp h)
        · cases h
    · cases h
  | unOp op t x => simp only [opK, ho] at h; exact .inl (kv h)
  | convert src dst x =>
    simp only [opK, ho] at h
    split at h
    · exact .inl (kp h)
    · cases h
  | fieldAddr t x f =>
    simp only [opK, ho] at h
    obtain ⟨fl, hfl, h⟩ := kont_some h
    exact .inl (kv h)
  | field t x f =>
    simp only [opK, ho] at h
    obtain ⟨fl, hfl, h⟩ := kont_some h
    split at h
    · exact .inl (kv h)
    · cases h
  | indexAddr t x i =>
    simp only [opK, ho] at h
    unfold indexAddrC at h
    split at h
    · split at h
      · split at h
        · cases h
        · split at h
          · split at h
            · exact .inl (kp (cond_none (cond_none h).2).2)
            · exact .inl (kp (cond_none h).2)
            · cases h
          · exact .inl (kp (cond_none h).2)
          · exact .inl (kp (cond_none h).2)
          · cases h
      · split at h
        · exact .inl (kp (cond_none (cond_none h).2).2)
        · cases h
      · cases h
    · cases h
  | index t x i =>
    simp only [opK, ho] at h
    unfold indexC at h
    split at h
    · split at h
      · split at h
        · cases h
        · have h := (cond_none h).2
          split at h
          · exact .inl (kp h)
          · cases h
      · cases h
    · cases h
  | extract x i =>
    simp only [opK, ho] at h
    split at h
    · exact .inl (kv h)
    · cases h
  | call c =>
    simp only [opK, ho] at h
    split at h
    · exact .inl (kv h)
    · split at h
      · obtain ⟨d, hd, h⟩ := kont_some h
        have h := (cond_none h).2
        obtain ⟨x, hx, h⟩ := kont_some h
        obtain ⟨y, hy, h⟩ := Option.bind_eq_some_iff.1 h
        exact .inl (kp h)
      · cases h
    · cases h
  | _ => simp only [opK, ho] at h; cases h
end Go.Ev
