import Derived.Test.YtbchcjlllddlpaaEvT
universe u
namespace Go.Ev
set_option linter.unusedVariables false
set_option linter.unusedSimpArgs false
open Go.RowKit (Below)
variable {U : Wdr} {ρ : Type}
def Wca : AV U → Eff U → Option (AV U × Eff U) := fun v u => some (v, u)
def Wdx (o : Oper) (ev : Operand → AV U) : List Nat :=
 match o.op with
 | .load _ x | .store _ x _ => (Weq (ev x)).toList
 | .indexAddr _ x _ => (seeId (ev x)).toList
 | .alloc _ | .box _ _ | .buildSlice .. | .makeSlice .. => o.dst.toList
 | .move x | .assign x => bif isNil (ev x) then o.dst.toList else []
 | .call c => match Wfn c with
  | some a => (Qea (ev a)).toList ++ o.dst.toList
  | none => []
 | _ => []
theorem drop_ptr {x : AV U} {id off : Nat} (h : x.drop = .ptr id off) : x = .ptr id off := by cases x <;> first | exact h | cases h
theorem Qoo {E : Env U} {t : TypeId} {xs : List (AV U)} : ∃ ys, tidy E t (.agg xs) = .agg ys := by
 simp only [tidy]
 cases xs.all sleek with
 | true => exact ⟨_, rfl⟩
 | false =>
  simp only [cond_false]
  split
  ·rename_i cs _
   cases Nat.beq cs.length xs.length <;> exact ⟨_, rfl⟩
  ·exact ⟨_, rfl⟩
theorem nil_ptr {E : Env U} {t : TypeId} {x : AV U} {id off : Nat} (h : Wfc E t x.drop = .ptr id off) : x = .ptr id off := by
 unfold Wfc at h
 split at h
 ·split at h
  ·cases h
  ·rename_i e _ _; rw [e] at h; cases h
 ·obtain ⟨ys, e⟩ := Qoo (E := E) (t := t); rw [e] at h; cases h
 ·exact drop_ptr h
theorem Qij {E : Env U} {ob ob' : Nat → Option (Obj U)} {ts : Array TypeId} {args : List (AV U)} {dst : Option Tmp} {K : AV U → Eff U → Option ρ}
  (hob : ∀ id, (∃ x, args[0]? = some x ∧ Qea x = some id) ∨ dst = some id → ob id = ob' id) : Wht E ob ts args dst K = Wht E ob' ts args dst K := by
 unfold Wht
 split
 ·rename_i t t' x y d e0 e1
  split
  ·split
   ·split
    ·rfl
    ·rw [hob d (.inr rfl)]
     split
     ·rfl
     ·split
      ·rename_i id c1 l1
       split
       ·rfl
       ·rw [hob id (.inl ⟨_, rfl, rfl⟩)]
      ·rename_i id
       rw [hob id (.inl ⟨_, rfl, rfl⟩)]
      ·rfl
      ·rfl
   ·rfl
  ·rfl
 ·rfl
theorem drop_vs {x : AV U} {id : Nat} (h : x.drop = .vs id) : x = .vs id := by cases x <;> first | exact h | cases h
theorem nil_vs {E : Env U} {t : TypeId} {x : AV U} {id : Nat} (h : Wfc E t x.drop = .vs id) : x = .vs id := by
 unfold Wfc at h
 split at h
 ·split at h
  ·cases h
  ·rename_i e _ _; rw [e] at h; cases h
 ·obtain ⟨ys, e⟩ := Qoo (E := E) (t := t); rw [e] at h; cases h
 ·exact drop_vs h
theorem Qbw {E : Env U} {ob ob' : Nat → Option (Obj U)} {t : TypeId} {d : Option Tmp} {x : AV U} {K : AV U → Eff U → Option ρ} (hob : isNil x = true → ∀ id, d = some id → ob id = ob' id) :
  moveC E ob t d x K = moveC E ob' t d x K := by
 unfold moveC
 split
 ·split
  ·rw [hob rfl _ rfl]
  ·rfl
 ·rfl
theorem Qto {E : Env U} {ob ob' : Nat → Option (Obj U)} {ts : Array TypeId} {args : List (AV U)} {K : AV U → Option ρ} (hob : ∀ id x, args[0]? = some x → Qea x = some id → ob id = ob' id) :
  lenC E ob ts args K = lenC E ob' ts args K := by
 unfold lenC
 split
 ·split
  ·rw [hob _ _ rfl rfl]
  ·rfl
 ·split
  ·rw [hob _ _ rfl rfl]
  ·rfl
 ·rfl
theorem Wzt {E : Env U} {ob ob' : Nat → Option (Obj U)} {t : TypeId} {d : Option Tmp} {x y : AV U} {K : AV U → Eff U → Option ρ} (hob : ∀ id, d = some id → ob id = ob' id) :
  Wgm E ob t d x y K = Wgm E ob' t d x y K := by
 unfold Wgm
 split
 ·split
  ·rfl
  ·split
   ·rw [hob _ rfl]
   ·rfl
 ·rfl
theorem opK_local {E : Env U} {o : Oper} {ev ev' : Operand → AV U} {ob ob' : Nat → Option (Obj U)} {K : AV U → Eff U → Option ρ}
  (hev : ∀ x, x ∈ o.op.operands.toList → ev x = ev' x) (hob : ∀ id, id ∈ Wdx o ev → ob id = ob' id) : opK E o ev ob K = opK E o ev' ob' K := by
 cases ho : o.op with
 | move x =>
  simp only [ho, Op.operands] at hev
  simp only [opK, ho, hev x (by simp)]
  exact Qbw (fun hn id hid => hob id (by simp [Wdx, ho, hid, hev x (by simp), hn]))
 | assign x =>
  simp only [ho, Op.operands] at hev
  simp only [opK, ho, hev x (by simp)]
  exact Qbw (fun hn id hid => hob id (by simp [Wdx, ho, hid, hev x (by simp), hn]))
 | pick c x y => simp only [ho, Op.operands] at hev; simp only [opK, ho, hev x (by simp), hev c (by simp), hev y (by simp)]
 | alloc t =>
  simp only [opK, ho]
  cases hd : o.dst with
  | none => rfl
  | some d => simp only [hob d (by simp [Wdx, ho, hd])]
 | box t x =>
  simp only [ho, Op.operands] at hev
  simp only [opK, ho, hev x (by simp)]
  cases hd : o.dst with
  | none => rfl
  | some d => simp only [hob d (by simp [Wdx, ho, hd])]
 | build t parts =>
  simp only [ho, Op.operands] at hev
  simp only [opK, ho]
  have : (parts.toList.map fun p => (p.1, (ev p.2).drop)) = (parts.toList.map fun p => (p.1, (ev' p.2).drop)) := by
   apply List.map_congr_left
   intro p hp
   rw [hev p.2 (by simp; exact ⟨p.1, by simpa using hp⟩)]
  rw [this]
 | load t x =>
  simp only [ho, Op.operands] at hev
  have hx := hev x (by simp)
  simp only [Wdx, ho] at hob
  simp only [opK, ho, ← hx]
  cases e : ev x with
  | ptr id off => simp only [Wxt, Wiz]; rw [hob id (by simp [e, Weq])]
  | el id i off => simp only [Wxt, Wiz]; rw [hob id (by simp [e, Weq])]
  | pe id b sz n i off => simp only [Wxt, Wiz]; rw [hob id (by simp [e, Weq])]
  | _ => rfl
 | store t x y =>
  simp only [ho, Op.operands] at hev
  have hx := hev x (by simp)
  have hy := hev y (by simp)
  simp only [Wdx, ho] at hob
  simp only [opK, ho, ← hx, ← hy]
  cases e : ev x with
  | ptr id off => simp only [Wxt, Wkm, stV]; rw [hob id (by simp [e, Weq])]
  | el id i off => simp only [Wxt, Wkm, stV]; rw [hob id (by simp [e, Weq])]
  | pe id b sz n i off => simp only [Wxt, Wkm, stV]; rw [hob id (by simp [e, Weq])]
  | _ => rfl
 | binOp op t x y t' => simp only [ho, Op.operands] at hev; simp only [opK, ho, hev x (by simp), hev y (by simp)]
 | unOp op t x => simp only [ho, Op.operands] at hev; simp only [opK, ho, hev x (by simp)]
 | nilCheck x => simp only [ho, Op.operands] at hev; simp only [opK, ho, hev x (by simp)]
 | convert src dst x => simp only [ho, Op.operands] at hev; simp only [opK, ho, hev x (by simp)]
 | fieldAddr t x f => simp only [ho, Op.operands] at hev; simp only [opK, ho, hev x (by simp)]
 | field t x f => simp only [ho, Op.operands] at hev; simp only [opK, ho, hev x (by simp)]
 | indexAddr t x i =>
  simp only [ho, Op.operands] at hev
  have hx := hev x (by simp)
  have hi := hev i (by simp)
  simp only [Wdx, ho] at hob
  simp only [opK, ho, ← hx, ← hi]
  unfold Wgn
  split
  ·split
   ·split
    ·rfl
    ·split
     ·rename_i id off e; rw [hob id (by simp [nil_ptr e, seeId])]
     ·rfl
     ·rfl
     ·rfl
     ·rfl
   ·split
    ·rfl
    ·rename_i id e; rw [hob id (by simp [nil_vs e, seeId])]
    ·rfl
   ·rfl
  ·rfl
 | index t x i => simp only [ho, Op.operands] at hev; simp only [opK, ho, hev x (by simp), hev i (by simp)]
 | extract x i => simp only [ho, Op.operands] at hev; simp only [opK, ho, hev x (by simp)]
 | makeFunc fn first caps =>
  simp only [ho, Op.operands] at hev
  have e : caps.toList.map ev = caps.toList.map ev' := List.map_congr_left fun x hx => hev x (by simp at hx ⊢; exact .inr hx)
  simp only [opK, ho, e]
 | buildSlice t n parts =>
  simp only [ho, Op.operands] at hev
  simp only [opK, ho]
  have : (parts.toList.map fun p => (p.1, nilE E t (ev p.2).drop)) = (parts.toList.map fun p => (p.1, nilE E t (ev' p.2).drop)) := by
   apply List.map_congr_left
   intro p hp
   rw [hev p.2 (by simp; exact ⟨p.1, by simpa using hp⟩)]
  rw [this]
  cases hd : o.dst with
  | none => rfl
  | some d => simp only [hob d (by simp [Wdx, ho, hd])]
 | makeSlice t x y =>
  simp only [ho, Op.operands] at hev
  simp only [opK, ho, hev x (by simp), hev y (by simp)]
  exact Wzt (fun id hid => hob id (by simp [Wdx, ho, hid]))
 | slice t x lo hi mx =>
  simp only [ho, Op.operands] at hev
  have hx := hev x (by simp)
  have hl : lo.map ev = lo.map ev' := by
   cases lo with
   | none => rfl
   | some z => simp only [Option.map_some]; rw [hev z (by simp)]
  have hh : hi.map ev = hi.map ev' := by
   cases hi with
   | none => rfl
   | some z => simp only [Option.map_some]; rw [hev z (by simp)]
  simp only [opK, ho, hx, hl, hh]
 | call c =>
  simp only [ho, Op.operands, Call.operands] at hev
  have hargs : ∀ x, x ∈ c.args.toList → ev x = ev' x := fun x hx => hev x (by simp; exact .inr (by simpa using hx))
  have : c.args.toList.map ev = c.args.toList.map ev' := List.map_congr_left hargs
  have this2 : (c.args.toList.map fun x => (ev x).drop) = (c.args.toList.map fun x => (ev' x).drop) := List.map_congr_left (fun x hx => by rw [hargs x hx])
  have Qed : Wdg E c ev = Wdg E c ev' := Zfd E c.argTypes c.args.toList 0 hargs
  simp only [opK, ho, this, this2, Qed]
  cases hc : c.callee with
  | builtin b =>
   by_cases hb : b = .append
   ·subst hb
    simp only
    cases hz0 : c.args[0]? with
    | none =>
     have : c.args.toList = [] := by
      cases hl : c.args.toList with
      | nil => rfl
      | cons z zs => have h1 := congrArg List.length hl; simp at h1; rw [Array.getElem?_eq_none_iff] at hz0; omega
     simp [this, Wht]
    | some z0 =>
    refine Qij (fun id hid => hob id ?_)
    simp only [Wdx, ho, Wfn, appArg, hc, hz0]
    rcases hid with ⟨x, hx, ht⟩ | hd
    ·rw [← this] at hx
     simp only [List.getElem?_map, Z4] at hx
     obtain ⟨z, hz, rfl⟩ := hx
     have h2 : c.args[0]? = some z := by simpa using hz
     rw [hz0] at h2
     cases h2
     simp [ht]
    ·simp [hd]
   ·by_cases hb2 : b = .len
    ·subst hb2
     simp only
     refine Qto (fun id x hx ht => hob id ?_)
     rw [← this] at hx
     simp only [List.getElem?_map, Z4] at hx
     obtain ⟨z, hz, rfl⟩ := hx
     have h2 : c.args[0]? = some z := by simpa using hz
     simp [Wdx, ho, Wfn, appArg, lenArg, hc, h2, ht]
    ·cases b <;> first | rfl | exact absurd rfl hb | exact absurd rfl hb2
  | value g => simp only [hev g (by simp [hc])]
  | invoke r m => rfl
 | _ => simp only [opK, ho]
theorem Qji {E : Env U} {ob : Nat → Option (Obj U)} {t : TypeId} {d : Option Tmp} {x v : AV U} {u : Eff U} (h : moveC E ob t d x Wca = some (v, u)) : u = [] ∨ ∃ d' n, u = [(d', n)] ∧ d = some d' ∧ isNil x = true := by
 unfold moveC at h
 split at h
 ·split at h
  ·split at h
   ·(rcases Zei h with ⟨_, h⟩ | ⟨_, h⟩ <;> (simp [Wca] at h; exact .inr ⟨_, _, h.2.symm, rfl, rfl⟩))
   ·(rcases Zei h with ⟨_, h⟩ | ⟨_, h⟩ <;> (simp [Wca] at h; exact .inl h.2))
  ·simp [Wca] at h; exact .inl h.2
 ·simp [Wca] at h; exact .inl h.2
theorem opK_ids0 {E : Env U} {o : Oper} {ev : Operand → AV U} {ob : Nat → Option (Obj U)} {v : AV U} {u : Eff U} (h : opK E o ev ob Wca = some (v, u)) :
  u = [] ∨ (∃ id n, u = [(id, n)] ∧ id ∈ Wdx o ev ∧ ((∃ t x y, o.op = .store t x y) ∨ (Wfl o.op = true ∧ o.dst = some id))) ∨
   ∃ c z id d n, o.op = .call c ∧ appArg c = some z ∧ Qea (ev z) = some id ∧ o.dst = some d ∧ u = [(id, .dead), (d, n)] := by
 have kg : ∀ {x : Option (AV U)} {g : AV U → AV U}, Wfp x (fun v => Wca (g v) []) = some (v, u) → u = [] := fun hk => by
  obtain ⟨z, rfl, hk2⟩ := Zba hk
  simp [Wca] at hk2
  exact hk2.2
 have kv : ∀ {x : Option (AV U)}, Wfp x (fun v => Wca v []) = some (v, u) → u = [] := fun hk => by
  obtain ⟨z, rfl, hk2⟩ := Zba hk
  simp [Wca] at hk2
  exact hk2.2
 have kp : ∀ {x : AV U}, Wca x [] = some (v, u) → u = [] := fun hk => by simp [Wca] at hk; exact hk.2
 cases ho : o.op with
 | move x =>
  simp only [opK, ho] at h
  rcases Qji h with hu | ⟨d, n, hu, hd, hn⟩
  ·exact .inl hu
  ·exact .inr (.inl ⟨d, n, hu, by simp [Wdx, ho, hd, hn], .inr ⟨by simp [Wfl], hd⟩⟩)
 | assign x =>
  simp only [opK, ho] at h
  rcases Qji h with hu | ⟨d, n, hu, hd, hn⟩
  ·exact .inl hu
  ·exact .inr (.inl ⟨d, n, hu, by simp [Wdx, ho, hd, hn], .inr ⟨by simp [Wfl], hd⟩⟩)
 | pick c x y =>
  simp only [opK, ho] at h
  split at h
  ·rcases Zei h with ⟨_, h⟩ | ⟨_, h⟩ <;> exact .inl (kp h)
  ·cases h
 | alloc t =>
  simp only [opK, ho] at h
  split at h
  ·rename_i d hd
   obtain ⟨z, hz, h⟩ := Zba h
   obtain ⟨n, hn, h⟩ := Zba h
   split at h
   ·simp [Wca] at h
    exact .inr (.inl ⟨d, n, h.2.symm, by simp [Wdx, ho, hd], .inr ⟨by simp [Wfl, ho], hd⟩⟩)
   ·cases h
  ·cases h
 | box t x =>
  simp only [opK, ho] at h
  split at h
  ·rename_i d hd
   obtain ⟨z, hz, h⟩ := Zba h
   obtain ⟨n, hn, h⟩ := Zba h
   split at h
   ·simp [Wca] at h
    exact .inr (.inl ⟨d, n, h.2.symm, by simp [Wdx, ho, hd], .inr ⟨by simp [Wfl, ho], hd⟩⟩)
   ·cases h
  ·cases h
 | build t parts => simp only [opK, ho] at h; exact .inl (kv h)
 | load t x => simp only [opK, ho] at h; exact .inl (kg (Zr h).2)
 | store t x y =>
  simp only [opK, ho] at h
  obtain ⟨hel, h⟩ := Zr h
  obtain ⟨⟨id, n⟩, hs, h⟩ := Zba h
  replace hs := Qee hel hs
  simp [Wca] at h
  refine .inr (.inl ⟨id, n, h.2.symm, ?_, .inl ⟨_, _, _, rfl⟩⟩)
  simp only [Wdx, ho]
  rw [← Qcp]
  unfold storeAt at hs
  split at hs
  ·cases hs
  ·obtain ⟨_, hs⟩ := Zr hs
   split at hs
   ·rename_i id' off e
    have : id' = id := by
     split at hs
     ·obtain ⟨_, hs⟩ := Zr hs; cases hs; rfl
     ·split at hs
      ·split at hs
       ·cases hs; rfl
       ·cases hs
      ·cases hs
     ·cases hs
    simp [e, Weq, this]
   ·rename_i id' i off e
    have : id' = id := by
     split at hs
     ·obtain ⟨_, hs⟩ := Zr hs
      split at hs
      ·cases hs; rfl
      ·cases hs
     ·obtain ⟨_, hs⟩ := Zr hs
      split at hs
      ·cases hs; rfl
      ·cases hs
     ·cases hs
    simp [e, Weq, this]
   ·cases hs
 | binOp op t x y t' =>
  simp only [opK, ho] at h
  unfold binC at h
  split at h
  ·split at h
   ·exact .inl (kp (Zed h).2)
   ·exact .inl (kp (Zed h).2)
   ·have h := (Zr h).2
    unfold binI at h
    split at h
    case h_4 => exact .inl (kp (Zed h).2)
    case h_5 => exact .inl (kp (Zed h).2)
    case h_16 => cases h
    all_goals exact .inl (kp h)
  ·split at h
   ·exact .inl (kp h)
   ·exact .inl (kp h)
   ·cases h
  ·split at h
   ·exact .inl (kp h)
   ·exact .inl (kp h)
   ·cases h
  ·split at h
   ·exact .inl (kp h)
   ·exact .inl (kp h)
   ·cases h
  ·split at h
   ·exact .inl (kp h)
   ·exact .inl (kp h)
   ·cases h
  ·split at h
   ·cases h
   ·have h := (Zr h).2
    split at h
    ·exact .inl (kp h)
    ·exact .inl (kp h)
    ·cases h
  ·cases h
 | unOp op t x => simp only [opK, ho] at h; exact .inl (kv h)
 | nilCheck x =>
  simp only [opK, ho] at h
  split at h
  ·exact .inl (kp h)
  ·exact .inl (kp h)
  ·cases h
 | convert src dst x =>
  simp only [opK, ho] at h
  split at h
  ·exact .inl (kp h)
  ·cases h
 | fieldAddr t x f =>
  simp only [opK, ho] at h
  obtain ⟨fl, hfl, h⟩ := Zba h
  exact .inl (kv h)
 | field t x f =>
  simp only [opK, ho] at h
  obtain ⟨fl, hfl, h⟩ := Zba h
  split at h
  ·exact .inl (kv h)
  ·cases h
 | indexAddr t x i =>
  simp only [opK, ho] at h
  unfold Wgn at h
  split at h
  ·split at h
   ·split at h
    ·cases h
    ·split at h
     ·split at h
      ·exact .inl (kp (Zr (Zr h).2).2)
      ·exact .inl (kp (Zr h).2)
      ·cases h
     ·exact .inl (kp (Zr h).2)
     ·exact .inl (kp (Zr h).2)
     ·exact .inl (kp (Zr (Zr h).2).2)
     ·cases h
   ·split at h
    ·exact .inl (kp (Zr (Zr h).2).2)
    ·split at h
     ·exact .inl (kp (Zr (Zr h).2).2)
     ·cases h
    ·cases h
   ·cases h
  ·cases h
 | index t x i =>
  simp only [opK, ho] at h
  unfold Qmi at h
  split at h
  ·split at h
   ·split at h
    ·cases h
    ·have h := (Zr h).2
     split at h
     ·exact .inl (kp h)
     ·cases h
   ·cases h
  ·cases h
 | makeFunc fn first caps =>
  simp only [opK, ho] at h
  split at h
  ·simp [Wca] at h; exact .inl h.2
  ·cases h
 | extract x i =>
  simp only [opK, ho] at h
  split at h
  ·exact .inl (kv h)
  ·cases h
 | buildSlice t n parts =>
  simp only [opK, ho] at h
  split at h
  ·rename_i d hd
   obtain ⟨z, hz, h⟩ := Zba h
   split at h
   ·rcases Zei h with ⟨_, h⟩ | ⟨_, h⟩
    ·simp [Wca] at h
     exact .inr (.inl ⟨d, _, h.2.symm, by simp [Wdx, ho, hd], .inr ⟨by simp [Wfl], hd⟩⟩)
    ·simp [Wca] at h
     exact .inr (.inl ⟨d, _, h.2.symm, by simp [Wdx, ho, hd], .inr ⟨by simp [Wfl], hd⟩⟩)
   ·cases h
  ·cases h
 | makeSlice t x y =>
  simp only [opK, ho] at h
  unfold Wgm at h
  split at h
  case h_2 => cases h
  rename_i hd _ _
  split at h
  ·cases h
  split at h
  case h_2 => cases h
  split at h
  case h_2 => cases h
  obtain ⟨_, h⟩ := Zr h
  rcases Zei h with ⟨_, h⟩ | ⟨_, h⟩
  ·simp [Wca] at h
   exact .inr (.inl ⟨_, _, h.2.symm, by simp [Wdx, ho, hd], .inr ⟨by simp [Wfl], hd⟩⟩)
  ·simp [Wca] at h
   exact .inr (.inl ⟨_, _, h.2.symm, by simp [Wdx, ho, hd], .inr ⟨by simp [Wfl], hd⟩⟩)
 | slice t x lo hi mx =>
  simp only [opK, ho] at h
  unfold Qlk at h
  split at h
  case h_2 => cases h
  split at h
  case h_2 => cases h
  obtain ⟨_, h⟩ := Zr h
  split at h
  ·exact .inl (kp h)
  ·exact .inl (kp (Zr h).2)
  ·exact .inl (kp (Zr h).2)
  ·exact .inl (kp (Zr h).2)
  ·cases h
 | call c =>
  simp only [opK, ho] at h
  split at h
  ·rename_i hc
   obtain ⟨v', u', h1, h2, d, hd, hu⟩ := Wta h
   simp [Wca] at h2
   obtain ⟨rfl, rfl⟩ := h2
   have hdst : o.dst = some d := hd
   have ha : ∃ z, appArg c = some z := by
    have : 0 < c.args.size := by
     cases hn : c.args.toList with
     | nil => rw [hn] at h; simp [Wht] at h
     | cons z zs => have := congrArg List.length hn; simp at this; omega
    exact ⟨c.args[0], by simp [appArg, hc, this]⟩
   obtain ⟨z, hz⟩ := ha
   rcases hu with ⟨n, hu⟩ | ⟨x, y, id, n, hargs, hx, hu⟩
   ·refine .inr (.inl ⟨d, _, hu, ?_, .inr ⟨by simp [Wfl, Wfn, hz], hdst⟩⟩)
    simp [Wdx, ho, Wfn, hz, hdst]
   ·refine .inr (.inr ⟨c, z, id, d, _, rfl, hz, ?_, hdst, hu⟩)
    have hz' : c.args[0]? = some z := by simpa [appArg, hc] using hz
    have : (c.args.toList.map ev)[0]? = some (ev z) := by simp [hz']
    rw [hargs] at this
    simp at this
    rw [← this, hx]
  ·unfold lenC at h
   split at h
   ·split at h
    ·split at h
     ·exact .inl (kp h)
     ·cases h
    ·cases h
   ·split at h
    ·split at h
     ·exact .inl (kp h)
     ·cases h
    ·cases h
   ·split at h
    ·exact .inl (kp h)
    ·cases h
  ·exact .inl (kv h)
  ·split at h
   ·obtain ⟨d, hd, h⟩ := Zba h
    have h := (Zr h).2
    obtain ⟨x, hx, h⟩ := Zba h
    obtain ⟨y, hy, h⟩ := Option.bind_eq_some_iff.1 h
    exact .inl (kp h)
   ·cases h
  ·cases h
 | _ => simp only [opK, ho] at h; cases h
theorem Qlw {E : Env U} {o : Oper} {ev : Operand → AV U} {ob : Nat → Option (Obj U)} {v : AV U} {u : Eff U} (h : opK E o ev ob Wca = some (v, u)) :
  ∀ id, id ∈ u.map (·.1) → id ∈ Wdx o ev ∧ ((stores o.op = true ∧ ∀ s : St U, s.op = ev → touched o s = some id) ∨ (Wfl o.op = true ∧ o.dst = some id)) := by
 intro id hid
 rcases opK_ids0 h with rfl | ⟨id', n, rfl, hr, hs⟩ | ⟨c, z, id', d, n, ho, hz, ht, hd, rfl⟩
 ·simp at hid
 ·simp at hid
  subst hid
  refine ⟨hr, ?_⟩
  rcases hs with ⟨t, x, y, ho⟩ | hs
  ·refine .inl ⟨by simp [ho, stores], fun s hs => ?_⟩
   simp only [Wdx, ho] at hr
   simp at hr
   simp [touched, ho, hs, hr]
  ·exact .inr hs
 ·simp at hid
  have hrel : Wdx o ev = [id', d] := by simp [Wdx, ho, Wfn, hz, ht, hd]
  rw [hrel]
  rcases hid with rfl | rfl
  ·exact ⟨by simp, .inl ⟨by simp [ho, stores, hz], fun s hs => by simp [touched, ho, Wfn, hz, hs, ht]⟩⟩
  ·exact ⟨by simp, .inr ⟨by simp [ho, Wfl, Wfn, hz], hd⟩⟩
def Whw (E : Env U) (o : Oper) (ev : Operand → AV U) (ob : Nat → Option (Obj U)) (id : Nat) : Bool := match o.op with
 | .call c => match c.callee with
  | .value g => match ev g with
   | .fn f caps => match E.sf f with
    | some _ => false
    | none => Nat.blt id (10000000000000 * (o.dst.getD 0 + 1)) && !((given ob (Wdg E c ev ++ caps) 0).any fun q => Nat.beq q.1 id)
   | _ => false
  | _ => false
 | .lookup _ x _ _ => match ev x with
  | .mp m => !(Nat.beq m id)
  | _ => false
 | _ => false
def RelA (E : Env U) (o : Oper) (ev : Operand → AV U) (ob : Nat → Option (Obj U)) (id : Nat) : Prop := (isX E o ev = true ∧ Whw E o ev ob id = false) ∨ id ∈ Wdx o ev
theorem Wve {α : Type} : ∀ {l : List α} {f g : α → Bool}, (∀ x ∈ l, f x = g x) → l.all f = l.all g
 | [], _, _, _ => rfl
 | x :: r, f, g, h => by
  rw [List.all_cons, List.all_cons, h x List.mem_cons_self, Wve fun y hy => h y (List.mem_cons_of_mem _ hy)]
theorem Qgw {ob ob' : Nat → Option (Obj U)} {i : Nat} {v : AV U} (h : ∀ p ∈ Wnk ob i v, ob p.1 = ob' p.1) : Wnk ob' i v = Wnk ob i v := by
 cases v with
 | ptr id off =>
  have : ob id = ob' id := h (id, gid i 0) (by unfold Wnk; exact List.mem_cons_self)
  simp only [Wnk, this]
 | _ => rfl
theorem Qca {ob ob' : Nat → Option (Obj U)} : ∀ (args : List (AV U)) (i : Nat), (∀ p ∈ given ob args i, ob p.1 = ob' p.1) → given ob' args i = given ob args i
 | [], _, _ => rfl
 | v :: r, i, h => by
  unfold given at h ⊢
  rw [Qgw (fun p hp => h p (List.mem_append_left _ hp)), Qca r (i + 1) (fun p hp => h p (List.mem_append_right _ hp))]
theorem inQ_mem {q : List (Nat × Nat)} {n : Nat} (h : inQ q n = true) : ∃ p ∈ q, p.1 = n := by
 unfold inQ at h
 split at h
 ·rename_i c hc
  exact ⟨(n, c), Zfa hc, rfl⟩
 ·cases h
theorem Qhp {ob ob' : Nat → Option (Obj U)} {q : List (Nat × Nat)} (h : ∀ p ∈ q, ob p.1 = ob' p.1) (v : AV U) : Qba ob q v = Qba ob' q v := by
 have key : ∀ id, (inQ q id && Wej ob id) = (inQ q id && Wej ob' id) := fun id => by
  cases hb : inQ q id with
  | false => rfl
  | true =>
   obtain ⟨p, hp, rfl⟩ := inQ_mem hb
   unfold Wej
   rw [h p hp]
 cases v <;> first | rfl | exact key _
theorem Qtz {ob ob' : Nat → Option (Obj U)} {q : List (Nat × Nat)} (h : ∀ p ∈ q, ob p.1 = ob' p.1) (v : AV U) : covA ob q v = covA ob' q v := by
 have : Qba ob q = Qba ob' q := funext (Qhp h)
 cases v <;> simp only [covA, this]
theorem Qtu {ob ob' : Nat → Option (Obj U)} {q : List (Nat × Nat)} (h : ∀ p ∈ q, ob p.1 = ob' p.1) (v : AV U) : covV ob q v = covV ob' q v := by
 have : covA ob q = covA ob' q := funext (Qtz h)
 cases v <;> simp only [covV, this]
theorem Qtv {ob ob' : Nat → Option (Obj U)} {q : List (Nat × Nat)} (h : ∀ p ∈ q, ob p.1 = ob' p.1) (o : Obj U) : Qcv ob q o = Qcv ob' q o := by
 have : Qba ob q = Qba ob' q := funext (Qhp h)
 cases o <;> simp only [Qcv, this]
theorem Qri {d : Wfe U} {ob ob' : Nat → Option (Obj U)} {dst : Option Tmp} {args : List (AV U)} {K : AV U → Eff U → Option ρ} (h1 : ∀ p ∈ given ob args 0, ob p.1 = ob' p.1) (h2 : ∀ id, 10000000000000 * (dst.getD 0 + 1) ≤ id → ob id = ob' id) :
  Wlr d ob dst args K = Wlr d ob' dst args K := by
 have hq := Qca args 0 h1
 have e1 : Wlq ob (given ob args 0) args = Wlq ob' (given ob args 0) args := by
  unfold Wlq
  rw [show (covV ob (given ob args 0)) = covV ob' (given ob args 0) from funext (Qtu h1)]
  congr 1
  refine Wve fun p hp => ?_
  rw [h1 p hp]
  cases ob' p.1 with
  | none => rfl
  | some o => exact Qtv h1 o
 have e2 : entry d ob (given ob args 0) args = entry d ob' (given ob args 0) args := by
  unfold entry Qfk
  congr 1
  refine List.map_congr_left fun p hp => ?_
  rw [h1 p hp]
 have e3 : ∀ m : St U, Wuz ob (given ob args 0) (Wfs (dst.getD 0) m args d.gh) m (backs m args d.gh) = Wuz ob' (given ob args 0) (Wfs (dst.getD 0) m args d.gh) m (backs m args d.gh) := fun m => by
  unfold Wuz
  congr 1
  refine Wve fun p hp => ?_
  cases hk : lk (backs m args d.gh) p.1 with
  | some a =>
   simp only
   cases hb : inQ (given ob args 0) a with
   | false => simp only [Bool.and_false, Bool.false_and]
   | true =>
    obtain ⟨z, hz, rfl⟩ := inQ_mem hb
    rw [h1 z hz]
  | none =>
   simp only
   unfold Wfs at hp
   obtain ⟨z, _, rfl⟩ := List.mem_map.1 hp
   simp only at hk ⊢
   rw [hk]
   have hz : ob (nid (dst.getD 0) z.1) = ob' (nid (dst.getD 0) z.1) := h2 _ (Nat.le_add_left _ _)
   simp only [hz]
 unfold Wlr
 simp only [hq, e1, e2, e3]
theorem Qah {E : Env U} {o : Oper} {ev ev' : Operand → AV U} (hev : ∀ x, x ∈ o.op.operands.toList → ev x = ev' x) : isX E o ev = isX E o ev' := by
 cases ho : o.op with
 | call c =>
  simp only [ho, Op.operands, Call.operands] at hev
  have hargs : ∀ x, x ∈ c.args.toList → ev x = ev' x := fun x hx => hev x (by simp; exact .inr (by simpa using hx))
  have Qed : Wdg E c ev = Wdg E c ev' := Zfd E c.argTypes c.args.toList 0 hargs
  simp only [isX, ho, Qed]
  cases hc : c.callee with
  | value g => simp only [hev g (by simp [hc])]
  | _ => rfl
 | slice t x lo hi mx => cases mx <;> simp only [isX, ho]
 | _ => simp only [isX, ho]
theorem opX_local {E : Env U} {o : Oper} {ev ev' : Operand → AV U} {ob : Nat → Option (Obj U)} {K : AV U → Eff U → Option ρ} (hev : ∀ x, x ∈ o.op.operands.toList → ev x = ev' x) : opX E o ev ob K = opX E o ev' ob K := by
 unfold opX
 split
 ·rename_i c ho
  simp only [ho, Op.operands, Call.operands] at hev
  have hargs : ∀ x, x ∈ c.args.toList → ev x = ev' x := fun x hx => hev x (by simp; exact .inr (by simpa using hx))
  have Qed : Wdg E c ev = Wdg E c ev' := Zfd E c.argTypes c.args.toList 0 hargs
  cases hc : c.callee with
  | value g => simp only [hev g (by simp [hc]), Qed]
  | _ => rfl
 ·rename_i t x k k' ho
  simp only [ho, Op.operands] at hev
  rw [hev x (by simp)]
 ·rename_i t x hi mx _ ho
  simp only [ho, Op.operands] at hev
  rw [hev x (by simp), hev hi (by simp), hev mx (by simp)]
 ·rename_i t x ix ok ho
  simp only [ho, Op.operands] at hev
  rw [hev x (by simp), hev ix (by simp)]
 ·rename_i t m k v ho
  simp only [ho, Op.operands] at hev
  rw [hev m (by simp), hev k (by simp), hev v (by simp)]
 ·rename_i t m k v ho
  simp only [ho, Op.operands] at hev
  rw [hev m (by simp), hev k (by simp), hev v (by simp)]
 ·rfl
 ·rfl
theorem Qii {E : Env U} {ob ob' : Nat → Option (Obj U)} {t : TypeId} {m : Nat} {ix : AV U} {ok : Bool} {K : AV U → Eff U → Option ρ} (h : ob m = ob' m) : Whg E ob t (.mp m) ix ok K = Whg E ob' t (.mp m) ix ok K := by
 unfold Whg
 cases E.P.underlying t with
 | none => rfl
 | some d => cases d <;> first | rfl | (dsimp only; rw [h])
theorem Wzm {E : Env U} {o : Oper} {ev ev' : Operand → AV U} {ob ob' : Nat → Option (Obj U)} {K : AV U → Eff U → Option ρ}
  (hev : ∀ x, x ∈ o.op.operands.toList → ev x = ev' x) (hob : ∀ id, RelA E o ev ob id → ob id = ob' id) : opA E o ev ob K = opA E o ev' ob' K := by
 unfold opA
 rw [← Qah hev]
 cases hb : isX E o ev with
 | true =>
  simp only [cond_true]
  rw [← opX_local (ob := ob') hev]
  by_cases hc : ∃ c g f caps, o.op = .call c ∧ c.callee = .value g ∧ ev g = .fn f caps ∧ E.sf f = none
  ·obtain ⟨c, g, f, caps, ho, hg, hf, hsf⟩ := hc
   have hap : ∀ id, Whw E o ev ob id = (Nat.blt id (10000000000000 * (o.dst.getD 0 + 1)) && !((given ob (Wdg E c ev ++ caps) 0).any fun q => Nat.beq q.1 id)) := fun id => by simp only [Whw, ho, hg, hf, hsf]
   have h1 : ∀ p ∈ given ob (Wdg E c ev ++ caps) 0, ob p.1 = ob' p.1 := fun p hp => hob p.1 (.inl ⟨hb, by
    rw [hap, List.any_eq_true.2 ⟨p, hp, Nat.beq_refl p.1⟩]
    simp⟩)
   have h2 : ∀ id, 10000000000000 * (o.dst.getD 0 + 1) ≤ id → ob id = ob' id := fun id hid => hob id (.inl ⟨hb, by
    rw [hap, show Nat.blt id (10000000000000 * (o.dst.getD 0 + 1)) = false by
     cases hz : Nat.blt id (10000000000000 * (o.dst.getD 0 + 1)) with
     | false => rfl
     | true => exact absurd (Wjo hz) (Nat.not_lt.2 hid)]
    simp⟩)
   simp only [opX, ho, hg, hf, hsf]
   cases E.fa f (Wdg E c ev ++ caps) with
   | none => rfl
   | some d => exact Qri h1 h2
  by_cases hl : ∃ t x ix ok m, o.op = .lookup t x ix ok ∧ ev x = .mp m
  ·obtain ⟨t, x, ix, ok, m, ho, hx⟩ := hl
   have hm : ob m = ob' m := hob m (.inl ⟨hb, by simp only [Whw, ho, hx, Nat.beq_refl, Bool.not_true]⟩)
   simp only [opX, ho, hx]
   exact Qii hm
  ·have : ob = ob' := funext fun id => hob id (.inl ⟨hb, by
    unfold Whw
    split
    ·rename_i c ho
     split
     ·rename_i g hg
      split
      ·rename_i f caps hf
       split
       ·rfl
       ·rename_i hsf
        exact absurd ⟨c, g, f, caps, ho, hg, hf, hsf⟩ hc
      ·rfl
     ·rfl
    ·rename_i t x ix ok ho
     split
     ·rename_i m hx
      exact absurd ⟨t, x, ix, ok, m, ho, hx⟩ hl
     ·rfl
    ·rfl⟩)
   rw [this]
 | false => exact opK_local hev (fun id hid => hob id (.inr hid))
theorem Wqe {E : Env U} {o : Oper} {ev : Operand → AV U} {ob : Nat → Option (Obj U)} {v : AV U} {u : Eff U} (h : opA E o ev ob Wca = some (v, u)) :
  ∀ id, id ∈ u.map (·.1) → (isX E o ev = true ∨ id ∈ Wdx o ev) ∧ (isX E o ev = true ∨ (stores o.op = true ∧ ∀ s : St U, s.op = ev → touched o s = some id) ∨ (Wfl o.op = true ∧ o.dst = some id)) := by
 intro id hid
 cases hb : isX E o ev with
 | true => exact ⟨.inl rfl, .inl rfl⟩
 | false =>
  unfold opA at h
  rw [hb] at h
  obtain ⟨h1, h2⟩ := Qlw h id hid
  exact ⟨.inr h1, .inr h2⟩
theorem isX_can {E : Env U} {o : Oper} {ev : Operand → AV U} (h : isX E o ev = true) : canX o.op = true := by
 unfold isX at h
 unfold canX
 split at h
 ·split at h
  ·rename_i g hc
   simp only [hc]
  ·cases h
 ·rfl
 ·rfl
 ·rfl
 ·rfl
 ·rfl
 ·cases h
end Go.Ev
