import Derived.Test.YtgfbcclfajcjnaaEvZ
import Derived.Test.YtgfbcclfajcjnaaEvF
universe u
namespace Go.Ev
set_option linter.unusedVariables false
set_option linter.unusedSimpArgs false
variable {U : Univ}
abbrev Ren := List (Nat × Option Nat)
structure Vp (U : Univ) where
  X : Type
  un : List (Nat × Obj U) → AV U → Option (X × Ren)
  av : X → AV U
  ob : X → List (Nat × Obj U)
  cd : Cd U X
  ok : ∀ (s : St U) (v : AV U) (x : X) (r : Ren), un s.o v = some (x, r) → ∀ ren : Ren, (∀ p ∈ r, lk ren p.1 = some p.2) → FV0 ren v (av x) ∧ ∀ p ∈ ob x, FO ren s p.1 p.2
def Cd.no {α : Type} : Cd U α := { enc := fun _ => [], dec := fun _ => none, ok := fun _ _ _ h => by cases h }
theorem no_ob {ren : Ren} {s : St U} : ∀ p ∈ ([] : List (Nat × Obj U)), FO ren s p.1 p.2 := fun _ h => (List.not_mem_nil h).elim
theorem one_ob {ren : Ren} {s : St U} {i : Nat} {o : Obj U} (h : FO ren s i o) : ∀ p ∈ [(i, o)], FO ren s p.1 p.2 := List.forall_mem_cons.2 ⟨h, no_ob⟩
def vInt (k : IntKind) : Vp U where
  X := Int
  un _ v := match v with
    | .flat (.int k' x) => bif k == k' then some (x, []) else none
    | _ => none
  av x := .flat (.int k x)
  ob _ := []
  cd := .int k
  ok s v x r h ren _ := by
    split at h
    · rename_i k' x'
      obtain ⟨h1, h2⟩ := cond_none h
      have : k = k' := by simpa using h1
      subst this
      cases h2
      exact ⟨FV.same rfl rfl, no_ob⟩
    · cases h
def vBool : Vp U where
  X := Bool
  un _ v := match v with
    | .flat (.bool x) => some (x, [])
    | _ => none
  av x := .flat (.bool x)
  ob _ := []
  cd := .bool
  ok s v x r h ren _ := by
    split at h
    · cases h; exact ⟨FV.same rfl rfl, no_ob⟩
    · cases h
theorem castL_eq {D : Codec U} {c c' : U.C} {l : List (U.El c')} {x : List (U.El c)} (h : castL D c c' l = some x) : ∃ e : c' = c, x = e ▸ l := by
  unfold castL at h
  split at h
  · rename_i e _
    cases h
    exact ⟨e, rfl⟩
  · cases h
def vRow (D : Codec U) (c : U.C) : Vp U where
  X := List (U.El c)
  un _ v := match v with
    | .row c' l => (castL D c c' l).map fun x => (x, [])
    | .tip _ c' l => (castL D c c' l).map fun x => (x, [])
    | .flat (.slice none 0 0) => some ([], [])
    | _ => none
  av x := .row c x
  ob _ := []
  cd := .row D.deq c
  ok s v x r h ren _ := by
    split at h
    · rw [Option.map_eq_some_iff] at h
      obtain ⟨y, hy, h⟩ := h
      cases h
      obtain ⟨e, rfl⟩ := castL_eq hy
      subst e
      exact ⟨FV.row rfl rfl, no_ob⟩
    · rw [Option.map_eq_some_iff] at h
      obtain ⟨y, hy, h⟩ := h
      cases h
      obtain ⟨e, rfl⟩ := castL_eq hy
      subst e
      exact ⟨FV.row rfl rfl, no_ob⟩
    · cases h
      exact ⟨FV.nilRow rfl, no_ob⟩
    · cases h
def vFm (D : Codec U) (ka va : Bool) (ck cv : U.C) : Vp U where
  X := List (U.El ck × U.El cv)
  un _ v := match v with
    | .fm ka' va' ck' cv' l => bif ka == ka' && va == va' then (castM D ck ck' cv cv' l).map fun x => (x, []) else none
    | _ => none
  av x := .fm ka va ck cv x
  ob _ := []
  cd := .no
  ok s v x r h ren _ := by
    split at h
    · rename_i ka' va' ck' cv' l
      obtain ⟨h1, h2⟩ := cond_none h
      simp only [Bool.and_eq_true, beq_iff_eq] at h1
      obtain ⟨rfl, rfl⟩ := h1
      rw [Option.map_eq_some_iff] at h2
      obtain ⟨y, hy, h2⟩ := h2
      cases h2
      obtain ⟨e1, e2, hm⟩ := castM_inv hy
      subst e1
      subst e2
      simp only at hm
      rw [hm]
      exact ⟨FV.same rfl rfl, no_ob⟩
    · cases h
def vTip (D : Codec U) (cid : Nat) (c : U.C) (sz : Nat) : Vp U where
  X := List (U.El c)
  un o v := match v with
    | .tip i c' l => match lk o i with
      | some (.tip z) => bif Nat.beq z sz then (castL D c c' l).map fun x => (x, [(cid, some i)]) else none
      | _ => none
    | .flat (.slice none 0 0) => some ([], [(cid, none)])
    | _ => none
  av x := .tip cid c x
  ob _ := [(cid, .tip sz)]
  cd := .no
  ok s v x r h ren hr := by
    split at h
    · rename_i i c' l
      split at h
      · rename_i z hz
        obtain ⟨hb, h2⟩ := cond_none h
        have hb := Nat.eq_of_beq_eq_true hb
        subst hb
        rw [Option.map_eq_some_iff] at h2
        obtain ⟨y, hy, h3⟩ := h2
        cases h3
        obtain ⟨e, rfl⟩ := castL_eq hy
        subst e
        have h1 := hr (cid, some i) List.mem_cons_self
        exact ⟨FV.tip rfl h1, one_ob ⟨_, h1, fun aid ha => by cases ha; exact hz⟩⟩
      · cases h
    · cases h
      have h1 := hr (cid, none) List.mem_cons_self
      exact ⟨FV.nilTip rfl h1, one_ob ⟨_, h1, fun aid ha => by cases ha⟩⟩
    · cases h
def vVec (D : Codec U) (cid : Nat) (c : U.C) : Vp U where
  X := List (U.El c)
  un o v := match v with
    | .vs i => match lk o i with
      | some (.vec c' l) => (castL D c c' l).map fun x => (x, [(cid, some i)])
      | _ => none
    | .flat (.slice none 0 0) => some ([], [(cid, none)])
    | _ => none
  av _ := .vs cid
  ob x := [(cid, .vec c x)]
  cd := .no
  ok s v x r h ren hr := by
    split at h
    · rename_i i
      split at h
      · rename_i c' l hz
        rw [Option.map_eq_some_iff] at h
        obtain ⟨y, hy, h⟩ := h
        cases h
        obtain ⟨e, rfl⟩ := castL_eq hy
        subst e
        have h1 := hr (cid, some i) List.mem_cons_self
        exact ⟨FV.vs rfl h1, one_ob ⟨_, h1, fun aid ha => (by cases ha; exact hz), fun ha => (by cases ha)⟩⟩
      · cases h
    · cases h
      have h1 := hr (cid, none) List.mem_cons_self
      exact ⟨FV.nilVs rfl h1, one_ob ⟨_, h1, fun aid ha => (by cases ha), fun _ => rfl⟩⟩
    · cases h
def vMap (D : Codec U) (cid : Nat) (w ka va : Bool) (ck cv : U.C) : Vp U where
  X := List (U.El ck × U.El cv)
  un o v := match v with
    | .mp i => match lk o i with
      | some (.map w' ka' va' ck' cv' l) => bif (!w || w') && (ka == ka' && va == va') then (match D.deq ck' ck, D.deq cv' cv with
        | isTrue e, isTrue e' => some (e ▸ e' ▸ l, [(cid, some i)])
        | _, _ => none) else none
      | _ => none
    | .flat (.map none) => bif w then none else some ([], [(cid, none)])
    | _ => none
  av _ := .mp cid
  ob x := [(cid, .map w ka va ck cv x)]
  cd := .no
  ok s v x r h ren hr := by
    split at h
    · rename_i i
      split at h
      · rename_i w' ka' va' ck' cv' l hz
        obtain ⟨hb, h2⟩ := cond_none h
        clear h
        simp only [Bool.and_eq_true, Bool.or_eq_true, Bool.not_eq_true', beq_iff_eq] at hb
        obtain ⟨hw, rfl, rfl⟩ := hb
        split at h2
        · rename_i e e' _ _
          subst e
          subst e'
          cases h2
          have h1 := hr (cid, some i) List.mem_cons_self
          exact ⟨FV.mp rfl h1, one_ob ⟨_, h1, fun aid ha => (by cases ha; exact ⟨_, hz, fun hh => hw.elim (fun hw => by rw [hh] at hw; cases hw) fun hw => hw⟩), fun ha => (by cases ha)⟩⟩
        · cases h2
      · cases h
    · cases w with
      | true => cases h
      | false =>
        cases h
        have h1 := hr (cid, none) List.mem_cons_self
        exact ⟨FV.nilMp rfl h1, one_ob ⟨_, h1, fun aid ha => (by cases ha), fun _ => ⟨rfl, rfl⟩⟩⟩
    · cases h
def vCd {α : Type} (d : Cd U α) : Vp U where
  X := α
  un _ v := match v with
    | .agg cs => match d.full cs with
      | some x => bif c1 (AV.agg (d.enc x)) then some (x, []) else none
      | none => none
    | _ => none
  av x := .agg (d.enc x)
  ob _ := []
  cd := d
  ok s v x r h ren _ := by
    split at h
    · split at h
      · rename_i cs x' hx
        obtain ⟨hc, h⟩ := cond_none h
        cases h
        rw [Cd.full_ok hx]
        exact ⟨FV.same rfl hc, no_ob⟩
      · cases h
    · cases h
def HL : List (Vp U) → Type
  | [] => Unit
  | a :: r => a.X × HL r
def HL.app : (a : List (Vp U)) → {b : List (Vp U)} → HL a → HL b → HL (a ++ b)
  | [], _, _, y => y
  | _ :: r, _, x, y => (x.1, HL.app r x.2 y)
def HL.fs : (a : List (Vp U)) → {b : List (Vp U)} → HL (a ++ b) → HL a
  | [], _, _ => ()
  | _ :: r, _, x => (x.1, HL.fs r x.2)
def HL.sn : (a : List (Vp U)) → {b : List (Vp U)} → HL (a ++ b) → HL b
  | [], _, x => x
  | _ :: r, _, x => HL.sn r x.2
theorem HL.fs_app : ∀ (a : List (Vp U)) {b : List (Vp U)} (x : HL a) (y : HL b), HL.fs a (HL.app a x y) = x
  | [], _, _, _ => rfl
  | _ :: r, _, x, y => by
    show (x.1, HL.fs r (HL.app r x.2 y)) = x
    rw [HL.fs_app r x.2 y]
    rfl
theorem HL.sn_app : ∀ (a : List (Vp U)) {b : List (Vp U)} (x : HL a) (y : HL b), HL.sn a (HL.app a x y) = y
  | [], _, _, _ => rfl
  | _ :: r, _, x, y => HL.sn_app r x.2 y
def Tup : List (Vp U) → Type
  | [] => Unit
  | [a] => a.X
  | a :: b :: r => a.X × Tup (b :: r)
def toT : (l : List (Vp U)) → HL l → Tup l
  | [], _ => ()
  | [_], x => x.1
  | _ :: b :: r, x => (x.1, toT (b :: r) x.2)
def ofT : (l : List (Vp U)) → Tup l → HL l
  | [], _ => ()
  | [_], x => (x, ())
  | _ :: b :: r, x => (x.1, ofT (b :: r) x.2)
theorem of_to : ∀ (l : List (Vp U)) (x : HL l), ofT l (toT l x) = x
  | [], _ => rfl
  | [_], _ => rfl
  | _ :: b :: r, x => by
    show (x.1, ofT (b :: r) (toT (b :: r) x.2)) = x
    rw [of_to (b :: r) x.2]
    rfl
def rdL : (l : List (Vp U)) → List (Nat × Obj U) → List (AV U) → Option (HL l × Ren)
  | [], _, [] => some ((), [])
  | a :: l, o, v :: vs => match a.un o v with
    | some (x, q) => match rdL l o vs with
      | some (y, q') => some ((x, y), q ++ q')
      | none => none
    | none => none
  | _, _, _ => none
def wrL : (l : List (Vp U)) → HL l → List (AV U)
  | [], _ => []
  | a :: l, x => a.av x.1 :: wrL l x.2
def obL : (l : List (Vp U)) → HL l → List (Nat × Obj U)
  | [], _ => []
  | a :: l, x => a.ob x.1 ++ obL l x.2
theorem rdL_ok (s : St U) : ∀ (l : List (Vp U)) (vs : List (AV U)) (x : HL l) (r : Ren), rdL l s.o vs = some (x, r) → ∀ ren : Ren, (∀ p ∈ r, lk ren p.1 = some p.2) → FCs ren vs (wrL l x) ∧ ∀ p ∈ obL l x, FO ren s p.1 p.2
  | [], [], x, r, h, ren, hr => ⟨True.intro, no_ob⟩
  | [], _ :: _, x, r, h, ren, hr => by cases h
  | _ :: _, [], x, r, h, ren, hr => by cases h
  | a :: l, v :: vs, x, r, h, ren, hr => by
    simp only [rdL] at h
    split at h
    · rename_i x1 q1 h1
      split at h
      · rename_i x2 q2 h2
        cases h
        obtain ⟨f1, f2⟩ := a.ok s v x1 q1 h1 ren (fun p hp => hr p (List.mem_append_left _ hp))
        obtain ⟨g1, g2⟩ := rdL_ok s l vs x2 q2 h2 ren (fun p hp => hr p (List.mem_append_right _ hp))
        exact ⟨⟨f1, g1⟩, List.forall_mem_append.2 ⟨f2, g2⟩⟩
      · cases h
    · cases h
structure Sp (U : Univ) where
  as : List (Vp U)
  un : List (Nat × Obj U) → AV U → Option (HL as × Ren)
  av : HL as → AV U
  ob : HL as → List (Nat × Obj U)
  ok : ∀ (s : St U) (v : AV U) (x : HL as) (r : Ren), un s.o v = some (x, r) → ∀ ren : Ren, (∀ p ∈ r, lk ren p.1 = some p.2) → FV ren v (av x) ∧ ∀ p ∈ ob x, FO ren s p.1 p.2
def sAt (a : Vp U) : Sp U where
  as := [a]
  un o v := match a.un o v with
    | some p => some ((p.1, ()), p.2)
    | none => none
  av x := a.av x.1
  ob x := a.ob x.1
  ok s v x r h ren hr := by
    split at h
    · rename_i p h1
      cases h
      obtain ⟨f1, f2⟩ := a.ok s v p.1 p.2 h1 ren hr
      exact ⟨FV.one f1, f2⟩
    · cases h
def sAgg (l : List (Vp U)) : Sp U where
  as := l
  un o v := match v with
    | .agg cs => rdL l o cs
    | _ => none
  av x := .agg (wrL l x)
  ob x := obL l x
  ok s v x r h ren hr := by
    split at h
    · rename_i cs
      obtain ⟨f1, f2⟩ := rdL_ok s l cs x r h ren hr
      exact ⟨.inl (.inr ⟨cs, _, rfl, rfl, f1.spec.1, f1.spec.2⟩), f2⟩
    · cases h
def sPtr (id off : Nat) : Sp U where
  as := []
  un _ v := match v with
    | .ptr id' off' => bif Nat.beq id' id && Nat.beq off' off then some ((), []) else none
    | _ => none
  av _ := .ptr id off
  ob _ := []
  ok s v x r h ren hr := by
    split at h
    · obtain ⟨hb, h⟩ := cond_none h
      rw [Bool.and_eq_true] at hb
      rw [Nat.eq_of_beq_eq_true hb.1, Nat.eq_of_beq_eq_true hb.2]
      exact ⟨FV.one (FV.ptr rfl), no_ob⟩
    · cases h
theorem FCs.append {ren : Ren} : ∀ {a b c d : List (AV U)}, FCs ren a b → FCs ren c d → FCs ren (a ++ c) (b ++ d)
  | [], [], _, _, _, h => h
  | _ :: _, _ :: _, _, _, h, h' => ⟨h.1, FCs.append h.2 h'⟩
  | [], _ :: _, _, _, h, _ => h.elim
  | _ :: _, [], _, _, h, _ => h.elim
def asS : List (Nat × Sp U) → List (Vp U)
  | [] => []
  | p :: r => p.2.as ++ asS r
def rdS : (l : List (Nat × Sp U)) → St U → Option (HL (asS l) × Ren)
  | [], _ => some ((), [])
  | p :: r, s => match p.2.un s.o (s.get p.1) with
    | some x => match rdS r s with
      | some y => some (HL.app p.2.as x.1 y.1, x.2 ++ y.2)
      | none => none
    | none => none
def tS : (l : List (Nat × Sp U)) → HL (asS l) → List (Nat × AV U)
  | [], _ => []
  | p :: r, x => (p.1, p.2.av (HL.fs p.2.as x)) :: tS r (HL.sn p.2.as x)
def oS : (l : List (Nat × Sp U)) → HL (asS l) → List (Nat × Obj U)
  | [], _ => []
  | p :: r, x => p.2.ob (HL.fs p.2.as x) ++ oS r (HL.sn p.2.as x)
theorem rdS_ok (s : St U) : ∀ (l : List (Nat × Sp U)) (x : HL (asS l)) (r : Ren), rdS l s = some (x, r) → ∀ ren : Ren, (∀ p ∈ r, lk ren p.1 = some p.2) → (∀ p ∈ tS l x, FV ren (s.get p.1) p.2) ∧ ∀ p ∈ oS l x, FO ren s p.1 p.2
  | [], x, r, h, ren, hr => ⟨fun _ h => (List.not_mem_nil h).elim, no_ob⟩
  | p :: l, x, r, h, ren, hr => by
    simp only [rdS] at h
    split at h
    · rename_i x1 h1
      split at h
      · rename_i y1 h2
        cases h
        obtain ⟨f1, f2⟩ := p.2.ok s _ x1.1 x1.2 h1 ren (fun q hq => hr q (List.mem_append_left _ hq))
        obtain ⟨g1, g2⟩ := rdS_ok s l y1.1 y1.2 h2 ren (fun q hq => hr q (List.mem_append_right _ hq))
        simp only [tS, oS, HL.fs_app, HL.sn_app]
        exact ⟨List.forall_mem_cons.2 ⟨f1, g1⟩, List.forall_mem_append.2 ⟨f2, g2⟩⟩
      · cases h
    · cases h
structure Bp (U : Univ) where
  as : List (Vp U)
  un : List (Nat × Obj U) → Option (HL as × Ren)
  ob : HL as → List (Nat × Obj U)
  ok : ∀ (s : St U) (x : HL as) (r : Ren), un s.o = some (x, r) → ∀ ren : Ren, (∀ p ∈ r, lk ren p.1 = some p.2) → ∀ p ∈ ob x, FO ren s p.1 p.2
def bLit (id : Nat) (l : List (Vp U)) : Bp U where
  as := l
  un o := match lk o id with
    | some (.lit cs) => rdL l o cs
    | _ => none
  ob x := (id, .lit (wrL l x)) :: obL l x
  ok s x r h ren hr := by
    split at h
    · rename_i cs hl
      obtain ⟨f1, f2⟩ := rdL_ok s l cs x r h ren hr
      exact List.forall_mem_cons.2 ⟨FO.cells hl f1, f2⟩
    · cases h
def bArr (D : Codec U) (id n : Nat) (c : U.C) : Bp U where
  as := [vRow D c]
  un o := match lk o id with
    | some (.arr n' c' l) => bif Nat.beq n' n then (match castL D c c' l with
      | some y => some ((y, ()), [])
      | none => none) else none
    | _ => none
  ob x := [(id, .arr n c x.1)]
  ok s x r h ren hr := by
    split at h
    · rename_i n' c' l hl
      obtain ⟨hb, h2⟩ := cond_none h
      have hb := Nat.eq_of_beq_eq_true hb
      subst hb
      split at h2
      · rename_i y hy
        cases h2
        obtain ⟨e, rfl⟩ := castL_eq hy
        subst e
        exact one_ob hl
      · cases h2
    · cases h
def castO (D : Codec U) (c c' : U.C) (l : List (U.El c' × Nat)) : Option (List (U.El c × Nat)) := match D.deq c' c with
  | isTrue h => some (h ▸ l)
  | isFalse _ => none
def vOm (D : Codec U) (cid A : Nat) (ka : Bool) (ck : U.C) : Vp U where
  X := List (U.El ck × Nat)
  un o v := match v with
    | .mp i => match lk o i with
      | some (.om A' ka' ck' l) => bif Nat.beq A' A && ka' == ka then (castO D ck ck' l).map fun x => (x, [(cid, some i)]) else none
      | _ => none
    | _ => none
  av _ := .mp cid
  ob x := [(cid, .om A ka ck x)]
  cd := .no
  ok s v x r h ren hr := by
    split at h
    · rename_i i
      split at h
      · rename_i A' ka' ck' l hl
        obtain ⟨hb, h2⟩ := cond_none h
        simp only [Bool.and_eq_true, beq_iff_eq] at hb
        obtain ⟨hA, rfl⟩ := hb
        have hA := Nat.eq_of_beq_eq_true hA
        subst hA
        rw [Option.map_eq_some_iff] at h2
        obtain ⟨y, hy, h2⟩ := h2
        cases h2
        unfold castO at hy
        split at hy
        · rename_i e _
          subst e
          cases hy
          have := hr (cid, some i) List.mem_cons_self
          exact ⟨FV.mp rfl this, one_ob ⟨i, this, hl⟩⟩
        · cases hy
      · cases h
    · cases h
def vSm (A : Nat) : Vp U where
  X := Option Nat
  un _ v := match v with
    | .sm A' j => bif Nat.beq A' A then some (j, []) else none
    | _ => none
  av x := .sm A x
  ob _ := []
  cd := .no
  ok s v x r h ren _ := by
    split at h
    · obtain ⟨hb, h2⟩ := cond_none h
      have hb := Nat.eq_of_beq_eq_true hb
      subst hb
      cases h2
      exact ⟨.inl ⟨rfl, rfl⟩, no_ob⟩
    · cases h
def castA (D : Codec U) (c c' v v' : U.C) (l : List (List (U.El c' × U.El v'))) : Option (List (List (U.El c × U.El v))) :=
  match D.deq c' c, D.deq v' v with
  | isTrue h, isTrue h' => some (h ▸ h' ▸ l)
  | _, _ => none
def bAr (D : Codec U) (id : Nat) (ka va : Bool) (ck cv : U.C) : Bp U where
  as := [vCd (Cd.no : Cd U (List (List (U.El ck × U.El cv))))]
  un o := match lk o id with
    | some (.ar ka' va' ck' cv' L) => bif ka' == ka && va' == va then (match castA D ck ck' cv cv' L with
      | some y => some ((y, ()), [])
      | none => none) else none
    | _ => none
  ob x := [(id, .ar ka va ck cv x.1)]
  ok s x r h ren hr := by
    split at h
    · rename_i ka' va' ck' cv' L hl
      obtain ⟨hb, h2⟩ := cond_none h
      simp only [Bool.and_eq_true, beq_iff_eq] at hb
      obtain ⟨rfl, rfl⟩ := hb
      split at h2
      · rename_i y hy
        cases h2
        unfold castA at hy
        split at hy
        · rename_i e e' _ _
          subst e
          subst e'
          cases hy
          exact one_ob hl
        · cases hy
      · cases h2
    · cases h
def asB : List (Bp U) → List (Vp U)
  | [] => []
  | p :: r => p.as ++ asB r
def rdB : (l : List (Bp U)) → List (Nat × Obj U) → Option (HL (asB l) × Ren)
  | [], _ => some ((), [])
  | p :: r, o => match p.un o with
    | some x => match rdB r o with
      | some y => some (HL.app p.as x.1 y.1, x.2 ++ y.2)
      | none => none
    | none => none
def oB : (l : List (Bp U)) → HL (asB l) → List (Nat × Obj U)
  | [], _ => []
  | p :: r, x => p.ob (HL.fs p.as x) ++ oB r (HL.sn p.as x)
theorem rdB_ok (s : St U) : ∀ (l : List (Bp U)) (x : HL (asB l)) (r : Ren), rdB l s.o = some (x, r) → ∀ ren : Ren, (∀ p ∈ r, lk ren p.1 = some p.2) → ∀ p ∈ oB l x, FO ren s p.1 p.2
  | [], x, r, h, ren, hr => no_ob
  | p :: l, x, r, h, ren, hr => by
    simp only [rdB] at h
    split at h
    · rename_i x1 h1
      split at h
      · rename_i y1 h2
        cases h
        have f2 := p.ok s x1.1 x1.2 h1 ren (fun q hq => hr q (List.mem_append_left _ hq))
        have g2 := rdB_ok s l y1.1 y1.2 h2 ren (fun q hq => hr q (List.mem_append_right _ hq))
        simp only [oB, HL.fs_app, HL.sn_app]
        exact List.forall_mem_append.2 ⟨f2, g2⟩
      · cases h
    · cases h
structure Pc (U : Univ) (X : Type) where
  un : St U → Option (X × Ren)
  t : X → List (Nat × AV U)
  o : X → List (Nat × Obj U)
  ok : ∀ (s : St U) (x : X) (r : Ren), un s = some (x, r) → ∀ ren : Ren, (∀ p ∈ r, lk ren p.1 = some p.2) → (∀ p ∈ t x, FV ren (s.get p.1) p.2) ∧ ∀ p ∈ o x, FO ren s p.1 p.2
def skPc (sl : List (Nat × Sp U)) (bl : List (Bp U)) : Pc U (Tup (asS sl ++ asB bl)) where
  un s := match rdS sl s with
    | some x => match rdB bl s.o with
      | some y => some (toT _ (HL.app (asS sl) x.1 y.1), x.2 ++ y.2)
      | none => none
    | none => none
  t x := tS sl (HL.fs (asS sl) (ofT _ x))
  o x := oS sl (HL.fs (asS sl) (ofT _ x)) ++ oB bl (HL.sn (asS sl) (ofT _ x))
  ok s x r h ren hr := by
    split at h
    · rename_i x1 h1
      split at h
      · rename_i y1 h2
        cases h
        obtain ⟨f1, f2⟩ := rdS_ok s sl x1.1 x1.2 h1 ren (fun q hq => hr q (List.mem_append_left _ hq))
        have g := rdB_ok s bl y1.1 y1.2 h2 ren (fun q hq => hr q (List.mem_append_right _ hq))
        rw [of_to, HL.fs_app, HL.sn_app]
        exact ⟨f1, List.forall_mem_append.2 ⟨f2, g⟩⟩
      · cases h
    · cases h
def ndK : List Nat → Bool
  | [] => true
  | x :: r => (r.all fun y => !(Nat.beq x y)) && ndK r
theorem nd_lk : ∀ {r : Ren}, ndK (r.map (·.1)) = true → ∀ p ∈ r, lk r p.1 = some p.2
  | [], _, p, h => (List.not_mem_nil h).elim
  | q :: r, h, p, hp => by
    simp only [List.map_cons, ndK, Bool.and_eq_true] at h
    obtain ⟨i, a⟩ := q
    rcases List.mem_cons.1 hp with rfl | hp
    · simp only [lk, Nat.beq_refl, cond_true]
    · have := List.all_eq_true.mp h.1 p.1 (List.mem_map.2 ⟨p, hp, rfl⟩)
      simp only [Bool.not_eq_true'] at this
      simp only [lk, this, cond_false]
      exact nd_lk h.2 p hp
def same1 (p q : Nat × Option Nat) : Bool := Nat.beq p.1 q.1 && (p.2 == q.2)
def dd : Ren → Ren
  | [] => []
  | p :: r => bif r.any (same1 p) then dd r else p :: dd r
theorem mem_dd : ∀ {r : Ren} {p : Nat × Option Nat}, p ∈ r → p ∈ dd r
  | [], _, h => (List.not_mem_nil h).elim
  | q :: r, p, h => by
    unfold dd
    cases hb : r.any (same1 q) with
    | true =>
      rcases List.mem_cons.1 h with rfl | h
      · obtain ⟨z, hz, he⟩ := List.any_eq_true.1 hb
        unfold same1 at he
        rw [Bool.and_eq_true] at he
        have : p = z := Prod.ext (Nat.eq_of_beq_eq_true he.1) (eq_of_beq he.2)
        rw [this]
        exact mem_dd hz
      · exact mem_dd h
    | false =>
      rcases List.mem_cons.1 h with rfl | h
      · exact List.mem_cons_self
      · exact List.mem_cons_of_mem _ (mem_dd h)
structure Lay (U : Univ) (X : Type) where
  un : St U → Option X
  put : X → St U
  fit : ∀ s x, un s = some x → Fits s (put x)
def Pc.lay {X : Type} (p : Pc U X) (hk : ∀ x, keepOk ⟨p.t x, p.o x⟩ = true) : Lay U X where
  un s := match p.un s with
    | some x => bif apart ((dd x.2).map (·.2)) && ndK ((dd x.2).map (·.1)) then some x.1 else none
    | none => none
  put x := ⟨p.t x, p.o x⟩
  fit s x h := by
    split at h
    · rename_i y hy
      obtain ⟨hc, h2⟩ := cond_none h
      rw [Bool.and_eq_true] at hc
      cases h2
      obtain ⟨f1, f2⟩ := p.ok s y.1 y.2 hy (dd y.2) (fun q hq => nd_lk hc.2 q (mem_dd hq))
      exact fits_ren (dd y.2) f1 f2 (ren_apart hc.1) (hk _)
    · cases h
def lay (sl : List (Nat × Sp U)) (bl : List (Bp U)) (hk : ∀ x, keepOk ⟨(skPc sl bl).t x, (skPc sl bl).o x⟩ = true) : Lay U (Tup (asS sl ++ asB bl)) := (skPc sl bl).lay hk
structure OLay (U : Univ) (Y : Type) where
  re : Out U → Option Y
  fin : Y → Out U
  finK : {ρ : Type} → Y → (Out U → Option ρ) → Option ρ
  finK_eq : ∀ {ρ : Type} (y : Y) (K : Out U → Option ρ), finK y K = K (fin y)
  fit : ∀ o y, re o = some y → FitsO o (fin y)
def oNorm {X : Type} (L : Lay U X) : OLay U X where
  re o := match o with
    | .norm s => L.un s
    | _ => none
  fin y := .norm (L.put y)
  finK y K := K (.norm (L.put y))
  finK_eq _ _ := rfl
  fit o y h := by
    split at h
    · exact fitsO_norm (L.fit _ _ h)
    · cases h
def oExit {X : Type} (i : Nat) (L : Lay U X) : OLay U X where
  re o := match o with
    | .exit j s => bif Nat.beq j i then L.un s else none
    | _ => none
  fin y := .exit i (L.put y)
  finK y K := K (.exit i (L.put y))
  finK_eq _ _ := rfl
  fit o y h := by
    split at h
    · obtain ⟨hb, h2⟩ := cond_none h
      have hb := Nat.eq_of_beq_eq_true hb
      subst hb
      exact fitsO_exit (L.fit _ _ h2)
    · cases h
def oRet {X : Type} (L : Lay U X) : OLay U X where
  re o := match o with
    | .ret s => L.un s
    | _ => none
  fin y := .ret (L.put y)
  finK y K := K (.ret (L.put y))
  finK_eq _ _ := rfl
  fit o y h := by
    split at h
    · exact fitsO_ret (L.fit _ _ h)
    · cases h
def oOr {X Y : Type} (A : OLay U X) (B : OLay U Y) : OLay U (X ⊕ Y) where
  re o := match A.re o with
    | some a => some (.inl a)
    | none => match B.re o with
      | some b => some (.inr b)
      | none => none
  fin y := match y with
    | .inl a => A.fin a
    | .inr b => B.fin b
  finK y K := match y with
    | .inl a => A.finK a K
    | .inr b => B.finK b K
  finK_eq y K := by
    cases y with
    | inl a => exact A.finK_eq a K
    | inr b => exact B.finK_eq b K
  fit o y h := by
    split at h
    · rename_i a ha
      cases h
      exact A.fit o a ha
    · split at h
      · rename_i b hb
        cases h
        exact B.fit o b hb
      · cases h
structure Tp (U : Univ) (X : Type) where
  un : List (Nat × Obj U) → AV U → Option (X × Ren)
  av : X → AV U
  ob : X → List (Nat × Obj U)
  ok : ∀ (s : St U) (v : AV U) (x : X) (r : Ren), un s.o v = some (x, r) → ∀ ren : Ren, (∀ p ∈ r, lk ren p.1 = some p.2) → FVA ren v (av x) ∧ ∀ p ∈ ob x, FO ren s p.1 p.2
def tAt (a : Vp U) : Tp U a.X where
  un := a.un
  av := a.av
  ob := a.ob
  ok s v x r h ren hr := ⟨FVA.one (a.ok s v x r h ren hr).1, (a.ok s v x r h ren hr).2⟩
structure Tq (U : Univ) (X : Type) where
  un : List (Nat × Obj U) → List (AV U) → Option (X × Ren)
  av : X → List (AV U)
  ob : X → List (Nat × Obj U)
  ok : ∀ (s : St U) (v : List (AV U)) (x : X) (r : Ren), un s.o v = some (x, r) → ∀ ren : Ren, (∀ p ∈ r, lk ren p.1 = some p.2) → FTs ren v (av x) ∧ ∀ p ∈ ob x, FO ren s p.1 p.2
def tqOne {X : Type} (a : Tp U X) : Tq U X where
  un o v := match v with
    | [v] => a.un o v
    | _ => none
  av x := [a.av x]
  ob := a.ob
  ok s v x r h ren hr := by
    split at h
    · obtain ⟨f1, f2⟩ := a.ok s _ x r h ren hr
      exact ⟨⟨f1, True.intro⟩, f2⟩
    · cases h
def tqCons {X Y : Type} (a : Tp U X) (q : Tq U Y) : Tq U (X × Y) where
  un o v := match v with
    | v :: vs => match a.un o v with
      | some x => match q.un o vs with
        | some y => some ((x.1, y.1), x.2 ++ y.2)
        | none => none
      | none => none
    | _ => none
  av x := a.av x.1 :: q.av x.2
  ob x := a.ob x.1 ++ q.ob x.2
  ok s v x r h ren hr := by
    split at h
    · split at h
      · rename_i x1 h1
        split at h
        · rename_i y1 h2
          cases h
          obtain ⟨f1, f2⟩ := a.ok s _ x1.1 x1.2 h1 ren (fun q hq => hr q (List.mem_append_left _ hq))
          obtain ⟨g1, g2⟩ := q.ok s _ y1.1 y1.2 h2 ren (fun q hq => hr q (List.mem_append_right _ hq))
          exact ⟨⟨f1, g1⟩, List.forall_mem_append.2 ⟨f2, g2⟩⟩
        · cases h
      · cases h
    · cases h
def pcOne {X : Type} (n : Nat) (a : Tp U X) : Pc U X where
  un s := a.un s.o (s.get n)
  t x := [(n, a.av x)]
  o := a.ob
  ok s x r h ren hr := by
    obtain ⟨f1, f2⟩ := a.ok s _ x r h ren hr
    exact ⟨List.forall_mem_cons.2 ⟨.inl f1, fun _ h => (List.not_mem_nil h).elim⟩, f2⟩
def pcTup {X : Type} (n : Nat) (q : Tq U X) : Pc U X where
  un s := match s.get n with
    | .tup vs => q.un s.o vs
    | _ => none
  t x := [(n, .tup (q.av x))]
  o := q.ob
  ok s x r h ren hr := by
    split at h
    · rename_i vs hv
      obtain ⟨f1, f2⟩ := q.ok s vs x r h ren hr
      exact ⟨List.forall_mem_cons.2 ⟨FV.tup hv f1, fun _ h => (List.not_mem_nil h).elim⟩, f2⟩
    · cases h
def pcAnd {X Y : Type} (a : Pc U X) (b : Pc U Y) : Pc U (X × Y) where
  un s := match a.un s with
    | some x => match b.un s with
      | some y => some ((x.1, y.1), x.2 ++ y.2)
      | none => none
    | none => none
  t x := a.t x.1 ++ b.t x.2
  o x := a.o x.1 ++ b.o x.2
  ok s x r h ren hr := by
    split at h
    · rename_i x1 h1
      split at h
      · rename_i y1 h2
        cases h
        obtain ⟨f1, f2⟩ := a.ok s x1.1 x1.2 h1 ren (fun q hq => hr q (List.mem_append_left _ hq))
        obtain ⟨g1, g2⟩ := b.ok s y1.1 y1.2 h2 ren (fun q hq => hr q (List.mem_append_right _ hq))
        exact ⟨List.forall_mem_append.2 ⟨f1, g1⟩, List.forall_mem_append.2 ⟨f2, g2⟩⟩
      · cases h
    · cases h
def pcUnit : Pc U Unit where
  un _ := some ((), [])
  t _ := []
  o _ := []
  ok s x r h ren hr := ⟨fun _ h => (List.not_mem_nil h).elim, no_ob⟩
def pcIso {X Y : Type} (a : Pc U X) (f : X → Y) (g : Y → X) (h : ∀ x, g (f x) = x) : Pc U Y where
  un s := match a.un s with
    | some x => some (f x.1, x.2)
    | none => none
  t y := a.t (g y)
  o y := a.o (g y)
  ok s y r hh ren hr := by
    split at hh
    · rename_i x1 h1
      cases hh
      rw [h]
      exact a.ok s x1.1 x1.2 h1 ren hr
    · cases hh
def fdn {X Y : Type} (i : Lay U X) (r : Lay U Y) (nt : Nat) (gh : List Nat) (cl : Bool) (f : X → Option Y) (clo : cl = true → ∀ y, c1 ((r.put y).get 0) = true) : FDen U :=
  { X := X, Y := Y, nt := nt, gh := gh, un := i.un, f := f, fin := r.put, cl := cl, clo := clo }
def ldn {X Y : Type} (i : Lay U X) (o : OLay U Y) (f : X → Option Y) : LDen U := { X := X, Y := Y, un := i.un, f := f, fin := o.fin, finK := o.finK, finK_eq := o.finK_eq }
structure Jk (U : Univ) where
  Y : Type
  l : OLay U Y
def jds : List (Nat × Jk U) → List (Nat × JDen U)
  | [] => []
  | p :: r => (p.1, { Y := p.2.Y, re := p.2.l.re, fin := p.2.l.fin, finK := p.2.l.finK, finK_eq := p.2.l.finK_eq }) :: jds r
theorem jds_ok : ∀ (l : List (Nat × Jk U)), ∀ p ∈ jds l, ∀ o y, p.2.re o = some y → FitsO o (p.2.fin y)
  | [], p, hp => (List.not_mem_nil hp).elim
  | q :: r, p, hp => by
    rcases List.mem_cons.1 hp with rfl | hp
    · exact q.2.l.fit
    · exact jds_ok r p hp
structure Pk (P : Program) (D : Codec U) where
  id : FuncId
  d : FDen U
  snd : Sound P D id d
  ent : ∀ args w, (callFunc id args).run P w = .ok (.enter id args) w
def fds {P : Program} {D : Codec U} : List (Pk P D) → List (Nat × FDen U)
  | [] => []
  | p :: r => (p.id, p.d) :: fds r
theorem fds_ok {P : Program} {D : Codec U} : ∀ (l : List (Pk P D)), ∀ p ∈ fds l, Sound P D p.1 p.2 ∧ ∀ args w, (callFunc p.1 args).run P w = .ok (.enter p.1 args) w
  | [], p, hp => (List.not_mem_nil hp).elim
  | q :: r, p, hp => by
    rcases List.mem_cons.1 hp with rfl | hp
    · exact ⟨q.snd, q.ent⟩
    · exact fds_ok r p hp
section
variable {E : Env U} {nt : Nat} {fn : Func}
theorem loopP (he : EnvOk E) (hmix : E.P.follows .mixedOrders = true) (hres : E.results = fn.results.toList) {c : Code} (hd : dstB nt c = true)
    (hl : AllL E nt fn (loopsOf c)) {X Y : Type} (i : Lay U X) (o : OLay U Y) (once : X → Option (X ⊕ Y)) (k : Nat) (hbody : ∀ x, evC E c (i.put x) (headK i.un o.re) = once x) : LSound E nt fn (.loop c) (ldn i o (iter once k)) :=
  loop_sound he hmix hres hd hl i.un i.put o.fin o.re once k i.fit o.fit hbody o.finK o.finK_eq
theorem funP (he : EnvOk E) (hmix : E.P.follows .mixedOrders = true) (hres : E.results = fn.results.toList) {f : FuncId} {c : Code} (hf : E.P.funcs[f]? = some fn) (hb : fn.body = some c)
    (hd : dstB fn.ntmps c = true) (hl : AllL E fn.ntmps fn (loopsOf c)) {X Y : Type} (i : Lay U X) (r : Lay U Y) (gh : List Nat) (cl : Bool) (g : X → Option Y) (clo : cl = true → ∀ y, c1 ((r.put y).get 0) = true)
    (hgb : Nat.ble fn.ntmps gb = true) (heq : ∀ x, runF E c (i.put x) r.un = g x) : Sound E.P E.D f (fdn i r fn.ntmps gh cl g clo) :=
  fun_sound he hmix hres hf hb hd hl (fdn i r fn.ntmps gh cl g clo) i.put r.un rfl hgb i.fit r.fit heq
theorem EnvOk.ars {E : Env U} (h : EnvOk E) (a : TypeId → Option (Nat × U.C × U.C)) (o : TypeId → Option (Nat × U.C × TypeId)) (p : TypeId → Bool) : EnvOk { E with ars := a, oms := o, spl := p } := ⟨h.lz, h.sf, h.law, h.fd, h.jd, h.enter, h.fn⟩
def fnOk (fn : Func) : Bool := fn.body.isSome && (dstB fn.ntmps (codeOf fn) && (Nat.ble fn.ntmps gb && !(fn.name == "runtime.NumGoroutine")))
theorem body_of {fn : Func} (h : fn.body.isSome = true) : fn.body = some (codeOf fn) := by
  unfold codeOf
  cases hb : fn.body with
  | none => rw [hb] at h; cases h
  | some c => rfl
def pkP {E : Env U} {fn : Func} (f : FuncId) (he : EnvOk E) (hf : E.P.funcs[f]? = some fn) (hmix : E.P.follows .mixedOrders = true) (hl : AllL E fn.ntmps fn (loopsOf (codeOf fn))) {X Y : Type} (i : Lay U X) (r : Lay U Y) (gh : List Nat) (cl : Bool) (g : X → Option Y)
    (clo : cl = true → ∀ y, c1 ((r.put y).get 0) = true) (heq : ∀ x, runF E (codeOf fn) (i.put x) r.un = g x) (hres : E.results = fn.results.toList := by rfl) (hk : fnOk fn = true := by kernel_rfl) : Pk E.P E.D :=
  have h : fn.body.isSome = true ∧ dstB fn.ntmps (codeOf fn) = true ∧ Nat.ble fn.ntmps gb = true ∧ (fn.name == "runtime.NumGoroutine") = false := by
    unfold fnOk at hk
    simp only [Bool.and_eq_true, Bool.not_eq_true'] at hk
    exact ⟨hk.1, hk.2.1, hk.2.2.1, hk.2.2.2⟩
  ⟨f, fdn i r fn.ntmps gh cl g clo, funP he hmix hres hf (body_of h.1) h.2.1 hl i r gh cl g clo h.2.2.1 heq, enter_of hf h.2.2.2 (by rw [body_of h.1]; rfl)⟩
theorem al0 {E : Env U} {nt : Nat} {fn : Func} {c : Code} (h : (loopsOf c).isEmpty = true) : AllL E nt fn (loopsOf c) := by
  intro c' hc
  rw [List.isEmpty_iff] at h
  rw [h] at hc
  cases hc
end
end Go.Ev
