import Derived.Test.YtbchcjlllddlpaaEvC
import Derived.Test.YtbchcjlllddlpaaEvRd
universe u
namespace Go.Ev
set_option linter.unusedVariables false
set_option linter.unusedSimpArgs false
open Go.RowKit (Below)
open Go.MapKept (Stamped)
variable {U : Wdr} {ρ : Type}
def sDm (mid : Nat) : Sp U where
 as := []
 un _ v := match v with
  | .mp i => bif Nat.beq i mid then some ((), [(mid, some mid)]) else none
  | _ => none
 av _ := .mp mid
 ob _ := []
 ok s v x r h ren hr := by
  split at h
  ·obtain ⟨hb, h⟩ := Zr h
   cases h
   rw [Z2 hb]
   exact ⟨FV.one (FV.mp rfl (hr (mid, some mid) List.mem_cons_self)), Wjt⟩
  ·cases h
def Qko (id : Nat) : Bp U where
 as := []
 un o := match lk o id with
  | some .dead => some ((), [(id, some id)])
  | _ => none
 ob _ := [(id, .dead)]
 ok s x r h ren hr := by
  split at h
  ·rename_i hl
   cases h
   exact Wou ⟨hl, hr (id, some id) List.mem_cons_self⟩
  ·cases h
structure RgC where
 id : Nat
 pre : List Oper
 ro : Oper
 bid : Nat
 hid : Nat
 no : Oper
 xo : Oper
 cc : Operand
 cid : Nat
 eid : Nat
 eo : Oper
 es : List Oper
 rest : Code
def RgC.body (c : RgC) : Code := .seq (.region c.hid [c.no, c.xo].toArray false) (.seq (.cond c.cc .skip (.exit c.bid)) (.block c.cid (.seq (.region c.eid (c.eo :: c.es).toArray false) c.rest)))
def RgC.code (c : RgC) : Code := .seq (.region c.id (c.pre ++ [c.ro]).toArray false) (.block c.bid (.loop c.body))
structure RgC.Shape (c : RgC) (ty : TypeId) (mx it nx ok : Nat) : Prop where
 r1 : c.ro.op = .range ty (.tmp mx)
 r2 : c.ro.guard = none
 r3 : c.ro.dst = some it
 n1 : c.no.op = .next (.tmp it) false
 n2 : c.no.guard = none
 n3 : c.no.dst = some nx
 x1 : c.xo.op = .extract (.tmp nx) 0
 x2 : c.xo.guard = none
 x3 : c.xo.dst = some ok
 cc : c.cc = .tmp ok
 e1 : c.eo.op = .entry (.tmp it)
 e2 : c.eo.guard = none
def rgP : Code → Option RgC
 | .seq (.region id ops false) (.block bid (.loop (.seq (.region hid hops false) (.seq (.cond cc .skip (.exit _)) (.block cid (.seq (.region eid eops false) rest)))))) => match ops.toList.reverse, hops.toList, eops.toList with
  | ro :: pre, [no, xo], eo :: es => some ⟨id, pre.reverse, ro, bid, hid, no, xo, cc, cid, eid, eo, es, rest⟩
  | _, _, _ => none
 | _ => none
def Qew : Code → List RgC
 | .seq a b => (match rgP (.seq a b) with | some r => [r] | none => []) ++ (Qew a ++ Qew b)
 | .cond _ a b => Qew a ++ Qew b
 | .block _ c => Qew c
 | .loop c => Qew c
 | _ => []
def noOp : Oper := { dst := none, op := .move (.tmp 0), type := 0, pos := "", after := #[], guard := none }
def Qcs (fn : Func) (id : Nat) : RgC := ((Qew (codeOf fn)).find? fun c => Nat.beq c.id id).getD ⟨0, [], noOp, 0, 0, noOp, noOp, .tmp 0, 0, 0, noOp, [], .skip⟩
def frzA (E : Env U) (id : Nat) (l : List Oper) (s : St U) : St U := Wlz (Wke (Wpa s (Qkg E l)) (Qbe l)) (E.lds id)
noncomputable def Qeu (E : Env U) (c : RgC) (s : St U) (v : AV U) (K : Out U → Option ρ) : Option ρ :=
 Wko E (fun _ _ _ => true) (c.eo :: c.es).toArray 1 c.es ((frzA E c.eid (c.eo :: c.es) s).put c.eo.dst v) fun s' => evC E c.rest s' fun
  | .exit id s'' => bif Nat.beq id c.cid then K (.norm s'') else K (.exit id s'')
  | r => K r
noncomputable def rgPre (E : Env U) (c : RgC) (s : St U) : Option (St U) := Wko E (fun _ _ _ => true) (c.pre ++ [c.ro]).toArray 0 c.pre (frzA E c.id (c.pre ++ [c.ro]) s) some
noncomputable def rgIn (E : Env U) (c : RgC) (s : St U) : St U := (rgPre E c s).getD ⟨[], []⟩
def Wvr {X Y T : Type} (once : X → T → Option (X ⊕ Y)) : List T → X → Option (X ⊕ Y)
 | [], x => some (.inl x)
 | e :: r, x => (once x e).bind fun
  | .inl x' => Wvr once r x'
  | .inr y => some (.inr y)
noncomputable def rngP {X Y T : Type} (once : X → T → Option (X ⊕ Y)) (es : List T) (x : X) : Option (X ⊕ Y) := anyP es fun σ => Wvr once σ x
structure RgN where
 n0 : Nat
 mid : Nat
 mid2 : Nat
 iid : Nat
 k : Nat
def rgIt (n : RgN) (it : Nat) (s : St U) : St U := (((((s.Wdq n.mid .dead).Wdq n.iid .dead).set it (.ptr n.iid 0)).set (gb + n.k) (.mp n.mid)).set (gb + n.k + 1) (.ptr n.iid 0))
def Wle (c : RgC) (s : St U) : St U := (s.put c.no.dst .undef).put c.xo.dst .undef
def rgBack (c : RgC) (n : RgN) (wf ka va : Bool) (ck cv : U.C) (l : List (U.El ck × U.El cv)) (s : St U) : St U :=
 ((((Wle c s).Wdq n.mid2 (.map wf ka va ck cv l)).set n.n0 (.mp n.mid2)).set (gb + n.k) .undef).set (gb + n.k + 1) .undef
def rgRd (D : Wbf U) {X : Type} (n : RgN) (mx it : Nat) (wf ka va : Bool) (ck cv : U.C) (iB : Lay U X) (s : St U) : Option (List (U.El ck × U.El cv) × X) := match s.get mx, s.get n.n0, lk s.o n.mid, lk s.o n.iid with
 | .mp m1, .mp m2, some (.map w ka' va' ck' cv' l), none => bif Nat.beq m1 n.mid && Nat.beq m2 n.mid && w == wf && ka' == ka && va' == va then (match Qkj D ck ck' cv cv' l, iB.un (rgIt n it s) with
  | some l, some x => some (l, x)
  | _, _ => none) else none
 | _, _, _, _ => none
structure RgH (n : RgN) (it : Nat) (s : St U) : Prop where
 g0 : s.get n.n0 = .mp n.mid
 g1 : s.get it = .ptr n.iid 0
 g2 : s.get (gb + n.k) = .mp n.mid
 g3 : s.get (gb + n.k + 1) = .ptr n.iid 0
 g4 : lk s.o n.mid2 = none
def isRetK (n : RgN) : Out U → Prop
 | .ret m => m.get (gb + n.k) = .undef ∧ m.get (gb + n.k + 1) = .undef
 | _ => False
section
variable {D : Wbf U} {nt : Nat} {C : Cx} {N : Nat → Nat → Prop} {R : Rl} {s : St U} {a : Act}
theorem VR.far (L : Lawful D) {R R' : Rl} {x : AV U} {y : Value} (h : VR D R x y) (hc : c1 x = true) (hs : R.w.heap.size ≤ R'.w.heap.size)
  (hk : ∀ B i, B < R.w.heap.size → ¬ R.N B i → R'.w.cell? ⟨B, i, none⟩ = R.w.cell? ⟨B, i, none⟩ ∧ ¬ R'.N B i) : VR D R' x y := by
 have h0 := h.closed (R := R) (R' := { R with blk := fun _ => none, hdr := fun _ => none }) L rfl (fun _ _ _ h => h) hc
 have hle : Rl.le { R with blk := fun _ => none, hdr := fun _ => none } R' := ⟨fun _ _ e => (by cases e), fun _ _ e => (by cases e), hs, hk⟩
 exact h0.mono hle
def Wda (R : Rl) (s : St U) (B : Nat) : Prop := ∃ id o es, lk s.o id = some o ∧ o.alive ∧ R.blk id = some (B, es)
theorem SR.restart (h : SR D nt C N R s a) : SR D nt ⟨R.w, Wda R s, C.gh⟩ R.N R s a where
 objs := h.objs
 none := h.none
 own id o B es ho ha hb := ⟨(h.own id o B es ho ha hb).1, .inr ⟨id, o, es, ho, ha, hb⟩, (h.own id o B es ho ha hb).2.2⟩
 inj := h.inj
 keep := .refl _ _ _
 le0 B i hB hn := ⟨rfl, hn⟩
 nn B i _ _ hn := hn
 nlt := h.nlt
 size := h.size
 defers := h.defers
 Wdp := h.Wdp
 tm := h.tm
theorem SR.Wyy (h : SR D nt C N R s a) {R' : Rl} {s' : St U} {a' : Act} {nt' : Nat} (h' : SR D nt' ⟨R.w, Wda R s, C.gh⟩ R.N R' s' a') : SR D nt' C N R' s' a' := by
 have hG : ∀ B, Wda R s B → C.w.heap.size ≤ B ∨ C.G B := by
  rintro B ⟨id, o, es, ho, ha, hb⟩
  exact (h.own id o B es ho ha hb).2.1
 have hng : ∀ B, B < C.w.heap.size → ¬ C.G B → ¬ Wda R s B := fun B hB hg ho => by
  rcases hG B ho with h1 | h1
  ·omega
  ·exact hg h1
 have hsz := h.keep.size
 refine { objs := h'.objs, none := h'.none, own := fun id o B es ho ha hb => ?_, inj := h'.inj, keep := ?_, le0 := fun B i hB hn => ?_, nn := fun B i hB hg hn => ?_, nlt := h'.nlt, size := h'.size, defers := h'.defers, Wdp := h'.Wdp, tm := h'.tm }
 ·obtain ⟨h1, h2, h3⟩ := h'.own id o B es ho ha hb
  refine ⟨h1, ?_, h3⟩
  rcases h2 with h2 | h2
  ·exact .inl (Nat.le_trans hsz h2)
  ·exact hG B h2
 ·have k := h'.keep
  exact ⟨k.os.trans h.keep.os, k.tape.trans h.keep.tape, k.output.trans h.keep.output, Nat.le_trans hsz k.size, fun B hB hg => (k.block B (Nat.lt_of_lt_of_le hB hsz) (hng B hB hg)).trans (h.keep.block B hB hg)⟩
 ·obtain ⟨h1, h2⟩ := h.le0 B i hB hn
  obtain ⟨h3, h4⟩ := h'.le0 B i (Nat.lt_of_lt_of_le hB hsz) h2
  exact ⟨h3.trans h1, h4⟩
 ·exact h'.nn B i (Nat.lt_of_lt_of_le hB hsz) (hng B hB hg) (h.nn B i hB hg hn)
theorem SR.regh (h : SR D nt C N R s a) {gh' : Array Value} {s' : St U} (ho : s'.o = s.o) (ht : ∀ n, VR D R (s'.get n) (tv a gh' n)) : SR D nt ⟨C.w, C.G, gh'⟩ N R s' a where
 objs := by rw [ho]; exact h.objs
 none := by rw [ho]; exact h.none
 own := by rw [ho]; exact h.own
 inj := by rw [ho]; exact h.inj
 keep := h.keep
 le0 := h.le0
 nn := h.nn
 nlt := h.nlt
 size := h.size
 defers := h.defers
 Wdp := h.Wdp
 tm := ht
theorem SR.addDead (h : SR D nt C N R s a) {id : Nat} (hid : lk s.o id = none) (p : Option (Nat × Nat)) :
  R.le { R with blk := fun k => if k = id then p else R.blk k } ∧ SR D nt C N { R with blk := fun k => if k = id then p else R.blk k } (s.Wdq id .dead) a := by
 have hle : R.le { R with blk := fun k => if k = id then p else R.blk k } := ⟨fun k q hq => by
  show (if k = id then p else R.blk k) = some q
  rw [if_neg (fun e => by subst e; rw [(h.none _ hid).1] at hq; cases hq)]
  exact hq, fun _ _ e => e, Nat.le_refl _, fun _ _ _ hN => ⟨rfl, hN⟩⟩
 refine ⟨hle, { objs := fun n o ho => ?_, none := fun n hn => ?_, own := fun n o B es ho ha hb => ?_, inj := fun n m o o' B es es' h1 h2 a1 a2 b1 b2 => ?_, keep := h.keep, le0 := h.le0, nn := h.nn, nlt := h.nlt, size := h.size, defers := h.defers, Wdp := h.Wdp, tm := fun n => (h.tm n).mono hle }⟩
 ·rw [Zbm] at ho
  split at ho
  ·cases ho; exact True.intro
  ·rename_i hne
   exact (h.objs n o ho).mono hle (fun B es hb => ⟨rfl, fun _ hi => hi⟩) (fun hb => by show (if n = id then p else R.blk n) = none; rw [if_neg (fun e => hne e.symm)]; exact hb)
 ·rw [Zbm] at hn
  split at hn
  ·cases hn
  ·rename_i hne
   obtain ⟨h1, h2⟩ := h.none n hn
   exact ⟨by show (if n = id then p else R.blk n) = none; rw [if_neg (fun e => hne e.symm)]; exact h1, h2⟩
 ·rw [Zbm] at ho
  split at ho
  ·cases ho; exact ha.elim
  ·rename_i hne
   have hb : (if n = id then p else R.blk n) = some (B, es) := hb
   rw [if_neg (fun e => hne e.symm)] at hb
   exact h.own n o B es ho ha hb
 ·rw [Zbm] at h1 h2
  split at h1
  ·cases h1; exact a1.elim
  ·split at h2
   ·cases h2; exact a2.elim
   ·rename_i e1 e2
    have b1 : (if n = id then p else R.blk n) = some (B, es) := b1
    have b2 : (if m = id then p else R.blk m) = some (B, es') := b2
    rw [if_neg (fun e => e1 e.symm)] at b1
    rw [if_neg (fun e => e2 e.symm)] at b2
    exact h.inj n m o o' B es es' h1 h2 a1 a2 b1 b2
theorem SR.addMap (h : SR D nt C N R s a) {id : Nat} (hid : lk s.o id = none) (B : Option Nat) {w ka va : Bool} {ck cv : U.C} {l : List (U.El ck × U.El cv)}
  (hB : ∀ b, B = some b → (∀ i, R.N b i) ∧ (C.w.heap.size ≤ b ∨ C.G b) ∧ b < R.w.heap.size ∧ ¬ Wda R s b)
  (hor : ∀ R', R.le R' → R'.w = R.w → R'.hdr id = some (B.map fun B => ⟨B, 0, none⟩, 0, 0) → R'.blk id = B.map (fun b => (b, 0)) → OR D R' id (.map w ka va ck cv l)) :
  ∃ R', R.le R' ∧ R'.w = R.w ∧ SR D nt C N R' (s.Wdq id (.map w ka va ck cv l)) a ∧ R'.hdr id = some (B.map fun B => ⟨B, 0, none⟩, 0, 0) := by
 obtain ⟨n1, n2⟩ := h.none id hid
 let R' : Rl := { R with blk := fun k => if k = id then B.map (fun b => (b, 0)) else R.blk k, hdr := fun k => if k = id then some (B.map fun B => ⟨B, 0, none⟩, 0, 0) else R.hdr k }
 have hle : R.le R' := ⟨fun k q hq => by
  show (if k = id then _ else R.blk k) = some q
  rw [if_neg (fun e => by subst e; rw [n1] at hq; cases hq)]
  exact hq, fun k q hq => by
  show (if k = id then _ else R.hdr k) = some q
  rw [if_neg (fun e => by subst e; rw [n2] at hq; cases hq)]
  exact hq, Nat.le_refl _, fun _ _ _ hN => ⟨rfl, hN⟩⟩
 have hb0 : R'.blk id = B.map (fun b => (b, 0)) := if_pos rfl
 have hh0 : R'.hdr id = some (B.map fun B => ⟨B, 0, none⟩, 0, 0) := if_pos rfl
 have hbn : ∀ n, id ≠ n → R'.blk n = R.blk n := fun n e => if_neg (fun e' => e e'.symm)
 have hhn : ∀ n, id ≠ n → R'.hdr n = R.hdr n := fun n e => if_neg (fun e' => e e'.symm)
 refine ⟨R', hle, rfl, { objs := fun n o ho => ?_, none := fun n hn => ?_, own := fun n o b es ho ha hb => ?_, inj := fun n m o o' b es es' h1 h2 a1 a2 b1 b2 => ?_, keep := h.keep, le0 := h.le0, nn := h.nn, nlt := h.nlt, size := h.size, defers := h.defers, Wdp := h.Wdp, tm := fun n => (h.tm n).mono hle }, hh0⟩
 ·rw [Zbm] at ho
  split at ho
  ·rename_i e; subst e; cases ho; exact hor R' hle rfl hh0 hb0
  ·rename_i hne
   exact (h.objs n o ho).mono hle (fun B es hb => ⟨rfl, fun _ hi => hi⟩) (fun hb => (hbn n hne).trans hb)
 ·rw [Zbm] at hn
  split at hn
  ·cases hn
  ·rename_i hne
   obtain ⟨h1, h2⟩ := h.none n hn
   exact ⟨(hbn n hne).trans h1, (hhn n hne).trans h2⟩
 ·rw [Zbm] at ho
  split at ho
  ·rename_i e; subst e
   rw [hb0] at hb
   obtain ⟨b', e1, e2⟩ := Option.map_eq_some_iff.1 hb
   cases e2
   obtain ⟨q1, q2, q3, _⟩ := hB _ e1
   exact ⟨fun _ => q1, q2, q3⟩
  ·rename_i hne
   rw [hbn n hne] at hb
   exact h.own n o b es ho ha hb
 ·rw [Zbm] at h1 h2
  split at h1
  ·rename_i e; subst e
   split at h2
   ·rename_i e; exact e
   ·rename_i hne
    rw [hbn m hne] at b2
    rw [hb0] at b1
    obtain ⟨b', e1, e2⟩ := Option.map_eq_some_iff.1 b1
    cases e2
    exact absurd ⟨m, o', es', h2, a2, b2⟩ (hB _ e1).2.2.2
  ·rename_i hne
   rw [hbn n hne] at b1
   split at h2
   ·rename_i e; subst e
    rw [hb0] at b2
    obtain ⟨b', e1, e2⟩ := Option.map_eq_some_iff.1 b2
    cases e2
    exact absurd ⟨n, o, es, h1, a1, b1⟩ (hB _ e1).2.2.2
   ·rename_i hne2
    rw [hbn m hne2] at b2
    exact h.inj n m o o' b es es' h1 h2 a1 a2 b1 b2
theorem SR.walks (h : SR D nt C N R s a) {w' : World} {r : Nat} (hg : R.w.grownBy w' (some r)) (hsz : w'.heap.size = R.w.heap.size) (hr : C.w.heap.size ≤ r) (hu : ¬ Wda R s r) (h1 : ∀ i, R.w.cell? ⟨r, i, none⟩ = none) (h2 : ∀ i, w'.cell? ⟨r, i, none⟩ = none) :
  R.le { R with w := w' } ∧ SR D nt C N { R with w := w' } s a := by
 have hblk : ∀ B, B < R.w.heap.size → B ≠ r → w'.heap[B]? = R.w.heap[B]? := fun B hB hne => hg.block B hB (by simpa using hne)
 have hle : R.le { R with w := w' } := ⟨fun _ _ e => e, fun _ _ e => e, Nat.le_of_eq hsz.symm, fun B i hB hn => ⟨by
  by_cases e : B = r
  ·subst e; rw [h1]; exact h2 i
  ·exact Zdn (hblk B hB e), hn⟩⟩
 refine ⟨hle, { objs := fun n o ho => ?_, none := h.none, own := fun n o B es ho ha hb => ?_, inj := h.inj, keep := ?_, le0 := h.Wvz.le0' hle, nn := h.nn, nlt := fun B i hB => hsz ▸ h.nlt B i hB, size := h.size, defers := h.defers, Wdp := h.Wdp, tm := fun n => (h.tm n).mono hle }⟩
 ·by_cases ha : o.alive
  ·exact (h.objs n o ho).mono hle (fun B es hb => ⟨hblk B (h.own n o B es ho ha hb).2.2 (fun e => hu ⟨n, o, es, ho, ha, e ▸ hb⟩), fun _ hi => hi⟩) (fun h => h)
  ·cases o <;> first | exact True.intro | exact absurd True.intro ha
 ·obtain ⟨q1, q2, q3⟩ := h.own n o B es ho ha hb
  exact ⟨q1, q2, by show B < w'.heap.size; rw [hsz]; exact q3⟩
 ·exact h.keep.trans ⟨hg.os, hg.tape, hg.output, Nat.le_of_eq hsz.symm, fun k hk _ => hblk k (Nat.lt_of_lt_of_le hk h.keep.size) (fun e => by omega)⟩
end
def ghW (gh : Array Value) (k : Nat) (vm vi : Value) : Array Value := Array.ofFn (n := max gh.size (k + 2)) fun i => if i.1 = k then vm else if i.1 = k + 1 then vi else gh.getD i.1 undef
theorem ghW_get (gh : Array Value) (k : Nat) (vm vi : Value) (i : Nat) : (ghW gh k vm vi).getD i undef = if i = k then vm else if i = k + 1 then vi else gh.getD i undef := by
 unfold ghW
 rw [Array.getD_eq_getD_getElem?]
 by_cases h : i < max gh.size (k + 2)
 ·rw [Array.getElem?_eq_getElem (by rw [Array.size_ofFn]; exact h), Array.getElem_ofFn]
  rfl
 ·rw [Array.getElem?_eq_none (by rw [Array.size_ofFn]; omega), if_neg (by omega), if_neg (by omega), Array.getD_eq_getD_getElem?, Array.getElem?_eq_none (by omega)]
theorem Qla (a : Act) (gh : Array Value) (k : Nat) (vm vi : Value) (n : Nat) : tv a (ghW gh k vm vi) n = if n = gb + k then vm else if n = gb + k + 1 then vi else tv a gh n := by
 unfold tv
 rw [ghW_get]
 by_cases h : n < gb
 ·rw [if_pos h, if_pos h, if_neg (by omega), if_neg (by omega)]
 ·rw [if_neg h, if_neg h]
  by_cases h1 : n = gb + k
  ·rw [if_pos h1, if_pos (by omega)]
  ·rw [if_neg h1, if_neg (by omega)]
   by_cases h2 : n = gb + k + 1
   ·rw [if_pos h2, if_pos (by omega)]
   ·rw [if_neg h2, if_neg (by omega)]
theorem assign {β : Type} (d : β) : ∀ (es : List MapEntry) (l : List β), es.length = l.length → (es.map (·.born)).Nodup → ∃ φ : MapEntry → β, es.map φ = l
 | [], [], _, _ => ⟨fun _ => d, rfl⟩
 | [], _ :: _, h, _ => by simp at h
 | _ :: _, [], h, _ => by simp at h
 | e :: es, p :: l, h, hn => by
  rw [List.map_cons, List.nodup_cons] at hn
  obtain ⟨φ, hφ⟩ := assign d es l (by simpa using h) hn.2
  refine ⟨fun x => if x.born = e.born then p else φ x, ?_⟩
  rw [List.map_cons, if_pos rfl]
  congr 1
  rw [← hφ]
  refine List.map_congr_left fun x hx => if_neg fun e1 => hn.1 (List.mem_map.2 ⟨x, hx, e1⟩)
theorem comes : ∀ (l : List MapEntry) {m : List MapEntry}, l.Nodup → (∀ x ∈ l, x ∈ m) → ∃ r, m.Perm (l ++ r)
 | [], m, _, _ => ⟨m, .refl _⟩
 | a :: l, m, hn, hs => by
  rw [List.nodup_cons] at hn
  obtain ⟨s, t, rfl⟩ := List.append_of_mem (hs a List.mem_cons_self)
  have h1 : (s ++ a :: t).Perm (a :: (s ++ t)) := List.perm_middle
  obtain ⟨r, hr⟩ := comes (m := s ++ t) l hn.2 (fun x hx => by
   have := h1.mem_iff.1 (hs x (List.mem_cons_of_mem _ hx))
   rcases List.mem_cons.1 this with e | e
   ·exact absurd (e ▸ hx) hn.1
   ·exact e)
  exact ⟨r, h1.trans (List.Perm.cons a hr)⟩
section
variable {P : Program} {ops : Array Oper} {Q : Exit → Act → World → Prop} {a : Act} {w : World} {rest : List Oper} {o : Oper}
theorem Wgc (hg : o.guard = none) (x : Operand) (i : Nat) (hop : o.op = .extract x i) {ys : Array Value} (hx : a.eval x = .tuple ys) {v : Value} (hv : ys[i]? = some v)
  (hK : wpList P ops Q rest (a.put o.dst v) w) : wpList P ops Q (o :: rest) a w := by
 refine wpList_plain hg fun K' hK' => ?_
 unfold Oper.wp
 have hrun : (execOp a.eval o).run P w = .ok (.value v) w := by
  simp [execOp, hop, hx, Instr.extract, hv]
 rw [hrun]
 exact hK' _ _ hK
theorem range_nil {t k e : TypeId} (ht : P.underlying t = some (.map k e)) : ∃ w', (Instr.range t (.map none)).run P w = .ok (.pointer (some ⟨w.heap.size, 0, none⟩)) w' ∧ w.grownBy w' none ∧ w'.heap.size = w.heap.size + 1 ∧ w'.heap[w.heap.size]? = some (.mapIter none 0 #[] 0) := by
 refine ⟨w.alloc (.mapIter none 0 #[] 0), ?_, World.grownBy_alloc w _ none, by simp, (MapKept.heap_alloc w _).1⟩
 simp only [Instr.range, Sem.run_bind, Zak w ht, Result.andThen_ok, Sem.run_pure]
 rfl
theorem next_nil {r : Nat} {ty : TypeId} {x y : Nat} {z : Array Nat} (h : w.heap[r]? = some (.mapIter none x z y)) : (Instr.next (.pointer (some ⟨r, 0, none⟩)) false ty).run P w = .ok (.tuple #[.bool false]) w := by
 simp only [Instr.next, getObj, Sem.run_bind, Sem.run, h, Result.andThen]
 rfl
end
theorem rgSt_o (c : RgC) (s : St U) : (Wle c s).o = s.o := by
 unfold Wle St.put
 cases c.no.dst <;> cases c.xo.dst <;> rfl
theorem rg_dst {nt : Nat} {c : RgC} (hd : Wlj nt c.code = true) : (∀ o ∈ c.pre ++ [c.ro], ∀ d, o.dst = some d → d < nt) ∧ (∀ o ∈ [c.no, c.xo], ∀ d, o.dst = some d → d < nt) ∧ (∀ o ∈ c.eo :: c.es, ∀ d, o.dst = some d → d < nt) ∧ Wlj nt c.rest = true := by
 simp only [RgC.code, RgC.body, Wlj, Bool.and_eq_true] at hd
 obtain ⟨h1, h2, _, h3, h4⟩ := hd
 have key : ∀ l : List Oper, (l.toArray.toList.all fun o => match o.dst with | some d => Nat.blt d nt | none => true) = true → ∀ o ∈ l, ∀ d, o.dst = some d → d < nt := by
  intro l h o ho d hod
  have := List.all_eq_true.mp h o (by simpa using ho)
  simp only [hod] at this
  exact Wjo this
 exact ⟨key _ h1, key _ h2, key _ h3, h4⟩
theorem Qjv {E : Env U} (he : Wbx E) {nt : Nat} {C : Cx} {N : Nat → Nat → Prop} {R : Rl} {s : St U} {a : Act} (h : SR E.D nt C N R s a) (id : Nat) (l : List Oper) : ∃ R', R'.w = R.w ∧ R.le R' ∧ SR E.D nt C N R' (frzA E id l s) a := by
 obtain ⟨R00, hw00, hle00, h00⟩ := h.Wpa he.law (Qkg E l)
 obtain ⟨R01, hw01, hle01, h01⟩ := h00.Wke he.law (Qbe l)
 obtain ⟨R0, hw0', hle0', h0⟩ := h01.Wlz he.law (E.lds id)
 exact ⟨R0, (hw0'.trans hw01).trans hw00, (hle00.trans hle01).trans hle0', h0⟩
theorem eval_put (a : Act) (d : Nat) (y : Value) (n : Nat) (hd : d < a.tmps.size) : (a.put (some d) y).eval (.tmp n) = if d = n then y else a.eval (.tmp n) := Qon a d y n hd
section
variable {E : Env U} {nt : Nat} {fn : Func}
structure RgI (D : Wbf U) (nt : Nat) (C : Cx) (N0 : Nat → Nat → Prop) (s : St U) (ka va : Bool) {ck cv : U.C} (b r : Nat) (es : Array MapEntry) (clock : Nat) (φ : MapEntry → U.El ck × U.El cv) (got : List MapEntry) (a : Act) (R : Rl) : Prop where
 sr : SR D nt C N0 R s a
 rg : Rng R.w b r es clock got
 nb : ∀ i, R.N b i
 ub : ¬ Wda R s b
 ur : ¬ Wda R s r
 vr : ∀ e ∈ es.toList, VR D R (Wcg ka (D.enc ck (φ e).1)) e.key ∧ VR D R (Wcg va (D.enc cv (φ e).2)) e.val
theorem Wwq {D : Wbf U} (L : Lawful D) (g : Bool) (c : U.C) (x : U.El c) : c1 (Wcg g (D.enc c x)) = true := Wqw (L := L)
theorem rng_loop (he : Wbx E) (Wlg : E.P.follows .mixedOrders = true) (hres : E.results = fn.results.toList) {c : RgC} (hd : Wlj nt c.code = true) (hl : Qbj E nt fn (Wcm c.rest))
  {ty : TypeId} {mx it nx ok : Nat} (sh : c.Shape ty mx it nx ok) {n : RgN} {X YB : Type} {iB : Lay U X} {oB : Wdu U YB} {ka va : Bool} {ck cv : U.C}
  {once : X → U.El ck × U.El cv → Option (X ⊕ YB)}
  (hbody : ∀ x e, Qeu E c (Wle c (iB.put x)) (.tup [Wcg ka (E.D.enc ck e.1), Wcg va (E.D.enc cv e.2)]) (Wlp iB.un oB.re) = once x e)
  (hH : ∀ x, RgH n it (iB.put x)) (hret : ∀ y, isRetK n (oB.fin y)) (hit : it < nt) (hi1 : it ≠ nx) (hi2 : it ≠ ok)
  {w0 : Cx} {N0 : Nat → Nat → Prop} {Q : Exit → Act → World → Prop}
  {b r : Nat} {es : Array MapEntry} {clock : Nat} (hgi : w0.gh.getD (n.k + 1) undef = .pointer (some ⟨r, 0, none⟩)) (hr0 : w0.w.heap.size ≤ r)
  (φ : MapEntry → U.El ck × U.El cv) (z : X ⊕ YB)
  (hnorm : ∀ x a R got, z = .inl x → RgI E.D nt w0 N0 (Wle c (iB.put x)) ka va b r es clock φ got a R → Q .normal a R.w)
  (hretq : ∀ y m a R, z = .inr y → oB.fin y = .ret m → Post E nt w0 N0 fn Q a R (.ret m)) :
  ∀ (q : Nat) (got : List MapEntry) (x : X) (a : Act) (R : Rl), es.size + 1 ≤ got.length + q → RgI E.D nt w0 N0 (iB.put x) ka va b r es clock φ got a R →
   (∀ rest, (got.map φ ++ rest).Perm (es.toList.map φ) → Wvr once rest x = some z) → Code.rounds E.P c.body (Exit.inBlock c.bid Q) q a R.w := by
 obtain ⟨_, hdH, hdE, hdR⟩ := rg_dst hd
 have hnx : nx < nt := hdH c.no (by simp) nx sh.n3
 have hok : ok < nt := hdH c.xo (by simp) ok sh.x3
 have itAt : ∀ {s : St U} {C : Cx} {N : Nat → Nat → Prop} {a : Act} {R : Rl}, C.gh = w0.gh → s.get it = .ptr n.iid 0 → s.get (gb + n.k + 1) = .ptr n.iid 0 → SR E.D nt C N R s a → a.eval (.tmp it) = .pointer (some ⟨r, 0, none⟩) := by
  intro s C N a R hC g1 g3 h
  have h1 := h.tm it
  have h2 := h.tm (gb + n.k + 1)
  rw [g1, Wpk (Nat.lt_of_lt_of_le hit h.Wdp)] at h1
  rw [g3, tv, if_neg (by omega), hC, show gb + n.k + 1 - gb = n.k + 1 by omega, hgi] at h2
  obtain ⟨B, e1, k1, k2⟩ := h1.Wfj
  obtain ⟨B', e1', k1', k2'⟩ := h2.Wfj
  rw [k1] at k1'
  cases k1'
  show a.tmps.getD it undef = _
  rw [k2, k2']
 intro q
 induction q with
 | zero =>
  intro got x a R hq I
  have := I.rg.len
  omega
 | succ q ih =>
  intro got x a R hq I hwk
  rw [rounds_succ]
  have hsz := I.sr.size
  have stA : ∀ {R1 : Rl} {y1 y2 : Value}, SR E.D nt w0 N0 R1 (iB.put x) a → SR E.D nt w0 N0 R1 (Wle c (iB.put x)) ((a.put c.no.dst y1).put c.xo.dst y2) := fun h =>
   (h.put (fun d hd' => hdH c.no (by simp) d hd') (.undef _)).put (fun d hd' => hdH c.xo (by simp) d hd') (.undef _)
  have evA : ∀ (y1 y2 : Value) (t : Nat), ((a.put c.no.dst y1).put c.xo.dst y2).eval (.tmp t) = if ok = t then y2 else if nx = t then y1 else a.eval (.tmp t) := by
   intro y1 y2 t
   rw [sh.n3, sh.x3, eval_put _ _ _ _ (by simp [Act.put, hsz, hok]), eval_put _ _ _ _ (by rw [hsz]; exact hnx)]
  have own1 : ∀ (R1 : Rl) (B : Nat), R1.blk = R.blk → Wda R1 (Wle c (iB.put x)) B → Wda R (iB.put x) B := by
   rintro R1 B e ⟨id, o, es', ho, ha, hb⟩
   rw [rgSt_o] at ho
   exact ⟨id, o, es', ho, ha, e ▸ hb⟩
  refine wp_seq (wp_region_lit ?_)
  refine Qcn sh.n2 (.tmp it) sh.n1 b r (itAt rfl (hH x).g1 (hH x).g3 I.sr) I.rg (fun hp => ?_) (fun kk v bo w' hc hent => ?_)
  ·refine Wgc sh.x2 (.tmp nx) 0 sh.x1 (ys := #[.bool false]) (v := .bool false) (by rw [sh.n3, eval_put _ _ _ _ (by rw [hsz]; exact hnx), if_pos rfl]) rfl (wpList_nil ?_)
   show (Code.seq _ _).wp _ _ _ _
   refine wp_seq (wp_cond_false (by rw [sh.cc, evA, if_pos rfl]) (wp_exit ?_))
   show Exit.inBlock c.bid Q (.exit c.bid) _ _
   simp only [Exit.inBlock, if_true]
   have hz := hwk [] (by simpa using hp.map φ)
   cases hz
   exact hnorm x _ R got rfl ⟨stA I.sr, I.rg, I.nb, fun ho => I.ub (own1 R b rfl ho), fun ho => I.ur (own1 R r rfl ho), I.vr⟩
  ·refine Wgc sh.x2 (.tmp nx) 0 sh.x1 (ys := #[.bool true, kk, v]) (v := .bool true) (by rw [sh.n3, eval_put _ _ _ _ (by rw [hsz]; exact hnx), if_pos rfl]) rfl (wpList_nil ?_)
   show (Code.seq _ _).wp _ _ _ _
   refine wp_seq (wp_cond_true (by rw [sh.cc, evA, if_pos rfl]) (wp_skip ?_))
   show (Code.block _ _).wp _ _ _ _
   have Qjq : ∀ {W : World} {g : List MapEntry}, Rng W b r es clock g → ∀ i, W.cell? ⟨r, i, none⟩ = none := by
    intro W g h i
    obtain ⟨seen, c0, hr, _⟩ := h.hr
    simp [World.cell?, hr]
   obtain ⟨hle1, hs1⟩ := I.sr.walks hc.grown hc.size hr0 I.ur (Qjq I.rg) (Qjq hc.rng)
   have hS := stA (y1 := .tuple #[.bool true, kk, v]) (y2 := .bool true) hs1
   generalize ha1 : (a.put c.no.dst (.tuple #[.bool true, kk, v])).put c.xo.dst (.bool true) = a1 at hS
   let R1 : Rl := { R with w := w' }
   have hb1 : b < w'.heap.size := (Array.getElem?_eq_some_iff.1 hc.rng.hb).1
   have hr1 : r < w'.heap.size := hc.rng.lt
   have ub1 : ¬ Wda R1 (Wle c (iB.put x)) b := fun ho => I.ub (own1 R1 b rfl ho)
   have ur1 : ¬ Wda R1 (Wle c (iB.put x)) r := fun ho => I.ur (own1 R1 r rfl ho)
   have hS2 : SR E.D nt ⟨R1.w, Wda R1 (Wle c (iB.put x)), w0.gh⟩ R1.N R1 (Wle c (iB.put x)) a1 := hS.restart
   have hev1 : a1.eval (.tmp it) = .pointer (some ⟨r, 0, none⟩) := by
    rw [← ha1, evA, if_neg (fun e => hi2 e.symm), if_neg (fun e => hi1 e.symm)]
    exact itAt rfl (hH x).g1 (hH x).g3 I.sr
   have he1 := I.vr _ hc.mem
   obtain ⟨rest0, hperm⟩ := comes (m := es.toList) (got ++ [⟨kk, v, bo⟩]) (Wkb _ hc.rng.nd) hc.rng.mem
   have hwk1 := hwk (φ ⟨kk, v, bo⟩ :: rest0.map φ) (by
    have := (hperm.map φ).symm
    simpa using this)
   simp only [Wvr] at hwk1
   obtain ⟨q0, hq0, hwk2⟩ := Option.bind_eq_some_iff.1 hwk1
   have hk := (hbody x (φ ⟨kk, v, bo⟩)).trans hq0
   unfold Qeu at hk
   refine wp_block (wp_seq (wp_region ?_))
   have hops : ((c.eo :: c.es).toArray)[0]? = some c.eo := by simp
   rw [List.range_eq_range', show ((c.eo :: c.es).toArray).size = c.es.length + 1 by simp, List.range'_succ]
   obtain ⟨R0, hw0, hle0, h0⟩ := Qjv he hS2 c.eid (c.eo :: c.es)
   show wpOps E.P _ _ (0 :: List.range' (0 + 1) c.es.length) a1 w'
   unfold wpOps
   rw [hops]
   simp only []
   rw [if_pos (by simp [Region.wanted, sh.e2])]
   refine .inl ?_
   unfold Oper.wp
   have hrun : (execOp a1.eval c.eo).run E.P w' = .ok (.value (.tuple #[kk, v])) w' := by
    simp [execOp, sh.e1, hev1, hent]
   rw [hrun]
   show wpOps E.P _ _ (List.range' (0 + 1) c.es.length) (a1.put c.eo.dst (.tuple #[kk, v])) w'
   have hpair : VR E.D R0 (.tup [Wcg ka (E.D.enc ck (φ ⟨kk, v, bo⟩).1), Wcg va (E.D.enc cv (φ ⟨kk, v, bo⟩).2)]) (.tuple #[kk, v]) := by
    refine .tup rfl fun i p y hp hy => ?_
    have hle : R.le R0 := hle1.trans hle0
    match i, hp, hy with
    | 0, hp, hy => cases hp; cases hy; exact he1.1.mono hle
    | 1, hp, hy => cases hp; cases hy; exact he1.2.mono hle
   have hS3 := h0.put (dst := c.eo.dst) (fun d hd' => hdE c.eo (by simp) d hd') hpair
   rw [show w' = R0.w from hw0.symm]
   refine Qfg he (fun i o d hi hod => hdE o (List.mem_of_getElem? (by simpa using hi)) d hod) c.es (0 + 1) _ _ R0 (fun j o hj => by rw [show 0 + 1 + j = j + 1 by omega]; simpa using hj) hS3 hk (fun s' a' R' _ hs' hk' => ?_)
   show c.rest.wp E.P _ a' R'.w
   have goOn : ∀ (s'' : St U) (a'' : Act) (R'' : Rl), SR E.D nt ⟨R1.w, Wda R1 (Wle c (iB.put x)), w0.gh⟩ R1.N R'' s'' a'' → Wlp iB.un oB.re (.norm s'') = some q0 → Code.rounds E.P c.body (Exit.inBlock c.bid Q) q a'' R''.w := by
    intro s'' a'' R'' hs'' hh
    simp only [Wlp, Z4] at hh
    obtain ⟨x', hx', rfl⟩ := hh
    obtain ⟨R3, hw3, hs3⟩ := hs''.fits he.law (iB.fit s'' x' hx')
    rw [← hw3]
    have hkb := hs3.keep.block b hb1 ub1
    have hkr := hs3.keep.block r hr1 ur1
    obtain ⟨seen, c0, k1, k2⟩ := hc.rng.hr
    have un : ∀ B, B < w'.heap.size → ¬ Wda R1 (Wle c (iB.put x)) B → ¬ Wda R3 (iB.put x') B := by
     rintro B hB hu ⟨id, o, es', ho, ha, hb⟩
     rcases (hs3.own id o B es' ho ha hb).2.1 with h1 | h1
     ·have h1 : w'.heap.size ≤ B := h1
      omega
     ·exact hu h1
    refine ih (got ++ [⟨kk, v, bo⟩]) x' a'' R3 (by simp; omega) ⟨hS.Wyy hs3, ⟨hkb.trans hc.rng.hb, ⟨seen, c0, hkr.trans k1, k2⟩, hc.rng.mem, hc.rng.nd, hc.rng.st⟩, fun i => hs3.nn b i hb1 ub1 (I.nb i), un b hb1 ub1, un r hr1 ur1, fun e hee => ?_⟩ (fun rest hp => ?_)
    ·have h1 := (I.vr e hee).1.mono hle1
     have h2 := (I.vr e hee).2.mono hle1
     exact ⟨h1.far he.law (Wwq he.law _ _ _) hs3.keep.size hs3.le0, h2.far he.law (Wwq he.law _ _ _) hs3.keep.size hs3.le0⟩
    ·have := hwk (φ ⟨kk, v, bo⟩ :: rest) (by simpa using hp)
     simp only [Wvr, hq0, Z0] at this
     exact this
   refine Wsa he Wlg hres c.rest s' a' R' _ q0 _ hdR hl hs' hk' (fun o ho a'' R'' => ?_)
   cases o with
   | norm s'' => exact fun hs'' => goOn s'' a'' R'' hs'' ho
   | exit id s'' =>
    intro hs''
    simp only at ho
    cases hb : Nat.beq id c.cid with
    | true =>
     rw [hb, cond_true] at ho
     have := Z2 hb
     subst this
     show Exit.inBlock c.cid _ (.exit c.cid) a'' R''.w
     simp only [Exit.inBlock, if_true]
     exact goOn s'' a'' R'' hs'' ho
    | false =>
     rw [hb, cond_false] at ho
     simp only [Wlp, Z4] at ho
     obtain ⟨y, hy, rfl⟩ := ho
     have h1 := oB.fit _ _ hy
     have h2 := hret y
     cases hfy : oB.fin y with
     | ret m => rw [hfy] at h1; exact h1.elim
     | norm m => rw [hfy] at h2; exact h2.elim
     | exit i m => rw [hfy] at h2; exact h2.elim
   | ret m =>
    simp only [Wlp, Z4] at ho
    obtain ⟨y, hy, rfl⟩ := ho
    refine Wim he (oB.fit _ _ hy) fun R4 => ?_
    have h2 := hret y
    cases hfy : oB.fin y with
    | norm m => rw [hfy] at h2; exact h2.elim
    | exit i m => rw [hfy] at h2; exact h2.elim
    | ret m2 =>
     intro y' hs4 hdf hrr
     simp only [Option.some.injEq] at hwk2
     exact hretq y m2 a'' R4 hwk2.symm hfy y' (hS.Wyy hs4) hdf hrr
theorem castM_eq {D : Wbf U} {c c' v v' : U.C} {l : List (U.El c' × U.El v')} {m : List (U.El c × U.El v)} (h : Qkj D c c' v v' l = some m) : ∃ (e : c' = c) (e' : v' = v), m = e ▸ e' ▸ l := by
 unfold Qkj at h
 split at h
 ·rename_i e e' _ _
  cases h
  exact ⟨e, e', rfl⟩
 ·cases h
theorem Qpo {D : Wbf U} {w0 : Cx} {N0 : Nat → Nat → Prop} {R : Rl} {s : St U} {a : Act} {c : RgC} {n : RgN} {it nx ok : Nat} (hn3 : c.no.dst = some nx) (hx3 : c.xo.dst = some ok) {B : Option Nat} {vi : Value} (h : SR D nt ⟨w0.w, w0.G, ghW w0.gh n.k (.map B) vi⟩ N0 R (Wle c s) a) (hH : RgH n it s)
  (h0 : n.n0 < nt) (h1 : n.n0 ≠ nx) (h2 : n.n0 ≠ ok) (h3 : nx < nt) (h4 : ok < nt) {wf ka va : Bool} {ck cv : U.C} {l : List (U.El ck × U.El cv)}
  (hB : ∀ b, B = some b → (∀ i, R.N b i) ∧ (w0.w.heap.size ≤ b ∨ w0.G b) ∧ b < R.w.heap.size ∧ ¬ Wda R (Wle c s) b)
  (hor : ∀ R', R.le R' → R'.w = R.w → R'.hdr n.mid2 = some (B.map fun B => ⟨B, 0, none⟩, 0, 0) → R'.blk n.mid2 = B.map (fun b => (b, 0)) → OR D R' n.mid2 (.map wf ka va ck cv l)) :
  ∃ R8, R8.w = R.w ∧ SR D nt w0 N0 R8 (rgBack c n wf ka va ck cv l s) a := by
 have hgb := h.Wdp
 have gSt : ∀ t, nx ≠ t → ok ≠ t → (Wle c s).get t = s.get t := by
  intro t e1 e2
  unfold Wle
  rw [hn3, hx3, get_put, if_neg (by simpa using e2), get_put, if_neg (by simpa using e1)]
 obtain ⟨R8, hle, hw, hs, hh⟩ := h.addMap (id := n.mid2) (by rw [rgSt_o]; exact hH.g4) B (w := wf) (ka := ka) (va := va) (ck := ck) (cv := cv) (l := l) hB hor
 refine ⟨R8, hw, ?_⟩
 have hv : tv a w0.gh n.n0 = .map B := by
  have k1 := h.tm n.n0
  have k2 := h.tm (gb + n.k)
  rw [gSt _ (fun e => h1 e.symm) (fun e => h2 e.symm), hH.g0, Wpk (Nat.lt_of_lt_of_le h0 hgb)] at k1
  rw [gSt _ (by omega) (by omega), hH.g2, Qla, if_pos rfl] at k2
  obtain ⟨B1, q1, q2⟩ := k1.Wfo
  obtain ⟨B2, q3, q4⟩ := k2.Wfo
  cases q4
  rw [q1] at q3
  rw [Wpk (Nat.lt_of_lt_of_le h0 hgb), q2]
  congr 1
  cases B1 <;> cases B <;> simp at q3 ⊢
  exact q3
 refine hs.regh rfl fun t => ?_
 show VR D R8 ((((((Wle c s).Wdq n.mid2 (.map wf ka va ck cv l)).set n.n0 (.mp n.mid2)).set (gb + n.k) .undef).set (gb + n.k + 1) .undef).get t) _
 rw [Wja]
 split
 ·exact .undef _
 rename_i e1
 rw [Wja]
 split
 ·exact .undef _
 rename_i e2
 rw [Wja]
 split
 ·rename_i e
  rw [← e, hv]
  exact .mp hh
 ·have := hs.tm t
  rw [Qla, if_neg (fun e => e2 e.symm), if_neg (fun e => e1 e.symm)] at this
  exact this
theorem Qiw (he : Wbx E) (Wlg : E.P.follows .mixedOrders = true) (hres : E.results = fn.results.toList) {c : RgC} (hd : Wlj nt c.code = true) (hl : Qbj E nt fn (Wcm c.rest))
  {ty kt et : TypeId} {mx it nx ok : Nat} (sh : c.Shape ty mx it nx ok) (hty : E.P.underlying ty = some (.map kt et)) (n : RgN)
  (hnum : (Nat.blt mx nt && Nat.blt it nt && Nat.blt n.n0 nt && !(Nat.beq it nx) && !(Nat.beq it ok) && !(Nat.beq n.n0 nx) && !(Nat.beq n.n0 ok)) = true)
  {XI X YB Y : Type} (iI : Lay U XI) (iB : Lay U X) (oB : Wdu U YB) (oO : Wdu U Y) (wf ka va : Bool) (ck cv : U.C) (lst : XI → List (U.El ck × U.El cv)) (x0 : XI → X)
  (once : X → U.El ck × U.El cv → Option (X ⊕ YB)) (fo : XI → X ⊕ YB → Y)
  (hpre : ∀ xi, (rgPre E c (iI.put xi)).isSome = true)
  (hin : ∀ xi, rgRd E.D n mx it wf ka va ck cv iB (rgIn E c (iI.put xi)) = some (lst xi, x0 xi))
  (hbody : ∀ x e, Qeu E c (Wle c (iB.put x)) (.tup [Wcg ka (E.D.enc ck e.1), Wcg va (E.D.enc cv e.2)]) (Wlp iB.un oB.re) = once x e)
  (hH : ∀ x, RgH n it (iB.put x)) (hret : ∀ y, isRetK n (oB.fin y))
  (hout : ∀ xi x, oO.re (.norm (rgBack c n wf ka va ck cv (lst xi) (iB.put x))) = some (fo xi (.inl x)))
  (houtR : ∀ xi y, oO.re (oB.fin y) = some (fo xi (.inr y))) :
  Wbz E nt fn c.code (ldn iI oO fun xi => (rngP once (lst xi) (x0 xi)).map (fo xi)) := by
 intro w0 N0 s xi y hun hf a R Q h hq
 simp only [Bool.and_eq_true, Bool.not_eq_true'] at hnum
 obtain ⟨⟨⟨⟨⟨⟨m1, m2⟩, m3⟩, m4⟩, m5⟩, m6⟩, m7⟩ := hnum
 have neq : ∀ {x y : Nat}, Nat.beq x y = false → x ≠ y := fun h e => by rw [e, Nat.beq_refl] at h; cases h
 have hmx := Wjo m1
 have hit := Wjo m2
 have hn0 := Wjo m3
 have hi1 := neq m4
 have hi2 := neq m5
 have hj1 := neq m6
 have hj2 := neq m7
 obtain ⟨hdA, hdH, _, _⟩ := rg_dst hd
 have hnx : nx < nt := hdH c.no (by simp) nx sh.n3
 have hok : ok < nt := hdH c.xo (by simp) ok sh.x3
 obtain ⟨R2, hw2, h2⟩ := h.fits he.law (iI.fit s xi hun)
 rw [← hw2]
 have hf : (rngP once (lst xi) (x0 xi)).map (fo xi) = some y := hf
 obtain ⟨z, hz, hfo⟩ := Option.map_eq_some_iff.1 hf
 subst hfo
 have hwalk : ∀ σ, σ.Perm (lst xi) → Wvr once σ (x0 xi) = some z := Qkq hz
 obtain ⟨sP, hsP⟩ := Option.isSome_iff_exists.1 (hpre xi)
 have hin := hin xi
 rw [show rgIn E c (iI.put xi) = sP by unfold rgIn; rw [hsP]; rfl] at hin
 obtain ⟨R0, hw0, hle0, h0⟩ := Qjv he h2 c.id (c.pre ++ [c.ro])
 rw [← hw0]
 show (Code.seq _ _).wp E.P Q a R0.w
 refine wp_seq (wp_region ?_)
 rw [List.range_eq_range', show ((c.pre ++ [c.ro]).toArray).size = c.pre.length + 1 by simp, List.range'_1_concat, Nat.zero_add]
 refine Wlk he (fun i o d hi hod => hdA o (List.mem_of_getElem? (by simpa using hi)) d hod) [c.pre.length] c.pre 0 _ a R0 (fun j o hj => ?_) h0 hsP (fun s' a' R' _ hs' hk' => ?_)
 ·rw [Nat.zero_add]
  have := (List.getElem?_eq_some_iff.1 hj).1
  simp only [List.getElem?_toArray]
  rw [List.getElem?_append_left this]
  exact hj
 cases hk'
 unfold rgRd at hin
 split at hin
 rotate_left
 ·cases hin
 rename_i i1 i2 w ka' va' ck' cv' l' g1 g2 g3 g4
 obtain ⟨hb, hin2⟩ := Zr hin
 clear hin
 simp only [Bool.and_eq_true, beq_iff_eq] at hb
 obtain ⟨⟨⟨⟨b1, b2⟩, rfl⟩, rfl⟩, rfl⟩ := hb
 have b1 := Z2 b1
 have b2 := Z2 b2
 subst b1
 rw [b2] at g2
 split at hin2
 rotate_left
 ·cases hin2
 rename_i l x hcl hx
 obtain ⟨e, e', hcl⟩ := castM_eq hcl
 subst e
 subst e'
 cases hcl
 injection hin2 with hin2
 injection hin2 with hlst hx0
 have kmx := hs'.tm mx
 rw [g1, Wpk (Nat.lt_of_lt_of_le hmx hs'.Wdp)] at kmx
 obtain ⟨B, hhd, hmv⟩ := kmx.Wfo
 obtain ⟨B', hhd', hmap⟩ := hs'.objs n.mid _ g3
 have hBB : B' = B := by
  rw [hhd] at hhd'
  cases B <;> cases B' <;> simp at hhd' ⊢
  exact hhd'.symm
 subst hBB
 obtain ⟨w', hrun, hgr, hsz, hstart⟩ : ∃ w', (Instr.range ty (.map B')).run E.P R'.w = .ok (.pointer (some ⟨R'.w.heap.size, 0, none⟩)) w' ∧ R'.w.grownBy w' none ∧ w'.heap.size = R'.w.heap.size + 1 ∧
   ((B' = none ∧ w'.heap[R'.w.heap.size]? = some (.mapIter none 0 #[] 0)) ∨ ∃ b es clock, B' = some b ∧ R'.w.heap[b]? = some (.map es clock) ∧ Stamped es clock ∧ Rng w' b R'.w.heap.size es clock []) := by
  rcases hmap with ⟨rfl, _⟩ | ⟨b, es, clock, rfl, k1, k2, ⟨k3, k4⟩, k5⟩
  ·obtain ⟨w', q1, q2, q3, q4⟩ := range_nil (P := E.P) (w := R'.w) hty
   exact ⟨w', q1, q2, q3, .inl ⟨rfl, q4⟩⟩
  ·obtain ⟨w', q1, q2, q3, q4⟩ := Rng.start (P := E.P) hty k2 k4
   exact ⟨w', q1, q3, q4, .inr ⟨b, es, clock, rfl, k2, k4, q2⟩⟩
 generalize hr : R'.w.heap.size = r at hrun hsz hstart
 have hops : ((c.pre ++ [c.ro]).toArray)[c.pre.length]? = some c.ro := by simp
 unfold wpOps
 rw [hops]
 simp only []
 rw [if_pos (by simp [Region.wanted, sh.r2])]
 refine .inl ?_
 unfold Oper.wp
 have hrun' : (execOp a'.eval c.ro).run E.P R'.w = .ok (.value (.pointer (some ⟨r, 0, none⟩))) w' := by
  have : a'.eval (.tmp mx) = .map B' := hmv
  simp [execOp, sh.r1, this, hrun]
 rw [hrun']
 show (Code.block _ _).wp E.P Q (a'.put c.ro.dst _) w'
 rw [sh.r3]
 have hBelow : Below R'.w.heap.size R'.w w' := ⟨hgr.os, hgr.tape, hgr.output, hgr.size, fun k hk => hgr.block k hk (by simp)⟩
 have hle1 : R'.le { R' with w := w' } := ⟨fun _ _ e => e, fun _ _ e => e, hgr.size, fun b i hb hN => ⟨Zdn (hgr.block b hb (by simp)), hN⟩⟩
 have hs1 := (hs'.kill g3).calls hBelow hle1
 have hne : n.mid ≠ n.iid := fun e => by rw [← e, g3] at g4; cases g4
 obtain ⟨hle2, hs2⟩ := hs1.addDead (id := n.iid) (by rw [Zbm, if_neg hne]; exact g4) (some (r, 0))
 let R5 : Rl := { w := w', N := R'.N, blk := fun k => if k = n.iid then some (r, 0) else R'.blk k, hdr := R'.hdr }
 have hle2 : R'.le R5 := hle1.trans hle2
 have hbi : R5.blk n.iid = some (r, 0) := if_pos rfl
 have hs3 : SR E.D nt w0 N0 R5 (((sP.Wdq n.mid .dead).Wdq n.iid .dead).put (some it) (.ptr n.iid 0)) (a'.put (some it) (.pointer (some ⟨r, 0, none⟩))) := hs2.put (fun d hd' => by cases hd'; exact hit) (.ptr hbi)
 have hs4 : SR E.D nt ⟨w0.w, w0.G, ghW w0.gh n.k (.map B') (.pointer (some ⟨r, 0, none⟩))⟩ N0 R5 (rgIt n it sP) (a'.put (some it) (.pointer (some ⟨r, 0, none⟩))) := by
  refine hs3.regh rfl fun t => ?_
  show VR E.D R5 (((((((sP.Wdq n.mid .dead).Wdq n.iid .dead).set it (.ptr n.iid 0)).set (gb + n.k) (.mp n.mid)).set (gb + n.k + 1) (.ptr n.iid 0))).get t) _
  rw [Wja, Qla]
  by_cases e1 : gb + n.k + 1 = t
  ·rw [if_pos e1, if_neg (by omega), if_pos e1.symm]
   exact .ptr hbi
  ·rw [if_neg e1, Wja]
   by_cases e2 : gb + n.k = t
   ·rw [if_pos e2, if_pos e2.symm]
    exact .mp hhd
   ·rw [if_neg e2, if_neg (fun e => e2 e.symm), if_neg (fun e => e1 e.symm)]
    exact hs3.tm t
 generalize ha2 : a'.put (some it) (.pointer (some ⟨r, 0, none⟩)) = a2 at hs4
 have hs5 := hs4.restart
 obtain ⟨R6, hw6, hs6⟩ := hs5.fits he.law (iB.fit _ x hx)
 have hs7 := hs4.Wyy hs6
 rw [show w' = R6.w from hw6.symm]
 have hr5 : r < R5.w.heap.size := by show r < w'.heap.size; omega
 have un : ∀ B, B < R5.w.heap.size → ¬ Wda R5 (rgIt n it sP) B → ¬ Wda R6 (iB.put x) B := by
  rintro B hB hu ⟨id, o, es', ho, ha, hb⟩
  rcases (hs6.own id o B es' ho ha hb).2.1 with h1 | h1
  ·have h1 : R5.w.heap.size ≤ B := h1
   omega
  ·exact hu h1
 have ow : ∀ B, Wda R5 (rgIt n it sP) B → ∃ id o es', lk sP.o id = some o ∧ o.alive ∧ R'.blk id = some (B, es') ∧ id ≠ n.mid := by
  rintro B ⟨id, o, es', ho, ha, hb⟩
  have ho : lk ((sP.Wdq n.mid .dead).Wdq n.iid .dead).o id = some o := ho
  rw [Zbm, Zbm] at ho
  split at ho
  ·cases ho; exact ha.elim
  ·rename_i e1
   split at ho
   ·cases ho; exact ha.elim
   ·rename_i e2
    have hb : (if id = n.iid then some (r, 0) else R'.blk id) = some (B, es') := hb
    rw [if_neg (fun e => e1 e.symm)] at hb
    exact ⟨id, o, es', ho, ha, hb, fun e => e2 e.symm⟩
 have ur : ¬ Wda R6 (iB.put x) r := un r hr5 fun ho => by
  obtain ⟨id, o, es', q1, q2, q3, _⟩ := ow r ho
  have := (hs'.own id o r es' q1 q2 q3).2.2
  omega
 have hgi : (ghW w0.gh n.k (.map B') (.pointer (some ⟨r, 0, none⟩))).getD (n.k + 1) undef = .pointer (some ⟨r, 0, none⟩) := by
  rw [ghW_get, if_neg (by omega), if_pos rfl]
 have hr0 : w0.w.heap.size ≤ r := by
  have := hs'.keep.size
  omega
 refine wp_block ?_
 have hretq : ∀ y' m a R, z = .inr y' → oB.fin y' = .ret m → Post E nt ⟨w0.w, w0.G, ghW w0.gh n.k (.map B') (.pointer (some ⟨r, 0, none⟩))⟩ N0 fn Q a R (.ret m) := by
  intro y' m a R hzy hfy v hsm hdf hrr
  subst hzy
  have hk := hret y'
  rw [hfy] at hk
  have := hsm.regh (gh' := w0.gh) (s' := m) rfl (fun t => by
   have ht := hsm.tm t
   rw [Qla] at ht
   by_cases e1 : t = gb + n.k
   ·rw [e1, hk.1]; exact .undef _
   ·by_cases e2 : t = gb + n.k + 1
    ·rw [e2, hk.2]; exact .undef _
    ·rw [if_neg e1, if_neg e2] at ht
     exact ht)
  have hp := Wim (Q := Q) (fn := fn) (w0 := w0) (N0 := N0) (nt := nt) (R := R) (a := a) he (oO.fit _ _ (houtR xi y')) (fun R' => hq a R')
  rw [hfy] at hp
  exact hp v this hdf hrr
 rcases hstart with ⟨rfl, hnil⟩ | ⟨b, es, clock, rfl, hbm, hst, hRng⟩
 ·
  obtain ⟨_, rfl, rfl, _⟩ : _ ∧ l' = [] ∧ w = false ∧ _ := by
   rcases hmap with hmap | ⟨b, _, _, hh, _⟩
   ·exact hmap
   ·cases hh
  have hz0 := hwalk [] (by rw [← hlst])
  simp only [Wvr, Option.some.injEq] at hz0
  subst hz0
  refine wp_loop_rounds 1 ?_
  rw [rounds_succ]
  have hsz2 := hs7.size
  refine wp_seq (wp_region_lit ?_)
  have hit2 : a2.eval (.tmp it) = .pointer (some ⟨r, 0, none⟩) := by
   rw [← ha2, eval_put _ _ _ _ (by rw [hs'.size]; exact hit), if_pos rfl]
  refine wpList_plain sh.n2 fun K' hK' => ?_
  unfold Oper.wp
  have hrn : (execOp a2.eval c.no).run E.P R6.w = .ok (.value (.tuple #[.bool false])) R6.w := by
   have hq6 : R6.w.heap[r]? = some (.mapIter none 0 #[] 0) := by rw [hw6]; exact hnil
   simp [execOp, sh.n1, hit2, next_nil hq6]
  rw [hrn]
  refine hK' _ _ (Wgc sh.x2 (.tmp nx) 0 sh.x1 (ys := #[.bool false]) (v := .bool false) (by rw [sh.n3, eval_put _ _ _ _ (by rw [hsz2]; exact hnx), if_pos rfl]) rfl (wpList_nil ?_))
  show (Code.seq _ _).wp _ _ _ _
  refine wp_seq (wp_cond_false (by rw [sh.cc, sh.x3, eval_put _ _ _ _ (by simp [Act.put, sh.n3, hsz2, hok]), if_pos rfl]) (wp_exit ?_))
  show Exit.inBlock c.bid Q (.exit c.bid) _ _
  simp only [Exit.inBlock, if_true]
  have hs8 : SR E.D nt ⟨w0.w, w0.G, ghW w0.gh n.k (.map none) (.pointer (some ⟨r, 0, none⟩))⟩ N0 R6 (Wle c (iB.put x)) ((a2.put c.no.dst (.tuple #[.bool false])).put c.xo.dst (.bool false)) :=
   (hs7.put (fun d hd' => hdH c.no (by simp) d hd') (.undef _)).put (fun d hd' => hdH c.xo (by simp) d hd') (.undef _)
  obtain ⟨R8, hw8, hs9⟩ := Qpo sh.n3 sh.x3 hs8 (hH x) hn0 hj1 hj2 hnx hok (wf := false) (ka := ka') (va := va') (l := ([] : List (U.El ck' × U.El cv'))) (fun b hb => by cases hb) (fun R' hle hw hh hb => ⟨none, hh, .inl ⟨rfl, rfl, rfl, hb⟩⟩)
  rw [← hw8]
  have ho := hout xi (x0 xi)
  rw [← hlst, ← hx0] at ho
  rw [← hx0] at hq
  exact (Wim (Q := Q) (fn := fn) he (oO.fit _ _ ho) (fun R' => hq _ R') : Post E nt w0 N0 fn Q _ R8 (.norm _)) hs9
 ·obtain ⟨hblk, hsize, hent⟩ : R'.blk n.mid = some (b, 0) ∧ es.size = l'.length ∧ ∀ (i : Nat) (x : U.El ck' × U.El cv') (e : MapEntry), l'[i]? = some x → es[i]? = some e → VR E.D R' (Wcg ka' (E.D.enc ck' x.1)) e.key ∧ VR E.D R' (Wcg va' (E.D.enc cv' x.2)) e.val := by
   rcases hmap with ⟨hh, _⟩ | ⟨b', es', clock', hh, k1, k2, ⟨k3, k4⟩, k5⟩
   ·cases hh
   ·cases hh
    rw [hbm] at k2
    cases k2
    exact ⟨k1, k3, k5⟩
  obtain ⟨hNb, hlo, hb5⟩ := hs'.own n.mid _ b 0 g3 True.intro hblk
  have hb5 : b < R5.w.heap.size := Nat.lt_of_lt_of_le hb5 hgr.size
  have ub0 : ¬ Wda R5 (rgIt n it sP) b := fun ho => by
   obtain ⟨id, o, es', q1, q2, q3, q4⟩ := ow b ho
   exact q4 (hs'.inj id n.mid o _ b es' 0 q1 g3 q2 True.intro q3 hblk)
  obtain ⟨φ, hφ⟩ := assign (E.D.dflt ck', E.D.dflt cv') es.toList l' (by simpa using hsize) (Zef hst)
  have hph : ∀ (i : Nat) (p : U.El ck' × U.El cv') (e : MapEntry), l'[i]? = some p → es[i]? = some e → p = φ e := by
   intro i p e hp hee
   rw [← hφ, List.getElem?_map, Array.getElem?_toList, hee] at hp
   cases hp
   rfl
  refine wp_loop_rounds (es.size + 1) ?_
  refine rng_loop (es := es) (clock := clock) (b := b) (w0 := ⟨w0.w, w0.G, ghW w0.gh n.k (.map (some b)) (.pointer (some ⟨r, 0, none⟩))⟩) he Wlg hres hd hl sh hbody hH hret hit hi1 hi2 hgi hr0 φ z ?_ hretq (es.size + 1) [] x a2 R6 (by simp) ⟨hs7, by rw [hw6]; exact hRng, fun i => hs6.nn b i hb5 ub0 (hNb True.intro i), un b hb5 ub0, ur, fun e hee => ?_⟩ (fun rest hp => ?_)
  ·intro x' a3 R7 got hzx I
   subst hzx
   obtain ⟨R8, hw8, hs9⟩ := Qpo sh.n3 sh.x3 I.sr (hH x') hn0 hj1 hj2 hnx hok (wf := w) (ka := ka') (va := va') (l := l') (fun b' hb' => by
    cases hb'
    exact ⟨I.nb, hlo, (Array.getElem?_eq_some_iff.1 I.rg.hb).1, I.ub⟩) (fun R' hle hw hh hb => ⟨some b, hh, .inr ⟨b, es, clock, rfl, hb, by rw [hw]; exact I.rg.hb, ⟨hsize, hst⟩, fun i p e hp hee => by
     rw [hph i p e hp hee]
     have := I.vr e (by
      have := List.mem_of_getElem? (show es.toList[i]? = some e by rw [Array.getElem?_toList]; exact hee)
      exact this)
     exact ⟨this.1.mono hle, this.2.mono hle⟩⟩⟩)
   rw [← hw8]
   have ho := hout xi x'
   rw [← hlst] at ho
   exact (Wim (Q := Q) (fn := fn) he (oO.fit _ _ ho) (fun R' => hq _ R') : Post E nt w0 N0 fn Q _ R8 (.norm _)) hs9
  ·obtain ⟨i, hi⟩ := List.getElem?_of_mem hee
   rw [Array.getElem?_toList] at hi
   have hl' : l'[i]? = some (φ e) := by rw [← hφ, List.getElem?_map, Array.getElem?_toList, hi]; rfl
   obtain ⟨k1, k2⟩ := hent i (φ e) e hl' hi
   exact ⟨(k1.mono hle2).far he.law (Wwq he.law _ _ _) hs6.keep.size hs6.le0, (k2.mono hle2).far he.law (Wwq he.law _ _ _) hs6.keep.size hs6.le0⟩
  ·have := hwalk rest (by rw [← hlst, ← hφ]; simpa using hp)
   rw [← hx0] at this
   exact this
theorem Qks {c : Code} {l : List Code} {key : Nat} (hk : lkey c = some key) (hd : E.ld key = none) (hl : Qbj E nt fn l) : Qbj E nt fn (c :: l) := by
 intro c' hc k d h1 h2
 rcases List.mem_cons.1 hc with rfl | hc
 ·rw [hk] at h1
  cases h1
  rw [hd] at h2
  cases h2
 ·exact hl c' hc k d h1 h2
end
end Go.Ev
