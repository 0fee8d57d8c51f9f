import Derived.Test.YtgfbcclfajcjnaaEvC
import Derived.Test.YtgfbcclfajcjnaaEvRd
universe u
namespace Go.Ev
set_option linter.unusedVariables false
set_option linter.unusedSimpArgs false
open Go.RowKit (Below)
open Go.MapKept (Stamped)
variable {U : Univ} {ρ : Type}
def bDead (id : Nat) : Bp U where
  as := []
  un o := match lk o id with
    | some .dead => some ((), [(id, some id)])
    | _ => none
  ob _ := [(id, .dead)]
  ok s x r h ren hr := by
    split at h
    · rename_i hl
      cases h
      exact one_ob ⟨hl, hr (id, some id) List.mem_cons_self⟩
    · cases h
def oNo : OLay U Empty where
  re _ := none
  fin y := y.elim
  finK y _ := y.elim
  finK_eq y _ := y.elim
  fit _ _ h := by cases h
structure RgC where
  id : Nat
  pre : List Oper
  ro : Oper
  bid : Nat
  hid : Nat
  no : Oper
  xo : Oper
  cc : Operand
  cid : Nat
  eid : Nat
  eo : Oper
  es : List Oper
  rest : Code
def RgC.body (c : RgC) : Code := .seq (.region c.hid [c.no, c.xo].toArray false) (.seq (.cond c.cc .skip (.exit c.bid)) (.block c.cid (.seq (.region c.eid (c.eo :: c.es).toArray false) c.rest)))
def RgC.code (c : RgC) : Code := .seq (.region c.id (c.pre ++ [c.ro]).toArray false) (.block c.bid (.loop c.body))
structure RgC.Shape (c : RgC) (ty : TypeId) (mx it nx ok : Nat) : Prop where
  r1 : c.ro.op = .range ty (.tmp mx)
  r2 : c.ro.guard = none
  r3 : c.ro.dst = some it
  n1 : c.no.op = .next (.tmp it) false
  n2 : c.no.guard = none
  n3 : c.no.dst = some nx
  x1 : c.xo.op = .extract (.tmp nx) 0
  x2 : c.xo.guard = none
  x3 : c.xo.dst = some ok
  cc : c.cc = .tmp ok
  e1 : c.eo.op = .entry (.tmp it)
  e2 : c.eo.guard = none
def rgP : Code → Option RgC
  | .seq (.region id ops false) (.block bid (.loop (.seq (.region hid hops false) (.seq (.cond cc .skip (.exit _)) (.block cid (.seq (.region eid eops false) rest)))))) => match ops.toList.reverse, hops.toList, eops.toList with
    | ro :: pre, [no, xo], eo :: es => some ⟨id, pre.reverse, ro, bid, hid, no, xo, cc, cid, eid, eo, es, rest⟩
    | _, _, _ => none
  | _ => none
def rgAll : Code → List RgC
  | .seq a b => (match rgP (.seq a b) with | some r => [r] | none => []) ++ (rgAll a ++ rgAll b)
  | .cond _ a b => rgAll a ++ rgAll b
  | .block _ c => rgAll c
  | .loop c => rgAll c
  | _ => []
def noOp : Oper := { dst := none, op := .move (.tmp 0), type := 0, pos := "", after := #[], guard := none }
def rgAt (fn : Func) (id : Nat) : RgC := ((rgAll (codeOf fn)).find? fun c => Nat.beq c.id id).getD ⟨0, [], noOp, 0, 0, noOp, noOp, .tmp 0, 0, 0, noOp, [], .skip⟩
def frzA (E : Env U) (id : Nat) (l : List Oper) (s : St U) : St U := frzLds (frzCaps (frzAll s (escOf E l)) (capsOf E l)) (E.lds id)
noncomputable def rgBody (E : Env U) (c : RgC) (s : St U) (v : AV U) (K : Out U → Option ρ) : Option ρ :=
  regC E (fun _ _ _ => true) (c.eo :: c.es).toArray 1 c.es ((frzA E c.eid (c.eo :: c.es) s).put c.eo.dst v) fun s' => evC E c.rest s' fun
    | .exit id s'' => bif Nat.beq id c.cid then K (.norm s'') else K (.exit id s'')
    | r => K r
noncomputable def rgPre (E : Env U) (c : RgC) (s : St U) : Option (St U) := regC E (fun _ _ _ => true) (c.pre ++ [c.ro]).toArray 0 c.pre (frzA E c.id (c.pre ++ [c.ro]) s) some
noncomputable def rgIn (E : Env U) (c : RgC) (s : St U) : St U := (rgPre E c s).getD ⟨[], []⟩
def walkR {X Y T : Type} (once : X → T → Option (X ⊕ Y)) : List T → X → Option (X ⊕ Y)
  | [], x => some (.inl x)
  | e :: r, x => (once x e).bind fun
    | .inl x' => walkR once r x'
    | .inr y => some (.inr y)
structure RgN where
  n0 : Nat
  mid : Nat
  mid2 : Nat
  iid : Nat
  k : Nat
def rgSt (c : RgC) (s : St U) : St U := (s.put c.no.dst .undef).put c.xo.dst .undef
def RgA (n : RgN) (it : Nat) (s : St U) : Prop := s.get it = .ptr n.iid 0 ∧ s.get (gb + n.k + 1) = .ptr n.iid 0
structure RgH (n : RgN) (it : Nat) (s : St U) : Prop where
  g0 : s.get n.n0 = .mp n.mid
  g1 : s.get it = .ptr n.iid 0
  g2 : s.get (gb + n.k) = .mp n.mid
  g3 : s.get (gb + n.k + 1) = .ptr n.iid 0
  g4 : lk s.o n.mid2 = none
def isRetK (n : RgN) : Out U → Prop
  | .ret m => m.get (gb + n.k) = .undef ∧ m.get (gb + n.k + 1) = .undef
  | _ => False
section
variable {D : Codec U} {nt : Nat} {C : Cx} {N : Nat → Nat → Prop} {R : Rl} {s : St U} {a : Act}
theorem VR.far (L : Lawful D) {R R' : Rl} {x : AV U} {y : Value} (h : VR D R x y) (hc : c1 x = true) (hs : R.w.heap.size ≤ R'.w.heap.size)
    (hk : ∀ B i, B < R.w.heap.size → ¬ R.N B i → obs R'.w B i = obs R.w B i ∧ ¬ R'.N B i) : VR D R' x y := by
  have h0 := h.closed (R := R) (R' := { R with blk := fun _ => none, hdr := fun _ => none, ar := fun _ => [] }) L rfl (fun _ _ _ h => h) hc
  have hle : Rl.le { R with blk := fun _ => none, hdr := fun _ => none, ar := fun _ => [] } R' := ⟨fun _ _ e => (by cases e), fun _ _ e => (by cases e), fun _ _ _ e => (by cases e), hs, hk⟩
  exact h0.mono hle
def ownedBy (R : Rl) (s : St U) (B : Nat) : Prop := (∃ id o es, lk s.o id = some o ∧ o.alive ∧ R.blk id = some (B, es)) ∨ ∃ id, B ∈ R.ar id
theorem SR.restart (h : SR D nt C N R s a) : SR D nt ⟨R.w, ownedBy R s, C.gh⟩ R.N R s a where
  objs := h.objs
  none := h.none
  own id o B es ho ha hb := ⟨(h.own id o B es ho ha hb).1, .inr (.inl ⟨id, o, es, ho, ha, hb⟩), (h.own id o B es ho ha hb).2.2⟩
  inj := h.inj
  ri := ⟨h.ri.nr, fun id b hb => ⟨.inr (.inr ⟨id, hb⟩), (h.ri.lt id b hb).2⟩, h.ri.sep, h.ri.inj, h.ri.blt⟩
  keep := .refl _ _ _
  le0 B i hB hn := ⟨rfl, hn⟩
  nn B i _ _ hn := hn
  nlt := h.nlt
  size := h.size
  defers := h.defers
  ntle := h.ntle
  tm := h.tm
theorem SR.unrestart (h : SR D nt C N R s a) {R' : Rl} {s' : St U} {a' : Act} {nt' : Nat} (h' : SR D nt' ⟨R.w, ownedBy R s, C.gh⟩ R.N R' s' a') : SR D nt' C N R' s' a' := by
  have hG : ∀ B, ownedBy R s B → C.w.heap.size ≤ B ∨ C.G B := by
    rintro B (⟨id, o, es, ho, ha, hb⟩ | ⟨id, hb⟩)
    · exact (h.own id o B es ho ha hb).2.1
    · exact (h.ri.lt id B hb).1
  have hng : ∀ B, B < C.w.heap.size → ¬ C.G B → ¬ ownedBy R s B := fun B hB hg ho => by
    rcases hG B ho with h1 | h1
    · omega
    · exact hg h1
  have hsz := h.keep.size
  refine { objs := h'.objs, none := h'.none, own := fun id o B es ho ha hb => ?_, inj := h'.inj, keep := ?_, le0 := fun B i hB hn => ?_, nn := fun B i hB hg hn => ?_, nlt := h'.nlt, ri := ⟨h'.ri.nr, fun id b hb => ⟨(h'.ri.lt id b hb).1.elim (fun h2 => .inl (Nat.le_trans hsz h2)) (hG b), (h'.ri.lt id b hb).2⟩, h'.ri.sep, h'.ri.inj, h'.ri.blt⟩, size := h'.size, defers := h'.defers, ntle := h'.ntle, tm := h'.tm }
  · obtain ⟨h1, h2, h3⟩ := h'.own id o B es ho ha hb
    refine ⟨h1, ?_, h3⟩
    rcases h2 with h2 | h2
    · exact .inl (Nat.le_trans hsz h2)
    · exact hG B h2
  · have k := h'.keep
    exact ⟨k.os.trans h.keep.os, k.tape.trans h.keep.tape, k.output.trans h.keep.output, Nat.le_trans hsz k.size, fun B hB hg => (k.block B (Nat.lt_of_lt_of_le hB hsz) (hng B hB hg)).trans (h.keep.block B hB hg)⟩
  · obtain ⟨h1, h2⟩ := h.le0 B i hB hn
    obtain ⟨h3, h4⟩ := h'.le0 B i (Nat.lt_of_lt_of_le hB hsz) h2
    exact ⟨h3.trans h1, h4⟩
  · exact h'.nn B i (Nat.lt_of_lt_of_le hB hsz) (hng B hB hg) (h.nn B i hB hg hn)
theorem SR.regh (h : SR D nt C N R s a) {gh' : Array Value} {s' : St U} (ho : s'.o = s.o) (ht : ∀ n, VR D R (s'.get n) (tv a gh' n)) : SR D nt ⟨C.w, C.G, gh'⟩ N R s' a where
  objs := by rw [ho]; exact h.objs
  none := by rw [ho]; exact h.none
  own := by rw [ho]; exact h.own
  inj := by rw [ho]; exact h.inj
  ri := by rw [ho]; exact ⟨h.ri.nr, h.ri.lt, h.ri.sep, h.ri.inj, h.ri.blt⟩
  keep := h.keep
  le0 := h.le0
  nn := h.nn
  nlt := h.nlt
  size := h.size
  defers := h.defers
  ntle := h.ntle
  tm := ht
theorem SR.addDead (h : SR D nt C N R s a) {id : Nat} (hid : lk s.o id = none) (p : Option (Nat × Nat)) (hp : ∀ B es, p = some (B, es) → (∀ i, B ∉ R.ar i) ∧ B < R.w.heap.size) :
    R.le { R with blk := fun k => if k = id then p else R.blk k } ∧ SR D nt C N { R with blk := fun k => if k = id then p else R.blk k } (s.setO id .dead) a := by
  have hle : R.le { R with blk := fun k => if k = id then p else R.blk k } := ⟨fun k q hq => by
    show (if k = id then p else R.blk k) = some q
    rw [if_neg (fun e => by subst e; rw [(h.none _ hid).1] at hq; cases hq)]
    exact hq, fun _ _ e => e, fun _ _ _ e => e, Nat.le_refl _, fun _ _ _ hN => ⟨rfl, hN⟩⟩
  refine ⟨hle, { objs := fun n o ho => ?_, none := fun n hn => ?_, own := fun n o B es ho ha hb => ?_, inj := fun n m o o' B es es' h1 h2 a1 a2 b1 b2 => ?_, keep := h.keep, le0 := h.le0, nn := h.nn, nlt := h.nlt, ri := ?ri, size := h.size, defers := h.defers, ntle := h.ntle, tm := fun n => (h.tm n).mono hle }⟩
  case ri => exact ⟨fun n hn => by rw [lk_setO] at hn; split at hn; cases hn; exact h.ri.nr n hn, h.ri.lt, fun n b k es hb hk => by
      have hk : (if k = id then p else R.blk k) = some (b, es) := hk
      split at hk
      · exact (hp b es hk).1 n hb
      · exact h.ri.sep n b k es hb hk, h.ri.inj, fun k b es hk => by
      have hk : (if k = id then p else R.blk k) = some (b, es) := hk
      split at hk
      · exact (hp b es hk).2
      · exact h.ri.blt k b es hk⟩
  · rw [lk_setO] at ho
    split at ho
    · cases ho; exact True.intro
    · rename_i hne
      exact (h.objs n o ho).mono hle (fun B es hb => ⟨rfl, fun _ hi => hi⟩) (fun hb => by show (if n = id then p else R.blk n) = none; rw [if_neg (fun e => hne e.symm)]; exact hb) ⟨rfl, fun _ _ => ⟨rfl, fun _ hi => hi⟩⟩
  · rw [lk_setO] at hn
    split at hn
    · cases hn
    · rename_i hne
      obtain ⟨h1, h2⟩ := h.none n hn
      exact ⟨by show (if n = id then p else R.blk n) = none; rw [if_neg (fun e => hne e.symm)]; exact h1, h2⟩
  · rw [lk_setO] at ho
    split at ho
    · cases ho; exact ha.elim
    · rename_i hne
      have hb : (if n = id then p else R.blk n) = some (B, es) := hb
      rw [if_neg (fun e => hne e.symm)] at hb
      exact h.own n o B es ho ha hb
  · rw [lk_setO] at h1 h2
    split at h1
    · cases h1; exact a1.elim
    · split at h2
      · cases h2; exact a2.elim
      · rename_i e1 e2
        have b1 : (if n = id then p else R.blk n) = some (B, es) := b1
        have b2 : (if m = id then p else R.blk m) = some (B, es') := b2
        rw [if_neg (fun e => e1 e.symm)] at b1
        rw [if_neg (fun e => e2 e.symm)] at b2
        exact h.inj n m o o' B es es' h1 h2 a1 a2 b1 b2
theorem SR.walks (h : SR D nt C N R s a) {w' : World} {r : Nat} (hg : R.w.grownBy w' (some r)) (hsz : w'.heap.size = R.w.heap.size) (hr : C.w.heap.size ≤ r) (hu : ¬ ownedBy R s r) (h1 : ∀ i, obs R.w r i = (none, none)) (h2 : ∀ i, obs w' r i = (none, none)) :
    R.le { R with w := w' } ∧ SR D nt C N { R with w := w' } s a := by
  have hblk : ∀ B, B < R.w.heap.size → B ≠ r → w'.heap[B]? = R.w.heap[B]? := fun B hB hne => hg.block B hB (by simpa using hne)
  have hle : R.le { R with w := w' } := ⟨fun _ _ e => e, fun _ _ e => e, fun _ _ _ e => e, Nat.le_of_eq hsz.symm, fun B i hB hn => ⟨by
    by_cases e : B = r
    · subst e; rw [h1]; exact h2 i
    · exact obs_block (hblk B hB e), hn⟩⟩
  refine ⟨hle, { objs := fun n o ho => ?_, none := h.none, own := fun n o B es ho ha hb => ?_, inj := h.inj, keep := ?_, le0 := h.toSO.le0' hle, nn := h.nn, nlt := fun B i hB => hsz ▸ h.nlt B i hB, ri := h.ri.of (fun _ h => h) rfl (Nat.le_of_eq hsz.symm) (fun n B e hb => .inl ⟨n, e, hb⟩), size := h.size, defers := h.defers, ntle := h.ntle, tm := fun n => (h.tm n).mono hle }⟩
  · by_cases ha : o.alive
    · exact (h.objs n o ho).mono hle (fun B es hb => ⟨hblk B (h.own n o B es ho ha hb).2.2 (fun e => hu (.inl ⟨n, o, es, ho, ha, e ▸ hb⟩)), fun _ hi => hi⟩) (fun h => h) ⟨rfl, fun b hb => ⟨hblk b (h.ri.lt n b hb).2 (fun e => hu (.inr ⟨n, e ▸ hb⟩)), fun _ hi => hi⟩⟩
    · cases o <;> first | exact True.intro | exact absurd True.intro ha
  · obtain ⟨q1, q2, q3⟩ := h.own n o B es ho ha hb
    exact ⟨q1, q2, by show B < w'.heap.size; rw [hsz]; exact q3⟩
  · exact h.keep.trans ⟨hg.os, hg.tape, hg.output, Nat.le_of_eq hsz.symm, fun k hk _ => hblk k (Nat.lt_of_lt_of_le hk h.keep.size) (fun e => by omega)⟩
end
def ghW (gh : Array Value) (k : Nat) (vm vi : Value) : Array Value := Array.ofFn (n := max gh.size (k + 2)) fun i => if i.1 = k then vm else if i.1 = k + 1 then vi else gh.getD i.1 undef
theorem ghW_get (gh : Array Value) (k : Nat) (vm vi : Value) (i : Nat) : (ghW gh k vm vi).getD i undef = if i = k then vm else if i = k + 1 then vi else gh.getD i undef := by
  unfold ghW
  rw [Array.getD_eq_getD_getElem?]
  by_cases h : i < max gh.size (k + 2)
  · rw [Array.getElem?_eq_getElem (by rw [Array.size_ofFn]; exact h), Array.getElem_ofFn]
    rfl
  · rw [Array.getElem?_eq_none (by rw [Array.size_ofFn]; omega), if_neg (by omega), if_neg (by omega), Array.getD_eq_getD_getElem?, Array.getElem?_eq_none (by omega)]
theorem tv_ghW (a : Act) (gh : Array Value) (k : Nat) (vm vi : Value) (n : Nat) : tv a (ghW gh k vm vi) n = if n = gb + k then vm else if n = gb + k + 1 then vi else tv a gh n := by
  unfold tv
  rw [ghW_get]
  by_cases h : n < gb
  · rw [if_pos h, if_pos h, if_neg (by omega), if_neg (by omega)]
  · rw [if_neg h, if_neg h]
    by_cases h1 : n = gb + k
    · rw [if_pos h1, if_pos (by omega)]
    · rw [if_neg h1, if_neg (by omega)]
      by_cases h2 : n = gb + k + 1
      · rw [if_pos h2, if_pos (by omega)]
      · rw [if_neg h2, if_neg (by omega)]
theorem assign {β : Type} (d : β) : ∀ (es : List MapEntry) (l : List β), es.length = l.length → (es.map (·.born)).Nodup → ∃ φ : MapEntry → β, es.map φ = l
  | [], [], _, _ => ⟨fun _ => d, rfl⟩
  | [], _ :: _, h, _ => by simp at h
  | _ :: _, [], h, _ => by simp at h
  | e :: es, p :: l, h, hn => by
    rw [List.map_cons, List.nodup_cons] at hn
    obtain ⟨φ, hφ⟩ := assign d es l (by simpa using h) hn.2
    refine ⟨fun x => if x.born = e.born then p else φ x, ?_⟩
    rw [List.map_cons, if_pos rfl]
    congr 1
    rw [← hφ]
    refine List.map_congr_left fun x hx => if_neg fun e1 => hn.1 (List.mem_map.2 ⟨x, hx, e1⟩)
theorem comes : ∀ (l : List MapEntry) {m : List MapEntry}, l.Nodup → (∀ x ∈ l, x ∈ m) → ∃ r, m.Perm (l ++ r)
  | [], m, _, _ => ⟨m, .refl _⟩
  | a :: l, m, hn, hs => by
    rw [List.nodup_cons] at hn
    obtain ⟨s, t, rfl⟩ := List.append_of_mem (hs a List.mem_cons_self)
    have h1 : (s ++ a :: t).Perm (a :: (s ++ t)) := List.perm_middle
    obtain ⟨r, hr⟩ := comes (m := s ++ t) l hn.2 (fun x hx => by
      have := h1.mem_iff.1 (hs x (List.mem_cons_of_mem _ hx))
      rcases List.mem_cons.1 this with e | e
      · exact absurd (e ▸ hx) hn.1
      · exact e)
    exact ⟨r, h1.trans (List.Perm.cons a hr)⟩
section
variable {P : Program} {ops : Array Oper} {Q : Exit → Act → World → Prop} {a : Act} {w : World} {rest : List Oper} {o : Oper}
theorem wpList_extract_raw (hg : o.guard = none) (x : Operand) (i : Nat) (hop : o.op = .extract x i) {ys : Array Value} (hx : a.eval x = .tuple ys) {v : Value} (hv : ys[i]? = some v)
    (hK : wpList P ops Q rest (a.put o.dst v) w) : wpList P ops Q (o :: rest) a w := by
  refine wpList_plain hg fun K' hK' => ?_
  unfold Oper.wp
  have hrun : (execOp a.eval o).run P w = .ok (.value v) w := by
    simp [execOp, hop, hx, Instr.extract, hv]
  rw [hrun]
  exact hK' _ _ hK
theorem range_nil {t k e : TypeId} (ht : P.underlying t = some (.map k e)) : ∃ w', (Instr.range t (.map none)).run P w = .ok (.pointer (some ⟨w.heap.size, 0, none⟩)) w' ∧ w.grownBy w' none ∧ w'.heap.size = w.heap.size + 1 ∧ w'.heap[w.heap.size]? = some (.mapIter none 0 #[] 0) := by
  refine ⟨w.alloc (.mapIter none 0 #[] 0), ?_, World.grownBy_alloc w _ none, by simp, (MapKept.heap_alloc w _).1⟩
  simp only [Instr.range, Sem.run_bind, run_underlying' w ht, Result.andThen_ok, Sem.run_pure]
  rfl
theorem next_nil {r : Nat} {ty : TypeId} {x y : Nat} {z : Array Nat} (h : w.heap[r]? = some (.mapIter none x z y)) : (Instr.next (.pointer (some ⟨r, 0, none⟩)) false ty).run P w = .ok (.tuple #[.bool false]) w := by
  simp only [Instr.next, getObj, Sem.run_bind, Sem.run, h, Result.andThen]
  rfl
end
theorem rgSt_o (c : RgC) (s : St U) : (rgSt c s).o = s.o := by
  unfold rgSt St.put
  cases c.no.dst <;> cases c.xo.dst <;> rfl
theorem rg_dst {nt : Nat} {c : RgC} (hd : dstB nt c.code = true) : (∀ o ∈ c.pre ++ [c.ro], ∀ d, o.dst = some d → d < nt) ∧ (∀ o ∈ [c.no, c.xo], ∀ d, o.dst = some d → d < nt) ∧ (∀ o ∈ c.eo :: c.es, ∀ d, o.dst = some d → d < nt) ∧ dstB nt c.rest = true := by
  simp only [RgC.code, RgC.body, dstB, Bool.and_eq_true] at hd
  obtain ⟨h1, h2, _, h3, h4⟩ := hd
  have key : ∀ l : List Oper, (l.toArray.toList.all fun o => match o.dst with | some d => Nat.blt d nt | none => true) = true → ∀ o ∈ l, ∀ d, o.dst = some d → d < nt := by
    intro l h o ho d hod
    have := List.all_eq_true.mp h o (by simpa using ho)
    simp only [hod] at this
    exact blt_lt this
  exact ⟨key _ h1, key _ h2, key _ h3, h4⟩
theorem frzA_told {E : Env U} (he : EnvOk E) {nt : Nat} {C : Cx} {N : Nat → Nat → Prop} {R : Rl} {s : St U} {a : Act} (h : SR E.D nt C N R s a) (id : Nat) (l : List Oper) : ∃ R', R'.w = R.w ∧ R.le R' ∧ SR E.D nt C N R' (frzA E id l s) a := by
  obtain ⟨R00, hw00, hle00, h00⟩ := h.frzAll he.law (escOf E l)
  obtain ⟨R01, hw01, hle01, h01⟩ := h00.frzCaps he.law (capsOf E l)
  obtain ⟨R0, hw0', hle0', h0⟩ := h01.frzLds he.law (E.lds id)
  exact ⟨R0, (hw0'.trans hw01).trans hw00, (hle00.trans hle01).trans hle0', h0⟩
theorem eval_put (a : Act) (d : Nat) (y : Value) (n : Nat) (hd : d < a.tmps.size) : (a.put (some d) y).eval (.tmp n) = if d = n then y else a.eval (.tmp n) := tmps_put a d y n hd
section
variable {E : Env U} {nt : Nat} {fn : Func}
def RgK (fz : Bool) (R : Rl) (s : St U) (b : Nat) : Prop := match fz with
  | true => ¬ R.N b 0
  | false => (∀ i, R.N b i) ∧ ¬ ownedBy R s b
theorem RgK.imp {fz : Bool} {R R' : Rl} {s s' : St U} {b : Nat} (h : RgK fz R s b) (h1 : (∀ i, R.N b i) ∧ ¬ ownedBy R s b → (∀ i, R'.N b i) ∧ ¬ ownedBy R' s' b) (h2 : ¬ R.N b 0 → ¬ R'.N b 0) : RgK fz R' s' b := by
  cases fz
  · exact h1 h
  · exact h2 h
theorem RgK.elim {fz : Bool} {R : Rl} {s : St U} {b : Nat} {P : Prop} (h : RgK fz R s b) (h1 : (∀ i, R.N b i) ∧ ¬ ownedBy R s b → P) (h2 : ¬ R.N b 0 → P) : P := by
  cases fz
  · exact h1 h
  · exact h2 h
structure RgI (fz : Bool) (D : Codec U) (nt : Nat) (C : Cx) (N0 : Nat → Nat → Prop) (s : St U) (ka va : Bool) {ck cv : U.C} (b r : Nat) (es : Array MapEntry) (clock : Nat) (φ : MapEntry → U.El ck × U.El cv) (got : List MapEntry) (a : Act) (R : Rl) : Prop where
  sr : SR D nt C N0 R s a
  rg : Rng R.w b r es clock got
  kp : RgK fz R s b
  ur : ¬ ownedBy R s r
  vr : ∀ e ∈ es.toList, VR D R (packV ka (D.enc ck (φ e).1)) e.key ∧ VR D R (packV va (D.enc cv (φ e).2)) e.val
theorem packV_c1 {D : Codec U} (L : Lawful D) (g : Bool) (c : U.C) (x : U.El c) : c1 (packV g (D.enc c x)) = true := c1_packV (L := L)
theorem rng_loop (fz : Bool) (he : EnvOk E) (hmix : E.P.follows .mixedOrders = true) (hres : E.results = fn.results.toList) {c : RgC} (hd : dstB nt c.code = true) (hl : AllL E nt fn (loopsOf c.rest))
    {ty : TypeId} {mx it nx ok : Nat} (sh : c.Shape ty mx it nx ok) {n : RgN} {X YB : Type} {iB : Lay U X} {oB : OLay U YB} {ka va : Bool} {ck cv : U.C}
    {once : X → U.El ck × U.El cv → Option (X ⊕ YB)}
    (hbody : ∀ x e, rgBody E c (rgSt c (iB.put x)) (.tup [packV ka (E.D.enc ck e.1), packV va (E.D.enc cv e.2)]) (headK iB.un oB.re) = once x e)
    (hH : ∀ x, RgA n it (iB.put x)) (hret : ∀ y, isRetK n (oB.fin y)) (hit : it < nt) (hi1 : it ≠ nx) (hi2 : it ≠ ok)
    {w0 : Cx} {N0 : Nat → Nat → Prop} {Q : Exit → Act → World → Prop}
    {b r : Nat} {es : Array MapEntry} {clock : Nat} (hgi : w0.gh.getD (n.k + 1) undef = .pointer (some ⟨r, 0, none⟩)) (hr0 : w0.w.heap.size ≤ r)
    (φ : MapEntry → U.El ck × U.El cv) (Pz : X ⊕ YB → Prop)
    (hnorm : ∀ x a R got, Pz (.inl x) → RgI fz E.D nt w0 N0 (rgSt c (iB.put x)) ka va b r es clock φ got a R → Q .normal a R.w)
    (hretq : ∀ y m a R, Pz (.inr y) → oB.fin y = .ret m → Post E nt w0 N0 fn Q a R (.ret m)) :
    ∀ (q : Nat) (got : List MapEntry) (x : X) (a : Act) (R : Rl), es.size + 1 ≤ got.length + q → RgI fz E.D nt w0 N0 (iB.put x) ka va b r es clock φ got a R →
      (∀ rest, (got.map φ ++ rest).Perm (es.toList.map φ) → ∃ z, walkR once rest x = some z ∧ Pz z) → Code.rounds E.P c.body (Exit.inBlock c.bid Q) q a R.w := by
  obtain ⟨_, hdH, hdE, hdR⟩ := rg_dst hd
  have hnx : nx < nt := hdH c.no (by simp) nx sh.n3
  have hok : ok < nt := hdH c.xo (by simp) ok sh.x3
  have itAt : ∀ {s : St U} {C : Cx} {N : Nat → Nat → Prop} {a : Act} {R : Rl}, C.gh = w0.gh → s.get it = .ptr n.iid 0 → s.get (gb + n.k + 1) = .ptr n.iid 0 → SR E.D nt C N R s a → a.eval (.tmp it) = .pointer (some ⟨r, 0, none⟩) := by
    intro s C N a R hC g1 g3 h
    have h1 := h.tm it
    have h2 := h.tm (gb + n.k + 1)
    rw [g1, tv_lt (Nat.lt_of_lt_of_le hit h.ntle)] at h1
    rw [g3, tv, if_neg (by omega), hC, show gb + n.k + 1 - gb = n.k + 1 by omega, hgi] at h2
    obtain ⟨B, e1, k1, k2⟩ := h1.ptr_inv
    obtain ⟨B', e1', k1', k2'⟩ := h2.ptr_inv
    rw [k1] at k1'
    cases k1'
    show a.tmps.getD it undef = _
    rw [k2, k2']
  intro q
  induction q with
  | zero =>
    intro got x a R hq I
    have := I.rg.len
    omega
  | succ q ih =>
    intro got x a R hq I hwk
    rw [rounds_succ]
    have hsz := I.sr.size
    have stA : ∀ {R1 : Rl} {y1 y2 : Value}, SR E.D nt w0 N0 R1 (iB.put x) a → SR E.D nt w0 N0 R1 (rgSt c (iB.put x)) ((a.put c.no.dst y1).put c.xo.dst y2) := fun h =>
      (h.put (fun d hd' => hdH c.no (by simp) d hd') (.undef _)).put (fun d hd' => hdH c.xo (by simp) d hd') (.undef _)
    have evA : ∀ (y1 y2 : Value) (t : Nat), ((a.put c.no.dst y1).put c.xo.dst y2).eval (.tmp t) = if ok = t then y2 else if nx = t then y1 else a.eval (.tmp t) := by
      intro y1 y2 t
      rw [sh.n3, sh.x3, eval_put _ _ _ _ (by simp [Act.put, hsz, hok]), eval_put _ _ _ _ (by rw [hsz]; exact hnx)]
    have own1 : ∀ (R1 : Rl) (B : Nat), R1.blk = R.blk → R1.ar = R.ar → ownedBy R1 (rgSt c (iB.put x)) B → ownedBy R (iB.put x) B := by
      rintro R1 B e e' (⟨id, o, es', ho, ha, hb⟩ | ⟨id, hb⟩)
      · rw [rgSt_o] at ho
        exact .inl ⟨id, o, es', ho, ha, e ▸ hb⟩
      · exact .inr ⟨id, e' ▸ hb⟩
    refine wp_seq (wp_region_lit ?_)
    refine wpList_next_raw sh.n2 (.tmp it) sh.n1 b r (itAt rfl (hH x).1 (hH x).2 I.sr) I.rg (fun hp => ?_) (fun kk v bo w' hc hent => ?_)
    · refine wpList_extract_raw sh.x2 (.tmp nx) 0 sh.x1 (ys := #[.bool false]) (v := .bool false) (by rw [sh.n3, eval_put _ _ _ _ (by rw [hsz]; exact hnx), if_pos rfl]) rfl (wpList_nil ?_)
      show (Code.seq _ _).wp _ _ _ _
      refine wp_seq (wp_cond_false (by rw [sh.cc, evA, if_pos rfl]) (wp_exit ?_))
      show Exit.inBlock c.bid Q (.exit c.bid) _ _
      simp only [Exit.inBlock, if_true]
      obtain ⟨z, hz, hPz⟩ := hwk [] (by simpa using hp.map φ)
      cases hz
      exact hnorm x _ R got hPz ⟨stA I.sr, I.rg, I.kp.imp (fun ⟨q1, q2⟩ => ⟨q1, fun ho => q2 (own1 R b rfl rfl ho)⟩) fun q => q, fun ho => I.ur (own1 R r rfl rfl ho), I.vr⟩
    · refine wpList_extract_raw sh.x2 (.tmp nx) 0 sh.x1 (ys := #[.bool true, kk, v]) (v := .bool true) (by rw [sh.n3, eval_put _ _ _ _ (by rw [hsz]; exact hnx), if_pos rfl]) rfl (wpList_nil ?_)
      show (Code.seq _ _).wp _ _ _ _
      refine wp_seq (wp_cond_true (by rw [sh.cc, evA, if_pos rfl]) (wp_skip ?_))
      show (Code.block _ _).wp _ _ _ _
      have iter_cell : ∀ {W : World} {g : List MapEntry}, Rng W b r es clock g → ∀ i, obs W r i = (none, none) := by
        intro W g h i
        obtain ⟨seen, c0, hr, _⟩ := h.hr
        simp [obs, World.cell?, hr]
      obtain ⟨hle1, hs1⟩ := I.sr.walks hc.grown hc.size hr0 I.ur (iter_cell I.rg) (iter_cell hc.rng)
      have hS := stA (y1 := .tuple #[.bool true, kk, v]) (y2 := .bool true) hs1
      generalize ha1 : (a.put c.no.dst (.tuple #[.bool true, kk, v])).put c.xo.dst (.bool true) = a1 at hS
      let R1 : Rl := { R with w := w' }
      have hb1 : b < w'.heap.size := (Array.getElem?_eq_some_iff.1 hc.rng.hb).1
      have hr1 : r < w'.heap.size := hc.rng.lt
      have kp1 : RgK fz R1 (rgSt c (iB.put x)) b := I.kp.imp (fun ⟨q1, q2⟩ => ⟨q1, fun ho => q2 (own1 R1 b rfl rfl ho)⟩) fun q => q
      have ur1 : ¬ ownedBy R1 (rgSt c (iB.put x)) r := fun ho => I.ur (own1 R1 r rfl rfl ho)
      have hS2 : SR E.D nt ⟨R1.w, ownedBy R1 (rgSt c (iB.put x)), w0.gh⟩ R1.N R1 (rgSt c (iB.put x)) a1 := hS.restart
      have hev1 : a1.eval (.tmp it) = .pointer (some ⟨r, 0, none⟩) := by
        rw [← ha1, evA, if_neg (fun e => hi2 e.symm), if_neg (fun e => hi1 e.symm)]
        exact itAt rfl (hH x).1 (hH x).2 I.sr
      have he1 := I.vr _ hc.mem
      obtain ⟨rest0, hperm⟩ := comes (m := es.toList) (got ++ [⟨kk, v, bo⟩]) (nodup_of_map _ hc.rng.nd) hc.rng.mem
      obtain ⟨z, hwk1, hPz⟩ := hwk (φ ⟨kk, v, bo⟩ :: rest0.map φ) (by
        have := (hperm.map φ).symm
        simpa using this)
      simp only [walkR] at hwk1
      obtain ⟨q0, hq0, hwk2⟩ := Option.bind_eq_some_iff.1 hwk1
      have hk := (hbody x (φ ⟨kk, v, bo⟩)).trans hq0
      unfold rgBody at hk
      refine wp_block (wp_seq (wp_region ?_))
      have hops : ((c.eo :: c.es).toArray)[0]? = some c.eo := by simp
      rw [List.range_eq_range', show ((c.eo :: c.es).toArray).size = c.es.length + 1 by simp, List.range'_succ]
      obtain ⟨R0, hw0, hle0, h0⟩ := frzA_told he hS2 c.eid (c.eo :: c.es)
      show wpOps E.P _ _ (0 :: List.range' (0 + 1) c.es.length) a1 w'
      unfold wpOps
      rw [hops]
      simp only []
      rw [if_pos (by simp [Region.wanted, sh.e2])]
      refine .inl ?_
      unfold Oper.wp
      have hrun : (execOp a1.eval c.eo).run E.P w' = .ok (.value (.tuple #[kk, v])) w' := by
        simp [execOp, sh.e1, hev1, hent]
      rw [hrun]
      show wpOps E.P _ _ (List.range' (0 + 1) c.es.length) (a1.put c.eo.dst (.tuple #[kk, v])) w'
      have hpair : VR E.D R0 (.tup [packV ka (E.D.enc ck (φ ⟨kk, v, bo⟩).1), packV va (E.D.enc cv (φ ⟨kk, v, bo⟩).2)]) (.tuple #[kk, v]) := by
        refine .tup rfl fun i p y hp hy => ?_
        have hle : R.le R0 := hle1.trans hle0
        match i, hp, hy with
        | 0, hp, hy => cases hp; cases hy; exact he1.1.mono hle
        | 1, hp, hy => cases hp; cases hy; exact he1.2.mono hle
      have hS3 := h0.put (dst := c.eo.dst) (fun d hd' => hdE c.eo (by simp) d hd') hpair
      rw [show w' = R0.w from hw0.symm]
      refine regC_sound he (fun i o d hi hod => hdE o (List.mem_of_getElem? (by simpa using hi)) d hod) c.es (0 + 1) _ _ R0 (fun j o hj => by rw [show 0 + 1 + j = j + 1 by omega]; simpa using hj) hS3 hk (fun s' a' R' _ hs' hk' => ?_)
      show c.rest.wp E.P _ a' R'.w
      have goOn : ∀ (s'' : St U) (a'' : Act) (R'' : Rl), SR E.D nt ⟨R1.w, ownedBy R1 (rgSt c (iB.put x)), w0.gh⟩ R1.N R'' s'' a'' → headK iB.un oB.re (.norm s'') = some q0 → Code.rounds E.P c.body (Exit.inBlock c.bid Q) q a'' R''.w := by
        intro s'' a'' R'' hs'' hh
        simp only [headK, Option.map_eq_some_iff] at hh
        obtain ⟨x', hx', rfl⟩ := hh
        obtain ⟨R3, hw3, hs3⟩ := hs''.fits he.law (iB.fit s'' x' hx')
        rw [← hw3]
        have hkb : R3.w.heap[b]? = some (.map es clock) := kp1.elim (fun q => (hs3.keep.block b hb1 q.2).trans hc.rng.hb) fun q => obs_map (hs3.le0 b 0 hb1 q).1 hc.rng.hb
        have hkr := hs3.keep.block r hr1 ur1
        obtain ⟨seen, c0, k1, k2⟩ := hc.rng.hr
        have un : ∀ B, B < w'.heap.size → ¬ ownedBy R1 (rgSt c (iB.put x)) B → ¬ ownedBy R3 (iB.put x') B := by
          rintro B hB hu (⟨id, o, es', ho, ha, hb⟩ | ⟨id, hb⟩)
          · rcases (hs3.own id o B es' ho ha hb).2.1 with h1 | h1
            · have h1 : w'.heap.size ≤ B := h1
              omega
            · exact hu h1
          · rcases (hs3.ri.lt id B hb).1 with h1 | h1
            · have h1 : w'.heap.size ≤ B := h1
              omega
            · exact hu h1
        refine ih (got ++ [⟨kk, v, bo⟩]) x' a'' R3 (by simp; omega) ⟨hS.unrestart hs3, ⟨hkb, ⟨seen, c0, hkr.trans k1, k2⟩, hc.rng.mem, hc.rng.nd, hc.rng.st⟩, kp1.imp (fun q => ⟨fun i => hs3.nn b i hb1 q.2 (q.1 i), un b hb1 q.2⟩) (fun q => (hs3.le0 b 0 hb1 q).2), un r hr1 ur1, fun e hee => ?_⟩ (fun rest hp => ?_)
        · have h1 := (I.vr e hee).1.mono hle1
          have h2 := (I.vr e hee).2.mono hle1
          exact ⟨h1.far he.law (packV_c1 he.law _ _ _) hs3.keep.size hs3.le0, h2.far he.law (packV_c1 he.law _ _ _) hs3.keep.size hs3.le0⟩
        · obtain ⟨z2, hz2, hPz2⟩ := hwk (φ ⟨kk, v, bo⟩ :: rest) (by simpa using hp)
          simp only [walkR, hq0, Option.bind_some] at hz2
          exact ⟨z2, hz2, hPz2⟩
      refine evC_sound he hmix hres c.rest s' a' R' _ q0 _ hdR hl hs' hk' (fun o ho a'' R'' => ?_)
      cases o with
      | norm s'' => exact fun hs'' => goOn s'' a'' R'' hs'' ho
      | exit id s'' =>
        intro hs''
        simp only at ho
        cases hb : Nat.beq id c.cid with
        | true =>
          rw [hb, cond_true] at ho
          have := Nat.eq_of_beq_eq_true hb
          subst this
          show Exit.inBlock c.cid _ (.exit c.cid) a'' R''.w
          simp only [Exit.inBlock, if_true]
          exact goOn s'' a'' R'' hs'' ho
        | false =>
          rw [hb, cond_false] at ho
          simp only [headK, Option.map_eq_some_iff] at ho
          obtain ⟨y, hy, rfl⟩ := ho
          have h1 := oB.fit _ _ hy
          have h2 := hret y
          cases hfy : oB.fin y with
          | ret m => rw [hfy] at h1; exact h1.elim
          | norm m => rw [hfy] at h2; exact h2.elim
          | exit i m => rw [hfy] at h2; exact h2.elim
      | ret m =>
        simp only [headK, Option.map_eq_some_iff] at ho
        obtain ⟨y, hy, rfl⟩ := ho
        refine post_fits he (oB.fit _ _ hy) fun R4 => ?_
        have h2 := hret y
        cases hfy : oB.fin y with
        | norm m => rw [hfy] at h2; exact h2.elim
        | exit i m => rw [hfy] at h2; exact h2.elim
        | ret m2 =>
          intro y' hs4 hdf hrr
          simp only [Option.some.injEq] at hwk2
          subst hwk2
          exact hretq y m2 a'' R4 hPz hfy y' (hS.unrestart hs4) hdf hrr
theorem castM_eq {D : Codec U} {c c' v v' : U.C} {l : List (U.El c' × U.El v')} {m : List (U.El c × U.El v)} (h : castM D c c' v v' l = some m) : ∃ (e : c' = c) (e' : v' = v), m = e ▸ e' ▸ l := by
  unfold castM at h
  split at h
  · rename_i e e' _ _
    cases h
    exact ⟨e, e', rfl⟩
  · cases h
def rgItF (n : RgN) (it : Nat) (s : St U) : St U := (((s.setO n.iid .dead).set it (.ptr n.iid 0)).set (gb + n.k) .undef).set (gb + n.k + 1) (.ptr n.iid 0)
def rgBackF (c : RgC) (n : RgN) (s : St U) : St U := ((rgSt c s).set (gb + n.k) .undef).set (gb + n.k + 1) .undef
def rgRdF (D : Codec U) {X : Type} (n : RgN) (mx it : Nat) (ka va : Bool) (ck cv : U.C) (iB : Lay U X) (s : St U) : Option (List (U.El ck × U.El cv) × X) := match s.get mx, lk s.o n.iid with
  | .fm ka' va' ck' cv' l, none => bif ka' == ka && va' == va then (match castM D ck ck' cv cv' l, iB.un (rgItF n it s) with
    | some l, some x => some (l, x)
    | _, _ => none) else none
  | _, _ => none
theorem VR.fm_blk {D : Codec U} {R : Rl} {ka va : Bool} {ck cv : U.C} {l : List (U.El ck × U.El cv)} {y : Value} (h : VR D R (.fm ka va ck cv l) y) :
    ∃ B l', y = .map B ∧ l'.Perm l ∧ ((B = none ∧ l' = []) ∨ ∃ b es clock, B = some b ∧ b < R.w.heap.size ∧ R.w.heap[b]? = some (.map es clock) ∧ ¬ R.N b 0 ∧ es.size = l'.length ∧ Stamped es clock ∧
      ∀ (i : Nat) (x : U.El ck × U.El cv) (e : MapEntry), l'[i]? = some x → es[i]? = some e → VR D R (packV ka (D.enc ck x.1)) e.key ∧ VR D R (packV va (D.enc cv x.2)) e.val) := by
  generalize hx : AV.fm ka va ck cv l = x at h
  induction h generalizing l with
  | fmnil => cases hx; exact ⟨none, [], rfl, .refl _, .inl ⟨rfl, rfl⟩⟩
  | fm hB hm hN hs st hk hv => cases hx; exact ⟨some _, _, rfl, .refl _, .inr ⟨_, _, _, rfl, hB, hm, hN, hs, st, fun i x e h1 h2 => ⟨hk i x e h1 h2, hv i x e h1 h2⟩⟩⟩
  | fmp hp hn h ih =>
    cases hx
    obtain ⟨B, l', h1, h2, h3⟩ := ih rfl
    exact ⟨B, l', h1, h2.trans hp, h3⟩
  | _ => cases hx
theorem rng_backF {D : Codec U} {w0 : Cx} {N0 : Nat → Nat → Prop} {R : Rl} {s : St U} {a : Act} {c : RgC} {n : RgN} {B : Option Nat} {vi : Value} (h : SR D nt ⟨w0.w, w0.G, ghW w0.gh n.k (.map B) vi⟩ N0 R (rgSt c s) a) :
    SR D nt w0 N0 R (rgBackF c n s) a := by
  have := h.regh (gh' := w0.gh) (s' := rgBackF c n s) rfl fun t => ?_
  · exact this
  show VR D R ((((rgSt c s).set (gb + n.k) .undef).set (gb + n.k + 1) .undef).get t) _
  rw [get_set]
  split
  · exact .undef _
  rename_i e1
  rw [get_set]
  split
  · exact .undef _
  rename_i e2
  have := h.tm t
  rw [tv_ghW, if_neg (fun e => e2 e.symm), if_neg (fun e => e1 e.symm)] at this
  exact this
theorem rng_soundG (he : EnvOk E) (hmix : E.P.follows .mixedOrders = true) (hres : E.results = fn.results.toList) {c : RgC} (hd : dstB nt c.code = true) (hl : AllL E nt fn (loopsOf c.rest))
    {ty kt et : TypeId} {mx it nx ok : Nat} (sh : c.Shape ty mx it nx ok) (hty : E.P.underlying ty = some (.map kt et)) (n : RgN)
    (hnum : (Nat.blt mx nt && Nat.blt it nt && !(Nat.beq it nx) && !(Nat.beq it ok)) = true)
    {XI X YB Y : Type} (iI : Lay U XI) (iB : Lay U X) (oB : OLay U YB) (oO : OLay U Y) (ka va : Bool) (ck cv : U.C) (lst : XI → List (U.El ck × U.El cv)) (x0 : XI → X)
    (once : X → U.El ck × U.El cv → Option (X ⊕ YB)) (fo : XI → X ⊕ YB → Y)
    (hpre : ∀ xi, (rgPre E c (iI.put xi)).isSome = true)
    (hin : ∀ xi, rgRdF E.D n mx it ka va ck cv iB (rgIn E c (iI.put xi)) = some (lst xi, x0 xi))
    (hbody : ∀ x e, rgBody E c (rgSt c (iB.put x)) (.tup [packV ka (E.D.enc ck e.1), packV va (E.D.enc cv e.2)]) (headK iB.un oB.re) = once x e)
    (hH : ∀ x, RgA n it (iB.put x)) (hret : ∀ y, isRetK n (oB.fin y))
    (F : XI → Option (X ⊕ YB)) (Q : X ⊕ YB → X ⊕ YB → Prop) (hF : ∀ xi z, F xi = some z → ∀ σ, σ.Perm (lst xi) → ∃ z', walkR once σ (x0 xi) = some z' ∧ Q z' z)
    (hout : ∀ xi x' z, Q (.inl x') z → ∀ (C : Cx) (N : Nat → Nat → Prop) (R : Rl) (a : Act), SR E.D nt C N R (rgBackF c n (iB.put x')) a → ∃ R' s, R'.w = R.w ∧ SR E.D nt C N R' s a ∧ oO.re (.norm s) = some (fo xi z))
    (hQr : ∀ y z, Q (.inr y) z → .inr y = z) (houtR : ∀ xi y, oO.re (oB.fin y) = some (fo xi (.inr y))) :
    LSound E nt fn c.code (ldn iI oO fun xi => (F xi).map (fo xi)) := by
  intro w0 N0 s xi y hun hf a R Q' h hq
  simp only [Bool.and_eq_true, Bool.not_eq_true'] at hnum
  obtain ⟨⟨⟨m1, m2⟩, m4⟩, m5⟩ := hnum
  have neq : ∀ {x y : Nat}, Nat.beq x y = false → x ≠ y := fun h e => by rw [e, Nat.beq_refl] at h; cases h
  have hmx := blt_lt m1
  have hit := blt_lt m2
  have hi1 := neq m4
  have hi2 := neq m5
  obtain ⟨hdA, hdH, _, _⟩ := rg_dst hd
  have hnx : nx < nt := hdH c.no (by simp) nx sh.n3
  have hok : ok < nt := hdH c.xo (by simp) ok sh.x3
  obtain ⟨R2, hw2, h2⟩ := h.fits he.law (iI.fit s xi hun)
  rw [← hw2]
  have hf : (F xi).map (fo xi) = some y := hf
  obtain ⟨z, hz, hfo⟩ := Option.map_eq_some_iff.1 hf
  subst hfo
  have hwalk := hF xi z hz
  obtain ⟨sP, hsP⟩ := Option.isSome_iff_exists.1 (hpre xi)
  have hin := hin xi
  rw [show rgIn E c (iI.put xi) = sP by unfold rgIn; rw [hsP]; rfl] at hin
  obtain ⟨R0, hw0, hle0, h0⟩ := frzA_told he h2 c.id (c.pre ++ [c.ro])
  rw [← hw0]
  show (Code.seq _ _).wp E.P Q' a R0.w
  refine wp_seq (wp_region ?_)
  rw [List.range_eq_range', show ((c.pre ++ [c.ro]).toArray).size = c.pre.length + 1 by simp, List.range'_1_concat, Nat.zero_add]
  refine regC_soundJ he (fun i o d hi hod => hdA o (List.mem_of_getElem? (by simpa using hi)) d hod) [c.pre.length] c.pre 0 _ a R0 (fun j o hj => ?_) h0 hsP (fun s' a' R' _ hs' hk' => ?_)
  · rw [Nat.zero_add]
    have := (List.getElem?_eq_some_iff.1 hj).1
    simp only [List.getElem?_toArray]
    rw [List.getElem?_append_left this]
    exact hj
  cases hk'
  unfold rgRdF at hin
  split at hin
  rotate_left
  · cases hin
  rename_i ka' va' ck' cv' l0 g1 g4
  obtain ⟨hb, hin2⟩ := cond_none hin
  clear hin
  simp only [Bool.and_eq_true, beq_iff_eq] at hb
  obtain ⟨rfl, rfl⟩ := hb
  split at hin2
  rotate_left
  · cases hin2
  rename_i l x hcl hx
  obtain ⟨e, e', hcl⟩ := castM_eq hcl
  subst e
  subst e'
  cases hcl
  injection hin2 with hin2
  injection hin2 with hlst hx0
  have kmx := hs'.tm mx
  rw [g1, tv_lt (Nat.lt_of_lt_of_le hmx hs'.ntle)] at kmx
  obtain ⟨B', l', hmv, hpl, hmap⟩ := kmx.fm_blk
  obtain ⟨w', hrun, hgr, hsz, hstart⟩ : ∃ w', (Instr.range ty (.map B')).run E.P R'.w = .ok (.pointer (some ⟨R'.w.heap.size, 0, none⟩)) w' ∧ R'.w.grownBy w' none ∧ w'.heap.size = R'.w.heap.size + 1 ∧
      ((B' = none ∧ w'.heap[R'.w.heap.size]? = some (.mapIter none 0 #[] 0)) ∨ ∃ b es clock, B' = some b ∧ R'.w.heap[b]? = some (.map es clock) ∧ Stamped es clock ∧ Rng w' b R'.w.heap.size es clock []) := by
    rcases hmap with ⟨rfl, _⟩ | ⟨b, es, clock, rfl, k1, k2, k3, k4, k5, k6⟩
    · obtain ⟨w', q1, q2, q3, q4⟩ := range_nil (P := E.P) (w := R'.w) hty
      exact ⟨w', q1, q2, q3, .inl ⟨rfl, q4⟩⟩
    · obtain ⟨w', q1, q2, q3, q4⟩ := Rng.start (P := E.P) hty k2 k5
      exact ⟨w', q1, q3, q4, .inr ⟨b, es, clock, rfl, k2, k5, q2⟩⟩
  generalize hr : R'.w.heap.size = r at hrun hsz hstart
  have hops : ((c.pre ++ [c.ro]).toArray)[c.pre.length]? = some c.ro := by simp
  unfold wpOps
  rw [hops]
  simp only []
  rw [if_pos (by simp [Region.wanted, sh.r2])]
  refine .inl ?_
  unfold Oper.wp
  have hrun' : (execOp a'.eval c.ro).run E.P R'.w = .ok (.value (.pointer (some ⟨r, 0, none⟩))) w' := by
    have : a'.eval (.tmp mx) = .map B' := hmv
    simp [execOp, sh.r1, this, hrun]
  rw [hrun']
  show (Code.block _ _).wp E.P Q' (a'.put c.ro.dst _) w'
  rw [sh.r3]
  have hBelow : Below R'.w.heap.size R'.w w' := ⟨hgr.os, hgr.tape, hgr.output, hgr.size, fun k hk => hgr.block k hk (by simp)⟩
  have hle1 : R'.le { R' with w := w' } := ⟨fun _ _ e => e, fun _ _ e => e, fun _ _ _ e => e, hgr.size, fun b i hb hN => ⟨obs_block (hgr.block b hb (by simp)), hN⟩⟩
  have hs1 := hs'.calls hBelow hle1
  obtain ⟨hle2, hs2⟩ := hs1.addDead (id := n.iid) g4 (some (r, 0)) (fun B es e => by
    cases e
    exact ⟨fun i hb => by
      have := (hs'.ri.lt i r hb).2
      omega, by show r < w'.heap.size; omega⟩)
  let R5 : Rl := { w := w', N := R'.N, blk := fun k => if k = n.iid then some (r, 0) else R'.blk k, hdr := R'.hdr, ar := R'.ar }
  have hle2 : R'.le R5 := hle1.trans hle2
  have hbi : R5.blk n.iid = some (r, 0) := if_pos rfl
  have hs3 : SR E.D nt w0 N0 R5 ((sP.setO n.iid .dead).put (some it) (.ptr n.iid 0)) (a'.put (some it) (.pointer (some ⟨r, 0, none⟩))) := hs2.put (fun d hd' => by cases hd'; exact hit) (.ptr hbi)
  have hs4 : SR E.D nt ⟨w0.w, w0.G, ghW w0.gh n.k (.map B') (.pointer (some ⟨r, 0, none⟩))⟩ N0 R5 (rgItF n it sP) (a'.put (some it) (.pointer (some ⟨r, 0, none⟩))) := by
    refine hs3.regh rfl fun t => ?_
    show VR E.D R5 (((((sP.setO n.iid .dead).set it (.ptr n.iid 0)).set (gb + n.k) .undef).set (gb + n.k + 1) (.ptr n.iid 0)).get t) _
    rw [get_set, tv_ghW]
    by_cases e1 : gb + n.k + 1 = t
    · rw [if_pos e1, if_neg (by omega), if_pos e1.symm]
      exact .ptr hbi
    · rw [if_neg e1, get_set]
      by_cases e2 : gb + n.k = t
      · rw [if_pos e2, if_pos e2.symm]
        exact .undef _
      · rw [if_neg e2, if_neg (fun e => e2 e.symm), if_neg (fun e => e1 e.symm)]
        exact hs3.tm t
  generalize ha2 : a'.put (some it) (.pointer (some ⟨r, 0, none⟩)) = a2 at hs4
  have hs5 := hs4.restart
  obtain ⟨R6, hw6, hs6⟩ := hs5.fits he.law (iB.fit _ x hx)
  have hs7 := hs4.unrestart hs6
  rw [show w' = R6.w from hw6.symm]
  have hr5 : r < R5.w.heap.size := by show r < w'.heap.size; omega
  have un : ∀ B, B < R5.w.heap.size → ¬ ownedBy R5 (rgItF n it sP) B → ¬ ownedBy R6 (iB.put x) B := by
    rintro B hB hu (⟨id, o, es', ho, ha, hb⟩ | ⟨id, hb⟩)
    · rcases (hs6.own id o B es' ho ha hb).2.1 with h1 | h1
      · have h1 : R5.w.heap.size ≤ B := h1
        omega
      · exact hu h1
    · rcases (hs6.ri.lt id B hb).1 with h1 | h1
      · have h1 : R5.w.heap.size ≤ B := h1
        omega
      · exact hu h1
  have ur : ¬ ownedBy R6 (iB.put x) r := un r hr5 fun ho => by
    rcases ho with ⟨id, o, es', ho, ha, hb⟩ | ⟨id, hb⟩
    · have ho : lk (sP.setO n.iid .dead).o id = some o := ho
      rw [lk_setO] at ho
      split at ho
      · cases ho; exact ha.elim
      · rename_i e2
        have hb : (if id = n.iid then some (r, 0) else R'.blk id) = some (r, es') := hb
        rw [if_neg (fun e => e2 e.symm)] at hb
        have := (hs'.own id o r es' ho ha hb).2.2
        omega
    · have := (hs'.ri.lt id r hb).2
      omega
  have hgi : (ghW w0.gh n.k (.map B') (.pointer (some ⟨r, 0, none⟩))).getD (n.k + 1) undef = .pointer (some ⟨r, 0, none⟩) := by
    rw [ghW_get, if_neg (by omega), if_pos rfl]
  have hr0 : w0.w.heap.size ≤ r := by
    have := hs'.keep.size
    omega
  refine wp_block ?_
  have hretq : ∀ y' m a R, Q (.inr y') z → oB.fin y' = .ret m → Post E nt ⟨w0.w, w0.G, ghW w0.gh n.k (.map B') (.pointer (some ⟨r, 0, none⟩))⟩ N0 fn Q' a R (.ret m) := by
    intro y' m a R hzy hfy v hsm hdf hrr
    have hzy := hQr _ _ hzy
    subst hzy
    have hk := hret y'
    rw [hfy] at hk
    have := hsm.regh (gh' := w0.gh) (s' := m) rfl (fun t => by
      have ht := hsm.tm t
      rw [tv_ghW] at ht
      by_cases e1 : t = gb + n.k
      · rw [e1, hk.1]; exact .undef _
      · by_cases e2 : t = gb + n.k + 1
        · rw [e2, hk.2]; exact .undef _
        · rw [if_neg e1, if_neg e2] at ht
          exact ht)
    have hp := post_fits (Q := Q') (fn := fn) (w0 := w0) (N0 := N0) (nt := nt) (R := R) (a := a) he (oO.fit _ _ (houtR xi y')) (fun R' => hq a R')
    rw [hfy] at hp
    exact hp v this hdf hrr
  rcases hstart with ⟨rfl, hnil⟩ | ⟨b, es, clock, rfl, hbm, hst, hRng⟩
  ·
    obtain rfl : l' = [] := by
      rcases hmap with hmap | ⟨b, _, _, hh, _⟩
      · exact hmap.2
      · cases hh
    obtain ⟨z', hz0, hQz⟩ := hwalk [] (by rw [← hlst]; exact hpl)
    simp only [walkR, Option.some.injEq] at hz0
    subst hz0
    rw [← hx0] at hQz
    refine wp_loop_rounds 1 ?_
    rw [rounds_succ]
    have hsz2 := hs7.size
    refine wp_seq (wp_region_lit ?_)
    have hit2 : a2.eval (.tmp it) = .pointer (some ⟨r, 0, none⟩) := by
      rw [← ha2, eval_put _ _ _ _ (by rw [hs'.size]; exact hit), if_pos rfl]
    refine wpList_plain sh.n2 fun K' hK' => ?_
    unfold Oper.wp
    have hrn : (execOp a2.eval c.no).run E.P R6.w = .ok (.value (.tuple #[.bool false])) R6.w := by
      have hq6 : R6.w.heap[r]? = some (.mapIter none 0 #[] 0) := by rw [hw6]; exact hnil
      simp [execOp, sh.n1, hit2, next_nil hq6]
    rw [hrn]
    refine hK' _ _ (wpList_extract_raw sh.x2 (.tmp nx) 0 sh.x1 (ys := #[.bool false]) (v := .bool false) (by rw [sh.n3, eval_put _ _ _ _ (by rw [hsz2]; exact hnx), if_pos rfl]) rfl (wpList_nil ?_))
    show (Code.seq _ _).wp _ _ _ _
    refine wp_seq (wp_cond_false (by rw [sh.cc, sh.x3, eval_put _ _ _ _ (by simp [Act.put, sh.n3, hsz2, hok]), if_pos rfl]) (wp_exit ?_))
    show Exit.inBlock c.bid Q' (.exit c.bid) _ _
    simp only [Exit.inBlock, if_true]
    have hs8 : SR E.D nt ⟨w0.w, w0.G, ghW w0.gh n.k (.map none) (.pointer (some ⟨r, 0, none⟩))⟩ N0 R6 (rgSt c (iB.put x)) ((a2.put c.no.dst (.tuple #[.bool false])).put c.xo.dst (.bool false)) :=
      (hs7.put (fun d hd' => hdH c.no (by simp) d hd') (.undef _)).put (fun d hd' => hdH c.xo (by simp) d hd') (.undef _)
    obtain ⟨R9, s9, hw9, hs9, ho⟩ := hout xi x z hQz _ _ _ _ (rng_backF hs8)
    rw [← hw9]
    exact (post_fits (Q := Q') (fn := fn) he (oO.fit _ _ ho) (fun R' => hq _ R') : Post E nt w0 N0 fn Q' _ R9 (.norm _)) hs9
  · obtain ⟨hNb, hsize, hent⟩ : ¬ R'.N b 0 ∧ es.size = l'.length ∧ ∀ (i : Nat) (x : U.El ck' × U.El cv') (e : MapEntry), l'[i]? = some x → es[i]? = some e → VR E.D R' (packV ka' (E.D.enc ck' x.1)) e.key ∧ VR E.D R' (packV va' (E.D.enc cv' x.2)) e.val := by
      rcases hmap with ⟨hh, _⟩ | ⟨b', es', clock', hh, k1, k2, k3, k4, k5, k6⟩
      · cases hh
      · cases hh
        rw [hbm] at k2
        cases k2
        exact ⟨k3, k4, k6⟩
    have hb5 : b < R5.w.heap.size := Nat.lt_of_lt_of_le (Array.getElem?_eq_some_iff.1 hbm).1 hgr.size
    obtain ⟨φ, hφ⟩ := assign (E.D.dflt ck', E.D.dflt cv') es.toList l' (by simpa using hsize) (stamped_nodup hst)
    refine wp_loop_rounds (es.size + 1) ?_
    refine rng_loop true (es := es) (clock := clock) (b := b) (w0 := ⟨w0.w, w0.G, ghW w0.gh n.k (.map (some b)) (.pointer (some ⟨r, 0, none⟩))⟩) he hmix hres hd hl sh hbody hH hret hit hi1 hi2 hgi hr0 φ (fun z' => Q z' z) ?_ hretq (es.size + 1) [] x a2 R6 (by simp) ⟨hs7, by rw [hw6]; exact hRng, (hs6.le0 b 0 hb5 hNb).2, ur, fun e hee => ?_⟩ (fun rest hp => ?_)
    · intro x' a3 R7 got hzx I
      obtain ⟨R9, s9, hw9, hs9, ho⟩ := hout xi x' z hzx _ _ _ _ (rng_backF I.sr)
      rw [← hw9]
      exact (post_fits (Q := Q') (fn := fn) he (oO.fit _ _ ho) (fun R' => hq _ R') : Post E nt w0 N0 fn Q' _ R9 (.norm _)) hs9
    · obtain ⟨i, hi⟩ := List.getElem?_of_mem hee
      rw [Array.getElem?_toList] at hi
      have hl' : l'[i]? = some (φ e) := by rw [← hφ, List.getElem?_map, Array.getElem?_toList, hi]; rfl
      obtain ⟨k1, k2⟩ := hent i (φ e) e hl' hi
      exact ⟨(k1.mono hle2).far he.law (packV_c1 he.law _ _ _) hs6.keep.size hs6.le0, (k2.mono hle2).far he.law (packV_c1 he.law _ _ _) hs6.keep.size hs6.le0⟩
    · have := hwalk rest (by
        rw [← hlst]
        refine List.Perm.trans ?_ hpl
        rw [← hφ]
        simpa using hp)
      rw [← hx0] at this
      exact this
open Classical in
noncomputable def anyE {α ρ : Type} (Q : ρ → ρ → Prop) (es : List α) (f : List α → Option ρ) : Option ρ := if h : ∃ r, ∀ σ : List α, σ.Perm es → ∃ r', f σ = some r' ∧ Q r' r then some h.choose else none
theorem anyE_some {α ρ : Type} {Q : ρ → ρ → Prop} {es : List α} {f : List α → Option ρ} {r : ρ} (h : anyE Q es f = some r) : ∀ σ : List α, σ.Perm es → ∃ r', f σ = some r' ∧ Q r' r := by
  unfold anyE at h
  split at h
  · rename_i hx
    have := hx.choose_spec
    cases h
    exact this
  · cases h
theorem anyE_ex {α ρ : Type} {Q : ρ → ρ → Prop} {es : List α} {f : List α → Option ρ} {r : ρ} (h : ∀ σ : List α, σ.Perm es → ∃ r', f σ = some r' ∧ Q r' r) : ∃ r, anyE Q es f = some r ∧ ∀ σ : List α, σ.Perm es → ∃ r', f σ = some r' ∧ Q r' r := by
  have hx : ∃ r, ∀ σ : List α, σ.Perm es → ∃ r', f σ = some r' ∧ Q r' r := ⟨r, h⟩
  refine ⟨hx.choose, ?_, hx.choose_spec⟩
  unfold anyE
  rw [dif_pos hx]
def rgQ {X YB K V : Type} (eq : K → K → Bool) (up : X → List (K × V) → X) (z' z : X ⊕ YB) : Prop := (∃ x l' l, z' = .inl (up x l') ∧ z = .inl (up x l) ∧ l'.Perm l ∧ nodK eq l = true) ∨ ∃ y, z' = .inr y ∧ z = .inr y
noncomputable def rngE {X Y K V K2 V2 : Type} (eq : K2 → K2 → Bool) (up : X → List (K2 × V2) → X) (once : X → K × V → Option (X ⊕ Y)) (es : List (K × V)) (x : X) : Option (X ⊕ Y) := anyE (rgQ eq up) es fun σ => walkR once σ x
def repO (id : Nat) (o : Obj U) : List (Nat × Obj U) → List (Nat × Obj U)
  | [] => []
  | p :: r => (p.1, bif Nat.beq p.1 id then o else p.2) :: repO id o r
theorem lk_repO (id : Nat) (o : Obj U) : ∀ (l : List (Nat × Obj U)) (m : Nat), id ≠ m → lk (repO id o l) m = lk l m
  | [], _, _ => rfl
  | p :: r, m, hm => by
    show lk ((p.1, bif Nat.beq p.1 id then o else p.2) :: repO id o r) m = lk (p :: r) m
    obtain ⟨i, v⟩ := p
    simp only [lk]
    rw [lk_repO id o r m hm]
    cases hb : Nat.beq i id with
    | false => rfl
    | true =>
      have := Nat.eq_of_beq_eq_true hb
      subst this
      rw [show Nat.beq i m = false from Bool.eq_false_iff.2 fun e => hm (Nat.eq_of_beq_eq_true e)]
      rfl
theorem SR.fzPerm {D : Codec U} {C : Cx} {N : Nat → Nat → Prop} {R : Rl} {s s' : St U} {a : Act} (h : SR D nt C N R s' a) {id : Nat} {w ka va : Bool} {ck cv : U.C} {l l' : List (U.El ck × U.El cv)}
    (e : s' = { t := s.t, o := repO id (.map w ka va ck cv l') s.o }) (ho' : lk s'.o id = some (.map w ka va ck cv l')) (ho : lk s.o id = some (.map w ka va ck cv l)) (hp : l'.Perm l) (hn : nodK (D.keq ck) l = true) :
    ∃ R', R'.w = R.w ∧ SR D nt C N R' (s.freezeM id) a := by
  obtain ⟨R', hw, _, h'⟩ := h.freezeM id
  unfold St.freezeM at h' ⊢
  rw [ho'] at h'
  rw [ho]
  dsimp only at h' ⊢
  refine ⟨R', hw, { toSO := ?_, size := h'.size, defers := h'.defers, ntle := h'.ntle, tm := fun m => ?_ }⟩
  · have hf : lk ((id, Obj.dead) :: s.o) = lk ((id, Obj.dead) :: s'.o) := funext fun m => by
      simp only [lk]
      by_cases hm : id = m
      · subst hm
        rw [Nat.beq_refl]
        rfl
      · rw [show Nat.beq id m = false from Bool.eq_false_iff.2 fun e => hm (Nat.eq_of_beq_eq_true e), cond_false, cond_false, e]
        exact (lk_repO id _ s.o m hm).symm
    have := h'.toSO
    show SO D C N R' (lk ((id, Obj.dead) :: s.o))
    rw [hf]
    exact this
  · have ht := h'.tm m
    have et : s'.t = s.t := by rw [e]
    unfold St.get at ht ⊢
    dsimp only at ht ⊢
    rw [et] at ht
    rw [show (s.t.map fun p => (p.1, frzW id (.fm ka va ck cv l') p.2)) = s.t.map fun p => (p.1, (frzW id (.fm ka va ck cv l')) p.2) from rfl, lkmap (frzW id (.fm ka va ck cv l')) s.t m] at ht
    rw [show (s.t.map fun p => (p.1, frzW id (.fm ka va ck cv l) p.2)) = s.t.map fun p => (p.1, (frzW id (.fm ka va ck cv l)) p.2) from rfl, lkmap (frzW id (.fm ka va ck cv l)) s.t m]
    cases hl : lk s.t m with
    | none => rw [hl] at ht; exact ht
    | some v =>
      rw [hl] at ht
      cases v with
      | mp i =>
        simp only [Option.map_some, frzW] at ht ⊢
        cases hb : Nat.beq i id with
        | false => rw [hb] at ht; exact ht
        | true =>
          rw [hb] at ht
          change VR D R' (.fm ka va ck cv l') _ at ht
          change VR D R' (.fm ka va ck cv l) _
          obtain ⟨B, _, e, _⟩ := ht.fm_inv
          rw [e] at ht ⊢
          exact .fmp hp hn ht
      | _ => exact ht
theorem rng_soundZ (he : EnvOk E) (hmix : E.P.follows .mixedOrders = true) (hres : E.results = fn.results.toList) {c : RgC} (hd : dstB nt c.code = true) (hl : AllL E nt fn (loopsOf c.rest))
    {ty kt et : TypeId} {mx it nx ok : Nat} (sh : c.Shape ty mx it nx ok) (hty : E.P.underlying ty = some (.map kt et)) (n : RgN)
    (hnum : (Nat.blt mx nt && Nat.blt it nt && !(Nat.beq it nx) && !(Nat.beq it ok)) = true)
    {XI X YB Y : Type} (iI : Lay U XI) (iB : Lay U X) (oB : OLay U YB) (oO : OLay U Y) (ka va : Bool) (ck cv : U.C) (lst : XI → List (U.El ck × U.El cv)) (x0 : XI → X)
    (once : X → U.El ck × U.El cv → Option (X ⊕ YB)) (fo : XI → X ⊕ YB → Y)
    (hpre : ∀ xi, (rgPre E c (iI.put xi)).isSome = true)
    (hin : ∀ xi, rgRdF E.D n mx it ka va ck cv iB (rgIn E c (iI.put xi)) = some (lst xi, x0 xi))
    (hbody : ∀ x e, rgBody E c (rgSt c (iB.put x)) (.tup [packV ka (E.D.enc ck e.1), packV va (E.D.enc cv e.2)]) (headK iB.un oB.re) = once x e)
    (hH : ∀ x, RgA n it (iB.put x)) (hret : ∀ y, isRetK n (oB.fin y))
    (id : Nat) (wZ kaZ vaZ : Bool) (ckZ cvZ : U.C) (eqZ : U.El ckZ → U.El ckZ → Bool) (hkz : E.D.keq ckZ = eqZ) (up : X → List (U.El ckZ × U.El cvZ) → X)
    (hup : ∀ x l l', rgBackF c n (iB.put (up x l')) = { t := (rgBackF c n (iB.put (up x l))).t, o := repO id (.map wZ kaZ vaZ ckZ cvZ l') (rgBackF c n (iB.put (up x l))).o })
    (hul : ∀ x l, lk (rgBackF c n (iB.put (up x l))).o id = some (.map wZ kaZ vaZ ckZ cvZ l))
    (hout : ∀ xi x l, oO.re (.norm ((rgBackF c n (iB.put (up x l))).freezeM id)) = some (fo xi (.inl (up x l))))
    (houtR : ∀ xi y, oO.re (oB.fin y) = some (fo xi (.inr y))) :
    LSound E nt fn c.code (ldn iI oO fun xi => (rngE eqZ up once (lst xi) (x0 xi)).map (fo xi)) :=
  rng_soundG he hmix hres hd hl sh hty n hnum iI iB oB oO ka va ck cv lst x0 once fo hpre hin hbody hH hret (fun xi => rngE eqZ up once (lst xi) (x0 xi)) (rgQ eqZ up)
    (fun xi z hz σ hσ => anyE_some hz σ hσ)
    (fun xi x' z hz C N R a h => by
      rcases hz with ⟨x, l', l, e1, e2, hp, hn⟩ | ⟨y, e1, _⟩
      · cases e1
        subst e2
        subst hkz
        obtain ⟨R', hw, h'⟩ := h.fzPerm (hup x l l') (hul x l') (hul x l) hp hn
        exact ⟨R', _, hw, h', hout xi x l⟩
      · cases e1)
    (fun y z h => by
      rcases h with ⟨x, l', l, e1, _⟩ | ⟨y', e1, e2⟩
      · cases e1
      · cases e1
        exact e2.symm) houtR
theorem allL_skip {c : Code} {l : List Code} {key : Nat} (hk : lkey c = some key) (hd : E.ld key = none) (hl : AllL E nt fn l) : AllL E nt fn (c :: l) := by
  intro c' hc k d h1 h2
  rcases List.mem_cons.1 hc with rfl | hc
  · rw [hk] at h1
    cases h1
    rw [hd] at h2
    cases h2
  · exact hl c' hc k d h1 h2
end
end Go.Ev
