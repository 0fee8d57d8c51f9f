import Derived.Test.YtgfbcclfajcjnaaEvEq
import Derived.Laws.Pointers
import Derived.Laws.Cover3
import Derived.Laws.AppendOwn
universe u
namespace Go.Ev
set_option linter.unusedVariables false
set_option linter.unusedSimpArgs false
open Go.RowKit (Below)
variable {U : Univ} {ρ : Type}
def Sound (P : Program) (D : Codec U) (f : FuncId) (d : FDen U) : Prop :=
  d.nt ≤ gb ∧ ∀ (m : St U) (x : d.X) (y : d.Y), d.un m = some x → d.f x = some y →
    ∀ (C : Cx) (R : Rl) (vs : Array Value), C.w = R.w → C.gh = vs → vs.size ≤ d.nt → SR D d.nt C R.N R m { tmps := vs ++ Array.replicate (d.nt - vs.size) undef, defers := [] } →
      Calls P f vs R.w fun e w' => ∃ v R', e = .returned v ∧ R'.w = w' ∧ SR D 1 C R.N R' (d.fin y) { tmps := #[v], defers := [] }
theorem eq_plain {P : Program} {D : Codec U} {R : Rl} {t : TypeId} {xs ys : List (AV U)} {as bs : Array Value} {ks : List Nat} {b : Bool} (hp : plainEq P 8 t = some ks) (ha : isAggB P t = true) (hb : eqF ks xs ys = some b)
    (hx : ∀ (i : Nat) (x : AV U) (y : Value), xs[i]? = some x → as[i]? = some y → VR D R x y) (hy : ∀ (i : Nat) (x : AV U) (y : Value), ys[i]? = some x → bs[i]? = some y → VR D R x y)
    (hxl : xs.length = as.size) (hyl : ys.length = bs.size) : (Op.equal t (.agg as) (.agg bs)).run P R.w = .ok b R.w := by
  refine eqIn 8 t ks hp 10000 (by omega) xs ys _ _ (.inl ⟨ha, as, rfl, hxl, hx⟩) (.inl ⟨ha, bs, rfl, hyl, hy⟩) b (eqF_eqL ks xs ys b hb)
def flatV : AV U → Value
  | .flat v => v
  | _ => undef
def keyV (g : Bool) (cs : List Value) : Value := match g with
  | true => .agg cs.toArray
  | false => cs.getD 0 undef
def HoldsL (D : Codec U) (w : World) (c : U.C) (ka : Bool) (mb : Option Nat) (l : List (U.El c)) : Prop :=
  (mb = none ∧ l = []) ∨ ∃ m es clock, mb = some m ∧ w.heap[m]? = some (.map es clock) ∧ MapKept.Stamped es clock ∧ es.size = l.length ∧
    ∀ (i : Nat) (x : U.El c) (e : MapEntry), l[i]? = some x → es[i]? = some e → e.key = keyV ka ((D.enc c x).map flatV)
def MapIs (w : World) (m : Option Nat) (es : Array MapEntry) : Prop := (m = none ∧ es = #[]) ∨ ∃ b clock, m = some b ∧ w.heap[b]? = some (.map es clock) ∧ MapKept.Stamped es clock
def Shaped (nk nv : Nat) (es : Array MapEntry) : Prop := ∀ e ∈ es.toList, ∃ xs ys : Array Value, e.key = .agg xs ∧ xs.size = nk ∧ (∀ v ∈ xs.toList, v.oneCell' = true) ∧ e.val = .agg ys ∧ ys.size = nv ∧ ∀ v ∈ ys.toList, v.oneCell' = true
def SfOk (P : Program) (D : Codec U) (f : FuncId) : SDen U → Prop
  | .del kt nk nv => ∀ (w : World) (b : Nat) (es : Array MapEntry) (clock : Nat) (g : FuncId) (pd : MapEntry → Bool), w.heap[b]? = some (.map es clock) → MapKept.Stamped es clock → Shaped nk nv es → (es.toList ≠ [] → ∀ args w, (callFunc g args).run P w = .ok (.enter g args) w) →
      (∀ W, w.grownBy W (some b) → ∀ e ∈ es.toList, Calls P g #[e.key, e.val] W fun x W' => x = .returned (.bool (pd e)) ∧ W.grownBy W' none) →
      (∀ W, w.grownBy W (some b) → ∀ e ∈ es.toList, (∀ em, (Instr.checkKey em 10000 kt e.key).run P W = .ok () W) ∧ ∀ (l : List MapEntry) (i : Nat), l.Sublist es.toList → l[i]? = some e → (Instr.findKey kt e.key l).run P W = .ok (some (i, e.val)) W) →
      Calls P f #[.map (some b), .func (.func g) #[] #[]] w fun x w' => (∃ v, x = .returned v) ∧ w.grownBy w' (some b) ∧ ∃ es' : Array MapEntry, w'.heap[b]? = some (.map es' clock) ∧ es'.toList = es.toList.filter fun e => !pd e
  | .eq kt vt nk nv => ∀ (w : World) (m1 m2 : Option Nat) (es1 es2 : Array MapEntry) (fnd : MapEntry → Option (Nat × Value)) (ve : Value → Value → Bool), MapIs w m1 es1 → MapIs w m2 es2 → Shaped nk nv es1 → Shaped nk nv es2 →
      (∃ i z, P.info? vt = some i ∧ i.zero = some z) →
      (∀ W, w.grownBy W none → ∀ e ∈ es1.toList, (∀ em, (Instr.checkKey em 10000 kt e.key).run P W = .ok () W) ∧ (Instr.findKey kt e.key es2.toList).run P W = .ok (fnd e) W) →
      (∀ e ∈ es1.toList, ∀ p, fnd e = some p → (∃ e2 ∈ es2.toList, p.2 = e2.val) ∧ ∀ W, (binOp .neq vt e.val p.2).run P W = .ok (.bool (!ve e.val p.2)) W ∧ ∀ a b, (eqGuard .neq vt a b e.val p.2).run P W = .ok () W) →
      Calls P f #[.map m1, .map m2] w fun x w' => x = .returned (.bool (es1.size == es2.size && es1.toList.all fun e => match fnd e with | some p => ve e.val p.2 | none => false)) ∧ w.grownBy w' none
  | .keys g => ∀ (mb : Option Nat) (w : World), Calls P f #[.map mb] w fun e w' => ∃ B, e = .returned (.func (.func g) #[] #[.pointer (some ⟨B, 0, none⟩)]) ∧
      w.heap.size ≤ B ∧ B < w'.heap.size ∧ w'.cell? ⟨B, 0, none⟩ = some (.map mb) ∧ Below w.heap.size w w'
  | .sort g cmp c ka b srt => (∀ l m : List (U.El c), l.Perm m → srt l = srt m) ∧ ∀ (w : World) (B o : Nat) (mb : Option Nat) (l : List (U.El c)), w.cell? ⟨B, o, none⟩ = some (.map mb) → B < w.heap.size → l.length * b ≤ 140737488355328 → HoldsL D w c ka mb l →
      Calls P f (#[.func (.func g) #[] #[.pointer (some ⟨B, o, none⟩)]] ++ (cmp.map fun h => Value.func (.func h) #[] #[]).toArray) w fun e w' => ∃ v, e = .returned v ∧ Below w.heap.size w w' ∧ (srt l).length = l.length ∧
        ((l = [] ∧ v = .slice none 0 0) ∨ ∃ blk cap, v = .slice (some ⟨blk, 0, none⟩) l.length cap ∧ w.heap.size ≤ blk ∧ blk < w'.heap.size ∧ l.length ≤ cap ∧
          ∀ (i : Nat) (x : U.El c), (srt l)[i]? = some x → ∀ (j : Nat) (u : Value), ((D.enc c x).map flatV)[j]? = some u → w'.cell? ⟨blk, i * D.size c + j, none⟩ = some u)
structure EnvOk (E : Env U) : Prop where
  lz : E.lz = false
  sf : ∀ f d, E.sf f = some d → SfOk E.P E.D f d ∧ ∀ args w, (callFunc f args).run E.P w = .ok (.enter f args) w
  law : Lawful E.D
  fd : ∀ f d, E.fd f = some d → Sound E.P E.D f d
  jd : ∀ k j, E.jd k = some j → ∀ o y, j.re o = some y → FitsO o (j.fin y)
  enter : ∀ f d, E.fd f = some d → ∀ args w, (callFunc f args).run E.P w = .ok (.enter f args) w
  fn : ∀ f d, E.fn f = some d → Sound E.P E.D f d ∧ ∀ args w, (callFunc f args).run E.P w = .ok (.enter f args) w
theorem EnvOk.fa {E : Env U} (he : EnvOk E) {f : FuncId} {d : FDen U} {args : List (AV U)} (h : E.fa f args = some d) : Sound E.P E.D f d ∧ ∀ args w, (callFunc f args).run E.P w = .ok (.enter f args) w := by
  unfold Env.fa at h
  cases hb : args.any isNilP with
  | true => rw [hb] at h; exact he.fn f d h
  | false => rw [hb] at h; exact ⟨he.fd f d h, he.enter f d h⟩
section
variable {E : Env U} {nt : Nat} {w0 : Cx} {N0 : Nat → Nat → Prop} {R : Rl} {s : St U} {a : Act}
def Told (E : Env U) (nt : Nat) (w0 : Cx) (N0 : Nat → Nat → Prop) (R : Rl) (s : St U) (a : Act) (o : Oper) (K : AV U → Eff U → Option ρ) (r : ρ) : Prop :=
  ∃ v us, K v us = some r ∧ OpGood E.P E.D nt w0 N0 R s a o v us
theorem told_value {o : Oper} {v : AV U} {y : Value} {K : AV U → Eff U → Option ρ} {r : ρ} (h : SR E.D nt w0 N0 R s a) (hK : K v [] = some r)
    (hrun : (execOp a.eval o).run E.P R.w = .ok (.value y) R.w) (hv : VR E.D R v y) : Told E nt w0 N0 R s a o K r :=
  ⟨v, [], hK, good_value h hrun hv⟩
theorem told_pick {o : Oper} {c x y : Operand} {K : AV U → Eff U → Option ρ} {r : ρ} (h : SR E.D nt w0 N0 R s a) (ho : o.op = .pick c x y)
    (hk : opK E o s.op (lk s.o) K = some r) : Told E nt w0 N0 R s a o K r := by
  unfold opK at hk
  simp only [ho] at hk
  have hc := h.op c
  split at hk
  · rename_i t ht
    rw [ht] at hc
    have hc' := hc.flat_inv
    rcases cond_some hk with ⟨rfl, hk⟩ | ⟨rfl, hk⟩
    · exact told_value h hk (by simp [execOp, ho, hc', asBool]) (h.op x)
    · exact told_value h hk (by simp [execOp, ho, hc', asBool]) (h.op y)
  · cases hk
theorem run_binOp {w : World} {o : Oper} {op : BinOp} {t t' : TypeId} {x y : Operand} {z : Value} (ho : o.op = .binOp op t x y t') (hg : (eqGuard op t x y (a.eval x) (a.eval y)).run E.P w = .ok () w)
    (hb : (binOp op t (a.eval x) (a.eval y)).run E.P w = .ok z w) : (execOp a.eval o).run E.P w = .ok (.value z) w := by
  simp only [execOp, ho]
  exact run_value (by simp [hg, hb])
theorem told_binOp {o : Oper} {op : BinOp} {t t' : TypeId} {x y : Operand} {K : AV U → Eff U → Option ρ} {r : ρ} (h : SR E.D nt w0 N0 R s a) (ho : o.op = .binOp op t x y t')
    (hk : opK E o s.op (lk s.o) K = some r) : Told E nt w0 N0 R s a o K r := by
  unfold opK at hk
  simp only [ho] at hk
  have hx := h.op x
  have hy := h.op y
  unfold binC at hk
  split at hk
  · rename_i k m k' n e1 e2
    rw [e1] at hx
    rw [e2] at hy
    have hx' := hx.flat_inv
    have hy' := hy.flat_inv
    have hg : (eqGuard op t x y (a.eval x) (a.eval y)).run E.P R.w = .ok () R.w := by rw [hx', eqGuard_at_int]; rfl
    split at hk
    · obtain ⟨hn, hk⟩ := cond_none' hk
      have hn' : ¬ n < 0 := of_decide_eq_false hn
      exact told_value h hk (run_binOp ho hg (by rw [hx', hy']; simp [binOp_shl, Op.shift, hn'])) (.flat _)
    · obtain ⟨hn, hk⟩ := cond_none' hk
      have hn' : ¬ n < 0 := of_decide_eq_false hn
      exact told_value h hk (run_binOp ho hg (by rw [hx', hy']; simp [binOp_shr, Op.shift, hn'])) (.flat _)
    · rename_i hsl hsr
      obtain ⟨hkk, hk2⟩ := cond_none hk
      clear hk
      have hkk' : k = k' := by simpa using hkk
      subst hkk'
      have hk := hk2
      clear hk2
      unfold binI at hk
      split at hk
      case h_4 =>
        obtain ⟨hn, hk⟩ := cond_none' hk
        have hn' : ¬ n = 0 := by simpa using hn
        exact told_value h hk (run_binOp ho hg (by rw [hx', hy']; simp [binOp_quo, Op.intDiv, hn'])) (.flat _)
      case h_5 =>
        obtain ⟨hn, hk⟩ := cond_none' hk
        have hn' : ¬ n = 0 := by simpa using hn
        exact told_value h hk (run_binOp ho hg (by rw [hx', hy']; simp [binOp_rem, Op.intDiv, hn'])) (.flat _)
      case h_1 => exact told_value h hk (run_binOp ho hg (by rw [hx', hy']; simp [binOp_add, Op.intArith])) (.flat _)
      case h_2 => exact told_value h hk (run_binOp ho hg (by rw [hx', hy']; simp [binOp_sub, Op.intArith])) (.flat _)
      case h_3 => exact told_value h hk (run_binOp ho hg (by rw [hx', hy']; simp [binOp_mul, Op.intArith])) (.flat _)
      case h_6 => exact told_value h hk (run_binOp ho hg (by rw [hx', hy']; simp [binOp_and, intBits_and])) (.flat _)
      case h_7 => exact told_value h hk (run_binOp ho hg (by rw [hx', hy']; simp [binOp_or, intBits_or])) (.flat _)
      case h_8 => exact told_value h hk (run_binOp ho hg (by rw [hx', hy']; simp [binOp_xor, intBits_xor])) (.flat _)
      case h_9 => exact told_value h hk (run_binOp ho hg (by rw [hx', hy']; simp [binOp_andNot, intBits_andNot])) (.flat _)
      case h_10 => exact told_value h hk (run_binOp ho hg (by rw [hx', hy']; simp [binOp_eql])) (.flat _)
      case h_11 => exact told_value h hk (run_binOp ho hg (by rw [hx', hy']; simp [binOp_neq])) (.flat _)
      case h_12 => exact told_value h hk (run_binOp ho hg (by rw [hx', hy']; simp [binOp_lss])) (.flat _)
      case h_13 => exact told_value h hk (run_binOp ho hg (by rw [hx', hy']; simp [binOp_leq])) (.flat _)
      case h_14 => exact told_value h hk (run_binOp ho hg (by rw [hx', hy']; simp [binOp_gtr])) (.flat _)
      case h_15 => exact told_value h hk (run_binOp ho hg (by rw [hx', hy']; simp [binOp_geq])) (.flat _)
      case h_16 => cases hk
  · rename_i m n e1 e2
    rw [e1] at hx
    rw [e2] at hy
    have hx' := hx.flat_inv
    have hy' := hy.flat_inv
    have hg : (eqGuard op t x y (a.eval x) (a.eval y)).run E.P R.w = .ok () R.w := by rw [hx', eqGuard_at_bool]; rfl
    split at hk
    · rename_i hu
      exact told_value h hk (run_binOp ho hg (by rw [hx', hy']; simp [binOp, Op.equal, Op.maxDepth, run_equalIn_bool' R.w _ t m n hu])) (.flat _)
    · rename_i hu
      exact told_value h hk (run_binOp ho hg (by rw [hx', hy']; simp [binOp, Op.equal, Op.maxDepth, run_equalIn_bool' R.w _ t m n hu])) (.flat _)
    · cases hk
  · rename_i g c l e1 e2
    rw [e1] at hx
    rw [e2] at hy
    obtain ⟨b, n, cap, hx', hg1, _⟩ := hx.nrow_inv
    have hy' := hy.flat_inv
    have hg : (eqGuard op t x y (a.eval x) (a.eval y)).run E.P R.w = .ok () R.w := by rw [hx', eqGuard_at_slice]; rfl
    split at hk
    · rename_i e hu
      exact told_value (y := .bool b.isNone) h hk (run_binOp ho hg (by rw [hx', hy']; simp [binOp, run_equal_slice_nil R.w t e b n cap hu])) (by rw [hg1]; cases b <;> exact .flat _)
    · rename_i e hu
      exact told_value (y := .bool (!b.isNone)) h hk (run_binOp ho hg (by rw [hx', hy']; simp [binOp, run_equal_slice_nil R.w t e b n cap hu])) (by rw [hg1]; cases b <;> exact .flat _)
    · cases hk
  · rename_i e1 e2
    rw [e1] at hx
    rw [e2] at hy
    have hx' := hx.flat_inv
    have hy' := hy.flat_inv
    have hg : (eqGuard op t x y (a.eval x) (a.eval y)).run E.P R.w = .ok () R.w := by rw [hx', eqGuard_at_pointer]; rfl
    have key : ∀ e, E.P.underlying t = some (.pointer e) → E.P.underlying t = some (.pointer (E.P.pointee t)) := fun e he => by rw [he]; unfold Program.pointee; rw [he]
    split at hk
    · rename_i e hu
      exact told_value h hk (run_binOp ho hg (by rw [hx', hy', run_eql_pointer_nil _ _ _ (key _ hu)]; rfl)) (.flat _)
    · rename_i e hu
      exact told_value h hk (run_binOp ho hg (by rw [hx', hy', run_neq_pointer_nil _ _ _ (key _ hu)]; rfl)) (.flat _)
    · cases hk
  · rename_i id off e1 e2
    rw [e1] at hx
    rw [e2] at hy
    obtain ⟨B, es, _, hx'⟩ := hx.ptr_inv
    have hy' := hy.flat_inv
    have hg : (eqGuard op t x y (a.eval x) (a.eval y)).run E.P R.w = .ok () R.w := by rw [hx', eqGuard_at_pointer]; rfl
    have key : ∀ e, E.P.underlying t = some (.pointer e) → E.P.underlying t = some (.pointer (E.P.pointee t)) := fun e he => by rw [he]; unfold Program.pointee; rw [he]
    split at hk
    · rename_i e hu
      exact told_value h hk (run_binOp ho hg (by rw [hx', hy', run_eql_pointer_nil _ _ _ (key _ hu)]; rfl)) (.flat _)
    · rename_i e hu
      exact told_value h hk (run_binOp ho hg (by rw [hx', hy', run_neq_pointer_nil _ _ _ (key _ hu)]; rfl)) (.flat _)
    · cases hk
  · rename_i xs ys e1 e2
    rw [e1] at hx
    rw [e2] at hy
    obtain ⟨as, hx', hxl, hxv⟩ := hx.agg_inv
    obtain ⟨bs, hy', hyl, hyv⟩ := hy.agg_inv
    split at hk
    · cases hk
    · rename_i ks hks
      obtain ⟨hp, hk2⟩ := cond_none hk
      clear hk
      simp only [Bool.and_eq_true, Bool.not_eq_true'] at hp
      have hg : (eqGuard op t x y (a.eval x) (a.eval y)).run E.P R.w = .ok () R.w := by rw [hx', hy']; exact run_eqGuard_agg R.w op t x y as bs hp.2
      split at hk2
      · rename_i b hb
        have hq := eq_plain hks hp.1 hb hxv hyv hxl hyl
        exact told_value h hk2 (run_binOp ho hg (by rw [hx', hy']; simp [binOp, hq])) (.flat _)
      · rename_i b hb
        have hq := eq_plain hks hp.1 hb hxv hyv hxl hyl
        exact told_value h hk2 (run_binOp ho hg (by rw [hx', hy']; simp [binOp, hq])) (.flat _)
      · cases hk2
  · cases hk
theorem told_unOp {o : Oper} {op : UnOp} {t : TypeId} {x : Operand} {K : AV U → Eff U → Option ρ} {r : ρ} (h : SR E.D nt w0 N0 R s a) (ho : o.op = .unOp op t x)
    (hk : opK E o s.op (lk s.o) K = some r) : Told E nt w0 N0 R s a o K r := by
  unfold opK at hk
  simp only [ho] at hk
  obtain ⟨v, hv, hk⟩ := kont_some hk
  have hx := h.op x
  unfold unC at hv
  split at hv
  · rename_i k n e1
    rw [e1] at hx
    cases hv
    exact told_value h hk (by simp only [execOp, ho]; exact run_value (by simp [hx.flat_inv, Op.unary, Op.intArith])) (.flat _)
  · rename_i k n e1
    rw [e1] at hx
    cases hv
    exact told_value h hk (by simp only [execOp, ho]; exact run_value (by simp [hx.flat_inv, Op.unary, intBits_xor])) (.flat _)
  · rename_i b e1
    rw [e1] at hx
    cases hv
    exact told_value h hk (by simp only [execOp, ho]; exact run_value (by simp [hx.flat_inv, Op.unary])) (.flat _)
  · cases hv
theorem told_nilCheck {o : Oper} {x : Operand} {K : AV U → Eff U → Option ρ} {r : ρ} (h : SR E.D nt w0 N0 R s a) (ho : o.op = .nilCheck x)
    (hk : opK E o s.op (lk s.o) K = some r) : Told E nt w0 N0 R s a o K r := by
  unfold opK at hk
  simp only [ho] at hk
  have hx := h.op x
  split at hk
  · rename_i id off e
    rw [e] at hx
    obtain ⟨B, es, hb, hy⟩ := hx.ptr_inv
    exact told_value (y := a.eval x) h hk (by simp [execOp, ho, hy]) hx
  · rename_i f caps e
    rw [e] at hx
    obtain ⟨ys, hy, _⟩ := hx.fn_inv
    exact told_value (y := a.eval x) h hk (by simp [execOp, ho, hy]) hx
  · cases hk
theorem told_convert {o : Oper} {src dst : TypeId} {x : Operand} {K : AV U → Eff U → Option ρ} {r : ρ} (h : SR E.D nt w0 N0 R s a) (ho : o.op = .convert src dst x)
    (hk : opK E o s.op (lk s.o) K = some r) : Told E nt w0 N0 R s a o K r := by
  unfold opK at hk
  simp only [ho] at hk
  have hx := h.op x
  split at hk
  · rename_i k k' n hu hsrc e1
    rw [e1] at hx
    obtain ⟨d, hd⟩ := Option.isSome_iff_exists.1 hsrc
    exact told_value h hk (by simp only [execOp, ho]; exact run_value (by simp [hx.flat_inv, convert, run_underlying' R.w hd, run_underlying' R.w hu, Conv.intToInt])) (.flat _)
  · cases hk
theorem told_extract {o : Oper} {i : Nat} {x : Operand} {K : AV U → Eff U → Option ρ} {r : ρ} (h : SR E.D nt w0 N0 R s a) (ho : o.op = .extract x i)
    (hk : opK E o s.op (lk s.o) K = some r) : Told E nt w0 N0 R s a o K r := by
  unfold opK at hk
  simp only [ho] at hk
  have hx := h.op x
  split at hk
  · rename_i vs e1
    rw [e1] at hx
    obtain ⟨v, hv, hk⟩ := kont_some hk
    obtain ⟨ys, hy, hl, hvs⟩ := hx.tup_inv
    have hlt := (List.getElem?_eq_some_iff.1 hv).1
    have hyi : ys[i]? = some (ys[i]'(by omega)) := Array.getElem?_eq_getElem (by omega)
    exact told_value h hk (by simp only [execOp, ho]; exact run_value (by simp [hy, Instr.extract, hyi])) (hvs i v _ hv hyi)
  · cases hk
theorem told_field {o : Oper} {t : TypeId} {f : Nat} {x : Operand} {K : AV U → Eff U → Option ρ} {r : ρ} (h : SR E.D nt w0 N0 R s a) (ho : o.op = .field t x f)
    (hk : opK E o s.op (lk s.o) K = some r) : Told E nt w0 N0 R s a o K r := by
  unfold opK at hk
  simp only [ho] at hk
  have hx := h.op x
  obtain ⟨fl, hfl, hk⟩ := kont_some hk
  split at hk
  · rename_i cs e1
    rw [e1] at hx
    obtain ⟨v, hv, hk⟩ := kont_some hk
    obtain ⟨ys, hy, hl, hvs⟩ := hx.agg_inv
    unfold fieldOff at hfl
    split at hfl
    · rename_i fs hu
      split at hfl
      · rename_i fl' hf
        split at hfl
        · cases hfl
          obtain ⟨d, hd⟩ := cut_under hv
          obtain ⟨y, h1, h2⟩ := run_part (P := E.P) R.w hd (by omega) hvs hv
          exact told_value h hk (by simp only [execOp, ho]; exact run_value (by simp [hy, Instr.field, run_underlying' R.w hu, hf, asAgg, h1])) h2
        · cases hfl
      · cases hfl
    · cases hfl
  · cases hk
end
end Go.Ev
