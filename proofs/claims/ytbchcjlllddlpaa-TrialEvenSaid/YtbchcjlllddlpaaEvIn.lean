import Derived.Test.YtbchcjlllddlpaaEvLaw
import Derived.ChangeArms
import Derived.OpenShut
import Derived.SizedLaws
import Derived.ChangeShapes
import Derived.WideShapes
universe u
namespace Go.Ev
set_option linter.unusedVariables false
set_option linter.unusedSimpArgs false
open Go.ChangeShapes Go.WideShapes
variable {U : Wdr} {H : Type} {enc : TypeId × Value → H} {P : Program} {W : World} {base : Nat} {spare : Nat → Bool} {held : Bool} {D : Wbf U} {α β : Type}
def Wic (D : Wbf U) (W : World) (as : List (AV U)) (cs : List Value) : Prop :=
 as.length = cs.length ∧ ∀ (i : Nat) (a : AV U) (v : Value), as[i]? = some a → cs[i]? = some v → VR D (rl0 W) a v
theorem Wic.one {a : AV U} {v : Value} (h : VR D (rl0 W) a v) : Wic D W [a] [v] := by
 refine ⟨rfl, fun i b w hb hw => ?_⟩
 cases i with
 | zero => simp at hb hw; subst hb; subst hw; exact h
 | succ i => simp at hb
theorem Wic.nil : Wic D W ([] : List (AV U)) [] := ⟨rfl, fun i b w hb _ => by simp at hb⟩
theorem Wic.app {as bs : List (AV U)} {cs ds : List Value} (h : Wic D W as cs) (h' : Wic D W bs ds) : Wic D W (as ++ bs) (cs ++ ds) := by
 refine ⟨by simp [h.1, h'.1], fun i a v ha hv => ?_⟩
 by_cases hi : i < as.length
 ·rw [List.getElem?_append_left hi] at ha
  rw [List.getElem?_append_left (by rw [← h.1]; exact hi)] at hv
  exact h.2 i a v ha hv
 ·rw [List.getElem?_append_right (by omega)] at ha
  rw [List.getElem?_append_right (by rw [← h.1]; omega), ← h.1] at hv
  exact h'.2 _ a v ha hv
def Opens (enc : TypeId × Value → H) (P : Program) (W : World) (base : Nat) (spare : Nat → Bool) (held : Bool) (D : Wbf U) (t : TypeId) (c : Cd U α) (wf : α → Prop) : Prop :=
 ∀ (fuel : Nat) (cs : List Value) (x : DataW H × List MemPlace), DataW.trod enc P W base spare held fuel t cs = some x → (∀ n ∈ x.1.weights P t, n ≤ reachBytes) → ∃ a, wf a ∧ Wic D W (c.enc a) cs
theorem Wgu {t : TypeId} {k : IntKind} (ht : P.underlying t = some (.int k)) : Opens enc P W base spare held D t (Cd.int k) (fun n => (Lit.int k n).wf = true) := by
 intro fuel cs x h _
 obtain ⟨n, rfl, rfl, hw⟩ := DataW.trod_int ht h
 exact ⟨n, hw, .one (.flat _)⟩
theorem opens_iso {t : TypeId} {c : Cd U α} {wf : α → Prop} (h : Opens enc P W base spare held D t c wf) (f : α → β) (g : β → α) (hg : ∀ x, g (f x) = x) :
  Opens enc P W base spare held D t (Cd.iso c f g hg) (fun b => wf (g b)) := by
 intro fuel cs x hx hw
 obtain ⟨a, h1, h2⟩ := h fuel cs x hx hw
 exact ⟨f a, by show wf (g (f a)); rw [hg]; exact h1, by show Wic D W (c.enc (g (f a))) cs; rw [hg]; exact h2⟩
def Qnv (enc : TypeId × Value → H) (P : Program) (W : World) (base : Nat) (spare : Nat → Bool) (held : Bool) (D : Wbf U) (fs : List Field) (off : Nat) (c : Cd U α) (wf : α → Prop) : Prop :=
 ∀ (n : Nat) (cs : List Value) (xs : List (DataW H × List MemPlace)), xs.length = fs.length → (∀ (i : Nat) (f : Field), fs[i]? = some f → DataW.trod enc P W base spare held n f.type ((cs.drop f.offset).take (P.cellsOf f.type)) = xs[i]?) →
  (∀ (i : Nat) (f : Field) (x : DataW H × List MemPlace), fs[i]? = some f → xs[i]? = some x → ∀ m ∈ x.1.weights P f.type, m ≤ reachBytes) → cs.length = off + (fs.map fun f => P.cellsOf f.type).sum → ∃ a, wf a ∧ Wic D W (c.enc a) (cs.drop off)
theorem Qtb {off : Nat} : Qnv enc P W base spare held D [] off (Cd.unit : Cd U Unit) (fun _ => True) := by
 intro n cs xs _ _ _ hl
 refine ⟨(), trivial, ?_⟩
 rw [List.drop_eq_nil_of_le (by simp at hl; omega)]
 exact .nil
theorem Zev {f : Field} {fs : List Field} {off sz : Nat} {a : Cd U α} {b : Cd U β} {wa : α → Prop} {wb : β → Prop} (ho : f.offset = off) (hs : P.cellsOf f.type = sz) (ha : Opens enc P W base spare held D f.type a wa)
  (hb : Qnv enc P W base spare held D fs (off + sz) b wb) : Qnv enc P W base spare held D (f :: fs) off (Cd.pair a b) (fun x => wa x.1 ∧ wb x.2) := by
 intro n cs xs hxl hx hw hl
 cases xs with
 | nil => simp at hxl
 | cons x xs =>
  simp only [List.length_cons, Nat.add_right_cancel_iff] at hxl
  simp only [List.map_cons, List.sum_cons, hs] at hl
  have h0 := hx 0 f rfl
  rw [ho, hs] at h0
  obtain ⟨u, h1, h2⟩ := ha n _ x h0 (hw 0 f x rfl rfl)
  obtain ⟨v, h3, h4⟩ := hb n cs xs hxl (fun i g hg => by simpa using hx (i + 1) g (by simpa using hg)) (fun i g y hg hy => hw (i + 1) g y (by simpa using hg) (by simpa using hy)) (by omega)
  refine ⟨(u, v), ⟨h1, h3⟩, ?_⟩
  show Wic D W (a.enc u ++ b.enc v) _
  rw [← List.take_append_drop sz (cs.drop off), List.drop_drop]
  exact h2.app h4
theorem Wyx {P : Program} : ∀ {ts : List TypeId} {ds : List (DataW H)} {i : Nat} {t : TypeId} {d : DataW H}, ts[i]? = some t → ds[i]? = some d → ∀ m ∈ d.weights P t, m ∈ DataW.weightsEach P ts ds := fun h h' m hm => DataW.weights_mem_each h h' m hm
theorem Qlv {t : TypeId} {fs : Array Field} {c : Cd U α} {wf : α → Prop} (ht : P.underlying t = some (.struct fs)) (hs : P.cellsOf t = (fs.toList.map fun f => P.cellsOf f.type).sum)
  (h : Qnv enc P W base spare held D fs.toList 0 c wf) : Opens enc P W base spare held D t c wf := by
 intro fuel cs x hx hw
 obtain ⟨xs, n, rfl, rfl, hl, hxl, hf⟩ := DataW.trod_struct ht hx
 obtain ⟨a, h1, h2⟩ := h n cs xs (by simpa using hxl) (fun i f hi => hf i f (by simpa using hi)) (fun i f y hi hy m hm => by
  refine hw m ?_
  simp only [DataW.weights, ht]
  exact Wyx (i := i) (t := f.type) (d := y.1) (by rw [List.getElem?_map, hi]; rfl) (by rw [List.getElem?_map, hy]; rfl) m hm) (by rw [hl, hs]; omega)
 exact ⟨a, h1, by simpa using h2⟩
theorem Wqc {P : Program} {e : TypeId} : ∀ {ds : List (DataW H)} {d : DataW H}, d ∈ ds → ∀ m ∈ d.weights P e, m ∈ DataW.weightsAll P e ds
 | d0 :: ds, d, hd, m, hm => by
  simp only [DataW.weightsAll, List.mem_append]
  rcases List.mem_cons.1 hd with rfl | hd
  ·exact .inl hm
  ·exact .inr (Wqc hd m hm)
theorem cell_spot {w : World} {a : Addr} {v : Value} (h : w.cell? a = some v) : a.spot = none ∧ a.block < w.heap.size := by
 unfold World.cell? at h
 split at h
 ·rename_i c x y hb
  refine ⟨?_, (Array.getElem?_eq_some_iff.1 hb).1⟩
  cases hs : a.spot with
  | none => rfl
  | some s => simp [hs] at h
 ·cases h
theorem Qbq {t e : TypeId} {cc : U.C} {q : DecidableEq U.C} {c : Cd U (U.El cc)} {wf : U.El cc → Prop} (ht : P.underlying t = some (.slice e)) (henc : ∀ x, D.enc cc x = c.enc x) {sz : Nat} (hD : D.size cc = sz) (hs : P.cellsOf e = sz) (hpos : 0 < sz)
  {by_ : Nat} (hby : P.bytesOf e = by_) (h : Opens enc P W base spare held D e c wf) :
  Opens enc P W base spare held D t (Cd.row q cc) (fun l => l.length ≤ maxLen ∧ l.length * by_ ≤ reachBytes ∧ ∀ z ∈ l, wf z) := by
 intro fuel cs x hx hw
 rcases DataW.trod_slice ht hx with ⟨rfl, rfl⟩ | ⟨a, len, cap, elems, rest, n, rfl, rfl, rfl, hb, hl, hm, hlen, hel, _, _⟩
 ·exact ⟨[], ⟨by simp, by simp, fun z hz => by simp at hz⟩, .one .Wdl⟩
 have hwt : len * by_ ≤ reachBytes := by
  have := hw (((elems.map (·.1)).length + (rest.map (·.1)).length) * P.bytesOf e) (by simp [DataW.weights, ht])
  rw [hby] at this
  simp only [List.length_map, hlen] at this
  exact Nat.le_trans (Nat.mul_le_mul_right _ (Nat.le_add_right _ _)) this
 have each : ∀ i, i < len → ∃ z cs', wf z ∧ W.cells? base (a.add (i * sz)) sz = some cs' ∧ Wic D W (c.enc z) cs' := by
  intro i hi
  have := hel i hi
  rw [hs] at this
  have hg : elems[i]? = some (elems[i]'(by omega)) := Z3 (by omega)
  rw [hg, Option.bind_eq_some_iff] at this
  obtain ⟨cs', h1, h2⟩ := this
  obtain ⟨z, h3, h4⟩ := h n cs' _ h2 (fun k hk => hw k (by
   simp only [DataW.weights, ht, List.mem_cons, List.mem_append]
   exact .inr (.inl (Wqc (List.mem_map_of_mem (List.mem_of_getElem? hg)) k hk))))
  exact ⟨z, cs', h3, h1, h4⟩
 by_cases h0 : len = 0
 ·subst h0
  exact ⟨[], ⟨by simp, by simp, fun z hz => by simp at hz⟩, .one .Wdl⟩
 have hlist : ∀ k, k ≤ len → ∃ l : List (U.El cc), l.length = k ∧ ∀ (i : Nat) (z : U.El cc), l[i]? = some z → wf z ∧ ∃ cs', W.cells? base (a.add (i * sz)) sz = some cs' ∧ Wic D W (c.enc z) cs' := by
  intro k
  induction k with
  | zero => exact fun _ => ⟨[], rfl, fun i z hz => by simp at hz⟩
  | succ k ih =>
   intro hk
   obtain ⟨l, h1, h2⟩ := ih (by omega)
   obtain ⟨z, cs', h3, h4, h5⟩ := each k (by omega)
   refine ⟨l ++ [z], by simp [h1], fun i y hy => ?_⟩
   by_cases hi : i < l.length
   ·rw [List.getElem?_append_left hi] at hy
    exact h2 i y hy
   ·rw [List.getElem?_append_right (by omega)] at hy
    have : i = k := by
     have := (List.getElem?_eq_some_iff.1 hy).1
     simp at this
     omega
    subst this
    rw [h1, Nat.sub_self] at hy
    simp at hy
    subst hy
    exact ⟨h3, cs', h4, h5⟩
 obtain ⟨l, hll, hl2⟩ := hlist len (Nat.le_refl _)
 have hcell : ∀ (i : Nat) (z : U.El cc), l[i]? = some z → ∀ (j : Nat) (v : AV U), (D.enc cc z)[j]? = some v → ∃ y, W.cell? ((a.add (i * sz)).add j) = some y ∧ VR D (rl0 W) v y := by
  intro i z hz j v hv
  obtain ⟨_, cs', h1, h2⟩ := hl2 i z hz
  obtain ⟨_, hcl, hc⟩ := World.cells?_some h1
  rw [henc] at hv
  have hj := (List.getElem?_eq_some_iff.1 hv).1
  have hj2 : j < cs'.length := by rw [← h2.1]; exact hj
  refine ⟨cs'[j], by rw [hc j (by omega)]; exact Z3 hj2, h2.2 j v _ hv (Z3 hj2)⟩
 have ha : a.spot = none ∧ a.block < W.heap.size := by
  obtain ⟨z, cs', _, h1, h2⟩ := each 0 (by omega)
  obtain ⟨_, hcl, hc⟩ := World.cells?_some h1
  have := hc 0 hpos
  rw [Z3 (by omega)] at this
  simp only [Nat.zero_mul, Addr.add, if_true] at this
  exact cell_spot this
 obtain ⟨B, o, sp⟩ := a
 obtain ⟨rfl, hB⟩ := ha
 refine ⟨l, ⟨by rw [hll]; omega, by rw [hll]; exact hwt, fun z hz => ?_⟩, .one ?_⟩
 ·obtain ⟨i, hi⟩ := List.getElem?_of_mem hz
  exact (hl2 i z hi).1
 rw [← hll]
 refine VR.row (D := D) (R := rl0 W) (c := cc) (l := l) (B := B) (o := o) (cap := cap) (fun i j => (W.cell? ⟨B, o + (i * sz + j), none⟩).getD Go.undef) hB (by omega) (fun i z hz j v hv => ?_) (fun i z hz j v hv => ?_)
 ·obtain ⟨y, h1, h2⟩ := hcell i z hz j v hv
  rw [Qnm, Qnm, Nat.add_assoc] at h1
  show W.cell? ⟨B, o + (i * D.size cc + j), none⟩ = _ ∧ _
  rw [hD, h1]
  exact ⟨rfl, fun h => h⟩
 ·obtain ⟨y, h1, h2⟩ := hcell i z hz j v hv
  rw [Qnm, Qnm, Nat.add_assoc] at h1
  rw [h1]
  exact h2
theorem opens_one {t : TypeId} {c : Cd U α} {wf : α → Prop} (h : Opens enc P W base spare held D t c wf) {v : Value} {d : DataW H} {ps : List MemPlace} (hv : v.cells = #[v])
  (ht : DataW.Trod enc P W base spare held t v d ps) (hw : ∀ n ∈ d.weights P t, n ≤ reachBytes) {f : α → AV U} (hc : ∀ a, c.enc a = [f a]) : ∃ a, wf a ∧ VR D (rl0 W) (f a) v := by
 obtain ⟨fuel, hf⟩ := ht
 obtain ⟨a, h1, h2⟩ := h fuel _ _ hf hw
 rw [hc, hv] at h2
 exact ⟨a, h1, h2.2 0 _ _ rfl rfl⟩
end Go.Ev
