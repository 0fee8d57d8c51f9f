import Derived.Test.YtgfbcclfajcjnaaEvLaw
import Derived.ChangeArms
import Derived.OpenShut
import Derived.SizedLaws
import Derived.ChangeShapes
import Derived.WideShapes
universe u
namespace Go.Ev
set_option linter.unusedVariables false
set_option linter.unusedSimpArgs false
open Go.ChangeShapes Go.WideShapes
variable {U : Univ} {H : Type} {enc : TypeId × Value → H} {P : Program} {W : World} {base : Nat} {spare : Nat → Bool} {held : Bool} {D : Codec U} {α β : Type}
def CellsR (D : Codec U) (W : World) (as : List (AV U)) (cs : List Value) : Prop :=
  as.length = cs.length ∧ ∀ (i : Nat) (a : AV U) (v : Value), as[i]? = some a → cs[i]? = some v → VR D (rl0 W) a v
theorem CellsR.one {a : AV U} {v : Value} (h : VR D (rl0 W) a v) : CellsR D W [a] [v] := by
  refine ⟨rfl, fun i b w hb hw => ?_⟩
  cases i with
  | zero => simp at hb hw; subst hb; subst hw; exact h
  | succ i => simp at hb
theorem CellsR.nil : CellsR D W ([] : List (AV U)) [] := ⟨rfl, fun i b w hb _ => by simp at hb⟩
theorem CellsR.app {as bs : List (AV U)} {cs ds : List Value} (h : CellsR D W as cs) (h' : CellsR D W bs ds) : CellsR D W (as ++ bs) (cs ++ ds) := by
  refine ⟨by simp [h.1, h'.1], fun i a v ha hv => ?_⟩
  by_cases hi : i < as.length
  · rw [List.getElem?_append_left hi] at ha
    rw [List.getElem?_append_left (by rw [← h.1]; exact hi)] at hv
    exact h.2 i a v ha hv
  · rw [List.getElem?_append_right (by omega)] at ha
    rw [List.getElem?_append_right (by rw [← h.1]; omega), ← h.1] at hv
    exact h'.2 _ a v ha hv
def Opens (enc : TypeId × Value → H) (P : Program) (W : World) (base : Nat) (spare : Nat → Bool) (held : Bool) (D : Codec U) (t : TypeId) (c : Cd U α) (wf : α → Prop) : Prop :=
  ∀ (fuel : Nat) (cs : List Value) (x : DataW H × List MemPlace), DataW.trod enc P W base spare held fuel t cs = some x → (∀ n ∈ x.1.weights P t, n ≤ reachBytes) → ∃ a, wf a ∧ CellsR D W (c.enc a) cs
theorem opens_int {t : TypeId} {k : IntKind} (ht : P.underlying t = some (.int k)) : Opens enc P W base spare held D t (Cd.int k) (fun n => (Lit.int k n).wf = true) := by
  intro fuel cs x h _
  obtain ⟨n, rfl, rfl, hw⟩ := DataW.trod_int ht h
  exact ⟨n, hw, .one (.flat _)⟩
theorem weightsAll_mem {P : Program} {e : TypeId} : ∀ {ds : List (DataW H)} {d : DataW H}, d ∈ ds → ∀ m ∈ d.weights P e, m ∈ DataW.weightsAll P e ds
  | d0 :: ds, d, hd, m, hm => by
    simp only [DataW.weightsAll, List.mem_append]
    rcases List.mem_cons.1 hd with rfl | hd
    · exact .inl hm
    · exact .inr (weightsAll_mem hd m hm)
theorem cell_spot {w : World} {a : Addr} {v : Value} (h : w.cell? a = some v) : a.spot = none ∧ a.block < w.heap.size := by
  unfold World.cell? at h
  split at h
  · rename_i c x y hb
    refine ⟨?_, (Array.getElem?_eq_some_iff.1 hb).1⟩
    cases hs : a.spot with
    | none => rfl
    | some s => simp [hs] at h
  · cases h
theorem opens_slice {t e : TypeId} {cc : U.C} {q : DecidableEq U.C} {c : Cd U (U.El cc)} {wf : U.El cc → Prop} (ht : P.underlying t = some (.slice e)) (henc : ∀ x, D.enc cc x = c.enc x) {sz : Nat} (hD : D.size cc = sz) (hs : P.cellsOf e = sz) (hpos : 0 < sz)
    {by_ : Nat} (hby : P.bytesOf e = by_) (h : Opens enc P W base spare held D e c wf) :
    Opens enc P W base spare held D t (Cd.row q cc) (fun l => l.length ≤ maxLen ∧ l.length * by_ ≤ reachBytes ∧ ∀ z ∈ l, wf z) := by
  intro fuel cs x hx hw
  rcases DataW.trod_slice ht hx with ⟨rfl, rfl⟩ | ⟨a, len, cap, elems, rest, n, rfl, rfl, rfl, hb, hl, hm, hlen, hel, _, _⟩
  · exact ⟨[], ⟨by simp, by simp, fun z hz => by simp at hz⟩, .one .rownil⟩
  have hwt : len * by_ ≤ reachBytes := by
    have := hw (((elems.map (·.1)).length + (rest.map (·.1)).length) * P.bytesOf e) (by simp [DataW.weights, ht])
    rw [hby] at this
    simp only [List.length_map, hlen] at this
    exact Nat.le_trans (Nat.mul_le_mul_right _ (Nat.le_add_right _ _)) this
  have each : ∀ i, i < len → ∃ z cs', wf z ∧ W.cells? base (a.add (i * sz)) sz = some cs' ∧ CellsR D W (c.enc z) cs' := by
    intro i hi
    have := hel i hi
    rw [hs] at this
    have hg : elems[i]? = some (elems[i]'(by omega)) := List.getElem?_eq_getElem (by omega)
    rw [hg, Option.bind_eq_some_iff] at this
    obtain ⟨cs', h1, h2⟩ := this
    obtain ⟨z, h3, h4⟩ := h n cs' _ h2 (fun k hk => hw k (by
      simp only [DataW.weights, ht, List.mem_cons, List.mem_append]
      exact .inr (.inl (weightsAll_mem (List.mem_map_of_mem (List.mem_of_getElem? hg)) k hk))))
    exact ⟨z, cs', h3, h1, h4⟩
  by_cases h0 : len = 0
  · subst h0
    exact ⟨[], ⟨by simp, by simp, fun z hz => by simp at hz⟩, .one .rownil⟩
  have hlist : ∀ k, k ≤ len → ∃ l : List (U.El cc), l.length = k ∧ ∀ (i : Nat) (z : U.El cc), l[i]? = some z → wf z ∧ ∃ cs', W.cells? base (a.add (i * sz)) sz = some cs' ∧ CellsR D W (c.enc z) cs' := by
    intro k
    induction k with
    | zero => exact fun _ => ⟨[], rfl, fun i z hz => by simp at hz⟩
    | succ k ih =>
      intro hk
      obtain ⟨l, h1, h2⟩ := ih (by omega)
      obtain ⟨z, cs', h3, h4, h5⟩ := each k (by omega)
      refine ⟨l ++ [z], by simp [h1], fun i y hy => ?_⟩
      by_cases hi : i < l.length
      · rw [List.getElem?_append_left hi] at hy
        exact h2 i y hy
      · rw [List.getElem?_append_right (by omega)] at hy
        have : i = k := by
          have := (List.getElem?_eq_some_iff.1 hy).1
          simp at this
          omega
        subst this
        rw [h1, Nat.sub_self] at hy
        simp at hy
        subst hy
        exact ⟨h3, cs', h4, h5⟩
  obtain ⟨l, hll, hl2⟩ := hlist len (Nat.le_refl _)
  have hcell : ∀ (i : Nat) (z : U.El cc), l[i]? = some z → ∀ (j : Nat) (v : AV U), (D.enc cc z)[j]? = some v → ∃ y, W.cell? ((a.add (i * sz)).add j) = some y ∧ VR D (rl0 W) v y := by
    intro i z hz j v hv
    obtain ⟨_, cs', h1, h2⟩ := hl2 i z hz
    obtain ⟨_, hcl, hc⟩ := World.cells?_some h1
    rw [henc] at hv
    have hj := (List.getElem?_eq_some_iff.1 hv).1
    have hj2 : j < cs'.length := by rw [← h2.1]; exact hj
    refine ⟨cs'[j], by rw [hc j (by omega)]; exact List.getElem?_eq_getElem hj2, h2.2 j v _ hv (List.getElem?_eq_getElem hj2)⟩
  have ha : a.spot = none ∧ a.block < W.heap.size := by
    obtain ⟨z, cs', _, h1, h2⟩ := each 0 (by omega)
    obtain ⟨_, hcl, hc⟩ := World.cells?_some h1
    have := hc 0 hpos
    rw [List.getElem?_eq_getElem (by omega)] at this
    simp only [Nat.zero_mul, Addr.add, if_true] at this
    exact cell_spot this
  obtain ⟨B, o, sp⟩ := a
  obtain ⟨rfl, hB⟩ := ha
  refine ⟨l, ⟨by rw [hll]; omega, by rw [hll]; exact hwt, fun z hz => ?_⟩, .one ?_⟩
  · obtain ⟨i, hi⟩ := List.getElem?_of_mem hz
    exact (hl2 i z hi).1
  rw [← hll]
  refine VR.row (D := D) (R := rl0 W) (c := cc) (l := l) (B := B) (o := o) (cap := cap) (fun i j => (W.cell? ⟨B, o + (i * sz + j), none⟩).getD Go.undef) hB (by omega) (fun i z hz j v hv => ?_) (fun i z hz j v hv => ?_)
  · obtain ⟨y, h1, h2⟩ := hcell i z hz j v hv
    rw [add_mk, add_mk, Nat.add_assoc] at h1
    show W.cell? ⟨B, o + (i * D.size cc + j), none⟩ = _ ∧ _
    rw [hD, h1]
    exact ⟨rfl, fun h => h⟩
  · obtain ⟨y, h1, h2⟩ := hcell i z hz j v hv
    rw [add_mk, add_mk, Nat.add_assoc] at h1
    rw [h1]
    exact h2
theorem opens_one {t : TypeId} {c : Cd U α} {wf : α → Prop} (h : Opens enc P W base spare held D t c wf) {v : Value} {d : DataW H} {ps : List MemPlace} (hv : v.cells = #[v])
    (ht : DataW.Trod enc P W base spare held t v d ps) (hw : ∀ n ∈ d.weights P t, n ≤ reachBytes) {f : α → AV U} (hc : ∀ a, c.enc a = [f a]) : ∃ a, wf a ∧ VR D (rl0 W) (f a) v := by
  obtain ⟨fuel, hf⟩ := ht
  obtain ⟨a, h1, h2⟩ := h fuel _ _ hf hw
  rw [hc, hv] at h2
  exact ⟨a, h1, h2.2 0 _ _ rfl rfl⟩
end Go.Ev
