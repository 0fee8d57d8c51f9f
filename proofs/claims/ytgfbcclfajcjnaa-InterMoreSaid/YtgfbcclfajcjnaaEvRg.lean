import Derived.Test.YtgfbcclfajcjnaaEvLaw
import Derived.RangeFuncGives
import Derived.RangeFuncBound
import Derived.Maps.AppendAt
import Derived.Sort.MapsRangeIn
import Derived.WalkKit
import Derived.OwnWalkIn
import Derived.TacticsInMore
import Derived.RegionIn
import Derived.LoopNIn
import Derived.LoopIn
universe u
namespace Go.Ev
set_option linter.unusedVariables false
set_option linter.unusedSimpArgs false
open Go.RowKit
open Go.ChangeMaps (setBlock)
open Go.MapKept (Stamped stamped_iff heap_set)
structure Rng (w : World) (b r : Nat) (es : Array MapEntry) (clock : Nat) (got : List MapEntry) : Prop where
  hb : w.heap[b]? = some (.map es clock)
  hr : ∃ seen c0, w.heap[r]? = some (.mapIter (some b) clock seen c0) ∧ clock ≤ c0 ∧ seen.toList = got.map (·.born)
  mem : ∀ x ∈ got, x ∈ es.toList
  nd : (got.map (·.born)).Nodup
  st : Stamped es clock
variable {P : Program} {w : World} {b r : Nat} {es : Array MapEntry} {clock : Nat} {got : List MapEntry}
theorem Rng.start {t k e : TypeId} (ht : P.underlying t = some (.map k e)) (hb : w.heap[b]? = some (.map es clock)) (st : Stamped es clock) :
    ∃ w', (Instr.range t (.map (some b))).run P w = .ok (.pointer (some ⟨w.heap.size, 0, none⟩)) w' ∧ Rng w' b w.heap.size es clock [] ∧ w.grownBy w' none ∧ w'.heap.size = w.heap.size + 1 := by
  have hlt : b < w.heap.size := (Array.getElem?_eq_some_iff.1 hb).1
  exact ⟨_, run_range_map w t k e b es clock ht hb, ⟨((MapKept.heap_alloc w _).2 b hlt).trans hb, ⟨#[], clock, (MapKept.heap_alloc w _).1, Nat.le_refl _, rfl⟩, by simp, by simp, st⟩, World.grownBy_alloc w _ none, by simp⟩
theorem Rng.lt (h : Rng w b r es clock got) : r < w.heap.size := by
  obtain ⟨seen, c0, hr, _⟩ := h.hr
  exact (Array.getElem?_eq_some_iff.1 hr).1
theorem Rng.walk (h : Rng w b r es clock got) : ∃ o : Go.Obj, w.heap[r]? = some o ∧ o.isWalk = true := by
  obtain ⟨seen, c0, hr, _⟩ := h.hr
  exact ⟨_, hr, rfl⟩
theorem Rng.of_walks {w' : World} (h : Rng w b r es clock got) (hk : KeepsWalks w w') : Rng w' b r es clock got := by
  obtain ⟨seen, c0, hr, h1, h2⟩ := h.hr
  exact ⟨hk.same b _ h.hb rfl, ⟨seen, c0, hk.same r _ hr rfl, h1, h2⟩, h.mem, h.nd, h.st⟩
theorem stamped_nodup (st : Stamped es clock) : (es.toList.map (·.born)).Nodup := ((stamped_iff es clock).1 st).2.1
theorem stamped_lt (st : Stamped es clock) : ∀ x ∈ es.toList, x.born < clock := ((stamped_iff es clock).1 st).1
theorem nodup_mem_eq {l : List MapEntry} (h : (l.map (·.born)).Nodup) {x y : MapEntry} (hx : x ∈ l) (hy : y ∈ l) (e : x.born = y.born) : x = y := by
  induction l with
  | nil => cases hx
  | cons a l ih =>
    rw [List.map_cons, List.nodup_cons] at h
    rcases List.mem_cons.1 hx with hx | hx <;> rcases List.mem_cons.1 hy with hy | hy
    · rw [hx, hy]
    · exact absurd (List.mem_map.2 ⟨y, hy, by rw [← hx]; exact e.symm⟩) h.1
    · exact absurd (List.mem_map.2 ⟨x, hx, by rw [← hy]; exact e⟩) h.1
    · exact ih h.2 hx hy
theorem nodup_of_map {α β : Type} (f : α → β) : ∀ {l : List α}, (l.map f).Nodup → l.Nodup
  | [], _ => List.nodup_nil
  | a :: l, h => by
    rw [List.map_cons, List.nodup_cons] at h
    exact List.nodup_cons.2 ⟨fun hm => h.1 (List.mem_map.2 ⟨a, hm, rfl⟩), nodup_of_map f h.2⟩
theorem nodup_len : ∀ (l m : List Nat), l.Nodup → (∀ x ∈ l, x ∈ m) → l.length ≤ m.length
  | [], m, _, _ => Nat.zero_le _
  | a :: l, m, h, hs => by
    rw [List.nodup_cons] at h
    have ha := hs a (by simp)
    have := nodup_len l (m.erase a) h.2 (fun x hx => (List.mem_erase_of_ne (fun e => h.1 (by rw [← e]; exact hx))).2 (hs x (by simp [hx])))
    rw [List.length_erase_of_mem ha] at this
    have h0 : 0 < m.length := List.length_pos_of_mem ha
    simp
    omega
theorem Rng.left (h : Rng w b r es clock got) : ∃ seen, w.rangeLeft b r = (leftOf es seen).size ∧ seen.toList = got.map (·.born) := by
  obtain ⟨seen, c0, hr, h1, h2⟩ := h.hr
  exact ⟨seen, by simp only [World.rangeLeft, h.hb, hr], h2⟩
theorem Rng.same {w' : World} (h : Rng w b r es clock got) (h' : Rng w' b r es clock got) : w.rangeLeft b r = w'.rangeLeft b r := by
  obtain ⟨s, e1, e2⟩ := h.left
  obtain ⟨s', e1', e2'⟩ := h'.left
  rw [e1, e1', Array.toList_inj.1 (e2.trans e2'.symm)]
theorem Rng.len (h : Rng w b r es clock got) : got.length ≤ es.size := by
  have := nodup_len _ (es.toList.map (·.born)) h.nd (fun x hx => by
    obtain ⟨y, hy, e⟩ := List.mem_map.1 hx
    exact List.mem_map.2 ⟨y, h.mem y hy, e⟩)
  simpa using this
theorem perm_of_map {α β : Type} {f : α → β} (hf : ∀ x y, f x = f y → x = y) : ∀ {l m : List α}, (l.map f).Perm (m.map f) → l.Perm m := by
  intro l
  induction l with
  | nil =>
    intro m h
    have := h.length_eq
    simp at this
    rw [List.eq_nil_of_length_eq_zero this.symm]
  | cons a l ih =>
    intro m h
    have hm : f a ∈ m.map f := h.mem_iff.1 (by simp)
    obtain ⟨b, hb, e⟩ := List.mem_map.1 hm
    have e := hf _ _ e
    subst e
    obtain ⟨s, t, rfl⟩ := List.append_of_mem hb
    have h1 : ((s ++ b :: t).map f).Perm (f b :: (s ++ t).map f) := by simp [List.perm_middle]
    have h2 := (h.trans h1)
    rw [List.map_cons, List.perm_cons] at h2
    exact (List.Perm.cons b (ih h2)).trans List.perm_middle.symm
theorem Rng.next (h : Rng w b r es clock got) (ty : TypeId) :
    (got.Perm es.toList ∧ (Instr.next (.pointer (some ⟨r, 0, none⟩)) false ty).run P w = .ok (.tuple #[.bool false]) w) ∨
    ∃ e w', e ∈ es.toList ∧ got.length < es.size ∧ (Instr.next (.pointer (some ⟨r, 0, none⟩)) false ty).run P w = .ok (.tuple #[.bool true, e.key, e.val]) w' ∧ Rng w' b r es clock (got ++ [e]) ∧ w'.rangeLeft b r < w.rangeLeft b r ∧
      w.grownBy w' (some r) ∧ w'.heap.size = w.heap.size ∧ (Instr.entry (.pointer (some ⟨r, 0, none⟩))).run P w' = .ok (.tuple #[e.key, e.val]) w' := by
  obtain ⟨seen, c0, hr, hc, hs⟩ := h.hr
  have hne : r ≠ b := by
    intro e
    rw [e, h.hb] at hr
    cases hr
  have hseen : ∀ x : MapEntry, seen.contains x.born = true ↔ x.born ∈ got.map (·.born) := fun x => by
    rw [← hs, Array.contains_iff_mem]
    simp
  rcases run_next_at (P := P) w ty r b clock c0 seen es clock hr h.hb (stamped_lt h.st) hc with ⟨h0, hrun⟩ | ⟨e, he, w1, hal, hrun⟩
  · refine .inl ⟨?_, hrun⟩
    refine (List.perm_ext_iff_of_nodup (nodup_of_map _ h.nd) (nodup_of_map _ (stamped_nodup h.st))).2 fun x => ⟨h.mem x, fun hx => ?_⟩
    have := all_seen es seen h0 x hx
    obtain ⟨y, hy, e⟩ := List.mem_map.1 ((hseen x).1 this)
    rw [← nodup_mem_eq (stamped_nodup h.st) (h.mem y hy) hx e]
    exact hy
  · obtain ⟨hem, hes⟩ := mem_left he
    have hr1 : w1.heap[r]? = some (.mapIter (some b) clock seen c0) := by rcases hal with rfl | rfl <;> exact hr
    have hb1 : w1.heap[b]? = some (.map es clock) := by rcases hal with rfl | rfl <;> exact h.hb
    have hset := heap_set (o' := .mapIter (some b) clock (seen.push e.born) clock) hr1
    have hb' : (setBlock w1 r (.mapIter (some b) clock (seen.push e.born) clock)).heap[b]? = some (.map es clock) := (hset.2 b (fun e1 => hne e1.symm)).trans hb1
    have hni : e.born ∉ got.map (·.born) := fun hm => by
      have := (hseen e).2 hm
      rw [hes] at this
      cases this
    have hR : Rng (setBlock w1 r (.mapIter (some b) clock (seen.push e.born) clock)) b r es clock (got ++ [e]) := by
      refine ⟨hb', ⟨_, clock, hset.1, Nat.le_refl _, by simp [hs]⟩, fun x hx => ?_, ?_, h.st⟩
      · rcases List.mem_append.1 hx with hx | hx
        · exact h.mem x hx
        · simp only [List.mem_cons, List.not_mem_nil, or_false] at hx
          subst hx
          exact hem
      · rw [List.map_append, List.nodup_append]
        refine ⟨h.nd, by simp, fun a ha c hc' e1 => ?_⟩
        simp only [List.map_cons, List.map_nil, List.mem_cons, List.not_mem_nil, or_false] at hc'
        exact hni (hc' ▸ e1 ▸ ha)
    refine .inr ⟨e, _, hem, ?_, hrun, hR, ?_, ?_, ?_, run_entry_at _ r b clock seen es clock e hset.1 hb' hem (stamped_nodup h.st)⟩
    · have := hR.len
      simp at this
      omega
    · have h1 : w.rangeLeft b r = (leftOf es seen).size := by simp only [World.rangeLeft, h.hb, hr]
      have h2 : (setBlock w1 r (.mapIter (some b) clock (seen.push e.born) clock)).rangeLeft b r = (leftOf es (seen.push e.born)).size := by
        have hr' : (setBlock w1 r (.mapIter (some b) clock (seen.push e.born) clock)).heap[r]? = some (.mapIter (some b) clock (seen.push e.born) clock) := hset.1
        simp only [World.rangeLeft, hb', hr']
      rw [h1, h2]
      exact left_shrinks es seen e he
    · rcases hal with rfl | rfl <;> exact ⟨rfl, rfl, rfl, by simp [setBlock], fun i _ hi => hset.2 i (fun e1 => hi (by rw [e1]))⟩
    · rcases hal with rfl | rfl <;> simp [setBlock]
section
variable {F : Fence} {n : Nat} {ops : Array Oper} {rest : List Oper} {o : Oper} {a : Act} {Q : Exit → Act → World → Prop}
theorem wpListIn_range_raw (hg : o.guard = none) (m : Operand) (t : TypeId) (hop : o.op = Op.range t m) (k e : TypeId) (ht : P.underlying t = some (.map k e)) (b : Nat)
    (hm : a.eval m = .map (some b)) (hb : w.heap[b]? = some (.map es clock)) (st : Stamped es clock)
    (hK : ∀ w', Rng w' b w.heap.size es clock [] → w.grownBy w' none → w'.heap.size = w.heap.size + 1 → wpListIn F n P ops Q rest (a.put o.dst (.pointer (some ⟨w.heap.size, 0, none⟩))) w') :
    wpListIn F n P ops Q (o :: rest) a w := by
  refine wpListIn_plain hg fun K' hK' => ?_
  obtain ⟨w', hrun, r1, r2, r3⟩ := Rng.start (P := P) ht hb st
  unfold Oper.wpIn
  refine ⟨?_, ?_⟩
  · simp [Oper.about, hop]
  · rw [Oper.semAt_plain F _ _ (by rw [hop]; intro c hc'; cases hc')]
    simp [execOp, hop, hm, hrun, Result.andThen]
    exact hK' _ _ (hK w' r1 r2 r3)
theorem wpListIn_next_raw (hg : o.guard = none) (it : Operand) (hop : o.op = Op.next it false) (b r : Nat) (hit : a.eval it = .pointer (some ⟨r, 0, none⟩)) (h : Rng w b r es clock got)
    (hDone : got.Perm es.toList → wpListIn F n P ops Q rest (a.put o.dst (.tuple #[.bool false])) w)
    (hMore : ∀ (e : MapEntry) (w' : World), e ∈ es.toList → got.length < es.size → Rng w' b r es clock (got ++ [e]) → w'.rangeLeft b r < w.rangeLeft b r → w.grownBy w' (some r) → w'.heap.size = w.heap.size →
      (Instr.entry (.pointer (some ⟨r, 0, none⟩))).run P w' = .ok (.tuple #[e.key, e.val]) w' → wpListIn F n P ops Q rest (a.put o.dst (.tuple #[.bool true, e.key, e.val])) w') :
    wpListIn F n P ops Q (o :: rest) a w := by
  refine wpListIn_plain hg fun K' hK' => ?_
  unfold Oper.wpIn
  refine ⟨by simp [Oper.about, hop], ?_⟩
  rw [Oper.semAt_plain F _ _ (by rw [hop]; intro c hc'; cases hc')]
  rcases h.next (P := P) o.type with ⟨h0, hrun⟩ | ⟨e, w', h1, h2, hrun, h3, h4, h5, h6, h7⟩
  · simp [execOp, hop, hit, hrun, Result.andThen]
    exact hK' _ _ (hDone h0)
  · simp [execOp, hop, hit, hrun, Result.andThen]
    exact hK' _ _ (hMore e w' h1 h2 h3 h4 h5 h6 h7)
end
end Go.Ev
