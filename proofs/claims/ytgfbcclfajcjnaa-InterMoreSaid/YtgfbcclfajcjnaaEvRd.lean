import Derived.Test.YtgfbcclfajcjnaaEvRg
universe u
namespace Go.Ev
set_option linter.unusedVariables false
set_option linter.unusedSimpArgs false
open Go.RowKit
open Go.ChangeMaps (setBlock)
open Go.MapKept (Stamped stamped_iff heap_set)
def lives (pd : MapEntry → Bool) (sk : List MapEntry) (e : MapEntry) : Bool := !(pd e && sk.any fun x => x.born == e.born)
structure Rdg (w : World) (b r : Nat) (es0 : Array MapEntry) (clock : Nat) (pd : MapEntry → Bool) (got sk : List MapEntry) : Prop where
  hb : ∃ es : Array MapEntry, w.heap[b]? = some (.map es clock) ∧ es.toList = es0.toList.filter (lives pd sk)
  hr : ∃ seen c0, w.heap[r]? = some (.mapIter (some b) clock seen c0) ∧ clock ≤ c0 ∧ seen.toList = got.map (·.born)
  mem : ∀ x ∈ got, x ∈ es0.toList
  nd : (got.map (·.born)).Nodup
  sub : ∀ x ∈ sk, x ∈ got
  sg : Stamped es0 clock
  ne : r ≠ b
variable {P : Program} {w : World} {b r : Nat} {es0 : Array MapEntry} {clock : Nat} {pd : MapEntry → Bool} {got sk : List MapEntry}
theorem Rdg.start {t k e : TypeId} (ht : P.underlying t = some (.map k e)) (hb : w.heap[b]? = some (.map es0 clock)) (st : Stamped es0 clock) (pd : MapEntry → Bool) :
    ∃ w', (Instr.range t (.map (some b))).run P w = .ok (.pointer (some ⟨w.heap.size, 0, none⟩)) w' ∧ Rdg w' b w.heap.size es0 clock pd [] [] ∧ w.grownBy w' none ∧ w'.heap.size = w.heap.size + 1 := by
  have hlt : b < w.heap.size := (Array.getElem?_eq_some_iff.1 hb).1
  refine ⟨_, run_range_map w t k e b es0 clock ht hb, ⟨⟨es0, ((MapKept.heap_alloc w _).2 b hlt).trans hb, ?_⟩, ⟨#[], clock, (MapKept.heap_alloc w _).1, Nat.le_refl _, rfl⟩, by simp, by simp, by simp, st, by omega⟩, World.grownBy_alloc w _ none, by simp⟩
  symm
  rw [List.filter_eq_self]
  intro e _
  simp [lives]
theorem Rdg.lt (h : Rdg w b r es0 clock pd got sk) : r < w.heap.size := by
  obtain ⟨seen, c0, hr, _⟩ := h.hr
  exact (Array.getElem?_eq_some_iff.1 hr).1
theorem Rdg.blt (h : Rdg w b r es0 clock pd got sk) : b < w.heap.size := by
  obtain ⟨es, hb, _⟩ := h.hb
  exact (Array.getElem?_eq_some_iff.1 hb).1
theorem any_born {l : List MapEntry} {e : MapEntry} : (l.any fun x => x.born == e.born) = true ↔ e.born ∈ l.map (·.born) := by
  simp [List.any_eq_true, List.mem_map]
def toCome (es0 : Array MapEntry) (got : List MapEntry) : Nat := (es0.toList.filter fun e => !(got.any fun x => x.born == e.born)).length
theorem left_list {es : Array MapEntry} {seen : Array Nat} (hes : es.toList = es0.toList.filter (lives pd sk)) (hseen : seen.toList = got.map (·.born)) (hsub : ∀ x ∈ sk, x ∈ got) :
    (leftOf es seen).toList = es0.toList.filter fun e => !(got.any fun x => x.born == e.born) := by
  unfold leftOf
  rw [Array.toList_filter, hes, List.filter_filter]
  refine List.filter_congr fun e _ => ?_
  have h1 : seen.contains e.born = got.any fun x => x.born == e.born := by
    rw [Bool.eq_iff_iff, any_born, ← hseen, Array.contains_iff_mem]
    simp
  rw [h1]
  cases hg : got.any fun x => x.born == e.born with
  | true => simp
  | false =>
    have : (sk.any fun x => x.born == e.born) = false := by
      rw [← Bool.not_eq_true, List.any_eq_true]
      rintro ⟨x, hx, hxe⟩
      have : (got.any fun x => x.born == e.born) = true := List.any_eq_true.2 ⟨x, hsub x hx, hxe⟩
      rw [hg] at this; cases this
    simp [lives, this]
theorem Rdg.left (h : Rdg w b r es0 clock pd got sk) : w.rangeLeft b r = toCome es0 got := by
  obtain ⟨seen, c0, hr, _, h2⟩ := h.hr
  obtain ⟨es, hb, h3⟩ := h.hb
  have : w.rangeLeft b r = (leftOf es seen).size := by simp only [World.rangeLeft, hb, hr]
  rw [this, ← Array.length_toList, left_list h3 h2 h.sub]
  rfl
theorem filter_len_lt {α : Type} {p q : α → Bool} : ∀ {l : List α}, (∀ x ∈ l, q x = true → p x = true) → (∃ x ∈ l, p x = true ∧ q x = false) → (l.filter q).length < (l.filter p).length
  | [], _, ⟨x, hx, _⟩ => by cases hx
  | a :: l, h, ⟨x, hx, hp, hq⟩ => by
    have hle : (l.filter q).length ≤ (l.filter p).length := by
      have : l.filter q = (l.filter p).filter q := by
        rw [List.filter_filter]
        refine List.filter_congr fun y hy => ?_
        cases hqy : q y with
        | true => rw [h y (by simp [hy]) hqy]; rfl
        | false => simp
      rw [this]
      exact List.length_filter_le _ _
    rcases List.mem_cons.1 hx with rfl | hx
    · rw [List.filter_cons_of_pos hp, List.filter_cons_of_neg (by simp [hq])]
      simp only [List.length_cons]
      omega
    · have ih := filter_len_lt (fun y hy => h y (by simp [hy])) ⟨x, hx, hp, hq⟩
      by_cases hqa : q a = true
      · rw [List.filter_cons_of_pos hqa, List.filter_cons_of_pos (h a (by simp) hqa)]
        simpa using ih
      · rw [List.filter_cons_of_neg hqa]
        by_cases hpa : p a = true
        · rw [List.filter_cons_of_pos hpa]
          simp only [List.length_cons]
          omega
        · rw [List.filter_cons_of_neg hpa]
          exact ih
theorem Rdg.next (h : Rdg w b r es0 clock pd got got) (ty : TypeId) :
    ((∃ es : Array MapEntry, w.heap[b]? = some (.map es clock) ∧ es.toList = es0.toList.filter fun e => !pd e) ∧ (Instr.next (.pointer (some ⟨r, 0, none⟩)) false ty).run P w = .ok (.tuple #[.bool false]) w) ∨
    ∃ e w', e ∈ es0.toList ∧ (Instr.next (.pointer (some ⟨r, 0, none⟩)) false ty).run P w = .ok (.tuple #[.bool true, e.key, e.val]) w' ∧ Rdg w' b r es0 clock pd (got ++ [e]) got ∧ toCome es0 (got ++ [e]) < toCome es0 got ∧
      w.grownBy w' (some r) ∧ w'.heap.size = w.heap.size ∧ (Instr.entry (.pointer (some ⟨r, 0, none⟩))).run P w' = .ok (.tuple #[e.key, e.val]) w' := by
  obtain ⟨seen, c0, hr, hc, hs⟩ := h.hr
  obtain ⟨es, hb, hes⟩ := h.hb
  have hne := h.ne
  have hsubl : es.toList.Sublist es0.toList := by rw [hes]; exact List.filter_sublist
  have hlt : ∀ x ∈ es.toList, x.born < clock := fun x hx => stamped_lt h.sg x (hsubl.subset hx)
  have hll := left_list hes hs (fun x hx => hx)
  rcases run_next_at (P := P) w ty r b clock c0 seen es clock hr hb hlt hc with ⟨h0, hrun⟩ | ⟨e, he, w1, hal, hrun⟩
  · refine .inl ⟨⟨es, hb, ?_⟩, hrun⟩
    rw [hes]
    refine List.filter_congr fun e he => ?_
    have : (leftOf es seen).toList = [] := by
      rw [← Array.length_toList] at h0
      exact List.eq_nil_of_length_eq_zero h0
    rw [hll, List.filter_eq_nil_iff] at this
    have := this e he
    simp only [Bool.not_eq_true', Bool.not_eq_false] at this
    unfold lives
    rw [this, Bool.and_true]
  · rw [hll, List.mem_filter] at he
    obtain ⟨he0, hni⟩ := he
    have hni : (got.any fun x => x.born == e.born) = false := by simpa using hni
    have hni' : e.born ∉ got.map (·.born) := fun hm => by rw [any_born.2 hm] at hni; cases hni
    have hlive : lives pd got e = true := by simp [lives, hni]
    have hees : e ∈ es.toList := by rw [hes]; exact List.mem_filter.2 ⟨he0, hlive⟩
    have hr1 : w1.heap[r]? = some (.mapIter (some b) clock seen c0) := by rcases hal with rfl | rfl <;> exact hr
    have hb1 : w1.heap[b]? = some (.map es clock) := by rcases hal with rfl | rfl <;> exact hb
    have hset := heap_set (o' := .mapIter (some b) clock (seen.push e.born) clock) hr1
    have hb' : (setBlock w1 r (.mapIter (some b) clock (seen.push e.born) clock)).heap[b]? = some (.map es clock) := (hset.2 b (fun e1 => hne e1.symm)).trans hb1
    have hnd : (es.toList.map (·.born)).Nodup := (hsubl.map _).nodup (stamped_nodup h.sg)
    refine .inr ⟨e, _, he0, hrun, ⟨⟨es, hb', hes⟩, ⟨_, clock, hset.1, Nat.le_refl _, by simp [hs]⟩, fun x hx => ?_, ?_, fun x hx => by simp [hx], h.sg, hne⟩, ?_, ?_, ?_, run_entry_at _ r b clock seen es clock e hset.1 hb' hees hnd⟩
    · rcases List.mem_append.1 hx with hx | hx
      · exact h.mem x hx
      · simp only [List.mem_cons, List.not_mem_nil, or_false] at hx
        subst hx
        exact he0
    · rw [List.map_append, List.nodup_append]
      refine ⟨h.nd, by simp, fun a ha c hc' e1 => ?_⟩
      simp only [List.map_cons, List.map_nil, List.mem_cons, List.not_mem_nil, or_false] at hc'
      exact hni' (hc' ▸ e1 ▸ ha)
    · refine filter_len_lt (fun x _ hx => ?_) ⟨e, he0, by simp [hni], by simp⟩
      simp only [List.any_append, Bool.not_eq_true', Bool.or_eq_false_iff] at hx
      simp [hx.1]
    · rcases hal with rfl | rfl <;> exact ⟨rfl, rfl, rfl, by simp [setBlock], fun i _ hi => hset.2 i (fun e1 => hi (by rw [e1]))⟩
    · rcases hal with rfl | rfl <;> simp [setBlock]
theorem Rdg.stay {e : MapEntry} (h : Rdg w b r es0 clock pd (got ++ [e]) got) (he : e ∈ es0.toList) (hp : pd e = false) : Rdg w b r es0 clock pd (got ++ [e]) (got ++ [e]) := by
  obtain ⟨es, hb, hes⟩ := h.hb
  refine ⟨⟨es, hb, ?_⟩, h.hr, h.mem, h.nd, fun x hx => hx, h.sg, h.ne⟩
  rw [hes]
  refine List.filter_congr fun x hx => ?_
  unfold lives
  rw [List.any_append]
  by_cases hxe : x.born = e.born
  · have := nodup_mem_eq (stamped_nodup h.sg) hx he hxe
    subst this
    rw [hp]
    rfl
  · have : ([e].any fun y => y.born == x.born) = false := by
      simp
      exact fun e1 => hxe e1.symm
    rw [this, Bool.or_false]
section
variable {ops : Array Oper} {rest : List Oper} {o : Oper} {a : Act} {Q : Exit → Act → World → Prop}
structure GoneD (w : World) (b : Nat) (es0 : Array MapEntry) (clock : Nat) (pd : MapEntry → Bool) : Prop where
  out : ∃ es : Array MapEntry, w.heap[b]? = some (.map es clock) ∧ es.toList = es0.toList.filter fun e => !pd e
structure CameD (P : Program) (w w' : World) (b r : Nat) (es0 : Array MapEntry) (clock : Nat) (pd : MapEntry → Bool) (got : List MapEntry) (e : MapEntry) : Prop where
  mem : e ∈ es0.toList
  rdg : Rdg w' b r es0 clock pd (got ++ [e]) got
  lt : toCome es0 (got ++ [e]) < toCome es0 got
  grown : w.grownBy w' (some r)
  size : w'.heap.size = w.heap.size
structure CameR (P : Program) (w w' : World) (b r : Nat) (es : Array MapEntry) (clock : Nat) (got : List MapEntry) (e : MapEntry) : Prop where
  mem : e ∈ es.toList
  rng : Rng w' b r es clock (got ++ [e])
  lt : w'.rangeLeft b r < w.rangeLeft b r
  grown : w.grownBy w' (some r)
  size : w'.heap.size = w.heap.size
theorem wpList_next_raw {es : Array MapEntry} (hg : o.guard = none) (it : Operand) (hop : o.op = Op.next it false) (b r : Nat) (hit : a.eval it = .pointer (some ⟨r, 0, none⟩)) (h : Rng w b r es clock got)
    (hDone : got.Perm es.toList → wpList P ops Q rest (a.put o.dst (.tuple #[.bool false])) w)
    (hMore : ∀ (k v : Value) (bo : Nat) (w' : World), CameR P w w' b r es clock got ⟨k, v, bo⟩ →
      (Instr.entry (.pointer (some ⟨r, 0, none⟩))).run P w' = .ok (.tuple #[k, v]) w' → wpList P ops Q rest (a.put o.dst (.tuple #[.bool true, k, v])) w') :
    wpList P ops Q (o :: rest) a w := by
  refine wpList_plain hg fun K' hK' => ?_
  unfold Oper.wp
  rcases h.next (P := P) o.type with ⟨h0, hrun⟩ | ⟨⟨k, v, bo⟩, w', h1, h2, hrun, h3, h4, h5, h6, h7⟩
  · simp [execOp, hop, hit, hrun, Result.andThen]
    exact hK' _ _ (hDone h0)
  · simp [execOp, hop, hit, hrun, Result.andThen]
    exact hK' _ _ (hMore k v bo w' ⟨h1, h3, h4, h5, h6⟩ h7)
end
end Go.Ev
