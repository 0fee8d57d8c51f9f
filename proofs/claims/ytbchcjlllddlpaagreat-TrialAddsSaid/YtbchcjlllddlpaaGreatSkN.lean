import Derived.Test.YtbchcjlllddlpaaGreatSkM
/-! Two maps held against one another, by the library. -/
namespace Go.Proofs.YtbchcjlllddlpaaGreat
open Go Go.Ev Go.RowKit Go.Maps
set_option linter.unusedVariables false
set_option linter.unusedSimpArgs false
/-- Is it so at an entry? -/
def okAt (fnd : MapEntry → Option (Nat × Value)) (ve : Value → Value → Bool) (e : MapEntry) : Bool := match fnd e with | some p => ve e.val p.2 | none => false
theorem all_perm {α : Type} {f : α → Bool} {l m : List α} (h : l.Perm m) : l.all f = m.all f := by
  rw [Bool.eq_iff_iff, List.all_eq_true, List.all_eq_true]
  exact ⟨fun g x hx => g x (h.mem_iff.2 hx), fun g x hx => g x (h.mem_iff.1 hx)⟩
theorem len_map {w : World} {m : Option Nat} {es : Array MapEntry} (h : MapIs w m es) {t k e : TypeId} (ht : Tryz.prog.underlying t = some (.map k e)) (ty : TypeId) : (Builtin.len_ #[t] ty #[.map m]).run Tryz.prog w = .ok (.int .i64 es.size) w := by
  rcases h with ⟨rfl, rfl⟩ | ⟨b, clock, rfl, hb, _⟩
  · exact Maps.len_nil ht ty
  · simp only [Builtin.len_, List.getElem?_toArray, List.getElem?_cons_zero, Sem.run_bind, run_underlying' w ht, Result.andThen_ok, MapKept.run_getObj_map hb, Sem.run_pure]
    rfl
set_option maxRecDepth 100000 in
set_option maxHeartbeats 4000000 in
theorem eq64_ok {U : Univ} (D : Codec U) : SfOk Tryz.prog D 64 (.eq 53 40 2 4) := by
  intro w m1 m2 es1 es2 fnd ve h1 h2 hs1 hs2 hz hf hne
  have HF : Aside _ := hf
  have HN : Aside _ := hne
  have S1 : Aside _ := hs1
  have S2 : Aside _ := hs2
  clear hf hne hs1 hs2 hz
  have l1 := fun ty => len_map h1 Tryz.underlying33 ty
  have l2 := fun ty => len_map h2 Tryz.underlying33 ty
  suffices Calls Tryz.prog 64 #[.map m1, .map m2] w fun x w' => x = .returned (.bool (es1.size == es2.size && es1.toList.all (okAt fnd ve))) ∧ w.grownBy w' none from this
  by_cases hsz : es1.size = es2.size
  · obtain ⟨res, hres⟩ : ∃ res, (es1.size == es2.size && es1.toList.all (okAt fnd ve)) = res := ⟨_, rfl⟩
    rw [hres]
    have RES : Aside (es1.toList.all (okAt fnd ve) = res) := by
      have h := hres
      rw [hsz, beq_self_eq_true, Bool.true_and] at h
      exact h
    clear hres
    rcases h1 with ⟨rfl, rfl⟩ | ⟨b, clock, rfl, hb, st⟩
    · have hrg := run_range_nilMap (P := Tryz.prog) w 33 53 40 Tryz.underlying33
      have hnx : ∀ ty, (Instr.next (.pointer (some ⟨w.heap.size, 0, none⟩)) false ty).run Tryz.prog (w.alloc (.mapIter none 0 #[] 0)) = _ := fun ty => run_next_nilMap _ ty 0 0 #[]
      have hsz' : es2.size = 0 := by simpa using hsz.symm
      rw [hsz'] at l2
      simp at l1
      clear h2
      go_enter Tryz.func64, Tryz.ntmps64
      go_wp2
      refine wp_loop_rounds 1 ?_
      rw [rounds_succ]
      go_wp2
      go_ret
      exact ⟨by rw [← RES.out]; rfl, World.grownBy_alloc w _ none⟩
    · rw [hsz] at l1
      have h2c := h2
      clear h2
      rcases h2c with ⟨rfl, rfl⟩ | ⟨b2, clock2, rfl, hb2, st2⟩
      · -- the other is nil: none is here
        have h0 : es1 = #[] := by
          have : es1.size = 0 := by simpa using hsz
          exact Array.eq_empty_of_size_eq_zero this
        subst h0
        simp at l1 l2
        go_enter Tryz.func64, Tryz.ntmps64
        go_wp2_with (first
          | (at_range; refine wpList_range_raw rfl _ 33 rfl 53 40 Tryz.underlying33 b rfl hb st ?_; intro w0 hrg0 hg0 hs0)
          | go_in)
        try go_frame
        go_loopw [18] (fun _ wr => Rng wr b w.heap.size #[] clock [] ∧ w.grownBy wr none)
          (fun _ wr => wr.rangeLeft b w.heap.size)
        case atStart => exact And.intro hrg0 hg0
        case round =>
          obtain ⟨hrg, hgw⟩ := hrel
          go_wp2_with (first
            | (at_next; refine wpList_next_raw rfl _ rfl b w.heap.size rfl hrg ?_ ?_)
            | go_in)
          · go_ret
            exact ⟨by rw [← RES.out]; rfl, hgw⟩
          · intro k v bo w1 hcm hen
            have := hcm.mem
            simp at this
      · go_enter Tryz.func64, Tryz.ntmps64
        go_wp2_with (first
          | (at_range; refine wpList_range_raw rfl _ 33 rfl 53 40 Tryz.underlying33 b rfl hb st ?_; intro w0 hrg0 hg0 hs0)
          | go_in)
        go_frame
        go_loopw [18] (fun _ wr => ∃ got, Rng wr b w.heap.size es1 clock got ∧ w.grownBy wr none ∧ got.all (okAt fnd ve) = true)
          (fun _ wr => wr.rangeLeft b w.heap.size)
        case atStart => exact ⟨_, hrg0, hg0, rfl⟩
        case round =>
          obtain ⟨got, hrg, hgw, hall⟩ := hrel
          go_wp2_with (first
            | (at_next; refine wpList_next_raw rfl _ rfl b w.heap.size rfl hrg ?_ ?_)
            | go_in)
          · intro hp
            go_wp2
            go_ret
            exact ⟨by rw [← RES.out, ← all_perm hp, hall]; rfl, hgw⟩
          · intro k v bo w1 hcm hen
            obtain ⟨hem, hrg1, hlt, hg1, _⟩ := hcm
            have hgw1 : w.grownBy w1 none := hgw.andThen hg1 (fun j hj => by cases hj; exact Or.inl (Nat.le_refl _))
            rename_i hs9
            clear hs9
            have hex : okAt fnd ve ⟨k, v, bo⟩ = false → false = res := fun h => by
              rw [← RES.out, eq_comm, Bool.eq_false_iff]
              intro h'
              rw [List.all_eq_true.1 h' _ hem] at h
              cases h
            have hgo : okAt fnd ve ⟨k, v, bo⟩ = true → (got ++ [(⟨k, v, bo⟩ : MapEntry)]).all (okAt fnd ve) = true := fun h => by
              rw [List.all_append, hall, Bool.true_and]
              simpa using h
            have hfW : ∀ W, w1.grownBy W none → W.heap[b2]? = some (.map es2 clock2) ∧ (∀ em, (Instr.checkKey em 10000 53 k).run Tryz.prog W = .ok () W) ∧ (Instr.findKey 53 k es2.toList).run Tryz.prog W = .ok (fnd ⟨k, v, bo⟩) W := fun W hW => by
              have hgW := hgw1.andThen hW (fun j hj => by cases hj)
              obtain ⟨f1, f2⟩ := HF.out W hgW _ hem
              exact ⟨(hgW.block b2 (Array.getElem?_eq_some_iff.1 hb2).1 (by simp)).trans hb2, f1, f2⟩
            have HFW : Aside _ := hfW
            have HN2 : Aside _ := HN.out _ hem
            obtain ⟨xs, ys, e1, n1, o1, e2, n2, o2⟩ := S1.out _ hem
            simp only at e1 e2
            subst e1
            subst e2
            obtain ⟨x0, x1, rfl⟩ := two_of n1
            obtain ⟨y0, y1, y2, y3, rfl⟩ := four_of n2
            have sx0 : ∀ a m w, (store a x0 m).run Tryz.prog w = stored Tryz.prog w a x0 m := fun a m w => run_store Tryz.prog w a x0 m (o1 x0 (by simp))
            have sx1 : ∀ a m w, (store a x1 m).run Tryz.prog w = stored Tryz.prog w a x1 m := fun a m w => run_store Tryz.prog w a x1 m (o1 x1 (by simp))
            have sy0 : ∀ a m w, (store a y0 m).run Tryz.prog w = stored Tryz.prog w a y0 m := fun a m w => run_store Tryz.prog w a y0 m (o2 y0 (by simp))
            have sy1 : ∀ a m w, (store a y1 m).run Tryz.prog w = stored Tryz.prog w a y1 m := fun a m w => run_store Tryz.prog w a y1 m (o2 y1 (by simp))
            have sy2 : ∀ a m w, (store a y2 m).run Tryz.prog w = stored Tryz.prog w a y2 m := fun a m w => run_store Tryz.prog w a y2 m (o2 y2 (by simp))
            have sy3 : ∀ a m w, (store a y3 m).run Tryz.prog w = stored Tryz.prog w a y3 m := fun a m w => run_store Tryz.prog w a y3 m (o2 y3 (by simp))
            clear o1 o2 n1 n2 hfW
            cases hfe : fnd ⟨.agg #[x0, x1], .agg #[y0, y1, y2, y3], bo⟩ with
            | none =>
              have hno : okAt fnd ve ⟨.agg #[x0, x1], .agg #[y0, y1, y2, y3], bo⟩ = false := by unfold okAt; rw [hfe]
              have hres := hex hno
              subst hres
              rw [hfe] at HFW
              clear hex hgo hno
              go_wp2_with (first
                | (at_lookup; refine wpList_lookup_no rfl _ _ 33 rfl 53 40 Tryz.underlying33 b2 rfl rfl (grown_of (by go_grown)) HFW.out (Tryz.zeroValue40) ?_)
                | go_in)
              go_ret
              exact ⟨rfl, hgw1.andThen (grown_of (by go_grown)) (fun j hj => by cases hj)⟩
            | some p =>
              obtain ⟨j, u⟩ := p
              obtain ⟨⟨e2, he2, hu⟩, hne⟩ := HN2.out _ hfe
              simp only at hu hne
              obtain ⟨us, vs, _, _, _, f2, n2, o2⟩ := S2.out _ he2
              rw [f2] at hu
              subst hu
              obtain ⟨u0, u1, u2, u3, rfl⟩ := four_of n2
              have su0 : ∀ a m w, (store a u0 m).run Tryz.prog w = stored Tryz.prog w a u0 m := fun a m w => run_store Tryz.prog w a u0 m (o2 u0 (by simp))
              have su1 : ∀ a m w, (store a u1 m).run Tryz.prog w = stored Tryz.prog w a u1 m := fun a m w => run_store Tryz.prog w a u1 m (o2 u1 (by simp))
              have su2 : ∀ a m w, (store a u2 m).run Tryz.prog w = stored Tryz.prog w a u2 m := fun a m w => run_store Tryz.prog w a u2 m (o2 u2 (by simp))
              have su3 : ∀ a m w, (store a u3 m).run Tryz.prog w = stored Tryz.prog w a u3 m := fun a m w => run_store Tryz.prog w a u3 m (o2 u3 (by simp))
              clear o2 n2 f2
              have hsay : okAt fnd ve ⟨.agg #[x0, x1], .agg #[y0, y1, y2, y3], bo⟩ = ve (.agg #[y0, y1, y2, y3]) (.agg #[u0, u1, u2, u3]) := by unfold okAt; rw [hfe]
              rw [hsay] at hex hgo
              rw [hfe] at HFW
              clear hsay hfe
              have hn1 := fun W => (hne W).1
              have hn2 := fun W => (hne W).2
              clear hne he2
              cases hv : ve (.agg #[y0, y1, y2, y3]) (.agg #[u0, u1, u2, u3]) with
              | false =>
                have hres := hex hv
                subst hres
                rw [hv] at hn1
                clear hex hgo
                go_wp2_with (first
                  | (at_lookup; refine wpList_lookup_yes rfl _ _ 33 rfl 53 40 Tryz.underlying33 b2 rfl rfl (grown_of (by go_grown)) HFW.out (Tryz.zeroValue40) ?_)
                  | go_in)
                go_ret
                exact ⟨rfl, hgw1.andThen (grown_of (by go_grown)) (fun j hj => by cases hj)⟩
              | true =>
                have hall2 := hgo hv
                rw [hv] at hn1
                clear hex hgo
                go_wp2_with (first
                  | (at_lookup; refine wpList_lookup_yes rfl _ _ 33 rfl 53 40 Tryz.underlying33 b2 rfl rfl (grown_of (by go_grown)) HFW.out (Tryz.zeroValue40) ?_)
                  | go_in)
                go_roundw
                case rel => exact ⟨_, hrg1.kept (grown_of (by go_grown)), hgw1.andThen (grown_of (by go_grown)) (fun j hj => by cases hj), hall2⟩
                case measure =>
                  refine Nat.lt_of_le_of_lt (Nat.le_of_eq (Rng.same (hrg1.kept (grown_of ?_)) hrg1)) hlt
                  go_grown
  · have hne : ¬ ((es1.size : Int) = (es2.size : Int)) := fun e => hsz (by exact_mod_cast e)
    clear h1 h2
    go_enter Tryz.func64, Tryz.ntmps64
    go_wp2
    go_ret
    refine ⟨?_, ⟨rfl, rfl, rfl, Nat.le_refl _, fun _ _ _ => rfl⟩⟩
    have : (es1.size == es2.size) = false := by simpa using hsz
    rw [this]
    rfl
theorem same16_ok {U : Univ} (D : Codec U) : SfOk Tryz.prog D 16 (.eq 53 40 2 4) := by
  intro w m1 m2 es1 es2 fnd ve h1 h2 hs1 hs2 hz hf hne
  have eg : ∀ args w, (callFunc 64 args).run Tryz.prog w = .ok (.enter 64 args) w := enter_of Tryz.func64 (by kernel_rfl) (by kernel_rfl)
  have hc := eq64_ok D w m1 m2 es1 es2 fnd ve h1 h2 hs1 hs2 hz hf hne
  generalize (es1.size == es2.size && es1.toList.all fun e => match fnd e with | some p => ve e.val p.2 | none => false) = res at hc ⊢
  clear h1 h2 hs1 hs2 hz hf hne
  go_enter Tryz.func16, Tryz.ntmps16
  go_wp2_with (go_at_call 64; refine hc.mono ?_; rintro e w' ⟨rfl, hg⟩)
  go_ret
  exact ⟨rfl, hg⟩
end Go.Proofs.YtbchcjlllddlpaaGreat
