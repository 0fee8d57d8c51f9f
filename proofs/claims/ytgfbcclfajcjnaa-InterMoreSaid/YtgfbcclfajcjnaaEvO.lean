import Derived.Test.YtgfbcclfajcjnaaEvS
import Derived.Laws.Cells
import Derived.Laws.World
import Derived.Laws.StructEq
import Derived.ChangeKeysEq
universe u
namespace Go.Ev
set_option linter.unusedVariables false
set_option linter.unusedSimpArgs false
open Go.RowKit (Below)
variable {U : Univ} {ρ : Type}
theorem kont_some {α : Type u} {x : Option α} {K : α → Option ρ} {r : ρ} (h : kont x K = some r) : ∃ v, x = some v ∧ K v = some r := by
  cases x with
  | none => cases h
  | some v => exact ⟨v, rfl, h⟩
theorem cond_some {b : Bool} {x y : Option ρ} {r : ρ} (h : cond b x y = some r) : (b = true ∧ x = some r) ∨ (b = false ∧ y = some r) := by
  cases b
  · exact .inr ⟨rfl, h⟩
  · exact .inl ⟨rfl, h⟩
theorem cond_none {b : Bool} {x : Option ρ} {r : ρ} (h : cond b x none = some r) : b = true ∧ x = some r := by
  cases b
  · cases h
  · exact ⟨rfl, h⟩
theorem cond_none' {b : Bool} {x : Option ρ} {r : ρ} (h : cond b none x = some r) : b = false ∧ x = some r := by
  cases b
  · exact ⟨rfl, h⟩
  · cases h
theorem VR.flat_inv {D : Codec U} {R : Rl} {v y : Value} (h : VR D R (.flat v) y) : y = v := by cases h; rfl
theorem VR.agg_inv {D : Codec U} {R : Rl} {xs : List (AV U)} {y : Value} (h : VR D R (.agg xs) y) :
    ∃ ys : Array Value, y = .agg ys ∧ xs.length = ys.size ∧ ∀ (i : Nat) (x : AV U) (y : Value), xs[i]? = some x → ys[i]? = some y → VR D R x y := by
  cases h with | agg hl hv => exact ⟨_, rfl, hl, hv⟩
theorem VR.tup_inv {D : Codec U} {R : Rl} {xs : List (AV U)} {y : Value} (h : VR D R (.tup xs) y) :
    ∃ ys : Array Value, y = .tuple ys ∧ xs.length = ys.size ∧ ∀ (i : Nat) (x : AV U) (y : Value), xs[i]? = some x → ys[i]? = some y → VR D R x y := by
  cases h with | tup hl hv => exact ⟨_, rfl, hl, hv⟩
theorem VR.fn_inv {D : Codec U} {R : Rl} {f : FuncId} {xs : List (AV U)} {y : Value} (h : VR D R (.fn f xs) y) :
    ∃ ys : Array Value, y = .func (.func f) #[] ys ∧ xs.length = ys.size ∧ ∀ (i : Nat) (x : AV U) (y : Value), xs[i]? = some x → ys[i]? = some y → VR D R x y := by
  cases h with | fn hl hv => exact ⟨_, rfl, hl, hv⟩
theorem VR.ptr_inv {D : Codec U} {R : Rl} {id off : Nat} {y : Value} (h : VR D R (.ptr id off) y) : ∃ B es, R.blk id = some (B, es) ∧ y = .pointer (some ⟨B, off, none⟩) := by
  cases h with | ptr h => exact ⟨_, _, h, rfl⟩
theorem VR.nrow_inv {D : Codec U} {R : Rl} {g : Bool} {c : U.C} {l : List (U.El c)} {y : Value} (h : VR D R (.nrow g c l) y) : ∃ b n cap, y = .slice b n cap ∧ g = b.isSome ∧ VR D R (.row c l) (.slice b n cap) := by
  cases h with | nrow h => exact ⟨_, _, _, rfl, rfl, h⟩
theorem VR.mp_inv {D : Codec U} {R : Rl} {id : Nat} {y : Value} (h : VR D R (.mp id) y) : ∃ B : Option Nat, R.hdr id = some (B.map fun B => ⟨B, 0, none⟩, 0, 0) ∧ y = .map B := by
  cases h with | mp h => exact ⟨_, h, rfl⟩
theorem VR.el_inv {D : Codec U} {R : Rl} {id i off : Nat} {y : Value} (h : VR D R (.el id i off) y) : ∃ B es, R.blk id = some (B, es) ∧ y = .pointer (some ⟨B, i * es + off, none⟩) := by
  cases h with | el h => exact ⟨_, _, h, rfl⟩
def One (y : Value) : Prop := (∀ cs, y ≠ .agg cs) ∧ ∀ vs, y ≠ .tuple vs
theorem one_of_ok {D : Codec U} {R : Rl} {x : AV U} {y : Value} (h : VR D R x y) (hk : okCell x = true) : One y := by
  cases h with
  | undef => cases hk
  | agg => cases hk
  | tup => cases hk
  | flat => cases y <;> first | (exfalso; simp [okCell] at hk; done) | exact ⟨fun _ h => (by cases h), fun _ h => (by cases h)⟩
  | _ => exact ⟨fun _ h => (by cases h), fun _ h => (by cases h)⟩
theorem VR.cells {D : Codec U} {R : Rl} {x : AV U} {y : Value} (h : VR D R x y) (hk : x.cells.all okCell = true) :
    x.cells.length = y.cells.size ∧ ∀ (i : Nat) (a : AV U) (b : Value), x.cells[i]? = some a → y.cells[i]? = some b → VR D R a b ∧ One b := by
  have key : ∀ (ho : okCell x = true) (hx : x.cells = [x]), x.cells.length = y.cells.size ∧ ∀ (i : Nat) (a : AV U) (b : Value), x.cells[i]? = some a → y.cells[i]? = some b → VR D R a b ∧ One b := by
    intro ho hx
    have o := one_of_ok h ho
    have hy : y.cells = #[y] := by
      cases y <;> first | rfl | exact absurd rfl (o.1 _)
    rw [hx, hy]
    refine ⟨rfl, fun i a b ha hb => ?_⟩
    cases i with
    | zero =>
      simp at ha hb
      subst ha; subst hb
      exact ⟨h, o⟩
    | succ i => simp at ha
  cases x with
  | agg xs =>
    obtain ⟨ys, rfl, hl, hv⟩ := h.agg_inv
    refine ⟨hl, fun i a b ha hb => ?_⟩
    have hab := hv i a b ha hb
    refine ⟨hab, one_of_ok hab ?_⟩
    exact (List.all_eq_true.mp hk) a (List.mem_of_getElem? ha)
  | _ => exact key (by simpa [AV.cells] using hk) rfl
section
variable {P : Program} {D : Codec U} {nt : Nat} {w0 : Cx} {N0 : Nat → Nat → Prop} {R : Rl} {s : St U} {a : Act}
def OpGood (P : Program) (D : Codec U) (nt : Nat) (w0 : Cx) (N0 : Nat → Nat → Prop) (R : Rl) (s : St U) (a : Act) (o : Oper) (v : AV U) (us : Eff U) : Prop :=
  ∀ (next : Act → World → Prop) (Q : Exit → Act → World → Prop),
    (∀ y R', R.le R' → VR D R' v y → SR D nt w0 N0 R' (s.upd us) a → next (a.put o.dst y) R'.w) → o.wp P a R.w next Q
theorem good_value {o : Oper} {v : AV U} {y : Value} (h : SR D nt w0 N0 R s a) (hrun : (execOp a.eval o).run P R.w = .ok (.value y) R.w) (hv : VR D R v y) :
    OpGood P D nt w0 N0 R s a o v [] := by
  intro next Q hn
  unfold Oper.wp
  rw [hrun]
  exact hn y R (.refl R) hv h
theorem run_value {x : Sem Value} {w w' : World} {y : Value} (h : x.run P w = .ok y w') : (do pure (Next.value (← x)) : Sem Next).run P w = .ok (.value y) w' := by
  simp [h]
theorem run_underlying' {t : TypeId} {d : TypeDesc} (w : World) (h : P.underlying t = some d) : (underlying t).run P w = .ok d w := by
  simp [underlying, program, Sem.run, h]
theorem run_typeInfo' {t : TypeId} {i : TypeInfo} (w : World) (h : P.info? t = some i) : (typeInfo t).run P w = .ok i w := by
  simp [typeInfo, program, Sem.run, h]
theorem run_sizeOf' {t : TypeId} {n : Nat} (w : World) (h : szOf P t = some n) : (sizeOf t).run P w = .ok n w := by
  unfold szOf at h
  cases hi : P.info? t with
  | none => simp [hi] at h
  | some i => simp [hi] at h; simp [sizeOf, run_typeInfo' w hi, h]
theorem run_isAgg' {t : TypeId} {d : TypeDesc} (w : World) (h : P.underlying t = some d) : (isAgg t).run P w = .ok (isAggB P t) w := by
  unfold isAgg isAggB
  simp only [Sem.run_bind, run_underlying' w h, Result.andThen_ok, h]
  cases d <;> rfl
theorem cut_under {t : TypeId} {cs : List (AV U)} {off : Nat} {v : AV U} (hc : cut P t cs off = some v) : ∃ d, P.underlying t = some d := by
  unfold cut at hc
  cases hd : P.underlying t with
  | some d => exact ⟨d, rfl⟩
  | none => cases hs : szOf P t <;> simp [hs, hd] at hc
theorem run_part {t : TypeId} {d : TypeDesc} {cs : List (AV U)} {ys : Array Value} {off : Nat} {v : AV U} (w : World) (hd : P.underlying t = some d) (hl : cs.length ≤ ys.size)
    (hv : ∀ (i : Nat) (x : AV U) (y : Value), cs[i]? = some x → ys[i]? = some y → VR D R x y) (hc : cut P t cs off = some v) :
    ∃ y, (part t ys off).run P w = .ok y w ∧ VR D R v y := by
  unfold cut at hc
  cases hs : szOf P t with
  | none => simp [hs] at hc
  | some n =>
    simp only [hs, hd, Option.isSome_some] at hc
    unfold part
    cases ha : isAggB P t with
    | true =>
      simp only [ha] at hc
      cases hb : Nat.ble (off + n) cs.length with
      | false => simp [hb] at hc
      | true =>
        simp only [hb, cond_true, Option.some.injEq] at hc
        subst hc
        have hle : off + n ≤ cs.length := Nat.le_of_ble_eq_true hb
        refine ⟨.agg (ys.extract off (off + n)), by simp [run_isAgg' w hd, ha, run_sizeOf' w hs], .agg ?_ ?_⟩
        · simp; omega
        · intro i x y hx hy
          rw [List.getElem?_take] at hx
          split at hx
          · rw [List.getElem?_drop] at hx
            refine hv (off + i) x y hx ?_
            rw [Array.getElem?_extract] at hy
            split at hy
            · exact hy
            · cases hy
          · cases hx
    | false =>
      simp only [ha] at hc
      have hlt : off < cs.length := (List.getElem?_eq_some_iff.1 hc).1
      refine ⟨ys[off]'(by omega), ?_, hv off v _ hc (Array.getElem?_eq_getElem (by omega))⟩
      simp [run_isAgg' w hd, ha, Array.getElem?_eq_getElem (show off < ys.size by omega)]
theorem run_loadVar {t : TypeId} {d : TypeDesc} {cs : List (AV U)} {off B o : Nat} {v : AV U} (f : Nat → Value) (hd : P.underlying t = some d)
    (hc : cut P t cs off = some v) (hr : ∀ (i : Nat) (x : AV U), cs[i]? = some x → R.w.cell? ⟨B, o + i, none⟩ = some (f i) ∧ VR D R x (f i)) :
    ∃ y, (loadVar t ⟨B, o + off, none⟩).run P R.w = .ok y R.w ∧ VR D R v y := by
  unfold cut at hc
  cases hs : szOf P t with
  | none => simp [hs] at hc
  | some n =>
    simp only [hs, hd, Option.isSome_some] at hc
    unfold loadVar
    cases ha : isAggB P t with
    | true =>
      simp only [ha] at hc
      cases hb : Nat.ble (off + n) cs.length with
      | false => simp [hb] at hc
      | true =>
        simp only [hb, cond_true, Option.some.injEq] at hc
        subst hc
        have hle : off + n ≤ cs.length := Nat.le_of_ble_eq_true hb
        have hcell : ∀ j, j < n → R.w.cell? (Addr.add ⟨B, o + off, none⟩ j) = some (f (off + j)) := by
          intro j hj
          have := (hr (off + j) _ (List.getElem?_eq_getElem (show off + j < cs.length by omega))).1
          simp only [Addr.add_lit]
          rw [show o + off + j = o + (off + j) by omega]
          exact this
        refine ⟨.agg ((List.range n).map fun j => f (off + j)).toArray, by simp [run_isAgg' R.w hd, ha, run_sizeOf' R.w hs, run_loadCells R.w _ n _ hcell], .agg ?_ ?_⟩
        · simp; omega
        · intro i x y hx hy
          rw [List.getElem?_take] at hx
          split at hx
          · rename_i hi
            rw [List.getElem?_drop] at hx
            have := (hr (off + i) x hx).2
            simp only [List.getElem?_toArray, List.getElem?_map, List.getElem?_range hi, Option.map_some, Option.some.injEq] at hy
            subst hy
            exact this
          · cases hx
    | false =>
      simp only [ha] at hc
      obtain ⟨h1, h2⟩ := hr off v hc
      exact ⟨f off, by simp [run_isAgg' R.w hd, ha, h1], h2⟩
theorem run_storeCells {B : Nat} {el : TypeId} : ∀ (vs : List Value) (w : World) (arr : Array Value) (o i : Nat), w.heap[B]? = some (.cells arr el (0, 0)) → o + i + vs.length ≤ arr.size → (∀ v ∈ vs, One v) →
    ∃ (w' : World) (arr' : Array Value), (storeCells ⟨B, o, none⟩ vs i).run P w = .ok () w' ∧ w'.heap[B]? = some (.cells arr' el (0, 0)) ∧ arr'.size = arr.size ∧
      (∀ k, arr'[k]? = if o + i ≤ k ∧ k < o + i + vs.length then vs[k - (o + i)]? else arr[k]?) ∧ w'.heap.size = w.heap.size ∧ (∀ k, k ≠ B → w'.heap[k]? = w.heap[k]?) ∧
      w'.os = w.os ∧ w'.tape = w.tape ∧ w'.output = w.output
  | [], w, arr, o, i, hb, hle, _ => ⟨w, arr, rfl, hb, rfl, fun k => by
      rw [if_neg (by intro h; have := h.2; simp at this; omega)], rfl, fun _ _ => rfl, rfl, rfl, rfl⟩
  | v :: vs, w, arr, o, i, hb, hle, ho => by
    have hlt : o + i < arr.size := by simp at hle; omega
    have hcell : w.cell? ⟨B, o + i, none⟩ = some arr[o + i] := by simp [World.cell?, hb, Array.getElem?_eq_getElem hlt]
    have hfr : w.frozen? ⟨B, o + i, none⟩ = false := by simp [World.frozen?, hb]
    have hv := ho v (List.mem_cons_self)
    have hst : (store ⟨B, o + i, none⟩ v).run P w = .ok () (w.setCell ⟨B, o + i, none⟩ v) := by
      have h2 := hv.1; have h3 := hv.2
      cases v <;> first | exact absurd rfl (h2 _) | exact absurd rfl (h3 _) | simp [store, Sem.run, hcell, hfr]
    have hb' : (w.setCell ⟨B, o + i, none⟩ v).heap[B]? = some (.cells (arr.setIfInBounds (o + i) v) el (0, 0)) := by
      simp [World.setCell, Array.getElem?_modify, hb]
    obtain ⟨w', arr', h1, h2, h3, h4, h5, h6, h7, h8, h9⟩ := run_storeCells vs (w.setCell ⟨B, o + i, none⟩ v) (arr.setIfInBounds (o + i) v) o (i + 1) hb' (by simp at hle ⊢; omega) (fun u hu => ho u (List.mem_cons_of_mem _ hu))
    refine ⟨w', arr', ?_, h2, by simpa using h3, fun k => ?_, by simpa using h5, fun k hk => ?_, h7, h8, h9⟩
    · simp only [storeCells, Sem.run_bind, Addr.add_lit, hst, Result.andThen_ok, h1]
    · rw [h4 k]
      by_cases hk : k = o + i
      · subst hk
        rw [if_neg (by omega), if_pos (by simp), Array.getElem?_setIfInBounds]
        simp [hlt]
      · by_cases hin : o + (i + 1) ≤ k ∧ k < o + (i + 1) + vs.length
        · rw [if_pos hin, if_pos (by simp; omega), show k - (o + i) = (k - (o + (i + 1))) + 1 by omega, List.getElem?_cons_succ]
        · rw [if_neg hin, if_neg (by simp; omega), Array.getElem?_setIfInBounds, if_neg (fun e => hk e.symm)]
    · rw [h6 k hk]
      simp only [World.setCell, Array.getElem?_modify]
      rw [if_neg (fun e => hk e.symm)]
theorem run_storeVar {t : TypeId} {n : Nat} {B o : Nat} {el : TypeId} {y : Value} {w : World} {arr : Array Value} (hs : szOf P t = some n) (hb : w.heap[B]? = some (.cells arr el (0, 0)))
    (hn : y.cells.size = n) (hle : o + n ≤ arr.size) (ho : ∀ (i : Nat) (v : Value), y.cells[i]? = some v → One v) :
    ∃ (w' : World) (arr' : Array Value), (storeVar t ⟨B, o, none⟩ y).run P w = .ok () w' ∧ w'.heap[B]? = some (.cells arr' el (0, 0)) ∧ arr'.size = arr.size ∧
      (∀ k, arr'[k]? = if o ≤ k ∧ k < o + n then y.cells[k - o]? else arr[k]?) ∧ w'.heap.size = w.heap.size ∧ (∀ k, k ≠ B → w'.heap[k]? = w.heap[k]?) ∧
      w'.os = w.os ∧ w'.tape = w.tape ∧ w'.output = w.output := by
  obtain ⟨w', arr', h1, h2, h3, h4, h5⟩ := run_storeCells (P := P) (B := B) y.cells.toList w arr o 0 hb (by simp [hn]; omega) (by
    intro v hv
    obtain ⟨i, hi⟩ := List.mem_iff_getElem?.1 hv
    exact ho i v (by simpa using hi))
  refine ⟨w', arr', ?_, h2, h3, fun k => ?_, h5⟩
  · simp [storeVar, run_sizeOf' w hs, hn, h1]
  · rw [h4 k]
    simp [hn]
theorem lk_setO (s : St U) (n m : Nat) (ob : Obj U) : lk (s.setO n ob).o m = if n = m then some ob else lk s.o m := by
  unfold St.setO
  simp only [lk]
  by_cases h : n = m
  · subst h; simp
  · have : Nat.beq n m = false := by cases hb : Nat.beq n m with | false => rfl | true => exact absurd (Nat.eq_of_beq_eq_true hb) h
    simp [this, h]
def Rl.fresh (R : Rl) (ob : Go.Obj) (id es : Nat) (Q : Nat → Prop) (hd : Option (Option Addr × Nat × Nat)) : Rl :=
  { w := R.w.alloc ob, N := fun B i => R.N B i ∨ (B = R.w.heap.size ∧ Q i), blk := fun n => if n = id then some (R.w.heap.size, es) else R.blk n, hdr := fun n => if n = id then hd else R.hdr n, ar := R.ar }
def Rl.alloc (R : Rl) (ob : Go.Obj) (id es : Nat) : Rl := R.fresh ob id es (fun _ => True) none
theorem Rl.fresh_le {R : Rl} {ob : Go.Obj} {id es : Nat} {Q : Nat → Prop} {hd : Option (Option Addr × Nat × Nat)} (h : R.blk id = none) (h' : R.hdr id = none) : R.le (R.fresh ob id es Q hd) := by
  refine ⟨fun n p hp => ?_, fun n p hp => ?_, fun _ _ _ e => e, by simp [Rl.fresh], fun B i hB hN => ⟨?_, ?_⟩⟩
  · show (if n = id then _ else R.blk n) = some p
    rw [if_neg (fun e => by subst e; rw [h] at hp; cases hp)]
    exact hp
  · show (if n = id then _ else R.hdr n) = some p
    rw [if_neg (fun e => by subst e; rw [h'] at hp; cases hp)]
    exact hp
  · exact obs_block (Below.heap_alloc _ _ _ hB)
  · rintro (h | h)
    · exact hN h
    · omega
theorem Rl.alloc_le {R : Rl} {ob : Go.Obj} {id es : Nat} (h : R.blk id = none) (h' : R.hdr id = none) : R.le (R.alloc ob id es) := Rl.fresh_le h h'
theorem SR.freshG (h : SR D nt w0 N0 R s a) {id es : Nat} {Q : Nat → Prop} {hd : Option (Option Addr × Nat × Nat)} {gob : Go.Obj} {ob : Obj U} (hf : lk s.o id = none)
    (ho : OR D (R.fresh gob id es Q hd) id ob) (hQ : ob.whole → ∀ i, Q i) : SR D nt w0 N0 (R.fresh gob id es Q hd) (s.setO id ob) a := by
  have hn := h.none id hf
  have hle : R.le (R.fresh gob id es Q hd) := Rl.fresh_le hn.1 hn.2
  have hblk : ∀ n, (R.fresh gob id es Q hd).blk n = if n = id then some (R.w.heap.size, es) else R.blk n := fun _ => rfl
  have hhdr : ∀ n, (R.fresh gob id es Q hd).hdr n = if n = id then hd else R.hdr n := fun _ => rfl
  have hsz : (R.fresh gob id es Q hd).w.heap.size = R.w.heap.size + 1 := by simp [Rl.fresh]
  have hold := h.own
  refine { objs := ?_, none := ?_, own := ?_, inj := ?_, keep := ?_, le0 := h.toSO.le0' hle, nn := ?_, nlt := ?_, ri := h.ri.of (fun n hn => by rw [lk_setO] at hn; split at hn; cases hn; exact hn) rfl (by rw [hsz]; omega) (fun n B e hb => by rw [hblk] at hb; split at hb; cases hb; exact .inr ⟨Nat.le_refl _, by rw [hsz]; omega⟩; exact .inl ⟨n, e, hb⟩), size := h.size, defers := h.defers, ntle := h.ntle, tm := fun n => (h.tm n).mono hle }
  · intro n o hno
    rw [lk_setO] at hno
    split at hno
    · rename_i e; subst e; cases hno; exact ho
    · rename_i hne
      by_cases ha : o.alive
      · exact (h.objs n o hno).mono hle (fun B e hb => ⟨Below.heap_alloc _ _ _ (hold n o B e hno ha hb).2.2, fun i hi => .inl hi⟩) (fun hn => by show (if n = id then _ else R.blk n) = none; rw [if_neg (fun e => hne e.symm)]; exact hn) ⟨rfl, fun b hb => ⟨Below.heap_alloc _ _ _ (h.ri.lt n b hb).2, fun i hi => .inl hi⟩⟩
      · cases o <;> first | exact True.intro | exact absurd True.intro ha
  · intro n hnn
    rw [lk_setO] at hnn
    split at hnn
    · cases hnn
    · rename_i hne
      obtain ⟨h1, h2⟩ := h.none n hnn
      exact ⟨by rw [hblk, if_neg (fun e => hne e.symm)]; exact h1, by rw [hhdr, if_neg (fun e => hne e.symm)]; exact h2⟩
  · intro n o B e hno ha hb
    rw [hblk] at hb
    rw [hsz]
    split at hb
    · rename_i e'; subst e'
      cases hb
      rw [lk_setO, if_pos rfl] at hno
      cases hno
      exact ⟨fun hw i => .inr ⟨rfl, hQ hw i⟩, .inl h.keep.size, by omega⟩
    · rename_i hne
      rw [lk_setO, if_neg (fun e => hne e.symm)] at hno
      obtain ⟨h1, h2, h3⟩ := hold n o B e hno ha hb
      exact ⟨fun hw i => .inl (h1 hw i), h2, by omega⟩
  · intro n m o o' B e e' hn' hm' ha ha' hb hb'
    rw [hblk] at hb hb'
    split at hb <;> split at hb'
    · rename_i e1 e2; rw [e1, e2]
    · rename_i e1 e2
      cases hb
      rw [lk_setO, if_neg (fun e => e2 e.symm)] at hm'
      have := (hold m o' _ e' hm' ha' hb').2.2
      omega
    · rename_i e1 e2
      cases hb'
      rw [lk_setO, if_neg (fun e => e1 e.symm)] at hn'
      have := (hold n o _ e hn' ha hb).2.2
      omega
    · rename_i e1 e2
      rw [lk_setO, if_neg (fun e => e1 e.symm)] at hn'
      rw [lk_setO, if_neg (fun e => e2 e.symm)] at hm'
      exact h.inj n m o o' B e e' hn' hm' ha ha' hb hb'
  · exact h.keep.below (Below.alloc (.refl _ _) (Nat.le_refl _) _) h.keep.size
  · exact fun B i hlt hg hB => .inl (h.nn B i hlt hg hB)
  · rintro B i (hB | hB)
    · have := h.nlt B i hB; omega
    · omega
theorem SR.fresh (h : SR D nt w0 N0 R s a) {id es : Nat} {Q : Nat → Prop} {hd : Option (Option Addr × Nat × Nat)} {arr : Array Value} {el : TypeId} {ob : Obj U} (hf : lk s.o id = none)
    (ho : OR D (R.fresh (.cells arr el) id es Q hd) id ob) (hQ : ob.whole → ∀ i, Q i) : SR D nt w0 N0 (R.fresh (.cells arr el) id es Q hd) (s.setO id ob) a := SR.freshG h hf ho hQ
theorem SR.alloc (h : SR D nt w0 N0 R s a) {id es : Nat} {arr : Array Value} {el : TypeId} {ob : Obj U} (hf : lk s.o id = none)
    (ho : OR D (R.alloc (.cells arr el) id es) id ob) : SR D nt w0 N0 (R.alloc (.cells arr el) id es) (s.setO id ob) a := SR.fresh h hf ho (fun _ _ => True.intro)
theorem SR.write (h : SR D nt w0 N0 R s a) {id B es : Nat} {o0 ob : Obj U} {w' : World} (hid : lk s.o id = some o0) (ha : o0.alive) (hwh : o0.whole) (how : ob.whole) (hb : R.blk id = some (B, es))
    (hsz : w'.heap.size = R.w.heap.size) (hk : ∀ k, k ≠ B → w'.heap[k]? = R.w.heap[k]?) (hos : w'.os = R.w.os) (htape : w'.tape = R.w.tape) (hout : w'.output = R.w.output)
    (ho : OR D { R with w := w' } id ob) : R.le { R with w := w' } ∧ SR D nt w0 N0 { R with w := w' } (s.setO id ob) a := by
  obtain ⟨hN, hlo, hhi⟩ := h.own id o0 B es hid ha hb
  have hle : R.le { R with w := w' } := ⟨fun _ _ e => e, fun _ _ e => e, fun _ _ _ e => e, by simp [hsz], fun b i hb' hn => ⟨obs_block (hk b (fun e => hn (e ▸ hN hwh i))), hn⟩⟩
  refine ⟨hle, { objs := ?_, none := ?_, own := ?_, inj := ?_, keep := ?_, le0 := h.toSO.le0' hle, nn := h.nn, nlt := fun B i hB => hsz ▸ h.nlt B i hB, ri := h.ri.of (fun n hn => by rw [lk_setO] at hn; split at hn; cases hn; exact hn) rfl (by rw [hsz]; exact Nat.le_refl _) (fun n b e hb' => .inl ⟨n, e, hb'⟩), size := h.size, defers := h.defers, ntle := h.ntle, tm := fun n => (h.tm n).mono hle }⟩
  · intro n o hno
    rw [lk_setO] at hno
    split at hno
    · rename_i e; subst e; cases hno; exact ho
    · rename_i hne
      by_cases ha' : o.alive
      · refine (h.objs n o hno).mono hle (fun B' e' hb' => ⟨hk B' (fun e => ?_), fun _ hi => hi⟩) (fun h => h) ⟨rfl, fun b hb' => ⟨hk b (fun e => h.ri.sep n b id es hb' (e ▸ hb)), fun _ hi => hi⟩⟩
        subst e
        exact hne (h.inj id n o0 o B' es e' hid hno ha ha' hb hb')
      · cases o <;> first | exact True.intro | exact absurd True.intro ha'
  · intro n hnn
    rw [lk_setO] at hnn
    split at hnn
    · cases hnn
    · exact h.none n hnn
  · intro n o b e hno ha' hb'
    show (o.whole → ∀ i, R.N b i) ∧ (w0.w.heap.size ≤ b ∨ w0.G b) ∧ b < w'.heap.size
    rw [hsz]
    rw [lk_setO] at hno
    split at hno
    · rename_i e'; subst e'
      have := h.own id o0 b e hid ha hb'
      exact ⟨fun _ => this.1 hwh, this.2⟩
    · exact h.own n o b e hno ha' hb'
  · intro n m o o' b e e' hn' hm' ha1 ha2 hb1 hb2
    have fix : ∀ k ok, lk (s.setO id ob).o k = some ok → ok.alive → ∃ ok', lk s.o k = some ok' ∧ ok'.alive := by
      intro k ok hk' hak
      rw [lk_setO] at hk'
      split at hk'
      · rename_i e'; subst e'; exact ⟨o0, hid, ha⟩
      · exact ⟨ok, hk', hak⟩
    obtain ⟨p, hp, hpa⟩ := fix n o hn' ha1
    obtain ⟨q, hq, hqa⟩ := fix m o' hm' ha2
    exact h.inj n m p q b e e' hp hq hpa hqa hb1 hb2
  · refine h.keep.trans ⟨hos, htape, hout, by simp [hsz], fun k hk' hg => hk k (fun e => by subst e; rcases hlo with hlo | hlo; omega; exact hg hlo)⟩
theorem SR.calls (h : SR D nt w0 N0 R s a) {w' : World} (hb : Below R.w.heap.size R.w w') (hle : R.le { R with w := w' }) : SR D nt w0 N0 { R with w := w' } s a := by
  have hown := h.own
  refine { objs := fun n o hno => ?_, none := h.none, own := fun n o B e hno ha hb' => ?_, inj := h.inj, keep := ?_, le0 := h.toSO.le0' hle, nn := h.nn, nlt := fun B i hB => Nat.lt_of_lt_of_le (h.nlt B i hB) hb.size, ri := h.ri.of (fun _ h => h) rfl hb.size (fun n B e hb' => .inl ⟨n, e, hb'⟩), size := h.size, defers := h.defers, ntle := h.ntle, tm := fun n => (h.tm n).mono hle }
  · by_cases ha : o.alive
    · exact (h.objs n o hno).mono hle (fun B e hb' => ⟨hb.block B (hown n o B e hno ha hb').2.2, fun _ hi => hi⟩) (fun h => h) ⟨rfl, fun b hm => ⟨hb.block b (h.ri.lt n b hm).2, fun _ hi => hi⟩⟩
    · cases o <;> first | exact True.intro | exact absurd True.intro ha
  · obtain ⟨h1, h2, h3⟩ := hown n o B e hno ha hb'
    exact ⟨h1, h2, Nat.lt_of_lt_of_le h3 hb.size⟩
  · exact h.keep.below hb h.keep.size
end
end Go.Ev
