import Derived.Test.YtgfbcclfajcjnaaEvP
universe u
namespace Go.Ev
set_option linter.unusedVariables false
set_option linter.unusedSimpArgs false
open Go.RowKit (Below)
variable {U : Univ} {ρ : Type}
section
variable {E : Env U} {nt : Nat} {w0 : Cx} {N0 : Nat → Nat → Prop} {R : Rl} {s : St U} {a : Act}
theorem fieldOff_inv {P : Program} {t : TypeId} {f : Nat} {fl : Field} (h : fieldOff P t f = some fl) :
    ∃ fs n, P.underlying t = some (.struct fs) ∧ fs[f]? = some fl ∧ szOf P fl.type = some (n + 1) := by
  unfold fieldOff at h
  split at h
  · rename_i fs hu
    split at h
    · rename_i fl' hf
      split at h
      · rename_i n hs
        cases h
        exact ⟨fs, n, hu, hf, hs⟩
      · cases h
    · cases h
  · cases h
theorem addOff_inv {D : Codec U} {R : Rl} {n : Nat} {x v : AV U} {y : Value} (h : VR D R x y) (ha : addOff n x = some v) :
    ∃ B o, y = .pointer (some ⟨B, o, none⟩) ∧ VR D R v (.pointer (some ⟨B, o + n, none⟩)) := by
  cases x with
  | ptr id off =>
    cases ha
    obtain ⟨B, es, hb, rfl⟩ := h.ptr_inv
    exact ⟨B, off, rfl, .ptr hb⟩
  | el id i off =>
    cases ha
    obtain ⟨B, es, hb, rfl⟩ := h.el_inv
    exact ⟨B, _, rfl, by rw [Nat.add_assoc]; exact .el hb⟩
  | pe id b sz n' i off =>
    cases ha
    cases h with
    | pe h => exact ⟨_, _, rfl, by rw [Nat.add_assoc]; exact .pe h⟩
  | rp cs off =>
    cases ha
    cases h with
    | rp f hB hc hv => exact ⟨_, _, rfl, by rw [Nat.add_assoc]; exact .rp f hB hc hv⟩
  | _ => cases ha
theorem told_fieldAddr {o : Oper} {t : TypeId} {f : Nat} {x : Operand} {K : AV U → Eff U → Option ρ} {r : ρ} (h : SR E.D nt w0 N0 R s a) (ho : o.op = .fieldAddr t x f)
    (hk : opK E o s.op (lk s.o) K = some r) : Told E nt w0 N0 R s a o K r := by
  unfold opK at hk
  simp only [ho] at hk
  obtain ⟨fl, hfl, hk⟩ := kont_some hk
  obtain ⟨v, hv, hk⟩ := kont_some hk
  obtain ⟨fs, n, hu, hf, hs⟩ := fieldOff_inv hfl
  obtain ⟨B, o', hy, hvr⟩ := addOff_inv (h.op x) hv
  refine told_value h hk ?_ hvr
  simp only [execOp, ho]
  refine run_value ?_
  simp [Instr.fieldAt, run_underlying' R.w hu, hf, hy, Instr.sureAddr, fieldPlace, run_sizeOf' R.w hs, Addr.add_lit]
theorem VR.rp_inv {D : Codec U} {R : Rl} {cs : List (AV U)} {off : Nat} {y : Value} (h : VR D R (.rp cs off) y) :
    ∃ (B o : Nat) (f : Nat → Value), y = .pointer (some ⟨B, o + off, none⟩) ∧ B < R.w.heap.size ∧ (∀ (i : Nat) (x : AV U), cs[i]? = some x → R.w.cell? ⟨B, o + i, none⟩ = some (f i) ∧ ¬ R.N B (o + i)) ∧
      ∀ (i : Nat) (x : AV U), cs[i]? = some x → VR D R x (f i) := by
  cases h with | rp f hB hc hv => exact ⟨_, _, f, rfl, hB, hc, hv⟩
theorem VR.row_inv {D : Codec U} {R : Rl} {c : U.C} {l : List (U.El c)} {y : Value} (h : VR D R (.row c l) y) :
    (l = [] ∧ ∃ b cap, y = .slice b 0 cap) ∨ ∃ (B o cap : Nat) (f : Nat → Nat → Value), y = .slice (some ⟨B, o, none⟩) l.length cap ∧ B < R.w.heap.size ∧ l.length ≤ cap ∧
      (∀ (i : Nat) (x : U.El c), l[i]? = some x → ∀ (j : Nat) (v : AV U), (D.enc c x)[j]? = some v → R.w.cell? ⟨B, o + (i * D.size c + j), none⟩ = some (f i j) ∧ ¬ R.N B (o + (i * D.size c + j))) ∧
      (∀ (i : Nat) (x : U.El c), l[i]? = some x → ∀ (j : Nat) (v : AV U), (D.enc c x)[j]? = some v → VR D R v (f i j)) := by
  cases h with
  | rownil => exact .inl ⟨rfl, _, _, rfl⟩
  | row f hB hl hc hv => exact .inr ⟨_, _, _, f, rfl, hB, hl, hc, hv⟩
theorem inb_spec {n : Int} {len : Nat} (h : inb n len = true) : 0 ≤ n ∧ n < len := by
  unfold inb at h
  simpa using h
theorem decs_spec {D : Codec U} (L : Lawful D) {c : U.C} : ∀ (n : Nat) (cs : List (AV U)) (l : List (U.El c)), decs D c n cs = some l →
    l.length = n ∧ cs.length = n * D.size c ∧ ∀ (i : Nat) (x : U.El c), l[i]? = some x → ∀ (j : Nat) (v : AV U), (D.enc c x)[j]? = some v → cs[i * D.size c + j]? = some v
  | 0, cs, l, h => by
    cases cs with
    | nil => simp [decs] at h; subst h; simp
    | cons x xs => simp [decs] at h
  | n + 1, cs, l, h => by
    unfold decs at h
    cases hx : D.dec c (cs.take (D.size c)) with
    | none => simp [hx] at h
    | some x =>
      cases hr : decs D c n (cs.drop (D.size c)) with
      | none => simp [hx, hr] at h
      | some r =>
        simp only [hx, hr, Option.some.injEq] at h
        subst h
        obtain ⟨h1, h2, h3⟩ := decs_spec L n _ r hr
        have he := L.dec_enc _ _ _ hx
        have hel := L.enc_len c x
        rw [← he] at hel
        simp at hel h2
        refine ⟨by simp [h1], by rw [Nat.succ_mul]; omega, fun i z hz j v hv => ?_⟩
        cases i with
        | zero =>
          simp at hz; subst hz
          rw [← he, List.getElem?_take] at hv
          split at hv
          · simpa using hv
          · cases hv
        | succ i =>
          simp only [List.getElem?_cons_succ] at hz
          have := h3 i z hz j v hv
          rw [List.getElem?_drop] at this
          rw [Nat.succ_mul, show i * D.size c + D.size c + j = D.size c + (i * D.size c + j) by omega]
          exact this
theorem pickA_cut (he : EnvOk E) {t e : TypeId} {len sz n : Nat} {cs : List (AV U)} {v : AV U} (hs : szOf E.P e = some sz) (hn : n < len) (h : pickA E t e len sz cs n = some v) :
    cut E.P e cs (n * sz) = some v := by
  unfold pickA at h
  split at h
  · exact h
  · rename_i m c hm
    split at h
    · rename_i l hl
      replace h := cond_none h
      have hc := h.1
      replace h := h.2
      simp only [Bool.and_eq_true] at hc
      have h1 := Nat.eq_of_beq_eq_true hc.1
      have h2 := Nat.eq_of_beq_eq_true hc.2
      subst h1
      obtain ⟨d1, d2, d3⟩ := decs_spec he.law m cs l hl
      have hg : l[n]? = some (l.getD n (E.D.dflt c)) := by
        rw [List.getD_eq_getElem?_getD, List.getElem?_eq_getElem (show n < l.length by omega)]; rfl
      generalize l.getD n (E.D.dflt c) = x at *
      have hx := d3 n x hg
      have hel := he.law.enc_len c x
      have hle : n * sz + sz ≤ cs.length := by rw [d2, ← h2, ← Nat.succ_mul]; exact Nat.mul_le_mul_right _ hn
      have hcs : (cs.drop (n * sz)).take sz = E.D.enc c x := by
        apply List.ext_getElem?
        intro j
        by_cases hj : j < sz
        · rw [List.getElem?_take_of_lt hj, List.getElem?_drop]
          cases hv : (E.D.enc c x)[j]? with
          | none => rw [List.getElem?_eq_none_iff] at hv; omega
          | some v' => rw [h2]; exact hx j _ hv
        · rw [List.getElem?_eq_none (by simp; omega), List.getElem?_eq_none (by omega)]
      unfold cut at h ⊢
      rw [hs] at h ⊢
      cases hu : (E.P.underlying e).isSome with
      | false => simp [hu] at h
      | true =>
        simp only [hu] at h ⊢
        cases ha : isAggB E.P e with
        | true =>
          simp only [ha] at h ⊢
          replace h := (cond_none h).2
          rw [show Nat.ble (n * sz + sz) cs.length = true from Nat.ble_eq_true_of_le hle]
          rw [cond_true, hcs]
          rw [List.drop_zero, List.take_of_length_le (by omega)] at h
          exact h
        | false =>
          simp only [ha] at h ⊢
          have := hx 0 v h
          rw [← this, h2]; rfl
    · cases h
theorem told_index (he : EnvOk E) {o : Oper} {t : TypeId} {x i : Operand} {K : AV U → Eff U → Option ρ} {r : ρ} (h : SR E.D nt w0 N0 R s a) (ho : o.op = .index t x i)
    (hk : opK E o s.op (lk s.o) K = some r) : Told E nt w0 N0 R s a o K r := by
  unfold opK at hk
  simp only [ho] at hk
  have hx := h.op x
  have hi := h.op i
  unfold indexC at hk
  split at hk
  · rename_i k n cs e1 e2
    rw [e1] at hi
    rw [e2] at hx
    split at hk
    · rename_i len e hu
      split at hk
      · cases hk
      · rename_i sz hs
        obtain ⟨hin, hk⟩ := cond_none hk
        split at hk
        · rename_i v hv
          replace hv := pickA_cut he hs (by have := inb_spec hin; omega) hv
          obtain ⟨ys, hy, hl, hvs⟩ := hx.agg_inv
          obtain ⟨d, hd⟩ := cut_under hv
          obtain ⟨y, h1, h2⟩ := run_part (P := E.P) R.w hd (by omega) hvs hv
          refine told_value h hk ?_ h2
          simp only [execOp, ho]
          refine run_value ?_
          simp [Instr.index, hi.flat_inv, asIntOf, run_underlying' R.w hu, hy, inb_spec hin, run_sizeOf' R.w hs, h1]
        · cases hk
    · cases hk
  · cases hk
theorem VR.vs_inv {D : Codec U} {R : Rl} {id : Nat} {y : Value} (h : VR D R (.vs id) y) : ∃ b n cap, R.hdr id = some (b, n, cap) ∧ y = .slice b n cap := by
  cases h with | vs h => exact ⟨_, _, _, h, rfl⟩
theorem told_indexAddr {o : Oper} {t : TypeId} {x i : Operand} {K : AV U → Eff U → Option ρ} {r : ρ} (h : SR E.D nt w0 N0 R s a) (ho : o.op = .indexAddr t x i)
    (hk : opK E o s.op (lk s.o) K = some r) : Told E nt w0 N0 R s a o K r := by
  unfold opK at hk
  simp only [ho] at hk
  have hx := (h.op x).drop.nilA (E := E) (t := t)
  have hi := h.op i
  unfold indexAddrC at hk
  split at hk
  · rename_i k n e1
    rw [e1] at hi
    have hi' := hi.flat_inv
    split at hk
    · rename_i len e hu
      split at hk
      · cases hk
      · rename_i sz hs
        have run : ∀ B o', a.eval x = .pointer (some ⟨B, o', none⟩) → inb n len = true →
            (execOp a.eval o).run E.P R.w = .ok (.value (.pointer (some ⟨B, o' + n.toNat * sz, none⟩))) R.w := by
          intro B o' hy hin
          simp only [execOp, ho]
          refine run_value ?_
          simp [Instr.indexAt, hi', asIntOf, run_underlying' R.w hu, hy, Instr.sureAddr, inb_spec hin, run_sizeOf' R.w hs, Addr.add_lit]
        split at hk
        · rename_i id off e2
          rw [e2] at hx
          obtain ⟨B, es, hb, hy⟩ := hx.ptr_inv
          split at hk
          · rename_i m c l hob
            obtain ⟨hc, hk2⟩ := cond_none hk
            clear hk
            obtain ⟨hin, hk⟩ := cond_none hk2
            clear hk2
            simp only [Bool.and_eq_true] at hc
            obtain ⟨⟨hc1, hc2⟩, hc3⟩ := hc
            replace hc1 := Nat.eq_of_beq_eq_true hc1
            replace hc2 := Nat.eq_of_beq_eq_true hc2
            subst hc1
            obtain ⟨B', arr, el, hb', _⟩ := h.objs id _ hob
            have hy' := run B 0 hy hin
            refine told_value h hk hy' ?_
            rw [Nat.zero_add, hc2]
            rw [hb] at hb'
            cases hb'
            exact .el (off := 0) hb
          · split at hk
            · obtain ⟨hin, hk⟩ := cond_none hk
              obtain ⟨j, _, _, hj, hk⟩ := splitK_some hk
              refine told_value h hk (run B off hy hin) ?_
              rw [hj, Int.toNat_natCast]
              exact .ptr hb
            obtain ⟨hin, hk⟩ := cond_none hk
            refine told_value h hk (run B off hy hin) ?_
            cases E.dyn t with
            | true => exact .pe (off := 0) hb
            | false => exact .ptr hb
          · cases hk
        · rename_i cs off e2
          rw [e2] at hx
          obtain ⟨hin, hk⟩ := cond_none hk
          obtain ⟨B, o', f, hy, hB, hc, hv⟩ := hx.rp_inv
          exact told_value h hk (run B _ hy hin) (by rw [Nat.add_assoc]; exact .rp f hB hc hv)
        · rename_i id j off e2
          rw [e2] at hx
          obtain ⟨B, es, hb, hy⟩ := hx.el_inv
          obtain ⟨hin, hk⟩ := cond_none hk
          exact told_value h hk (run B _ hy hin) (by rw [Nat.add_assoc]; exact .el hb)
        · rename_i id b z m i0 off e2
          rw [e2] at hx
          obtain ⟨hc, hk1⟩ := cond_none hk
          clear hk
          obtain ⟨hin, hk⟩ := cond_none hk1
          clear hk1
          simp only [Bool.and_eq_true] at hc
          have c1 := Nat.eq_of_beq_eq_true hc.1
          have c2 := Nat.eq_of_beq_eq_true hc.2
          subst c1
          subst c2
          obtain ⟨B, es, hb, hy⟩ : ∃ B es, R.blk id = some (B, es) ∧ a.eval x = .pointer (some ⟨B, b + i0 * (len * sz) + 0, none⟩) := by
            generalize a.eval x = y at hx
            cases hx with | pe hb => exact ⟨_, _, hb, rfl⟩
          refine told_value h hk (run B _ hy hin) ?_
          rw [show b + i0 * (len * sz) + 0 + n.toNat * sz = b + (i0 * len + n.toNat) * sz + 0 by rw [Nat.add_mul, Nat.mul_assoc]; omega]
          exact .pe hb
        · cases hk
    · rename_i e hu
      split at hk
      · rename_i c l e2
        rw [e2] at hx
        obtain ⟨hc, hk⟩ := cond_none hk
        obtain ⟨hin, hk⟩ := cond_none hk
        obtain ⟨h0, h1⟩ := inb_spec hin
        have hc' : szOf E.P e = some (E.D.size c) := by simpa using hc
        rcases hx.row_inv with ⟨rfl, _⟩ | ⟨B, o', cap, f, hy, hB, hl, hcell, hv⟩
        · simp at h1; omega
        · have hi : l[n.toNat]? = some (l.getD n.toNat (E.D.dflt c)) := by
            have : n.toNat < l.length := by omega
            rw [List.getD_eq_getElem?_getD, List.getElem?_eq_getElem this]; rfl
          have hr : (execOp a.eval o).run E.P R.w = .ok (.value (.pointer (some ⟨B, o' + n.toNat * E.D.size c, none⟩))) R.w := by
            simp only [execOp, ho]
            refine run_value ?_
            simp [Instr.indexAt, hi', asIntOf, run_underlying' R.w hu, hy, h0, h1, run_sizeOf' R.w hc', Addr.add_lit]
          refine told_value h hk hr (.rp (o := o' + n.toNat * E.D.size c) (f n.toNat) hB (fun j v hj => ?_) (fun j v hj => hv _ _ hi j v hj))
          rw [Nat.add_assoc]
          exact hcell _ _ hi j v hj
      · rename_i id e2
        rw [e2] at hx
        split at hk
        · rename_i c l hob
          obtain ⟨hc, hk⟩ := cond_none hk
          obtain ⟨hin, hk⟩ := cond_none hk
          obtain ⟨h0, h1⟩ := inb_spec hin
          have hc' : szOf E.P e = some (E.D.size c) := by simpa using hc
          obtain ⟨b, m, cap, e3, hy⟩ := hx.vs_inv
          obtain ⟨b', cap', e4, hor⟩ := h.objs id _ hob
          rw [e3] at e4
          cases e4
          rcases hor with ⟨rfl, _⟩ | ⟨B, arr, el, rfl, hblk, hheap, hl, hsz, hcv⟩
          · simp at h1; omega
          have hr : (execOp a.eval o).run E.P R.w = .ok (.value (.pointer (some ⟨B, 0 + n.toNat * E.D.size c, none⟩))) R.w := by
            simp only [execOp, ho]
            refine run_value ?_
            simp [Instr.indexAt, hi', asIntOf, run_underlying' R.w hu, hy, h0, h1, run_sizeOf' R.w hc', Addr.add_lit]
          refine told_value h hk hr ?_
          rw [Nat.zero_add]
          exact .el (i := n.toNat) (off := 0) hblk
        · cases hk
      · cases hk
    · cases hk
  · cases hk
theorem encs_get {D : Codec U} (L : Lawful D) {c : U.C} {l : List (U.El c)} : ∀ (n : Nat), n ≤ l.length → ∀ (k : Nat) (v : AV U), (encs D c l n)[k]? = some v →
    (encs D c l n).length = n * D.size c ∧ ∃ i j x, i < n ∧ l[i]? = some x ∧ (D.enc c x)[j]? = some v ∧ k = i * D.size c + j
  | 0, _, k, v, h => by simp [encs] at h
  | n + 1, hn, k, v, h => by
    have hx : l[n]? = some (l.getD n (D.dflt c)) := by
      rw [List.getD_eq_getElem?_getD, List.getElem?_eq_getElem (show n < l.length by omega)]; rfl
    have hlen : (encs D c l n).length = n * D.size c := by
      clear h hx
      induction n with
      | zero => simp [encs]
      | succ n ih => simp [encs, ih (by omega), L.enc_len, Nat.succ_mul]
    simp only [encs] at h ⊢
    refine ⟨by simp [hlen, L.enc_len, Nat.succ_mul], ?_⟩
    rw [List.getElem?_append] at h
    split at h
    · obtain ⟨_, i, j, x, hi, h1, h2, h3⟩ := encs_get L n (by omega) k v h
      exact ⟨i, j, x, by omega, h1, h2, h3⟩
    · rename_i hge
      rw [hlen] at h hge
      exact ⟨n, k - n * D.size c, _, by omega, hx, h, by omega⟩
theorem encs_len {D : Codec U} (L : Lawful D) {c : U.C} {l : List (U.El c)} : ∀ (n : Nat), (encs D c l n).length = n * D.size c
  | 0 => by simp [encs]
  | n + 1 => by simp [encs, encs_len L n, L.enc_len, Nat.succ_mul]
theorem load_core (he : EnvOk E) {t : TypeId} {x v : AV U} {p : Value} (h : SR E.D nt w0 N0 R s a) (hx : VR E.D R x p) (hv : loadAt E (lk s.o) t x = some v) :
    ∃ b y, p = .pointer (some b) ∧ (loadVar t b).run E.P R.w = .ok y R.w ∧ VR E.D R v y := by
  have done : ∀ {B o' off : Nat} {cs : List (AV U)} (f : Nat → Value), p = .pointer (some ⟨B, o' + off, none⟩) → cut E.P t cs off = some v →
      (∀ (i : Nat) (x : AV U), cs[i]? = some x → R.w.cell? ⟨B, o' + i, none⟩ = some (f i) ∧ VR E.D R x (f i)) →
      ∃ b y, p = .pointer (some b) ∧ (loadVar t b).run E.P R.w = .ok y R.w ∧ VR E.D R v y := by
    intro B o' off cs f hy hc hr
    obtain ⟨d, hd⟩ := cut_under hc
    obtain ⟨y, h1, h2⟩ := run_loadVar f hd hc hr
    exact ⟨_, y, hy, h1, h2⟩
  have arrcells : ∀ {B : Nat} {arr : Array Value} {el : TypeId} {cs : List (AV U)} {off : Nat}, R.w.heap[B]? = some (.cells arr el (0, 0)) → off + cs.length ≤ arr.size →
      (∀ (i : Nat) (x : AV U) (y : Value), cs[i]? = some x → arr[off + i]? = some y → VR E.D R x y) →
      ∀ (i : Nat) (x : AV U), cs[i]? = some x → R.w.cell? ⟨B, off + i, none⟩ = some (arr.getD (off + i) undef) ∧ VR E.D R x (arr.getD (off + i) undef) := by
    intro B arr el cs off hb hl hv i x hx'
    have hi := (List.getElem?_eq_some_iff.1 hx').1
    have hlt : off + i < arr.size := by omega
    have hg : arr.getD (off + i) undef = arr[off + i] := by simp [Array.getD_eq_getD_getElem?, Array.getElem?_eq_getElem hlt]
    rw [hg]
    exact ⟨by simp [World.cell?, hb, Array.getElem?_eq_getElem hlt], hv i x _ hx' (Array.getElem?_eq_getElem hlt)⟩
  unfold loadAt at hv
  split at hv
  · rename_i id off
    obtain ⟨B, es, hb, hy⟩ := hx.ptr_inv
    split at hv
    · rename_i cs hob
      obtain ⟨B', es', arr, el, hb', hheap, hl, hcv⟩ := h.objs id _ hob
      rw [hb] at hb'; cases hb'
      have := arrcells (cs := cs) (off := 0) hheap (by omega) (fun i x y hx hy => hcv i x y hx (by simpa using hy))
      exact done (o' := 0) (fun i => arr.getD (0 + i) undef) (by simpa using hy) hv this
    · rename_i n c l hob
      split at hv
      · obtain ⟨B', arr, el, hb', hheap, hl, hsz, hcv⟩ := h.objs id _ hob
        rw [hb] at hb'; cases hb'
        have := arrcells (cs := encs E.D c l n) (off := 0) hheap (by rw [encs_len he.law]; omega) (fun i x y hx hy => by
          obtain ⟨_, p, q, z, hp, h1, h2, h3⟩ := encs_get he.law n (by omega) i x hx
          exact hcv p z h1 q x y h2 (by rw [← h3]; simpa using hy))
        exact done (o' := 0) (fun i => arr.getD (0 + i) undef) (by simpa using hy) hv this
      · cases hv
    · cases hv
  · rename_i id i off
    obtain ⟨B, es, hb, hy⟩ := hx.el_inv
    split at hv
    · rename_i m c l hob
      obtain ⟨B', arr, el, hb', hheap, hl, hsz, hcv⟩ := h.objs id _ hob
      rw [hb] at hb'; cases hb'
      obtain ⟨hilt, hv⟩ := cond_none hv
      have hilt : i < m := Nat.le_of_ble_eq_true hilt
      have hg : l[i]? = some (l.getD i (E.D.dflt c)) := by
        rw [List.getD_eq_getElem?_getD, List.getElem?_eq_getElem (show i < l.length by omega)]; rfl
      have := arrcells (cs := E.D.enc c (l.getD i (E.D.dflt c))) (off := i * E.D.size c) hheap (by
        rw [he.law.enc_len, hsz, ← Nat.succ_mul]; exact Nat.mul_le_mul_right _ hilt) (fun j v y hj hy => hcv i _ hg j v y hj hy)
      exact done (fun j => arr.getD (i * E.D.size c + j) undef) hy hv this
    · rename_i c l hob
      obtain ⟨hilt, hv⟩ := cond_none hv
      have hilt : i < l.length := Nat.le_of_ble_eq_true hilt
      obtain ⟨b, cap, _, hor⟩ := h.objs id _ hob
      rcases hor with ⟨rfl, _⟩ | ⟨B', arr, el, _, hb', hheap, hl, hsz, hcv⟩
      · simp at hilt
      rw [hb] at hb'; cases hb'
      have hg : l[i]? = some (l.getD i (E.D.dflt c)) := by
        rw [List.getD_eq_getElem?_getD, List.getElem?_eq_getElem (show i < l.length by omega)]; rfl
      have := arrcells (cs := E.D.enc c (l.getD i (E.D.dflt c))) (off := i * E.D.size c) hheap (by
        rw [he.law.enc_len, ← Nat.succ_mul]; exact Nat.le_trans (Nat.mul_le_mul_right _ (show i + 1 ≤ cap by omega)) hsz) (fun j v y hj hy => hcv i _ hg j v y hj hy)
      exact done (fun j => arr.getD (i * E.D.size c + j) undef) hy hv this
    · cases hv
  · rename_i cs off
    obtain ⟨B, o', f, hy, hB, hc, hvv⟩ := hx.rp_inv
    exact done f hy hv (fun i x hx => ⟨(hc i x hx).1, hvv i x hx⟩)
  · cases hv
theorem told_load (he : EnvOk E) {o : Oper} {t : TypeId} {x : Operand} {K : AV U → Eff U → Option ρ} {r : ρ} (h : SR E.D nt w0 N0 R s a) (ho : o.op = .load t x)
    (hk : opK E o s.op (lk s.o) K = some r) : Told E nt w0 N0 R s a o K r := by
  unfold opK at hk
  simp only [ho] at hk
  obtain ⟨hel, hk⟩ := cond_none hk
  obtain ⟨v, hv, hk⟩ := kont_some hk
  replace hv := loadAt_of hel hv
  obtain ⟨b, y, hb, h1, h2⟩ := load_core he h (h.op x).plainAt hv
  exact told_value h hk (by simp only [execOp, ho]; exact run_value (by simp [Instr.loadAt, hb, Instr.sureAddr, h1])) h2.tidy
theorem over_len {xs ys : List (AV U)} {i : Nat} (h : i + ys.length ≤ xs.length) : (over xs i ys).length = xs.length := by
  simp [over]; omega
theorem over_get {xs ys : List (AV U)} {i : Nat} (h : i + ys.length ≤ xs.length) (k : Nat) :
    (over xs i ys)[k]? = if i ≤ k ∧ k < i + ys.length then ys[k - i]? else xs[k]? := by
  unfold over
  have hl : (xs.take i).length = i := by simp; omega
  by_cases h1 : k < i
  · rw [if_neg (by omega), List.append_assoc, List.getElem?_append_left (by omega), List.getElem?_take, if_pos h1]
  · by_cases h2 : k < i + ys.length
    · rw [if_pos ⟨by omega, h2⟩, List.append_assoc, List.getElem?_append_right (by omega), List.getElem?_append_left (by omega), hl]
    · rw [if_neg (by omega), List.getElem?_append_right (by simp; omega), List.getElem?_drop]
      congr 1
      simp
      omega
theorem told_store (he : EnvOk E) {o : Oper} {t : TypeId} {x z : Operand} {K : AV U → Eff U → Option ρ} {r : ρ} (h : SR E.D nt w0 N0 R s a) (ho : o.op = .store t x z)
    (hk : opK E o s.op (lk s.o) K = some r) : Told E nt w0 N0 R s a o K r := by
  unfold opK at hk
  simp only [ho] at hk
  obtain ⟨hel, hk⟩ := cond_none hk
  obtain ⟨⟨id', ob⟩, hv, hk⟩ := kont_some hk
  replace hv := storeAt_of hel hv
  have hx := (h.op x).plainAt
  have hz := (h.op z).stV (E := E) (ob := lk s.o) (t := t) (a := s.op x)
  unfold storeAt at hv
  split at hv
  · cases hv
  · rename_i n hs
    obtain ⟨hc, hv⟩ := cond_none hv
    simp only [Bool.and_eq_true] at hc
    obtain ⟨hn, hok⟩ := hc
    replace hn := Nat.eq_of_beq_eq_true hn
    obtain ⟨hzl, hzv⟩ := hz.cells hok
    have hone : ∀ (i : Nat) (v : Value), (a.eval z).cells[i]? = some v → One v := fun i v hi => by
      have hlt := (Array.getElem?_eq_some_iff.1 hi).1
      exact (hzv i _ v (List.getElem?_eq_getElem (by omega)) hi).2
    have fin : ∀ {B o' es : Nat} {arr : Array Value} {el : TypeId} {o0 : Obj U}, a.eval x = .pointer (some ⟨B, o', none⟩) → lk s.o id' = some o0 → o0.whole → R.blk id' = some (B, es) →
        R.w.heap[B]? = some (.cells arr el (0, 0)) → o' + n ≤ arr.size → ob.whole →
        (∀ (w' : World) (arr' : Array Value), R.le { R with w := w' } → w'.heap[B]? = some (.cells arr' el (0, 0)) → arr'.size = arr.size →
          (∀ k, arr'[k]? = if o' ≤ k ∧ k < o' + n then (a.eval z).cells[k - o']? else arr[k]?) → OR E.D { R with w := w' } id' ob) → Told E nt w0 N0 R s a o K r := by
      intro B o' es arr el o0 hy hid hwh hb hheap hle how hor
      have hal : o0.alive := by cases o0 <;> first | exact True.intro | exact hwh.elim
      obtain ⟨w', arr', h1, h2, h3, h4, h5, h6, h7, h8, h9⟩ := run_storeVar (P := E.P) hs hheap (by omega) hle hone
      have hN := (h.own id' o0 B es hid hal hb).1 hwh
      have hle' : R.le { R with w := w' } := ⟨fun _ _ e => e, fun _ _ e => e, fun _ _ _ e => e, by simp [h5], fun b i _ hn' => ⟨obs_block (h6 b (fun e => hn' (e ▸ hN i))), hn'⟩⟩
      obtain ⟨hle2, hsr⟩ := h.write hid hal hwh how hb h5 h6 h7 h8 h9 (hor w' arr' hle' h2 h3 h4)
      refine ⟨.undef, [(id', ob)], hk, fun next Q hnext => ?_⟩
      unfold Oper.wp
      have hrun : (execOp a.eval o).run E.P R.w = .ok .skip w' := by
        simp only [execOp, ho]
        simp [Instr.storeAt, hy, Instr.sureAddr, h1]
      rw [hrun]
      exact hnext undef { R with w := w' } hle2 (.undef _) hsr
    split at hv
    · rename_i id off e1
      rw [e1] at hx
      obtain ⟨B, es, hb, hy⟩ := hx.ptr_inv
      split at hv
      · rename_i cs hob
        obtain ⟨hle, hv⟩ := cond_none hv
        replace hle := Nat.le_of_ble_eq_true hle
        cases hv
        obtain ⟨B', es', arr, el, hb', hheap, hl, hcv⟩ := h.objs _ _ hob
        rw [hb] at hb'; cases hb'
        refine fin hy hob True.intro hb hheap (by omega) True.intro (fun w' arr' hle' h2 h3 h4 => ?_)
        refine ⟨B, es, arr', el, hb, h2, by rw [over_len (by omega)]; omega, fun i u y hu hy' => ?_⟩
        rw [over_get (by omega)] at hu
        rw [h4 i] at hy'
        rw [← hn] at hu
        split at hu
        · rename_i hin
          rw [if_pos hin] at hy'
          exact ((hzv _ u y hu hy').1).mono hle'
        · rename_i hin
          rw [if_neg hin] at hy'
          exact (hcv i u y hu hy').mono hle'
      · rename_i m c l hob
        split at hv
        · split at hv
          · rename_i l' hl'
            cases hv
            obtain ⟨B', arr, el, hb', hheap, hl, hsz, hcv⟩ := h.objs _ _ hob
            rw [hb] at hb'; cases hb'
            obtain ⟨d1, d2, d3⟩ := decs_spec he.law m _ l' hl'
            refine fin hy hob True.intro hb hheap (by omega) True.intro (fun w' arr' hle' h2 h3 h4 => ?_)
            refine ⟨B, arr', el, hb, h2, d1, by omega, fun i u hu j v y hv' hy' => ?_⟩
            have := d3 i u hu j v hv'
            have hlt := (List.getElem?_eq_some_iff.1 this).1
            rw [h4, if_pos ⟨by omega, by omega⟩] at hy'
            exact ((hzv _ v y this (by simpa using hy')).1).mono hle'
          · cases hv
        · cases hv
      · cases hv
    · rename_i id i off e1
      rw [e1] at hx
      obtain ⟨B, es, hb, hy⟩ := hx.el_inv
      split at hv
      · rename_i m c l hob
        obtain ⟨hil, hv⟩ := cond_none hv
        simp only [Bool.and_eq_true] at hil
        have hilt : i < m := Nat.le_of_ble_eq_true hil.1
        have hoff : off + n ≤ E.D.size c := Nat.le_of_ble_eq_true hil.2
        split at hv
        · rename_i q hq
          cases hv
          obtain ⟨B', arr, el, hb', hheap, hl, hsz, hcv⟩ := h.objs _ _ hob
          rw [hb] at hb'; cases hb'
          have henc := he.law.dec_enc _ _ _ hq
          have hg : l[i]? = some (l.getD i (E.D.dflt c)) := by
            rw [List.getD_eq_getElem?_getD, List.getElem?_eq_getElem (show i < l.length by omega)]; rfl
          have hmul : i * E.D.size c + E.D.size c ≤ m * E.D.size c := by rw [← Nat.succ_mul]; exact Nat.mul_le_mul_right _ hilt
          refine fin hy hob True.intro hb hheap (by omega) True.intro (fun w' arr' hle' h2 h3 h4 => ?_)
          refine ⟨B, arr', el, hb, h2, by simpa using hl, by omega, fun k u hu j v y hv' hy' => ?_⟩
          rw [h4] at hy'
          have hjlt : j < E.D.size c := by have := (List.getElem?_eq_some_iff.1 hv').1; rwa [he.law.enc_len] at this
          by_cases hki : k = i
          · subst hki
            rw [List.getElem?_set_self (by omega)] at hu
            cases hu
            rw [← henc, over_get (by rw [he.law.enc_len]; omega), ← hn] at hv'
            split at hv'
            · rename_i hin
              rw [if_pos ⟨by omega, by omega⟩] at hy'
              refine ((hzv _ v y hv' ?_).1).mono hle'
              rw [← hy']
              congr 1
              omega
            · rename_i hin
              rw [if_neg (by omega)] at hy'
              exact (hcv k _ hg j v y hv' hy').mono hle'
          · rw [List.getElem?_set_ne (Ne.symm hki)] at hu
            have hout : ¬ (i * E.D.size c + off ≤ k * E.D.size c + j ∧ k * E.D.size c + j < i * E.D.size c + off + n) := by
              rintro ⟨a1, a2⟩
              rcases Nat.lt_or_gt_of_ne hki with hlt | hgt
              · have : k * E.D.size c + E.D.size c ≤ i * E.D.size c := by rw [← Nat.succ_mul]; exact Nat.mul_le_mul_right _ hlt
                omega
              · have : i * E.D.size c + E.D.size c ≤ k * E.D.size c := by rw [← Nat.succ_mul]; exact Nat.mul_le_mul_right _ hgt
                omega
            rw [if_neg hout] at hy'
            exact (hcv k u hu j v y hv' hy').mono hle'
        · cases hv
      · rename_i c l hob
        obtain ⟨hil, hv⟩ := cond_none hv
        simp only [Bool.and_eq_true] at hil
        have hilt : i < l.length := Nat.le_of_ble_eq_true hil.1
        have hoff : off + n ≤ E.D.size c := Nat.le_of_ble_eq_true hil.2
        split at hv
        · rename_i q hq
          cases hv
          obtain ⟨b0, cap, hhd, hor⟩ := h.objs _ _ hob
          rcases hor with ⟨hl0, _⟩ | ⟨B', arr, el, hbe, hb', hheap, hl, hsz, hcv⟩
          · rw [hl0] at hilt; simp at hilt
          rw [hb] at hb'; cases hb'
          have henc := he.law.dec_enc _ _ _ hq
          have hg : l[i]? = some (l.getD i (E.D.dflt c)) := by
            rw [List.getD_eq_getElem?_getD, List.getElem?_eq_getElem (show i < l.length by omega)]; rfl
          have hmul : i * E.D.size c + E.D.size c ≤ cap * E.D.size c := by rw [← Nat.succ_mul]; exact Nat.mul_le_mul_right _ (by omega)
          refine fin hy hob True.intro hb hheap (by omega) True.intro (fun w' arr' hle' h2 h3 h4 => ?_)
          refine ⟨b0, cap, by simpa using hhd, .inr ⟨B, arr', el, hbe, hb, h2, by simpa using hl, by omega, fun k u hu j v y hv' hy' => ?_⟩⟩
          rw [h4] at hy'
          have hjlt : j < E.D.size c := by have := (List.getElem?_eq_some_iff.1 hv').1; rwa [he.law.enc_len] at this
          by_cases hki : k = i
          · subst hki
            rw [List.getElem?_set_self (by omega)] at hu
            cases hu
            rw [← henc, over_get (by rw [he.law.enc_len]; omega), ← hn] at hv'
            split at hv'
            · rename_i hin
              rw [if_pos ⟨by omega, by omega⟩] at hy'
              refine ((hzv _ v y hv' ?_).1).mono hle'
              rw [← hy']
              congr 1
              omega
            · rename_i hin
              rw [if_neg (by omega)] at hy'
              exact (hcv k _ hg j v y hv' hy').mono hle'
          · rw [List.getElem?_set_ne (Ne.symm hki)] at hu
            have hout : ¬ (i * E.D.size c + off ≤ k * E.D.size c + j ∧ k * E.D.size c + j < i * E.D.size c + off + n) := by
              rintro ⟨a1, a2⟩
              rcases Nat.lt_or_gt_of_ne hki with hlt | hgt
              · have : k * E.D.size c + E.D.size c ≤ i * E.D.size c := by rw [← Nat.succ_mul]; exact Nat.mul_le_mul_right _ hlt
                omega
              · have : i * E.D.size c + E.D.size c ≤ k * E.D.size c := by rw [← Nat.succ_mul]; exact Nat.mul_le_mul_right _ hgt
                omega
            rw [if_neg hout] at hy'
            exact (hcv k u hu j v y hv' hy').mono hle'
        · cases hv
      · cases hv
    · cases hv
theorem nilC_vr {D : Codec U} {R : Rl} (v : Value) (c : Option U.C) : VR D R (nilC v c) v := by
  unfold nilC
  split
  · exact .rownil
  · exact .flat _
theorem zeroCells_inv {E : Env U} {t : TypeId} {z : List (AV U)} (h : zeroCells E t = some z) :
    ∃ i v, E.P.info? t = some i ∧ i.zero = some v ∧ z.length = v.cells.size ∧ ∀ (D : Codec U) (R : Rl) (i : Nat) (x : AV U) (y : Value), z[i]? = some x → v.cells[i]? = some y → VR D R x y := by
  have flats : ∀ (v : Value) (D : Codec U) (R : Rl) (i : Nat) (x : AV U) (y : Value), (v.cells.toList.map (AV.flat (U := U)))[i]? = some x → v.cells[i]? = some y → VR D R x y := by
    intro v D R i x y hx hy
    simp only [List.getElem?_map, Option.map_eq_some_iff] at hx
    obtain ⟨u, hu, rfl⟩ := hx
    have : v.cells.toList[i]? = some y := by simpa using hy
    rw [hu] at this
    cases this
    exact .flat _
  unfold zeroCells at h
  split at h
  · rename_i i hi
    split at h
    · rename_i hv
      have one : ∀ (u : AV U), (∀ (D : Codec U) (R : Rl), VR D R u (.map none)) → z = [u] → ∃ i v, E.P.info? t = some i ∧ i.zero = some v ∧ z.length = v.cells.size ∧ ∀ (D : Codec U) (R : Rl) (i : Nat) (x : AV U) (y : Value), z[i]? = some x → v.cells[i]? = some y → VR D R x y := fun u hu e => by
        subst e
        refine ⟨i, _, hi, hv, rfl, fun D R k x y hx hy => ?_⟩
        cases k with
        | succ k => cases hx
        | zero => cases hx; cases hy; exact hu D R
      split at h
      · rename_i u hu
        cases h
        exact one _ (fun D R => nilF_vr hu) rfl
      · cases h
        exact one _ (fun D R => .flat _) rfl
    · rename_i v _ hv
      split at h
      · rename_i cs hcs
        cases hl : Nat.beq cs.length v.cells.size with
        | true =>
          rw [hl, cond_true] at h
          cases h
          have hl := Nat.eq_of_beq_eq_true hl
          refine ⟨i, v, hi, hv, by simp [hl], fun D R k x y hx hy => ?_⟩
          simp only [List.getElem?_zipWith] at hx
          have hy' : v.cells.toList[k]? = some y := by simpa using hy
          rw [hy'] at hx
          cases hc : cs[k]? with
          | none => rw [hc] at hx; cases hx
          | some c =>
            rw [hc] at hx
            cases hx
            exact nilC_vr y c
        | false =>
          rw [hl, cond_false] at h
          cases h
          exact ⟨i, v, hi, hv, by simp, flats v⟩
      · cases h
        exact ⟨i, v, hi, hv, by simp, flats v⟩
    · cases h
  · cases h
theorem newObj_or (he : EnvOk E) {t : TypeId} {cs : List (AV U)} {n : Obj U} {arr : Array Value} {id : Nat} (hf : lk s.o id = none) (h : SR E.D nt w0 N0 R s a) (hn : newObj E t cs = some n)
    (hl : cs.length = arr.size) (hv : ∀ (i : Nat) (x : AV U) (y : Value), cs[i]? = some x → arr[i]? = some y → VR E.D R x y) :
    ∃ es, OR E.D (R.alloc (.cells arr t) id es) id n := by
  have hblk := (h.none id hf).1
  have hhdr := (h.none id hf).2
  have hnew : ∀ es, (R.alloc (.cells arr t) id es).w.heap[R.w.heap.size]? = some (.cells arr t (0, 0)) := by
    intro es
    show (R.w.heap.push _)[R.w.heap.size]? = _
    simp
  have hb : ∀ es, (R.alloc (.cells arr t) id es).blk id = some (R.w.heap.size, es) := fun es => by simp [Rl.alloc, Rl.fresh]
  unfold newObj at hn
  split at hn
  · cases hn
    exact ⟨0, R.w.heap.size, 0, arr, t, hb 0, hnew 0, hl, fun i x y hx hy => (hv i x y hx hy).mono (Rl.alloc_le hblk hhdr)⟩
  · rename_i m c hm
    split at hn
    · rename_i l hd
      cases hn
      obtain ⟨d1, d2, d3⟩ := decs_spec he.law m cs l hd
      refine ⟨E.D.size c, R.w.heap.size, arr, t, hb _, hnew _, d1, by omega, fun i x hx j v y hv' hy => ?_⟩
      exact (hv _ v y (d3 i x hx j v hv') hy).mono (Rl.alloc_le hblk hhdr)
    · cases hn
theorem told_new (he : EnvOk E) {o : Oper} {t : TypeId} {id : Nat} {cs : List (AV U)} {n : Obj U} {y : Value} {K : AV U → Eff U → Option ρ} {r : ρ} (h : SR E.D nt w0 N0 R s a)
    (hn : newObj E t cs = some n) (hf : lk s.o id = none) (hl : cs.length = y.cells.size) (hv : ∀ (i : Nat) (x : AV U) (z : Value), cs[i]? = some x → y.cells[i]? = some z → VR E.D R x z)
    (hrun : (execOp a.eval o).run E.P R.w = .ok (.value (.pointer (some ⟨R.w.heap.size, 0, none⟩))) (R.w.alloc (.cells y.cells t)))
    (hk : K (.ptr id 0) [(id, n)] = some r) : Told E nt w0 N0 R s a o K r := by
  obtain ⟨es, hor⟩ := newObj_or he hf h hn hl hv
  refine ⟨_, _, hk, fun next Q hnext => ?_⟩
  unfold Oper.wp
  rw [hrun]
  exact hnext _ (R.alloc (.cells y.cells t) id es) (Rl.alloc_le (h.none id hf).1 (h.none id hf).2) (.ptr (es := es) (by simp [Rl.alloc, Rl.fresh])) (h.alloc hf hor)
theorem rawCells_inv {E : Env U} {t : TypeId} {z : List (AV U)} (h : rawCells E t = some z) :
    ∃ i v, E.P.info? t = some i ∧ i.zero = some v ∧ z.length = v.cells.size ∧ ∀ (D : Codec U) (R : Rl) (i : Nat) (x : AV U) (y : Value), z[i]? = some x → v.cells[i]? = some y → VR D R x y := by
  unfold rawCells at h
  split at h
  · exact zeroCells_inv h
  · split at h
    · rename_i i hi
      split at h
      · rename_i v hv
        cases h
        refine ⟨i, v, hi, hv, by simp, fun D R k x y hx hy => ?_⟩
        simp only [List.getElem?_map, Option.map_eq_some_iff] at hx
        obtain ⟨u, hu, rfl⟩ := hx
        have : v.cells.toList[k]? = some y := by simpa using hy
        rw [hu] at this
        cases this
        exact .flat _
      · cases h
    · cases h
theorem told_alloc (he : EnvOk E) {o : Oper} {t : TypeId} {K : AV U → Eff U → Option ρ} {r : ρ} (h : SR E.D nt w0 N0 R s a) (ho : o.op = .alloc t)
    (hk : opK E o s.op (lk s.o) K = some r) : Told E nt w0 N0 R s a o K r := by
  unfold opK at hk
  simp only [ho] at hk
  split at hk
  · rename_i d hd
    obtain ⟨z, hz, hk2⟩ := kont_some hk
    clear hk
    obtain ⟨n, hn, hk3⟩ := kont_some hk2
    clear hk2
    split at hk3
    · rename_i hf
      obtain ⟨i, v, hi, hzv, hzl, hzr⟩ := rawCells_inv hz
      refine told_new he (y := v) h hn hf hzl (fun i x y hx hy => hzr _ _ i x y hx hy) ?_ hk3
      · simp only [execOp, ho]
        refine run_value ?_
        simp [Instr.alloc, zeroValue, run_typeInfo' R.w hi, hzv, newVar, newRow, Go.newObj, Sem.run]
    · cases hk3
  · cases hk
theorem okCells_inv {x : AV U} {z : List (AV U)} (h : okCells x = some z) : z = x.cells ∧ x.cells.all okCell = true := by
  unfold okCells at h
  obtain ⟨h1, h2⟩ := cond_none h
  cases h2
  exact ⟨rfl, h1⟩
theorem told_box (he : EnvOk E) {o : Oper} {t : TypeId} {x : Operand} {K : AV U → Eff U → Option ρ} {r : ρ} (h : SR E.D nt w0 N0 R s a) (ho : o.op = .box t x)
    (hk : opK E o s.op (lk s.o) K = some r) : Told E nt w0 N0 R s a o K r := by
  unfold opK at hk
  simp only [ho] at hk
  split at hk
  · rename_i d hd
    obtain ⟨z, hz, hk2⟩ := kont_some hk
    clear hk
    obtain ⟨n, hn, hk3⟩ := kont_some hk2
    clear hk2
    obtain ⟨rfl, hok⟩ := okCells_inv hz
    obtain ⟨hl, hv⟩ := (h.op x).drop.cells hok
    split at hk3
    · rename_i hf
      refine told_new he (y := a.eval x) h hn hf hl (fun i x y hx hy => (hv i x y hx hy).1) ?_ hk3
      simp only [execOp, ho]
      refine run_value ?_
      simp [Instr.box, newVar, newRow, Go.newObj, Sem.run]
    · cases hk3
  · cases hk
end
end Go.Ev
