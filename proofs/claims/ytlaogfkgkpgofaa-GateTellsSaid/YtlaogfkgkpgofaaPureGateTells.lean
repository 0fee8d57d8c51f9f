/- GateTells: the gate answers as the document's. No conditions but size. -/
import Derived.Test.YtlaogfkgkpgofaaGd
namespace Go.Proofs.Ytlaogfkgkpgofaa.Pure
set_option linter.unusedVariables false
set_option linter.unusedSimpArgs false
open Go Go.Ev Go.Lm Go.Pu Go.Dg
theorem bind_ex {α β γ : Type} {X : Option α} {G : α → Option β} {P : γ → Prop} {f : γ → Option β} (Q : α → Prop) (h : ∃ v, X = some v ∧ Q v) (h' : ∀ v, Q v → ∃ x', G v = f x' ∧ P x') : ∃ x', X.bind G = f x' ∧ P x' := by
  obtain ⟨v, rfl, hv⟩ := h
  exact h' v hv
def code (k : Sgate_Key) : Nat := (k.f_Group * 12 + k.f_Line * 4 + k.f_Period * 2 + k.f_Version).toNat
theorem code_inj {a b : Sgate_Key} (ha : KRange a) (hb : KRange b) (h : code a = code b) : a = b := by
  obtain ⟨a1, a2, a3, a4⟩ := a
  obtain ⟨b1, b2, b3, b4⟩ := b
  unfold KRange at ha hb
  unfold code at h
  dsimp only at *
  obtain rfl : a1 = b1 := by omega
  obtain rfl : a2 = b2 := by omega
  obtain rfl : a3 = b3 := by omega
  obtain rfl : a4 = b4 := by omega
  rfl
theorem code_lt {a : Sgate_Key} (ha : KRange a) : code a < 48 := by
  unfold KRange at ha
  unfold code
  omega
def GInv (l : List Sgate_Out) (at_ : List (Sgate_Key × Int)) : Prop := AT l at_ ∧ (∀ x ∈ l, KRange x.f_K ∧ (0 ≤ x.f_To.f_Set ∧ x.f_To.f_Set < 4)) ∧ (l.map (fun x => code x.f_K)).Nodup
theorem GInv.len {l : List Sgate_Out} {at_ : List (Sgate_Key × Int)} (h : GInv l at_) : l.length ≤ 48 := by
  have := nodup_lt 48 _ h.2.2 (fun n hn => by
    obtain ⟨x, hx, rfl⟩ := List.mem_map.1 hn
    exact code_lt (h.2.1 x hx).1)
  rw [List.length_map] at this
  exact this
theorem GInv_rel {l : List Sgate_Out} {at_ : List (Sgate_Key × Int)} (h : GInv l at_) {r : Sapi_Rule} (hr : 0 ≤ r.f_To.f_Set ∧ r.f_To.f_Set < 4) (n : Int) {key : Sgate_Key} (hk : KRange key) (d : Sapi_Dec) : GInv (relR l at_ r n key d).2.2.2.f_l (relR l at_ r n key d).2.2.2.f_at := by
  unfold relR
  split
  · exact h
  · split
    · exact h
    · rename_i hm
      split
      · exact h
      · obtain ⟨h1, h2, h3⟩ := h
        have hkey := h1 key
        rw [hm] at hkey
        have hkey : l.find? (fun x => keq_Sgate_Key key x.f_K) = none := hkey
        refine ⟨AT_app (x := ⟨key, n, (uR d r.f_Unit).1, r.f_To⟩) h1 hm, fun x hx => ?_, ?_⟩
        · dsimp only at hx
          rcases List.mem_append.1 hx with hx | hx
          · exact h2 x hx
          · simp only [List.mem_cons, List.not_mem_nil, or_false] at hx
            subst hx
            exact ⟨hk, hr⟩
        · dsimp only
          rw [List.map_append, List.nodup_append]
          refine ⟨h3, by simp, ?_⟩
          intro a ha b hb he
          simp only [List.map_cons, List.map_nil, List.mem_cons, List.not_mem_nil, or_false] at hb
          obtain ⟨x, hx, rfl⟩ := List.mem_map.1 ha
          have := code_inj (h2 x hx).1 hk (he.trans hb)
          have h5 := List.find?_eq_none.1 hkey x hx
          exact h5 ((keq_iff _ _).2 this.symm)
theorem known25 {k : Nat} (hk : 2000 < k) : pyxlaw25_known.f k = some true := by
  unfold pyxlaw25_known.f
  have g0 : gate_New.f k = some ⟨[], []⟩ := rfl
  have o1 : pyxref1_Of.f k 100 0 = some (DV 100 0) := ROf_DV (by omega) (by omega) 0
  have o2 : pyxref1_Of.f k 250 0 = some (DV 250 0) := ROf_DV (by omega) (by omega) 0
  have o3 : pyxref1_Of.f k 900 0 = some (DV 900 0) := ROf_DV (by omega) (by omega) 0
  have o4 : pyxref1_Of.f k 200 0 = some (DV 200 0) := ROf_DV (by omega) (by omega) 0
  have w1 : W2 (DV 250 0).f_C := Sm_w2 (by unfold Sm; decide)
  have w2' : W2 (DV 900 0).f_C := Sm_w2 (by unfold Sm; decide)
  have w3 : W2 (DV 100 0).f_C := Sm_w2 (by unfold Sm; decide)
  have e1 : relR [] [] ⟨3, 0, 0, 0, 0, 0, DV 100 0, ⟨0, 0⟩⟩ 4 ⟨0, 0, 0, 0⟩ (DV 250 0) = (DV 200 0, true, 0, ⟨[⟨⟨0, 0, 0, 0⟩, 4, DV 200 0, ⟨0, 0⟩⟩], [(⟨0, 0, 0, 0⟩, 0)]⟩) := by kernel_rfl
  have e2 : relR [⟨⟨0, 0, 0, 0⟩, 4, DV 200 0, ⟨0, 0⟩⟩] [(⟨0, 0, 0, 0⟩, 0)] ⟨3, 0, 0, 0, 0, 0, DV 100 0, ⟨0, 0⟩⟩ 5 ⟨0, 0, 0, 0⟩ (DV 900 0) = (DV 200 0, false, 0, ⟨[⟨⟨0, 0, 0, 0⟩, 4, DV 200 0, ⟨0, 0⟩⟩], [(⟨0, 0, 0, 0⟩, 0)]⟩) := by kernel_rfl
  have r1 : gate_Gate_Release.f k ⟨[], []⟩ ⟨3, 0, 0, 0, 0, 0, ⟨(DV 100 0).f_Neg, ((DV 100 0).f_C.1, (DV 100 0).f_C.2), (DV 100 0).f_Scale⟩, ⟨0, 0⟩⟩ 4 ⟨0, 0, 0, 0⟩ ⟨(DV 250 0).f_Neg, ((DV 250 0).f_C.1, (DV 250 0).f_C.2), (DV 250 0).f_Scale⟩ = _ := (Release_eq (k := k) (by omega) (l := []) (at_ := []) (r := ⟨3, 0, 0, 0, 0, 0, DV 100 0, ⟨0, 0⟩⟩) 4 ⟨0, 0, 0, 0⟩ (d := DV 250 0) w1 w3 (by simp) (fun j hj => by cases hj)).trans (congrArg some e1)
  have r2 : gate_Gate_Release.f k ⟨[⟨⟨0, 0, 0, 0⟩, 4, DV 200 0, ⟨0, 0⟩⟩], [(⟨0, 0, 0, 0⟩, 0)]⟩ ⟨3, 0, 0, 0, 0, 0, ⟨(DV 100 0).f_Neg, ((DV 100 0).f_C.1, (DV 100 0).f_C.2), (DV 100 0).f_Scale⟩, ⟨0, 0⟩⟩ 5 ⟨0, 0, 0, 0⟩ ⟨(DV 900 0).f_Neg, ((DV 900 0).f_C.1, (DV 900 0).f_C.2), (DV 900 0).f_Scale⟩ = _ := (Release_eq (k := k) (by omega) (l := [⟨⟨0, 0, 0, 0⟩, 4, DV 200 0, ⟨0, 0⟩⟩]) (at_ := [(⟨0, 0, 0, 0⟩, 0)]) (r := ⟨3, 0, 0, 0, 0, 0, DV 100 0, ⟨0, 0⟩⟩) 5 ⟨0, 0, 0, 0⟩ (d := DV 900 0) w2' w3 (by simp) (fun j hj => by
    have : mget (keq_Sgate_Key ⟨0, 0, 0, 0⟩) [((⟨0, 0, 0, 0⟩ : Sgate_Key), (0 : Int))] = some 0 := rfl
    rw [this] at hj
    cases hj
    exact ⟨by decide, by simp⟩)).trans (congrArg some e2)
  have lg : gate_Gate_Log.f k ⟨[⟨⟨0, 0, 0, 0⟩, 4, DV 200 0, ⟨0, 0⟩⟩], [(⟨0, 0, 0, 0⟩, 0)]⟩ = _ := Log_eq k (by simp)
  rw [g0, Option.bind_some, o1, Option.bind_some, o2, Option.bind_some]
  dsimp only
  rw [r1, Option.bind_some, o3, Option.bind_some]
  dsimp only
  rw [r2, Option.bind_some]
  dsimp only
  rw [lg, Option.bind_some, o4]
  rfl
theorem Tells_log {k : Nat} (hk : 2000 < k) (l v : List Sgate_Out) (w : List Spyxref21_Let) (hl : l.length ≤ 1000) : iter (pyxlaw25_GateTells.l21.once k) k (l, v, w, (l.length : Int), 0, l.map toLet) = some (.inl (v, w)) := by
  have hlen : (l.map toLet).length = l.length := List.length_map _
  have h := iter_seq (once := pyxlaw25_GateTells.l21.once k) (fun i => (l, v, w, (l.length : Int), (i : Int), l.map toLet)) l.length (by
    intro i hi
    have hx : (l.map toLet).getD i Spyxref21_Let.zero = toLet (l.getD i Sgate_Out.zero) := by
      rw [List.getD_eq_getElem?_getD, List.getElem?_map, List.getElem?_eq_getElem hi, List.getD_eq_getElem?_getD, List.getElem?_eq_getElem hi]; rfl
    unfold pyxlaw25_GateTells.l21.once
    dsimp only
    rw [hlen, ct (by omega), inb_t (by omega) (by omega), Int.toNat_natCast, hx]
    unfold toLet
    simp only [cond_true, beq_self_eq_true, Bool.and_self, Bool.not_true, cond_false, bne_self_eq_false, Option.bind_some]
    rw [wrapi (by omega)]
    rfl) (.inl (v, w)) (by
    unfold pyxlaw25_GateTells.l21.once
    dsimp only
    rw [cf (by omega)]) k 0 (by omega) (by omega)
  exact h
theorem Tells_seen {k : Nat} (hk : 2000 < k) (l : List Sgate_Out) (hl : l.length ≤ 1000) : iter (pyxlaw25_GateTells.l27.once k) k (l, l.map toLet, (l.length : Int), 0) = some (.inl ()) := by
  have hlen : (l.map toLet).length = l.length := List.length_map _
  have h := iter_seq (once := pyxlaw25_GateTells.l27.once k) (fun i => (l, l.map toLet, (l.length : Int), (i : Int))) l.length (by
    intro i hi
    have hx : (l.map toLet).getD i Spyxref21_Let.zero = toLet (l.getD i Sgate_Out.zero) := by
      rw [List.getD_eq_getElem?_getD, List.getElem?_map, List.getElem?_eq_getElem hi, List.getD_eq_getElem?_getD, List.getElem?_eq_getElem hi]; rfl
    unfold pyxlaw25_GateTells.l27.once
    dsimp only
    rw [hlen, ct (by omega), inb_t (by omega) (by omega), Int.toNat_natCast, hx]
    unfold toLet
    simp only [cond_true, beq_self_eq_true, Bool.and_self, Bool.not_true, cond_false, bne_self_eq_false, Option.bind_some]
    rw [wrapi (by omega)]
    rfl) (.inl ()) (by
    unfold pyxlaw25_GateTells.l27.once
    dsimp only
    rw [cf (by omega)]) k 0 (by omega) (by omega)
  exact h
theorem GateTells (l0 : List Spyxlaw25_Raw) (w0 : (l0.length ≤ 9223372036854775807 ∧ l0.length * 72 ≤ 140737488351232 ∧ ∀ z ∈ l0, ((Lit.int .i64 z.f_Group).wf = true) ∧ ((Lit.int .i64 z.f_Line).wf = true) ∧ ((Lit.int .i64 z.f_Period).wf = true) ∧ ((Lit.int .i64 z.f_Version).wf = true) ∧ ((Lit.int .i64 z.f_Unit).wf = true) ∧ ((Lit.int .i64 z.f_To).wf = true) ∧ ((Lit.int .i64 z.f_N).wf = true) ∧ ((Lit.int .i64 z.f_Scale).wf = true) ∧ ((Lit.int .i64 z.f_Bend).wf = true) ∧ True)) (a1 : Int) (w1 : (Lit.int .i64 a1).wf = true) (a2 : Int) (w2 : (Lit.int .i64 a2).wf = true) : ∃ k, pyxlaw25_GateTells.f k l0 a1 a2 = some true := by
  obtain ⟨hlen, hb, hz⟩ := w0
  refine ⟨l0.length + 3000, ?_⟩
  generalize hk : l0.length + 3000 = k
  have hk1 : 2000 < k := by omega
  unfold pyxlaw25_GateTells.f
  have g0 : gate_New.f k = some ⟨[], []⟩ := rfl
  rw [g0, Option.bind_some, known25 hk1, Option.bind_some, Bool.not_true, cond_false, Option.bind_some]
  dsimp only
  rw [cond_false]
  obtain ⟨y, h1, h2⟩ := iter_rule (once := pyxlaw25_GateTells.l6.once k) (fun st => ∃ (i : Nat) (l : List Sgate_Out) (at_ : List (Sgate_Key × Int)), st = (a1, a2, l0, (l0.length : Int), (i : Int), l, at_, l.map toLet) ∧ i ≤ l0.length ∧ GInv l at_) (fun st => l0.length - st.2.2.2.2.1.toNat)
    (fun r => ∃ (l : List Sgate_Out) (at_ : List (Sgate_Key × Int)), r = .inl (a1, a2, l, at_, l.map toLet) ∧ GInv l at_) (by
    rintro _ ⟨i, l, at_, rfl, hi, hG⟩
    have h48 := hG.len
    unfold pyxlaw25_GateTells.l6.once
    dsimp only
    by_cases hc : i < l0.length
    · left
      have hx : l0.getD (Int.toNat (i : Int)) Spyxlaw25_Raw.zero = l0.getD i Spyxlaw25_Raw.zero := by rw [Int.toNat_natCast]
      obtain ⟨_, _, _, _, _, _, wN, _, _, _⟩ := hz _ (getD_mem' Spyxlaw25_Raw.zero hc)
      generalize hxx : l0.getD i Spyxlaw25_Raw.zero = x at *
      obtain ⟨d, d1, d2⟩ := HDec_ok (k := k) (by omega) (s := x.f_Scale) (b := x.f_Bend) (wfi64 wN)
      obtain ⟨r, r1, r2, r3⟩ := Rule_ok (k := k) (by omega) x (wfi64 wN)
      obtain ⟨key, k1, k2⟩ := Key_ok k x
      have r1' : pyxlaw25_rule.f k ⟨x.f_Group, x.f_Line, x.f_Period, x.f_Version, x.f_Unit, x.f_To, x.f_N, x.f_Scale, x.f_Bend⟩ = some r := r1
      have k1' : pyxlaw25_key.f k ⟨x.f_Group, x.f_Line, x.f_Period, x.f_Version, x.f_Unit, x.f_To, x.f_N, x.f_Scale, x.f_Bend⟩ = some key := k1
      have e1 : gate_Gate_Release.f k ⟨l, at_⟩ ⟨r.f_Tag, r.f_Role, r.f_Verb, r.f_Ent, r.f_Group, r.f_Line, ⟨r.f_Unit.f_Neg, (r.f_Unit.f_C.1, r.f_Unit.f_C.2), r.f_Unit.f_Scale⟩, ⟨r.f_To.f_Set, r.f_To.f_Level⟩⟩ (i : Int) ⟨key.f_Group, key.f_Line, key.f_Period, key.f_Version⟩ ⟨d.f_Neg, (d.f_C.1, d.f_C.2), d.f_Scale⟩ = some (relR l at_ r (i : Int) key d) := Release_eq (by omega) (i : Int) key d2 r2 (by omega) (fun j hj => by
        have := hG.1 key
        rw [hj] at this
        exact ⟨this.1, this.2.1⟩)
      have e2 : pyxref21_Gate_Release.f k ⟨l.map toLet⟩ ⟨r.f_Tag, r.f_Role, r.f_Verb, r.f_Ent, r.f_Group, r.f_Line, ⟨r.f_Unit.f_Neg, (r.f_Unit.f_C.1, r.f_Unit.f_C.2), r.f_Unit.f_Scale⟩, ⟨r.f_To.f_Set, r.f_To.f_Level⟩⟩ (i : Int) ⟨key.f_Group, key.f_Line, key.f_Period, key.f_Version⟩ ⟨d.f_Neg, (d.f_C.1, d.f_C.2), d.f_Scale⟩ = some (outR (relR l at_ r (i : Int) key d)) := RRelease_eq hk1 hG.1 (i : Int) key d2 r2 (by omega)
      have hG2 := GInv_rel hG r3 (i : Int) k2 d
      generalize relR l at_ r (i : Int) key d = q at *
      rw [ct (by omega), inb_t (by omega) (by omega), cond_true, hx, d1, Option.bind_some, r1', Option.bind_some, k1', Option.bind_some, e1, Option.bind_some, Option.bind_some, Option.bind_some, e2, Option.bind_some]
      unfold outR
      simp only [beq_self_eq_true, Bool.and_self, Bool.not_true, cond_false, bne_self_eq_false, Option.bind_some]
      rw [wrapi (by omega)]
      exact ⟨_, rfl, ⟨i + 1, q.2.2.2.f_l, q.2.2.2.f_at, rfl, by omega, hG2⟩, by dsimp only; omega⟩
    · right
      rw [cf (by omega)]
      exact ⟨_, rfl, l, at_, rfl, hG⟩) k (a1, a2, l0, (l0.length : Int), 0, [], [], []) ⟨0, [], [], rfl, by omega, AT_nil, (fun x hx => by cases hx), List.nodup_nil⟩ (by dsimp only; omega)
  obtain ⟨l, at_, rfl, hG⟩ := h2
  have h48 := hG.len
  rw [h1, Option.bind_some]
  dsimp only
  have p4 := pick_bd a1 (m := 4) (by decide)
  rw [Pick_eq k _ (by decide) (by decide), Option.bind_some, Pick_eq k _ (by decide) (by decide), Option.bind_some, Log_eq k (by omega), Option.bind_some]
  dsimp only
  rw [wrapu (by omega), Seen_eq hk1 (by omega), Option.bind_some, RSeen_eq hk1 (by omega) (c := ⟨pick a1 4, pick a2 4⟩) p4 (fun x hx => (hG.2.1 x hx).2), Option.bind_some]
  dsimp only
  rw [List.length_map, List.length_map, bne_self_eq_false, cond_false, bne_self_eq_false, Option.bind_some]
  dsimp only
  have hf := List.length_filter_le (fun x : Sgate_Out => blB x.f_To ⟨pick a1 4, pick a2 4⟩) l
  rw [cond_false, Tells_log hk1 l _ _ (by omega), Option.bind_some]
  dsimp only
  rw [Tells_seen hk1 _ (by omega), Option.bind_some]
end Go.Proofs.Ytlaogfkgkpgofaa.Pure
