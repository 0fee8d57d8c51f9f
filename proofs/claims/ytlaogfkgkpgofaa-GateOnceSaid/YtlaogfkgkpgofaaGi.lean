/- What stays true of a gate; chapter 25's example. No conditions but size. -/
import Derived.Test.YtlaogfkgkpgofaaGs
namespace Go.Proofs.Ytlaogfkgkpgofaa.Pure
set_option linter.unusedVariables false
set_option linter.unusedSimpArgs false
open Go Go.Ev Go.Lm Go.Pu Go.Dg
theorem bind_ex {α β γ : Type} {X : Option α} {G : α → Option β} {P : γ → Prop} {f : γ → Option β} (Q : α → Prop) (h : ∃ v, X = some v ∧ Q v) (h' : ∀ v, Q v → ∃ x', G v = f x' ∧ P x') : ∃ x', X.bind G = f x' ∧ P x' := by
  obtain ⟨v, rfl, hv⟩ := h
  exact h' v hv
def code (k : Sgate_Key) : Nat := (k.f_Group * 12 + k.f_Line * 4 + k.f_Period * 2 + k.f_Version).toNat
theorem code_inj {a b : Sgate_Key} (ha : KRange a) (hb : KRange b) (h : code a = code b) : a = b := by
  obtain ⟨a1, a2, a3, a4⟩ := a
  obtain ⟨b1, b2, b3, b4⟩ := b
  unfold KRange at ha hb
  unfold code at h
  dsimp only at *
  obtain rfl : a1 = b1 := by omega
  obtain rfl : a2 = b2 := by omega
  obtain rfl : a3 = b3 := by omega
  obtain rfl : a4 = b4 := by omega
  rfl
theorem code_lt {a : Sgate_Key} (ha : KRange a) : code a < 48 := by
  unfold KRange at ha
  unfold code
  omega
def GInv (l : List Sgate_Out) (at_ : List (Sgate_Key × Int)) : Prop := AT l at_ ∧ (∀ x ∈ l, KRange x.f_K ∧ (0 ≤ x.f_To.f_Set ∧ x.f_To.f_Set < 4)) ∧ (l.map (fun x => code x.f_K)).Nodup
theorem GInv.len {l : List Sgate_Out} {at_ : List (Sgate_Key × Int)} (h : GInv l at_) : l.length ≤ 48 := by
  have := nodup_lt 48 _ h.2.2 (fun n hn => by
    obtain ⟨x, hx, rfl⟩ := List.mem_map.1 hn
    exact code_lt (h.2.1 x hx).1)
  rw [List.length_map] at this
  exact this
theorem GInv_rel {l : List Sgate_Out} {at_ : List (Sgate_Key × Int)} (h : GInv l at_) {r : Sapi_Rule} (hr : 0 ≤ r.f_To.f_Set ∧ r.f_To.f_Set < 4) (n : Int) {key : Sgate_Key} (hk : KRange key) (d : Sapi_Dec) : GInv (relR l at_ r n key d).2.2.2.f_l (relR l at_ r n key d).2.2.2.f_at := by
  unfold relR
  split
  · exact h
  · split
    · exact h
    · rename_i hm
      split
      · exact h
      · obtain ⟨h1, h2, h3⟩ := h
        have hkey := h1 key
        rw [hm] at hkey
        have hkey : l.find? (fun x => keq_Sgate_Key key x.f_K) = none := hkey
        refine ⟨AT_app (x := ⟨key, n, (uR d r.f_Unit).1, r.f_To⟩) h1 hm, fun x hx => ?_, ?_⟩
        · dsimp only at hx
          rcases List.mem_append.1 hx with hx | hx
          · exact h2 x hx
          · simp only [List.mem_cons, List.not_mem_nil, or_false] at hx
            subst hx
            exact ⟨hk, hr⟩
        · dsimp only
          rw [List.map_append, List.nodup_append]
          refine ⟨h3, by simp, ?_⟩
          intro a ha b hb he
          simp only [List.map_cons, List.map_nil, List.mem_cons, List.not_mem_nil, or_false] at hb
          obtain ⟨x, hx, rfl⟩ := List.mem_map.1 ha
          have := code_inj (h2 x hx).1 hk (he.trans hb)
          have h5 := List.find?_eq_none.1 hkey x hx
          exact h5 ((keq_iff _ _).2 this.symm)
theorem known25 {k : Nat} (hk : 2000 < k) : pyxlaw25_known.f k = some true := by
  unfold pyxlaw25_known.f
  have g0 : gate_New.f k = some ⟨[], []⟩ := rfl
  have o1 : pyxref1_Of.f k 100 0 = some (DV 100 0) := ROf_DV (by omega) (by omega) 0
  have o2 : pyxref1_Of.f k 250 0 = some (DV 250 0) := ROf_DV (by omega) (by omega) 0
  have o3 : pyxref1_Of.f k 900 0 = some (DV 900 0) := ROf_DV (by omega) (by omega) 0
  have o4 : pyxref1_Of.f k 200 0 = some (DV 200 0) := ROf_DV (by omega) (by omega) 0
  have w1 : W2 (DV 250 0).f_C := Sm_w2 (by unfold Sm; decide)
  have w2' : W2 (DV 900 0).f_C := Sm_w2 (by unfold Sm; decide)
  have w3 : W2 (DV 100 0).f_C := Sm_w2 (by unfold Sm; decide)
  have e1 : relR [] [] ⟨3, 0, 0, 0, 0, 0, DV 100 0, ⟨0, 0⟩⟩ 4 ⟨0, 0, 0, 0⟩ (DV 250 0) = (DV 200 0, true, 0, ⟨[⟨⟨0, 0, 0, 0⟩, 4, DV 200 0, ⟨0, 0⟩⟩], [(⟨0, 0, 0, 0⟩, 0)]⟩) := by kernel_rfl
  have e2 : relR [⟨⟨0, 0, 0, 0⟩, 4, DV 200 0, ⟨0, 0⟩⟩] [(⟨0, 0, 0, 0⟩, 0)] ⟨3, 0, 0, 0, 0, 0, DV 100 0, ⟨0, 0⟩⟩ 5 ⟨0, 0, 0, 0⟩ (DV 900 0) = (DV 200 0, false, 0, ⟨[⟨⟨0, 0, 0, 0⟩, 4, DV 200 0, ⟨0, 0⟩⟩], [(⟨0, 0, 0, 0⟩, 0)]⟩) := by kernel_rfl
  have r1 : gate_Gate_Release.f k ⟨[], []⟩ ⟨3, 0, 0, 0, 0, 0, ⟨(DV 100 0).f_Neg, ((DV 100 0).f_C.1, (DV 100 0).f_C.2), (DV 100 0).f_Scale⟩, ⟨0, 0⟩⟩ 4 ⟨0, 0, 0, 0⟩ ⟨(DV 250 0).f_Neg, ((DV 250 0).f_C.1, (DV 250 0).f_C.2), (DV 250 0).f_Scale⟩ = _ := (Release_eq (k := k) (by omega) (l := []) (at_ := []) (r := ⟨3, 0, 0, 0, 0, 0, DV 100 0, ⟨0, 0⟩⟩) 4 ⟨0, 0, 0, 0⟩ (d := DV 250 0) w1 w3 (by simp) (fun j hj => by cases hj)).trans (congrArg some e1)
  have r2 : gate_Gate_Release.f k ⟨[⟨⟨0, 0, 0, 0⟩, 4, DV 200 0, ⟨0, 0⟩⟩], [(⟨0, 0, 0, 0⟩, 0)]⟩ ⟨3, 0, 0, 0, 0, 0, ⟨(DV 100 0).f_Neg, ((DV 100 0).f_C.1, (DV 100 0).f_C.2), (DV 100 0).f_Scale⟩, ⟨0, 0⟩⟩ 5 ⟨0, 0, 0, 0⟩ ⟨(DV 900 0).f_Neg, ((DV 900 0).f_C.1, (DV 900 0).f_C.2), (DV 900 0).f_Scale⟩ = _ := (Release_eq (k := k) (by omega) (l := [⟨⟨0, 0, 0, 0⟩, 4, DV 200 0, ⟨0, 0⟩⟩]) (at_ := [(⟨0, 0, 0, 0⟩, 0)]) (r := ⟨3, 0, 0, 0, 0, 0, DV 100 0, ⟨0, 0⟩⟩) 5 ⟨0, 0, 0, 0⟩ (d := DV 900 0) w2' w3 (by simp) (fun j hj => by
    have : mget (keq_Sgate_Key ⟨0, 0, 0, 0⟩) [((⟨0, 0, 0, 0⟩ : Sgate_Key), (0 : Int))] = some 0 := rfl
    rw [this] at hj
    cases hj
    exact ⟨by decide, by simp⟩)).trans (congrArg some e2)
  have lg : gate_Gate_Log.f k ⟨[⟨⟨0, 0, 0, 0⟩, 4, DV 200 0, ⟨0, 0⟩⟩], [(⟨0, 0, 0, 0⟩, 0)]⟩ = _ := Log_eq k (by simp)
  rw [g0, Option.bind_some, o1, Option.bind_some, o2, Option.bind_some]
  dsimp only
  rw [r1, Option.bind_some, o3, Option.bind_some]
  dsimp only
  rw [r2, Option.bind_some]
  dsimp only
  rw [lg, Option.bind_some, o4]
  rfl
end Go.Proofs.Ytlaogfkgkpgofaa.Pure
