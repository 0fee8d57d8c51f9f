import Derived.Test.YtlaogfkgkpgofaaU
import Derived.Test.YtlaogfkgkpgofaaSkF
/-! Keys of maps, sorted by the library. -/
namespace Go.Proofs.Ytlaogfkgkpgofaa
open Go Go.Ev Go.RowKit
noncomputable section
set_option linter.unusedVariables false
set_option linter.unusedSimpArgs false
noncomputable def srt_Srate_Key (l : List Srate_Key) : List Srate_Key := (List.mergeSort (l.map (fun (x : Srate_Key) => (x.f_Period, x.f_Kind))) leII).map (fun p => (⟨p.1, p.2⟩ : Srate_Key))
set_option maxHeartbeats 1000000 in
theorem sf98_ok : SfOk Try.prog DD 98 (.sort 135 [100] C.Srate_Key true 16 srt_Srate_Key) := by
  intro w B o mb l hm hB hlen hL
  have hk : KeysAt w mb (l.map (fun (x : Srate_Key) => (x.f_Period, x.f_Kind))) := by
    rcases hL with ⟨rfl, rfl⟩ | ⟨m, es, clock, rfl, hb, st, hsz, hkeys⟩
    · exact .inl ⟨rfl, rfl⟩
    · refine .inr ⟨m, es, clock, rfl, hb, st, ?_⟩
      apply List.ext_getElem?
      intro i
      rw [List.getElem?_map, List.getElem?_map, List.getElem?_map, Array.getElem?_toList]
      cases hx : l[i]? with
      | none =>
        have h1 : l.length ≤ i := by rwa [List.getElem?_eq_none_iff] at hx
        rw [show es[i]? = none from Array.getElem?_eq_none_iff.2 (by omega)]
        rfl
      | some x =>
        have h1 := (List.getElem?_eq_some_iff.1 hx).1
        obtain ⟨e, he⟩ : ∃ e, es[i]? = some e := ⟨_, Array.getElem?_eq_some_iff.2 ⟨by omega, rfl⟩⟩
        rw [he]
        exact congrArg some (hkeys i x e hx he)
  have hlen' : (l.map (fun (x : Srate_Key) => (x.f_Period, x.f_Kind))).length * 16 ≤ 140737488355328 := by rw [List.length_map]; exact hlen
  refine (sorted98_in B o mb (l.map (fun (x : Srate_Key) => (x.f_Period, x.f_Kind))) w hB hm hlen' hk).mono ?_
  rintro e w' ⟨v, rfl, hb, h⟩
  have hsl : (srt_Srate_Key l).length = l.length := by unfold srt_Srate_Key; rw [List.length_map, List.length_mergeSort, List.length_map]
  refine ⟨v, rfl, hb, hsl, ?_⟩
  rcases h with ⟨hn, hv⟩ | ⟨blk, cap, hv, h1, h2, h3, h4⟩
  · exact .inl ⟨by simpa using hn, hv⟩
  · refine .inr ⟨blk, cap, by rw [hv, List.length_map], h1, h2, by rwa [List.length_map] at h3, ?_⟩
    intro i x hx j u hj
    unfold srt_Srate_Key at hx
    rw [List.getElem?_map, Option.map_eq_some_iff] at hx
    obtain ⟨p, hp, rfl⟩ := hx
    obtain ⟨c0, c1⟩ := h4 i p hp
    match j, hj with
    | 0, hj => cases hj; exact c0
    | 1, hj => cases hj; exact c1
noncomputable def sl1 : List (Nat × SDen U) := [(98, .sort 135 [100] C.Srate_Key true 16 srt_Srate_Key), (99, .keys 135)]
theorem sl1_ok : ∀ p ∈ sl1, SfOk Try.prog DD p.1 p.2 ∧ ∀ args w, (callFunc p.1 args).run Try.prog w = .ok (.enter p.1 args) w := by
  intro p hp
  simp only [sl1, List.mem_cons, List.not_mem_nil, or_false] at hp
  rcases hp with rfl | rfl
  · exact ⟨sf98_ok, enter_of Try.func98 (by kernel_rfl) (by kernel_rfl)⟩
  · exact ⟨keys99_ok DD, enter_of Try.func99 (by kernel_rfl) (by kernel_rfl)⟩
end
end Go.Proofs.Ytlaogfkgkpgofaa
