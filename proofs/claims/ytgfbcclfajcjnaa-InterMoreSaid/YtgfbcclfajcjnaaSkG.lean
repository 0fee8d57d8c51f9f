import Derived.Test.YtgfbcclfajcjnaaU
import Derived.Test.YtgfbcclfajcjnaaSkQ
namespace Go.Proofs.Ytgfbcclfajcjnaa
open Go Go.Ev Go.RowKit
noncomputable section
set_option linter.unusedVariables false
set_option linter.unusedSimpArgs false
noncomputable def srt_i64 (l : List Int) : List Int := isrtZ l
set_option maxHeartbeats 1000000 in
theorem sf46_ok : SfOk Try.prog DD 46 (.sort 68 [] C.i64 false 8 srt_i64) := by
  refine ⟨fun l m h => isrtZ_of_perm h, ?_⟩
  intro w B o mb l hm hB hlen hL
  have hk : KeysAt w mb l := by
    rcases hL with ⟨rfl, rfl⟩ | ⟨m, es, clock, rfl, hb, st, hsz, hkeys⟩
    · exact .inl ⟨rfl, rfl⟩
    · refine .inr ⟨m, es, clock, rfl, hb, st, ?_⟩
      apply List.ext_getElem?
      intro i
      rw [List.getElem?_map, List.getElem?_map, Array.getElem?_toList]
      cases hx : l[i]? with
      | none =>
        have h1 : l.length ≤ i := by rwa [List.getElem?_eq_none_iff] at hx
        rw [show es[i]? = none from Array.getElem?_eq_none_iff.2 (by omega)]
        rfl
      | some x =>
        have h1 := (List.getElem?_eq_some_iff.1 hx).1
        obtain ⟨e, he⟩ : ∃ e, es[i]? = some e := ⟨_, Array.getElem?_eq_some_iff.2 ⟨by omega, rfl⟩⟩
        rw [he]
        exact congrArg some (hkeys i x e hx he)
  refine (sorted46_in B o mb l w hB hm hlen hk).mono ?_
  rintro e w' ⟨v, rfl, hb, h⟩
  have hsl : (srt_i64 l).length = l.length := by unfold srt_i64; rw [← isrtZ_eq, List.length_mergeSort]
  refine ⟨v, rfl, hb, hsl, ?_⟩
  rcases h with ⟨hn, hv⟩ | ⟨blk, cap, hv, h1, h2, h3, h4⟩
  · exact .inl ⟨hn, hv⟩
  · refine .inr ⟨blk, cap, hv, h1, h2, h3, ?_⟩
    intro i x hx j u hj
    have hx2 : (List.mergeSort l leZ)[i]? = some x := by rw [isrtZ_eq]; exact hx
    match j, hj with
    | 0, hj =>
      cases hj
      show w'.cell? ⟨blk, i * 1 + 0, none⟩ = _
      rw [Nat.mul_one]
      exact h4 i x hx2
noncomputable def sl1 : List (Nat × SDen U) := [(46, .sort 68 [] C.i64 false 8 srt_i64), (47, .keys 68)]
theorem sl1_ok : ∀ p ∈ sl1, SfOk Try.prog DD p.1 p.2 ∧ ∀ args w, (callFunc p.1 args).run Try.prog w = .ok (.enter p.1 args) w := by
  intro p hp
  simp only [sl1, List.mem_cons, List.not_mem_nil, or_false] at hp
  rcases hp with rfl | rfl
  · exact ⟨sf46_ok, enter_of Try.func46 (by kernel_rfl) (by kernel_rfl)⟩
  · exact ⟨keys47_ok DD, enter_of Try.func47 (by kernel_rfl) (by kernel_rfl)⟩
end
end Go.Proofs.Ytgfbcclfajcjnaa
