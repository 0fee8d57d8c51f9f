/- RateKnown: chapter 16's example, order, each refusal. A closed sentence. -/
import Derived.Test.YtlaogfkgkpgofaaRt
namespace Go.Proofs.Ytlaogfkgkpgofaa.Pure
set_option linter.unusedVariables false
set_option linter.unusedSimpArgs false
open Go Go.Ev Go.Lm Go.Pu Go.Dg
theorem srt4 : srt_Srate_Key [⟨2, 1⟩, ⟨2, 0⟩, ⟨0, 2⟩, ⟨0, 0⟩] = [⟨0, 0⟩, ⟨0, 2⟩, ⟨2, 0⟩, ⟨2, 1⟩] := by
  unfold srt_Srate_Key
  have h : List.mergeSort [((2 : Int), (1 : Int)), (2, 0), (0, 2), (0, 0)] leII = [(0, 0), (0, 2), (2, 0), (2, 1)] :=
    perm_sorted_eq leII_anti ((List.mergeSort_perm _ leII).trans (by decide)) (List.pairwise_mergeSort leII_trans leII_total _) (by decide)
  show (List.mergeSort [((2 : Int), (1 : Int)), (2, 0), (0, 2), (0, 0)] leII).map _ = _
  rw [h]
  rfl
theorem RateKnown : ∃ k, pyxlaw16_RateKnown.f k = some true := by
  obtain ⟨k, hk⟩ : ∃ k : Nat, 602 < k := ⟨1000, by decide⟩
  have hk0 : 60 < k := by omega
  refine ⟨k, ?_⟩
  unfold pyxlaw16_RateKnown.f
  refine bof (v := ⟨[]⟩) rfl ?_
  refine bof (v := (false, [])) (bof (known_eq hk) rfl) ?_
  refine bof (ROf_DV (n := 1) hk (by decide) 0) ?_
  refine bof (Set_ok hk0 [] ⟨2, 1⟩ (v := 1) (s := 0) (by unfold Sm; decide) (by decide) (by decide)) ?_
  refine bof (Set_ok hk0 [(⟨2, 1⟩, DV 1 0)] ⟨2, 0⟩ (v := 1) (s := 0) (by unfold Sm; decide) (by decide) (by decide)) ?_
  refine bof (Set_ok hk0 [(⟨2, 1⟩, DV 1 0), (⟨2, 0⟩, DV 1 0)] ⟨0, 2⟩ (v := 1) (s := 0) (by unfold Sm; decide) (by decide) (by decide)) ?_
  refine bof (Set_no hk0 [(⟨2, 1⟩, DV 1 0), (⟨2, 0⟩, DV 1 0), (⟨0, 2⟩, DV 1 0)] ⟨12, 0⟩ (v := 1) (s := 0) (by unfold Sm; decide) (by decide) (by decide)) ?_
  refine bof (Set_no hk0 [(⟨2, 1⟩, DV 1 0), (⟨2, 0⟩, DV 1 0), (⟨0, 2⟩, DV 1 0)] ⟨-1, 0⟩ (v := 1) (s := 0) (by unfold Sm; decide) (by decide) (by decide)) ?_
  refine bof (Set_no hk0 [(⟨2, 1⟩, DV 1 0), (⟨2, 0⟩, DV 1 0), (⟨0, 2⟩, DV 1 0)] ⟨0, 3⟩ (v := 1) (s := 0) (by unfold Sm; decide) (by decide) (by decide)) ?_
  refine bof (ROf_DV (n := 0) hk (by decide) 0) ?_
  refine bof (Set_no hk0 [(⟨2, 1⟩, DV 1 0), (⟨2, 0⟩, DV 1 0), (⟨0, 2⟩, DV 1 0)] ⟨0, 0⟩ (v := 0) (s := 0) (by unfold Sm; decide) (by decide) (by decide)) ?_
  refine bof (ROf_DV (n := -1) hk (by decide) 0) ?_
  refine bof (Set_no hk0 [(⟨2, 1⟩, DV 1 0), (⟨2, 0⟩, DV 1 0), (⟨0, 2⟩, DV 1 0)] ⟨0, 0⟩ (v := -1) (s := 0) (by unfold Sm; decide) (by decide) (by decide)) ?_
  refine bof (ROf_DV (n := 1) hk (by decide) 7) ?_
  refine bof (Set_no hk0 [(⟨2, 1⟩, DV 1 0), (⟨2, 0⟩, DV 1 0), (⟨0, 2⟩, DV 1 0)] ⟨0, 0⟩ (v := 1) (s := 7) (by unfold Sm; decide) (by decide) (by decide)) ?_
  refine bof (ROf_DV (n := 1000000) hk (by decide) 0) ?_
  refine bof (Set_no hk0 [(⟨2, 1⟩, DV 1 0), (⟨2, 0⟩, DV 1 0), (⟨0, 2⟩, DV 1 0)] ⟨0, 0⟩ (v := 1000000) (s := 0) (by unfold Sm; decide) (by decide) (by decide)) ?_
  refine bof (ROf_DV (n := 999999999999) hk (by decide) 6) ?_
  refine bof (Set_ok hk0 [(⟨2, 1⟩, DV 1 0), (⟨2, 0⟩, DV 1 0), (⟨0, 2⟩, DV 1 0)] ⟨0, 0⟩ (v := 999999999999) (s := 6) (by unfold Sm; decide) (by decide) (by decide)) ?_
  refine bof ((Keys_eq k (T := [(⟨2, 1⟩, DV 1 0), (⟨2, 0⟩, DV 1 0), (⟨0, 2⟩, DV 1 0), (⟨0, 0⟩, DV 999999999999 6)]) (by decide)).trans (congrArg (fun x => some (x, _)) srt4)) ?_
  rfl
end Go.Proofs.Ytlaogfkgkpgofaa.Pure
