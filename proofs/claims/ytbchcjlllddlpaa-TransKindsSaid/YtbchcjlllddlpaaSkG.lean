import Derived.Test.YtbchcjlllddlpaaU
import Derived.Test.YtbchcjlllddlpaaSkF
/-! Keys of maps, sorted by the library. -/
namespace Go.Proofs.Ytbchcjlllddlpaa
open Go Go.Ev Go.RowKit
noncomputable section
set_option linter.unusedVariables false
set_option linter.unusedSimpArgs false
noncomputable def srt_a2_i64 (l : List (Int × Int)) : List (Int × Int) := (isrt (l.map (fun (x : (Int × Int)) => (x.1, x.2)))).map (fun p => (⟨p.1, p.2⟩ : (Int × Int)))
set_option maxHeartbeats 1000000 in
theorem sf89_ok : SfOk Try.prog DD 89 (.sort 119 [91] C.a2_i64 true 16 srt_a2_i64) := by
  intro w B o mb l hm hB hlen hL
  have hk : KeysAt w mb (l.map (fun (x : (Int × Int)) => (x.1, x.2))) := by
    rcases hL with ⟨rfl, rfl⟩ | ⟨m, es, clock, rfl, hb, st, hsz, hkeys⟩
    · exact .inl ⟨rfl, rfl⟩
    · refine .inr ⟨m, es, clock, rfl, hb, st, ?_⟩
      apply List.ext_getElem?
      intro i
      rw [List.getElem?_map, List.getElem?_map, List.getElem?_map, Array.getElem?_toList]
      cases hx : l[i]? with
      | none =>
        have h1 : l.length ≤ i := by rwa [List.getElem?_eq_none_iff] at hx
        rw [show es[i]? = none from Array.getElem?_eq_none_iff.2 (by omega)]
        rfl
      | some x =>
        have h1 := (List.getElem?_eq_some_iff.1 hx).1
        obtain ⟨e, he⟩ : ∃ e, es[i]? = some e := ⟨_, Array.getElem?_eq_some_iff.2 ⟨by omega, rfl⟩⟩
        rw [he]
        exact congrArg some (hkeys i x e hx he)
  have hlen' : (l.map (fun (x : (Int × Int)) => (x.1, x.2))).length * 16 ≤ 140737488355328 := by rw [List.length_map]; exact hlen
  refine (sorted89_in B o mb (l.map (fun (x : (Int × Int)) => (x.1, x.2))) w hB hm hlen' hk).mono ?_
  rintro e w' ⟨v, rfl, hb, h⟩
  have hsl : (srt_a2_i64 l).length = l.length := by unfold srt_a2_i64; rw [List.length_map, ← isrt_eq, List.length_mergeSort, List.length_map]
  refine ⟨v, rfl, hb, hsl, ?_⟩
  rcases h with ⟨hn, hv⟩ | ⟨blk, cap, hv, h1, h2, h3, h4⟩
  · exact .inl ⟨by simpa using hn, hv⟩
  · refine .inr ⟨blk, cap, by rw [hv, List.length_map], h1, h2, by rwa [List.length_map] at h3, ?_⟩
    intro i x hx j u hj
    unfold srt_a2_i64 at hx
    rw [List.getElem?_map, Option.map_eq_some_iff] at hx
    obtain ⟨p, hp, rfl⟩ := hx
    rw [← isrt_eq] at hp
    obtain ⟨c0, c1⟩ := h4 i p hp
    match j, hj with
    | 0, hj => cases hj; exact c0
    | 1, hj => cases hj; exact c1
noncomputable def sl1 : List (Nat × SDen U) := [(89, .sort 119 [91] C.a2_i64 true 16 srt_a2_i64), (90, .keys 119)]
theorem sl1_ok : ∀ p ∈ sl1, SfOk Try.prog DD p.1 p.2 ∧ ∀ args w, (callFunc p.1 args).run Try.prog w = .ok (.enter p.1 args) w := by
  intro p hp
  simp only [sl1, List.mem_cons, List.not_mem_nil, or_false] at hp
  rcases hp with rfl | rfl
  · exact ⟨sf89_ok, enter_of Try.func89 (by kernel_rfl) (by kernel_rfl)⟩
  · exact ⟨keys90_ok DD, enter_of Try.func90 (by kernel_rfl) (by kernel_rfl)⟩
noncomputable def mkF (fn : Func) (fl : List (Pk Try.prog DD)) (jl : List (Nat × Jk U)) (ll : List (Nat × LDen U)) (md : List (Nat × (Nat × U.C))) (dy : TypeId → Bool) (vc : Nat → Bool) (gh : List Nat) (ow : Bool) (io : FuncId → Nat → Bool) (ld : Nat → List Nat) (nl : List (Pk Try.prog DD)) (li : Nat → Option (Nat × List Nat)) : Env U := { P := Try.prog, D := DD, fd := lk (fds fl), sf := lk sl1, ld := lk ll, jd := lk (jds jl), mode := lk md, elc := lk ec, mpc := lk mc, rts := fn.resultTypes.toList, dyn := dy, vecs := vc, results := fn.results.toList, gh := gh, own := ow, io := io, lds := ld, fn := lk (fds nl), lit := li }
theorem mkF_ok (fn : Func) (fl : List (Pk Try.prog DD)) (jl : List (Nat × Jk U)) (ll : List (Nat × LDen U)) (md : List (Nat × (Nat × U.C))) (dy : TypeId → Bool) (vc : Nat → Bool) (gh : List Nat) (ow : Bool) (io : FuncId → Nat → Bool) (ld : Nat → List Nat) (nl : List (Pk Try.prog DD)) (li : Nat → Option (Nat × List Nat)) : EnvOk (mkF fn fl jl ll md dy vc gh ow io ld nl li) := envOk lawful (fds fl) sl1 ll (jds jl) _ _ _ _ _ _ _ _ _ _ _ (fds nl) li (fds_ok fl) sl1_ok (jds_ok jl) (fds_ok nl)
end
end Go.Proofs.Ytbchcjlllddlpaa
