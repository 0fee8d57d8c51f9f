import Derived.Test.YtbchcjlllddlpaaGreatU
import Derived.Test.YtbchcjlllddlpaaGreatSkF
import Derived.Test.YtbchcjlllddlpaaGreatSkM
namespace Go.Proofs.YtbchcjlllddlpaaGreat
open Go Go.Ev Go.RowKit
noncomputable section
set_option linter.unusedVariables false
set_option linter.unusedSimpArgs false
noncomputable def Zgf (l : List (Int × Int)) : List (Int × Int) := (isrt (l.map (fun (x : (Int × Int)) => (x.1, x.2)))).map (fun p => (⟨p.1, p.2⟩ : (Int × Int)))
set_option maxHeartbeats 1000000 in
theorem sf77_ok : SfOk Tryz.prog DD 77 (.sort 124 [79] C.Zhl true 16 Zgf) := by
  intro w B o mb l hm hB hlen hL
  have hk : KeysAt w mb (l.map (fun (x : (Int × Int)) => (x.1, x.2))) := by
    rcases hL with ⟨rfl, rfl⟩ | ⟨m, es, clock, rfl, hb, st, hsz, hkeys⟩
    · exact .inl ⟨rfl, rfl⟩
    · refine .inr ⟨m, es, clock, rfl, hb, st, ?_⟩
      apply List.ext_getElem?
      intro i
      rw [List.getElem?_map, List.getElem?_map, List.getElem?_map, Array.getElem?_toList]
      cases hx : l[i]? with
      | none =>
        have h1 : l.length ≤ i := by rwa [List.getElem?_eq_none_iff] at hx
        rw [show es[i]? = none from Array.getElem?_eq_none_iff.2 (by omega)]
        rfl
      | some x =>
        have h1 := (List.getElem?_eq_some_iff.1 hx).1
        obtain ⟨e, he⟩ : ∃ e, es[i]? = some e := ⟨_, Array.getElem?_eq_some_iff.2 ⟨by omega, rfl⟩⟩
        rw [he]
        exact congrArg some (hkeys i x e hx he)
  have hlen' : (l.map (fun (x : (Int × Int)) => (x.1, x.2))).length * 16 ≤ 140737488355328 := by rw [List.length_map]; exact hlen
  refine (Yuw B o mb (l.map (fun (x : (Int × Int)) => (x.1, x.2))) w hB hm hlen' hk).mono ?_
  rintro e w' ⟨v, rfl, hb, h⟩
  have hsl : (Zgf l).length = l.length := by unfold Zgf; rw [List.length_map, ← isrt_eq, List.length_mergeSort, List.length_map]
  refine ⟨v, rfl, hb, hsl, ?_⟩
  rcases h with ⟨hn, hv⟩ | ⟨blk, cap, hv, h1, h2, h3, h4⟩
  · exact .inl ⟨by simpa using hn, hv⟩
  · refine .inr ⟨blk, cap, by rw [hv, List.length_map], h1, h2, by rwa [List.length_map] at h3, ?_⟩
    intro i x hx j u hj
    unfold Zgf at hx
    rw [List.getElem?_map, Z4] at hx
    obtain ⟨p, hp, rfl⟩ := hx
    rw [← isrt_eq] at hp
    obtain ⟨c0, c1⟩ := h4 i p hp
    match j, hj with
    | 0, hj => cases hj; exact c0
    | 1, hj => cases hj; exact c1
noncomputable def sl1 : List (Nat × SDen U) := [(62, .del 53 2 4), (77, .sort 124 [79] C.Zhl true 16 Zgf), (78, .keys 124)]
theorem sl1_ok : ∀ p ∈ sl1, SfOk Tryz.prog DD p.1 p.2 ∧ ∀ args w, (callFunc p.1 args).run Tryz.prog w = .ok (.enter p.1 args) w := by
  intro p hp
  simp only [sl1, List.mem_cons, List.not_mem_nil, or_false] at hp
  rcases hp with rfl | rfl | rfl
  · exact ⟨del62_ok DD, Zfk Tryz.func62 (by kernel_rfl) (by kernel_rfl)⟩
  · exact ⟨sf77_ok, Zfk Tryz.func77 (by kernel_rfl) (by kernel_rfl)⟩
  · exact ⟨keys78_ok DD, Zfk Tryz.func78 (by kernel_rfl) (by kernel_rfl)⟩
noncomputable def mkF (fn : Func) (fl : List (Pk Tryz.prog DD)) (jl : List (Nat × Jk U)) (ll : List (Nat × Zwe U)) (md : List (Nat × (Nat × U.C))) (dy : TypeId → Bool) (vc : Nat → Bool) (gh : List Nat) (ow : Bool) (io : FuncId → Nat → Bool) (ld : Nat → List Nat) (nl : List (Pk Tryz.prog DD)) (li : Nat → Option (Nat × List Nat)) : Env U := { P := Tryz.prog, D := DD, fd := lk (fds fl), sf := lk sl1, ld := lk ll, jd := lk (jds jl), mode := lk md, elc := lk ec, mpc := lk mc, rts := fn.resultTypes.toList, dyn := dy, Zuu := vc, results := fn.results.toList, gh := gh, own := ow, io := io, lds := ld, fn := lk (fds nl), lit := li }
theorem Ysr (fn : Func) (fl : List (Pk Tryz.prog DD)) (jl : List (Nat × Jk U)) (ll : List (Nat × Zwe U)) (md : List (Nat × (Nat × U.C))) (dy : TypeId → Bool) (vc : Nat → Bool) (gh : List Nat) (ow : Bool) (io : FuncId → Nat → Bool) (ld : Nat → List Nat) (nl : List (Pk Tryz.prog DD)) (li : Nat → Option (Nat × List Nat)) : Zhp (mkF fn fl jl ll md dy vc gh ow io ld nl li) := Ycu lawful (fds fl) sl1 ll (jds jl) _ _ _ _ _ _ _ _ _ _ _ (fds nl) li (Yme fl) sl1_ok (jds_ok jl) (Yme nl)
end
end Go.Proofs.YtbchcjlllddlpaaGreat
