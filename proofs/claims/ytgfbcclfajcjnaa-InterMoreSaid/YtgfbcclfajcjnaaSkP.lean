import Derived.Test.YtgfbcclfajcjnaaEvRg
import Derived.Test.YtgfbcclfajcjnaaProg
import Derived.Shelf.SlIterI.Sorted
namespace Go.Proofs.Ytgfbcclfajcjnaa
open Go Go.Ev Go.RowKit Go.Maps Go.Sort Go.Proofs
set_option linter.unusedVariables false
set_option linter.unusedSimpArgs false
set_option maxRecDepth 100000 in
set_option maxHeartbeats 1000000 in
theorem keys47_it (F : Fence) (n : Nat) (h : F.fn 68) (hro : F.round = none) (hn : 1 ≤ n) (l Bm o b : Nat) (es : Array MapEntry) (clock : Nat) (ks : List Int) (hks : es.toList.map (·.key) = ks.map encZ) (J : List Int → World → Prop)
    (hY : ∀ pre x W, J pre W → pre.length < es.size → YieldAt F (n - 1) Try.prog l #[encZ x] W fun e W' => e = .returned (.bool true) ∧ J (pre ++ [x]) W' ∧ KeepsWalks W W')
    (W : World) (hJ : AbidesFrom W.heap.size J) (hm : W.cell? ⟨Bm, o, none⟩ = some (.map (some b))) (hb : W.heap[b]? = some (.map es clock)) (st : MapKept.Stamped es clock) (h0 : J [] W) :
    CallsIn F n Try.prog 68 #[.func (.yield l) #[] #[], .pointer (some ⟨Bm, o, none⟩)] W fun e W' => (∃ v, e = .returned v) ∧ ∃ xs : List Int, xs.Perm ks ∧ J xs W' := by
  refine callsIn_of_wp Try.func68 rfl h ?_ hro
  simp only [Try.ntmps68, List.size_toArray, List.length_cons, List.length_nil, Nat.reduceAdd, Nat.reduceSub, Array.replicate_succ, Array.replicate_zero, List.push_toArray, List.append_toArray, List.nil_append, List.cons_append]
  gi_wp2_with (first
    | (gi_at_range; refine wpListIn_range_raw rfl _ 30 rfl 3 29 Try.underlying30 b rfl hb st ?_; intro w0 hrg0 hg0 hs0)
    | gi_in)
  go_frame
  gi_loopw [3] (fun _ wr => ∃ (got : List MapEntry) (xs : List Int), Rng wr b W.heap.size es clock got ∧ got.map (·.key) = xs.map encZ ∧ J xs wr)
    (fun _ wr => wr.rangeLeft b W.heap.size)
  case atStart =>
    exact ⟨[], [], hrg0, rfl, hJ [] W w0 none h0 hg0 (fun r e => by cases e)⟩
  case round =>
    obtain ⟨got, xs, hrg, hgx, hJs⟩ := hrel
    gi_wp2_with (first
      | (gi_at_next; refine wpListIn_next_raw rfl _ rfl b W.heap.size rfl hrg ?_ ?_)
      | gi_in)
    ·
      intro hp
      gi_wp2
      go_end0
      refine ⟨⟨_, rfl⟩, xs, ?_, hJs⟩
      have := hp.map (·.key)
      rw [hgx, hks] at this
      exact perm_of_map (fun x y e => encZ_inj e) this
    ·
      intro e w2 hem hlen hrg2 hlt hg2 hs2 hen
      obtain ⟨x, hx⟩ : ∃ x : Int, e.key = encZ x := by
        have : e.key ∈ es.toList.map (·.key) := List.mem_map.2 ⟨e, by simpa using hem, rfl⟩
        rw [hks] at this
        obtain ⟨x, _, hx⟩ := List.mem_map.1 this
        exact ⟨x, hx.symm⟩
      rw [hx] at hen ⊢
      have hJ2 : J xs w2 := hJ xs wr w2 (some W.heap.size) hJs hg2 (fun r e => by cases e; exact ⟨Nat.le_refl _, hrg.walk⟩)
      have hlx : got.length = xs.length := by simpa using congrArg List.length hgx
      obtain ⟨fn, tmps, assign, body, hy, hR⟩ := hY xs x _ hJ2 (by omega)
      unfold encZ at hen hx
      unfold encZ at hy
      clear hs2
      gi_wp2
      refine hR.mono ?_
      rintro e' W3 ⟨rfl, hJ4, hk3⟩
      gi_wp2
      have hrg4 := hrg2.of_walks hk3
      go_roundw
      case rel => exact ⟨got ++ [e], xs ++ [x], hrg4, by rw [List.map_append, List.map_append, hgx, List.map_cons, hx]; rfl, hJ4⟩
      case measure => rw [hrg4.same hrg2]; exact hlt
set_option maxHeartbeats 1000000 in
theorem keys47_in (F : Fence) (n : Nat) (h : F.fn 47) (hro : F.round = none) (mb : Option Nat) (w : World) :
    CallsIn F n Try.prog 47 #[.map mb] w fun e w' => e = .returned (.func (.func 68) #[] #[.pointer (some ⟨w.heap.size, 0, none⟩)]) ∧ w' = w.alloc (.cells #[.map mb] 30) := by
  refine callsIn_of_wp Try.func47 rfl h ?_ hro
  simp only [Try.ntmps47, List.size_toArray, List.length_cons, List.length_nil, Nat.reduceAdd, Nat.reduceSub, Array.replicate_succ, Array.replicate_zero, List.push_toArray, List.append_toArray, List.nil_append, List.cons_append]
  gi_wp2
  go_ret
  exact ⟨rfl, rfl⟩
theorem keys47_ok {U : Univ} (D : Codec U) : SfOk Try.prog D 47 (.keys 68) := fun mb w => by
  refine (callsIn_wide (n := 2)).1 ((keys47_in Fence.wide 2 trivial rfl mb w).mono ?_)
  rintro e w' ⟨rfl, rfl⟩
  exact ⟨_, rfl, Nat.le_refl _, by simp, by simp, (Below.refl _ w).alloc (Nat.le_refl _) _⟩
theorem keys47_gives (F : Fence) (n : Nat) (h : F.fn 68) (hro : F.round = none) (hn : 1 ≤ n) (Bm o b : Nat) (es : Array MapEntry) (clock : Nat) (ks : List Int) (hks : es.toList.map (·.key) = ks.map encZ) (w : World) (hBm : Bm < w.heap.size)
    (hm : w.cell? ⟨Bm, o, none⟩ = some (.map (some b))) (hb : w.heap[b]? = some (.map es clock)) (st : MapKept.Stamped es clock) :
    SeqGives F n Try.prog 68 #[.pointer (some ⟨Bm, o, none⟩)] encZ (fun xs => xs.Perm ks) es.size w := fun l J W hW hJ hY h0 =>
  keys47_it F n h hro hn l Bm o b es clock ks hks J hY W hJ ((hW.cell (p := ⟨Bm, o, none⟩) hBm).trans hm) ((hW.block b (Array.getElem?_eq_some_iff.1 hb).1).trans hb) st h0
end Go.Proofs.Ytgfbcclfajcjnaa
