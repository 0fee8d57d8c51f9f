import Derived.Test.YtbchcjlllddlpaaSkE
import Derived.Maps.AppendAt
/-! slices.SortedFunc over maps.Keys. -/
namespace Go.Proofs.Ytbchcjlllddlpaa
open Go Go.Ev Go.RowKit Go.Lib Go.Sort Go.Maps
set_option linter.unusedVariables false
set_option linter.unusedSimpArgs false
set_option maxRecDepth 100000 in
set_option maxHeartbeats 1000000 in
theorem keys90_nil_it (F : Fence) (n : Nat) (h : F.fn 119) (hro : F.round = none) (l Bm o : Nat) (J : List (Int × Int) → World → Prop) (W : World) (hJ : AbidesFrom W.heap.size J)
    (hm : W.cell? ⟨Bm, o, none⟩ = some (.map none)) (h0 : J [] W) :
    CallsIn F n Try.prog 119 #[.func (.yield l) #[] #[], .pointer (some ⟨Bm, o, none⟩)] W fun e W' => (∃ v, e = .returned v) ∧ ∃ ss : List (Int × Int), ss = [] ∧ J ss W' := by
  refine callsIn_of_wp Try.func119 rfl h ?_ hro
  simp only [Try.ntmps119, List.size_toArray, List.length_cons, List.length_nil, Nat.reduceAdd, Nat.reduceSub, Array.replicate_succ, Array.replicate_zero, List.push_toArray, List.append_toArray, List.nil_append, List.cons_append]
  have hrg := run_range_nilMap (P := Try.prog) W 30 40 37 Try.underlying30
  have hnx : ∀ ty, (Instr.next (.pointer (some ⟨W.heap.size, 0, none⟩)) false ty).run Try.prog (W.alloc (.mapIter none 0 #[] 0)) = _ := fun ty => run_next_nilMap _ ty 0 0 #[]
  gi_wp2
  refine wpIn_loop_rounds 1 ?_
  rw [roundsIn_succ]
  gi_wp2
  go_end0
  exact ⟨⟨_, rfl⟩, [], rfl, hJ [] W _ none h0 (World.grownBy_alloc W _ none) (fun r e => by cases e)⟩
theorem keys90_gives_nil (F : Fence) (n : Nat) (h : F.fn 119) (hro : F.round = none) (Bm o : Nat) (w : World) (hBm : Bm < w.heap.size) (hm : w.cell? ⟨Bm, o, none⟩ = some (.map none)) :
    SeqGives F n Try.prog 119 #[.pointer (some ⟨Bm, o, none⟩)] encA (fun ss : List (Int × Int) => ss.Perm []) 0 w := fun l J W hW hJ _ h0 =>
  (keys90_nil_it F n h hro l Bm o J W hJ ((hW.cell (p := ⟨Bm, o, none⟩) hBm).trans hm) h0).mono fun e W' ⟨h1, ss, h2, h3⟩ => ⟨h1, ss, by rw [h2], h3⟩
/-- What a map holds. -/
def KeysAt (w : World) (mb : Option Nat) (ks : List (Int × Int)) : Prop :=
  (mb = none ∧ ks = []) ∨ ∃ b es clock, mb = some b ∧ w.heap[b]? = some (.map es clock) ∧ MapKept.Stamped es clock ∧ es.toList.map (·.key) = ks.map encA
theorem keys90_seq (F : Fence) (n : Nat) (h : F.fn 119) (hro : F.round = none) (hn : 1 ≤ n) (Bm o : Nat) (mb : Option Nat) (ks : List (Int × Int)) (w : World) (hBm : Bm < w.heap.size) (hm : w.cell? ⟨Bm, o, none⟩ = some (.map mb)) (hk : KeysAt w mb ks) :
    SeqGives F n Try.prog 119 #[.pointer (some ⟨Bm, o, none⟩)] encA (fun xs => xs.Perm ks) ks.length w := by
  rcases hk with ⟨rfl, rfl⟩ | ⟨b, es, clock, rfl, hb, st, hks⟩
  · exact keys90_gives_nil F n h hro Bm o w hBm hm
  · have : es.size = ks.length := by simpa using congrArg List.length hks
    rw [← this]
    exact keys90_gives F n h hro hn Bm o b es clock ks hks w hBm hm hb st
set_option maxRecDepth 100000 in
set_option maxHeartbeats 2000000 in
theorem sorted89_in (Bm o : Nat) (mb : Option Nat) (ks : List (Int × Int)) (w : World) (hBm : Bm < w.heap.size) (hm : w.cell? ⟨Bm, o, none⟩ = some (.map mb)) (hlen : ks.length * 16 ≤ 140737488355328) (hk : KeysAt w mb ks) :
    Calls Try.prog 89 #[.func (.func 119) #[] #[.pointer (some ⟨Bm, o, none⟩)], .func (.func 91) #[] #[]] w fun e w' => ∃ v, e = .returned v ∧ Below w.heap.size w w' ∧
      ((ks = [] ∧ v = .slice none 0 0) ∨ ∃ blk cap, v = .slice (some ⟨blk, 0, none⟩) ks.length cap ∧ w.heap.size ≤ blk ∧ blk < w'.heap.size ∧ ks.length ≤ cap ∧
        ∀ (i : Nat) (x : Int × Int), (List.mergeSort ks leII)[i]? = some x → w'.cell? ⟨blk, i * 2 + 0, none⟩ = some (.int .i64 x.1) ∧ w'.cell? ⟨blk, i * 2 + 1, none⟩ = some (.int .i64 x.2)) := by
  have e1 : ∀ args w, (callFunc 117 args).run Try.prog w = .ok (.enter 117 args) w := enters_of Try.func117 (by kernel_rfl) rfl
  have e2 : ∀ args w, (callFunc 118 args).run Try.prog w = .ok (.enter 118 args) w := enters_of Try.func118 (by kernel_rfl) rfl
  have hN : ks.length ≤ maxLen := by unfold maxLen; omega
  have hc := callsIn_wide.1 (collect117_in Fence.wide 3 trivial trivial rfl (by omega) 119 #[.pointer (some ⟨Bm, o, none⟩)] trivial (enters_of Try.func119 (by kernel_rfl) rfl) _ ks.length hN hlen w (keys90_seq Fence.wide 1 trivial rfl (by omega) Bm o mb ks w hBm hm hk))
  go_enter Try.func89, Try.ntmps89
  go_wp2_with (go_at_call 117; refine hc.mono ?_; rintro e W ⟨v, ss, rfl, hS, hrow, hnil, hb⟩)
  rcases hrow.2 with ⟨rfl, hz⟩ | ⟨gb, cap, cur, rfl, hbase, hgb, r1, r2, r3, r4⟩
  · have hss : ss = [] := List.eq_nil_of_length_eq_zero hz
    subst hss
    have hks : ks = [] := by have := hS.length_eq; simpa using this.symm
    go_wp2_with (go_at_call 118; refine (sort118_none W).mono ?_; rintro e w' ⟨rfl, rfl⟩)
    go_ret
    exact ⟨_, rfl, hb, .inl ⟨hks, rfl⟩⟩
  · have hl : ss.length = ks.length := hS.length_eq
    have hH : HoldsK cellsA 2 W gb 0 ss.toArray := holdsA hgb (by simpa using r4)
    have hgl : gb < W.heap.size := (Array.getElem?_eq_some_iff.1 hgb).1
    have cS := sort118_in gb 0 cap ss.toArray W hH hgl (by simp; omega)
    have hms : List.mergeSort ss leII = List.mergeSort ks leII := sort_perm hS
    rw [show ss.toArray.toList = ss from rfl, hms] at cS
    go_wp2_with (go_at_call 118; refine cS.mono ?_; rintro e w' ⟨rfl, nn, os, rfl⟩)
    go_ret
    have hsz : (List.mergeSort ks leII).length = ks.length := List.length_mergeSort ..
    refine ⟨_, rfl, hb.grown (grownByA _) hb.size (fun j hj => by cases hj; exact hbase), .inr ⟨gb, cap, by rw [← hl]; rfl, hbase, Nat.lt_of_lt_of_le hgl (by have := (grownByA (w := W) (g := gb) (n := nn) (os := os) (List.mergeSort ks leII).toArray).size; exact this), by omega, ?_⟩⟩
    intro i x hx
    have hi : i < ks.length := by have := (List.getElem?_eq_some_iff.1 hx).1; omega
    have hp : HoldsK cellsA 2 (sortWorldK cellsA 2 W gb 0 nn (List.mergeSort ks leII).toArray os) gb 0 (List.mergeSort ks leII).toArray := by
      unfold sortWorldK
      exact holdsK_grow _ _ _ _ _ _ _ (by rw [size_putRowK]; exact hgl) (holdsK_putRowK _ _ _ _ _ ss.toArray _ hH (by simp [hsz, hl]))
    have hxi : (List.mergeSort ks leII).toArray[i]! = x := by
      rw [List.getElem!_toArray, List.getElem!_eq_getElem?_getD, hx]; rfl
    have c0 := (hp.cell (i := i) (c := 0) (by simp [hsz]; omega) (by omega)).1
    have c1 := (hp.cell (i := i) (c := 1) (by simp [hsz]; omega) (by omega)).1
    rw [hxi] at c0 c1
    rw [Nat.zero_add] at c0 c1
    exact ⟨c0, c1⟩
/-- The same, by steps that a kernel goes through. -/
def insII (x : Int × Int) : List (Int × Int) → List (Int × Int)
  | [] => [x]
  | y :: r => bif leII x y then x :: y :: r else y :: insII x r
def isrt : List (Int × Int) → List (Int × Int)
  | [] => []
  | x :: r => insII x (isrt r)
theorem insII_perm (x : Int × Int) : ∀ l, (insII x l).Perm (x :: l)
  | [] => .refl _
  | y :: r => by
    unfold insII
    cases leII x y with
    | true => exact .refl _
    | false => exact ((insII_perm x r).cons y).trans (.swap x y r)
theorem isrt_perm : ∀ l, (isrt l).Perm l
  | [] => .refl _
  | x :: r => (insII_perm x _).trans ((isrt_perm r).cons x)
theorem insII_sorted (x : Int × Int) : ∀ l : List (Int × Int), l.Pairwise (fun a b => leII a b = true) → (insII x l).Pairwise fun a b => leII a b = true
  | [], _ => by unfold insII; simp
  | y :: r, h => by
    unfold insII
    rw [List.pairwise_cons] at h
    cases hb : leII x y with
    | true =>
      refine List.pairwise_cons.2 ⟨fun z hz => ?_, List.pairwise_cons.2 h⟩
      rcases List.mem_cons.1 hz with rfl | hz
      · exact hb
      · exact leII_trans _ _ _ hb (h.1 z hz)
    | false =>
      refine List.pairwise_cons.2 ⟨fun z hz => ?_, insII_sorted x r h.2⟩
      rcases List.mem_cons.1 ((insII_perm x r).mem_iff.1 hz) with rfl | hz
      · have := leII_total z y
        rw [hb] at this
        simpa using this
      · exact h.1 z hz
theorem isrt_sorted : ∀ l, (isrt l).Pairwise fun a b => leII a b = true
  | [] => List.Pairwise.nil
  | x :: r => insII_sorted x _ (isrt_sorted r)
theorem isrt_eq (l : List (Int × Int)) : List.mergeSort l leII = isrt l :=
  perm_sorted_eq leII_anti ((List.mergeSort_perm l leII).trans (isrt_perm l).symm) (List.pairwise_mergeSort leII_trans leII_total l) (isrt_sorted l)
end Go.Proofs.Ytbchcjlllddlpaa
