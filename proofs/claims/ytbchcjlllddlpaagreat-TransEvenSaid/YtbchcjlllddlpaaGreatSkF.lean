import Derived.Test.YtbchcjlllddlpaaGreatSkE
import Derived.Maps.AppendAt
namespace Go.Proofs.YtbchcjlllddlpaaGreat
open Go Go.Ev Go.RowKit Go.Lib Go.Sort Go.Maps
set_option linter.unusedVariables false
set_option linter.unusedSimpArgs false
set_option maxRecDepth 100000 in
set_option maxHeartbeats 1000000 in
theorem Yot (F : Fence) (n : Nat) (h : F.fn 124) (hro : F.round = none) (l Bm o : Nat) (J : List (Int × Int) → World → Prop) (W : World) (hJ : AbidesFrom W.heap.size J)
    (hm : W.cell? ⟨Bm, o, none⟩ = some (.map none)) (h0 : J [] W) :
    CallsIn F n Tryz.prog 124 #[.func (.yield l) #[] #[], .pointer (some ⟨Bm, o, none⟩)] W fun e W' => (∃ v, e = .returned v) ∧ ∃ ss : List (Int × Int), ss = [] ∧ J ss W' := by
  refine callsIn_of_wp Tryz.func124 rfl h ?_ hro
  simp only [Tryz.ntmps124, List.size_toArray, List.length_cons, List.length_nil, Nat.reduceAdd, Nat.reduceSub, Array.replicate_succ, Array.replicate_zero, List.push_toArray, List.append_toArray, List.nil_append, List.cons_append]
  have hrg := run_range_nilMap (P := Tryz.prog) W 33 53 40 Tryz.underlying33
  have hnx : ∀ ty, (Instr.next (.pointer (some ⟨W.heap.size, 0, none⟩)) false ty).run Tryz.prog (W.alloc (.mapIter none 0 #[] 0)) = _ := fun ty => run_next_nilMap _ ty 0 0 #[]
  gi_wp2
  refine wpIn_loop_rounds 1 ?_
  rw [roundsIn_succ]
  gi_wp2
  go_end0
  exact ⟨⟨_, rfl⟩, [], rfl, hJ [] W _ none h0 (World.grownBy_alloc W _ none) (fun r e => by cases e)⟩
theorem Yfe (F : Fence) (n : Nat) (h : F.fn 124) (hro : F.round = none) (Bm o : Nat) (w : World) (hBm : Bm < w.heap.size) (hm : w.cell? ⟨Bm, o, none⟩ = some (.map none)) :
    SeqGives F n Tryz.prog 124 #[.pointer (some ⟨Bm, o, none⟩)] Zuw (fun ss : List (Int × Int) => ss.Perm []) 0 w := fun l J W hW hJ _ h0 =>
  (Yot F n h hro l Bm o J W hJ ((hW.cell (p := ⟨Bm, o, none⟩) hBm).trans hm) h0).mono fun e W' ⟨h1, ss, h2, h3⟩ => ⟨h1, ss, by rw [h2], h3⟩
def KeysAt (w : World) (mb : Option Nat) (ks : List (Int × Int)) : Prop :=
  (mb = none ∧ ks = []) ∨ ∃ b es clock, mb = some b ∧ w.heap[b]? = some (.map es clock) ∧ MapKept.Stamped es clock ∧ es.toList.map (·.key) = ks.map Zuw
theorem Yzw (F : Fence) (n : Nat) (h : F.fn 124) (hro : F.round = none) (hn : 1 ≤ n) (Bm o : Nat) (mb : Option Nat) (ks : List (Int × Int)) (w : World) (hBm : Bm < w.heap.size) (hm : w.cell? ⟨Bm, o, none⟩ = some (.map mb)) (hk : KeysAt w mb ks) :
    SeqGives F n Tryz.prog 124 #[.pointer (some ⟨Bm, o, none⟩)] Zuw (fun xs => xs.Perm ks) ks.length w := by
  rcases hk with ⟨rfl, rfl⟩ | ⟨b, es, clock, rfl, hb, st, hks⟩
  · exact Yfe F n h hro Bm o w hBm hm
  · have : es.size = ks.length := by simpa using congrArg List.length hks
    rw [← this]
    exact Ysz F n h hro hn Bm o b es clock ks hks w hBm hm hb st
set_option maxRecDepth 100000 in
set_option maxHeartbeats 2000000 in
theorem Yuw (Bm o : Nat) (mb : Option Nat) (ks : List (Int × Int)) (w : World) (hBm : Bm < w.heap.size) (hm : w.cell? ⟨Bm, o, none⟩ = some (.map mb)) (hlen : ks.length * 16 ≤ 140737488355328) (hk : KeysAt w mb ks) :
    Calls Tryz.prog 77 #[.func (.func 124) #[] #[.pointer (some ⟨Bm, o, none⟩)], .func (.func 79) #[] #[]] w fun e w' => ∃ v, e = .returned v ∧ Below w.heap.size w w' ∧
      ((ks = [] ∧ v = .slice none 0 0) ∨ ∃ blk cap, v = .slice (some ⟨blk, 0, none⟩) ks.length cap ∧ w.heap.size ≤ blk ∧ blk < w'.heap.size ∧ ks.length ≤ cap ∧
        ∀ (i : Nat) (x : Int × Int), (List.mergeSort ks Zkp)[i]? = some x → w'.cell? ⟨blk, i * 2 + 0, none⟩ = some (.int .i64 x.1) ∧ w'.cell? ⟨blk, i * 2 + 1, none⟩ = some (.int .i64 x.2)) := by
  have e1 : ∀ args w, (callFunc 122 args).run Tryz.prog w = .ok (.enter 122 args) w := enters_of Tryz.func122 (by kernel_rfl) rfl
  have e2 : ∀ args w, (callFunc 123 args).run Tryz.prog w = .ok (.enter 123 args) w := enters_of Tryz.func123 (by kernel_rfl) rfl
  have hN : ks.length ≤ maxLen := by unfold maxLen; omega
  have hc := callsIn_wide.1 (Yov Fence.wide 3 trivial trivial rfl (by omega) 124 #[.pointer (some ⟨Bm, o, none⟩)] trivial (enters_of Tryz.func124 (by kernel_rfl) rfl) _ ks.length hN hlen w (Yzw Fence.wide 1 trivial rfl (by omega) Bm o mb ks w hBm hm hk))
  go_enter Tryz.func77, Tryz.ntmps77
  go_wp2_with (go_at_call 122; refine hc.mono ?_; rintro e W ⟨v, ss, rfl, hS, hrow, hnil, hb⟩)
  rcases hrow.2 with ⟨rfl, hz⟩ | ⟨gb, cap, cur, rfl, hbase, hgb, r1, r2, r3, r4⟩
  · have hss : ss = [] := List.eq_nil_of_length_eq_zero hz
    subst hss
    have hks : ks = [] := by have := hS.length_eq; simpa using this.symm
    go_wp2_with (go_at_call 123; refine (Yrt W).mono ?_; rintro e w' ⟨rfl, rfl⟩)
    go_ret
    exact ⟨_, rfl, hb, .inl ⟨hks, rfl⟩⟩
  · have hl : ss.length = ks.length := hS.length_eq
    have hH : HoldsK Zje 2 W gb 0 ss.toArray := holdsA hgb (by simpa using r4)
    have hgl : gb < W.heap.size := (Array.getElem?_eq_some_iff.1 hgb).1
    have cS := Yze gb 0 cap ss.toArray W hH hgl (by simp; omega)
    have hms : List.mergeSort ss Zkp = List.mergeSort ks Zkp := sort_perm hS
    rw [show ss.toArray.toList = ss from rfl, hms] at cS
    go_wp2_with (go_at_call 123; refine cS.mono ?_; rintro e w' ⟨rfl, nn, os, rfl⟩)
    go_ret
    have hsz : (List.mergeSort ks Zkp).length = ks.length := List.length_mergeSort ..
    refine ⟨_, rfl, hb.grown (Ywo _) hb.size (fun j hj => by cases hj; exact hbase), .inr ⟨gb, cap, by rw [← hl]; rfl, hbase, Nat.lt_of_lt_of_le hgl (by have := (Ywo (w := W) (g := gb) (n := nn) (os := os) (List.mergeSort ks Zkp).toArray).size; exact this), by omega, ?_⟩⟩
    intro i x hx
    have hi : i < ks.length := by have := (List.getElem?_eq_some_iff.1 hx).1; omega
    have hp : HoldsK Zje 2 (sortWorldK Zje 2 W gb 0 nn (List.mergeSort ks Zkp).toArray os) gb 0 (List.mergeSort ks Zkp).toArray := by
      unfold sortWorldK
      exact holdsK_grow _ _ _ _ _ _ _ (by rw [size_putRowK]; exact hgl) (holdsK_putRowK _ _ _ _ _ ss.toArray _ hH (by simp [hsz, hl]))
    have hxi : (List.mergeSort ks Zkp).toArray[i]! = x := by
      rw [List.getElem!_toArray, List.getElem!_eq_getElem?_getD, hx]; rfl
    have c0 := (hp.cell (i := i) (c := 0) (by simp [hsz]; omega) (by omega)).1
    have c1 := (hp.cell (i := i) (c := 1) (by simp [hsz]; omega) (by omega)).1
    rw [hxi] at c0 c1
    rw [Nat.zero_add] at c0 c1
    exact ⟨c0, c1⟩
def Ylh (x : Int × Int) : List (Int × Int) → List (Int × Int)
  | [] => [x]
  | y :: r => bif Zkp x y then x :: y :: r else y :: Ylh x r
def isrt : List (Int × Int) → List (Int × Int)
  | [] => []
  | x :: r => Ylh x (isrt r)
theorem Zzu (x : Int × Int) : ∀ l, (Ylh x l).Perm (x :: l)
  | [] => .refl _
  | y :: r => by
    unfold Ylh
    cases Zkp x y with
    | true => exact .refl _
    | false => exact ((Zzu x r).cons y).trans (.swap x y r)
theorem Yfk : ∀ l, (isrt l).Perm l
  | [] => .refl _
  | x :: r => (Zzu x _).trans ((Yfk r).cons x)
theorem Ych (x : Int × Int) : ∀ l : List (Int × Int), l.Pairwise (fun a b => Zkp a b = true) → (Ylh x l).Pairwise fun a b => Zkp a b = true
  | [], _ => by unfold Ylh; simp
  | y :: r, h => by
    unfold Ylh
    rw [List.pairwise_cons] at h
    cases hb : Zkp x y with
    | true =>
      refine List.pairwise_cons.2 ⟨fun z hz => ?_, List.pairwise_cons.2 h⟩
      rcases List.mem_cons.1 hz with rfl | hz
      · exact hb
      · exact Zty _ _ _ hb (h.1 z hz)
    | false =>
      refine List.pairwise_cons.2 ⟨fun z hz => ?_, Ych x r h.2⟩
      rcases List.mem_cons.1 ((Zzu x r).mem_iff.1 hz) with rfl | hz
      · have := Ztz z y
        rw [hb] at this
        simpa using this
      · exact h.1 z hz
theorem Zvi : ∀ l, (isrt l).Pairwise fun a b => Zkp a b = true
  | [] => List.Pairwise.nil
  | x :: r => Ych x _ (Zvi r)
theorem isrt_eq (l : List (Int × Int)) : List.mergeSort l Zkp = isrt l :=
  Zmz Yfd ((List.mergeSort_perm l Zkp).trans (Yfk l).symm) (List.pairwise_mergeSort Zty Ztz l) (Zvi l)
end Go.Proofs.YtbchcjlllddlpaaGreat
