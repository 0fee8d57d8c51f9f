import Derived.Test.YtgfbcclfajcjnaaSkP
import Derived.Shelf.SortM.Plain
import Derived.Shelf.SortM.SortNone
namespace Go.Proofs.Ytgfbcclfajcjnaa
open Go Go.Ev Go.RowKit Go.Lib Go.Sort Go.Maps Go.Proofs
set_option linter.unusedVariables false
set_option linter.unusedSimpArgs false
def layZ_ren : Go.Shelf.Ren := ⟨fun | 6 => 46 | 8 => 66 | 9 => 67 | 11 => 74 | 13 => 76 | 12 => 75 | 23 => 86 | 24 => 87 | 14 => 77 | 15 => 78 | 16 => 79 | 17 => 80 | 18 => 81 | 19 => 82 | 20 => 83 | 21 => 84 | 22 => 85 | 25 => 88 | 26 => 89 | 27 => 90 | 28 => 91 | 29 => 92 | 30 => 93 | 31 => 94 | n => n, fun | 26 => 3 | 28 => 92 | 24 => 38 | 0 => 0 | 3 => 3 | 37 => 71 | 48 => 113 | 50 => 23 | 4 => 4 | 40 => 124 | 39 => 123 | 45 => 128 | 5 => 5 | 9 => 9 | 51 => 132 | 55 => 136 | 57 => 138 | 58 => 139 | 33 => 76 | n => n, fun | n => n⟩
theorem layZ : Go.Proofs.SlLaysZI.n6 Try.prog layZ_ren where
  mixed := by kernel_rfl
  f6 := ⟨"slices.Sorted[int]", by decide, Try.func46.trans (congrArg some (by kernel_rfl))⟩
  f8 := ⟨"slices.Collect[int]", by decide, Try.func66.trans (congrArg some (by kernel_rfl))⟩
  f11 := ⟨"slices.AppendSeq[[]int,int]", by decide, Try.func74.trans (congrArg some (by kernel_rfl))⟩
  t0 := Try.underlying0
  a0 := Try.isAgg0
  z0 := Try.sizeOf0
  v0 := Try.zeroValue0
  t24 := Try.underlying38
  a24 := Try.isAgg38
  z24 := Try.sizeOf38
  v24 := Try.zeroValue38
  t26 := Try.underlying3
  a26 := Try.isAgg3
  z26 := Try.sizeOf3
  v26 := Try.zeroValue3
  t28 := Try.underlying92
  a28 := Try.isAgg92
  z28 := Try.sizeOf92
  v28 := Try.zeroValue92
  i26 := by kernel_rfl
def layM_ren : Go.Shelf.Ren := ⟨fun | 5 => 67 | 8 => 76 | 7 => 75 | 19 => 86 | 20 => 87 | 10 => 77 | 11 => 78 | 12 => 79 | 13 => 80 | 14 => 81 | 15 => 82 | 16 => 83 | 17 => 84 | 18 => 85 | 30 => 88 | 31 => 89 | 32 => 90 | 33 => 91 | 34 => 92 | 35 => 93 | 40 => 94 | n => n, fun | 23 => 38 | 25 => 3 | 3 => 3 | 32 => 71 | 22 => 38 | 0 => 0 | 44 => 113 | 46 => 23 | 4 => 4 | 36 => 124 | 35 => 123 | 41 => 128 | 5 => 5 | 9 => 9 | 53 => 132 | 57 => 136 | 63 => 138 | 64 => 139 | n => n, fun | n => n⟩
theorem layM : Go.Proofs.SlLaysM.n5 Try.prog layM_ren where
  mixed := by kernel_rfl
  f5 := ⟨"slices.Sort[[]int,int]", by decide, Try.func67.trans (congrArg some (by kernel_rfl))⟩
  f7 := ⟨"slices.pdqsortOrdered[int]", by decide, Try.func75.trans (congrArg some (by kernel_rfl))⟩
  f8 := Try.func76.trans (congrArg some (by kernel_rfl))
  f10 := ⟨"slices.insertionSortOrdered[int]", by decide, Try.func77.trans (congrArg some (by kernel_rfl))⟩
  f11 := ⟨"slices.heapSortOrdered[int]", by decide, Try.func78.trans (congrArg some (by kernel_rfl))⟩
  f12 := ⟨"slices.breakPatternsOrdered[int]", by decide, Try.func79.trans (congrArg some (by kernel_rfl))⟩
  f13 := ⟨"slices.choosePivotOrdered[int]", by decide, Try.func80.trans (congrArg some (by kernel_rfl))⟩
  f14 := ⟨"slices.reverseRangeOrdered[int]", by decide, Try.func81.trans (congrArg some (by kernel_rfl))⟩
  f15 := ⟨"slices.partialInsertionSortOrdered[int]", by decide, Try.func82.trans (congrArg some (by kernel_rfl))⟩
  f16 := ⟨"cmp.Less[int]", by decide, Try.func83.trans (congrArg some (by kernel_rfl))⟩
  f17 := ⟨"slices.partitionEqualOrdered[int]", by decide, Try.func84.trans (congrArg some (by kernel_rfl))⟩
  f18 := ⟨"slices.partitionOrdered[int]", by decide, Try.func85.trans (congrArg some (by kernel_rfl))⟩
  f19 := Try.func86.trans (congrArg some (by kernel_rfl))
  f20 := Try.func87.trans (congrArg some (by kernel_rfl))
  f30 := ⟨"slices.siftDownOrdered[int]", by decide, Try.func88.trans (congrArg some (by kernel_rfl))⟩
  f31 := Try.func89.trans (congrArg some (by kernel_rfl))
  f32 := Try.func90.trans (congrArg some (by kernel_rfl))
  f33 := ⟨"slices.medianAdjacentOrdered[int]", by decide, Try.func91.trans (congrArg some (by kernel_rfl))⟩
  f34 := ⟨"slices.medianOrdered[int]", by decide, Try.func92.trans (congrArg some (by kernel_rfl))⟩
  f35 := ⟨"cmp.isNaN[int]", by decide, Try.func93.trans (congrArg some (by kernel_rfl))⟩
  f40 := ⟨"slices.order2Ordered[int]", by decide, Try.func94.trans (congrArg some (by kernel_rfl))⟩
  t0 := Try.underlying0
  a0 := Try.isAgg0
  z0 := Try.sizeOf0
  v0 := Try.zeroValue0
  t3 := Try.underlying3
  a3 := Try.isAgg3
  z3 := Try.sizeOf3
  v3 := Try.zeroValue3
  t4 := Try.underlying4
  a4 := Try.isAgg4
  z4 := Try.sizeOf4
  v4 := Try.zeroValue4
  t5 := Try.underlying5
  a5 := Try.isAgg5
  z5 := Try.sizeOf5
  v5 := Try.zeroValue5
  t9 := Try.underlying9
  a9 := Try.isAgg9
  z9 := Try.sizeOf9
  v9 := Try.zeroValue9
  t22 := Try.underlying38
  a22 := Try.isAgg38
  z22 := Try.sizeOf38
  v22 := Try.zeroValue38
  t23 := Try.underlying38
  a23 := Try.isAgg38
  z23 := Try.sizeOf38
  v23 := Try.zeroValue38
  t25 := Try.underlying3
  a25 := Try.isAgg3
  z25 := Try.sizeOf3
  v25 := Try.zeroValue3
  t32 := Try.underlying71
  a32 := Try.isAgg71
  z32 := Try.sizeOf71
  v32 := Try.zeroValue71
  t35 := Try.underlying123
  a35 := Try.isAgg123
  z35 := Try.sizeOf123
  v35 := Try.zeroValue123
  t36 := Try.underlying124
  a36 := Try.isAgg124
  z36 := Try.sizeOf124
  v36 := Try.zeroValue124
  t41 := Try.underlying128
  a41 := Try.isAgg128
  z41 := Try.sizeOf128
  v41 := Try.zeroValue128
  t44 := Try.underlying113
  a44 := Try.isAgg113
  z44 := Try.sizeOf113
  v44 := Try.zeroValue113
  t46 := Try.underlying23
  a46 := Try.isAgg23
  z46 := Try.sizeOf23
  v46 := Try.zeroValue23
  t53 := Try.underlying132
  a53 := Try.isAgg132
  z53 := Try.sizeOf132
  v53 := Try.zeroValue132
  t57 := Try.underlying136
  a57 := Try.isAgg136
  z57 := Try.sizeOf136
  v57 := Try.zeroValue136
  t63 := Try.underlying138
  a63 := Try.isAgg138
  z63 := Try.sizeOf138
  v63 := Try.zeroValue138
  t64 := Try.underlying139
  a64 := Try.isAgg139
  z64 := Try.sizeOf139
  v64 := Try.zeroValue139
set_option maxRecDepth 100000 in
set_option maxHeartbeats 1000000 in
theorem keys47_nil_it (F : Fence) (n : Nat) (h : F.fn 68) (hro : F.round = none) (l Bm o : Nat) (J : List Int → World → Prop) (W : World) (hJ : AbidesFrom W.heap.size J)
    (hm : W.cell? ⟨Bm, o, none⟩ = some (.map none)) (h0 : J [] W) :
    CallsIn F n Try.prog 68 #[.func (.yield l) #[] #[], .pointer (some ⟨Bm, o, none⟩)] W fun e W' => (∃ v, e = .returned v) ∧ ∃ ss : List Int, ss = [] ∧ J ss W' := by
  refine callsIn_of_wp Try.func68 rfl h ?_ hro
  simp only [Try.ntmps68, List.size_toArray, List.length_cons, List.length_nil, Nat.reduceAdd, Nat.reduceSub, Array.replicate_succ, Array.replicate_zero, List.push_toArray, List.append_toArray, List.nil_append, List.cons_append]
  have hrg := run_range_nilMap (P := Try.prog) W 30 3 29 Try.underlying30
  have hnx : ∀ ty, (Instr.next (.pointer (some ⟨W.heap.size, 0, none⟩)) false ty).run Try.prog (W.alloc (.mapIter none 0 #[] 0)) = _ := fun ty => run_next_nilMap _ ty 0 0 #[]
  gi_wp2
  refine wpIn_loop_rounds 1 ?_
  rw [roundsIn_succ]
  gi_wp2
  go_end0
  exact ⟨⟨_, rfl⟩, [], rfl, hJ [] W _ none h0 (World.grownBy_alloc W _ none) (fun r e => by cases e)⟩
theorem keys47_gives_nil (F : Fence) (n : Nat) (h : F.fn 68) (hro : F.round = none) (Bm o : Nat) (w : World) (hBm : Bm < w.heap.size) (hm : w.cell? ⟨Bm, o, none⟩ = some (.map none)) :
    SeqGives F n Try.prog 68 #[.pointer (some ⟨Bm, o, none⟩)] encZ (fun ss : List Int => ss.Perm []) 0 w := fun l J W hW hJ _ h0 =>
  (keys47_nil_it F n h hro l Bm o J W hJ ((hW.cell (p := ⟨Bm, o, none⟩) hBm).trans hm) h0).mono fun e W' ⟨h1, ss, h2, h3⟩ => ⟨h1, ss, by rw [h2], h3⟩
def KeysAt (w : World) (mb : Option Nat) (ks : List Int) : Prop :=
  (mb = none ∧ ks = []) ∨ ∃ b es clock, mb = some b ∧ w.heap[b]? = some (.map es clock) ∧ MapKept.Stamped es clock ∧ es.toList.map (·.key) = ks.map encZ
theorem keys47_seq (F : Fence) (n : Nat) (h : F.fn 68) (hro : F.round = none) (hn : 1 ≤ n) (Bm o : Nat) (mb : Option Nat) (ks : List Int) (w : World) (hBm : Bm < w.heap.size) (hm : w.cell? ⟨Bm, o, none⟩ = some (.map mb)) (hk : KeysAt w mb ks) :
    SeqGives F n Try.prog 68 #[.pointer (some ⟨Bm, o, none⟩)] encZ (fun xs => xs.Perm ks) ks.length w := by
  rcases hk with ⟨rfl, rfl⟩ | ⟨b, es, clock, rfl, hb, st, hks⟩
  · exact keys47_gives_nil F n h hro Bm o w hBm hm
  · have : es.size = ks.length := by simpa using congrArg List.length hks
    rw [← this]
    exact keys47_gives F n h hro hn Bm o b es clock ks hks w hBm hm hb st
theorem sortsZ (m : Nat) : AnyZI.SortsIn Try.prog layZ_ren Fence.wide m :=
  ⟨fun blk off cap ss W hH hblk hsz => callsIn_wide.2 (AnyM.slices_Sort_int layM blk off cap ss W hH hblk hsz),
   fun p cap W => callsIn_wide.2 (AnyM.slices_Sort_int_none layM p cap W)⟩
def leZ (x y : Int) : Bool := decide (x ≤ y)
theorem perm_sortedZ {l1 l2 : List Int} (p : l1.Perm l2) (h1 : l1.Pairwise fun a b => leZ a b = true) (h2 : l2.Pairwise fun a b => leZ a b = true) : l1 = l2 :=
  List.Perm.eq_of_pairwise (le := fun a b => leZ a b = true) (fun a b _ _ h h' => by unfold leZ at h h'; simp at h h'; omega) h1 h2 p
theorem leZ_trans (x y z : Int) (h1 : leZ x y = true) (h2 : leZ y z = true) : leZ x z = true := by
  unfold leZ at *
  simp at *
  omega
theorem leZ_total (x y : Int) : (leZ x y || leZ y x) = true := by
  unfold leZ
  simp
  omega
theorem sortZ_perm {l1 l2 : List Int} (p : l1.Perm l2) : List.mergeSort l1 leZ = List.mergeSort l2 leZ :=
  perm_sortedZ (((List.mergeSort_perm l1 leZ).trans p).trans (List.mergeSort_perm l2 leZ).symm) (List.pairwise_mergeSort leZ_trans leZ_total l1) (List.pairwise_mergeSort leZ_trans leZ_total l2)
set_option maxRecDepth 100000 in
set_option maxHeartbeats 2000000 in
theorem sorted46_in (Bm o : Nat) (mb : Option Nat) (ks : List Int) (w : World) (hBm : Bm < w.heap.size) (hm : w.cell? ⟨Bm, o, none⟩ = some (.map mb)) (hlen : ks.length * 8 ≤ 140737488355328) (hk : KeysAt w mb ks) :
    Calls Try.prog 46 #[.func (.func 68) #[] #[.pointer (some ⟨Bm, o, none⟩)]] w fun e w' => ∃ v, e = .returned v ∧ Below w.heap.size w w' ∧
      ((ks = [] ∧ v = .slice none 0 0) ∨ ∃ blk cap, v = .slice (some ⟨blk, 0, none⟩) ks.length cap ∧ w.heap.size ≤ blk ∧ blk < w'.heap.size ∧ ks.length ≤ cap ∧
        ∀ (i : Nat) (x : Int), (List.mergeSort ks leZ)[i]? = some x → w'.cell? ⟨blk, i, none⟩ = some (.int .i64 x)) := by
  have hN : ks.length ≤ maxLen := by unfold maxLen; omega
  have hc := AnyZI.sorted_in layZ Fence.wide 5 trivial trivial trivial trivial rfl (by omega) (sortsZ _) (enters_of Try.func67 (by kernel_rfl) rfl) 68 #[.pointer (some ⟨Bm, o, none⟩)] trivial (enters_of Try.func68 (by kernel_rfl) rfl) (fun xs => xs.Perm ks) ks.length hN hlen w
    (keys47_seq Fence.wide _ trivial rfl (by omega) Bm o mb ks w hBm hm hk)
  change CallsIn _ _ Try.prog 46 _ _ _ at hc
  refine (callsIn_wide.1 hc).mono ?_
  rintro e w' ⟨v, ss, rfl, hS, hrow, hnil, hb⟩
  refine ⟨v, rfl, hb, ?_⟩
  rcases hrow.2 with ⟨rfl, hz⟩ | ⟨gb, cap, cur, rfl, hbase, hgb, r1, r2, r3, r4⟩
  · have hss : ss = [] := List.eq_nil_of_length_eq_zero hz
    subst hss
    exact .inl ⟨hS.symm.eq_nil, rfl⟩
  · have hl : ss.length = ks.length := hS.length_eq
    refine .inr ⟨gb, cap, by rw [← hl], hbase, (Array.getElem?_eq_some_iff.1 hgb).1, by omega, fun i x hx => ?_⟩
    have hms : List.mergeSort ss leZ = List.mergeSort ks leZ := sortZ_perm hS
    rw [← hms] at hx
    have hi : i < ss.length := by have := (List.getElem?_eq_some_iff.1 hx).1; simpa using this
    have h1 : (cur.toList.take (ss.length * 1))[i]? = ((ss.mergeSort fun x y => decide (x ≤ y)).map encZ)[i]? := by rw [r4]
    rw [List.getElem?_take_of_lt (by omega), List.getElem?_map, show (ss.mergeSort fun x y => decide (x ≤ y)) = ss.mergeSort leZ from rfl, hx] at h1
    simp only [World.cell?, hgb]
    simp only [Option.isSome_none, Bool.false_eq_true, if_false]
    rw [← Array.getElem?_toList, h1]
    rfl
def insZ (x : Int) : List Int → List Int
  | [] => [x]
  | y :: r => bif leZ x y then x :: y :: r else y :: insZ x r
def isrtZ : List Int → List Int
  | [] => []
  | x :: r => insZ x (isrtZ r)
theorem insZ_perm (x : Int) : ∀ l, (insZ x l).Perm (x :: l)
  | [] => .refl _
  | y :: r => by
    unfold insZ
    cases leZ x y with
    | true => exact .refl _
    | false => exact ((insZ_perm x r).cons y).trans (.swap x y r)
theorem isrtZ_perm : ∀ l, (isrtZ l).Perm l
  | [] => .refl _
  | x :: r => (insZ_perm x _).trans ((isrtZ_perm r).cons x)
theorem insZ_sorted (x : Int) : ∀ l : List Int, l.Pairwise (fun a b => leZ a b = true) → (insZ x l).Pairwise fun a b => leZ a b = true
  | [], _ => by unfold insZ; simp
  | y :: r, h => by
    unfold insZ
    rw [List.pairwise_cons] at h
    cases hb : leZ x y with
    | true =>
      refine List.pairwise_cons.2 ⟨fun z hz => ?_, List.pairwise_cons.2 h⟩
      rcases List.mem_cons.1 hz with rfl | hz
      · exact hb
      · exact leZ_trans _ _ _ hb (h.1 z hz)
    | false =>
      refine List.pairwise_cons.2 ⟨fun z hz => ?_, insZ_sorted x r h.2⟩
      rcases List.mem_cons.1 ((insZ_perm x r).mem_iff.1 hz) with rfl | hz
      · have := leZ_total z y
        rw [hb] at this
        simpa using this
      · exact h.1 z hz
theorem isrtZ_sorted : ∀ l, (isrtZ l).Pairwise fun a b => leZ a b = true
  | [] => List.Pairwise.nil
  | x :: r => insZ_sorted x _ (isrtZ_sorted r)
theorem isrtZ_eq (l : List Int) : List.mergeSort l leZ = isrtZ l :=
  perm_sortedZ ((List.mergeSort_perm l leZ).trans (isrtZ_perm l).symm) (List.pairwise_mergeSort leZ_trans leZ_total l) (isrtZ_sorted l)
theorem isrtZ_of_perm {l m : List Int} (h : l.Perm m) : isrtZ l = isrtZ m := by rw [← isrtZ_eq, ← isrtZ_eq, sortZ_perm h]
end Go.Proofs.Ytgfbcclfajcjnaa
