import Derived.Test.YtbchcjlllddlpaaSkD
import Derived.Shelf.SlLaysF0
import Derived.Shelf.SlSortCmp.NoneTotal
/-! slices.SortFunc at the keys. -/
namespace Go.Proofs.Ytbchcjlllddlpaa
open Go Go.Ev Go.RowKit Go.Lib Go.Sort
set_option linter.unusedVariables false
set_option linter.unusedSimpArgs false
def layS_ren : Go.Shelf.Ren := ⟨fun | 6 => 118 | 15 => 135 | 14 => 134 | 28 => 146 | 29 => 147 | 20 => 138 | 21 => 139 | 22 => 140 | 23 => 141 | 24 => 142 | 25 => 143 | 26 => 144 | 27 => 145 | 46 => 148 | 47 => 149 | 48 => 150 | 49 => 151 | 50 => 152 | 57 => 153 | n => n, fun | 22 => 112 | 24 => 40 | 25 => 139 | 3 => 3 | 39 => 154 | 0 => 0 | 53 => 151 | 55 => 34 | 4 => 4 | 46 => 179 | 45 => 178 | 50 => 183 | 5 => 5 | 9 => 9 | 66 => 187 | 70 => 191 | 76 => 193 | 77 => 194 | n => n, fun | n => n⟩
theorem layS : Go.Proofs.SlLaysF0.n6 Try.prog layS_ren where
  mixed := by kernel_rfl
  f6 := ⟨"slices.SortFunc[[][2]int,[2]int]", by decide, Try.func118.trans (congrArg some (by kernel_rfl))⟩
  f14 := ⟨"slices.pdqsortCmpFunc[[2]int]", by decide, Try.func134.trans (congrArg some (by kernel_rfl))⟩
  f15 := Try.func135.trans (congrArg some (by kernel_rfl))
  f20 := ⟨"slices.insertionSortCmpFunc[[2]int]", by decide, Try.func138.trans (congrArg some (by kernel_rfl))⟩
  f21 := ⟨"slices.heapSortCmpFunc[[2]int]", by decide, Try.func139.trans (congrArg some (by kernel_rfl))⟩
  f22 := ⟨"slices.breakPatternsCmpFunc[[2]int]", by decide, Try.func140.trans (congrArg some (by kernel_rfl))⟩
  f23 := ⟨"slices.choosePivotCmpFunc[[2]int]", by decide, Try.func141.trans (congrArg some (by kernel_rfl))⟩
  f24 := ⟨"slices.reverseRangeCmpFunc[[2]int]", by decide, Try.func142.trans (congrArg some (by kernel_rfl))⟩
  f25 := ⟨"slices.partialInsertionSortCmpFunc[[2]int]", by decide, Try.func143.trans (congrArg some (by kernel_rfl))⟩
  f26 := ⟨"slices.partitionEqualCmpFunc[[2]int]", by decide, Try.func144.trans (congrArg some (by kernel_rfl))⟩
  f27 := ⟨"slices.partitionCmpFunc[[2]int]", by decide, Try.func145.trans (congrArg some (by kernel_rfl))⟩
  f28 := Try.func146.trans (congrArg some (by kernel_rfl))
  f29 := Try.func147.trans (congrArg some (by kernel_rfl))
  f46 := ⟨"slices.siftDownCmpFunc[[2]int]", by decide, Try.func148.trans (congrArg some (by kernel_rfl))⟩
  f47 := Try.func149.trans (congrArg some (by kernel_rfl))
  f48 := Try.func150.trans (congrArg some (by kernel_rfl))
  f49 := ⟨"slices.medianAdjacentCmpFunc[[2]int]", by decide, Try.func151.trans (congrArg some (by kernel_rfl))⟩
  f50 := ⟨"slices.medianCmpFunc[[2]int]", by decide, Try.func152.trans (congrArg some (by kernel_rfl))⟩
  f57 := ⟨"slices.order2CmpFunc[[2]int]", by decide, Try.func153.trans (congrArg some (by kernel_rfl))⟩
  t0 := Try.underlying0
  a0 := Try.isAgg0
  z0 := Try.sizeOf0
  v0 := Try.zeroValue0
  t3 := Try.underlying3
  a3 := Try.isAgg3
  z3 := Try.sizeOf3
  v3 := Try.zeroValue3
  t4 := Try.underlying4
  a4 := Try.isAgg4
  z4 := Try.sizeOf4
  v4 := Try.zeroValue4
  t5 := Try.underlying5
  a5 := Try.isAgg5
  z5 := Try.sizeOf5
  v5 := Try.zeroValue5
  t9 := Try.underlying9
  a9 := Try.isAgg9
  z9 := Try.sizeOf9
  v9 := Try.zeroValue9
  t22 := Try.underlying112
  a22 := Try.isAgg112
  z22 := Try.sizeOf112
  v22 := Try.zeroValue112
  t25 := Try.underlying139
  a25 := Try.isAgg139
  z25 := Try.sizeOf139
  v25 := Try.zeroValue139
  t39 := Try.underlying154
  a39 := Try.isAgg154
  z39 := Try.sizeOf154
  v39 := Try.zeroValue154
  t45 := Try.underlying178
  a45 := Try.isAgg178
  z45 := Try.sizeOf178
  v45 := Try.zeroValue178
  t46 := Try.underlying179
  a46 := Try.isAgg179
  z46 := Try.sizeOf179
  v46 := Try.zeroValue179
  t50 := Try.underlying183
  a50 := Try.isAgg183
  z50 := Try.sizeOf183
  v50 := Try.zeroValue183
  t53 := Try.underlying151
  a53 := Try.isAgg151
  z53 := Try.sizeOf151
  v53 := Try.zeroValue151
  t55 := Try.underlying34
  a55 := Try.isAgg34
  z55 := Try.sizeOf34
  v55 := Try.zeroValue34
  t66 := Try.underlying187
  a66 := Try.isAgg187
  z66 := Try.sizeOf187
  v66 := Try.zeroValue187
  t70 := Try.underlying191
  a70 := Try.isAgg191
  z70 := Try.sizeOf191
  v70 := Try.zeroValue191
  t76 := Try.underlying193
  a76 := Try.isAgg193
  z76 := Try.sizeOf193
  v76 := Try.zeroValue193
  t77 := Try.underlying194
  a77 := Try.isAgg194
  z77 := Try.sizeOf194
  v77 := Try.zeroValue194
/-- Not after. -/
def leII (x y : Int × Int) : Bool := !decide (y.1 < x.1 ∨ (y.1 = x.1 ∧ y.2 < x.2))
theorem leII_eq : (fun x y => !(ltOf cmpA) y x) = leII := by
  funext x y
  rw [ltA]
  rfl
theorem leII_trans (x y z : Int × Int) (h1 : leII x y = true) (h2 : leII y z = true) : leII x z = true := by
  unfold leII at *
  simp at *
  omega
theorem leII_total (x y : Int × Int) : (leII x y || leII y x) = true := by
  unfold leII
  simp
  omega
theorem leII_anti (x y : Int × Int) (h1 : leII x y = true) (h2 : leII y x = true) : x = y := by
  unfold leII at *
  simp at h1 h2
  obtain ⟨x1, x2⟩ := x
  obtain ⟨y1, y2⟩ := y
  simp at *
  omega
theorem perm_sorted_eq {α : Type} {R : α → α → Prop} (anti : ∀ a b, R a b → R b a → a = b) : ∀ {l1 l2 : List α}, l1.Perm l2 → l1.Pairwise R → l2.Pairwise R → l1 = l2
  | [], l2, p, _, _ => (p.nil_eq)
  | a :: l1, [], p, _, _ => by have := p.length_eq; simp at this
  | a :: l1, b :: l2, p, h1, h2 => by
    rw [List.pairwise_cons] at h1 h2
    have ha : a ∈ b :: l2 := p.subset (List.mem_cons_self ..)
    have hb : b ∈ a :: l1 := p.symm.subset (List.mem_cons_self ..)
    have e : a = b := by
      rcases List.mem_cons.1 ha with e | ha
      · exact e
      · rcases List.mem_cons.1 hb with e | hb
        · exact e.symm
        · exact anti a b (h1.1 b hb) (h2.1 a ha)
    subst e
    rw [perm_sorted_eq anti p.cons_inv h1.2 h2.2]
theorem sort_perm {l1 l2 : List (Int × Int)} (p : l1.Perm l2) : List.mergeSort l1 leII = List.mergeSort l2 leII :=
  perm_sorted_eq leII_anti (((List.mergeSort_perm l1 leII).trans p).trans (List.mergeSort_perm l2 leII).symm) (List.pairwise_mergeSort leII_trans leII_total l1) (List.pairwise_mergeSort leII_trans leII_total l2)
theorem sort118_in (blk off cap : Nat) (d : Array (Int × Int)) (w : World) (hH : HoldsK cellsA 2 w blk off d) (hblk : blk < w.heap.size) (hsz : d.size < 4611686018427387904) :
    Calls Try.prog 118 #[.slice (some ⟨blk, off, none⟩) d.size cap, .func (.func 91) #[] #[]] w fun e w' =>
      e = .returned (.tuple #[]) ∧ ∃ n os, w' = sortWorldK cellsA 2 w blk off n (List.mergeSort d.toList leII).toArray os := by
  have h := AnyQ.slices_SortFunc_total layS 2 Try.isAgg40 Try.sizeOf40 cellsA (fun _ => rfl) (fun x v hv => by simp [cellsA] at hv; rcases hv with rfl | rfl <;> rfl) cmpA swoA 91 #[] blk off cap d w (enters_of Try.func91 (by kernel_rfl) rfl) (cmpLays91 blk off d.size w) hH hblk hsz
    (fun x y h1 h2 => by
      rw [ltA] at h1 h2
      obtain ⟨x1, x2⟩ := x
      obtain ⟨y1, y2⟩ := y
      simp at h1 h2 ⊢
      omega)
  rw [leII_eq] at h
  exact h
theorem sort118_none (w : World) : Calls Try.prog 118 #[.slice none 0 0, .func (.func 91) #[] #[]] w fun e w' => e = .returned (.tuple #[]) ∧ w' = w := AnyF.slices_SortFunc_none layS none 0 _ w
theorem flatA_get : ∀ (ss : List (Int × Int)) (t : Nat), t < ss.length * 2 → (ss.flatMap cellsA)[t]? = some ((cellsA ss[t / 2]!)[t % 2]!)
  | [], t, h => by simp at h
  | x :: r, 0, h => by simp [cellsA]
  | x :: r, 1, h => by simp [cellsA]
  | x :: r, t + 2, h => by
    have ih := flatA_get r t (by simp at h; omega)
    have e1 : (t + 2) / 2 = t / 2 + 1 := by omega
    have e2 : (t + 2) % 2 = t % 2 := by omega
    rw [e1, e2]
    simp only [List.flatMap_cons, cellsA, List.cons_append, List.nil_append, List.getElem?_cons_succ] at ih ⊢
    rw [ih]
    simp
theorem holdsA {w : World} {g : Nat} {cur : Array Value} {e : TypeId} {ss : List (Int × Int)} (hb : w.heap[g]? = some (.cells cur e (0, 0))) (ht : cur.toList.take (ss.length * 2) = ss.flatMap cellsA) : HoldsK cellsA 2 w g 0 ss.toArray := by
  intro j hj
  have hj' : j < ss.length * 2 := by simpa using hj
  refine ⟨?_, by simp [World.frozen?, hb]⟩
  have h1 : (cur.toList.take (ss.length * 2))[j]? = (ss.flatMap cellsA)[j]? := by rw [ht]
  rw [List.getElem?_take_of_lt hj', flatA_get ss j hj'] at h1
  rw [get_flatK _ _ _ _ (by simpa using hj')]
  simp only [World.cell?, hb, Nat.zero_add]
  simp only [Option.isSome_none, Bool.false_eq_true, if_false]
  rw [← Array.getElem?_toList, h1]
  simp
theorem grownByA {w : World} {g n : Nat} {os : Array Go.Obj} (d : Array (Int × Int)) : w.grownBy (sortWorldK cellsA 2 w g 0 n d os) (some g) := by
  refine ⟨rfl, rfl, rfl, by simp [sortWorldK, putRowK], fun k hk hne => ?_⟩
  unfold sortWorldK putRowK
  rw [heap_grow_old _ _ (by simpa using hk)]
  have : g ≠ k := fun e => hne (by rw [e])
  simp [putRow, mapBlock, Sort.ahead, Array.getElem?_modify, this]
end Go.Proofs.Ytbchcjlllddlpaa
