import Derived.Test.YtlaogfkgkpgofaaSkD
import Derived.Shelf.SlLaysF0
import Derived.Shelf.SlSortCmp.NoneTotal
/-! slices.SortFunc at the keys. -/
namespace Go.Proofs.Ytlaogfkgkpgofaa
open Go Go.Ev Go.RowKit Go.Lib Go.Sort
set_option linter.unusedVariables false
set_option linter.unusedSimpArgs false
def layS_ren : Go.Shelf.Ren := ⟨fun | 6 => 134 | 15 => 155 | 14 => 154 | 28 => 166 | 29 => 167 | 20 => 158 | 21 => 159 | 22 => 160 | 23 => 161 | 24 => 162 | 25 => 163 | 26 => 164 | 27 => 165 | 46 => 169 | 47 => 170 | 48 => 171 | 49 => 172 | 50 => 173 | 57 => 174 | n => n, fun | 22 => 111 | 24 => 110 | 25 => 166 | 3 => 3 | 39 => 204 | 0 => 0 | 53 => 201 | 55 => 25 | 4 => 4 | 46 => 220 | 45 => 219 | 50 => 133 | 5 => 5 | 9 => 9 | 66 => 227 | 70 => 231 | 76 => 233 | 77 => 234 | n => n, fun | n => n⟩
theorem layS : Go.Proofs.SlLaysF0.n6 Try.prog layS_ren where
  mixed := by kernel_rfl
  f6 := ⟨"slices.SortFunc[[]pyx/rate.Key,pyx/rate.Key]", by decide, Try.func134.trans (congrArg some (by kernel_rfl))⟩
  f14 := ⟨"slices.pdqsortCmpFunc[pyx/rate.Key]", by decide, Try.func154.trans (congrArg some (by kernel_rfl))⟩
  f15 := Try.func155.trans (congrArg some (by kernel_rfl))
  f20 := ⟨"slices.insertionSortCmpFunc[pyx/rate.Key]", by decide, Try.func158.trans (congrArg some (by kernel_rfl))⟩
  f21 := ⟨"slices.heapSortCmpFunc[pyx/rate.Key]", by decide, Try.func159.trans (congrArg some (by kernel_rfl))⟩
  f22 := ⟨"slices.breakPatternsCmpFunc[pyx/rate.Key]", by decide, Try.func160.trans (congrArg some (by kernel_rfl))⟩
  f23 := ⟨"slices.choosePivotCmpFunc[pyx/rate.Key]", by decide, Try.func161.trans (congrArg some (by kernel_rfl))⟩
  f24 := ⟨"slices.reverseRangeCmpFunc[pyx/rate.Key]", by decide, Try.func162.trans (congrArg some (by kernel_rfl))⟩
  f25 := ⟨"slices.partialInsertionSortCmpFunc[pyx/rate.Key]", by decide, Try.func163.trans (congrArg some (by kernel_rfl))⟩
  f26 := ⟨"slices.partitionEqualCmpFunc[pyx/rate.Key]", by decide, Try.func164.trans (congrArg some (by kernel_rfl))⟩
  f27 := ⟨"slices.partitionCmpFunc[pyx/rate.Key]", by decide, Try.func165.trans (congrArg some (by kernel_rfl))⟩
  f28 := Try.func166.trans (congrArg some (by kernel_rfl))
  f29 := Try.func167.trans (congrArg some (by kernel_rfl))
  f46 := ⟨"slices.siftDownCmpFunc[pyx/rate.Key]", by decide, Try.func169.trans (congrArg some (by kernel_rfl))⟩
  f47 := Try.func170.trans (congrArg some (by kernel_rfl))
  f48 := Try.func171.trans (congrArg some (by kernel_rfl))
  f49 := ⟨"slices.medianAdjacentCmpFunc[pyx/rate.Key]", by decide, Try.func172.trans (congrArg some (by kernel_rfl))⟩
  f50 := ⟨"slices.medianCmpFunc[pyx/rate.Key]", by decide, Try.func173.trans (congrArg some (by kernel_rfl))⟩
  f57 := ⟨"slices.order2CmpFunc[pyx/rate.Key]", by decide, Try.func174.trans (congrArg some (by kernel_rfl))⟩
  t0 := Try.underlying0
  a0 := Try.isAgg0
  z0 := Try.sizeOf0
  v0 := Try.zeroValue0
  t3 := Try.underlying3
  a3 := Try.isAgg3
  z3 := Try.sizeOf3
  v3 := Try.zeroValue3
  t4 := Try.underlying4
  a4 := Try.isAgg4
  z4 := Try.sizeOf4
  v4 := Try.zeroValue4
  t5 := Try.underlying5
  a5 := Try.isAgg5
  z5 := Try.sizeOf5
  v5 := Try.zeroValue5
  t9 := Try.underlying9
  a9 := Try.isAgg9
  z9 := Try.sizeOf9
  v9 := Try.zeroValue9
  t22 := Try.underlying111
  a22 := Try.isAgg111
  z22 := Try.sizeOf111
  v22 := Try.zeroValue111
  t25 := Try.underlying166
  a25 := Try.isAgg166
  z25 := Try.sizeOf166
  v25 := Try.zeroValue166
  t39 := Try.underlying204
  a39 := Try.isAgg204
  z39 := Try.sizeOf204
  v39 := Try.zeroValue204
  t45 := Try.underlying219
  a45 := Try.isAgg219
  z45 := Try.sizeOf219
  v45 := Try.zeroValue219
  t46 := Try.underlying220
  a46 := Try.isAgg220
  z46 := Try.sizeOf220
  v46 := Try.zeroValue220
  t50 := Try.underlying133
  a50 := Try.isAgg133
  z50 := Try.sizeOf133
  v50 := Try.zeroValue133
  t53 := Try.underlying201
  a53 := Try.isAgg201
  z53 := Try.sizeOf201
  v53 := Try.zeroValue201
  t55 := Try.underlying25
  a55 := Try.isAgg25
  z55 := Try.sizeOf25
  v55 := Try.zeroValue25
  t66 := Try.underlying227
  a66 := Try.isAgg227
  z66 := Try.sizeOf227
  v66 := Try.zeroValue227
  t70 := Try.underlying231
  a70 := Try.isAgg231
  z70 := Try.sizeOf231
  v70 := Try.zeroValue231
  t76 := Try.underlying233
  a76 := Try.isAgg233
  z76 := Try.sizeOf233
  v76 := Try.zeroValue233
  t77 := Try.underlying234
  a77 := Try.isAgg234
  z77 := Try.sizeOf234
  v77 := Try.zeroValue234
/-- Not after. -/
def leII (x y : Int × Int) : Bool := !decide (y.1 < x.1 ∨ (y.1 = x.1 ∧ y.2 < x.2))
theorem leII_eq : (fun x y => !(ltOf cmpA) y x) = leII := by
  funext x y
  rw [ltA]
  rfl
theorem leII_trans (x y z : Int × Int) (h1 : leII x y = true) (h2 : leII y z = true) : leII x z = true := by
  unfold leII at *
  simp at *
  omega
theorem leII_total (x y : Int × Int) : (leII x y || leII y x) = true := by
  unfold leII
  simp
  omega
theorem leII_anti (x y : Int × Int) (h1 : leII x y = true) (h2 : leII y x = true) : x = y := by
  unfold leII at *
  simp at h1 h2
  obtain ⟨x1, x2⟩ := x
  obtain ⟨y1, y2⟩ := y
  simp at *
  omega
theorem perm_sorted_eq {α : Type} {R : α → α → Prop} (anti : ∀ a b, R a b → R b a → a = b) : ∀ {l1 l2 : List α}, l1.Perm l2 → l1.Pairwise R → l2.Pairwise R → l1 = l2
  | [], l2, p, _, _ => (p.nil_eq)
  | a :: l1, [], p, _, _ => by have := p.length_eq; simp at this
  | a :: l1, b :: l2, p, h1, h2 => by
    rw [List.pairwise_cons] at h1 h2
    have ha : a ∈ b :: l2 := p.subset (List.mem_cons_self ..)
    have hb : b ∈ a :: l1 := p.symm.subset (List.mem_cons_self ..)
    have e : a = b := by
      rcases List.mem_cons.1 ha with e | ha
      · exact e
      · rcases List.mem_cons.1 hb with e | hb
        · exact e.symm
        · exact anti a b (h1.1 b hb) (h2.1 a ha)
    subst e
    rw [perm_sorted_eq anti p.cons_inv h1.2 h2.2]
theorem sort_perm {l1 l2 : List (Int × Int)} (p : l1.Perm l2) : List.mergeSort l1 leII = List.mergeSort l2 leII :=
  perm_sorted_eq leII_anti (((List.mergeSort_perm l1 leII).trans p).trans (List.mergeSort_perm l2 leII).symm) (List.pairwise_mergeSort leII_trans leII_total l1) (List.pairwise_mergeSort leII_trans leII_total l2)
theorem sort134_in (blk off cap : Nat) (d : Array (Int × Int)) (w : World) (hH : HoldsK cellsA 2 w blk off d) (hblk : blk < w.heap.size) (hsz : d.size < 4611686018427387904) :
    Calls Try.prog 134 #[.slice (some ⟨blk, off, none⟩) d.size cap, .func (.func 100) #[] #[]] w fun e w' =>
      e = .returned (.tuple #[]) ∧ ∃ n os, w' = sortWorldK cellsA 2 w blk off n (List.mergeSort d.toList leII).toArray os := by
  have h := AnyQ.slices_SortFunc_total layS 2 Try.isAgg110 Try.sizeOf110 cellsA (fun _ => rfl) (fun x v hv => by simp [cellsA] at hv; rcases hv with rfl | rfl <;> rfl) cmpA swoA 100 #[] blk off cap d w (enters_of Try.func100 (by kernel_rfl) rfl) (cmpLays100 blk off d.size w) hH hblk hsz
    (fun x y h1 h2 => by
      rw [ltA] at h1 h2
      obtain ⟨x1, x2⟩ := x
      obtain ⟨y1, y2⟩ := y
      simp at h1 h2 ⊢
      omega)
  rw [leII_eq] at h
  exact h
theorem sort134_none (w : World) : Calls Try.prog 134 #[.slice none 0 0, .func (.func 100) #[] #[]] w fun e w' => e = .returned (.tuple #[]) ∧ w' = w := AnyF.slices_SortFunc_none layS none 0 _ w
theorem flatA_get : ∀ (ss : List (Int × Int)) (t : Nat), t < ss.length * 2 → (ss.flatMap cellsA)[t]? = some ((cellsA ss[t / 2]!)[t % 2]!)
  | [], t, h => by simp at h
  | x :: r, 0, h => by simp [cellsA]
  | x :: r, 1, h => by simp [cellsA]
  | x :: r, t + 2, h => by
    have ih := flatA_get r t (by simp at h; omega)
    have e1 : (t + 2) / 2 = t / 2 + 1 := by omega
    have e2 : (t + 2) % 2 = t % 2 := by omega
    rw [e1, e2]
    simp only [List.flatMap_cons, cellsA, List.cons_append, List.nil_append, List.getElem?_cons_succ] at ih ⊢
    rw [ih]
    simp
theorem holdsA {w : World} {g : Nat} {cur : Array Value} {e : TypeId} {ss : List (Int × Int)} (hb : w.heap[g]? = some (.cells cur e (0, 0))) (ht : cur.toList.take (ss.length * 2) = ss.flatMap cellsA) : HoldsK cellsA 2 w g 0 ss.toArray := by
  intro j hj
  have hj' : j < ss.length * 2 := by simpa using hj
  refine ⟨?_, by simp [World.frozen?, hb]⟩
  have h1 : (cur.toList.take (ss.length * 2))[j]? = (ss.flatMap cellsA)[j]? := by rw [ht]
  rw [List.getElem?_take_of_lt hj', flatA_get ss j hj'] at h1
  rw [get_flatK _ _ _ _ (by simpa using hj')]
  simp only [World.cell?, hb, Nat.zero_add]
  simp only [Option.isSome_none, Bool.false_eq_true, if_false]
  rw [← Array.getElem?_toList, h1]
  simp
theorem grownByA {w : World} {g n : Nat} {os : Array Go.Obj} (d : Array (Int × Int)) : w.grownBy (sortWorldK cellsA 2 w g 0 n d os) (some g) := by
  refine ⟨rfl, rfl, rfl, by simp [sortWorldK, putRowK], fun k hk hne => ?_⟩
  unfold sortWorldK putRowK
  rw [heap_grow_old _ _ (by simpa using hk)]
  have : g ≠ k := fun e => hne (by rw [e])
  simp [putRow, mapBlock, Sort.ahead, Array.getElem?_modify, this]
end Go.Proofs.Ytlaogfkgkpgofaa
