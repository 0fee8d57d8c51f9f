import Derived.Test.YtbchcjlllddlpaaGreatSkD
import Derived.Shelf.SlLaysF0
import Derived.Shelf.SlSortCmp.NoneTotal
namespace Go.Proofs.YtbchcjlllddlpaaGreat
open Go Go.Ev Go.RowKit Go.Lib Go.Sort
set_option linter.unusedVariables false
set_option linter.unusedSimpArgs false
def layS_ren : Go.Shelf.Ren := ⟨fun | 6 => 123 | 15 => 157 | 14 => 156 | 28 => 175 | 29 => 176 | 20 => 167 | 21 => 168 | 22 => 169 | 23 => 170 | 24 => 171 | 25 => 172 | 26 => 173 | 27 => 174 | 46 => 178 | 47 => 179 | 48 => 180 | 49 => 181 | 50 => 182 | 57 => 183 | n => n, fun | 22 => 51 | 24 => 53 | 25 => 129 | 3 => 3 | 39 => 189 | 0 => 0 | 53 => 186 | 55 => 37 | 4 => 4 | 46 => 212 | 45 => 211 | 50 => 216 | 5 => 5 | 9 => 9 | 66 => 220 | 70 => 224 | 76 => 226 | 77 => 227 | n => n, fun | n => n⟩
theorem layS : Go.Proofs.SlLaysF0.n6 Tryz.prog layS_ren where
  mixed := by kernel_rfl
  f6 := ⟨"slices.SortFunc[[][2]int,[2]int]", by decide, Tryz.func123.trans (congrArg some (by kernel_rfl))⟩
  f14 := ⟨"slices.pdqsortCmpFunc[[2]int]", by decide, Tryz.func156.trans (congrArg some (by kernel_rfl))⟩
  f15 := Tryz.func157.trans (congrArg some (by kernel_rfl))
  f20 := ⟨"slices.insertionSortCmpFunc[[2]int]", by decide, Tryz.func167.trans (congrArg some (by kernel_rfl))⟩
  f21 := ⟨"slices.heapSortCmpFunc[[2]int]", by decide, Tryz.func168.trans (congrArg some (by kernel_rfl))⟩
  f22 := ⟨"slices.breakPatternsCmpFunc[[2]int]", by decide, Tryz.func169.trans (congrArg some (by kernel_rfl))⟩
  f23 := ⟨"slices.choosePivotCmpFunc[[2]int]", by decide, Tryz.func170.trans (congrArg some (by kernel_rfl))⟩
  f24 := ⟨"slices.reverseRangeCmpFunc[[2]int]", by decide, Tryz.func171.trans (congrArg some (by kernel_rfl))⟩
  f25 := ⟨"slices.partialInsertionSortCmpFunc[[2]int]", by decide, Tryz.func172.trans (congrArg some (by kernel_rfl))⟩
  f26 := ⟨"slices.partitionEqualCmpFunc[[2]int]", by decide, Tryz.func173.trans (congrArg some (by kernel_rfl))⟩
  f27 := ⟨"slices.partitionCmpFunc[[2]int]", by decide, Tryz.func174.trans (congrArg some (by kernel_rfl))⟩
  f28 := Tryz.func175.trans (congrArg some (by kernel_rfl))
  f29 := Tryz.func176.trans (congrArg some (by kernel_rfl))
  f46 := ⟨"slices.siftDownCmpFunc[[2]int]", by decide, Tryz.func178.trans (congrArg some (by kernel_rfl))⟩
  f47 := Tryz.func179.trans (congrArg some (by kernel_rfl))
  f48 := Tryz.func180.trans (congrArg some (by kernel_rfl))
  f49 := ⟨"slices.medianAdjacentCmpFunc[[2]int]", by decide, Tryz.func181.trans (congrArg some (by kernel_rfl))⟩
  f50 := ⟨"slices.medianCmpFunc[[2]int]", by decide, Tryz.func182.trans (congrArg some (by kernel_rfl))⟩
  f57 := ⟨"slices.order2CmpFunc[[2]int]", by decide, Tryz.func183.trans (congrArg some (by kernel_rfl))⟩
  t0 := Tryz.underlying0
  a0 := Tryz.isAgg0
  z0 := Tryz.sizeOf0
  v0 := Tryz.zeroValue0
  t3 := Tryz.underlying3
  a3 := Tryz.isAgg3
  z3 := Tryz.sizeOf3
  v3 := Tryz.zeroValue3
  t4 := Tryz.underlying4
  a4 := Tryz.isAgg4
  z4 := Tryz.sizeOf4
  v4 := Tryz.zeroValue4
  t5 := Tryz.underlying5
  a5 := Tryz.isAgg5
  z5 := Tryz.sizeOf5
  v5 := Tryz.zeroValue5
  t9 := Tryz.underlying9
  a9 := Tryz.isAgg9
  z9 := Tryz.sizeOf9
  v9 := Tryz.zeroValue9
  t22 := Tryz.underlying51
  a22 := Tryz.isAgg51
  z22 := Tryz.sizeOf51
  v22 := Tryz.zeroValue51
  t25 := Tryz.underlying129
  a25 := Tryz.isAgg129
  z25 := Tryz.sizeOf129
  v25 := Tryz.zeroValue129
  t39 := Tryz.underlying189
  a39 := Tryz.isAgg189
  z39 := Tryz.sizeOf189
  v39 := Tryz.zeroValue189
  t45 := Tryz.underlying211
  a45 := Tryz.isAgg211
  z45 := Tryz.sizeOf211
  v45 := Tryz.zeroValue211
  t46 := Tryz.underlying212
  a46 := Tryz.isAgg212
  z46 := Tryz.sizeOf212
  v46 := Tryz.zeroValue212
  t50 := Tryz.underlying216
  a50 := Tryz.isAgg216
  z50 := Tryz.sizeOf216
  v50 := Tryz.zeroValue216
  t53 := Tryz.underlying186
  a53 := Tryz.isAgg186
  z53 := Tryz.sizeOf186
  v53 := Tryz.zeroValue186
  t55 := Tryz.underlying37
  a55 := Tryz.isAgg37
  z55 := Tryz.sizeOf37
  v55 := Tryz.zeroValue37
  t66 := Tryz.underlying220
  a66 := Tryz.isAgg220
  z66 := Tryz.sizeOf220
  v66 := Tryz.zeroValue220
  t70 := Tryz.underlying224
  a70 := Tryz.isAgg224
  z70 := Tryz.sizeOf224
  v70 := Tryz.zeroValue224
  t76 := Tryz.underlying226
  a76 := Tryz.isAgg226
  z76 := Tryz.sizeOf226
  v76 := Tryz.zeroValue226
  t77 := Tryz.underlying227
  a77 := Tryz.isAgg227
  z77 := Tryz.sizeOf227
  v77 := Tryz.zeroValue227
def Zkp (x y : Int × Int) : Bool := !decide (y.1 < x.1 ∨ (y.1 = x.1 ∧ y.2 < x.2))
theorem leII_eq : (fun x y => !(ltOf cmpA) y x) = Zkp := by
  funext x y
  rw [ltA]
  rfl
theorem Zty (x y z : Int × Int) (h1 : Zkp x y = true) (h2 : Zkp y z = true) : Zkp x z = true := by
  unfold Zkp at *
  simp at *
  omega
theorem Ztz (x y : Int × Int) : (Zkp x y || Zkp y x) = true := by
  unfold Zkp
  simp
  omega
theorem Yfd (x y : Int × Int) (h1 : Zkp x y = true) (h2 : Zkp y x = true) : x = y := by
  unfold Zkp at *
  simp at h1 h2
  obtain ⟨x1, x2⟩ := x
  obtain ⟨y1, y2⟩ := y
  simp at *
  omega
theorem Zmz {α : Type} {R : α → α → Prop} (anti : ∀ a b, R a b → R b a → a = b) : ∀ {l1 l2 : List α}, l1.Perm l2 → l1.Pairwise R → l2.Pairwise R → l1 = l2
  | [], l2, p, _, _ => (p.nil_eq)
  | a :: l1, [], p, _, _ => by have := p.length_eq; simp at this
  | a :: l1, b :: l2, p, h1, h2 => by
    rw [List.pairwise_cons] at h1 h2
    have ha : a ∈ b :: l2 := p.subset (List.mem_cons_self ..)
    have hb : b ∈ a :: l1 := p.symm.subset (List.mem_cons_self ..)
    have e : a = b := by
      rcases List.mem_cons.1 ha with e | ha
      · exact e
      · rcases List.mem_cons.1 hb with e | hb
        · exact e.symm
        · exact anti a b (h1.1 b hb) (h2.1 a ha)
    subst e
    rw [Zmz anti p.cons_inv h1.2 h2.2]
theorem sort_perm {l1 l2 : List (Int × Int)} (p : l1.Perm l2) : List.mergeSort l1 Zkp = List.mergeSort l2 Zkp :=
  Zmz Yfd (((List.mergeSort_perm l1 Zkp).trans p).trans (List.mergeSort_perm l2 Zkp).symm) (List.pairwise_mergeSort Zty Ztz l1) (List.pairwise_mergeSort Zty Ztz l2)
theorem Yze (blk off cap : Nat) (d : Array (Int × Int)) (w : World) (hH : HoldsK Zje 2 w blk off d) (hblk : blk < w.heap.size) (hsz : d.size < 4611686018427387904) :
    Calls Tryz.prog 123 #[.slice (some ⟨blk, off, none⟩) d.size cap, .func (.func 79) #[] #[]] w fun e w' =>
      e = .returned (.tuple #[]) ∧ ∃ n os, w' = sortWorldK Zje 2 w blk off n (List.mergeSort d.toList Zkp).toArray os := by
  have h := AnyQ.slices_SortFunc_total layS 2 Tryz.isAgg53 Tryz.sizeOf53 Zje (fun _ => rfl) (fun x v hv => by simp [Zje] at hv; rcases hv with rfl | rfl <;> rfl) cmpA swoA 79 #[] blk off cap d w (enters_of Tryz.func79 (by kernel_rfl) rfl) (cmpLays79 blk off d.size w) hH hblk hsz
    (fun x y h1 h2 => by
      rw [ltA] at h1 h2
      obtain ⟨x1, x2⟩ := x
      obtain ⟨y1, y2⟩ := y
      simp at h1 h2 ⊢
      omega)
  rw [leII_eq] at h
  exact h
theorem Yrt (w : World) : Calls Tryz.prog 123 #[.slice none 0 0, .func (.func 79) #[] #[]] w fun e w' => e = .returned (.tuple #[]) ∧ w' = w := AnyF.slices_SortFunc_none layS none 0 _ w
theorem Yqp : ∀ (ss : List (Int × Int)) (t : Nat), t < ss.length * 2 → (ss.flatMap Zje)[t]? = some ((Zje ss[t / 2]!)[t % 2]!)
  | [], t, h => by simp at h
  | x :: r, 0, h => by simp [Zje]
  | x :: r, 1, h => by simp [Zje]
  | x :: r, t + 2, h => by
    have ih := Yqp r t (by simp at h; omega)
    have e1 : (t + 2) / 2 = t / 2 + 1 := by omega
    have e2 : (t + 2) % 2 = t % 2 := by omega
    rw [e1, e2]
    simp only [List.flatMap_cons, Zje, List.cons_append, List.nil_append, List.getElem?_cons_succ] at ih ⊢
    rw [ih]
    simp
theorem holdsA {w : World} {g : Nat} {cur : Array Value} {e : TypeId} {ss : List (Int × Int)} (hb : w.heap[g]? = some (.cells cur e (0, 0))) (ht : cur.toList.take (ss.length * 2) = ss.flatMap Zje) : HoldsK Zje 2 w g 0 ss.toArray := by
  intro j hj
  have hj' : j < ss.length * 2 := by simpa using hj
  refine ⟨?_, by simp [World.frozen?, hb]⟩
  have h1 : (cur.toList.take (ss.length * 2))[j]? = (ss.flatMap Zje)[j]? := by rw [ht]
  rw [List.getElem?_take_of_lt hj', Yqp ss j hj'] at h1
  rw [get_flatK _ _ _ _ (by simpa using hj')]
  simp only [World.cell?, hb, Nat.zero_add]
  simp only [Option.isSome_none, Bool.false_eq_true, if_false]
  rw [← Array.getElem?_toList, h1]
  simp
theorem Ywo {w : World} {g n : Nat} {os : Array Go.Obj} (d : Array (Int × Int)) : w.grownBy (sortWorldK Zje 2 w g 0 n d os) (some g) := by
  refine ⟨rfl, rfl, rfl, by simp [sortWorldK, putRowK], fun k hk hne => ?_⟩
  unfold sortWorldK putRowK
  rw [heap_grow_old _ _ (by simpa using hk)]
  have : g ≠ k := fun e => hne (by rw [e])
  simp [putRow, mapBlock, Sort.ahead, Array.getElem?_modify, this]
end Go.Proofs.YtbchcjlllddlpaaGreat
