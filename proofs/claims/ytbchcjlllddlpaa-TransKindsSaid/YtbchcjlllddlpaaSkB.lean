import Derived.Test.YtbchcjlllddlpaaSkA
/-! slices.AppendSeq(nil, seq), slices.Collect(seq): of elements of two numbers. -/
namespace Go.Proofs.Ytbchcjlllddlpaa
open Go Go.Ev Go.RowKit Go.Maps
set_option linter.unusedVariables false
set_option linter.unusedSimpArgs false
def cellsA (x : Int × Int) : List Value := [.int .i64 x.1, .int .i64 x.2]
theorem info40 : (Try.prog.info? 40).map (fun i => (i.zero, i.size, i.bytes)) = some (some (.agg #[.int .i64 0, .int .i64 0]), 2, 16) := by kernel_rfl
def ap133_assign : Code := (Code.region 2 #[{ dst := some 5, op := Op.alloc 40, type := 0, pos := "iter.go:51", after := #[], guard := none }, { dst := none, op := Op.store 40 (Operand.tmp 5) (Operand.tmp 7), type := 0, pos := "iter.go:51", after := #[{ on := 0, ground := Ground.data }, { on := 0, ground := Ground.phase }], guard := none }] false)
def ap133_body : Code := (Code.block 1 (Code.region 3 #[{ dst := some 8, op := Op.load 112 (Operand.tmp 2), type := 112, pos := "iter.go:52", after := #[], guard := none }, { dst := some 9, op := Op.load 40 (Operand.tmp 5), type := 40, pos := "iter.go:52", after := #[], guard := none }, { dst := some 10, op := Op.buildSlice 112 1 #[(0, Operand.tmp 9)], type := 112, pos := "iter.go:52", after := #[{ on := 1, ground := Ground.data }], guard := none }, { dst := some 11, op := Op.call { callee := Callee.builtin Builtin.append, args := #[Operand.tmp 8, Operand.tmp 10], argTypes := #[112, 112] }, type := 112, pos := "iter.go:52", after := #[{ on := 0, ground := Ground.data }, { on := 2, ground := Ground.data }], guard := none }, { dst := none, op := Op.store 112 (Operand.tmp 2) (Operand.tmp 11), type := 0, pos := "iter.go:52", after := #[{ on := 3, ground := Ground.data }, { on := 3, ground := Ground.chain }, { on := 0, ground := Ground.phase }, { on := 1, ground := Ground.phase }, { on := 2, ground := Ground.phase }, { on := 3, ground := Ground.phase }], guard := none }] false))
/-- The loop's record. -/
def ap133_rec (fn : FuncId) (sv : Value) (Bs D : Nat) (st : LoopState) (pend : Option Code) : Loop :=
  { state := st, pending := pend, fn, tmps := #[.slice none 0 0, sv, .pointer (some ⟨Bs, 0, none⟩), undef, .slice none 0 0, undef, sv, undef, undef, undef, undef, undef, undef], params := #[7], assign := ap133_assign, body := ap133_body, defers := D }
/-- Between two rounds. -/
structure Ap133 (w0 : World) (fn : FuncId) (sv : Value) (Bs l D : Nat) (ss : List (Int × Int)) (W : World) : Prop where
  box : ∃ v, W.heap[Bs]? = some (.cells #[v] 112 (0, 0)) ∧ W.ownsRow w0.heap.size 40 2 v ss.length (ss.flatMap cellsA) ∧ (v = .slice none 0 0 ↔ ss = [])
  L : W.heap[l]? = some (.loop (ap133_rec fn sv Bs D .ready none))
  K : W.heap[D]? = some (.deferred (some []))
  below : Below w0.heap.size w0 W
theorem ap133_abides (w0 : World) (fn : FuncId) (sv : Value) (Bs l D B : Nat) (hB : w0.heap.size ≤ B) : AbidesFrom B (Ap133 w0 fn sv Bs l D) := fun s W W' row h hg hrow => by
  have hrow' : ∀ r, row = some r → ∃ o : Go.Obj, W.heap[r]? = some o ∧ o.isWalk = true := fun r e => (hrow r e).2
  obtain ⟨v, hv, hr, hn⟩ := h.box
  exact ⟨⟨v, (grownBy_keeps hg hrow' hv rfl).trans hv, ownsRow_abides' hr hg hrow', hn⟩, (grownBy_keeps hg hrow' h.L rfl).trans h.L, (grownBy_keeps hg hrow' h.K rfl).trans h.K,
    h.below.grown hg h.below.size (fun k e => Nat.le_trans hB (hrow k e).1)⟩

set_option maxRecDepth 100000 in
set_option maxHeartbeats 2000000 in
theorem ap133_yield (F : Fence) (m : Nat) (w0 : World) (fn : FuncId) (hfn : F.fn fn) (sv : Value) (Bs l D : Nat) (hBl : Bs ≠ l) (hDl : D ≠ l) (hDB : D ≠ Bs) (h0B : w0.heap.size ≤ Bs) (h0l : w0.heap.size ≤ l)
    (N : Nat) (hN : N ≤ maxLen) (hNb : N * 16 ≤ 140737488355328) (ss : List (Int × Int)) (x : Int × Int) (W : World) (h : Ap133 w0 fn sv Bs l D ss W) (hlen : ss.length < N) :
    YieldAt F m Try.prog l #[encA x] W fun e W' => e = .returned (.bool true) ∧ Ap133 w0 fn sv Bs l D (ss ++ [x]) W' ∧ KeepsWalks W W' := by
  have hne : 112 ≠ 40 := by decide
  obtain ⟨i0, hi, hi'⟩ : ∃ i0, Try.prog.info? 40 = some i0 ∧ (i0.zero, i0.size, i0.bytes) = (some (.agg #[.int .i64 0, .int .i64 0]), 2, 16) := by
    have := info40
    rw [Option.map_eq_some_iff] at this
    exact this
  obtain ⟨hz0, hz1, hz2⟩ : i0.zero = some (.agg #[.int .i64 0, .int .i64 0]) ∧ i0.size = 2 ∧ i0.bytes = 16 := by
    simp only [Prod.mk.injEq] at hi'
    exact hi'
  obtain ⟨x1, x2⟩ := x
  refine ⟨fn, #[.slice none 0 0, sv, .pointer (some ⟨Bs, 0, none⟩), undef, .slice none 0 0, undef, sv, encA (x1, x2), undef, undef, undef, undef, undef], ap133_assign, ap133_body, by simpa [ap133_rec] using run_yield (P := Try.prog) (args := #[encA (x1, x2)]) h.L rfl, roundIn_of_wpIn hfn ?_⟩
  obtain ⟨W1, hW1⟩ : ∃ W1, W.alloc (.cells #[.int .i64 x1, .int .i64 x2] 40) = W1 := ⟨_, rfl⟩
  have h1 : Ap133 w0 fn sv Bs l D ss W1 := ap133_abides w0 fn sv Bs l D w0.heap.size (Nat.le_refl _) ss W W1 none h (by rw [← hW1]; exact World.grownBy_alloc _ _ _) (fun r e => by cases e)
  have hk1 : KeepsWalks W W1 := by rw [← hW1]; exact KeepsWalks.alloc _ _
  have hx1 : W1.heap[W.heap.size]? = some (.cells #[.int .i64 x1, .int .i64 x2] 40 (0, 0)) := by rw [← hW1]; exact World.alloc_heap_new W _
  have hWl : W.heap.size ≠ l := by have := (Array.getElem?_eq_some_iff.1 h.L).1; omega
  obtain ⟨v, hv, hrow, _⟩ := h1.box
  have hl : l < W1.heap.size := (Array.getElem?_eq_some_iff.1 h1.L).1
  have hbr := run_beginRound (P := Try.prog) h1.L rfl
  obtain ⟨W2, hW2⟩ : ∃ W2, W1.putObj l (.loop { ap133_rec fn sv Bs D .ready none with state := .busy }) = W2 := ⟨_, rfl⟩
  rw [hW2] at hbr
  have hg2 : W1.grownBy W2 (some l) := by rw [← hW2]; exact grownBy_putObj' _ _ _
  have hk2 : KeepsWalks W W2 := by rw [← hW2]; exact hk1.trans (KeepsWalks.putObj _ h1.L rfl)
  have hv2 : W2.heap[Bs]? = some (.cells #[v] 112 (0, 0)) := by rw [← hW2]; exact (World.putObj_heap_other hBl).trans hv
  have hx2 : W2.heap[W.heap.size]? = some (.cells #[.int .i64 x1, .int .i64 x2] 40 (0, 0)) := by rw [← hW2]; exact (World.putObj_heap_other hWl).trans hx1
  have hK2 : W2.heap[D]? = some (.deferred (some [])) := by rw [← hW2]; exact (World.putObj_heap_other hDl).trans h1.K
  have hL2 : W2.heap[l]? = some (.loop { ap133_rec fn sv Bs D .ready none with state := .busy }) := by rw [← hW2]; exact World.putObj_heap_same hl
  have hrow2 : W2.ownsRow w0.heap.size 40 2 v ss.length (ss.flatMap cellsA) := hrow.kept hg2 (ownsRow_ne' hrow h1.L (fun cur e => by first | cases e | exact hne (Obj.cells.inj e).2.1))
  have hb2 : Below w0.heap.size w0 W2 := h1.below.grown hg2 h1.below.size (fun k e => by cases e; exact h0l)
  obtain ⟨hc2, hf2⟩ := cell_of_box' hv2
  have hy0 : W2.cell? ⟨W.heap.size, 0, none⟩ = some (.int .i64 x1) := by unfold World.cell?; rw [hx2]; rfl
  have hy1 : W2.cell? ⟨W.heap.size, 1, none⟩ = some (.int .i64 x2) := by unfold World.cell?; rw [hx2]; rfl
  have hBlt : Bs < W2.heap.size := (Array.getElem?_eq_some_iff.1 hv2).1
  have hl2 : l < W2.heap.size := (Array.getElem?_eq_some_iff.1 hL2).1
  have hDlt : D < W2.heap.size := (Array.getElem?_eq_some_iff.1 hK2).1
  have ne_of : ∀ {j : Nat} {o : Go.Obj}, W2.heap[j]? = some o → (∀ cur, o ≠ .cells cur 40 (0, 0)) → some j ≠ v.ownBlock := fun hj hno => by
    rcases ownsRow_ne' hrow2 hj hno with e | e
    · rw [e]; simp
    · exact fun e' => e e'.symm
  clear hW2
  unfold encA
  unfold ap133_assign
  gi_wp2_with (rw [Oper.semAt_eq _ _ _ (fun c h => by cases h)]; go_simp; try go_bits)
  unfold ap133_body
  gi_wp2_with (first
    | (gi_at_builtin; refine wpListIn_append_own _ rfl _ _ 112 rfl w0.heap.size 40 i0 (.agg #[.int .i64 0, .int .i64 0]) 2 16 Try.underlying112 hi hz0 hz1 hz2 rfl (by decide) _ _ _ rfl (hrow2.alloc _) ⟨W2.heap.size, 0, none⟩ 1 1 [.int .i64 x1, .int .i64 x2] rfl rfl (cells_new' _ _ _) (by simp [Value.oneCell']) (by omega) (by omega) (by have := hb2.size; simp; omega) ?_; intro v' w3 hown' hg3 hnil3
       have hv3 : w3.heap[Bs]? = some (.cells #[v] 112 (0, 0)) := (hg3.block Bs (by simp; omega) (ne_of hv2 (fun cur e => by first | cases e | exact hne (Obj.cells.inj e).2.1))).trans ((Below.heap_alloc _ _ Bs hBlt).trans hv2)
       obtain ⟨hc3, hf3⟩ := cell_of_box' hv3
       obtain ⟨g', cap', cur', rfl, hbase', hgb', hr1, hr2, hr3, hr4⟩ : ∃ g' cap' cur', v' = .slice (some ⟨g', 0, none⟩) (ss.length + 1) cap' ∧ w0.heap.size ≤ g' ∧ w3.heap[g']? = some (.cells cur' 40 (0, 0)) ∧ ss.length + 1 ≤ cap' ∧ cap' ≤ maxLen ∧ cur'.size = cap' * 2 ∧ cur'.toList.take ((ss.length + 1) * 2) = ss.flatMap cellsA ++ [.int .i64 x1, .int .i64 x2] := by
         rcases hown'.2 with ⟨_, h0⟩ | h'
         · exact absurd h0 (by omega)
         · exact h'
       go_frame)
    | (rw [Oper.semAt_eq _ _ _ (fun c h => by cases h)]; go_simp; try go_bits))
  have hg3' : (W2.alloc (.cells #[.int .i64 x1, .int .i64 x2] 40)).grownBy w3 v.ownBlock := hg3
  have hL3 : w3.heap[l]? = some (.loop { ap133_rec fn sv Bs D .ready none with state := .busy }) := (hg3'.block l (by simp; omega) (ne_of hL2 (fun cur e => by first | cases e | exact hne (Obj.cells.inj e).2.1))).trans ((Below.heap_alloc _ _ l hl2).trans hL2)
  have hK3 : w3.heap[D]? = some (.deferred (some [])) := (hg3'.block D (by simp; omega) (ne_of hK2 (fun cur e => by first | cases e | exact hne (Obj.cells.inj e).2.1))).trans ((Below.heap_alloc _ _ D hDlt).trans hK2)
  obtain ⟨w4, hw4⟩ : ∃ w4, w3.setCell ⟨Bs, 0, none⟩ (.slice (some ⟨g', 0, none⟩) (ss.length + 1) cap') = w4 := ⟨_, rfl⟩
  rw [hw4]
  have hg4 : w3.grownBy w4 (some Bs) := by rw [← hw4]; exact grownBy_setCell0' _ _ _
  have hv4 : w4.heap[Bs]? = some (.cells #[.slice (some ⟨g', 0, none⟩) (ss.length + 1) cap'] 112 (0, 0)) := by rw [← hw4]; exact heap_setCell_box' _ hv3
  have hL4 : w4.heap[l]? = some (.loop { ap133_rec fn sv Bs D .ready none with state := .busy }) := (hg4.block l (Array.getElem?_eq_some_iff.1 hL3).1 (fun e => hBl (by cases e; rfl))).trans hL3
  have hK4 : w4.heap[D]? = some (.deferred (some [])) := (hg4.block D (Array.getElem?_eq_some_iff.1 hK3).1 (fun e => hDB (by cases e; rfl))).trans hK3
  have hrow4 := hown'.kept hg4 (ownsRow_ne' hown' hv3 (fun cur e => by first | cases e | exact hne (Obj.cells.inj e).2.1))
  have hl4 : l < w4.heap.size := (Array.getElem?_eq_some_iff.1 hL4).1
  have hb3 : Below w0.heap.size w0 w3 := (hb2.alloc hb2.size _).grown hg3' (by have := hb2.size; simp; omega) (fun k e => (hrow2.lt k e).1)
  have hb4 : Below w0.heap.size w0 w4 := hb3.grown hg4 hb3.size (fun k e => by cases e; exact h0B)
  have hk4 : KeepsWalks W w4 := ((hk2.trans (KeepsWalks.alloc _ _)).trans (KeepsWalks.of_grownBy hg3' (ownsRow_not_walk' (hrow2.alloc _)))).trans (by rw [← hw4]; exact KeepsWalks.setCell _ _ _)
  clear hw4
  refine ⟨_, _, run_endRound none hL4, rfl, ⟨⟨_, (World.putObj_heap_other hBl).trans hv4, ?_, by simp⟩, World.putObj_heap_same hl4, (World.putObj_heap_other hDl).trans hK4, hb4.grown (grownBy_putObj' _ _ _) hb4.size (fun k e => by cases e; exact h0l)⟩, hk4.trans (KeepsWalks.putObj _ hL4 rfl)⟩
  have := hrow4.kept (grownBy_putObj' w4 l (.loop { { ap133_rec fn sv Bs D .ready none with state := .busy } with state := if (none : Option Code).isNone then .ready else .done, pending := none })) (ownsRow_ne' hrow4 hL4 (fun cur e => by first | cases e | exact hne (Obj.cells.inj e).2.1))
  simpa [cellsA] using this
end Go.Proofs.Ytbchcjlllddlpaa
