/-
  No cell of these rows narrows 'for every input' (looked for: loops, veiled, ifaces, maps, wideKeys, modest, calm, conditions, laid).
  DERIVED. THE GIVEN ROWS OF THIS SEAT. 10 by the template 'for every input the law returns true; each argument reads behind the call as it read before'; 0 by the template 'total and deterministic' (their statements: YtojkgadihooplaaTotals.lean).
  GIVEN WITH THE SEED: the statements are not yours to turn. If you find one false, say at which input.
  Laid BY PROGRAM, IN A SANDBOX (cutbox-rows.mjs): the forced cells as the released guide's own fill.sh prints them over the translation 1114435d37d51f88… (all of the seat's roots in one cut). By AI agents, Wed Nov 11 2026. No macro, syntax, notation, axiom, sorry.
-/
import Derived.Test.YtojkgadihooplaaChecked
import GoSem.Claim
import GoSem.ClaimJoined
import GoSem.ClaimMapViews
import Derived.JoinedTies
import Derived.KernelRfl
namespace Go.Proofs.Ytojkgadihooplaa
/- THE CELL 'sum', in the pinned program and in every row, IS THE sha256 OF THE DUMP (.gsa) THAT YtojkgadihooplaaProg.lean LOADS. Nothing in Lean hashes anything: it is a label: what it is worth is what the hold of that sum in a sandbox is worth. -/
noncomputable def Try.pinned : Pinned := { name := "ytojkgadihooplaa", sum := "1114435d37d51f88780b3dd0f2915fc8c8768b8939a543d76bd870f8d6da614b", checked := Try.checked }
namespace Rows
def none {H : Type} : Left H := { results := [], args := [] }

/-- 'pyxlaw11.ChartKnown': WHATEVER THE INPUT: true; the input reads as it did. -/
def chartKnownSpec : ChangeSpec := { name := "chartKnown", fn := fun _ => fun
  | [] => { results := [.lit (.bool true)], args := [] }
  | _ => none }
def chartKnownRow : OpenClaim := { program := "ytojkgadihooplaa", sum := "1114435d37d51f88780b3dd0f2915fc8c8768b8939a543d76bd870f8d6da614b", func := "pyx/pyxlaw11.ChartKnown", spec := "chartKnown", apart := false }
def ChartKnownSaid : Prop := chartKnownRow.holds Try.pinned (OpenSpec.ofChange chartKnownSpec)

/-- ITS FALSE NEIGHBOUR: 'it returns false'. Refute it at one input. -/
def chartKnownWrong : ChangeSpec := { name := "chartKnown", fn := fun _ => fun
  | [] => { results := [.lit (.bool false)], args := [] }
  | _ => none }
def ChartKnownWrongFalsely : Prop := chartKnownRow.holds Try.pinned (OpenSpec.ofChange chartKnownWrong)

/-- 'pyxlaw11.ChartTells': WHATEVER THE INPUT: true; the input reads as it did. -/
def chartTellsSpec : ChangeSpec := { name := "chartTells", fn := fun _ => fun
  | [d] => { results := [.lit (.bool true)], args := [d] }
  | _ => none }
def chartTellsRow : OpenClaim := { program := "ytojkgadihooplaa", sum := "1114435d37d51f88780b3dd0f2915fc8c8768b8939a543d76bd870f8d6da614b", func := "pyx/pyxlaw11.ChartTells", spec := "chartTells", apart := false }
def ChartTellsSaid : Prop := chartTellsRow.holds Try.pinned (OpenSpec.ofChange chartTellsSpec)

/-- ITS FALSE NEIGHBOUR: 'it returns false'. Refute it at one input. -/
def chartTellsWrong : ChangeSpec := { name := "chartTells", fn := fun _ => fun
  | [d] => { results := [.lit (.bool false)], args := [d] }
  | _ => none }
def ChartTellsWrongFalsely : Prop := chartTellsRow.holds Try.pinned (OpenSpec.ofChange chartTellsWrong)

/-- 'pyxlaw13.PeriodKnown': WHATEVER THE INPUT: true; the input reads as it did. -/
def periodKnownSpec : ChangeSpec := { name := "periodKnown", fn := fun _ => fun
  | [] => { results := [.lit (.bool true)], args := [] }
  | _ => none }
def periodKnownRow : OpenClaim := { program := "ytojkgadihooplaa", sum := "1114435d37d51f88780b3dd0f2915fc8c8768b8939a543d76bd870f8d6da614b", func := "pyx/pyxlaw13.PeriodKnown", spec := "periodKnown", apart := false }
def PeriodKnownSaid : Prop := periodKnownRow.holds Try.pinned (OpenSpec.ofChange periodKnownSpec)

/-- ITS FALSE NEIGHBOUR: 'it returns false'. Refute it at one input. -/
def periodKnownWrong : ChangeSpec := { name := "periodKnown", fn := fun _ => fun
  | [] => { results := [.lit (.bool false)], args := [] }
  | _ => none }
def PeriodKnownWrongFalsely : Prop := periodKnownRow.holds Try.pinned (OpenSpec.ofChange periodKnownWrong)

/-- 'pyxlaw13.PeriodTells': WHATEVER THE INPUT: true; the input reads as it did. -/
def periodTellsSpec : ChangeSpec := { name := "periodTells", fn := fun _ => fun
  | [d1, d2, d3] => { results := [.lit (.bool true)], args := [d1, d2, d3] }
  | _ => none }
def periodTellsRow : OpenClaim := { program := "ytojkgadihooplaa", sum := "1114435d37d51f88780b3dd0f2915fc8c8768b8939a543d76bd870f8d6da614b", func := "pyx/pyxlaw13.PeriodTells", spec := "periodTells", apart := false }
def PeriodTellsSaid : Prop := periodTellsRow.holds Try.pinned (OpenSpec.ofChange periodTellsSpec)

/-- ITS FALSE NEIGHBOUR: 'it returns false'. Refute it at one input. -/
def periodTellsWrong : ChangeSpec := { name := "periodTells", fn := fun _ => fun
  | [d1, d2, d3] => { results := [.lit (.bool false)], args := [d1, d2, d3] }
  | _ => none }
def PeriodTellsWrongFalsely : Prop := periodTellsRow.holds Try.pinned (OpenSpec.ofChange periodTellsWrong)

/-- 'pyxlaw13.PeriodFirst': WHATEVER THE INPUT: true; the input reads as it did. -/
def periodFirstSpec : ChangeSpec := { name := "periodFirst", fn := fun _ => fun
  | [d] => { results := [.lit (.bool true)], args := [d] }
  | _ => none }
def periodFirstRow : OpenClaim := { program := "ytojkgadihooplaa", sum := "1114435d37d51f88780b3dd0f2915fc8c8768b8939a543d76bd870f8d6da614b", func := "pyx/pyxlaw13.PeriodFirst", spec := "periodFirst", apart := false }
def PeriodFirstSaid : Prop := periodFirstRow.holds Try.pinned (OpenSpec.ofChange periodFirstSpec)

/-- ITS FALSE NEIGHBOUR: 'it returns false'. Refute it at one input. -/
def periodFirstWrong : ChangeSpec := { name := "periodFirst", fn := fun _ => fun
  | [d] => { results := [.lit (.bool false)], args := [d] }
  | _ => none }
def PeriodFirstWrongFalsely : Prop := periodFirstRow.holds Try.pinned (OpenSpec.ofChange periodFirstWrong)

/-- 'pyxlaw13.PeriodBacks': WHATEVER THE INPUT: true; the input reads as it did. -/
def periodBacksSpec : ChangeSpec := { name := "periodBacks", fn := fun _ => fun
  | [d1, d2, d3] => { results := [.lit (.bool true)], args := [d1, d2, d3] }
  | _ => none }
def periodBacksRow : OpenClaim := { program := "ytojkgadihooplaa", sum := "1114435d37d51f88780b3dd0f2915fc8c8768b8939a543d76bd870f8d6da614b", func := "pyx/pyxlaw13.PeriodBacks", spec := "periodBacks", apart := false }
def PeriodBacksSaid : Prop := periodBacksRow.holds Try.pinned (OpenSpec.ofChange periodBacksSpec)

/-- ITS FALSE NEIGHBOUR: 'it returns false'. Refute it at one input. -/
def periodBacksWrong : ChangeSpec := { name := "periodBacks", fn := fun _ => fun
  | [d1, d2, d3] => { results := [.lit (.bool false)], args := [d1, d2, d3] }
  | _ => none }
def PeriodBacksWrongFalsely : Prop := periodBacksRow.holds Try.pinned (OpenSpec.ofChange periodBacksWrong)

/-- 'pyxlaw9.RoleKnown': WHATEVER THE INPUT: true; the input reads as it did. -/
def roleKnownSpec : ChangeSpec := { name := "roleKnown", fn := fun _ => fun
  | [] => { results := [.lit (.bool true)], args := [] }
  | _ => none }
def roleKnownRow : OpenClaim := { program := "ytojkgadihooplaa", sum := "1114435d37d51f88780b3dd0f2915fc8c8768b8939a543d76bd870f8d6da614b", func := "pyx/pyxlaw9.RoleKnown", spec := "roleKnown", apart := false }
def RoleKnownSaid : Prop := roleKnownRow.holds Try.pinned (OpenSpec.ofChange roleKnownSpec)

/-- ITS FALSE NEIGHBOUR: 'it returns false'. Refute it at one input. -/
def roleKnownWrong : ChangeSpec := { name := "roleKnown", fn := fun _ => fun
  | [] => { results := [.lit (.bool false)], args := [] }
  | _ => none }
def RoleKnownWrongFalsely : Prop := roleKnownRow.holds Try.pinned (OpenSpec.ofChange roleKnownWrong)

/-- 'pyxlaw9.RoleTells': WHATEVER THE INPUT: true; the input reads as it did. -/
def roleTellsSpec : ChangeSpec := { name := "roleTells", fn := fun _ => fun
  | [d1, d2, d3, d4] => { results := [.lit (.bool true)], args := [d1, d2, d3, d4] }
  | _ => none }
def roleTellsRow : OpenClaim := { program := "ytojkgadihooplaa", sum := "1114435d37d51f88780b3dd0f2915fc8c8768b8939a543d76bd870f8d6da614b", func := "pyx/pyxlaw9.RoleTells", spec := "roleTells", apart := false }
def RoleTellsSaid : Prop := roleTellsRow.holds Try.pinned (OpenSpec.ofChange roleTellsSpec)

/-- ITS FALSE NEIGHBOUR: 'it returns false'. Refute it at one input. -/
def roleTellsWrong : ChangeSpec := { name := "roleTells", fn := fun _ => fun
  | [d1, d2, d3, d4] => { results := [.lit (.bool false)], args := [d1, d2, d3, d4] }
  | _ => none }
def RoleTellsWrongFalsely : Prop := roleTellsRow.holds Try.pinned (OpenSpec.ofChange roleTellsWrong)

/-- 'pyxlaw9.RoleGrows': WHATEVER THE INPUT: true; the input reads as it did. -/
def roleGrowsSpec : ChangeSpec := { name := "roleGrows", fn := fun _ => fun
  | [d1, d2, d3] => { results := [.lit (.bool true)], args := [d1, d2, d3] }
  | _ => none }
def roleGrowsRow : OpenClaim := { program := "ytojkgadihooplaa", sum := "1114435d37d51f88780b3dd0f2915fc8c8768b8939a543d76bd870f8d6da614b", func := "pyx/pyxlaw9.RoleGrows", spec := "roleGrows", apart := false }
def RoleGrowsSaid : Prop := roleGrowsRow.holds Try.pinned (OpenSpec.ofChange roleGrowsSpec)

/-- ITS FALSE NEIGHBOUR: 'it returns false'. Refute it at one input. -/
def roleGrowsWrong : ChangeSpec := { name := "roleGrows", fn := fun _ => fun
  | [d1, d2, d3] => { results := [.lit (.bool false)], args := [d1, d2, d3] }
  | _ => none }
def RoleGrowsWrongFalsely : Prop := roleGrowsRow.holds Try.pinned (OpenSpec.ofChange roleGrowsWrong)

/-- 'pyxlaw9.RoleChains': WHATEVER THE INPUT: true; the input reads as it did. -/
def roleChainsSpec : ChangeSpec := { name := "roleChains", fn := fun _ => fun
  | [d1, d2] => { results := [.lit (.bool true)], args := [d1, d2] }
  | _ => none }
def roleChainsRow : OpenClaim := { program := "ytojkgadihooplaa", sum := "1114435d37d51f88780b3dd0f2915fc8c8768b8939a543d76bd870f8d6da614b", func := "pyx/pyxlaw9.RoleChains", spec := "roleChains", apart := false }
def RoleChainsSaid : Prop := roleChainsRow.holds Try.pinned (OpenSpec.ofChange roleChainsSpec)

/-- ITS FALSE NEIGHBOUR: 'it returns false'. Refute it at one input. -/
def roleChainsWrong : ChangeSpec := { name := "roleChains", fn := fun _ => fun
  | [d1, d2] => { results := [.lit (.bool false)], args := [d1, d2] }
  | _ => none }
def RoleChainsWrongFalsely : Prop := roleChainsRow.holds Try.pinned (OpenSpec.ofChange roleChainsWrong)

/- THE SECOND FORM. 'bulk': how many values and letters a reading holds, each counted each time it is reached (what is shared counts as often as it is met; a slice's spare places count too). A statement '..UptoSaid' is the law's where the arguments, and the package variables that the reading takes, are together of bulk at most 1048576: NARROWER than '..Said'. Prove '..Said' where nothing that the law and all that it calls make is longer than what came in: it says more and counts as full. Else prove '..UptoSaid'. A law counts once. -/
mutual
def uptoBulk {H : Type} : DataW H → Nat
  | .lit (.string bytes) => bytes.length + 1
  | .lit _ => 1
  | .nil => 1
  | .ptr d => uptoBulk d + 1
  | .slice elems spare => uptoBulkAll elems + uptoBulkAll spare + 1
  | .agg parts => uptoBulkAll parts + 1
  | .iface _ d => uptoBulk d + 1
  | .map entries => uptoBulkEntries entries + 1
  | .held _ => 1
def uptoBulkAll {H : Type} : List (DataW H) → Nat
  | [] => 0
  | d :: r => uptoBulk d + uptoBulkAll r
def uptoBulkEntries {H : Type} : List (Lit × DataW H) → Nat
  | [] => 0
  | x :: r => uptoBulkEntry x + uptoBulkEntries r
def uptoBulkEntry {H : Type} : Lit × DataW H → Nat
  | (.string bytes, d) => bytes.length + uptoBulk d + 1
  | (_, d) => uptoBulk d + 1
 end
def uptoSmall : (H : Type) → List (DataW H) → Bool := fun _ ds => decide (uptoBulkAll ds ≤ 1048576)
def OpenSpec.upto (s : _root_.Go.ChangeSpec) : _root_.Go.OpenSpec := { _root_.Go.OpenSpec.ofChange s with cond := some uptoSmall }

/-- 'pyxlaw11.ChartKnown', WHERE WHAT IT READS IS OF BULK AT MOST 1048576: true; the input reads as it did. -/
def chartKnownUptoRow : OpenClaim := { program := "ytojkgadihooplaa", sum := "1114435d37d51f88780b3dd0f2915fc8c8768b8939a543d76bd870f8d6da614b", func := "pyx/pyxlaw11.ChartKnown", spec := "chartKnown", apart := false, narrowed := true }
def ChartKnownUptoSaid : Prop := chartKnownUptoRow.holds Try.pinned (OpenSpec.upto chartKnownSpec)

/-- 'pyxlaw11.ChartTells', WHERE WHAT IT READS IS OF BULK AT MOST 1048576: true; the input reads as it did. -/
def chartTellsUptoRow : OpenClaim := { program := "ytojkgadihooplaa", sum := "1114435d37d51f88780b3dd0f2915fc8c8768b8939a543d76bd870f8d6da614b", func := "pyx/pyxlaw11.ChartTells", spec := "chartTells", apart := false, narrowed := true }
def ChartTellsUptoSaid : Prop := chartTellsUptoRow.holds Try.pinned (OpenSpec.upto chartTellsSpec)

/-- 'pyxlaw13.PeriodKnown', WHERE WHAT IT READS IS OF BULK AT MOST 1048576: true; the input reads as it did. -/
def periodKnownUptoRow : OpenClaim := { program := "ytojkgadihooplaa", sum := "1114435d37d51f88780b3dd0f2915fc8c8768b8939a543d76bd870f8d6da614b", func := "pyx/pyxlaw13.PeriodKnown", spec := "periodKnown", apart := false, narrowed := true }
def PeriodKnownUptoSaid : Prop := periodKnownUptoRow.holds Try.pinned (OpenSpec.upto periodKnownSpec)

/-- 'pyxlaw13.PeriodTells', WHERE WHAT IT READS IS OF BULK AT MOST 1048576: true; the input reads as it did. -/
def periodTellsUptoRow : OpenClaim := { program := "ytojkgadihooplaa", sum := "1114435d37d51f88780b3dd0f2915fc8c8768b8939a543d76bd870f8d6da614b", func := "pyx/pyxlaw13.PeriodTells", spec := "periodTells", apart := false, narrowed := true }
def PeriodTellsUptoSaid : Prop := periodTellsUptoRow.holds Try.pinned (OpenSpec.upto periodTellsSpec)

/-- 'pyxlaw13.PeriodFirst', WHERE WHAT IT READS IS OF BULK AT MOST 1048576: true; the input reads as it did. -/
def periodFirstUptoRow : OpenClaim := { program := "ytojkgadihooplaa", sum := "1114435d37d51f88780b3dd0f2915fc8c8768b8939a543d76bd870f8d6da614b", func := "pyx/pyxlaw13.PeriodFirst", spec := "periodFirst", apart := false, narrowed := true }
def PeriodFirstUptoSaid : Prop := periodFirstUptoRow.holds Try.pinned (OpenSpec.upto periodFirstSpec)

/-- 'pyxlaw13.PeriodBacks', WHERE WHAT IT READS IS OF BULK AT MOST 1048576: true; the input reads as it did. -/
def periodBacksUptoRow : OpenClaim := { program := "ytojkgadihooplaa", sum := "1114435d37d51f88780b3dd0f2915fc8c8768b8939a543d76bd870f8d6da614b", func := "pyx/pyxlaw13.PeriodBacks", spec := "periodBacks", apart := false, narrowed := true }
def PeriodBacksUptoSaid : Prop := periodBacksUptoRow.holds Try.pinned (OpenSpec.upto periodBacksSpec)

/-- 'pyxlaw9.RoleKnown', WHERE WHAT IT READS IS OF BULK AT MOST 1048576: true; the input reads as it did. -/
def roleKnownUptoRow : OpenClaim := { program := "ytojkgadihooplaa", sum := "1114435d37d51f88780b3dd0f2915fc8c8768b8939a543d76bd870f8d6da614b", func := "pyx/pyxlaw9.RoleKnown", spec := "roleKnown", apart := false, narrowed := true }
def RoleKnownUptoSaid : Prop := roleKnownUptoRow.holds Try.pinned (OpenSpec.upto roleKnownSpec)

/-- 'pyxlaw9.RoleTells', WHERE WHAT IT READS IS OF BULK AT MOST 1048576: true; the input reads as it did. -/
def roleTellsUptoRow : OpenClaim := { program := "ytojkgadihooplaa", sum := "1114435d37d51f88780b3dd0f2915fc8c8768b8939a543d76bd870f8d6da614b", func := "pyx/pyxlaw9.RoleTells", spec := "roleTells", apart := false, narrowed := true }
def RoleTellsUptoSaid : Prop := roleTellsUptoRow.holds Try.pinned (OpenSpec.upto roleTellsSpec)

/-- 'pyxlaw9.RoleGrows', WHERE WHAT IT READS IS OF BULK AT MOST 1048576: true; the input reads as it did. -/
def roleGrowsUptoRow : OpenClaim := { program := "ytojkgadihooplaa", sum := "1114435d37d51f88780b3dd0f2915fc8c8768b8939a543d76bd870f8d6da614b", func := "pyx/pyxlaw9.RoleGrows", spec := "roleGrows", apart := false, narrowed := true }
def RoleGrowsUptoSaid : Prop := roleGrowsUptoRow.holds Try.pinned (OpenSpec.upto roleGrowsSpec)

/-- 'pyxlaw9.RoleChains', WHERE WHAT IT READS IS OF BULK AT MOST 1048576: true; the input reads as it did. -/
def roleChainsUptoRow : OpenClaim := { program := "ytojkgadihooplaa", sum := "1114435d37d51f88780b3dd0f2915fc8c8768b8939a543d76bd870f8d6da614b", func := "pyx/pyxlaw9.RoleChains", spec := "roleChains", apart := false, narrowed := true }
def RoleChainsUptoSaid : Prop := roleChainsUptoRow.holds Try.pinned (OpenSpec.upto roleChainsSpec)

end Rows
end Go.Proofs.Ytojkgadihooplaa
