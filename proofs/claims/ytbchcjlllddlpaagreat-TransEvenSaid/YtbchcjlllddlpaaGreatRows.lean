/-
  No cell of these rows narrows 'for every input' (looked for: loops, veiled, ifaces, maps, wideKeys, modest, calm, conditions, laid).
  DERIVED. THE GIVEN ROWS OF THIS SEAT. 7 by the template 'for every input the law returns true; each argument reads behind the call as it read before'; 0 by the template 'total and deterministic' (their statements: YtbchcjlllddlpaaGreatTotals.lean).
  GIVEN WITH THE SEED: the statements are not yours to turn. If you find one false, say at which input.
  Laid BY PROGRAM, IN A SANDBOX (cutbox-rows.mjs): the forced cells as the released guide's own fill.sh prints them over the translation 774ffcfe2f3dc728… (all of the seat's roots in one cut). By AI agents, Wed Nov 11 2026. No macro, syntax, notation, axiom, sorry.
-/
import Derived.Test.YtbchcjlllddlpaaGreatChecked
import GoSem.Claim
import GoSem.ClaimJoined
import GoSem.ClaimMapViews
import Derived.JoinedTies
import Derived.KernelRfl
namespace Go.Proofs.YtbchcjlllddlpaaGreat
/- THE CELL 'sum', in the pinned program and in every row, IS THE sha256 OF THE DUMP (.gsa) THAT YtbchcjlllddlpaaGreatProg.lean LOADS. Nothing in Lean hashes anything: it is a label: what it is worth is what the hold of that sum in a sandbox is worth. -/
noncomputable def Tryz.pinned : Pinned := { name := "ytbchcjlllddlpaagreat", sum := "774ffcfe2f3dc728559cc2403e6fdcf2a04a4da39e03fb1c45396e4a1d51bea8", checked := Tryz.checked }
namespace Rows
def none {H : Type} : Left H := { results := [], args := [] }

/-- 'pyxlaw15.TrialAdds': WHATEVER THE INPUT: true; the input reads as it did. -/
def trialAddsSpec : ChangeSpec := { name := "trialAdds", fn := fun _ => fun
  | [d1, d2, d3] => { results := [.lit (.bool true)], args := [d1, d2, d3] }
  | _ => none }
def trialAddsRow : OpenClaim := { program := "ytbchcjlllddlpaagreat", sum := "774ffcfe2f3dc728559cc2403e6fdcf2a04a4da39e03fb1c45396e4a1d51bea8", func := "pyx/pyxlaw15.TrialAdds", spec := "trialAdds", unfollowed := true, recurses := true, plainKeys := false, apart := false }
def TrialAddsSaid : Prop := trialAddsRow.holds Tryz.pinned (OpenSpec.ofChange trialAddsSpec)

/-- ITS FALSE NEIGHBOUR: 'it returns false'. Refute it at one input. -/
def trialAddsWrong : ChangeSpec := { name := "trialAdds", fn := fun _ => fun
  | [d1, d2, d3] => { results := [.lit (.bool false)], args := [d1, d2, d3] }
  | _ => none }
def TrialAddsWrongFalsely : Prop := trialAddsRow.holds Tryz.pinned (OpenSpec.ofChange trialAddsWrong)

/-- 'pyxlaw15.TrialKnown': WHATEVER THE INPUT: true; the input reads as it did. -/
def trialKnownSpec : ChangeSpec := { name := "trialKnown", fn := fun _ => fun
  | [] => { results := [.lit (.bool true)], args := [] }
  | _ => none }
def trialKnownRow : OpenClaim := { program := "ytbchcjlllddlpaagreat", sum := "774ffcfe2f3dc728559cc2403e6fdcf2a04a4da39e03fb1c45396e4a1d51bea8", func := "pyx/pyxlaw15.TrialKnown", spec := "trialKnown", unfollowed := true, recurses := true, plainKeys := false, apart := false }
def TrialKnownSaid : Prop := trialKnownRow.holds Tryz.pinned (OpenSpec.ofChange trialKnownSpec)

/-- ITS FALSE NEIGHBOUR: 'it returns false'. Refute it at one input. -/
def trialKnownWrong : ChangeSpec := { name := "trialKnown", fn := fun _ => fun
  | [] => { results := [.lit (.bool false)], args := [] }
  | _ => none }
def TrialKnownWrongFalsely : Prop := trialKnownRow.holds Tryz.pinned (OpenSpec.ofChange trialKnownWrong)

/-- 'pyxlaw15.TrialTells': WHATEVER THE INPUT: true; the input reads as it did. -/
def trialTellsSpec : ChangeSpec := { name := "trialTells", fn := fun _ => fun
  | [d1, d2, d3, d4, d5] => { results := [.lit (.bool true)], args := [d1, d2, d3, d4, d5] }
  | _ => none }
def trialTellsRow : OpenClaim := { program := "ytbchcjlllddlpaagreat", sum := "774ffcfe2f3dc728559cc2403e6fdcf2a04a4da39e03fb1c45396e4a1d51bea8", func := "pyx/pyxlaw15.TrialTells", spec := "trialTells", unfollowed := true, recurses := true, plainKeys := false, apart := false }
def TrialTellsSaid : Prop := trialTellsRow.holds Tryz.pinned (OpenSpec.ofChange trialTellsSpec)

/-- ITS FALSE NEIGHBOUR: 'it returns false'. Refute it at one input. -/
def trialTellsWrong : ChangeSpec := { name := "trialTells", fn := fun _ => fun
  | [d1, d2, d3, d4, d5] => { results := [.lit (.bool false)], args := [d1, d2, d3, d4, d5] }
  | _ => none }
def TrialTellsWrongFalsely : Prop := trialTellsRow.holds Tryz.pinned (OpenSpec.ofChange trialTellsWrong)

/-- 'pyxlaw15.TrialCloses': WHATEVER THE INPUT: true; the input reads as it did. -/
def trialClosesSpec : ChangeSpec := { name := "trialCloses", fn := fun _ => fun
  | [d1, d2] => { results := [.lit (.bool true)], args := [d1, d2] }
  | _ => none }
def trialClosesRow : OpenClaim := { program := "ytbchcjlllddlpaagreat", sum := "774ffcfe2f3dc728559cc2403e6fdcf2a04a4da39e03fb1c45396e4a1d51bea8", func := "pyx/pyxlaw15.TrialCloses", spec := "trialCloses", unfollowed := true, recurses := true, plainKeys := false, apart := false }
def TrialClosesSaid : Prop := trialClosesRow.holds Tryz.pinned (OpenSpec.ofChange trialClosesSpec)

/-- ITS FALSE NEIGHBOUR: 'it returns false'. Refute it at one input. -/
def trialClosesWrong : ChangeSpec := { name := "trialCloses", fn := fun _ => fun
  | [d1, d2] => { results := [.lit (.bool false)], args := [d1, d2] }
  | _ => none }
def TrialClosesWrongFalsely : Prop := trialClosesRow.holds Tryz.pinned (OpenSpec.ofChange trialClosesWrong)

/-- 'pyxlaw17.TransTells': WHATEVER THE INPUT: true; the input reads as it did. -/
def transTellsSpec : ChangeSpec := { name := "transTells", fn := fun _ => fun
  | [d1, d2, d3, d4, d5, d6, d7] => { results := [.lit (.bool true)], args := [d1, d2, d3, d4, d5, d6, d7] }
  | _ => none }
def transTellsRow : OpenClaim := { program := "ytbchcjlllddlpaagreat", sum := "774ffcfe2f3dc728559cc2403e6fdcf2a04a4da39e03fb1c45396e4a1d51bea8", func := "pyx/pyxlaw17.TransTells", spec := "transTells", unfollowed := true, recurses := true, plainKeys := false, apart := false }
def TransTellsSaid : Prop := transTellsRow.holds Tryz.pinned (OpenSpec.ofChange transTellsSpec)

/-- ITS FALSE NEIGHBOUR: 'it returns false'. Refute it at one input. -/
def transTellsWrong : ChangeSpec := { name := "transTells", fn := fun _ => fun
  | [d1, d2, d3, d4, d5, d6, d7] => { results := [.lit (.bool false)], args := [d1, d2, d3, d4, d5, d6, d7] }
  | _ => none }
def TransTellsWrongFalsely : Prop := transTellsRow.holds Tryz.pinned (OpenSpec.ofChange transTellsWrong)

/-- 'pyxlaw17.TransEven': WHATEVER THE INPUT: true; the input reads as it did. -/
def transEvenSpec : ChangeSpec := { name := "transEven", fn := fun _ => fun
  | [d1, d2, d3, d4] => { results := [.lit (.bool true)], args := [d1, d2, d3, d4] }
  | _ => none }
def transEvenRow : OpenClaim := { program := "ytbchcjlllddlpaagreat", sum := "774ffcfe2f3dc728559cc2403e6fdcf2a04a4da39e03fb1c45396e4a1d51bea8", func := "pyx/pyxlaw17.TransEven", spec := "transEven", unfollowed := true, recurses := true, plainKeys := false, apart := false }
def TransEvenSaid : Prop := transEvenRow.holds Tryz.pinned (OpenSpec.ofChange transEvenSpec)

/-- ITS FALSE NEIGHBOUR: 'it returns false'. Refute it at one input. -/
def transEvenWrong : ChangeSpec := { name := "transEven", fn := fun _ => fun
  | [d1, d2, d3, d4] => { results := [.lit (.bool false)], args := [d1, d2, d3, d4] }
  | _ => none }
def TransEvenWrongFalsely : Prop := transEvenRow.holds Tryz.pinned (OpenSpec.ofChange transEvenWrong)

/-- 'pyxlaw17.TransOnes': WHATEVER THE INPUT: true; the input reads as it did. -/
def transOnesSpec : ChangeSpec := { name := "transOnes", fn := fun _ => fun
  | [d1, d2, d3, d4, d5] => { results := [.lit (.bool true)], args := [d1, d2, d3, d4, d5] }
  | _ => none }
def transOnesRow : OpenClaim := { program := "ytbchcjlllddlpaagreat", sum := "774ffcfe2f3dc728559cc2403e6fdcf2a04a4da39e03fb1c45396e4a1d51bea8", func := "pyx/pyxlaw17.TransOnes", spec := "transOnes", unfollowed := true, recurses := true, plainKeys := false, apart := false }
def TransOnesSaid : Prop := transOnesRow.holds Tryz.pinned (OpenSpec.ofChange transOnesSpec)

/-- ITS FALSE NEIGHBOUR: 'it returns false'. Refute it at one input. -/
def transOnesWrong : ChangeSpec := { name := "transOnes", fn := fun _ => fun
  | [d1, d2, d3, d4, d5] => { results := [.lit (.bool false)], args := [d1, d2, d3, d4, d5] }
  | _ => none }
def TransOnesWrongFalsely : Prop := transOnesRow.holds Tryz.pinned (OpenSpec.ofChange transOnesWrong)

/- THE SECOND FORM. 'bulk': how many values and letters a reading holds, each counted each time it is reached (what is shared counts as often as it is met; a slice's spare places count too). A statement '..UptoSaid' is the law's where the arguments, and the package variables that the reading takes, are together of bulk at most 1048576: NARROWER than '..Said'. Prove '..Said' where nothing that the law and all that it calls make is longer than what came in: it says more and counts as full. Else prove '..UptoSaid'. A law counts once. -/
mutual
def uptoBulk {H : Type} : DataW H → Nat
  | .lit (.string bytes) => bytes.length + 1
  | .lit _ => 1
  | .nil => 1
  | .ptr d => uptoBulk d + 1
  | .slice elems spare => uptoBulkAll elems + uptoBulkAll spare + 1
  | .agg parts => uptoBulkAll parts + 1
  | .iface _ d => uptoBulk d + 1
  | .map entries => uptoBulkEntries entries + 1
  | .held _ => 1
def uptoBulkAll {H : Type} : List (DataW H) → Nat
  | [] => 0
  | d :: r => uptoBulk d + uptoBulkAll r
def uptoBulkEntries {H : Type} : List (Lit × DataW H) → Nat
  | [] => 0
  | x :: r => uptoBulkEntry x + uptoBulkEntries r
def uptoBulkEntry {H : Type} : Lit × DataW H → Nat
  | (.string bytes, d) => bytes.length + uptoBulk d + 1
  | (_, d) => uptoBulk d + 1
 end
def uptoSmall : (H : Type) → List (DataW H) → Bool := fun _ ds => decide (uptoBulkAll ds ≤ 1048576)
def OpenSpec.upto (s : _root_.Go.ChangeSpec) : _root_.Go.OpenSpec := { _root_.Go.OpenSpec.ofChange s with cond := some uptoSmall }

/-- 'pyxlaw15.TrialAdds', WHERE WHAT IT READS IS OF BULK AT MOST 1048576: true; the input reads as it did. -/
def trialAddsUptoRow : OpenClaim := { program := "ytbchcjlllddlpaagreat", sum := "774ffcfe2f3dc728559cc2403e6fdcf2a04a4da39e03fb1c45396e4a1d51bea8", func := "pyx/pyxlaw15.TrialAdds", spec := "trialAdds", unfollowed := true, recurses := true, plainKeys := false, apart := false, narrowed := true }
def TrialAddsUptoSaid : Prop := trialAddsUptoRow.holds Tryz.pinned (OpenSpec.upto trialAddsSpec)

/-- 'pyxlaw15.TrialKnown', WHERE WHAT IT READS IS OF BULK AT MOST 1048576: true; the input reads as it did. -/
def trialKnownUptoRow : OpenClaim := { program := "ytbchcjlllddlpaagreat", sum := "774ffcfe2f3dc728559cc2403e6fdcf2a04a4da39e03fb1c45396e4a1d51bea8", func := "pyx/pyxlaw15.TrialKnown", spec := "trialKnown", unfollowed := true, recurses := true, plainKeys := false, apart := false, narrowed := true }
def TrialKnownUptoSaid : Prop := trialKnownUptoRow.holds Tryz.pinned (OpenSpec.upto trialKnownSpec)

/-- 'pyxlaw15.TrialTells', WHERE WHAT IT READS IS OF BULK AT MOST 1048576: true; the input reads as it did. -/
def trialTellsUptoRow : OpenClaim := { program := "ytbchcjlllddlpaagreat", sum := "774ffcfe2f3dc728559cc2403e6fdcf2a04a4da39e03fb1c45396e4a1d51bea8", func := "pyx/pyxlaw15.TrialTells", spec := "trialTells", unfollowed := true, recurses := true, plainKeys := false, apart := false, narrowed := true }
def TrialTellsUptoSaid : Prop := trialTellsUptoRow.holds Tryz.pinned (OpenSpec.upto trialTellsSpec)

/-- 'pyxlaw15.TrialCloses', WHERE WHAT IT READS IS OF BULK AT MOST 1048576: true; the input reads as it did. -/
def trialClosesUptoRow : OpenClaim := { program := "ytbchcjlllddlpaagreat", sum := "774ffcfe2f3dc728559cc2403e6fdcf2a04a4da39e03fb1c45396e4a1d51bea8", func := "pyx/pyxlaw15.TrialCloses", spec := "trialCloses", unfollowed := true, recurses := true, plainKeys := false, apart := false, narrowed := true }
def TrialClosesUptoSaid : Prop := trialClosesUptoRow.holds Tryz.pinned (OpenSpec.upto trialClosesSpec)

/-- 'pyxlaw17.TransTells', WHERE WHAT IT READS IS OF BULK AT MOST 1048576: true; the input reads as it did. -/
def transTellsUptoRow : OpenClaim := { program := "ytbchcjlllddlpaagreat", sum := "774ffcfe2f3dc728559cc2403e6fdcf2a04a4da39e03fb1c45396e4a1d51bea8", func := "pyx/pyxlaw17.TransTells", spec := "transTells", unfollowed := true, recurses := true, plainKeys := false, apart := false, narrowed := true }
def TransTellsUptoSaid : Prop := transTellsUptoRow.holds Tryz.pinned (OpenSpec.upto transTellsSpec)

/-- 'pyxlaw17.TransEven', WHERE WHAT IT READS IS OF BULK AT MOST 1048576: true; the input reads as it did. -/
def transEvenUptoRow : OpenClaim := { program := "ytbchcjlllddlpaagreat", sum := "774ffcfe2f3dc728559cc2403e6fdcf2a04a4da39e03fb1c45396e4a1d51bea8", func := "pyx/pyxlaw17.TransEven", spec := "transEven", unfollowed := true, recurses := true, plainKeys := false, apart := false, narrowed := true }
def TransEvenUptoSaid : Prop := transEvenUptoRow.holds Tryz.pinned (OpenSpec.upto transEvenSpec)

/-- 'pyxlaw17.TransOnes', WHERE WHAT IT READS IS OF BULK AT MOST 1048576: true; the input reads as it did. -/
def transOnesUptoRow : OpenClaim := { program := "ytbchcjlllddlpaagreat", sum := "774ffcfe2f3dc728559cc2403e6fdcf2a04a4da39e03fb1c45396e4a1d51bea8", func := "pyx/pyxlaw17.TransOnes", spec := "transOnes", unfollowed := true, recurses := true, plainKeys := false, apart := false, narrowed := true }
def TransOnesUptoSaid : Prop := transOnesUptoRow.holds Tryz.pinned (OpenSpec.upto transOnesSpec)

end Rows
end Go.Proofs.YtbchcjlllddlpaaGreat
