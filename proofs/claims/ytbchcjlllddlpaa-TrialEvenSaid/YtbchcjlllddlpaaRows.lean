/-
  No cell of these rows narrows 'for every input' (looked for: loops, veiled, ifaces, maps, wideKeys, modest, calm, conditions, laid).
  DERIVED. THE GIVEN ROWS OF THIS SEAT. 3 by the template 'for every input the law returns true; each argument reads behind the call as it read before'; 0 by the template 'total and deterministic' (their statements: YtbchcjlllddlpaaTotals.lean).
  GIVEN WITH THE SEED: the statements are not yours to turn. If you find one false, say at which input.
  Laid BY PROGRAM, IN A SANDBOX (cutbox-rows.mjs): the forced cells as the released guide's own fill.sh prints them over the translation 1e25261a8b8d5a01… (all of the seat's roots in one cut). By AI agents, Wed Nov 11 2026. No macro, syntax, notation, axiom, sorry.
-/
import Derived.Test.YtbchcjlllddlpaaChecked
import GoSem.Claim
import GoSem.ClaimJoined
import GoSem.ClaimMapViews
import Derived.JoinedTies
import Derived.KernelRfl
namespace Go.Proofs.Ytbchcjlllddlpaa
/- THE CELL 'sum', in the pinned program and in every row, IS THE sha256 OF THE DUMP (.gsa) THAT YtbchcjlllddlpaaProg.lean LOADS. Nothing in Lean hashes anything: it is a label: what it is worth is what the hold of that sum in a sandbox is worth. -/
noncomputable def Try.pinned : Pinned := { name := "ytbchcjlllddlpaa", sum := "1e25261a8b8d5a01c3feb69ad5f79cec3b9fe0d750e893b45c968b27bfcddefc", checked := Try.checked }
namespace Rows
def none {H : Type} : Left H := { results := [], args := [] }

/-- 'pyxlaw15.TrialEven': WHATEVER THE INPUT: true; the input reads as it did. -/
def trialEvenSpec : ChangeSpec := { name := "trialEven", fn := fun _ => fun
  | [d1, d2, d3] => { results := [.lit (.bool true)], args := [d1, d2, d3] }
  | _ => none }
def trialEvenRow : OpenClaim := { program := "ytbchcjlllddlpaa", sum := "1e25261a8b8d5a01c3feb69ad5f79cec3b9fe0d750e893b45c968b27bfcddefc", func := "pyx/pyxlaw15.TrialEven", spec := "trialEven", unfollowed := true, recurses := true, plainKeys := false, apart := false }
def TrialEvenSaid : Prop := trialEvenRow.holds Try.pinned (OpenSpec.ofChange trialEvenSpec)

/-- ITS FALSE NEIGHBOUR: 'it returns false'. Refute it at one input. -/
def trialEvenWrong : ChangeSpec := { name := "trialEven", fn := fun _ => fun
  | [d1, d2, d3] => { results := [.lit (.bool false)], args := [d1, d2, d3] }
  | _ => none }
def TrialEvenWrongFalsely : Prop := trialEvenRow.holds Try.pinned (OpenSpec.ofChange trialEvenWrong)

/-- 'pyxlaw17.TransKnown': WHATEVER THE INPUT: true; the input reads as it did. -/
def transKnownSpec : ChangeSpec := { name := "transKnown", fn := fun _ => fun
  | [] => { results := [.lit (.bool true)], args := [] }
  | _ => none }
def transKnownRow : OpenClaim := { program := "ytbchcjlllddlpaa", sum := "1e25261a8b8d5a01c3feb69ad5f79cec3b9fe0d750e893b45c968b27bfcddefc", func := "pyx/pyxlaw17.TransKnown", spec := "transKnown", unfollowed := true, recurses := true, plainKeys := false, apart := false }
def TransKnownSaid : Prop := transKnownRow.holds Try.pinned (OpenSpec.ofChange transKnownSpec)

/-- ITS FALSE NEIGHBOUR: 'it returns false'. Refute it at one input. -/
def transKnownWrong : ChangeSpec := { name := "transKnown", fn := fun _ => fun
  | [] => { results := [.lit (.bool false)], args := [] }
  | _ => none }
def TransKnownWrongFalsely : Prop := transKnownRow.holds Try.pinned (OpenSpec.ofChange transKnownWrong)

/-- 'pyxlaw17.TransKinds': WHATEVER THE INPUT: true; the input reads as it did. -/
def transKindsSpec : ChangeSpec := { name := "transKinds", fn := fun _ => fun
  | [d1, d2, d3] => { results := [.lit (.bool true)], args := [d1, d2, d3] }
  | _ => none }
def transKindsRow : OpenClaim := { program := "ytbchcjlllddlpaa", sum := "1e25261a8b8d5a01c3feb69ad5f79cec3b9fe0d750e893b45c968b27bfcddefc", func := "pyx/pyxlaw17.TransKinds", spec := "transKinds", unfollowed := true, recurses := true, plainKeys := false, apart := false }
def TransKindsSaid : Prop := transKindsRow.holds Try.pinned (OpenSpec.ofChange transKindsSpec)

/-- ITS FALSE NEIGHBOUR: 'it returns false'. Refute it at one input. -/
def transKindsWrong : ChangeSpec := { name := "transKinds", fn := fun _ => fun
  | [d1, d2, d3] => { results := [.lit (.bool false)], args := [d1, d2, d3] }
  | _ => none }
def TransKindsWrongFalsely : Prop := transKindsRow.holds Try.pinned (OpenSpec.ofChange transKindsWrong)

/- THE SECOND FORM. 'bulk': how many values and letters a reading holds, each counted each time it is reached (what is shared counts as often as it is met; a slice's spare places count too). A statement '..UptoSaid' is the law's where the arguments, and the package variables that the reading takes, are together of bulk at most 1048576: NARROWER than '..Said'. Prove '..Said' where nothing that the law and all that it calls make is longer than what came in: it says more and counts as full. Else prove '..UptoSaid'. A law counts once. -/
mutual
def uptoBulk {H : Type} : DataW H → Nat
  | .lit (.string bytes) => bytes.length + 1
  | .lit _ => 1
  | .nil => 1
  | .ptr d => uptoBulk d + 1
  | .slice elems spare => uptoBulkAll elems + uptoBulkAll spare + 1
  | .agg parts => uptoBulkAll parts + 1
  | .iface _ d => uptoBulk d + 1
  | .map entries => uptoBulkEntries entries + 1
  | .held _ => 1
def uptoBulkAll {H : Type} : List (DataW H) → Nat
  | [] => 0
  | d :: r => uptoBulk d + uptoBulkAll r
def uptoBulkEntries {H : Type} : List (Lit × DataW H) → Nat
  | [] => 0
  | x :: r => uptoBulkEntry x + uptoBulkEntries r
def uptoBulkEntry {H : Type} : Lit × DataW H → Nat
  | (.string bytes, d) => bytes.length + uptoBulk d + 1
  | (_, d) => uptoBulk d + 1
 end
def uptoSmall : (H : Type) → List (DataW H) → Bool := fun _ ds => decide (uptoBulkAll ds ≤ 1048576)
def OpenSpec.upto (s : _root_.Go.ChangeSpec) : _root_.Go.OpenSpec := { _root_.Go.OpenSpec.ofChange s with cond := some uptoSmall }

/-- 'pyxlaw15.TrialEven', WHERE WHAT IT READS IS OF BULK AT MOST 1048576: true; the input reads as it did. -/
def trialEvenUptoRow : OpenClaim := { program := "ytbchcjlllddlpaa", sum := "1e25261a8b8d5a01c3feb69ad5f79cec3b9fe0d750e893b45c968b27bfcddefc", func := "pyx/pyxlaw15.TrialEven", spec := "trialEven", unfollowed := true, recurses := true, plainKeys := false, apart := false, narrowed := true }
def TrialEvenUptoSaid : Prop := trialEvenUptoRow.holds Try.pinned (OpenSpec.upto trialEvenSpec)

/-- 'pyxlaw17.TransKnown', WHERE WHAT IT READS IS OF BULK AT MOST 1048576: true; the input reads as it did. -/
def transKnownUptoRow : OpenClaim := { program := "ytbchcjlllddlpaa", sum := "1e25261a8b8d5a01c3feb69ad5f79cec3b9fe0d750e893b45c968b27bfcddefc", func := "pyx/pyxlaw17.TransKnown", spec := "transKnown", unfollowed := true, recurses := true, plainKeys := false, apart := false, narrowed := true }
def TransKnownUptoSaid : Prop := transKnownUptoRow.holds Try.pinned (OpenSpec.upto transKnownSpec)

/-- 'pyxlaw17.TransKinds', WHERE WHAT IT READS IS OF BULK AT MOST 1048576: true; the input reads as it did. -/
def transKindsUptoRow : OpenClaim := { program := "ytbchcjlllddlpaa", sum := "1e25261a8b8d5a01c3feb69ad5f79cec3b9fe0d750e893b45c968b27bfcddefc", func := "pyx/pyxlaw17.TransKinds", spec := "transKinds", unfollowed := true, recurses := true, plainKeys := false, apart := false, narrowed := true }
def TransKindsUptoSaid : Prop := transKindsUptoRow.holds Try.pinned (OpenSpec.upto transKindsSpec)

end Rows
end Go.Proofs.Ytbchcjlllddlpaa
