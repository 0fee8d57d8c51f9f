/-
  No cell of these rows narrows 'for every input' (looked for: loops, veiled, ifaces, maps, wideKeys, modest, calm, conditions, laid).
  DERIVED. THE GIVEN ROWS OF THIS SEAT. 5 by the template 'for every input the law returns true; each argument reads behind the call as it read before'; 0 by the template 'total and deterministic' (their statements: YtgfbcclfajcjnaaTotals.lean).
  GIVEN WITH THE SEED: the statements are not yours to turn. If you find one false, say at which input.
  Laid BY PROGRAM, IN A SANDBOX (cutbox-rows.mjs): the forced cells as the released guide's own fill.sh prints them over the translation f3a954e49950169c… (all of the seat's roots in one cut). By AI agents, Wed Nov 11 2026. No macro, syntax, notation, axiom, sorry.
-/
import Derived.Test.YtgfbcclfajcjnaaChecked
import GoSem.Claim
import GoSem.ClaimJoined
import GoSem.ClaimMapViews
import Derived.JoinedTies
import Derived.KernelRfl
namespace Go.Proofs.Ytgfbcclfajcjnaa
/- THE CELL 'sum', in the pinned program and in every row, IS THE sha256 OF THE DUMP (.gsa) THAT YtgfbcclfajcjnaaProg.lean LOADS. Nothing in Lean hashes anything: it is a label: what it is worth is what the hold of that sum in a sandbox is worth. -/
noncomputable def Try.pinned : Pinned := { name := "ytgfbcclfajcjnaa", sum := "f3a954e49950169c9a5165b2cc4d418b9747ab07b8baa10676021a6f5746371b", checked := Try.checked }
namespace Rows
def none {H : Type} : Left H := { results := [], args := [] }

/-- 'pyxlaw18.InterKnown': WHATEVER THE INPUT: true; the input reads as it did. -/
def interKnownSpec : ChangeSpec := { name := "interKnown", fn := fun _ => fun
  | [] => { results := [.lit (.bool true)], args := [] }
  | _ => none }
def interKnownRow : OpenClaim := { program := "ytgfbcclfajcjnaa", sum := "f3a954e49950169c9a5165b2cc4d418b9747ab07b8baa10676021a6f5746371b", func := "pyx/pyxlaw18.InterKnown", spec := "interKnown", unfollowed := true, recurses := true, plainKeys := false, apart := false }
def InterKnownSaid : Prop := interKnownRow.holds Try.pinned (OpenSpec.ofChange interKnownSpec)

/-- ITS FALSE NEIGHBOUR: 'it returns false'. Refute it at one input. -/
def interKnownWrong : ChangeSpec := { name := "interKnown", fn := fun _ => fun
  | [] => { results := [.lit (.bool false)], args := [] }
  | _ => none }
def InterKnownWrongFalsely : Prop := interKnownRow.holds Try.pinned (OpenSpec.ofChange interKnownWrong)

/-- 'pyxlaw18.InterTells': WHATEVER THE INPUT: true; the input reads as it did. -/
def interTellsSpec : ChangeSpec := { name := "interTells", fn := fun _ => fun
  | [d1, d2, d3, d4] => { results := [.lit (.bool true)], args := [d1, d2, d3, d4] }
  | _ => none }
def interTellsRow : OpenClaim := { program := "ytgfbcclfajcjnaa", sum := "f3a954e49950169c9a5165b2cc4d418b9747ab07b8baa10676021a6f5746371b", func := "pyx/pyxlaw18.InterTells", spec := "interTells", unfollowed := true, recurses := true, plainKeys := false, apart := false }
def InterTellsSaid : Prop := interTellsRow.holds Try.pinned (OpenSpec.ofChange interTellsSpec)

/-- ITS FALSE NEIGHBOUR: 'it returns false'. Refute it at one input. -/
def interTellsWrong : ChangeSpec := { name := "interTells", fn := fun _ => fun
  | [d1, d2, d3, d4] => { results := [.lit (.bool false)], args := [d1, d2, d3, d4] }
  | _ => none }
def InterTellsWrongFalsely : Prop := interTellsRow.holds Try.pinned (OpenSpec.ofChange interTellsWrong)

/-- 'pyxlaw18.InterEach': WHATEVER THE INPUT: true; the input reads as it did. -/
def interEachSpec : ChangeSpec := { name := "interEach", fn := fun _ => fun
  | [d1, d2] => { results := [.lit (.bool true)], args := [d1, d2] }
  | _ => none }
def interEachRow : OpenClaim := { program := "ytgfbcclfajcjnaa", sum := "f3a954e49950169c9a5165b2cc4d418b9747ab07b8baa10676021a6f5746371b", func := "pyx/pyxlaw18.InterEach", spec := "interEach", unfollowed := true, recurses := true, plainKeys := false, apart := false }
def InterEachSaid : Prop := interEachRow.holds Try.pinned (OpenSpec.ofChange interEachSpec)

/-- ITS FALSE NEIGHBOUR: 'it returns false'. Refute it at one input. -/
def interEachWrong : ChangeSpec := { name := "interEach", fn := fun _ => fun
  | [d1, d2] => { results := [.lit (.bool false)], args := [d1, d2] }
  | _ => none }
def InterEachWrongFalsely : Prop := interEachRow.holds Try.pinned (OpenSpec.ofChange interEachWrong)

/-- 'pyxlaw18.InterMore': WHATEVER THE INPUT: true; the input reads as it did. -/
def interMoreSpec : ChangeSpec := { name := "interMore", fn := fun _ => fun
  | [d1, d2, d3] => { results := [.lit (.bool true)], args := [d1, d2, d3] }
  | _ => none }
def interMoreRow : OpenClaim := { program := "ytgfbcclfajcjnaa", sum := "f3a954e49950169c9a5165b2cc4d418b9747ab07b8baa10676021a6f5746371b", func := "pyx/pyxlaw18.InterMore", spec := "interMore", unfollowed := true, recurses := true, plainKeys := false, apart := false }
def InterMoreSaid : Prop := interMoreRow.holds Try.pinned (OpenSpec.ofChange interMoreSpec)

/-- ITS FALSE NEIGHBOUR: 'it returns false'. Refute it at one input. -/
def interMoreWrong : ChangeSpec := { name := "interMore", fn := fun _ => fun
  | [d1, d2, d3] => { results := [.lit (.bool false)], args := [d1, d2, d3] }
  | _ => none }
def InterMoreWrongFalsely : Prop := interMoreRow.holds Try.pinned (OpenSpec.ofChange interMoreWrong)

/-- 'pyxlaw18.InterAlike': WHATEVER THE INPUT: true; the input reads as it did. -/
def interAlikeSpec : ChangeSpec := { name := "interAlike", fn := fun _ => fun
  | [d1, d2] => { results := [.lit (.bool true)], args := [d1, d2] }
  | _ => none }
def interAlikeRow : OpenClaim := { program := "ytgfbcclfajcjnaa", sum := "f3a954e49950169c9a5165b2cc4d418b9747ab07b8baa10676021a6f5746371b", func := "pyx/pyxlaw18.InterAlike", spec := "interAlike", unfollowed := true, recurses := true, plainKeys := false, apart := false }
def InterAlikeSaid : Prop := interAlikeRow.holds Try.pinned (OpenSpec.ofChange interAlikeSpec)

/-- ITS FALSE NEIGHBOUR: 'it returns false'. Refute it at one input. -/
def interAlikeWrong : ChangeSpec := { name := "interAlike", fn := fun _ => fun
  | [d1, d2] => { results := [.lit (.bool false)], args := [d1, d2] }
  | _ => none }
def InterAlikeWrongFalsely : Prop := interAlikeRow.holds Try.pinned (OpenSpec.ofChange interAlikeWrong)

/- THE SECOND FORM. 'bulk': how many values and letters a reading holds, each counted each time it is reached (what is shared counts as often as it is met; a slice's spare places count too). A statement '..UptoSaid' is the law's where the arguments, and the package variables that the reading takes, are together of bulk at most 1048576: NARROWER than '..Said'. Prove '..Said' where nothing that the law and all that it calls make is longer than what came in: it says more and counts as full. Else prove '..UptoSaid'. A law counts once. -/
mutual
def uptoBulk {H : Type} : DataW H → Nat
  | .lit (.string bytes) => bytes.length + 1
  | .lit _ => 1
  | .nil => 1
  | .ptr d => uptoBulk d + 1
  | .slice elems spare => uptoBulkAll elems + uptoBulkAll spare + 1
  | .agg parts => uptoBulkAll parts + 1
  | .iface _ d => uptoBulk d + 1
  | .map entries => uptoBulkEntries entries + 1
  | .held _ => 1
def uptoBulkAll {H : Type} : List (DataW H) → Nat
  | [] => 0
  | d :: r => uptoBulk d + uptoBulkAll r
def uptoBulkEntries {H : Type} : List (Lit × DataW H) → Nat
  | [] => 0
  | x :: r => uptoBulkEntry x + uptoBulkEntries r
def uptoBulkEntry {H : Type} : Lit × DataW H → Nat
  | (.string bytes, d) => bytes.length + uptoBulk d + 1
  | (_, d) => uptoBulk d + 1
 end
def uptoSmall : (H : Type) → List (DataW H) → Bool := fun _ ds => decide (uptoBulkAll ds ≤ 1048576)
def OpenSpec.upto (s : _root_.Go.ChangeSpec) : _root_.Go.OpenSpec := { _root_.Go.OpenSpec.ofChange s with cond := some uptoSmall }

/-- 'pyxlaw18.InterKnown', WHERE WHAT IT READS IS OF BULK AT MOST 1048576: true; the input reads as it did. -/
def interKnownUptoRow : OpenClaim := { program := "ytgfbcclfajcjnaa", sum := "f3a954e49950169c9a5165b2cc4d418b9747ab07b8baa10676021a6f5746371b", func := "pyx/pyxlaw18.InterKnown", spec := "interKnown", unfollowed := true, recurses := true, plainKeys := false, apart := false, narrowed := true }
def InterKnownUptoSaid : Prop := interKnownUptoRow.holds Try.pinned (OpenSpec.upto interKnownSpec)

/-- 'pyxlaw18.InterTells', WHERE WHAT IT READS IS OF BULK AT MOST 1048576: true; the input reads as it did. -/
def interTellsUptoRow : OpenClaim := { program := "ytgfbcclfajcjnaa", sum := "f3a954e49950169c9a5165b2cc4d418b9747ab07b8baa10676021a6f5746371b", func := "pyx/pyxlaw18.InterTells", spec := "interTells", unfollowed := true, recurses := true, plainKeys := false, apart := false, narrowed := true }
def InterTellsUptoSaid : Prop := interTellsUptoRow.holds Try.pinned (OpenSpec.upto interTellsSpec)

/-- 'pyxlaw18.InterEach', WHERE WHAT IT READS IS OF BULK AT MOST 1048576: true; the input reads as it did. -/
def interEachUptoRow : OpenClaim := { program := "ytgfbcclfajcjnaa", sum := "f3a954e49950169c9a5165b2cc4d418b9747ab07b8baa10676021a6f5746371b", func := "pyx/pyxlaw18.InterEach", spec := "interEach", unfollowed := true, recurses := true, plainKeys := false, apart := false, narrowed := true }
def InterEachUptoSaid : Prop := interEachUptoRow.holds Try.pinned (OpenSpec.upto interEachSpec)

/-- 'pyxlaw18.InterMore', WHERE WHAT IT READS IS OF BULK AT MOST 1048576: true; the input reads as it did. -/
def interMoreUptoRow : OpenClaim := { program := "ytgfbcclfajcjnaa", sum := "f3a954e49950169c9a5165b2cc4d418b9747ab07b8baa10676021a6f5746371b", func := "pyx/pyxlaw18.InterMore", spec := "interMore", unfollowed := true, recurses := true, plainKeys := false, apart := false, narrowed := true }
def InterMoreUptoSaid : Prop := interMoreUptoRow.holds Try.pinned (OpenSpec.upto interMoreSpec)

/-- 'pyxlaw18.InterAlike', WHERE WHAT IT READS IS OF BULK AT MOST 1048576: true; the input reads as it did. -/
def interAlikeUptoRow : OpenClaim := { program := "ytgfbcclfajcjnaa", sum := "f3a954e49950169c9a5165b2cc4d418b9747ab07b8baa10676021a6f5746371b", func := "pyx/pyxlaw18.InterAlike", spec := "interAlike", unfollowed := true, recurses := true, plainKeys := false, apart := false, narrowed := true }
def InterAlikeUptoSaid : Prop := interAlikeUptoRow.holds Try.pinned (OpenSpec.upto interAlikeSpec)

end Rows
end Go.Proofs.Ytgfbcclfajcjnaa
