/-
  No cell of these rows narrows 'for every input' (looked for: loops, veiled, ifaces, maps, wideKeys, modest, calm, conditions, laid).
  DERIVED. THE GIVEN ROWS OF THIS SEAT. 12 by the template 'for every input the law returns true; each argument reads behind the call as it read before'; 0 by the template 'total and deterministic' (their statements: YtlaogfkgkpgofaaTotals.lean).
  GIVEN WITH THE SEED: the statements are not yours to turn. If you find one false, say at which input.
  Laid BY PROGRAM, IN A SANDBOX (cutbox-rows.mjs): the forced cells as the released guide's own fill.sh prints them over the translation 05568eefc6cca093… (all of the seat's roots in one cut). By AI agents, Wed Nov 11 2026. No macro, syntax, notation, axiom, sorry.
-/
import Derived.Test.YtlaogfkgkpgofaaChecked
import GoSem.Claim
import GoSem.ClaimJoined
import GoSem.ClaimMapViews
import Derived.JoinedTies
import Derived.KernelRfl
namespace Go.Proofs.Ytlaogfkgkpgofaa
/- THE CELL 'sum', in the pinned program and in every row, IS THE sha256 OF THE DUMP (.gsa) THAT YtlaogfkgkpgofaaProg.lean LOADS. Nothing in Lean hashes anything: it is a label: what it is worth is what the hold of that sum in a sandbox is worth. -/
noncomputable def Try.pinned : Pinned := { name := "ytlaogfkgkpgofaa", sum := "05568eefc6cca093ea351dbc904e6097fb618380ca1b6915c3e4ea66ae4455f0", checked := Try.checked }
namespace Rows
def none {H : Type} : Left H := { results := [], args := [] }

/-- 'pyxlaw25.GateKnown': WHATEVER THE INPUT: true; the input reads as it did. -/
def gateKnownSpec : ChangeSpec := { name := "gateKnown", fn := fun _ => fun
  | [] => { results := [.lit (.bool true)], args := [] }
  | _ => none }
def gateKnownRow : OpenClaim := { program := "ytlaogfkgkpgofaa", sum := "05568eefc6cca093ea351dbc904e6097fb618380ca1b6915c3e4ea66ae4455f0", func := "pyx/pyxlaw25.GateKnown", spec := "gateKnown", plainKeys := false, apart := false }
def GateKnownSaid : Prop := gateKnownRow.holds Try.pinned (OpenSpec.ofChange gateKnownSpec)

/-- ITS FALSE NEIGHBOUR: 'it returns false'. Refute it at one input. -/
def gateKnownWrong : ChangeSpec := { name := "gateKnown", fn := fun _ => fun
  | [] => { results := [.lit (.bool false)], args := [] }
  | _ => none }
def GateKnownWrongFalsely : Prop := gateKnownRow.holds Try.pinned (OpenSpec.ofChange gateKnownWrong)

/-- 'pyxlaw25.GateTells': WHATEVER THE INPUT: true; the input reads as it did. -/
def gateTellsSpec : ChangeSpec := { name := "gateTells", fn := fun _ => fun
  | [d1, d2, d3] => { results := [.lit (.bool true)], args := [d1, d2, d3] }
  | _ => none }
def gateTellsRow : OpenClaim := { program := "ytlaogfkgkpgofaa", sum := "05568eefc6cca093ea351dbc904e6097fb618380ca1b6915c3e4ea66ae4455f0", func := "pyx/pyxlaw25.GateTells", spec := "gateTells", plainKeys := false, apart := false }
def GateTellsSaid : Prop := gateTellsRow.holds Try.pinned (OpenSpec.ofChange gateTellsSpec)

/-- ITS FALSE NEIGHBOUR: 'it returns false'. Refute it at one input. -/
def gateTellsWrong : ChangeSpec := { name := "gateTells", fn := fun _ => fun
  | [d1, d2, d3] => { results := [.lit (.bool false)], args := [d1, d2, d3] }
  | _ => none }
def GateTellsWrongFalsely : Prop := gateTellsRow.holds Try.pinned (OpenSpec.ofChange gateTellsWrong)

/-- 'pyxlaw14.LedgerOwn': WHATEVER THE INPUT: true; the input reads as it did. -/
def ledgerOwnSpec : ChangeSpec := { name := "ledgerOwn", fn := fun _ => fun
  | [d1, d2] => { results := [.lit (.bool true)], args := [d1, d2] }
  | _ => none }
def ledgerOwnRow : OpenClaim := { program := "ytlaogfkgkpgofaa", sum := "05568eefc6cca093ea351dbc904e6097fb618380ca1b6915c3e4ea66ae4455f0", func := "pyx/pyxlaw14.LedgerOwn", spec := "ledgerOwn", plainKeys := false, apart := false }
def LedgerOwnSaid : Prop := ledgerOwnRow.holds Try.pinned (OpenSpec.ofChange ledgerOwnSpec)

/-- ITS FALSE NEIGHBOUR: 'it returns false'. Refute it at one input. -/
def ledgerOwnWrong : ChangeSpec := { name := "ledgerOwn", fn := fun _ => fun
  | [d1, d2] => { results := [.lit (.bool false)], args := [d1, d2] }
  | _ => none }
def LedgerOwnWrongFalsely : Prop := ledgerOwnRow.holds Try.pinned (OpenSpec.ofChange ledgerOwnWrong)

/-- 'pyxlaw14.LedgerEven': WHATEVER THE INPUT: true; the input reads as it did. -/
def ledgerEvenSpec : ChangeSpec := { name := "ledgerEven", fn := fun _ => fun
  | [d] => { results := [.lit (.bool true)], args := [d] }
  | _ => none }
def ledgerEvenRow : OpenClaim := { program := "ytlaogfkgkpgofaa", sum := "05568eefc6cca093ea351dbc904e6097fb618380ca1b6915c3e4ea66ae4455f0", func := "pyx/pyxlaw14.LedgerEven", spec := "ledgerEven", unfollowed := true, recurses := true, plainKeys := false, apart := false }
def LedgerEvenSaid : Prop := ledgerEvenRow.holds Try.pinned (OpenSpec.ofChange ledgerEvenSpec)

/-- ITS FALSE NEIGHBOUR: 'it returns false'. Refute it at one input. -/
def ledgerEvenWrong : ChangeSpec := { name := "ledgerEven", fn := fun _ => fun
  | [d] => { results := [.lit (.bool false)], args := [d] }
  | _ => none }
def LedgerEvenWrongFalsely : Prop := ledgerEvenRow.holds Try.pinned (OpenSpec.ofChange ledgerEvenWrong)

/-- 'pyxlaw14.LedgerTells': WHATEVER THE INPUT: true; the input reads as it did. -/
def ledgerTellsSpec : ChangeSpec := { name := "ledgerTells", fn := fun _ => fun
  | [d1, d2] => { results := [.lit (.bool true)], args := [d1, d2] }
  | _ => none }
def ledgerTellsRow : OpenClaim := { program := "ytlaogfkgkpgofaa", sum := "05568eefc6cca093ea351dbc904e6097fb618380ca1b6915c3e4ea66ae4455f0", func := "pyx/pyxlaw14.LedgerTells", spec := "ledgerTells", unfollowed := true, recurses := true, plainKeys := false, apart := false }
def LedgerTellsSaid : Prop := ledgerTellsRow.holds Try.pinned (OpenSpec.ofChange ledgerTellsSpec)

/-- ITS FALSE NEIGHBOUR: 'it returns false'. Refute it at one input. -/
def ledgerTellsWrong : ChangeSpec := { name := "ledgerTells", fn := fun _ => fun
  | [d1, d2] => { results := [.lit (.bool false)], args := [d1, d2] }
  | _ => none }
def LedgerTellsWrongFalsely : Prop := ledgerTellsRow.holds Try.pinned (OpenSpec.ofChange ledgerTellsWrong)

/-- 'pyxlaw14.LedgerShut': WHATEVER THE INPUT: true; the input reads as it did. -/
def ledgerShutSpec : ChangeSpec := { name := "ledgerShut", fn := fun _ => fun
  | [d] => { results := [.lit (.bool true)], args := [d] }
  | _ => none }
def ledgerShutRow : OpenClaim := { program := "ytlaogfkgkpgofaa", sum := "05568eefc6cca093ea351dbc904e6097fb618380ca1b6915c3e4ea66ae4455f0", func := "pyx/pyxlaw14.LedgerShut", spec := "ledgerShut", unfollowed := true, recurses := true, plainKeys := false, apart := false }
def LedgerShutSaid : Prop := ledgerShutRow.holds Try.pinned (OpenSpec.ofChange ledgerShutSpec)

/-- ITS FALSE NEIGHBOUR: 'it returns false'. Refute it at one input. -/
def ledgerShutWrong : ChangeSpec := { name := "ledgerShut", fn := fun _ => fun
  | [d] => { results := [.lit (.bool false)], args := [d] }
  | _ => none }
def LedgerShutWrongFalsely : Prop := ledgerShutRow.holds Try.pinned (OpenSpec.ofChange ledgerShutWrong)

/-- 'pyxlaw25.GateOnce': WHATEVER THE INPUT: true; the input reads as it did. -/
def gateOnceSpec : ChangeSpec := { name := "gateOnce", fn := fun _ => fun
  | [d1, d2, d3, d4, d5] => { results := [.lit (.bool true)], args := [d1, d2, d3, d4, d5] }
  | _ => none }
def gateOnceRow : OpenClaim := { program := "ytlaogfkgkpgofaa", sum := "05568eefc6cca093ea351dbc904e6097fb618380ca1b6915c3e4ea66ae4455f0", func := "pyx/pyxlaw25.GateOnce", spec := "gateOnce", plainKeys := false, apart := false }
def GateOnceSaid : Prop := gateOnceRow.holds Try.pinned (OpenSpec.ofChange gateOnceSpec)

/-- ITS FALSE NEIGHBOUR: 'it returns false'. Refute it at one input. -/
def gateOnceWrong : ChangeSpec := { name := "gateOnce", fn := fun _ => fun
  | [d1, d2, d3, d4, d5] => { results := [.lit (.bool false)], args := [d1, d2, d3, d4, d5] }
  | _ => none }
def GateOnceWrongFalsely : Prop := gateOnceRow.holds Try.pinned (OpenSpec.ofChange gateOnceWrong)

/-- 'pyxlaw14.LedgerKnown': WHATEVER THE INPUT: true; the input reads as it did. -/
def ledgerKnownSpec : ChangeSpec := { name := "ledgerKnown", fn := fun _ => fun
  | [] => { results := [.lit (.bool true)], args := [] }
  | _ => none }
def ledgerKnownRow : OpenClaim := { program := "ytlaogfkgkpgofaa", sum := "05568eefc6cca093ea351dbc904e6097fb618380ca1b6915c3e4ea66ae4455f0", func := "pyx/pyxlaw14.LedgerKnown", spec := "ledgerKnown", unfollowed := true, recurses := true, plainKeys := false, apart := false }
def LedgerKnownSaid : Prop := ledgerKnownRow.holds Try.pinned (OpenSpec.ofChange ledgerKnownSpec)

/-- ITS FALSE NEIGHBOUR: 'it returns false'. Refute it at one input. -/
def ledgerKnownWrong : ChangeSpec := { name := "ledgerKnown", fn := fun _ => fun
  | [] => { results := [.lit (.bool false)], args := [] }
  | _ => none }
def LedgerKnownWrongFalsely : Prop := ledgerKnownRow.holds Try.pinned (OpenSpec.ofChange ledgerKnownWrong)

/-- 'pyxlaw16.RateKnown': WHATEVER THE INPUT: true; the input reads as it did. -/
def rateKnownSpec : ChangeSpec := { name := "rateKnown", fn := fun _ => fun
  | [] => { results := [.lit (.bool true)], args := [] }
  | _ => none }
def rateKnownRow : OpenClaim := { program := "ytlaogfkgkpgofaa", sum := "05568eefc6cca093ea351dbc904e6097fb618380ca1b6915c3e4ea66ae4455f0", func := "pyx/pyxlaw16.RateKnown", spec := "rateKnown", unfollowed := true, recurses := true, plainKeys := false, apart := false }
def RateKnownSaid : Prop := rateKnownRow.holds Try.pinned (OpenSpec.ofChange rateKnownSpec)

/-- ITS FALSE NEIGHBOUR: 'it returns false'. Refute it at one input. -/
def rateKnownWrong : ChangeSpec := { name := "rateKnown", fn := fun _ => fun
  | [] => { results := [.lit (.bool false)], args := [] }
  | _ => none }
def RateKnownWrongFalsely : Prop := rateKnownRow.holds Try.pinned (OpenSpec.ofChange rateKnownWrong)

/-- 'pyxlaw16.RateTells': WHATEVER THE INPUT: true; the input reads as it did. -/
def rateTellsSpec : ChangeSpec := { name := "rateTells", fn := fun _ => fun
  | [d1, d2, d3] => { results := [.lit (.bool true)], args := [d1, d2, d3] }
  | _ => none }
def rateTellsRow : OpenClaim := { program := "ytlaogfkgkpgofaa", sum := "05568eefc6cca093ea351dbc904e6097fb618380ca1b6915c3e4ea66ae4455f0", func := "pyx/pyxlaw16.RateTells", spec := "rateTells", unfollowed := true, recurses := true, plainKeys := false, apart := false }
def RateTellsSaid : Prop := rateTellsRow.holds Try.pinned (OpenSpec.ofChange rateTellsSpec)

/-- ITS FALSE NEIGHBOUR: 'it returns false'. Refute it at one input. -/
def rateTellsWrong : ChangeSpec := { name := "rateTells", fn := fun _ => fun
  | [d1, d2, d3] => { results := [.lit (.bool false)], args := [d1, d2, d3] }
  | _ => none }
def RateTellsWrongFalsely : Prop := rateTellsRow.holds Try.pinned (OpenSpec.ofChange rateTellsWrong)

/-- 'pyxlaw16.RateLast': WHATEVER THE INPUT: true; the input reads as it did. -/
def rateLastSpec : ChangeSpec := { name := "rateLast", fn := fun _ => fun
  | [d1, d2, d3, d4] => { results := [.lit (.bool true)], args := [d1, d2, d3, d4] }
  | _ => none }
def rateLastRow : OpenClaim := { program := "ytlaogfkgkpgofaa", sum := "05568eefc6cca093ea351dbc904e6097fb618380ca1b6915c3e4ea66ae4455f0", func := "pyx/pyxlaw16.RateLast", spec := "rateLast", unfollowed := true, recurses := true, plainKeys := false, apart := false }
def RateLastSaid : Prop := rateLastRow.holds Try.pinned (OpenSpec.ofChange rateLastSpec)

/-- ITS FALSE NEIGHBOUR: 'it returns false'. Refute it at one input. -/
def rateLastWrong : ChangeSpec := { name := "rateLast", fn := fun _ => fun
  | [d1, d2, d3, d4] => { results := [.lit (.bool false)], args := [d1, d2, d3, d4] }
  | _ => none }
def RateLastWrongFalsely : Prop := rateLastRow.holds Try.pinned (OpenSpec.ofChange rateLastWrong)

/-- 'pyxlaw16.RateKeys': WHATEVER THE INPUT: true; the input reads as it did. -/
def rateKeysSpec : ChangeSpec := { name := "rateKeys", fn := fun _ => fun
  | [d] => { results := [.lit (.bool true)], args := [d] }
  | _ => none }
def rateKeysRow : OpenClaim := { program := "ytlaogfkgkpgofaa", sum := "05568eefc6cca093ea351dbc904e6097fb618380ca1b6915c3e4ea66ae4455f0", func := "pyx/pyxlaw16.RateKeys", spec := "rateKeys", unfollowed := true, recurses := true, plainKeys := false, apart := false }
def RateKeysSaid : Prop := rateKeysRow.holds Try.pinned (OpenSpec.ofChange rateKeysSpec)

/-- ITS FALSE NEIGHBOUR: 'it returns false'. Refute it at one input. -/
def rateKeysWrong : ChangeSpec := { name := "rateKeys", fn := fun _ => fun
  | [d] => { results := [.lit (.bool false)], args := [d] }
  | _ => none }
def RateKeysWrongFalsely : Prop := rateKeysRow.holds Try.pinned (OpenSpec.ofChange rateKeysWrong)

/- THE SECOND FORM. 'bulk': how many values and letters a reading holds, each counted each time it is reached (what is shared counts as often as it is met; a slice's spare places count too). A statement '..UptoSaid' is the law's where the arguments, and the package variables that the reading takes, are together of bulk at most 1048576: NARROWER than '..Said'. Prove '..Said' where nothing that the law and all that it calls make is longer than what came in: it says more and counts as full. Else prove '..UptoSaid'. A law counts once. -/
mutual
def uptoBulk {H : Type} : DataW H → Nat
  | .lit (.string bytes) => bytes.length + 1
  | .lit _ => 1
  | .nil => 1
  | .ptr d => uptoBulk d + 1
  | .slice elems spare => uptoBulkAll elems + uptoBulkAll spare + 1
  | .agg parts => uptoBulkAll parts + 1
  | .iface _ d => uptoBulk d + 1
  | .map entries => uptoBulkEntries entries + 1
  | .held _ => 1
def uptoBulkAll {H : Type} : List (DataW H) → Nat
  | [] => 0
  | d :: r => uptoBulk d + uptoBulkAll r
def uptoBulkEntries {H : Type} : List (Lit × DataW H) → Nat
  | [] => 0
  | x :: r => uptoBulkEntry x + uptoBulkEntries r
def uptoBulkEntry {H : Type} : Lit × DataW H → Nat
  | (.string bytes, d) => bytes.length + uptoBulk d + 1
  | (_, d) => uptoBulk d + 1
 end
def uptoSmall : (H : Type) → List (DataW H) → Bool := fun _ ds => decide (uptoBulkAll ds ≤ 1048576)
def OpenSpec.upto (s : _root_.Go.ChangeSpec) : _root_.Go.OpenSpec := { _root_.Go.OpenSpec.ofChange s with cond := some uptoSmall }

/-- 'pyxlaw25.GateKnown', WHERE WHAT IT READS IS OF BULK AT MOST 1048576: true; the input reads as it did. -/
def gateKnownUptoRow : OpenClaim := { program := "ytlaogfkgkpgofaa", sum := "05568eefc6cca093ea351dbc904e6097fb618380ca1b6915c3e4ea66ae4455f0", func := "pyx/pyxlaw25.GateKnown", spec := "gateKnown", plainKeys := false, apart := false, narrowed := true }
def GateKnownUptoSaid : Prop := gateKnownUptoRow.holds Try.pinned (OpenSpec.upto gateKnownSpec)

/-- 'pyxlaw25.GateTells', WHERE WHAT IT READS IS OF BULK AT MOST 1048576: true; the input reads as it did. -/
def gateTellsUptoRow : OpenClaim := { program := "ytlaogfkgkpgofaa", sum := "05568eefc6cca093ea351dbc904e6097fb618380ca1b6915c3e4ea66ae4455f0", func := "pyx/pyxlaw25.GateTells", spec := "gateTells", plainKeys := false, apart := false, narrowed := true }
def GateTellsUptoSaid : Prop := gateTellsUptoRow.holds Try.pinned (OpenSpec.upto gateTellsSpec)

/-- 'pyxlaw14.LedgerOwn', WHERE WHAT IT READS IS OF BULK AT MOST 1048576: true; the input reads as it did. -/
def ledgerOwnUptoRow : OpenClaim := { program := "ytlaogfkgkpgofaa", sum := "05568eefc6cca093ea351dbc904e6097fb618380ca1b6915c3e4ea66ae4455f0", func := "pyx/pyxlaw14.LedgerOwn", spec := "ledgerOwn", plainKeys := false, apart := false, narrowed := true }
def LedgerOwnUptoSaid : Prop := ledgerOwnUptoRow.holds Try.pinned (OpenSpec.upto ledgerOwnSpec)

/-- 'pyxlaw14.LedgerEven', WHERE WHAT IT READS IS OF BULK AT MOST 1048576: true; the input reads as it did. -/
def ledgerEvenUptoRow : OpenClaim := { program := "ytlaogfkgkpgofaa", sum := "05568eefc6cca093ea351dbc904e6097fb618380ca1b6915c3e4ea66ae4455f0", func := "pyx/pyxlaw14.LedgerEven", spec := "ledgerEven", unfollowed := true, recurses := true, plainKeys := false, apart := false, narrowed := true }
def LedgerEvenUptoSaid : Prop := ledgerEvenUptoRow.holds Try.pinned (OpenSpec.upto ledgerEvenSpec)

/-- 'pyxlaw14.LedgerTells', WHERE WHAT IT READS IS OF BULK AT MOST 1048576: true; the input reads as it did. -/
def ledgerTellsUptoRow : OpenClaim := { program := "ytlaogfkgkpgofaa", sum := "05568eefc6cca093ea351dbc904e6097fb618380ca1b6915c3e4ea66ae4455f0", func := "pyx/pyxlaw14.LedgerTells", spec := "ledgerTells", unfollowed := true, recurses := true, plainKeys := false, apart := false, narrowed := true }
def LedgerTellsUptoSaid : Prop := ledgerTellsUptoRow.holds Try.pinned (OpenSpec.upto ledgerTellsSpec)

/-- 'pyxlaw14.LedgerShut', WHERE WHAT IT READS IS OF BULK AT MOST 1048576: true; the input reads as it did. -/
def ledgerShutUptoRow : OpenClaim := { program := "ytlaogfkgkpgofaa", sum := "05568eefc6cca093ea351dbc904e6097fb618380ca1b6915c3e4ea66ae4455f0", func := "pyx/pyxlaw14.LedgerShut", spec := "ledgerShut", unfollowed := true, recurses := true, plainKeys := false, apart := false, narrowed := true }
def LedgerShutUptoSaid : Prop := ledgerShutUptoRow.holds Try.pinned (OpenSpec.upto ledgerShutSpec)

/-- 'pyxlaw25.GateOnce', WHERE WHAT IT READS IS OF BULK AT MOST 1048576: true; the input reads as it did. -/
def gateOnceUptoRow : OpenClaim := { program := "ytlaogfkgkpgofaa", sum := "05568eefc6cca093ea351dbc904e6097fb618380ca1b6915c3e4ea66ae4455f0", func := "pyx/pyxlaw25.GateOnce", spec := "gateOnce", plainKeys := false, apart := false, narrowed := true }
def GateOnceUptoSaid : Prop := gateOnceUptoRow.holds Try.pinned (OpenSpec.upto gateOnceSpec)

/-- 'pyxlaw14.LedgerKnown', WHERE WHAT IT READS IS OF BULK AT MOST 1048576: true; the input reads as it did. -/
def ledgerKnownUptoRow : OpenClaim := { program := "ytlaogfkgkpgofaa", sum := "05568eefc6cca093ea351dbc904e6097fb618380ca1b6915c3e4ea66ae4455f0", func := "pyx/pyxlaw14.LedgerKnown", spec := "ledgerKnown", unfollowed := true, recurses := true, plainKeys := false, apart := false, narrowed := true }
def LedgerKnownUptoSaid : Prop := ledgerKnownUptoRow.holds Try.pinned (OpenSpec.upto ledgerKnownSpec)

/-- 'pyxlaw16.RateKnown', WHERE WHAT IT READS IS OF BULK AT MOST 1048576: true; the input reads as it did. -/
def rateKnownUptoRow : OpenClaim := { program := "ytlaogfkgkpgofaa", sum := "05568eefc6cca093ea351dbc904e6097fb618380ca1b6915c3e4ea66ae4455f0", func := "pyx/pyxlaw16.RateKnown", spec := "rateKnown", unfollowed := true, recurses := true, plainKeys := false, apart := false, narrowed := true }
def RateKnownUptoSaid : Prop := rateKnownUptoRow.holds Try.pinned (OpenSpec.upto rateKnownSpec)

/-- 'pyxlaw16.RateTells', WHERE WHAT IT READS IS OF BULK AT MOST 1048576: true; the input reads as it did. -/
def rateTellsUptoRow : OpenClaim := { program := "ytlaogfkgkpgofaa", sum := "05568eefc6cca093ea351dbc904e6097fb618380ca1b6915c3e4ea66ae4455f0", func := "pyx/pyxlaw16.RateTells", spec := "rateTells", unfollowed := true, recurses := true, plainKeys := false, apart := false, narrowed := true }
def RateTellsUptoSaid : Prop := rateTellsUptoRow.holds Try.pinned (OpenSpec.upto rateTellsSpec)

/-- 'pyxlaw16.RateLast', WHERE WHAT IT READS IS OF BULK AT MOST 1048576: true; the input reads as it did. -/
def rateLastUptoRow : OpenClaim := { program := "ytlaogfkgkpgofaa", sum := "05568eefc6cca093ea351dbc904e6097fb618380ca1b6915c3e4ea66ae4455f0", func := "pyx/pyxlaw16.RateLast", spec := "rateLast", unfollowed := true, recurses := true, plainKeys := false, apart := false, narrowed := true }
def RateLastUptoSaid : Prop := rateLastUptoRow.holds Try.pinned (OpenSpec.upto rateLastSpec)

/-- 'pyxlaw16.RateKeys', WHERE WHAT IT READS IS OF BULK AT MOST 1048576: true; the input reads as it did. -/
def rateKeysUptoRow : OpenClaim := { program := "ytlaogfkgkpgofaa", sum := "05568eefc6cca093ea351dbc904e6097fb618380ca1b6915c3e4ea66ae4455f0", func := "pyx/pyxlaw16.RateKeys", spec := "rateKeys", unfollowed := true, recurses := true, plainKeys := false, apart := false, narrowed := true }
def RateKeysUptoSaid : Prop := rateKeysUptoRow.holds Try.pinned (OpenSpec.upto rateKeysSpec)

end Rows
end Go.Proofs.Ytlaogfkgkpgofaa
