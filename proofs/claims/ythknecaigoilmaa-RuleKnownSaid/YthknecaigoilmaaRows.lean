/-
  No cell of these rows narrows 'for every input' (looked for: loops, veiled, ifaces, maps, wideKeys, modest, calm, conditions, laid).
  DERIVED. THE GIVEN ROWS OF THIS SEAT. 12 by the template 'for every input the law returns true; each argument reads behind the call as it read before'; 0 by the template 'total and deterministic' (their statements: YthknecaigoilmaaTotals.lean).
  GIVEN WITH THE SEED: the statements are not yours to turn. If you find one false, say at which input.
  Laid BY PROGRAM, IN A SANDBOX (cutbox-rows.mjs): the forced cells as the released guide's own fill.sh prints them over the translation b8fbd0faa422e3b3… (all of the seat's roots in one cut). By AI agents, Wed Nov 11 2026. No macro, syntax, notation, axiom, sorry.
-/
import Derived.Test.YthknecaigoilmaaChecked
import GoSem.Claim
import GoSem.ClaimJoined
import GoSem.ClaimMapViews
import Derived.JoinedTies
import Derived.KernelRfl
namespace Go.Proofs.Ythknecaigoilmaa
/- THE CELL 'sum', in the pinned program and in every row, IS THE sha256 OF THE DUMP (.gsa) THAT YthknecaigoilmaaProg.lean LOADS. Nothing in Lean hashes anything: it is a label: what it is worth is what the hold of that sum in a sandbox is worth. -/
noncomputable def Try.pinned : Pinned := { name := "ythknecaigoilmaa", sum := "b8fbd0faa422e3b3f902e694b005b6f298f1fc26bf01fa2dafd2f5522f2f8717", checked := Try.checked }
namespace Rows
def none {H : Type} : Left H := { results := [], args := [] }

/-- 'pyxlaw1.LimbAdds': WHATEVER THE INPUT: true; the input reads as it did. -/
def limbAddsSpec : ChangeSpec := { name := "limbAdds", fn := fun _ => fun
  | [d1, d2, d3, d4, d5, d6] => { results := [.lit (.bool true)], args := [d1, d2, d3, d4, d5, d6] }
  | _ => none }
def limbAddsRow : OpenClaim := { program := "ythknecaigoilmaa", sum := "b8fbd0faa422e3b3f902e694b005b6f298f1fc26bf01fa2dafd2f5522f2f8717", func := "pyx/pyxlaw1.LimbAdds", spec := "limbAdds", apart := false }
def LimbAddsSaid : Prop := limbAddsRow.holds Try.pinned (OpenSpec.ofChange limbAddsSpec)

/-- ITS FALSE NEIGHBOUR: 'it returns false'. Refute it at one input. -/
def limbAddsWrong : ChangeSpec := { name := "limbAdds", fn := fun _ => fun
  | [d1, d2, d3, d4, d5, d6] => { results := [.lit (.bool false)], args := [d1, d2, d3, d4, d5, d6] }
  | _ => none }
def LimbAddsWrongFalsely : Prop := limbAddsRow.holds Try.pinned (OpenSpec.ofChange limbAddsWrong)

/-- 'pyxlaw1.LimbShifts': WHATEVER THE INPUT: true; the input reads as it did. -/
def limbShiftsSpec : ChangeSpec := { name := "limbShifts", fn := fun _ => fun
  | [d1, d2, d3, d4] => { results := [.lit (.bool true)], args := [d1, d2, d3, d4] }
  | _ => none }
def limbShiftsRow : OpenClaim := { program := "ythknecaigoilmaa", sum := "b8fbd0faa422e3b3f902e694b005b6f298f1fc26bf01fa2dafd2f5522f2f8717", func := "pyx/pyxlaw1.LimbShifts", spec := "limbShifts", apart := false }
def LimbShiftsSaid : Prop := limbShiftsRow.holds Try.pinned (OpenSpec.ofChange limbShiftsSpec)

/-- ITS FALSE NEIGHBOUR: 'it returns false'. Refute it at one input. -/
def limbShiftsWrong : ChangeSpec := { name := "limbShifts", fn := fun _ => fun
  | [d1, d2, d3, d4] => { results := [.lit (.bool false)], args := [d1, d2, d3, d4] }
  | _ => none }
def LimbShiftsWrongFalsely : Prop := limbShiftsRow.holds Try.pinned (OpenSpec.ofChange limbShiftsWrong)

/-- 'pyxlaw1.LimbDivides': WHATEVER THE INPUT: true; the input reads as it did. -/
def limbDividesSpec : ChangeSpec := { name := "limbDivides", fn := fun _ => fun
  | [d1, d2, d3, d4, d5, d6] => { results := [.lit (.bool true)], args := [d1, d2, d3, d4, d5, d6] }
  | _ => none }
def limbDividesRow : OpenClaim := { program := "ythknecaigoilmaa", sum := "b8fbd0faa422e3b3f902e694b005b6f298f1fc26bf01fa2dafd2f5522f2f8717", func := "pyx/pyxlaw1.LimbDivides", spec := "limbDivides", apart := false }
def LimbDividesSaid : Prop := limbDividesRow.holds Try.pinned (OpenSpec.ofChange limbDividesSpec)

/-- ITS FALSE NEIGHBOUR: 'it returns false'. Refute it at one input. -/
def limbDividesWrong : ChangeSpec := { name := "limbDivides", fn := fun _ => fun
  | [d1, d2, d3, d4, d5, d6] => { results := [.lit (.bool false)], args := [d1, d2, d3, d4, d5, d6] }
  | _ => none }
def LimbDividesWrongFalsely : Prop := limbDividesRow.holds Try.pinned (OpenSpec.ofChange limbDividesWrong)

/-- 'pyxlaw1.LimbTens': WHATEVER THE INPUT: true; the input reads as it did. -/
def limbTensSpec : ChangeSpec := { name := "limbTens", fn := fun _ => fun
  | [d1, d2, d3] => { results := [.lit (.bool true)], args := [d1, d2, d3] }
  | _ => none }
def limbTensRow : OpenClaim := { program := "ythknecaigoilmaa", sum := "b8fbd0faa422e3b3f902e694b005b6f298f1fc26bf01fa2dafd2f5522f2f8717", func := "pyx/pyxlaw1.LimbTens", spec := "limbTens", apart := false }
def LimbTensSaid : Prop := limbTensRow.holds Try.pinned (OpenSpec.ofChange limbTensSpec)

/-- ITS FALSE NEIGHBOUR: 'it returns false'. Refute it at one input. -/
def limbTensWrong : ChangeSpec := { name := "limbTens", fn := fun _ => fun
  | [d1, d2, d3] => { results := [.lit (.bool false)], args := [d1, d2, d3] }
  | _ => none }
def LimbTensWrongFalsely : Prop := limbTensRow.holds Try.pinned (OpenSpec.ofChange limbTensWrong)

/-- 'pyxlaw1.LimbKnown': WHATEVER THE INPUT: true; the input reads as it did. -/
def limbKnownSpec : ChangeSpec := { name := "limbKnown", fn := fun _ => fun
  | [] => { results := [.lit (.bool true)], args := [] }
  | _ => none }
def limbKnownRow : OpenClaim := { program := "ythknecaigoilmaa", sum := "b8fbd0faa422e3b3f902e694b005b6f298f1fc26bf01fa2dafd2f5522f2f8717", func := "pyx/pyxlaw1.LimbKnown", spec := "limbKnown", apart := false }
def LimbKnownSaid : Prop := limbKnownRow.holds Try.pinned (OpenSpec.ofChange limbKnownSpec)

/-- ITS FALSE NEIGHBOUR: 'it returns false'. Refute it at one input. -/
def limbKnownWrong : ChangeSpec := { name := "limbKnown", fn := fun _ => fun
  | [] => { results := [.lit (.bool false)], args := [] }
  | _ => none }
def LimbKnownWrongFalsely : Prop := limbKnownRow.holds Try.pinned (OpenSpec.ofChange limbKnownWrong)

/-- 'pyxlaw1.LimbTells': WHATEVER THE INPUT: true; the input reads as it did. -/
def limbTellsSpec : ChangeSpec := { name := "limbTells", fn := fun _ => fun
  | [d1, d2, d3, d4, d5, d6, d7, d8] => { results := [.lit (.bool true)], args := [d1, d2, d3, d4, d5, d6, d7, d8] }
  | _ => none }
def limbTellsRow : OpenClaim := { program := "ythknecaigoilmaa", sum := "b8fbd0faa422e3b3f902e694b005b6f298f1fc26bf01fa2dafd2f5522f2f8717", func := "pyx/pyxlaw1.LimbTells", spec := "limbTells", apart := false }
def LimbTellsSaid : Prop := limbTellsRow.holds Try.pinned (OpenSpec.ofChange limbTellsSpec)

/-- ITS FALSE NEIGHBOUR: 'it returns false'. Refute it at one input. -/
def limbTellsWrong : ChangeSpec := { name := "limbTells", fn := fun _ => fun
  | [d1, d2, d3, d4, d5, d6, d7, d8] => { results := [.lit (.bool false)], args := [d1, d2, d3, d4, d5, d6, d7, d8] }
  | _ => none }
def LimbTellsWrongFalsely : Prop := limbTellsRow.holds Try.pinned (OpenSpec.ofChange limbTellsWrong)

/-- 'pyxlaw10.RuleDenies': WHATEVER THE INPUT: true; the input reads as it did. -/
def ruleDeniesSpec : ChangeSpec := { name := "ruleDenies", fn := fun _ => fun
  | [d1, d2, d3, d4, d5, d6, d7] => { results := [.lit (.bool true)], args := [d1, d2, d3, d4, d5, d6, d7] }
  | _ => none }
def ruleDeniesRow : OpenClaim := { program := "ythknecaigoilmaa", sum := "b8fbd0faa422e3b3f902e694b005b6f298f1fc26bf01fa2dafd2f5522f2f8717", func := "pyx/pyxlaw10.RuleDenies", spec := "ruleDenies", unfollowed := true, recurses := true, apart := false }
def RuleDeniesSaid : Prop := ruleDeniesRow.holds Try.pinned (OpenSpec.ofChange ruleDeniesSpec)

/-- ITS FALSE NEIGHBOUR: 'it returns false'. Refute it at one input. -/
def ruleDeniesWrong : ChangeSpec := { name := "ruleDenies", fn := fun _ => fun
  | [d1, d2, d3, d4, d5, d6, d7] => { results := [.lit (.bool false)], args := [d1, d2, d3, d4, d5, d6, d7] }
  | _ => none }
def RuleDeniesWrongFalsely : Prop := ruleDeniesRow.holds Try.pinned (OpenSpec.ofChange ruleDeniesWrong)

/-- 'pyxlaw10.RuleSees': WHATEVER THE INPUT: true; the input reads as it did. -/
def ruleSeesSpec : ChangeSpec := { name := "ruleSees", fn := fun _ => fun
  | [d1, d2, d3, d4, d5] => { results := [.lit (.bool true)], args := [d1, d2, d3, d4, d5] }
  | _ => none }
def ruleSeesRow : OpenClaim := { program := "ythknecaigoilmaa", sum := "b8fbd0faa422e3b3f902e694b005b6f298f1fc26bf01fa2dafd2f5522f2f8717", func := "pyx/pyxlaw10.RuleSees", spec := "ruleSees", unfollowed := true, recurses := true, apart := false }
def RuleSeesSaid : Prop := ruleSeesRow.holds Try.pinned (OpenSpec.ofChange ruleSeesSpec)

/-- ITS FALSE NEIGHBOUR: 'it returns false'. Refute it at one input. -/
def ruleSeesWrong : ChangeSpec := { name := "ruleSees", fn := fun _ => fun
  | [d1, d2, d3, d4, d5] => { results := [.lit (.bool false)], args := [d1, d2, d3, d4, d5] }
  | _ => none }
def RuleSeesWrongFalsely : Prop := ruleSeesRow.holds Try.pinned (OpenSpec.ofChange ruleSeesWrong)

/-- 'pyxlaw10.RuleKnown': WHATEVER THE INPUT: true; the input reads as it did. -/
def ruleKnownSpec : ChangeSpec := { name := "ruleKnown", fn := fun _ => fun
  | [] => { results := [.lit (.bool true)], args := [] }
  | _ => none }
def ruleKnownRow : OpenClaim := { program := "ythknecaigoilmaa", sum := "b8fbd0faa422e3b3f902e694b005b6f298f1fc26bf01fa2dafd2f5522f2f8717", func := "pyx/pyxlaw10.RuleKnown", spec := "ruleKnown", unfollowed := true, recurses := true, apart := false }
def RuleKnownSaid : Prop := ruleKnownRow.holds Try.pinned (OpenSpec.ofChange ruleKnownSpec)

/-- ITS FALSE NEIGHBOUR: 'it returns false'. Refute it at one input. -/
def ruleKnownWrong : ChangeSpec := { name := "ruleKnown", fn := fun _ => fun
  | [] => { results := [.lit (.bool false)], args := [] }
  | _ => none }
def RuleKnownWrongFalsely : Prop := ruleKnownRow.holds Try.pinned (OpenSpec.ofChange ruleKnownWrong)

/-- 'pyxlaw19.OwnKnown': WHATEVER THE INPUT: true; the input reads as it did. -/
def ownKnownSpec : ChangeSpec := { name := "ownKnown", fn := fun _ => fun
  | [] => { results := [.lit (.bool true)], args := [] }
  | _ => none }
def ownKnownRow : OpenClaim := { program := "ythknecaigoilmaa", sum := "b8fbd0faa422e3b3f902e694b005b6f298f1fc26bf01fa2dafd2f5522f2f8717", func := "pyx/pyxlaw19.OwnKnown", spec := "ownKnown", apart := false }
def OwnKnownSaid : Prop := ownKnownRow.holds Try.pinned (OpenSpec.ofChange ownKnownSpec)

/-- ITS FALSE NEIGHBOUR: 'it returns false'. Refute it at one input. -/
def ownKnownWrong : ChangeSpec := { name := "ownKnown", fn := fun _ => fun
  | [] => { results := [.lit (.bool false)], args := [] }
  | _ => none }
def OwnKnownWrongFalsely : Prop := ownKnownRow.holds Try.pinned (OpenSpec.ofChange ownKnownWrong)

/-- 'pyxlaw19.OwnTells': WHATEVER THE INPUT: true; the input reads as it did. -/
def ownTellsSpec : ChangeSpec := { name := "ownTells", fn := fun _ => fun
  | [d1, d2, d3, d4] => { results := [.lit (.bool true)], args := [d1, d2, d3, d4] }
  | _ => none }
def ownTellsRow : OpenClaim := { program := "ythknecaigoilmaa", sum := "b8fbd0faa422e3b3f902e694b005b6f298f1fc26bf01fa2dafd2f5522f2f8717", func := "pyx/pyxlaw19.OwnTells", spec := "ownTells", apart := false }
def OwnTellsSaid : Prop := ownTellsRow.holds Try.pinned (OpenSpec.ofChange ownTellsSpec)

/-- ITS FALSE NEIGHBOUR: 'it returns false'. Refute it at one input. -/
def ownTellsWrong : ChangeSpec := { name := "ownTells", fn := fun _ => fun
  | [d1, d2, d3, d4] => { results := [.lit (.bool false)], args := [d1, d2, d3, d4] }
  | _ => none }
def OwnTellsWrongFalsely : Prop := ownTellsRow.holds Try.pinned (OpenSpec.ofChange ownTellsWrong)

/-- 'pyxlaw19.OwnParts': WHATEVER THE INPUT: true; the input reads as it did. -/
def ownPartsSpec : ChangeSpec := { name := "ownParts", fn := fun _ => fun
  | [d1, d2] => { results := [.lit (.bool true)], args := [d1, d2] }
  | _ => none }
def ownPartsRow : OpenClaim := { program := "ythknecaigoilmaa", sum := "b8fbd0faa422e3b3f902e694b005b6f298f1fc26bf01fa2dafd2f5522f2f8717", func := "pyx/pyxlaw19.OwnParts", spec := "ownParts", apart := false }
def OwnPartsSaid : Prop := ownPartsRow.holds Try.pinned (OpenSpec.ofChange ownPartsSpec)

/-- ITS FALSE NEIGHBOUR: 'it returns false'. Refute it at one input. -/
def ownPartsWrong : ChangeSpec := { name := "ownParts", fn := fun _ => fun
  | [d1, d2] => { results := [.lit (.bool false)], args := [d1, d2] }
  | _ => none }
def OwnPartsWrongFalsely : Prop := ownPartsRow.holds Try.pinned (OpenSpec.ofChange ownPartsWrong)

/- THE SECOND FORM. 'bulk': how many values and letters a reading holds, each counted each time it is reached (what is shared counts as often as it is met; a slice's spare places count too). A statement '..UptoSaid' is the law's where the arguments, and the package variables that the reading takes, are together of bulk at most 1048576: NARROWER than '..Said'. Prove '..Said' where nothing that the law and all that it calls make is longer than what came in: it says more and counts as full. Else prove '..UptoSaid'. A law counts once. -/
mutual
def uptoBulk {H : Type} : DataW H → Nat
  | .lit (.string bytes) => bytes.length + 1
  | .lit _ => 1
  | .nil => 1
  | .ptr d => uptoBulk d + 1
  | .slice elems spare => uptoBulkAll elems + uptoBulkAll spare + 1
  | .agg parts => uptoBulkAll parts + 1
  | .iface _ d => uptoBulk d + 1
  | .map entries => uptoBulkEntries entries + 1
  | .held _ => 1
def uptoBulkAll {H : Type} : List (DataW H) → Nat
  | [] => 0
  | d :: r => uptoBulk d + uptoBulkAll r
def uptoBulkEntries {H : Type} : List (Lit × DataW H) → Nat
  | [] => 0
  | x :: r => uptoBulkEntry x + uptoBulkEntries r
def uptoBulkEntry {H : Type} : Lit × DataW H → Nat
  | (.string bytes, d) => bytes.length + uptoBulk d + 1
  | (_, d) => uptoBulk d + 1
 end
def uptoSmall : (H : Type) → List (DataW H) → Bool := fun _ ds => decide (uptoBulkAll ds ≤ 1048576)
def OpenSpec.upto (s : _root_.Go.ChangeSpec) : _root_.Go.OpenSpec := { _root_.Go.OpenSpec.ofChange s with cond := some uptoSmall }

/-- 'pyxlaw1.LimbAdds', WHERE WHAT IT READS IS OF BULK AT MOST 1048576: true; the input reads as it did. -/
def limbAddsUptoRow : OpenClaim := { program := "ythknecaigoilmaa", sum := "b8fbd0faa422e3b3f902e694b005b6f298f1fc26bf01fa2dafd2f5522f2f8717", func := "pyx/pyxlaw1.LimbAdds", spec := "limbAdds", apart := false, narrowed := true }
def LimbAddsUptoSaid : Prop := limbAddsUptoRow.holds Try.pinned (OpenSpec.upto limbAddsSpec)

/-- 'pyxlaw1.LimbShifts', WHERE WHAT IT READS IS OF BULK AT MOST 1048576: true; the input reads as it did. -/
def limbShiftsUptoRow : OpenClaim := { program := "ythknecaigoilmaa", sum := "b8fbd0faa422e3b3f902e694b005b6f298f1fc26bf01fa2dafd2f5522f2f8717", func := "pyx/pyxlaw1.LimbShifts", spec := "limbShifts", apart := false, narrowed := true }
def LimbShiftsUptoSaid : Prop := limbShiftsUptoRow.holds Try.pinned (OpenSpec.upto limbShiftsSpec)

/-- 'pyxlaw1.LimbDivides', WHERE WHAT IT READS IS OF BULK AT MOST 1048576: true; the input reads as it did. -/
def limbDividesUptoRow : OpenClaim := { program := "ythknecaigoilmaa", sum := "b8fbd0faa422e3b3f902e694b005b6f298f1fc26bf01fa2dafd2f5522f2f8717", func := "pyx/pyxlaw1.LimbDivides", spec := "limbDivides", apart := false, narrowed := true }
def LimbDividesUptoSaid : Prop := limbDividesUptoRow.holds Try.pinned (OpenSpec.upto limbDividesSpec)

/-- 'pyxlaw1.LimbTens', WHERE WHAT IT READS IS OF BULK AT MOST 1048576: true; the input reads as it did. -/
def limbTensUptoRow : OpenClaim := { program := "ythknecaigoilmaa", sum := "b8fbd0faa422e3b3f902e694b005b6f298f1fc26bf01fa2dafd2f5522f2f8717", func := "pyx/pyxlaw1.LimbTens", spec := "limbTens", apart := false, narrowed := true }
def LimbTensUptoSaid : Prop := limbTensUptoRow.holds Try.pinned (OpenSpec.upto limbTensSpec)

/-- 'pyxlaw1.LimbKnown', WHERE WHAT IT READS IS OF BULK AT MOST 1048576: true; the input reads as it did. -/
def limbKnownUptoRow : OpenClaim := { program := "ythknecaigoilmaa", sum := "b8fbd0faa422e3b3f902e694b005b6f298f1fc26bf01fa2dafd2f5522f2f8717", func := "pyx/pyxlaw1.LimbKnown", spec := "limbKnown", apart := false, narrowed := true }
def LimbKnownUptoSaid : Prop := limbKnownUptoRow.holds Try.pinned (OpenSpec.upto limbKnownSpec)

/-- 'pyxlaw1.LimbTells', WHERE WHAT IT READS IS OF BULK AT MOST 1048576: true; the input reads as it did. -/
def limbTellsUptoRow : OpenClaim := { program := "ythknecaigoilmaa", sum := "b8fbd0faa422e3b3f902e694b005b6f298f1fc26bf01fa2dafd2f5522f2f8717", func := "pyx/pyxlaw1.LimbTells", spec := "limbTells", apart := false, narrowed := true }
def LimbTellsUptoSaid : Prop := limbTellsUptoRow.holds Try.pinned (OpenSpec.upto limbTellsSpec)

/-- 'pyxlaw10.RuleDenies', WHERE WHAT IT READS IS OF BULK AT MOST 1048576: true; the input reads as it did. -/
def ruleDeniesUptoRow : OpenClaim := { program := "ythknecaigoilmaa", sum := "b8fbd0faa422e3b3f902e694b005b6f298f1fc26bf01fa2dafd2f5522f2f8717", func := "pyx/pyxlaw10.RuleDenies", spec := "ruleDenies", unfollowed := true, recurses := true, apart := false, narrowed := true }
def RuleDeniesUptoSaid : Prop := ruleDeniesUptoRow.holds Try.pinned (OpenSpec.upto ruleDeniesSpec)

/-- 'pyxlaw10.RuleSees', WHERE WHAT IT READS IS OF BULK AT MOST 1048576: true; the input reads as it did. -/
def ruleSeesUptoRow : OpenClaim := { program := "ythknecaigoilmaa", sum := "b8fbd0faa422e3b3f902e694b005b6f298f1fc26bf01fa2dafd2f5522f2f8717", func := "pyx/pyxlaw10.RuleSees", spec := "ruleSees", unfollowed := true, recurses := true, apart := false, narrowed := true }
def RuleSeesUptoSaid : Prop := ruleSeesUptoRow.holds Try.pinned (OpenSpec.upto ruleSeesSpec)

/-- 'pyxlaw10.RuleKnown', WHERE WHAT IT READS IS OF BULK AT MOST 1048576: true; the input reads as it did. -/
def ruleKnownUptoRow : OpenClaim := { program := "ythknecaigoilmaa", sum := "b8fbd0faa422e3b3f902e694b005b6f298f1fc26bf01fa2dafd2f5522f2f8717", func := "pyx/pyxlaw10.RuleKnown", spec := "ruleKnown", unfollowed := true, recurses := true, apart := false, narrowed := true }
def RuleKnownUptoSaid : Prop := ruleKnownUptoRow.holds Try.pinned (OpenSpec.upto ruleKnownSpec)

/-- 'pyxlaw19.OwnKnown', WHERE WHAT IT READS IS OF BULK AT MOST 1048576: true; the input reads as it did. -/
def ownKnownUptoRow : OpenClaim := { program := "ythknecaigoilmaa", sum := "b8fbd0faa422e3b3f902e694b005b6f298f1fc26bf01fa2dafd2f5522f2f8717", func := "pyx/pyxlaw19.OwnKnown", spec := "ownKnown", apart := false, narrowed := true }
def OwnKnownUptoSaid : Prop := ownKnownUptoRow.holds Try.pinned (OpenSpec.upto ownKnownSpec)

/-- 'pyxlaw19.OwnTells', WHERE WHAT IT READS IS OF BULK AT MOST 1048576: true; the input reads as it did. -/
def ownTellsUptoRow : OpenClaim := { program := "ythknecaigoilmaa", sum := "b8fbd0faa422e3b3f902e694b005b6f298f1fc26bf01fa2dafd2f5522f2f8717", func := "pyx/pyxlaw19.OwnTells", spec := "ownTells", apart := false, narrowed := true }
def OwnTellsUptoSaid : Prop := ownTellsUptoRow.holds Try.pinned (OpenSpec.upto ownTellsSpec)

/-- 'pyxlaw19.OwnParts', WHERE WHAT IT READS IS OF BULK AT MOST 1048576: true; the input reads as it did. -/
def ownPartsUptoRow : OpenClaim := { program := "ythknecaigoilmaa", sum := "b8fbd0faa422e3b3f902e694b005b6f298f1fc26bf01fa2dafd2f5522f2f8717", func := "pyx/pyxlaw19.OwnParts", spec := "ownParts", apart := false, narrowed := true }
def OwnPartsUptoSaid : Prop := ownPartsUptoRow.holds Try.pinned (OpenSpec.upto ownPartsSpec)

end Rows
end Go.Proofs.Ythknecaigoilmaa
