/-
  No cell of these rows narrows 'for every input' (looked for: loops, veiled, ifaces, maps, wideKeys, modest, calm, conditions, laid).
  DERIVED. THE GIVEN ROWS OF THIS SEAT. 7 by the template 'for every input the law returns true; each argument reads behind the call as it read before'; 0 by the template 'total and deterministic' (their statements: YtadkcipjcmkoiaaTotals.lean).
  GIVEN WITH THE SEED: the statements are not yours to turn. If you find one false, say at which input.
  Laid BY PROGRAM, IN A SANDBOX (cutbox-rows.mjs): the forced cells as the released guide's own fill.sh prints them over the translation e902a6e4732ad5c4… (all of the seat's roots in one cut). By AI agents, Wed Nov 11 2026. No macro, syntax, notation, axiom, sorry.
-/
import Derived.Test.YtadkcipjcmkoiaaChecked
import GoSem.Claim
import GoSem.ClaimJoined
import GoSem.ClaimMapViews
import Derived.JoinedTies
import Derived.KernelRfl
namespace Go.Proofs.Ytadkcipjcmkoiaa
/- THE CELL 'sum', in the pinned program and in every row, IS THE sha256 OF THE DUMP (.gsa) THAT YtadkcipjcmkoiaaProg.lean LOADS. Nothing in Lean hashes anything: it is a label: what it is worth is what the hold of that sum in a sandbox is worth. -/
noncomputable def Try.pinned : Pinned := { name := "ytadkcipjcmkoiaa", sum := "e902a6e4732ad5c47e184dc6172b7352f95131b77042526554ff14ae3e18d34c", checked := Try.checked }
namespace Rows
def none {H : Type} : Left H := { results := [], args := [] }

/-- 'pinballlaw01.IntegerText': WHATEVER THE INPUT: true; the input reads as it did. -/
def integerTextSpec : ChangeSpec := { name := "integerText", fn := fun _ => fun
  | [d1, d2] => { results := [.lit (.bool true)], args := [d1, d2] }
  | _ => none }
def integerTextRow : OpenClaim := { program := "ytadkcipjcmkoiaa", sum := "e902a6e4732ad5c47e184dc6172b7352f95131b77042526554ff14ae3e18d34c", func := "pinball/pinballlaw01.IntegerText", spec := "integerText", apart := false }
def IntegerTextSaid : Prop := integerTextRow.holds Try.pinned (OpenSpec.ofChange integerTextSpec)

/-- ITS FALSE NEIGHBOUR: 'it returns false'. Refute it at one input. -/
def integerTextWrong : ChangeSpec := { name := "integerText", fn := fun _ => fun
  | [d1, d2] => { results := [.lit (.bool false)], args := [d1, d2] }
  | _ => none }
def IntegerTextWrongFalsely : Prop := integerTextRow.holds Try.pinned (OpenSpec.ofChange integerTextWrong)

/-- 'pinballlaw01.IntegerShifts': WHATEVER THE INPUT: true; the input reads as it did. -/
def integerShiftsSpec : ChangeSpec := { name := "integerShifts", fn := fun _ => fun
  | [d1, d2, d3] => { results := [.lit (.bool true)], args := [d1, d2, d3] }
  | _ => none }
def integerShiftsRow : OpenClaim := { program := "ytadkcipjcmkoiaa", sum := "e902a6e4732ad5c47e184dc6172b7352f95131b77042526554ff14ae3e18d34c", func := "pinball/pinballlaw01.IntegerShifts", spec := "integerShifts", apart := false }
def IntegerShiftsSaid : Prop := integerShiftsRow.holds Try.pinned (OpenSpec.ofChange integerShiftsSpec)

/-- ITS FALSE NEIGHBOUR: 'it returns false'. Refute it at one input. -/
def integerShiftsWrong : ChangeSpec := { name := "integerShifts", fn := fun _ => fun
  | [d1, d2, d3] => { results := [.lit (.bool false)], args := [d1, d2, d3] }
  | _ => none }
def IntegerShiftsWrongFalsely : Prop := integerShiftsRow.holds Try.pinned (OpenSpec.ofChange integerShiftsWrong)

/-- 'pinballlaw01.IntegerDivides': WHATEVER THE INPUT: true; the input reads as it did. -/
def integerDividesSpec : ChangeSpec := { name := "integerDivides", fn := fun _ => fun
  | [d1, d2, d3] => { results := [.lit (.bool true)], args := [d1, d2, d3] }
  | _ => none }
def integerDividesRow : OpenClaim := { program := "ytadkcipjcmkoiaa", sum := "e902a6e4732ad5c47e184dc6172b7352f95131b77042526554ff14ae3e18d34c", func := "pinball/pinballlaw01.IntegerDivides", spec := "integerDivides", apart := false }
def IntegerDividesSaid : Prop := integerDividesRow.holds Try.pinned (OpenSpec.ofChange integerDividesSpec)

/-- ITS FALSE NEIGHBOUR: 'it returns false'. Refute it at one input. -/
def integerDividesWrong : ChangeSpec := { name := "integerDivides", fn := fun _ => fun
  | [d1, d2, d3] => { results := [.lit (.bool false)], args := [d1, d2, d3] }
  | _ => none }
def IntegerDividesWrongFalsely : Prop := integerDividesRow.holds Try.pinned (OpenSpec.ofChange integerDividesWrong)

/-- 'pinballlaw01.IntegerWords': WHATEVER THE INPUT: true; the input reads as it did. -/
def integerWordsSpec : ChangeSpec := { name := "integerWords", fn := fun _ => fun
  | [d1, d2] => { results := [.lit (.bool true)], args := [d1, d2] }
  | _ => none }
def integerWordsRow : OpenClaim := { program := "ytadkcipjcmkoiaa", sum := "e902a6e4732ad5c47e184dc6172b7352f95131b77042526554ff14ae3e18d34c", func := "pinball/pinballlaw01.IntegerWords", spec := "integerWords", apart := false }
def IntegerWordsSaid : Prop := integerWordsRow.holds Try.pinned (OpenSpec.ofChange integerWordsSpec)

/-- ITS FALSE NEIGHBOUR: 'it returns false'. Refute it at one input. -/
def integerWordsWrong : ChangeSpec := { name := "integerWords", fn := fun _ => fun
  | [d1, d2] => { results := [.lit (.bool false)], args := [d1, d2] }
  | _ => none }
def IntegerWordsWrongFalsely : Prop := integerWordsRow.holds Try.pinned (OpenSpec.ofChange integerWordsWrong)

/-- 'pinballlaw01.IntegerRing': WHATEVER THE INPUT: true; the input reads as it did. -/
def integerRingSpec : ChangeSpec := { name := "integerRing", fn := fun _ => fun
  | [d1, d2, d3] => { results := [.lit (.bool true)], args := [d1, d2, d3] }
  | _ => none }
def integerRingRow : OpenClaim := { program := "ytadkcipjcmkoiaa", sum := "e902a6e4732ad5c47e184dc6172b7352f95131b77042526554ff14ae3e18d34c", func := "pinball/pinballlaw01.IntegerRing", spec := "integerRing", apart := false }
def IntegerRingSaid : Prop := integerRingRow.holds Try.pinned (OpenSpec.ofChange integerRingSpec)

/-- ITS FALSE NEIGHBOUR: 'it returns false'. Refute it at one input. -/
def integerRingWrong : ChangeSpec := { name := "integerRing", fn := fun _ => fun
  | [d1, d2, d3] => { results := [.lit (.bool false)], args := [d1, d2, d3] }
  | _ => none }
def IntegerRingWrongFalsely : Prop := integerRingRow.holds Try.pinned (OpenSpec.ofChange integerRingWrong)

/-- 'pinballlaw01.IntegerLimits': WHATEVER THE INPUT: true; the input reads as it did. -/
def integerLimitsSpec : ChangeSpec := { name := "integerLimits", fn := fun _ => fun
  | [d1, d2] => { results := [.lit (.bool true)], args := [d1, d2] }
  | _ => none }
def integerLimitsRow : OpenClaim := { program := "ytadkcipjcmkoiaa", sum := "e902a6e4732ad5c47e184dc6172b7352f95131b77042526554ff14ae3e18d34c", func := "pinball/pinballlaw01.IntegerLimits", spec := "integerLimits", apart := false }
def IntegerLimitsSaid : Prop := integerLimitsRow.holds Try.pinned (OpenSpec.ofChange integerLimitsSpec)

/-- ITS FALSE NEIGHBOUR: 'it returns false'. Refute it at one input. -/
def integerLimitsWrong : ChangeSpec := { name := "integerLimits", fn := fun _ => fun
  | [d1, d2] => { results := [.lit (.bool false)], args := [d1, d2] }
  | _ => none }
def IntegerLimitsWrongFalsely : Prop := integerLimitsRow.holds Try.pinned (OpenSpec.ofChange integerLimitsWrong)

/-- 'pinballlaw01.IntegerExact': WHATEVER THE INPUT: true; the input reads as it did. -/
def integerExactSpec : ChangeSpec := { name := "integerExact", fn := fun _ => fun
  | [d1, d2, d3] => { results := [.lit (.bool true)], args := [d1, d2, d3] }
  | _ => none }
def integerExactRow : OpenClaim := { program := "ytadkcipjcmkoiaa", sum := "e902a6e4732ad5c47e184dc6172b7352f95131b77042526554ff14ae3e18d34c", func := "pinball/pinballlaw01.IntegerExact", spec := "integerExact", apart := false }
def IntegerExactSaid : Prop := integerExactRow.holds Try.pinned (OpenSpec.ofChange integerExactSpec)

/-- ITS FALSE NEIGHBOUR: 'it returns false'. Refute it at one input. -/
def integerExactWrong : ChangeSpec := { name := "integerExact", fn := fun _ => fun
  | [d1, d2, d3] => { results := [.lit (.bool false)], args := [d1, d2, d3] }
  | _ => none }
def IntegerExactWrongFalsely : Prop := integerExactRow.holds Try.pinned (OpenSpec.ofChange integerExactWrong)

/- THE SECOND FORM. 'bulk': how many values and letters a reading holds, each counted each time it is reached (what is shared counts as often as it is met; a slice's spare places count too). A statement '..UptoSaid' is the law's where the arguments, and the package variables that the reading takes, are together of bulk at most 1048576: NARROWER than '..Said'. Prove '..Said' where nothing that the law and all that it calls make is longer than what came in: it says more and counts as full. Else prove '..UptoSaid'. A law counts once. -/
mutual
def uptoBulk {H : Type} : DataW H → Nat
  | .lit (.string bytes) => bytes.length + 1
  | .lit _ => 1
  | .nil => 1
  | .ptr d => uptoBulk d + 1
  | .slice elems spare => uptoBulkAll elems + uptoBulkAll spare + 1
  | .agg parts => uptoBulkAll parts + 1
  | .iface _ d => uptoBulk d + 1
  | .map entries => uptoBulkEntries entries + 1
  | .held _ => 1
def uptoBulkAll {H : Type} : List (DataW H) → Nat
  | [] => 0
  | d :: r => uptoBulk d + uptoBulkAll r
def uptoBulkEntries {H : Type} : List (Lit × DataW H) → Nat
  | [] => 0
  | x :: r => uptoBulkEntry x + uptoBulkEntries r
def uptoBulkEntry {H : Type} : Lit × DataW H → Nat
  | (.string bytes, d) => bytes.length + uptoBulk d + 1
  | (_, d) => uptoBulk d + 1
 end
def uptoSmall : (H : Type) → List (DataW H) → Bool := fun _ ds => decide (uptoBulkAll ds ≤ 1048576)
def OpenSpec.upto (s : _root_.Go.ChangeSpec) : _root_.Go.OpenSpec := { _root_.Go.OpenSpec.ofChange s with cond := some uptoSmall }

/-- 'pinballlaw01.IntegerText', WHERE WHAT IT READS IS OF BULK AT MOST 1048576: true; the input reads as it did. -/
def integerTextUptoRow : OpenClaim := { program := "ytadkcipjcmkoiaa", sum := "e902a6e4732ad5c47e184dc6172b7352f95131b77042526554ff14ae3e18d34c", func := "pinball/pinballlaw01.IntegerText", spec := "integerText", apart := false, narrowed := true }
def IntegerTextUptoSaid : Prop := integerTextUptoRow.holds Try.pinned (OpenSpec.upto integerTextSpec)

/-- 'pinballlaw01.IntegerShifts', WHERE WHAT IT READS IS OF BULK AT MOST 1048576: true; the input reads as it did. -/
def integerShiftsUptoRow : OpenClaim := { program := "ytadkcipjcmkoiaa", sum := "e902a6e4732ad5c47e184dc6172b7352f95131b77042526554ff14ae3e18d34c", func := "pinball/pinballlaw01.IntegerShifts", spec := "integerShifts", apart := false, narrowed := true }
def IntegerShiftsUptoSaid : Prop := integerShiftsUptoRow.holds Try.pinned (OpenSpec.upto integerShiftsSpec)

/-- 'pinballlaw01.IntegerDivides', WHERE WHAT IT READS IS OF BULK AT MOST 1048576: true; the input reads as it did. -/
def integerDividesUptoRow : OpenClaim := { program := "ytadkcipjcmkoiaa", sum := "e902a6e4732ad5c47e184dc6172b7352f95131b77042526554ff14ae3e18d34c", func := "pinball/pinballlaw01.IntegerDivides", spec := "integerDivides", apart := false, narrowed := true }
def IntegerDividesUptoSaid : Prop := integerDividesUptoRow.holds Try.pinned (OpenSpec.upto integerDividesSpec)

/-- 'pinballlaw01.IntegerWords', WHERE WHAT IT READS IS OF BULK AT MOST 1048576: true; the input reads as it did. -/
def integerWordsUptoRow : OpenClaim := { program := "ytadkcipjcmkoiaa", sum := "e902a6e4732ad5c47e184dc6172b7352f95131b77042526554ff14ae3e18d34c", func := "pinball/pinballlaw01.IntegerWords", spec := "integerWords", apart := false, narrowed := true }
def IntegerWordsUptoSaid : Prop := integerWordsUptoRow.holds Try.pinned (OpenSpec.upto integerWordsSpec)

/-- 'pinballlaw01.IntegerRing', WHERE WHAT IT READS IS OF BULK AT MOST 1048576: true; the input reads as it did. -/
def integerRingUptoRow : OpenClaim := { program := "ytadkcipjcmkoiaa", sum := "e902a6e4732ad5c47e184dc6172b7352f95131b77042526554ff14ae3e18d34c", func := "pinball/pinballlaw01.IntegerRing", spec := "integerRing", apart := false, narrowed := true }
def IntegerRingUptoSaid : Prop := integerRingUptoRow.holds Try.pinned (OpenSpec.upto integerRingSpec)

/-- 'pinballlaw01.IntegerLimits', WHERE WHAT IT READS IS OF BULK AT MOST 1048576: true; the input reads as it did. -/
def integerLimitsUptoRow : OpenClaim := { program := "ytadkcipjcmkoiaa", sum := "e902a6e4732ad5c47e184dc6172b7352f95131b77042526554ff14ae3e18d34c", func := "pinball/pinballlaw01.IntegerLimits", spec := "integerLimits", apart := false, narrowed := true }
def IntegerLimitsUptoSaid : Prop := integerLimitsUptoRow.holds Try.pinned (OpenSpec.upto integerLimitsSpec)

/-- 'pinballlaw01.IntegerExact', WHERE WHAT IT READS IS OF BULK AT MOST 1048576: true; the input reads as it did. -/
def integerExactUptoRow : OpenClaim := { program := "ytadkcipjcmkoiaa", sum := "e902a6e4732ad5c47e184dc6172b7352f95131b77042526554ff14ae3e18d34c", func := "pinball/pinballlaw01.IntegerExact", spec := "integerExact", apart := false, narrowed := true }
def IntegerExactUptoSaid : Prop := integerExactUptoRow.holds Try.pinned (OpenSpec.upto integerExactSpec)

end Rows
end Go.Proofs.Ytadkcipjcmkoiaa
