/-
  No cell of these rows narrows 'for every input' (looked for: loops, veiled, ifaces, maps, wideKeys, modest, calm, conditions, laid).
  DERIVED. THE GIVEN ROWS OF THIS SEAT. 10 by the template 'for every input the law returns true; each argument reads behind the call as it read before'; 0 by the template 'total and deterministic' (their statements: YtkoejgpnlncgaaaTotals.lean).
  GIVEN WITH THE SEED: the statements are not yours to turn. If you find one false, say at which input.
  Laid BY PROGRAM, IN A SANDBOX (cutbox-rows.mjs): the forced cells as the released guide's own fill.sh prints them over the translation 7064ca15cf08c173… (all of the seat's roots in one cut). By AI agents, Wed Nov 11 2026. No macro, syntax, notation, axiom, sorry.
-/
import Derived.Test.YtkoejgpnlncgaaaChecked
import GoSem.Claim
import GoSem.ClaimJoined
import GoSem.ClaimMapViews
import Derived.JoinedTies
import Derived.KernelRfl
namespace Go.Proofs.Ytkoejgpnlncgaaa
/- THE CELL 'sum', in the pinned program and in every row, IS THE sha256 OF THE DUMP (.gsa) THAT YtkoejgpnlncgaaaProg.lean LOADS. Nothing in Lean hashes anything: it is a label: what it is worth is what the hold of that sum in a sandbox is worth. -/
noncomputable def Try.pinned : Pinned := { name := "ytkoejgpnlncgaaa", sum := "7064ca15cf08c173607c34a5dabe96f5ba1a434856675c2b7eeea78d1f8f2346", checked := Try.checked }
namespace Rows
def none {H : Type} : Left H := { results := [], args := [] }

/-- 'pinballlaw10.FlightSteps': WHATEVER THE INPUT: true; the input reads as it did. -/
def flightStepsSpec : ChangeSpec := { name := "flightSteps", fn := fun _ => fun
  | [d1, d2] => { results := [.lit (.bool true)], args := [d1, d2] }
  | _ => none }
def flightStepsRow : OpenClaim := { program := "ytkoejgpnlncgaaa", sum := "7064ca15cf08c173607c34a5dabe96f5ba1a434856675c2b7eeea78d1f8f2346", func := "pinball/pinballlaw10.FlightSteps", spec := "flightSteps", unfollowed := true, recurses := true, apart := false }
def FlightStepsSaid : Prop := flightStepsRow.holds Try.pinned (OpenSpec.ofChange flightStepsSpec)

/-- ITS FALSE NEIGHBOUR: 'it returns false'. Refute it at one input. -/
def flightStepsWrong : ChangeSpec := { name := "flightSteps", fn := fun _ => fun
  | [d1, d2] => { results := [.lit (.bool false)], args := [d1, d2] }
  | _ => none }
def FlightStepsWrongFalsely : Prop := flightStepsRow.holds Try.pinned (OpenSpec.ofChange flightStepsWrong)

/-- 'pinballlaw10.FlightEnergy': WHATEVER THE INPUT: true; the input reads as it did. -/
def flightEnergySpec : ChangeSpec := { name := "flightEnergy", fn := fun _ => fun
  | [d] => { results := [.lit (.bool true)], args := [d] }
  | _ => none }
def flightEnergyRow : OpenClaim := { program := "ytkoejgpnlncgaaa", sum := "7064ca15cf08c173607c34a5dabe96f5ba1a434856675c2b7eeea78d1f8f2346", func := "pinball/pinballlaw10.FlightEnergy", spec := "flightEnergy", unfollowed := true, recurses := true, apart := false }
def FlightEnergySaid : Prop := flightEnergyRow.holds Try.pinned (OpenSpec.ofChange flightEnergySpec)

/-- ITS FALSE NEIGHBOUR: 'it returns false'. Refute it at one input. -/
def flightEnergyWrong : ChangeSpec := { name := "flightEnergy", fn := fun _ => fun
  | [d] => { results := [.lit (.bool false)], args := [d] }
  | _ => none }
def FlightEnergyWrongFalsely : Prop := flightEnergyRow.holds Try.pinned (OpenSpec.ofChange flightEnergyWrong)

/-- 'pinballlaw10.FlightPlaces': WHATEVER THE INPUT: true; the input reads as it did. -/
def flightPlacesSpec : ChangeSpec := { name := "flightPlaces", fn := fun _ => fun
  | [d] => { results := [.lit (.bool true)], args := [d] }
  | _ => none }
def flightPlacesRow : OpenClaim := { program := "ytkoejgpnlncgaaa", sum := "7064ca15cf08c173607c34a5dabe96f5ba1a434856675c2b7eeea78d1f8f2346", func := "pinball/pinballlaw10.FlightPlaces", spec := "flightPlaces", unfollowed := true, recurses := true, apart := false }
def FlightPlacesSaid : Prop := flightPlacesRow.holds Try.pinned (OpenSpec.ofChange flightPlacesSpec)

/-- ITS FALSE NEIGHBOUR: 'it returns false'. Refute it at one input. -/
def flightPlacesWrong : ChangeSpec := { name := "flightPlaces", fn := fun _ => fun
  | [d] => { results := [.lit (.bool false)], args := [d] }
  | _ => none }
def FlightPlacesWrongFalsely : Prop := flightPlacesRow.holds Try.pinned (OpenSpec.ofChange flightPlacesWrong)

/-- 'pinballlaw10.FlightExact': WHATEVER THE INPUT: true; the input reads as it did. -/
def flightExactSpec : ChangeSpec := { name := "flightExact", fn := fun _ => fun
  | [d1, d2] => { results := [.lit (.bool true)], args := [d1, d2] }
  | _ => none }
def flightExactRow : OpenClaim := { program := "ytkoejgpnlncgaaa", sum := "7064ca15cf08c173607c34a5dabe96f5ba1a434856675c2b7eeea78d1f8f2346", func := "pinball/pinballlaw10.FlightExact", spec := "flightExact", unfollowed := true, recurses := true, apart := false }
def FlightExactSaid : Prop := flightExactRow.holds Try.pinned (OpenSpec.ofChange flightExactSpec)

/-- ITS FALSE NEIGHBOUR: 'it returns false'. Refute it at one input. -/
def flightExactWrong : ChangeSpec := { name := "flightExact", fn := fun _ => fun
  | [d1, d2] => { results := [.lit (.bool false)], args := [d1, d2] }
  | _ => none }
def FlightExactWrongFalsely : Prop := flightExactRow.holds Try.pinned (OpenSpec.ofChange flightExactWrong)

/-- 'pinballlaw06.VectorMulDiv': WHATEVER THE INPUT: true; the input reads as it did. -/
def vectorMulDivSpec : ChangeSpec := { name := "vectorMulDiv", fn := fun _ => fun
  | [d1, d2, d3] => { results := [.lit (.bool true)], args := [d1, d2, d3] }
  | _ => none }
def vectorMulDivRow : OpenClaim := { program := "ytkoejgpnlncgaaa", sum := "7064ca15cf08c173607c34a5dabe96f5ba1a434856675c2b7eeea78d1f8f2346", func := "pinball/pinballlaw06.VectorMulDiv", spec := "vectorMulDiv", named := ["math/bits.divideError", "math/bits.overflowError"], apart := false }
def VectorMulDivSaid : Prop := vectorMulDivRow.holds Try.pinned (OpenSpec.ofChange vectorMulDivSpec)

/-- ITS FALSE NEIGHBOUR: 'it returns false'. Refute it at one input. -/
def vectorMulDivWrong : ChangeSpec := { name := "vectorMulDiv", fn := fun _ => fun
  | [d1, d2, d3] => { results := [.lit (.bool false)], args := [d1, d2, d3] }
  | _ => none }
def VectorMulDivWrongFalsely : Prop := vectorMulDivRow.holds Try.pinned (OpenSpec.ofChange vectorMulDivWrong)

/-- 'pinballlaw06.VectorLifts': WHATEVER THE INPUT: true; the input reads as it did. -/
def vectorLiftsSpec : ChangeSpec := { name := "vectorLifts", fn := fun _ => fun
  | [d1, d2] => { results := [.lit (.bool true)], args := [d1, d2] }
  | _ => none }
def vectorLiftsRow : OpenClaim := { program := "ytkoejgpnlncgaaa", sum := "7064ca15cf08c173607c34a5dabe96f5ba1a434856675c2b7eeea78d1f8f2346", func := "pinball/pinballlaw06.VectorLifts", spec := "vectorLifts", named := ["math/bits.divideError", "math/bits.overflowError"], apart := false }
def VectorLiftsSaid : Prop := vectorLiftsRow.holds Try.pinned (OpenSpec.ofChange vectorLiftsSpec)

/-- ITS FALSE NEIGHBOUR: 'it returns false'. Refute it at one input. -/
def vectorLiftsWrong : ChangeSpec := { name := "vectorLifts", fn := fun _ => fun
  | [d1, d2] => { results := [.lit (.bool false)], args := [d1, d2] }
  | _ => none }
def VectorLiftsWrongFalsely : Prop := vectorLiftsRow.holds Try.pinned (OpenSpec.ofChange vectorLiftsWrong)

/-- 'pinballlaw06.VectorSafe': WHATEVER THE INPUT: true; the input reads as it did. -/
def vectorSafeSpec : ChangeSpec := { name := "vectorSafe", fn := fun _ => fun
  | [d1, d2] => { results := [.lit (.bool true)], args := [d1, d2] }
  | _ => none }
def vectorSafeRow : OpenClaim := { program := "ytkoejgpnlncgaaa", sum := "7064ca15cf08c173607c34a5dabe96f5ba1a434856675c2b7eeea78d1f8f2346", func := "pinball/pinballlaw06.VectorSafe", spec := "vectorSafe", named := ["math/bits.divideError", "math/bits.overflowError"], apart := false }
def VectorSafeSaid : Prop := vectorSafeRow.holds Try.pinned (OpenSpec.ofChange vectorSafeSpec)

/-- ITS FALSE NEIGHBOUR: 'it returns false'. Refute it at one input. -/
def vectorSafeWrong : ChangeSpec := { name := "vectorSafe", fn := fun _ => fun
  | [d1, d2] => { results := [.lit (.bool false)], args := [d1, d2] }
  | _ => none }
def VectorSafeWrongFalsely : Prop := vectorSafeRow.holds Try.pinned (OpenSpec.ofChange vectorSafeWrong)

/-- 'pinballlaw06.VectorTurns': WHATEVER THE INPUT: true; the input reads as it did. -/
def vectorTurnsSpec : ChangeSpec := { name := "vectorTurns", fn := fun _ => fun
  | [d1, d2] => { results := [.lit (.bool true)], args := [d1, d2] }
  | _ => none }
def vectorTurnsRow : OpenClaim := { program := "ytkoejgpnlncgaaa", sum := "7064ca15cf08c173607c34a5dabe96f5ba1a434856675c2b7eeea78d1f8f2346", func := "pinball/pinballlaw06.VectorTurns", spec := "vectorTurns", named := ["math/bits.divideError", "math/bits.overflowError"], apart := false }
def VectorTurnsSaid : Prop := vectorTurnsRow.holds Try.pinned (OpenSpec.ofChange vectorTurnsSpec)

/-- ITS FALSE NEIGHBOUR: 'it returns false'. Refute it at one input. -/
def vectorTurnsWrong : ChangeSpec := { name := "vectorTurns", fn := fun _ => fun
  | [d1, d2] => { results := [.lit (.bool false)], args := [d1, d2] }
  | _ => none }
def VectorTurnsWrongFalsely : Prop := vectorTurnsRow.holds Try.pinned (OpenSpec.ofChange vectorTurnsWrong)

/-- 'pinballlaw06.VectorNear': WHATEVER THE INPUT: true; the input reads as it did. -/
def vectorNearSpec : ChangeSpec := { name := "vectorNear", fn := fun _ => fun
  | [d1, d2] => { results := [.lit (.bool true)], args := [d1, d2] }
  | _ => none }
def vectorNearRow : OpenClaim := { program := "ytkoejgpnlncgaaa", sum := "7064ca15cf08c173607c34a5dabe96f5ba1a434856675c2b7eeea78d1f8f2346", func := "pinball/pinballlaw06.VectorNear", spec := "vectorNear", named := ["math/bits.divideError", "math/bits.overflowError"], apart := false }
def VectorNearSaid : Prop := vectorNearRow.holds Try.pinned (OpenSpec.ofChange vectorNearSpec)

/-- ITS FALSE NEIGHBOUR: 'it returns false'. Refute it at one input. -/
def vectorNearWrong : ChangeSpec := { name := "vectorNear", fn := fun _ => fun
  | [d1, d2] => { results := [.lit (.bool false)], args := [d1, d2] }
  | _ => none }
def VectorNearWrongFalsely : Prop := vectorNearRow.holds Try.pinned (OpenSpec.ofChange vectorNearWrong)

/-- 'pinballlaw06.VectorExact': WHATEVER THE INPUT: true; the input reads as it did. -/
def vectorExactSpec : ChangeSpec := { name := "vectorExact", fn := fun _ => fun
  | [d1, d2, d3] => { results := [.lit (.bool true)], args := [d1, d2, d3] }
  | _ => none }
def vectorExactRow : OpenClaim := { program := "ytkoejgpnlncgaaa", sum := "7064ca15cf08c173607c34a5dabe96f5ba1a434856675c2b7eeea78d1f8f2346", func := "pinball/pinballlaw06.VectorExact", spec := "vectorExact", named := ["math/bits.divideError", "math/bits.overflowError"], apart := false }
def VectorExactSaid : Prop := vectorExactRow.holds Try.pinned (OpenSpec.ofChange vectorExactSpec)

/-- ITS FALSE NEIGHBOUR: 'it returns false'. Refute it at one input. -/
def vectorExactWrong : ChangeSpec := { name := "vectorExact", fn := fun _ => fun
  | [d1, d2, d3] => { results := [.lit (.bool false)], args := [d1, d2, d3] }
  | _ => none }
def VectorExactWrongFalsely : Prop := vectorExactRow.holds Try.pinned (OpenSpec.ofChange vectorExactWrong)

/- THE SECOND FORM. 'bulk': how many values and letters a reading holds, each counted each time it is reached (what is shared counts as often as it is met; a slice's spare places count too). A statement '..UptoSaid' is the law's where the arguments, and the package variables that the reading takes, are together of bulk at most 1048576: NARROWER than '..Said'. Prove '..Said' where nothing that the law and all that it calls make is longer than what came in: it says more and counts as full. Else prove '..UptoSaid'. A law counts once. -/
mutual
def uptoBulk {H : Type} : DataW H → Nat
  | .lit (.string bytes) => bytes.length + 1
  | .lit _ => 1
  | .nil => 1
  | .ptr d => uptoBulk d + 1
  | .slice elems spare => uptoBulkAll elems + uptoBulkAll spare + 1
  | .agg parts => uptoBulkAll parts + 1
  | .iface _ d => uptoBulk d + 1
  | .map entries => uptoBulkEntries entries + 1
  | .held _ => 1
def uptoBulkAll {H : Type} : List (DataW H) → Nat
  | [] => 0
  | d :: r => uptoBulk d + uptoBulkAll r
def uptoBulkEntries {H : Type} : List (Lit × DataW H) → Nat
  | [] => 0
  | x :: r => uptoBulkEntry x + uptoBulkEntries r
def uptoBulkEntry {H : Type} : Lit × DataW H → Nat
  | (.string bytes, d) => bytes.length + uptoBulk d + 1
  | (_, d) => uptoBulk d + 1
 end
def uptoSmall : (H : Type) → List (DataW H) → Bool := fun _ ds => decide (uptoBulkAll ds ≤ 1048576)
def OpenSpec.upto (s : _root_.Go.ChangeSpec) : _root_.Go.OpenSpec := { _root_.Go.OpenSpec.ofChange s with cond := some uptoSmall }

/-- 'pinballlaw10.FlightSteps', WHERE WHAT IT READS IS OF BULK AT MOST 1048576: true; the input reads as it did. -/
def flightStepsUptoRow : OpenClaim := { program := "ytkoejgpnlncgaaa", sum := "7064ca15cf08c173607c34a5dabe96f5ba1a434856675c2b7eeea78d1f8f2346", func := "pinball/pinballlaw10.FlightSteps", spec := "flightSteps", unfollowed := true, recurses := true, apart := false, narrowed := true }
def FlightStepsUptoSaid : Prop := flightStepsUptoRow.holds Try.pinned (OpenSpec.upto flightStepsSpec)

/-- 'pinballlaw10.FlightEnergy', WHERE WHAT IT READS IS OF BULK AT MOST 1048576: true; the input reads as it did. -/
def flightEnergyUptoRow : OpenClaim := { program := "ytkoejgpnlncgaaa", sum := "7064ca15cf08c173607c34a5dabe96f5ba1a434856675c2b7eeea78d1f8f2346", func := "pinball/pinballlaw10.FlightEnergy", spec := "flightEnergy", unfollowed := true, recurses := true, apart := false, narrowed := true }
def FlightEnergyUptoSaid : Prop := flightEnergyUptoRow.holds Try.pinned (OpenSpec.upto flightEnergySpec)

/-- 'pinballlaw10.FlightPlaces', WHERE WHAT IT READS IS OF BULK AT MOST 1048576: true; the input reads as it did. -/
def flightPlacesUptoRow : OpenClaim := { program := "ytkoejgpnlncgaaa", sum := "7064ca15cf08c173607c34a5dabe96f5ba1a434856675c2b7eeea78d1f8f2346", func := "pinball/pinballlaw10.FlightPlaces", spec := "flightPlaces", unfollowed := true, recurses := true, apart := false, narrowed := true }
def FlightPlacesUptoSaid : Prop := flightPlacesUptoRow.holds Try.pinned (OpenSpec.upto flightPlacesSpec)

/-- 'pinballlaw10.FlightExact', WHERE WHAT IT READS IS OF BULK AT MOST 1048576: true; the input reads as it did. -/
def flightExactUptoRow : OpenClaim := { program := "ytkoejgpnlncgaaa", sum := "7064ca15cf08c173607c34a5dabe96f5ba1a434856675c2b7eeea78d1f8f2346", func := "pinball/pinballlaw10.FlightExact", spec := "flightExact", unfollowed := true, recurses := true, apart := false, narrowed := true }
def FlightExactUptoSaid : Prop := flightExactUptoRow.holds Try.pinned (OpenSpec.upto flightExactSpec)

/-- 'pinballlaw06.VectorMulDiv', WHERE WHAT IT READS IS OF BULK AT MOST 1048576: true; the input reads as it did. -/
def vectorMulDivUptoRow : OpenClaim := { program := "ytkoejgpnlncgaaa", sum := "7064ca15cf08c173607c34a5dabe96f5ba1a434856675c2b7eeea78d1f8f2346", func := "pinball/pinballlaw06.VectorMulDiv", spec := "vectorMulDiv", named := ["math/bits.divideError", "math/bits.overflowError"], apart := false, narrowed := true }
def VectorMulDivUptoSaid : Prop := vectorMulDivUptoRow.holds Try.pinned (OpenSpec.upto vectorMulDivSpec)

/-- 'pinballlaw06.VectorLifts', WHERE WHAT IT READS IS OF BULK AT MOST 1048576: true; the input reads as it did. -/
def vectorLiftsUptoRow : OpenClaim := { program := "ytkoejgpnlncgaaa", sum := "7064ca15cf08c173607c34a5dabe96f5ba1a434856675c2b7eeea78d1f8f2346", func := "pinball/pinballlaw06.VectorLifts", spec := "vectorLifts", named := ["math/bits.divideError", "math/bits.overflowError"], apart := false, narrowed := true }
def VectorLiftsUptoSaid : Prop := vectorLiftsUptoRow.holds Try.pinned (OpenSpec.upto vectorLiftsSpec)

/-- 'pinballlaw06.VectorSafe', WHERE WHAT IT READS IS OF BULK AT MOST 1048576: true; the input reads as it did. -/
def vectorSafeUptoRow : OpenClaim := { program := "ytkoejgpnlncgaaa", sum := "7064ca15cf08c173607c34a5dabe96f5ba1a434856675c2b7eeea78d1f8f2346", func := "pinball/pinballlaw06.VectorSafe", spec := "vectorSafe", named := ["math/bits.divideError", "math/bits.overflowError"], apart := false, narrowed := true }
def VectorSafeUptoSaid : Prop := vectorSafeUptoRow.holds Try.pinned (OpenSpec.upto vectorSafeSpec)

/-- 'pinballlaw06.VectorTurns', WHERE WHAT IT READS IS OF BULK AT MOST 1048576: true; the input reads as it did. -/
def vectorTurnsUptoRow : OpenClaim := { program := "ytkoejgpnlncgaaa", sum := "7064ca15cf08c173607c34a5dabe96f5ba1a434856675c2b7eeea78d1f8f2346", func := "pinball/pinballlaw06.VectorTurns", spec := "vectorTurns", named := ["math/bits.divideError", "math/bits.overflowError"], apart := false, narrowed := true }
def VectorTurnsUptoSaid : Prop := vectorTurnsUptoRow.holds Try.pinned (OpenSpec.upto vectorTurnsSpec)

/-- 'pinballlaw06.VectorNear', WHERE WHAT IT READS IS OF BULK AT MOST 1048576: true; the input reads as it did. -/
def vectorNearUptoRow : OpenClaim := { program := "ytkoejgpnlncgaaa", sum := "7064ca15cf08c173607c34a5dabe96f5ba1a434856675c2b7eeea78d1f8f2346", func := "pinball/pinballlaw06.VectorNear", spec := "vectorNear", named := ["math/bits.divideError", "math/bits.overflowError"], apart := false, narrowed := true }
def VectorNearUptoSaid : Prop := vectorNearUptoRow.holds Try.pinned (OpenSpec.upto vectorNearSpec)

/-- 'pinballlaw06.VectorExact', WHERE WHAT IT READS IS OF BULK AT MOST 1048576: true; the input reads as it did. -/
def vectorExactUptoRow : OpenClaim := { program := "ytkoejgpnlncgaaa", sum := "7064ca15cf08c173607c34a5dabe96f5ba1a434856675c2b7eeea78d1f8f2346", func := "pinball/pinballlaw06.VectorExact", spec := "vectorExact", named := ["math/bits.divideError", "math/bits.overflowError"], apart := false, narrowed := true }
def VectorExactUptoSaid : Prop := vectorExactUptoRow.holds Try.pinned (OpenSpec.upto vectorExactSpec)

end Rows
end Go.Proofs.Ytkoejgpnlncgaaa
