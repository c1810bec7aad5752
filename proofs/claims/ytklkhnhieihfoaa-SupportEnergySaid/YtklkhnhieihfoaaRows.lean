/-
  No cell of these rows narrows 'for every input' (looked for: loops, veiled, ifaces, maps, wideKeys, modest, calm, conditions, laid).
  DERIVED. THE GIVEN ROWS OF THIS SEAT. 8 by the template 'for every input the law returns true; each argument reads behind the call as it read before'; 0 by the template 'total and deterministic' (their statements: YtklkhnhieihfoaaTotals.lean).
  GIVEN WITH THE SEED: the statements are not yours to turn. If you find one false, say at which input.
  Laid BY PROGRAM, IN A SANDBOX (cutbox-rows.mjs): the forced cells as the released guide's own fill.sh prints them over the translation 5317b7df42795bff… (all of the seat's roots in one cut). By AI agents, Wed Nov 11 2026. No macro, syntax, notation, axiom, sorry.
-/
import Derived.Test.YtklkhnhieihfoaaChecked
import GoSem.Claim
import GoSem.ClaimJoined
import GoSem.ClaimMapViews
import Derived.JoinedTies
import Derived.KernelRfl
namespace Go.Proofs.Ytklkhnhieihfoaa
/- THE CELL 'sum', in the pinned program and in every row, IS THE sha256 OF THE DUMP (.gsa) THAT YtklkhnhieihfoaaProg.lean LOADS. Nothing in Lean hashes anything: it is a label: what it is worth is what the hold of that sum in a sandbox is worth. -/
noncomputable def Try.pinned : Pinned := { name := "ytklkhnhieihfoaa", sum := "5317b7df42795bff9b7f0ee8cdec7d74e1cb88b043b4a5732f0338b4d979aa9a", checked := Try.checked }
namespace Rows
def none {H : Type} : Left H := { results := [], args := [] }

/-- 'pinballlaw17.SupportWall': WHATEVER THE INPUT: true; the input reads as it did. -/
def supportWallSpec : ChangeSpec := { name := "supportWall", fn := fun _ => fun
  | [d1, d2] => { results := [.lit (.bool true)], args := [d1, d2] }
  | _ => none }
def supportWallRow : OpenClaim := { program := "ytklkhnhieihfoaa", sum := "5317b7df42795bff9b7f0ee8cdec7d74e1cb88b043b4a5732f0338b4d979aa9a", func := "pinball/pinballlaw17.SupportWall", spec := "supportWall", named := ["math/bits.divideError", "math/bits.overflowError"], apart := false }
def SupportWallSaid : Prop := supportWallRow.holds Try.pinned (OpenSpec.ofChange supportWallSpec)

/-- ITS FALSE NEIGHBOUR: 'it returns false'. Refute it at one input. -/
def supportWallWrong : ChangeSpec := { name := "supportWall", fn := fun _ => fun
  | [d1, d2] => { results := [.lit (.bool false)], args := [d1, d2] }
  | _ => none }
def SupportWallWrongFalsely : Prop := supportWallRow.holds Try.pinned (OpenSpec.ofChange supportWallWrong)

/-- 'pinballlaw17.SupportStairs': WHATEVER THE INPUT: true; the input reads as it did. -/
def supportStairsSpec : ChangeSpec := { name := "supportStairs", fn := fun _ => fun
  | [d1, d2, d3] => { results := [.lit (.bool true)], args := [d1, d2, d3] }
  | _ => none }
def supportStairsRow : OpenClaim := { program := "ytklkhnhieihfoaa", sum := "5317b7df42795bff9b7f0ee8cdec7d74e1cb88b043b4a5732f0338b4d979aa9a", func := "pinball/pinballlaw17.SupportStairs", spec := "supportStairs", named := ["math/bits.divideError", "math/bits.overflowError"], apart := false }
def SupportStairsSaid : Prop := supportStairsRow.holds Try.pinned (OpenSpec.ofChange supportStairsSpec)

/-- ITS FALSE NEIGHBOUR: 'it returns false'. Refute it at one input. -/
def supportStairsWrong : ChangeSpec := { name := "supportStairs", fn := fun _ => fun
  | [d1, d2, d3] => { results := [.lit (.bool false)], args := [d1, d2, d3] }
  | _ => none }
def SupportStairsWrongFalsely : Prop := supportStairsRow.holds Try.pinned (OpenSpec.ofChange supportStairsWrong)

/-- 'pinballlaw17.SupportEnergy': WHATEVER THE INPUT: true; the input reads as it did. -/
def supportEnergySpec : ChangeSpec := { name := "supportEnergy", fn := fun _ => fun
  | [d1, d2] => { results := [.lit (.bool true)], args := [d1, d2] }
  | _ => none }
def supportEnergyRow : OpenClaim := { program := "ytklkhnhieihfoaa", sum := "5317b7df42795bff9b7f0ee8cdec7d74e1cb88b043b4a5732f0338b4d979aa9a", func := "pinball/pinballlaw17.SupportEnergy", spec := "supportEnergy", named := ["math/bits.divideError", "math/bits.overflowError"], apart := false }
def SupportEnergySaid : Prop := supportEnergyRow.holds Try.pinned (OpenSpec.ofChange supportEnergySpec)

/-- ITS FALSE NEIGHBOUR: 'it returns false'. Refute it at one input. -/
def supportEnergyWrong : ChangeSpec := { name := "supportEnergy", fn := fun _ => fun
  | [d1, d2] => { results := [.lit (.bool false)], args := [d1, d2] }
  | _ => none }
def SupportEnergyWrongFalsely : Prop := supportEnergyRow.holds Try.pinned (OpenSpec.ofChange supportEnergyWrong)

/-- 'pinballlaw15.RespondStatic': WHATEVER THE INPUT: true; the input reads as it did. -/
def respondStaticSpec : ChangeSpec := { name := "respondStatic", fn := fun _ => fun
  | [d1, d2, d3] => { results := [.lit (.bool true)], args := [d1, d2, d3] }
  | _ => none }
def respondStaticRow : OpenClaim := { program := "ytklkhnhieihfoaa", sum := "5317b7df42795bff9b7f0ee8cdec7d74e1cb88b043b4a5732f0338b4d979aa9a", func := "pinball/pinballlaw15.RespondStatic", spec := "respondStatic", unfollowed := true, recurses := true, apart := false }
def RespondStaticSaid : Prop := respondStaticRow.holds Try.pinned (OpenSpec.ofChange respondStaticSpec)

/-- ITS FALSE NEIGHBOUR: 'it returns false'. Refute it at one input. -/
def respondStaticWrong : ChangeSpec := { name := "respondStatic", fn := fun _ => fun
  | [d1, d2, d3] => { results := [.lit (.bool false)], args := [d1, d2, d3] }
  | _ => none }
def RespondStaticWrongFalsely : Prop := respondStaticRow.holds Try.pinned (OpenSpec.ofChange respondStaticWrong)

/-- 'pinballlaw15.RespondEnergy': WHATEVER THE INPUT: true; the input reads as it did. -/
def respondEnergySpec : ChangeSpec := { name := "respondEnergy", fn := fun _ => fun
  | [d1, d2, d3] => { results := [.lit (.bool true)], args := [d1, d2, d3] }
  | _ => none }
def respondEnergyRow : OpenClaim := { program := "ytklkhnhieihfoaa", sum := "5317b7df42795bff9b7f0ee8cdec7d74e1cb88b043b4a5732f0338b4d979aa9a", func := "pinball/pinballlaw15.RespondEnergy", spec := "respondEnergy", unfollowed := true, recurses := true, apart := false }
def RespondEnergySaid : Prop := respondEnergyRow.holds Try.pinned (OpenSpec.ofChange respondEnergySpec)

/-- ITS FALSE NEIGHBOUR: 'it returns false'. Refute it at one input. -/
def respondEnergyWrong : ChangeSpec := { name := "respondEnergy", fn := fun _ => fun
  | [d1, d2, d3] => { results := [.lit (.bool false)], args := [d1, d2, d3] }
  | _ => none }
def RespondEnergyWrongFalsely : Prop := respondEnergyRow.holds Try.pinned (OpenSpec.ofChange respondEnergyWrong)

/-- 'pinballlaw15.RespondAway': WHATEVER THE INPUT: true; the input reads as it did. -/
def respondAwaySpec : ChangeSpec := { name := "respondAway", fn := fun _ => fun
  | [d1, d2, d3] => { results := [.lit (.bool true)], args := [d1, d2, d3] }
  | _ => none }
def respondAwayRow : OpenClaim := { program := "ytklkhnhieihfoaa", sum := "5317b7df42795bff9b7f0ee8cdec7d74e1cb88b043b4a5732f0338b4d979aa9a", func := "pinball/pinballlaw15.RespondAway", spec := "respondAway", unfollowed := true, recurses := true, apart := false }
def RespondAwaySaid : Prop := respondAwayRow.holds Try.pinned (OpenSpec.ofChange respondAwaySpec)

/-- ITS FALSE NEIGHBOUR: 'it returns false'. Refute it at one input. -/
def respondAwayWrong : ChangeSpec := { name := "respondAway", fn := fun _ => fun
  | [d1, d2, d3] => { results := [.lit (.bool false)], args := [d1, d2, d3] }
  | _ => none }
def RespondAwayWrongFalsely : Prop := respondAwayRow.holds Try.pinned (OpenSpec.ofChange respondAwayWrong)

/-- 'pinballlaw15.RespondPair': WHATEVER THE INPUT: true; the input reads as it did. -/
def respondPairSpec : ChangeSpec := { name := "respondPair", fn := fun _ => fun
  | [d1, d2, d3] => { results := [.lit (.bool true)], args := [d1, d2, d3] }
  | _ => none }
def respondPairRow : OpenClaim := { program := "ytklkhnhieihfoaa", sum := "5317b7df42795bff9b7f0ee8cdec7d74e1cb88b043b4a5732f0338b4d979aa9a", func := "pinball/pinballlaw15.RespondPair", spec := "respondPair", unfollowed := true, recurses := true, apart := false }
def RespondPairSaid : Prop := respondPairRow.holds Try.pinned (OpenSpec.ofChange respondPairSpec)

/-- ITS FALSE NEIGHBOUR: 'it returns false'. Refute it at one input. -/
def respondPairWrong : ChangeSpec := { name := "respondPair", fn := fun _ => fun
  | [d1, d2, d3] => { results := [.lit (.bool false)], args := [d1, d2, d3] }
  | _ => none }
def RespondPairWrongFalsely : Prop := respondPairRow.holds Try.pinned (OpenSpec.ofChange respondPairWrong)

/-- 'pinballlaw15.RespondMirror': WHATEVER THE INPUT: true; the input reads as it did. -/
def respondMirrorSpec : ChangeSpec := { name := "respondMirror", fn := fun _ => fun
  | [d1, d2, d3] => { results := [.lit (.bool true)], args := [d1, d2, d3] }
  | _ => none }
def respondMirrorRow : OpenClaim := { program := "ytklkhnhieihfoaa", sum := "5317b7df42795bff9b7f0ee8cdec7d74e1cb88b043b4a5732f0338b4d979aa9a", func := "pinball/pinballlaw15.RespondMirror", spec := "respondMirror", unfollowed := true, recurses := true, apart := false }
def RespondMirrorSaid : Prop := respondMirrorRow.holds Try.pinned (OpenSpec.ofChange respondMirrorSpec)

/-- ITS FALSE NEIGHBOUR: 'it returns false'. Refute it at one input. -/
def respondMirrorWrong : ChangeSpec := { name := "respondMirror", fn := fun _ => fun
  | [d1, d2, d3] => { results := [.lit (.bool false)], args := [d1, d2, d3] }
  | _ => none }
def RespondMirrorWrongFalsely : Prop := respondMirrorRow.holds Try.pinned (OpenSpec.ofChange respondMirrorWrong)

/- THE SECOND FORM. 'bulk': how many values and letters a reading holds, each counted each time it is reached (what is shared counts as often as it is met; a slice's spare places count too). A statement '..UptoSaid' is the law's where the arguments, and the package variables that the reading takes, are together of bulk at most 1048576: NARROWER than '..Said'. Prove '..Said' where nothing that the law and all that it calls make is longer than what came in: it says more and counts as full. Else prove '..UptoSaid'. A law counts once. -/
mutual
def uptoBulk {H : Type} : DataW H → Nat
  | .lit (.string bytes) => bytes.length + 1
  | .lit _ => 1
  | .nil => 1
  | .ptr d => uptoBulk d + 1
  | .slice elems spare => uptoBulkAll elems + uptoBulkAll spare + 1
  | .agg parts => uptoBulkAll parts + 1
  | .iface _ d => uptoBulk d + 1
  | .map entries => uptoBulkEntries entries + 1
  | .held _ => 1
def uptoBulkAll {H : Type} : List (DataW H) → Nat
  | [] => 0
  | d :: r => uptoBulk d + uptoBulkAll r
def uptoBulkEntries {H : Type} : List (Lit × DataW H) → Nat
  | [] => 0
  | x :: r => uptoBulkEntry x + uptoBulkEntries r
def uptoBulkEntry {H : Type} : Lit × DataW H → Nat
  | (.string bytes, d) => bytes.length + uptoBulk d + 1
  | (_, d) => uptoBulk d + 1
 end
def uptoSmall : (H : Type) → List (DataW H) → Bool := fun _ ds => decide (uptoBulkAll ds ≤ 1048576)
def OpenSpec.upto (s : _root_.Go.ChangeSpec) : _root_.Go.OpenSpec := { _root_.Go.OpenSpec.ofChange s with cond := some uptoSmall }

/-- 'pinballlaw17.SupportWall', WHERE WHAT IT READS IS OF BULK AT MOST 1048576: true; the input reads as it did. -/
def supportWallUptoRow : OpenClaim := { program := "ytklkhnhieihfoaa", sum := "5317b7df42795bff9b7f0ee8cdec7d74e1cb88b043b4a5732f0338b4d979aa9a", func := "pinball/pinballlaw17.SupportWall", spec := "supportWall", named := ["math/bits.divideError", "math/bits.overflowError"], apart := false, narrowed := true }
def SupportWallUptoSaid : Prop := supportWallUptoRow.holds Try.pinned (OpenSpec.upto supportWallSpec)

/-- 'pinballlaw17.SupportStairs', WHERE WHAT IT READS IS OF BULK AT MOST 1048576: true; the input reads as it did. -/
def supportStairsUptoRow : OpenClaim := { program := "ytklkhnhieihfoaa", sum := "5317b7df42795bff9b7f0ee8cdec7d74e1cb88b043b4a5732f0338b4d979aa9a", func := "pinball/pinballlaw17.SupportStairs", spec := "supportStairs", named := ["math/bits.divideError", "math/bits.overflowError"], apart := false, narrowed := true }
def SupportStairsUptoSaid : Prop := supportStairsUptoRow.holds Try.pinned (OpenSpec.upto supportStairsSpec)

/-- 'pinballlaw17.SupportEnergy', WHERE WHAT IT READS IS OF BULK AT MOST 1048576: true; the input reads as it did. -/
def supportEnergyUptoRow : OpenClaim := { program := "ytklkhnhieihfoaa", sum := "5317b7df42795bff9b7f0ee8cdec7d74e1cb88b043b4a5732f0338b4d979aa9a", func := "pinball/pinballlaw17.SupportEnergy", spec := "supportEnergy", named := ["math/bits.divideError", "math/bits.overflowError"], apart := false, narrowed := true }
def SupportEnergyUptoSaid : Prop := supportEnergyUptoRow.holds Try.pinned (OpenSpec.upto supportEnergySpec)

/-- 'pinballlaw15.RespondStatic', WHERE WHAT IT READS IS OF BULK AT MOST 1048576: true; the input reads as it did. -/
def respondStaticUptoRow : OpenClaim := { program := "ytklkhnhieihfoaa", sum := "5317b7df42795bff9b7f0ee8cdec7d74e1cb88b043b4a5732f0338b4d979aa9a", func := "pinball/pinballlaw15.RespondStatic", spec := "respondStatic", unfollowed := true, recurses := true, apart := false, narrowed := true }
def RespondStaticUptoSaid : Prop := respondStaticUptoRow.holds Try.pinned (OpenSpec.upto respondStaticSpec)

/-- 'pinballlaw15.RespondEnergy', WHERE WHAT IT READS IS OF BULK AT MOST 1048576: true; the input reads as it did. -/
def respondEnergyUptoRow : OpenClaim := { program := "ytklkhnhieihfoaa", sum := "5317b7df42795bff9b7f0ee8cdec7d74e1cb88b043b4a5732f0338b4d979aa9a", func := "pinball/pinballlaw15.RespondEnergy", spec := "respondEnergy", unfollowed := true, recurses := true, apart := false, narrowed := true }
def RespondEnergyUptoSaid : Prop := respondEnergyUptoRow.holds Try.pinned (OpenSpec.upto respondEnergySpec)

/-- 'pinballlaw15.RespondAway', WHERE WHAT IT READS IS OF BULK AT MOST 1048576: true; the input reads as it did. -/
def respondAwayUptoRow : OpenClaim := { program := "ytklkhnhieihfoaa", sum := "5317b7df42795bff9b7f0ee8cdec7d74e1cb88b043b4a5732f0338b4d979aa9a", func := "pinball/pinballlaw15.RespondAway", spec := "respondAway", unfollowed := true, recurses := true, apart := false, narrowed := true }
def RespondAwayUptoSaid : Prop := respondAwayUptoRow.holds Try.pinned (OpenSpec.upto respondAwaySpec)

/-- 'pinballlaw15.RespondPair', WHERE WHAT IT READS IS OF BULK AT MOST 1048576: true; the input reads as it did. -/
def respondPairUptoRow : OpenClaim := { program := "ytklkhnhieihfoaa", sum := "5317b7df42795bff9b7f0ee8cdec7d74e1cb88b043b4a5732f0338b4d979aa9a", func := "pinball/pinballlaw15.RespondPair", spec := "respondPair", unfollowed := true, recurses := true, apart := false, narrowed := true }
def RespondPairUptoSaid : Prop := respondPairUptoRow.holds Try.pinned (OpenSpec.upto respondPairSpec)

/-- 'pinballlaw15.RespondMirror', WHERE WHAT IT READS IS OF BULK AT MOST 1048576: true; the input reads as it did. -/
def respondMirrorUptoRow : OpenClaim := { program := "ytklkhnhieihfoaa", sum := "5317b7df42795bff9b7f0ee8cdec7d74e1cb88b043b4a5732f0338b4d979aa9a", func := "pinball/pinballlaw15.RespondMirror", spec := "respondMirror", unfollowed := true, recurses := true, apart := false, narrowed := true }
def RespondMirrorUptoSaid : Prop := respondMirrorUptoRow.holds Try.pinned (OpenSpec.upto respondMirrorSpec)

end Rows
end Go.Proofs.Ytklkhnhieihfoaa
