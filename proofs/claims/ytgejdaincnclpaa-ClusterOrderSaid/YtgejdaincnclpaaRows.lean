/-
  No cell of these rows narrows 'for every input' (looked for: loops, veiled, ifaces, maps, wideKeys, modest, calm, conditions, laid).
  DERIVED. THE GIVEN ROWS OF THIS SEAT. 3 by the template 'for every input the law returns true; each argument reads behind the call as it read before'; 0 by the template 'total and deterministic' (their statements: YtgejdaincnclpaaTotals.lean).
  GIVEN WITH THE SEED: the statements are not yours to turn. If you find one false, say at which input.
  Laid BY PROGRAM, IN A SANDBOX (cutbox-rows.mjs): the forced cells as the released guide's own fill.sh prints them over the translation 104b0c8c5fa2e55b… (all of the seat's roots in one cut). By AI agents, Wed Nov 11 2026. No macro, syntax, notation, axiom, sorry.
-/
import Derived.Test.YtgejdaincnclpaaChecked
import GoSem.Claim
import GoSem.ClaimJoined
import GoSem.ClaimMapViews
import Derived.JoinedTies
import Derived.KernelRfl
namespace Go.Proofs.Ytgejdaincnclpaa
/- THE CELL 'sum', in the pinned program and in every row, IS THE sha256 OF THE DUMP (.gsa) THAT YtgejdaincnclpaaProg.lean LOADS. Nothing in Lean hashes anything: it is a label: what it is worth is what the hold of that sum in a sandbox is worth. -/
noncomputable def Try.pinned : Pinned := { name := "ytgejdaincnclpaa", sum := "104b0c8c5fa2e55b9e79dd7cb233bd778d72d3a3f91843ed2e43ddd1dc30619d", checked := Try.checked }
namespace Rows
def none {H : Type} : Left H := { results := [], args := [] }

/-- 'pinballlaw16.ClusterGroups': WHATEVER THE INPUT: true; the input reads as it did. -/
def clusterGroupsSpec : ChangeSpec := { name := "clusterGroups", fn := fun _ => fun
  | [d] => { results := [.lit (.bool true)], args := [d] }
  | _ => none }
def clusterGroupsRow : OpenClaim := { program := "ytgejdaincnclpaa", sum := "104b0c8c5fa2e55b9e79dd7cb233bd778d72d3a3f91843ed2e43ddd1dc30619d", func := "pinball/pinballlaw16.ClusterGroups", spec := "clusterGroups", unfollowed := true, recurses := true, apart := false }
def ClusterGroupsSaid : Prop := clusterGroupsRow.holds Try.pinned (OpenSpec.ofChange clusterGroupsSpec)

/-- ITS FALSE NEIGHBOUR: 'it returns false'. Refute it at one input. -/
def clusterGroupsWrong : ChangeSpec := { name := "clusterGroups", fn := fun _ => fun
  | [d] => { results := [.lit (.bool false)], args := [d] }
  | _ => none }
def ClusterGroupsWrongFalsely : Prop := clusterGroupsRow.holds Try.pinned (OpenSpec.ofChange clusterGroupsWrong)

/-- 'pinballlaw16.ClusterEnergy': WHATEVER THE INPUT: true; the input reads as it did. -/
def clusterEnergySpec : ChangeSpec := { name := "clusterEnergy", fn := fun _ => fun
  | [d1, d2] => { results := [.lit (.bool true)], args := [d1, d2] }
  | _ => none }
def clusterEnergyRow : OpenClaim := { program := "ytgejdaincnclpaa", sum := "104b0c8c5fa2e55b9e79dd7cb233bd778d72d3a3f91843ed2e43ddd1dc30619d", func := "pinball/pinballlaw16.ClusterEnergy", spec := "clusterEnergy", unfollowed := true, recurses := true, apart := false }
def ClusterEnergySaid : Prop := clusterEnergyRow.holds Try.pinned (OpenSpec.ofChange clusterEnergySpec)

/-- ITS FALSE NEIGHBOUR: 'it returns false'. Refute it at one input. -/
def clusterEnergyWrong : ChangeSpec := { name := "clusterEnergy", fn := fun _ => fun
  | [d1, d2] => { results := [.lit (.bool false)], args := [d1, d2] }
  | _ => none }
def ClusterEnergyWrongFalsely : Prop := clusterEnergyRow.holds Try.pinned (OpenSpec.ofChange clusterEnergyWrong)

/-- 'pinballlaw16.ClusterOrder': WHATEVER THE INPUT: true; the input reads as it did. -/
def clusterOrderSpec : ChangeSpec := { name := "clusterOrder", fn := fun _ => fun
  | [d1, d2] => { results := [.lit (.bool true)], args := [d1, d2] }
  | _ => none }
def clusterOrderRow : OpenClaim := { program := "ytgejdaincnclpaa", sum := "104b0c8c5fa2e55b9e79dd7cb233bd778d72d3a3f91843ed2e43ddd1dc30619d", func := "pinball/pinballlaw16.ClusterOrder", spec := "clusterOrder", unfollowed := true, recurses := true, apart := false }
def ClusterOrderSaid : Prop := clusterOrderRow.holds Try.pinned (OpenSpec.ofChange clusterOrderSpec)

/-- ITS FALSE NEIGHBOUR: 'it returns false'. Refute it at one input. -/
def clusterOrderWrong : ChangeSpec := { name := "clusterOrder", fn := fun _ => fun
  | [d1, d2] => { results := [.lit (.bool false)], args := [d1, d2] }
  | _ => none }
def ClusterOrderWrongFalsely : Prop := clusterOrderRow.holds Try.pinned (OpenSpec.ofChange clusterOrderWrong)

/- THE SECOND FORM. 'bulk': how many values and letters a reading holds, each counted each time it is reached (what is shared counts as often as it is met; a slice's spare places count too). A statement '..UptoSaid' is the law's where the arguments, and the package variables that the reading takes, are together of bulk at most 1048576: NARROWER than '..Said'. Prove '..Said' where nothing that the law and all that it calls make is longer than what came in: it says more and counts as full. Else prove '..UptoSaid'. A law counts once. -/
mutual
def uptoBulk {H : Type} : DataW H → Nat
  | .lit (.string bytes) => bytes.length + 1
  | .lit _ => 1
  | .nil => 1
  | .ptr d => uptoBulk d + 1
  | .slice elems spare => uptoBulkAll elems + uptoBulkAll spare + 1
  | .agg parts => uptoBulkAll parts + 1
  | .iface _ d => uptoBulk d + 1
  | .map entries => uptoBulkEntries entries + 1
  | .held _ => 1
def uptoBulkAll {H : Type} : List (DataW H) → Nat
  | [] => 0
  | d :: r => uptoBulk d + uptoBulkAll r
def uptoBulkEntries {H : Type} : List (Lit × DataW H) → Nat
  | [] => 0
  | x :: r => uptoBulkEntry x + uptoBulkEntries r
def uptoBulkEntry {H : Type} : Lit × DataW H → Nat
  | (.string bytes, d) => bytes.length + uptoBulk d + 1
  | (_, d) => uptoBulk d + 1
 end
def uptoSmall : (H : Type) → List (DataW H) → Bool := fun _ ds => decide (uptoBulkAll ds ≤ 1048576)
def OpenSpec.upto (s : _root_.Go.ChangeSpec) : _root_.Go.OpenSpec := { _root_.Go.OpenSpec.ofChange s with cond := some uptoSmall }

/-- 'pinballlaw16.ClusterGroups', WHERE WHAT IT READS IS OF BULK AT MOST 1048576: true; the input reads as it did. -/
def clusterGroupsUptoRow : OpenClaim := { program := "ytgejdaincnclpaa", sum := "104b0c8c5fa2e55b9e79dd7cb233bd778d72d3a3f91843ed2e43ddd1dc30619d", func := "pinball/pinballlaw16.ClusterGroups", spec := "clusterGroups", unfollowed := true, recurses := true, apart := false, narrowed := true }
def ClusterGroupsUptoSaid : Prop := clusterGroupsUptoRow.holds Try.pinned (OpenSpec.upto clusterGroupsSpec)

/-- 'pinballlaw16.ClusterEnergy', WHERE WHAT IT READS IS OF BULK AT MOST 1048576: true; the input reads as it did. -/
def clusterEnergyUptoRow : OpenClaim := { program := "ytgejdaincnclpaa", sum := "104b0c8c5fa2e55b9e79dd7cb233bd778d72d3a3f91843ed2e43ddd1dc30619d", func := "pinball/pinballlaw16.ClusterEnergy", spec := "clusterEnergy", unfollowed := true, recurses := true, apart := false, narrowed := true }
def ClusterEnergyUptoSaid : Prop := clusterEnergyUptoRow.holds Try.pinned (OpenSpec.upto clusterEnergySpec)

/-- 'pinballlaw16.ClusterOrder', WHERE WHAT IT READS IS OF BULK AT MOST 1048576: true; the input reads as it did. -/
def clusterOrderUptoRow : OpenClaim := { program := "ytgejdaincnclpaa", sum := "104b0c8c5fa2e55b9e79dd7cb233bd778d72d3a3f91843ed2e43ddd1dc30619d", func := "pinball/pinballlaw16.ClusterOrder", spec := "clusterOrder", unfollowed := true, recurses := true, apart := false, narrowed := true }
def ClusterOrderUptoSaid : Prop := clusterOrderUptoRow.holds Try.pinned (OpenSpec.upto clusterOrderSpec)

end Rows
end Go.Proofs.Ytgejdaincnclpaa
