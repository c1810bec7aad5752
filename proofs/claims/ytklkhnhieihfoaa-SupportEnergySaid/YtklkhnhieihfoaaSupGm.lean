/- The contract of support.Press, main case: its five ends. -/
import Derived.Test.YtklkhnhieihfoaaSupG0
import Derived.Test.YtklkhnhieihfoaaSupG1
import Derived.Test.YtklkhnhieihfoaaSupG2
import Derived.Test.YtklkhnhieihfoaaSupG3
import Derived.Test.YtklkhnhieihfoaaSupG4
namespace Go.Proofs.Ytklkhnhieihfoaa
open Go Go.RowKit
set_option linter.unusedVariables false
theorem press_main (P : Pl) (v : Value) (keys : List Int) (norms : List V2) (kA nA : Option Addr) (kc nc : Nat) (w : World) (h : PlAt w v P) (hkA : IAt w kA keys) (hnA : VAt w nA norms)
    (hlk : P.ks.length ≤ 400) (hln : P.ns.length ≤ 400) (hle : keys.length ≤ 100) (hl : norms.length = keys.length) (hpos : 0 < keys.length) (hf : fitB P = true) (hnn : norms.all (nearB 2097152) = true) (hd : P.d = false) :
    Calls Try.prog 14 #[v, .slice kA keys.length kc, .slice nA norms.length nc] w (CpOut (pressR P keys norms) w) := by
  have hc : caseR P keys norms = 0 ∨ caseR P keys norms = 1 ∨ caseR P keys norms = 2 ∨ caseR P keys norms = 3 ∨ caseR P keys norms = 4 := by
    unfold caseR
    split
    · simp
    · split
      · split <;> simp
      · split <;> simp
  rcases hc with hc | hc | hc | hc | hc
  · exact press_main0 P v keys norms kA nA kc nc w h hkA hnA hlk hln hle hl hpos hf hnn hd hc
  · exact press_main1 P v keys norms kA nA kc nc w h hkA hnA hlk hln hle hl hpos hf hnn hd hc
  · exact press_main2 P v keys norms kA nA kc nc w h hkA hnA hlk hln hle hl hpos hf hnn hd hc
  · exact press_main3 P v keys norms kA nA kc nc w h hkA hnA hlk hln hle hl hpos hf hnn hd hc
  · exact press_main4 P v keys norms kA nA kc nc w h hkA hnA hlk hln hle hl hpos hf hnn hd hc
end Go.Proofs.Ytklkhnhieihfoaa
