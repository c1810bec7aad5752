/- A guarded call of whatever result in a drawn region. No program in sight. -/
import Derived.Test.YtadkcipjcmkoiaaDraw
namespace Go.Proofs.Ytadkcipjcmkoiaa
open Go Go.RowKit
section
variable {P : Program} {ops : Array Oper} {md : Region.Mode} {N : Nat} {W0 : World}
def callOnB (md : Region.Mode) (ops : Array Oper) (_n i f : Nat) (listed : Array Bool) : Bool :=
  Region.noSelect ops && onlyF md ops i f listed && match ops[i]? with | some o => !isAlloc o | none => false
theorem wpF_call_on {i f n : Nat} {o : Oper} {L : GK} {listed : Array Bool} {F : World → Prop} {G : List (Nat × Obj)} {a : Act} (hi : ops[i]? = some o) (hB : callOnB md ops n i f listed = true)
    (hal : allocsB P ops = true) (hg : Region.wanted o (yielded ops a.tmps) = true)
    (hk : ∀ W, F W → SG N W0 G W → givesX P W (fun v F' => ∀ K : Act → Prop, (∀ a, wpF P md ops N W0 n L f (listed.setIfInBounds i true) (fun W => F W ∧ F' W) G a → K a) → K (a.put o.dst v)) ((execOp a.eval o).run P W)) : wpF P md ops N W0 n L (f + 1) listed F G a := by
  simp only [callOnB, hi, Bool.and_eq_true, Bool.not_eq_true'] at hB
  obtain ⟨⟨hs, hon⟩, hna⟩ := hB
  exact wpF_callfirst (Region.noSelect_spec hs) hi hna f listed F G a hon ⟨hg, fun W hF hS => givesX_mono (fun v F' hk => hk _ fun _ h => h) _ (hk W hF hS)⟩ (fun j oj hj ha _ => allocs_fresh hal j oj hj ha)
end
end Go.Proofs.Ytadkcipjcmkoiaa
