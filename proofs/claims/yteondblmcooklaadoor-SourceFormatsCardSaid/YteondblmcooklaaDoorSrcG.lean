/- The deferred closure of source.Parse: it catches a fault; it does nothing where nothing was thrown. -/
import Derived.Test.YteondblmcooklaaDoorSrcE
import Derived.Recover
import Derived.Defers
namespace Go.Proofs.YteondblmcooklaaDoor
open Go Go.RowKit
set_option linter.unusedVariables false
set_option maxHeartbeats 1000000 in
theorem catch_idle (p q r : Addr) (w : World) :
    CallsD Tryd.prog 23 #[.pointer (some p), .pointer (some q), .pointer (some r)] .returning w fun e u' w' => e = .returned (.tuple #[]) ∧ u' = .returning ∧ w' = w := by
  refine callsD_of_wpS Tryd.func23 rfl fun c₀ cs hu => ?_
  simp only [Tryd.ntmps23, List.size_toArray, List.length_cons, List.length_nil, Nat.reduceAdd, Nat.reduceSub, Array.replicate_succ, Array.replicate_zero, List.push_toArray, List.append_toArray, List.nil_append, List.cons_append]
  apply wpS_seq
  apply wpS_region
  simp [wpOpsS, go_sem, recoverD, hu, Exit.thenS]
  refine wpS_of_wp ?_
  go_wp2_with fail
  cases c₀
  simp_all [bodyPostS, results, Tryd.results23]
def pan (e : Int) (a : Nat) (r : Bool) : List PanicEntry := [{ v := .iface 56 (.agg #[.int .i64 e, .int .i64 a]), recovered := r }]
set_option maxRecDepth 100000 in
set_option maxHeartbeats 1000000 in
theorem catch_fault (p q r : Nat) (e : Int) (a : Nat) (x y z : Value) (w : World) (hp : w.cell? ⟨p, 0, none⟩ = some x) (hq : w.cell? ⟨q, 0, none⟩ = some y) (hr : w.cell? ⟨r, 0, none⟩ = some z)
    (fp : ∀ o, w.frozen? ⟨p, o, none⟩ = false) (fq : ∀ o, w.frozen? ⟨q, o, none⟩ = false) (fr : ∀ o, w.frozen? ⟨r, o, none⟩ = false) (lp : p < w.heap.size) (lq : q < w.heap.size) (lr : r < w.heap.size) (n1 : p ≠ q) (n2 : p ≠ r) (n3 : q ≠ r) :
    CallsD Tryd.prog 23 #[.pointer (some ⟨p, 0, none⟩), .pointer (some ⟨q, 0, none⟩), .pointer (some ⟨r, 0, none⟩)] (.panicking (pan e a false)) w fun ε u' w' =>
      ε = .returned (.tuple #[]) ∧ u' = .panicking (pan e a true) ∧ w' = ((((w.setCell ⟨p, 0, none⟩ (.slice none 0 0)).setCell ⟨q, 0, none⟩ (.int .i64 e)).setCell ⟨r, 0, none⟩ (.int .i64 a)).alloc (.cells #[.int .i64 e, .int .i64 a] 56)).drew := by
  refine callsD_of_wpS Tryd.func23 rfl fun c₀ cs hu => ?_
  simp only [Tryd.ntmps23, List.size_toArray, List.length_cons, List.length_nil, Nat.reduceAdd, Nat.reduceSub, Array.replicate_succ, Array.replicate_zero, List.push_toArray, List.append_toArray, List.nil_append, List.cons_append]
  apply wpS_seq
  apply wpS_region
  have p1 : p ≠ w.heap.size := by omega
  have p2 : w.heap.size ≠ p := by omega
  have q1 : q ≠ w.heap.size := by omega
  have q2 : w.heap.size ≠ q := by omega
  have r1 : r ≠ w.heap.size := by omega
  have r2 : w.heap.size ≠ r := by omega
  have n1' := Ne.symm n1
  have n2' := Ne.symm n2
  have n3' := Ne.symm n3
  have hta : ∀ w : World, (Instr.typeAssert (.iface 56 (.agg #[.int .i64 e, .int .i64 a])) 20 56 false).run Tryd.prog w = .ok (.agg #[.int .i64 e, .int .i64 a]) w := fun _ => by kernel_rfl
  unfold pan at hu
  simp [wpOpsS, go_sem, recoverD, hu, Exit.thenS]
  refine wpS_of_wp ?_
  go_wp2_with fail
  go_region
  exact ⟨rfl, _, rfl, _, results_none rfl _ _ _, rfl, rfl, rfl⟩
end Go.Proofs.YteondblmcooklaaDoor
