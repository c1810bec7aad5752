/- More of limbs in memory: where an owned row lies; an append in a drawn region. -/
import Derived.Test.YtkoejgpnlncgaaaBigW
namespace Go.Proofs.Ytkoejgpnlncgaaa
open Go Go.RowKit
set_option linter.unusedVariables false
theorem OwnL.addr {w : World} {base : Nat} {A : Option Addr} {n c : Nat} {l : List Int} (h : OwnL w base (.slice A n c) l) : ∀ g o, A = some ⟨g, o, none⟩ → base ≤ g ∧ g < w.heap.size := by
  intro g o hA
  rcases h.2 with ⟨hv, _⟩ | ⟨g', cap, cur, hv, hb, hh, _⟩
  · rw [hA] at hv; injection hv with hv; cases hv
  · rw [hA] at hv
    have e : (some ⟨g, o, none⟩ : Option Addr) = some ⟨g', 0, none⟩ := by injection hv
    simp only [Option.some.injEq, Addr.mk.injEq] at e
    obtain ⟨rfl, _, _⟩ := e
    exact ⟨hb, (Array.getElem?_eq_some_iff.1 hh).1⟩
/-- An append in a region that draws its order. -/
theorem givesW_append {N : Nat} {W0 W : World} {o : Oper} {a : Act} {K : Value → (World → Prop) → List (Nat × Obj) → Prop} (s x : Operand)
    (ho : o.op = .call { callee := .builtin .append, args := #[s, x], argTypes := #[63, 63] })
    (base : Nat) (v : Value) (xs : List Int) (hs : a.eval s = v) (hown : OwnL W base v xs)
    (A : Option Addr) (c : Nat) (l : List Int) (hx : a.eval x = .slice A l.length c) (hA : LAt W A l) (h63 : xs.length + l.length ≤ 1000000000) (hbase : base ≤ W.heap.size)
    (h : ∀ v' w', OwnL w' base v' (xs ++ l) → W.grownBy w' v.ownBlock → (v'.ownBlock = v.ownBlock ∨ v'.ownBlock = some W.heap.size) → WPost N W0 K (.returned v') w') : givesW Try.prog N W0 K ((execOp a.eval o).run Try.prog W) := by
  obtain ⟨v', w', hrun, h2, h3, h5⟩ := run_append_limbs W base o.type v _ _ hown A c l hA (by unfold maxLen; omega) (by omega) hbase
  unfold execOp
  simp only [ho, resolve, invoke, builtin, Sem.run_bind, Sem.run_pure, Result.andThen_ok, List.map_toArray, List.map_cons, List.map_nil, hs, hx, hrun]
  exact h v' w' (by unfold OwnL; rw [List.length_append, List.map_append]; exact h2) h3 h5
end Go.Proofs.Ytkoejgpnlncgaaa
