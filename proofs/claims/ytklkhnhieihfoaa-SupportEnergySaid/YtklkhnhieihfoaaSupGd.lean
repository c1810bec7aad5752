/- What the contract of support.Press needs. -/
import Derived.Test.YtklkhnhieihfoaaSupF
import Derived.Test.YtklkhnhieihfoaaDrawJ
namespace Go.Proofs.Ytklkhnhieihfoaa
open Go Go.RowKit
set_option linter.unusedVariables false
theorem rows_apart {w : World} {b1 b2 z1 z2 n1 n2 : Nat} {e1 e2 : TypeId} {v1 v2 : Value} {x1 x2 : List Value} (h1 : w.ownsRow b1 e1 z1 v1 n1 x1) (h2 : w.ownsRow b2 e2 z2 v2 n2 x2) (hne : e1 ≠ e2) : v1.ownBlock = none ∨ v1.ownBlock ≠ v2.ownBlock := by
  rcases h1.2 with ⟨rfl, _⟩ | ⟨g, cap, cur, rfl, _, hh, _⟩
  · exact .inl rfl
  · right
    rcases h2.2 with ⟨rfl, _⟩ | ⟨g', cap', cur', rfl, _, hh', _⟩
    · simp [Value.ownBlock]
    · intro e
      simp only [Value.ownBlock, Option.some.injEq] at e
      subst e
      rw [hh] at hh'
      simp only [Option.some.injEq, Obj.cells.injEq] at hh'
      exact hne hh'.2.1
def IC (g : Nat) (x : Int) (W : World) : Prop := W.cell? ⟨g, 0, none⟩ = some (.int .i64 x)
def VC (g : Nat) (x : V2) (W : World) : Prop := W.cell? ⟨g, 0, none⟩ = some (.int .i64 x.1) ∧ W.cell? ⟨g, 1, none⟩ = some (.int .i64 x.2)
theorem IC.cl (g : Nat) (x : Int) : Cl (IC g x) := fun W W' h hb => (hb.cell (p := ⟨g, 0, none⟩) (by simpa using World.block_lt_of_cell? W _ h)).trans h
theorem VC.cl (g : Nat) (x : V2) : Cl (VC g x) := fun W W' h hb => ⟨(hb.cell (p := ⟨g, 0, none⟩) (by simpa using World.block_lt_of_cell? W _ h.1)).trans h.1, (hb.cell (p := ⟨g, 1, none⟩) (by simpa using World.block_lt_of_cell? W _ h.1)).trans h.2⟩
theorem Own.grown {N : Nat} {W0 W W' : World} {row : Option Nat} (h : Own N W0 W) (hg : W.grownBy W' row) (hr : ∀ k, row = some k → N ≤ k) : Own N W0 W' := by
  have hb := h.2.grown hg h.1 hr
  exact ⟨Nat.le_trans h.1 hg.size, hb⟩
theorem intInfoK : (Try.prog.info? 3).map (fun i => (i.zero, i.size, i.bytes)) = some (some (.int .i64 0), 1, 8) := by kernel_rfl
theorem ic_cells {g : Nat} {x : Int} {W : World} (h : IC g x W) : ∀ j u, [Value.int .i64 x][j]? = some u → W.cell? ((⟨g, 0, none⟩ : Addr).add j) = some u := fun j u hj => by
  rcases j with _ | j
  · simp only [List.getElem?_cons_zero, Option.some.injEq] at hj
    subst hj; unfold IC at h; simpa [Addr.add] using h
  · simp at hj
theorem vc_cells {g : Nat} {x : V2} {W : World} (h : VC g x W) : ∀ j u, (cellsOfV x)[j]? = some u → W.cell? ((⟨g, 0, none⟩ : Addr).add j) = some u := fun j u hj => by
  unfold cellsOfV at hj
  rcases j with _ | _ | j
  · simp only [List.getElem?_cons_zero, Option.some.injEq] at hj
    subst hj; simpa [Addr.add] using h.1
  · simp only [List.getElem?_cons_succ, List.getElem?_cons_zero, Option.some.injEq] at hj
    subst hj; simpa [Addr.add] using h.2
  · simp at hj
theorem vc_grown {g : Nat} {x : V2} {W W' : World} {row : Option Nat} (h : VC g x W) (hg : W.grownBy W' row) (hr : ∀ q, row = some q → q < g) : VC g x W' := by
  have hne : some g ≠ row := fun e => by have := hr g e.symm; omega
  exact ⟨hg.cell h.1 hne, hg.cell h.2 hne⟩
theorem ownk_snoc {w : World} {base : Nat} {A : Option Addr} {c : Nat} {l : List Int} {x : Int} (h : w.ownsRow base 3 1 (.slice A (l.length + 1) c) (l.length + 1) (l.map (Value.int .i64) ++ [.int .i64 x])) : OwnK w base A c (l ++ [x]) := by
  unfold OwnK; rw [List.length_append, List.map_append]; exact h
theorem ownn_snoc {w : World} {base : Nat} {A : Option Addr} {c : Nat} {l : List V2} {x : V2} (h : w.ownsRow base 23 2 (.slice A (l.length + 1) c) (l.length + 1) (flatV l ++ cellsOfV x)) : OwnN w base A c (l ++ [x]) := by
  unfold OwnN; rw [List.length_append, flatV_snoc]; exact h
def PLoop (w : World) (P : Pl) (keys : List Int) (norms : List V2) (base k : Nat) (wr : World) : Prop :=
  Below w.heap.size w wr ∧ base ≤ wr.heap.size ∧ ∃ A c B d, XB wr w.heap.size P (.slice A (addR P ((keys.zip norms).take k)).1.length c) (.slice B (addR P ((keys.zip norms).take k)).2.length d) ∧
    XB wr (w.heap.size + 1) zeroPl (.slice none 0 0) (.slice none 0 0) ∧ OwnK wr base A c (addR P ((keys.zip norms).take k)).1 ∧ OwnN wr base B d (addR P ((keys.zip norms).take k)).2
/-- Which end of Press is taken. -/
def caseR (P : Pl) (keys : List Int) (norms : List V2) : Nat :=
  if P.ks.length < (addR P (keys.zip norms)).1.length then 0
  else if keys.length = 1 ∧ P.t = false then (if (turnR P.v1 P.v2 (norms.headD (0, 0)).1 (norms.headD (0, 0)).2).2.2 = true then 1 else 2)
  else if keys.length = 1 then 3 else 4
end Go.Proofs.Ytklkhnhieihfoaa
