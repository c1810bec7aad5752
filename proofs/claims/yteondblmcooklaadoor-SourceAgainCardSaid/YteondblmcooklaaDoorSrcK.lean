/- The text of statements; the contract of source.Format. -/
import Derived.Test.YteondblmcooklaaDoorSrcJ
import Derived.Laws.Concat
namespace Go.Proofs.YteondblmcooklaaDoor
open Go Go.RowKit
set_option linter.unusedVariables false
def valsB (l : List Int) : List UInt8 := l.flatMap fun n => 32 :: Lib.itoa n
def keyB (k : KV) : List UInt8 := 32 :: k.key.data.toList ++ valsB k.vals
def headB (x : IV) : List UInt8 := x.word.data.toList ++ (if x.name = ⟨#[]⟩ then [] else 32 :: x.name.data.toList)
def itemB (x : IV) : List UInt8 := headB x ++ x.keys.flatMap keyB ++ [59, 10]
def textB (l : List IV) : List UInt8 := l.flatMap itemB
def fmtR (l : List IV) : ByteArray × Bool := if (parseR ⟨(textB l).toArray⟩).2.1 ≠ 0 ∨ eqL eqX (parseR ⟨(textB l).toArray⟩).1 l = false then (⟨#[]⟩, false) else (⟨(textB l).toArray⟩, true)
theorem isb_below {T e : TypeId} {B b N : Nat} {bs : List Value} {w w' : World} (h : Lib.IsBuilder T e B b bs w) (hb : Below N w w') (hN : w.heap.size ≤ N) : Lib.IsBuilder T e B b bs w' := by
  have go : ∀ p, Lib.BuilderAt T e B b p bs w → Lib.BuilderAt T e B b p bs w' := fun p h => by
    obtain ⟨hB, v, hbk, hown, hne⟩ := h
    have hlt := (Array.getElem?_eq_some_iff.1 hbk).1
    exact ⟨hB, v, (hb.block b (Nat.lt_of_lt_of_le hlt hN)).trans hbk, own_below hown hb hN, hne⟩
  exact h.elim (fun h => .inl (go _ h)) (fun h => .inr (go _ h))
theorem kept_below {b N : Nat} {w w' : World} (hb : Below N w w') (hN : w.heap.size ≤ N) : Kept b w w' := fun k cs t f _ _ h => (hb.block k (Nat.lt_of_lt_of_le (Array.getElem?_eq_some_iff.1 h).1 hN)).trans h
theorem below_grow {w : World} (k : Nat) (os : Array Obj) : Below w.heap.size w (Sort.grow (w.drewN k) os) := by
  refine ⟨rfl, rfl, rfl, ?_, fun j hj => ?_⟩
  · rw [Sort.size_grow]
    show w.heap.size ≤ w.heap.size + _
    omega
  · rw [Sort.heap_grow_old _ _ (by show j < w.heap.size; exact hj)]
    rfl
theorem itoa_any (n : Int) (h0 : -9223372036854775808 ≤ n) (h1 : n ≤ 9223372036854775807) (w : World) (ht : Tabs w) :
    Calls Tryd.prog 34 #[.int .i64 n] w fun e w' => e = .returned (.string ⟨(Lib.itoa n).toArray⟩) ∧ Below w.heap.size w w' :=
  (Tryd.strconv_Itoa n h0 h1 w ht.pw).mono fun e w' ⟨he, k, os, hw⟩ => by subst hw; exact ⟨he, below_grow k os⟩
/-- A block of cells, whole. -/
def CX (w : World) (b : Nat) (cs : Array Value) (t : TypeId) : Prop := w.heap[b]? = some (.cells cs t (0, 0))
theorem CX.kept {w w' : World} {a b : Nat} {cs : Array Value} {t : TypeId} (h : CX w b cs t) (hk : Kept a w w') (hn : b ≠ a) (ht : t ≠ 5) : CX w' b cs t := hk b cs t (0, 0) hn ht h
theorem CX.new (w : World) (cs : Array Value) (t : TypeId) : CX (w.alloc (.cells cs t)) w.heap.size cs t := heap_alloc_new w _
theorem CX.c3 {w : World} {b : Nat} {v0 v1 v2 : Value} {t : TypeId} (h : CX w b #[v0, v1, v2] t) : C3 w b v0 v1 v2 := by
  unfold CX at h
  refine ⟨?_, ?_, ?_, fun o => ?_, (Array.getElem?_eq_some_iff.1 h).1⟩
  · simp [World.cell?, h]
  · simp [World.cell?, h]
  · simp [World.cell?, h]
  · exact Lib.frozen_of_heap h o
theorem CX.c4 {w : World} {b : Nat} {v0 v1 v2 v3 : Value} {t : TypeId} (h : CX w b #[v0, v1, v2, v3] t) : C4 w b v0 v1 v2 v3 := by
  unfold CX at h
  refine ⟨?_, ?_, ?_, ?_, fun o => ?_, (Array.getElem?_eq_some_iff.1 h).1⟩
  · simp [World.cell?, h]
  · simp [World.cell?, h]
  · simp [World.cell?, h]
  · simp [World.cell?, h]
  · exact Lib.frozen_of_heap h o
end Go.Proofs.YteondblmcooklaaDoor
