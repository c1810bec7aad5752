/-
  REGIONS WHERE AN ALLOCATION FLOATS: 'x, ok := f(g(a), h(b))', x boxed: the order of the calls is fixed, but the new block may come before, between or behind them. Every operation is taken once: the calls and readings first, whatever block the allocation gives. No program in sight.
-/
import Derived.Test.YtkoejgpnlncgaaaWarm
import Derived.Laws.Rows
namespace Go.Proofs.Ytkoejgpnlncgaaa
open Go Go.RowKit
set_option linter.unusedVariables false
section
variable {P : Program} {ops : Array Oper} {md : Region.Mode} {N : Nat} {W0 : World}
/-- The new blocks so far, with what they hold. -/
def SG (N : Nat) (W0 : World) (G : List (Nat × Obj)) (W : World) : Prop := Own N W0 W ∧ ∀ p ∈ G, N ≤ p.1 ∧ W.heap[p.1]? = some p.2
theorem SG.size {G : List (Nat × Obj)} {W : World} (h : SG N W0 G W) {p : Nat × Obj} (hp : p ∈ G) : p.1 < W.heap.size := by
  have h1 := (h.2 p hp).2
  exact (Array.getElem?_eq_some_iff.1 h1).1
theorem SG.below {G : List (Nat × Obj)} {W W' : World} (h : SG N W0 G W) (hb : Below W.heap.size W W') : SG N W0 G W' :=
  ⟨h.1.call hb, fun p hp => ⟨(h.2 p hp).1, by rw [hb.block _ (h.size hp)]; exact (h.2 p hp).2⟩⟩
theorem SG.alloc {G : List (Nat × Obj)} {W : World} (h : SG N W0 G W) (o : Obj) : SG N W0 ((W.heap.size, o) :: G) (W.alloc o) := by
  refine ⟨h.1.alloc o, fun p hp => ?_⟩
  rcases List.mem_cons.1 hp with rfl | hp
  · exact ⟨h.1.1, heap_alloc_new W o⟩
  · exact ⟨(h.2 p hp).1, by rw [Below.heap_alloc _ _ _ (h.size hp)]; exact (h.2 p hp).2⟩
/-- The operation gives v, and what was there stays. -/
def givesB (P : Program) (W : World) (v : Value) : Result Next → Prop
  | .ok (.value u) w' => u = v ∧ Below W.heap.size W w'
  | .ok .skip w' => v = undef ∧ Below W.heap.size W w'
  | .ok (.enter f args) w' => Calls P f args w' (fun e w'' => e = .returned v ∧ Below W.heap.size W w'')
  | _ => False
theorem givesB_value (W : World) (v u : Value) (w : World) : givesB P W v (.ok (.value u) w) = (u = v ∧ Below W.heap.size W w) := rfl
theorem givesB_skip (W : World) (v : Value) (w : World) : givesB P W v (.ok .skip w) = (v = undef ∧ Below W.heap.size W w) := rfl
theorem givesB_enter (W : World) (v : Value) (f : FuncId) (args : Array Value) (w : World) : givesB P W v (.ok (.enter f args) w) = Calls P f args w (fun e w'' => e = .returned v ∧ Below W.heap.size W w'') := rfl
def GivesH (P : Program) (N : Nat) (W0 : World) (o : Oper) (a : Act) (v : Value) : Prop := ∀ W, Own N W0 W → givesB P W v ((execOp a.eval o).run P W)
def YieldsH (P : Program) (ops : Array Oper) (N : Nat) (W0 : World) (o : Oper) (v : Value) (a : Act) : Prop :=
  (Region.wanted o (yielded ops a.tmps) = true ∧ GivesH P N W0 o a v) ∨ (Region.wanted o (yielded ops a.tmps) = false ∧ v = undef)
def FreshF (P : Program) (ops : Array Oper) (o : Oper) (a : Act) (ob : Obj) : Prop :=
  Region.wanted o (yielded ops a.tmps) = true ∧ ∀ W, (execOp a.eval o).run P W = .ok (.value (.pointer (some ⟨W.heap.size, 0, none⟩))) (W.alloc ob)
def EffE (P : Program) (ops : Array Oper) (N : Nat) (W0 : World) (o : Oper) (a : Act) (G : List (Nat × Obj)) (v : Value) (G' : List (Nat × Obj)) : Prop :=
  Region.wanted o (yielded ops a.tmps) = true ∧ ∀ W, SG N W0 G W → givesUpon P (SG N W0 G') v ((execOp a.eval o).run P W)
abbrev GK := List (Nat × Obj) → Act → Prop
def wfOp (P : Program) (ops : Array Oper) (N : Nat) (W0 : World) (i : Nat) (K : GK) (G : List (Nat × Obj)) (a : Act) : Prop :=
  match ops[i]? with
  | none => K G a
  | some o => (∃ v, YieldsH P ops N W0 o v a ∧ K G (a.put o.dst v)) ∨
      (∃ ob, FreshF P ops o a ob ∧ ∀ g, N ≤ g → (∀ p ∈ G, p.1 ≠ g) → K ((g, ob) :: G) (a.put o.dst (.pointer (some ⟨g, 0, none⟩)))) ∨
      (∃ v G', EffE P ops N W0 o a G v G' ∧ K G' (a.put o.dst v))
def wpF (P : Program) (md : Region.Mode) (ops : Array Oper) (N : Nat) (W0 : World) (L : GK) : Nat → Array Bool → GK
  | 0, listed, G, a => Region.ready md ops listed = [] ∧ L G a
  | f + 1, listed, G, a => Region.ready md ops listed ≠ [] ∧ ∀ i ∈ Region.ready md ops listed, wfOp P ops N W0 i (wpF P md ops N W0 L f (listed.setIfInBounds i true)) G a
theorem wfOp_mono {i : Nat} {a : Act} {G : List (Nat × Obj)} {K K' : GK} (h : ∀ G a, K G a → K' G a) (hh : wfOp P ops N W0 i K G a) : wfOp P ops N W0 i K' G a := by
  unfold wfOp at *
  split
  · rename_i ho; simp only [ho] at hh; exact h _ _ hh
  · rename_i o ho
    simp only [ho] at hh
    rcases hh with ⟨v, hy, hk⟩ | ⟨ob, hf, hk⟩ | ⟨v, G', he, hk⟩
    · exact .inl ⟨v, hy, h _ _ hk⟩
    · exact .inr (.inl ⟨ob, hf, fun g hN hg => h _ _ (hk g hN hg)⟩)
    · exact .inr (.inr ⟨v, G', he, h _ _ hk⟩)
theorem YieldsH.of_same {o : Oper} {v : Value} {a a' : Act} (hy : YieldsH P ops N W0 o v a) (he : execOp a'.eval o = execOp a.eval o)
    (hw : Region.wanted o (yielded ops a'.tmps) = Region.wanted o (yielded ops a.tmps)) : YieldsH P ops N W0 o v a' := by
  unfold YieldsH GivesH at *; rw [he, hw]; exact hy
/-- Another operation, behind one that may come first: the latter may come behind it. -/
theorem wfOp_put {j : Nat} {oi oj : Oper} {v : Value} (hj : ops[j]? = some oj) (hap : oi.apart ops oj = true)
    (hsi : ∀ cs b, oi.op ≠ .select cs b) (hsj : ∀ cs b, oj.op ≠ .select cs b) {K : GK} {G : List (Nat × Obj)} {a : Act}
    (hy : YieldsH P ops N W0 oi v a) (h : wfOp P ops N W0 j K G (a.put oi.dst v)) :
    wfOp P ops N W0 j (fun G' a' => YieldsH P ops N W0 oi v a' ∧ K G' (a'.put oi.dst v)) G a := by
  obtain ⟨h1, h2, h3⟩ := Oper.apart_spec hap
  have keep : ∀ u, YieldsH P ops N W0 oi v (a.put oj.dst u) := fun u => hy.of_same (execOp_put oi hsi a oj.dst u h3) (wanted_put oi a oj.dst u h3)
  have e1 := execOp_put oj hsj a oi.dst v h1
  have e2 := wanted_put oj a oi.dst v h1
  unfold wfOp at *
  simp only [hj] at *
  rcases h with ⟨u, hu, hk⟩ | ⟨ob, hf, hk⟩ | ⟨u, G', he, hk⟩
  · exact .inl ⟨u, hu.of_same e1.symm e2.symm, keep u, by rw [← Act.put_comm a v u h2]; exact hk⟩
  · refine .inr (.inl ⟨ob, ?_, fun g hN hg => ⟨keep _, by rw [← Act.put_comm a v _ h2]; exact hk g hN hg⟩⟩)
    unfold FreshF at *; rw [e1, e2] at hf; exact hf
  · refine .inr (.inr ⟨u, G', ?_, keep u, by rw [← Act.put_comm a v u h2]; exact hk⟩)
    unfold EffE at *; rw [e1, e2] at he; exact he
theorem wpF_first {i : Nat} {oi : Oper} {v : Value} {L : GK} (hi : ops[i]? = some oi) (hsel : ∀ (j : Nat) (o : Oper) cs b, ops[j]? = some o → o.op ≠ .select cs b) :
    ∀ (f : Nat) (listed : Array Bool) (G : List (Nat × Obj)) (a : Act),
      (∀ j oj, ops[j]? = some oj → j ≠ i → listed.getD j true = false → (∀ e ∈ oj.after, Region.binds md e = true → e.on ≠ i) → oi.apart ops oj = true) →
      i ∈ Region.ready md ops listed → YieldsH P ops N W0 oi v a →
      wpF P md ops N W0 L f (listed.setIfInBounds i true) G (a.put oi.dst v) → wpF P md ops N W0 L (f + 1) listed G a := by
  intro f
  induction f with
  | zero =>
    intro listed G a _ hr hy H
    refine ⟨fun h => (by rw [h] at hr; cases hr), fun j hj => ?_⟩
    by_cases hji : j = i
    · subst hji
      unfold wfOp
      simp only [hi]
      exact .inl ⟨v, hy, H⟩
    · have := ready_mono hj hji
      rw [H.1] at this
      cases this
  | succ f ih =>
    intro listed G a hfree hr hy H
    have hun := (mem_ready.1 hr).1
    refine ⟨fun h => (by rw [h] at hr; cases hr), fun j hj => ?_⟩
    by_cases hji : j = i
    · subst hji
      unfold wfOp
      simp only [hi]
      exact .inl ⟨v, hy, H⟩
    · have h1 := H.2 j (ready_mono hj hji)
      obtain ⟨hjun, oj, hoj, hall⟩ := mem_ready.1 hj
      have hnot : ∀ e ∈ oj.after, Region.binds md e = true → e.on ≠ i := fun e he hb heq => by
        have h1 := hall e he hb
        rw [heq, getD_both hun] at h1
        cases h1
      have h2 := wfOp_put hoj (hfree j oj hoj hji hjun hnot) (fun cs b => hsel i oi cs b hi) (fun cs b => hsel j oj cs b hoj) hy h1
      have hfree' : ∀ k ok, ops[k]? = some ok → k ≠ i → (listed.setIfInBounds j true).getD k true = false →
          (∀ e ∈ ok.after, Region.binds md e = true → e.on ≠ i) → oi.apart ops ok = true := fun k ok hk hki hun hno => by
        refine hfree k ok hk hki ?_ hno
        by_cases hjk : j = k
        · subst hjk; exact hjun
        · rw [getD_set_ne true hjk] at hun; exact hun
      refine wfOp_mono (fun G' a' h3 => ih (listed.setIfInBounds j true) G' a' hfree' (ready_mono hr (Ne.symm hji)) h3.1 ?_) h2
      rw [Array.setIfInBounds_comm _ _ hji]
      exact h3.2
theorem wpOp_of_wfOp {i : Nat} {a : Act} {w : World} {G : List (Nat × Obj)} {K : GK} {K' : Act → World → Prop} {Q' : Exit → Act → World → Prop} (hS : SG N W0 G w)
    (h : ∀ G a w, SG N W0 G w → K G a → K' a w) (hh : wfOp P ops N W0 i K G a) : wpOp P ops Q' i K' a w := by
  unfold wfOp at hh
  unfold wpOp
  split
  · rename_i ho; simp only [ho] at hh; exact h _ _ _ hS hh
  · rename_i o ho
    simp only [ho] at hh
    rcases hh with ⟨v, hy, hk⟩ | ⟨ob, ⟨hw, hf⟩, hk⟩ | ⟨v, G', ⟨hw, he⟩, hk⟩
    · rcases hy with ⟨hw, hg⟩ | ⟨hw, rfl⟩
      · rw [if_pos hw]
        refine .inl ?_
        have hg := hg w hS.1
        unfold Oper.wp
        generalize (execOp a.eval o).run P w = r at *
        cases r with
        | ok nx w' =>
          cases nx <;> simp only [givesB, Oper.upon] at hg ⊢
          case value u => obtain ⟨rfl, h2⟩ := hg; exact h _ _ _ (hS.below h2) hk
          case skip => obtain ⟨rfl, h2⟩ := hg; exact h _ _ _ (hS.below h2) hk
          case enter f args => exact hg.mono fun e w'' ⟨he, hw⟩ => by subst he; exact h _ _ _ (hS.below hw) hk
        | halt x w' => simp only [givesB] at hg
      · rw [if_neg (by simp [hw])]
        exact h _ _ _ hS hk
    · rw [if_pos hw]
      refine .inl ?_
      unfold Oper.wp
      rw [hf w]
      exact h _ _ _ (hS.alloc ob) (hk _ hS.1.1 (fun p hp e => by have := hS.size hp; omega))
    · rw [if_pos hw]
      refine .inl ?_
      have hg := he w hS
      unfold Oper.wp
      generalize (execOp a.eval o).run P w = r at *
      cases r with
      | ok nx w' =>
        cases nx <;> simp only [givesUpon, Oper.upon] at hg ⊢
        case value u => obtain ⟨rfl, h2⟩ := hg; exact h _ _ _ h2 hk
        case skip => obtain ⟨rfl, h2⟩ := hg; exact h _ _ _ h2 hk
        case enter f args => exact hg.mono fun e w'' ⟨he, hw⟩ => by subst he; exact h _ _ _ hw hk
      | halt x w' => simp only [givesUpon] at hg
theorem wpAny_of_wpF {L : GK} {Q' : Exit → Act → World → Prop} (hL : ∀ G a w, SG N W0 G w → L G a → Q' .normal a w) :
    ∀ (f : Nat) (listed : Array Bool) (G : List (Nat × Obj)) (a : Act) (w : World), SG N W0 G w → wpF P md ops N W0 L f listed G a → wpAny P md ops Q' f listed a w
  | 0, listed, G, a, w, hS, h => ⟨h.1, hL _ _ _ hS h.2⟩
  | f + 1, listed, G, a, w, hS, h => ⟨fun h0 => absurd h0 h.1, fun i hi => wpOp_of_wfOp hS (fun G' a' w' hS' h' => wpAny_of_wpF hL f _ G' a' w' hS' h') (h.2 i hi)⟩
/-- The region, taken so. -/
theorem wp_region_float {id : Nat} {Q : Exit → Act → World → Prop} {a : Act} {l : List Oper} {W0 : World} (hm : P.follows .mixedOrders = true)
    (h : wpF P .any l.toArray W0.heap.size W0 (fun G a' => ∀ w', SG W0.heap.size W0 G w' → Q .normal a' w') l.length (Array.replicate l.length false) [] a) : (Code.region id l.toArray true).wp P Q a W0 := by
  refine wp_region_any hm ?_
  have := wpAny_of_wpF (Q' := Q) (fun G a w hS hL => hL w hS) _ _ [] a W0.drew ⟨(Own.refl (Nat.le_refl _)).drew, fun p hp => by cases hp⟩ h
  simpa using this
/-- One operation that may come first. -/
theorem wpF_step {i f : Nat} {o : Oper} {L : GK} {listed : Array Bool} {G : List (Nat × Obj)} {a : Act} (hi : ops[i]? = some o) (hB : (Region.noSelect ops && (Region.ready md ops listed).contains i && Region.free md ops listed i) = true) (hg : o.guard = none) (v : Value)
    (h : GivesH P N W0 o a v) (hk : ∀ K : Act → Prop, (∀ a, wpF P md ops N W0 L f (listed.setIfInBounds i true) G a → K a) → K (a.put o.dst v)) : wpF P md ops N W0 L (f + 1) listed G a := by
  simp only [Bool.and_eq_true] at hB
  obtain ⟨⟨hs, hr⟩, hf⟩ := hB
  exact wpF_first hi (Region.noSelect_spec hs) f listed G a (Region.free_spec hi hf) (by simpa using hr) (.inl ⟨by simp [Region.wanted, hg], h⟩) (hk _ fun _ h => h)
theorem wpF_step_on {i f : Nat} {o : Oper} {L : GK} {listed : Array Bool} {G : List (Nat × Obj)} {a : Act} (hi : ops[i]? = some o) (hB : (Region.noSelect ops && (Region.ready md ops listed).contains i && Region.free md ops listed i) = true) (hg : Region.wanted o (yielded ops a.tmps) = true) (v : Value)
    (h : GivesH P N W0 o a v) (hk : ∀ K : Act → Prop, (∀ a, wpF P md ops N W0 L f (listed.setIfInBounds i true) G a → K a) → K (a.put o.dst v)) : wpF P md ops N W0 L (f + 1) listed G a := by
  simp only [Bool.and_eq_true] at hB
  obtain ⟨⟨hs, hr⟩, hf⟩ := hB
  exact wpF_first hi (Region.noSelect_spec hs) f listed G a (Region.free_spec hi hf) (by simpa using hr) (.inl ⟨hg, h⟩) (hk _ fun _ h => h)
theorem wpF_step_off {i f : Nat} {o : Oper} {L : GK} {listed : Array Bool} {G : List (Nat × Obj)} {a : Act} (hi : ops[i]? = some o) (hB : (Region.noSelect ops && (Region.ready md ops listed).contains i && Region.free md ops listed i) = true) (hg : Region.wanted o (yielded ops a.tmps) = false)
    (hk : ∀ K : Act → Prop, (∀ a, wpF P md ops N W0 L f (listed.setIfInBounds i true) G a → K a) → K (a.put o.dst undef)) : wpF P md ops N W0 L (f + 1) listed G a := by
  simp only [Bool.and_eq_true] at hB
  obtain ⟨⟨hs, hr⟩, hf⟩ := hB
  exact wpF_first hi (Region.noSelect_spec hs) f listed G a (Region.free_spec hi hf) (by simpa using hr) (.inr ⟨hg, rfl⟩) (hk _ fun _ h => h)
/-- The one operation that may come now: a new block. -/
theorem wpF_fresh {i f : Nat} {o : Oper} {L : GK} {listed : Array Bool} {G : List (Nat × Obj)} {a : Act} (hi : ops[i]? = some o) (hB : decide (Region.ready md ops listed = [i]) = true) (hg : o.guard = none) (ob : Obj)
    (h : ∀ W, (execOp a.eval o).run P W = .ok (.value (.pointer (some ⟨W.heap.size, 0, none⟩))) (W.alloc ob))
    (hk : ∀ g, N ≤ g → (∀ p ∈ G, p.1 ≠ g) → ∀ K : Act → Prop, (∀ a, wpF P md ops N W0 L f (listed.setIfInBounds i true) ((g, ob) :: G) a → K a) → K (a.put o.dst (.pointer (some ⟨g, 0, none⟩)))) : wpF P md ops N W0 L (f + 1) listed G a := by
  rw [decide_eq_true_eq] at hB
  refine ⟨fun h0 => (by rw [h0] at hB; cases hB), fun j hj => ?_⟩
  rw [hB] at hj
  obtain rfl : j = i := by simpa using hj
  unfold wfOp
  simp only [hi]
  exact .inr (.inl ⟨ob, ⟨by simp [Region.wanted, hg], h⟩, fun g hN hgG => hk g hN hgG _ fun _ h => h⟩)
/-- The one operation that may come now: a store into a new block. -/
theorem wpF_eff {i f : Nat} {o : Oper} {L : GK} {listed : Array Bool} {G : List (Nat × Obj)} {a : Act} (hi : ops[i]? = some o) (hB : decide (Region.ready md ops listed = [i]) = true) (hg : o.guard = none) (G' : List (Nat × Obj))
    (h : ∀ W, SG N W0 G W → givesUpon P (SG N W0 G') undef ((execOp a.eval o).run P W))
    (hk : ∀ K : Act → Prop, (∀ a, wpF P md ops N W0 L f (listed.setIfInBounds i true) G' a → K a) → K (a.put o.dst undef)) : wpF P md ops N W0 L (f + 1) listed G a := by
  rw [decide_eq_true_eq] at hB
  refine ⟨fun h0 => (by rw [h0] at hB; cases hB), fun j hj => ?_⟩
  rw [hB] at hj
  obtain rfl : j = i := by simpa using hj
  unfold wfOp
  simp only [hi]
  exact .inr (.inr ⟨undef, G', ⟨by simp [Region.wanted, hg], h⟩, hk _ fun _ h => h⟩)
theorem wpF_done {L : GK} {listed : Array Bool} {G : List (Nat × Obj)} {a : Act} (hB : (Region.ready md ops listed).isEmpty = true) (h : L G a) : wpF P md ops N W0 L 0 listed G a := ⟨by simpa using hB, h⟩
/-- A store into a block of two cells. -/
theorem SG.put {G : List (Nat × Obj)} {W : World} {g : Nat} {cs : Array Value} {T : TypeId} (h : SG N W0 ((g, .cells cs T) :: G) W) (hG : ∀ p ∈ G, p.1 ≠ g) (k : Nat) (x : Value) :
    SG N W0 ((g, .cells (cs.setIfInBounds k x) T) :: G) (W.setCell ⟨g, k, none⟩ x) := by
  have h0 := h.2 (g, .cells cs T) (by simp)
  refine ⟨h.1.setCell h0.1 _, fun p hp => ?_⟩
  rcases List.mem_cons.1 hp with rfl | hp
  · refine ⟨h0.1, ?_⟩
    have h1 := h0.2
    simp only at h1
    simp [World.setCell, Array.getElem?_modify, h1]
  · have h2 := h.2 p (by simp [hp])
    refine ⟨h2.1, ?_⟩
    rw [Below.heap_setCell _ _ _ _ (hG p hp)]
    exact h2.2
end
attribute [go_sem] givesB_value givesB_skip givesB_enter
end Go.Proofs.Ytkoejgpnlncgaaa
