/-
  REGIONS THAT DRAW THEIR ORDER, EACH OPERATION TAKEN ONCE: readings, and calls of which the result is known, come first; a call of whatever result is taken where it alone (beside new blocks) may come; a new block may come before, between or behind the calls: whatever block it is. Behind the head a tail in the order of the text. No program in sight.
-/
import Derived.Test.YteondblmcooklaaDoorWarm
import Derived.Laws.Rows
namespace Go.Proofs.YteondblmcooklaaDoor
open Go Go.RowKit
set_option linter.unusedVariables false
section
variable {P : Program} {ops : Array Oper} {md : Region.Mode} {N : Nat} {W0 : World}
/-- The new blocks so far, with what they hold. -/
def SG (N : Nat) (W0 : World) (G : List (Nat × Obj)) (W : World) : Prop := Own N W0 W ∧ ∀ p ∈ G, N ≤ p.1 ∧ W.heap[p.1]? = some p.2
theorem SG.size {G : List (Nat × Obj)} {W : World} (h : SG N W0 G W) {p : Nat × Obj} (hp : p ∈ G) : p.1 < W.heap.size := by
  have h1 := (h.2 p hp).2
  exact (Array.getElem?_eq_some_iff.1 h1).1
theorem SG.below {G : List (Nat × Obj)} {W W' : World} (h : SG N W0 G W) (hb : Below W.heap.size W W') : SG N W0 G W' :=
  ⟨h.1.call hb, fun p hp => ⟨(h.2 p hp).1, by rw [hb.block _ (h.size hp)]; exact (h.2 p hp).2⟩⟩
theorem SG.alloc {G : List (Nat × Obj)} {W : World} (h : SG N W0 G W) (o : Obj) : SG N W0 ((W.heap.size, o) :: G) (W.alloc o) := by
  refine ⟨h.1.alloc o, fun p hp => ?_⟩
  rcases List.mem_cons.1 hp with rfl | hp
  · exact ⟨h.1.1, heap_alloc_new W o⟩
  · exact ⟨(h.2 p hp).1, by rw [Below.heap_alloc _ _ _ (h.size hp)]; exact (h.2 p hp).2⟩
/-- The operation gives v, and what was there stays. -/
def givesB (P : Program) (W : World) (v : Value) : Result Next → Prop
  | .ok (.value u) w' => u = v ∧ Below W.heap.size W w'
  | .ok .skip w' => v = undef ∧ Below W.heap.size W w'
  | .ok (.enter f args) w' => Calls P f args w' (fun e w'' => e = .returned v ∧ Below W.heap.size W w'')
  | _ => False
theorem givesB_value (W : World) (v u : Value) (w : World) : givesB P W v (.ok (.value u) w) = (u = v ∧ Below W.heap.size W w) := rfl
theorem givesB_skip (W : World) (v : Value) (w : World) : givesB P W v (.ok .skip w) = (v = undef ∧ Below W.heap.size W w) := rfl
theorem givesB_enter (W : World) (v : Value) (f : FuncId) (args : Array Value) (w : World) : givesB P W v (.ok (.enter f args) w) = Calls P f args w (fun e w'' => e = .returned v ∧ Below W.heap.size W w'') := rfl

/-- What holds of a world and goes on holding while nothing that was there is touched. -/
def Cl (F : World → Prop) : Prop := ∀ W W', F W → Below W.heap.size W W' → F W'
theorem Cl.and {F F' : World → Prop} (h : Cl F) (h' : Cl F') : Cl (fun W => F W ∧ F' W) := fun W W' k hb => ⟨h W W' k.1 hb, h' W W' k.2 hb⟩
theorem Cl.tt : Cl (fun _ => True) := fun _ _ _ _ => trivial
def XPost (W : World) (K : Value → (World → Prop) → Prop) (e : Ending) (w'' : World) : Prop := ∃ (v : Value) (F : World → Prop), e = .returned v ∧ Below W.heap.size W w'' ∧ F w'' ∧ Cl F ∧ K v F
theorem XPost.mk {W w'' : World} {K : Value → (World → Prop) → Prop} (v : Value) (F : World → Prop) (hb : Below W.heap.size W w'') (hF : F w'') (hC : Cl F) (hK : K v F) : XPost W K (.returned v) w'' := ⟨v, F, rfl, hb, hF, hC, hK⟩
def givesX (P : Program) (W : World) (K : Value → (World → Prop) → Prop) : Result Next → Prop
  | .ok (.value u) w' => ∃ F : World → Prop, Below W.heap.size W w' ∧ F w' ∧ Cl F ∧ K u F
  | .ok .skip w' => ∃ F : World → Prop, Below W.heap.size W w' ∧ F w' ∧ Cl F ∧ K undef F
  | .ok (.enter f args) w' => Calls P f args w' (XPost W K)
  | _ => False
theorem givesX_enter (W : World) (K : Value → (World → Prop) → Prop) (f : FuncId) (args : Array Value) (w : World) : givesX P W K (.ok (.enter f args) w) = Calls P f args w (XPost W K) := rfl
theorem givesX_value (W : World) (K : Value → (World → Prop) → Prop) (u : Value) (w : World) : givesX P W K (.ok (.value u) w) = ∃ F : World → Prop, Below W.heap.size W w ∧ F w ∧ Cl F ∧ K u F := rfl
theorem givesX_mono {W : World} {K K' : Value → (World → Prop) → Prop} (h : ∀ v F, K v F → K' v F) : ∀ r, givesX P W K r → givesX P W K' r := by
  intro r hr
  match r, hr with
  | .ok (.value u) w', ⟨F, a, b, c, d⟩ => exact ⟨F, a, b, c, h _ _ d⟩
  | .ok .skip w', ⟨F, a, b, c, d⟩ => exact ⟨F, a, b, c, h _ _ d⟩
  | .ok (.enter f args) w', hr => exact Calls.mono hr fun e w'' ⟨v, F, e1, a, b, c, d⟩ => ⟨v, F, e1, a, b, c, h _ _ d⟩
def GivesH (P : Program) (N : Nat) (W0 : World) (o : Oper) (a : Act) (v : Value) : Prop := ∀ W, Own N W0 W → givesB P W v ((execOp a.eval o).run P W)
def YieldsH (P : Program) (ops : Array Oper) (N : Nat) (W0 : World) (o : Oper) (v : Value) (a : Act) : Prop :=
  (Region.wanted o (yielded ops a.tmps) = true ∧ GivesH P N W0 o a v) ∨ (Region.wanted o (yielded ops a.tmps) = false ∧ v = undef)
def FreshF (P : Program) (ops : Array Oper) (o : Oper) (a : Act) (ob : Obj) : Prop :=
  Region.wanted o (yielded ops a.tmps) = true ∧ ∀ W, (execOp a.eval o).run P W = .ok (.value (.pointer (some ⟨W.heap.size, 0, none⟩))) (W.alloc ob)
/-- Of the state: what is known of the world, the new blocks, the frame. -/
abbrev GK := (World → Prop) → List (Nat × Obj) → Act → Prop
/-- What an operation that may touch blocks from N on leaves. -/
def WPost (N : Nat) (W0 : World) (K : Value → (World → Prop) → List (Nat × Obj) → Prop) (e : Ending) (w : World) : Prop := ∃ (v : Value) (F : World → Prop) (G : List (Nat × Obj)), e = .returned v ∧ F w ∧ Cl F ∧ SG N W0 G w ∧ K v F G
theorem WPost.mk {N : Nat} {W0 w : World} {K : Value → (World → Prop) → List (Nat × Obj) → Prop} (v : Value) (F : World → Prop) (G : List (Nat × Obj)) (hF : F w) (hC : Cl F) (hS : SG N W0 G w) (hK : K v F G) : WPost N W0 K (.returned v) w := ⟨v, F, G, rfl, hF, hC, hS, hK⟩
def givesW (P : Program) (N : Nat) (W0 : World) (K : Value → (World → Prop) → List (Nat × Obj) → Prop) : Result Next → Prop
  | .ok (.value u) w' => WPost N W0 K (.returned u) w'
  | .ok .skip w' => WPost N W0 K (.returned undef) w'
  | .ok (.enter f args) w' => Calls P f args w' (WPost N W0 K)
  | _ => False
theorem givesW_value (K : Value → (World → Prop) → List (Nat × Obj) → Prop) (u : Value) (w : World) : givesW P N W0 K (.ok (.value u) w) = WPost N W0 K (.returned u) w := rfl
theorem givesW_skip (K : Value → (World → Prop) → List (Nat × Obj) → Prop) (w : World) : givesW P N W0 K (.ok .skip w) = WPost N W0 K (.returned undef) w := rfl
theorem givesW_enter (K : Value → (World → Prop) → List (Nat × Obj) → Prop) (f : FuncId) (args : Array Value) (w : World) : givesW P N W0 K (.ok (.enter f args) w) = Calls P f args w (WPost N W0 K) := rfl
theorem WPost.mono {K K' : Value → (World → Prop) → List (Nat × Obj) → Prop} (h : ∀ v F G, K v F G → K' v F G) {e : Ending} {w : World} (hh : WPost N W0 K e w) : WPost N W0 K' e w := by
  obtain ⟨v, F, G, a, b, c, d, k⟩ := hh; exact ⟨v, F, G, a, b, c, d, h _ _ _ k⟩
theorem givesW_mono {K K' : Value → (World → Prop) → List (Nat × Obj) → Prop} (h : ∀ v F G, K v F G → K' v F G) : ∀ r, givesW P N W0 K r → givesW P N W0 K' r := by
  intro r hr
  match r, hr with
  | .ok (.value u) w', hr => exact WPost.mono h hr
  | .ok .skip w', hr => exact WPost.mono h hr
  | .ok (.enter f args) w', hr => exact Calls.mono hr fun e w'' h' => WPost.mono h h'
def WildX (P : Program) (ops : Array Oper) (N : Nat) (W0 : World) (o : Oper) (a : Act) (K : GK) (F : World → Prop) (G : List (Nat × Obj)) : Prop :=
  Region.wanted o (yielded ops a.tmps) = true ∧ ∀ W, F W → SG N W0 G W → givesW P N W0 (fun v F' G' => K F' G' (a.put o.dst v)) ((execOp a.eval o).run P W)
def CallX (P : Program) (ops : Array Oper) (N : Nat) (W0 : World) (o : Oper) (a : Act) (K : GK) (F : World → Prop) (G : List (Nat × Obj)) : Prop :=
  Region.wanted o (yielded ops a.tmps) = true ∧ ∀ W, F W → SG N W0 G W → givesX P W (fun v F' => K (fun W => F W ∧ F' W) G (a.put o.dst v)) ((execOp a.eval o).run P W)

def isAlloc (o : Oper) : Bool := match o.op with | .alloc _ => o.guard.isNone | _ => false
def wfOp (P : Program) (ops : Array Oper) (N : Nat) (W0 : World) (i : Nat) (K : GK) (F : World → Prop) (G : List (Nat × Obj)) (a : Act) : Prop :=
  match ops[i]? with
  | none => False
  | some o => if isAlloc o = true then ∃ ob, FreshF P ops o a ob ∧ ∀ g, N ≤ g → (∀ p ∈ G, p.1 ≠ g) → K F ((g, ob) :: G) (a.put o.dst (.pointer (some ⟨g, 0, none⟩)))
      else (∃ v, YieldsH P ops N W0 o v a ∧ K F G (a.put o.dst v)) ∨
      WildX P ops N W0 o a K F G ∨
      CallX P ops N W0 o a K F G
/-- The operations from n on wait each for all those ahead of n. -/
def tailB (md : Region.Mode) (ops : Array Oper) (n : Nat) : Bool :=
  Region.noSelect ops && (List.range ops.size).all fun t => decide (t < n) || match ops[t]? with
    | some o => (List.range n).all fun i => o.after.any fun e => Region.binds md e && e.on == i
    | none => true
theorem tailB_spec {n t i : Nat} {listed : Array Bool} (h : tailB md ops n = true) (ht : t ∈ Region.ready md ops listed) (hi : i < n) (hun : listed.getD i true = false) : t < n := by
  rcases Nat.lt_or_ge t n with hlt | hge
  · exact hlt
  · obtain ⟨_, o, ho, hall⟩ := mem_ready.1 ht
    simp only [tailB, Bool.and_eq_true, List.all_eq_true, List.mem_range] at h
    have h1 := h.2 t (Array.getElem?_eq_some_iff.1 ho).1
    simp only [ho, Bool.or_eq_true, decide_eq_true_eq, List.all_eq_true, List.mem_range] at h1
    rcases h1 with h1 | h1
    · omega
    · obtain ⟨e, he, hb⟩ := Array.any_eq_true'.1 (h1 i hi)
      simp only [Bool.and_eq_true, beq_iff_eq] at hb
      have := hall e he hb.1
      rw [hb.2, getD_both hun] at this
      cases this
abbrev LK := Array Bool → GK
def wpF (P : Program) (md : Region.Mode) (ops : Array Oper) (N : Nat) (W0 : World) (n : Nat) (L : GK) : Nat → LK
  | 0, listed, F, G, a => Region.seqB md ops (ops.size - n) n listed = true ∧ L F G a
  | f + 1, listed, F, G, a => Region.ready md ops listed ≠ [] ∧ ∀ i ∈ Region.ready md ops listed, wfOp P ops N W0 i (wpF P md ops N W0 n L f (listed.setIfInBounds i true)) F G a
theorem wfOp_mono {i : Nat} {a : Act} {F : World → Prop} {G : List (Nat × Obj)} {K K' : GK} (h : ∀ F G a, K F G a → K' F G a) (hh : wfOp P ops N W0 i K F G a) : wfOp P ops N W0 i K' F G a := by
  unfold wfOp at *
  split
  · rename_i ho; simp only [ho] at hh
  · rename_i o ho
    simp only [ho] at hh
    split at hh
    · rename_i ha
      rw [if_pos ha]
      obtain ⟨ob, hf, hk⟩ := hh
      exact ⟨ob, hf, fun g hN hg => h _ _ _ (hk g hN hg)⟩
    · rename_i ha
      rw [if_neg ha]
      rcases hh with ⟨v, hy, hk⟩ | ⟨hw, hx⟩ | ⟨hw, hx⟩
      · exact .inl ⟨v, hy, h _ _ _ hk⟩
      · exact .inr (.inl ⟨hw, fun W hF hS => givesW_mono (fun v F' G' hk => h _ _ _ hk) _ (hx W hF hS)⟩)
      · exact .inr (.inr ⟨hw, fun W hF hS => givesX_mono (fun v F' hk => h _ _ _ hk) _ (hx W hF hS)⟩)
theorem YieldsH.of_same {o : Oper} {v : Value} {a a' : Act} (hy : YieldsH P ops N W0 o v a) (he : execOp a'.eval o = execOp a.eval o)
    (hw : Region.wanted o (yielded ops a'.tmps) = Region.wanted o (yielded ops a.tmps)) : YieldsH P ops N W0 o v a' := by
  unfold YieldsH GivesH at *; rw [he, hw]; exact hy
/-- Another operation, behind one that may come first: the latter may come behind it. -/
theorem wfOp_put {j : Nat} {oi oj : Oper} {v : Value} (hj : ops[j]? = some oj) (hap : oi.apart ops oj = true)
    (hsi : ∀ cs b, oi.op ≠ .select cs b) (hsj : ∀ cs b, oj.op ≠ .select cs b) {K : GK} {F : World → Prop} {G : List (Nat × Obj)} {a : Act}
    (hy : YieldsH P ops N W0 oi v a) (h : wfOp P ops N W0 j K F G (a.put oi.dst v)) :
    wfOp P ops N W0 j (fun F' G' a' => YieldsH P ops N W0 oi v a' ∧ K F' G' (a'.put oi.dst v)) F G a := by
  obtain ⟨h1, h2, h3⟩ := Oper.apart_spec hap
  have keep : ∀ u, YieldsH P ops N W0 oi v (a.put oj.dst u) := fun u => hy.of_same (execOp_put oi hsi a oj.dst u h3) (wanted_put oi a oj.dst u h3)
  have e1 := execOp_put oj hsj a oi.dst v h1
  have e2 := wanted_put oj a oi.dst v h1
  unfold wfOp at *
  simp only [hj] at *
  split at h
  · rename_i ha
    rw [if_pos ha]
    obtain ⟨ob, hf, hk⟩ := h
    refine ⟨ob, ?_, fun g hN hg => ⟨keep _, by rw [← Act.put_comm a v _ h2]; exact hk g hN hg⟩⟩
    unfold FreshF at *; rw [e1, e2] at hf; exact hf
  · rename_i ha
    rw [if_neg ha]
    rcases h with ⟨u, hu, hk⟩ | ⟨hw, hx⟩ | ⟨hw, hx⟩
    · exact .inl ⟨u, hu.of_same e1.symm e2.symm, keep u, by rw [← Act.put_comm a v u h2]; exact hk⟩
    · refine .inr (.inl ⟨by rw [← e2]; exact hw, fun W hF hS => ?_⟩)
      have := hx W hF hS
      rw [e1] at this
      exact givesW_mono (fun u F' G' hk => ⟨keep u, by rw [← Act.put_comm a v u h2]; exact hk⟩) _ this
    · refine .inr (.inr ⟨by rw [← e2]; exact hw, fun W hF hS => ?_⟩)
      have := hx W hF hS
      rw [e1] at this
      exact givesX_mono (fun u F' hk => ⟨keep u, by rw [← Act.put_comm a v u h2]; exact hk⟩) _ this
theorem seqB_mem {g k : Nat} {listed : Array Bool} (h : Region.seqB md ops g k listed = true) : ∀ j ∈ Region.ready md ops listed, k ≤ j := seqB_ready h
theorem wpF_first {i n : Nat} {oi : Oper} {v : Value} {L : GK} (hT : tailB md ops n = true) (hin : i < n) (hi : ops[i]? = some oi) (ha : isAlloc oi = false) :
    ∀ (f : Nat) (listed : Array Bool) (F : World → Prop) (G : List (Nat × Obj)) (a : Act),
      (∀ j oj, ops[j]? = some oj → j ≠ i → listed.getD j true = false → (∀ e ∈ oj.after, Region.binds md e = true → e.on ≠ i) → oi.apart ops oj = true) →
      i ∈ Region.ready md ops listed → YieldsH P ops N W0 oi v a →
      wpF P md ops N W0 n L f (listed.setIfInBounds i true) F G (a.put oi.dst v) → wpF P md ops N W0 n L (f + 1) listed F G a := by
  have hsel := Region.noSelect_spec (by have := hT; unfold tailB at this; rw [Bool.and_eq_true] at this; exact this.1)
  have base : ∀ (F : World → Prop) (G : List (Nat × Obj)) (a : Act), YieldsH P ops N W0 oi v a → ∀ K : GK, K F G (a.put oi.dst v) → wfOp P ops N W0 i K F G a := by
    intro F G a hy K H
    unfold wfOp
    simp only [hi]
    rw [if_neg (by rw [ha]; exact Bool.false_ne_true)]
    exact .inl ⟨v, hy, H⟩
  intro f
  induction f with
  | zero =>
    intro listed F G a hfree hr hy H
    have hun := (mem_ready.1 hr).1
    refine ⟨fun h => (by rw [h] at hr; cases hr), fun j hj => ?_⟩
    by_cases hji : j = i
    · subst hji
      exact base _ _ _ hy _ H
    · have h1 := seqB_mem H.1 j (ready_mono hj hji)
      have h2 := tailB_spec hT hj hin hun
      omega
  | succ f ih =>
    intro listed F G a hfree hr hy H
    have hun := (mem_ready.1 hr).1
    refine ⟨fun h => (by rw [h] at hr; cases hr), fun j hj => ?_⟩
    by_cases hji : j = i
    · subst hji
      exact base _ _ _ hy _ H
    · have h1 := H.2 j (ready_mono hj hji)
      obtain ⟨hjun, oj, hoj, hall⟩ := mem_ready.1 hj
      have hnot : ∀ e ∈ oj.after, Region.binds md e = true → e.on ≠ i := fun e he hb heq => by
        have h1 := hall e he hb
        rw [heq, getD_both hun] at h1
        cases h1
      have h2 := wfOp_put hoj (hfree j oj hoj hji hjun hnot) (fun cs b => hsel i oi cs b hi) (fun cs b => hsel j oj cs b hoj) hy h1
      have hfree' : ∀ k ok, ops[k]? = some ok → k ≠ i → (listed.setIfInBounds j true).getD k true = false →
          (∀ e ∈ ok.after, Region.binds md e = true → e.on ≠ i) → oi.apart ops ok = true := fun k ok hk hki hun hno => by
        refine hfree k ok hk hki ?_ hno
        by_cases hjk : j = k
        · subst hjk; exact hjun
        · rw [getD_set_ne true hjk] at hun; exact hun
      refine wfOp_mono (fun F' G' a' h3 => ih (listed.setIfInBounds j true) F' G' a' hfree' (ready_mono hr (Ne.symm hji)) h3.1 ?_) h2
      rw [Array.setIfInBounds_comm _ _ hji]
      exact h3.2
/-- Beside i new blocks alone may come up, till i is done. -/
def onlyF (md : Region.Mode) (ops : Array Oper) (i : Nat) : Nat → Array Bool → Bool
  | 0, listed => decide (Region.ready md ops listed = [i])
  | f + 1, listed => (Region.ready md ops listed).contains i && (Region.ready md ops listed).all fun j => j == i || match ops[i]?, ops[j]? with
      | some oi, some oj => isAlloc oj && oi.apart ops oj && onlyF md ops i f (listed.setIfInBounds j true)
      | _, _ => false
theorem freshF_ob {o : Oper} {a a' : Act} {ob ob' : Obj} (h : FreshF P ops o a ob) (h' : FreshF P ops o a' ob') (he : execOp a'.eval o = execOp a.eval o) (W : World) : ob = ob' := by
  have h1 := h.2 W
  have h2 := h'.2 W
  rw [he, h1] at h2
  have h3 : W.alloc ob = W.alloc ob' := by injection h2
  have h4 := heap_alloc_new W ob
  rw [h3, heap_alloc_new W ob'] at h4
  injection h4 with h4
  exact h4.symm
theorem SG.weak {G : List (Nat × Obj)} {p : Nat × Obj} {W : World} (h : SG N W0 (p :: G) W) : SG N W0 G W := ⟨h.1, fun q hq => h.2 q (by simp [hq])⟩
theorem wpF_callfirst {i n : Nat} {oi : Oper} {L : GK} (hsel : ∀ (j : Nat) (o : Oper) cs b, ops[j]? = some o → o.op ≠ .select cs b) (hi : ops[i]? = some oi) (hai : isAlloc oi = false) :
    ∀ (f : Nat) (listed : Array Bool) (F : World → Prop) (G : List (Nat × Obj)) (a : Act), onlyF md ops i f listed = true →
      CallX P ops N W0 oi a (wpF P md ops N W0 n L f (listed.setIfInBounds i true)) F G →
      (∀ (j : Nat) (oj : Oper), ops[j]? = some oj → isAlloc oj = true → oi.apart ops oj = true → ∃ ob, ∀ a', FreshF P ops oj a' ob) →
      wpF P md ops N W0 n L (f + 1) listed F G a := by
  intro f
  induction f with
  | zero =>
    intro listed F G a hB hx _
    simp only [onlyF, decide_eq_true_eq] at hB
    refine ⟨fun h => (by rw [h] at hB; cases hB), fun j hj => ?_⟩
    rw [hB] at hj
    obtain rfl : j = i := by simpa using hj
    unfold wfOp
    simp only [hi]
    rw [if_neg (by rw [hai]; exact Bool.false_ne_true)]
    exact .inr (.inr hx)
  | succ f ih =>
    intro listed F G a hB hx hob
    simp only [onlyF, Bool.and_eq_true, List.all_eq_true] at hB
    obtain ⟨hr, hall⟩ := hB
    have hr : i ∈ Region.ready md ops listed := by simpa using hr
    refine ⟨fun h => (by rw [h] at hr; cases hr), fun j hj => ?_⟩
    by_cases hji : j = i
    · subst hji
      unfold wfOp
      simp only [hi]
      rw [if_neg (by rw [hai]; exact Bool.false_ne_true)]
      exact .inr (.inr hx)
    · have h1 := hall j hj
      obtain ⟨hjun, oj, hoj, _⟩ := mem_ready.1 hj
      simp only [hi, hoj, Bool.or_eq_true, beq_iff_eq, hji, false_or, Bool.and_eq_true] at h1
      obtain ⟨⟨haj, hap⟩, hon⟩ := h1
      obtain ⟨ob, hfr⟩ := hob j oj hoj haj hap
      obtain ⟨p1, p2, p3⟩ := Oper.apart_spec hap
      unfold wfOp
      simp only [hoj]
      rw [if_pos haj]
      refine ⟨ob, hfr a, fun g hN hG => ih (listed.setIfInBounds j true) F ((g, ob) :: G) _ hon ⟨?_, fun W hF hS => ?_⟩ hob⟩
      · rw [wanted_put oi a oj.dst _ p3]; exact hx.1
      · have h2 := hx.2 W hF hS.weak
        rw [execOp_put oi (fun cs b => hsel i oi cs b hi) a oj.dst _ p3]
        refine givesX_mono (fun v F' hk => ?_) _ h2
        have h3 := hk.2 j (ready_mono hj hji)
        unfold wfOp at h3
        simp only [hoj] at h3
        rw [if_pos haj] at h3
        obtain ⟨ob', hf', hk'⟩ := h3
        have hobe : ob = ob' := freshF_ob (hfr _) hf' rfl W
        subst hobe
        have h4 := hk' g hN hG
        rw [Array.setIfInBounds_comm _ _ (Ne.symm hji), Act.put_comm a _ v (fun d hd => fun h => p2 d h hd)] at *
        exact h4
theorem wpOp_of_wfOp {i : Nat} {a : Act} {w : World} {F : World → Prop} {G : List (Nat × Obj)} {K : GK} {K' : Act → World → Prop} {Q' : Exit → Act → World → Prop} (hF : F w) (hC : Cl F) (hS : SG N W0 G w)
    (h : ∀ F G a w, Cl F → F w → SG N W0 G w → K F G a → K' a w) (hh : wfOp P ops N W0 i K F G a) : wpOp P ops Q' i K' a w := by
  unfold wfOp at hh
  unfold wpOp
  split
  · rename_i ho; simp only [ho] at hh
  · rename_i o ho
    simp only [ho] at hh
    split at hh
    · obtain ⟨ob, ⟨hw, hf⟩, hk⟩ := hh
      rw [if_pos hw]
      refine .inl ?_
      unfold Oper.wp
      rw [hf w]
      exact h _ _ _ _ hC (hC _ _ hF ((Below.refl _ _).alloc (Nat.le_refl _) _)) (hS.alloc ob) (hk _ hS.1.1 (fun p hp e => by have := hS.size hp; omega))
    · rcases hh with ⟨v, hy, hk⟩ | ⟨hw, hx⟩ | ⟨hw, hx⟩
      · rcases hy with ⟨hw, hg⟩ | ⟨hw, rfl⟩
        · rw [if_pos hw]
          refine .inl ?_
          have hg := hg w hS.1
          unfold Oper.wp
          generalize (execOp a.eval o).run P w = r at *
          cases r with
          | ok nx w' =>
            cases nx <;> simp only [givesB, Oper.upon] at hg ⊢
            case value u => obtain ⟨rfl, h2⟩ := hg; exact h _ _ _ _ hC (hC _ _ hF h2) (hS.below h2) hk
            case skip => obtain ⟨rfl, h2⟩ := hg; exact h _ _ _ _ hC (hC _ _ hF h2) (hS.below h2) hk
            case enter f args => exact hg.mono fun e w'' ⟨he, hw⟩ => by subst he; exact h _ _ _ _ hC (hC _ _ hF hw) (hS.below hw) hk
          | halt x w' => simp only [givesB] at hg
        · rw [if_neg (by simp [hw])]
          exact h _ _ _ _ hC hF hS hk
      · rw [if_pos hw]
        refine .inl ?_
        have hg := hx w hF hS
        unfold Oper.wp
        generalize (execOp a.eval o).run P w = r at *
        cases r with
        | ok nx w' =>
          cases nx <;> simp only [givesW, Oper.upon] at hg ⊢
          case value u => obtain ⟨v, F', G', e1, hF', hC', hS', hk⟩ := hg; injection e1 with e1; subst e1; exact h _ _ _ _ hC' hF' hS' hk
          case skip => obtain ⟨v, F', G', e1, hF', hC', hS', hk⟩ := hg; injection e1 with e1; subst e1; exact h _ _ _ _ hC' hF' hS' hk
          case enter f args => exact hg.mono fun e w'' ⟨v, F', G', e1, hF', hC', hS', hk⟩ => by subst e1; exact h _ _ _ _ hC' hF' hS' hk
        | halt x w' => simp only [givesW] at hg
      · rw [if_pos hw]
        refine .inl ?_
        have hg := hx w hF hS
        unfold Oper.wp
        generalize (execOp a.eval o).run P w = r at *
        cases r with
        | ok nx w' =>
          cases nx <;> simp only [givesX, Oper.upon] at hg ⊢
          case value u => obtain ⟨F', hb, hF', hC', hk⟩ := hg; exact h _ _ _ _ (hC.and hC') ⟨hC _ _ hF hb, hF'⟩ (hS.below hb) hk
          case skip => obtain ⟨F', hb, hF', hC', hk⟩ := hg; exact h _ _ _ _ (hC.and hC') ⟨hC _ _ hF hb, hF'⟩ (hS.below hb) hk
          case enter f args => exact hg.mono fun e w'' ⟨v, F', he, hb, hF', hC', hk⟩ => by subst he; exact h _ _ _ _ (hC.and hC') ⟨hC _ _ hF hb, hF'⟩ (hS.below hb) hk
        | halt x w' => simp only [givesX] at hg
theorem wpAny_of_wpF {n : Nat} {L : GK} {Q' : Exit → Act → World → Prop} {l : List Oper} (hops : ops = l.toArray) (hn : n ≤ l.length) (hL : ∀ F G a w, F w → SG N W0 G w → L F G a → wpList P ops Q' (l.drop n) a w) :
    ∀ (f : Nat) (listed : Array Bool) (F : World → Prop) (G : List (Nat × Obj)) (a : Act) (w : World), Cl F → F w → SG N W0 G w → wpF P md ops N W0 n L f listed F G a → wpAny P md ops Q' (f + (ops.size - n)) listed a w
  | 0, listed, F, G, a, w, hC, hF, hS, h => by
    rw [Nat.zero_add]
    have hs : ops.size - n = (l.drop n).length := by rw [hops]; simp
    rw [hs]
    exact wpAny_of_seq (l.drop n) n listed a w (fun j => by rw [hops]; simp [List.getElem?_drop]) (by rw [← hs]; exact h.1) (hL _ _ _ _ hF hS h.2)
  | f + 1, listed, F, G, a, w, hC, hF, hS, h => by
    rw [show f + 1 + (ops.size - n) = (f + (ops.size - n)) + 1 by omega]
    exact ⟨fun h0 => absurd h0 h.1, fun i hi => wpOp_of_wfOp hF hC hS (fun F' G' a' w' hC' hF' hS' h' => wpAny_of_wpF hops hn hL f _ F' G' a' w' hC' hF' hS' h') (h.2 i hi)⟩
/-- The region, taken so: n operations, then the tail. -/
theorem wp_region_float {id : Nat} {Q : Exit → Act → World → Prop} {a : Act} {l : List Oper} {W0 : World} (N n : Nat) (hN : N ≤ W0.heap.size) (F0 : World → Prop) (hF0 : F0 W0) (hC0 : Cl F0) (hm : P.follows .mixedOrders = true) (hn : n ≤ l.length)
    (h : wpF P .any l.toArray N W0 n (fun F G a' => ∀ w', F w' → SG N W0 G w' → wpList P l.toArray Q (l.drop n) a' w') n (Array.replicate l.length false) F0 [] a) : (Code.region id l.toArray true).wp P Q a W0 := by
  refine wp_region_any hm ?_
  have := wpAny_of_wpF (Q' := Q) rfl hn (fun F G a w hF hS hL => hL w hF hS) _ _ _ [] a W0.drew hC0 (hC0 _ _ hF0 (Below.refl _ _).drew) ⟨(Own.refl hN).drew, fun p hp => by cases hp⟩ h
  have e : n + (l.length - n) = l.length := by omega
  simpa [e] using this
def stepB (md : Region.Mode) (ops : Array Oper) (n i : Nat) (listed : Array Bool) : Bool :=
  tailB md ops n && decide (i < n) && (Region.ready md ops listed).contains i && Region.free md ops listed i && match ops[i]? with | some o => !isAlloc o | none => false
theorem stepB_spec {n i : Nat} {listed : Array Bool} {o : Oper} (hi : ops[i]? = some o) (h : stepB md ops n i listed = true) :
    tailB md ops n = true ∧ i < n ∧ i ∈ Region.ready md ops listed ∧ Region.free md ops listed i = true ∧ isAlloc o = false := by
  simp only [stepB, hi, Bool.and_eq_true, decide_eq_true_eq, Bool.not_eq_true'] at h
  obtain ⟨⟨⟨⟨a, b⟩, c⟩, d⟩, e⟩ := h
  exact ⟨a, b, by simpa using c, d, e⟩
/-- One operation that may come first. -/
theorem wpF_step {i f n : Nat} {o : Oper} {L : GK} {listed : Array Bool} {F : World → Prop} {G : List (Nat × Obj)} {a : Act} (hi : ops[i]? = some o) (hB : stepB md ops n i listed = true) (hg : o.guard = none) (v : Value)
    (h : GivesH P N W0 o a v) (hk : ∀ K : Act → Prop, (∀ a, wpF P md ops N W0 n L f (listed.setIfInBounds i true) F G a → K a) → K (a.put o.dst v)) : wpF P md ops N W0 n L (f + 1) listed F G a := by
  obtain ⟨h1, h2, h3, h4, h5⟩ := stepB_spec hi hB
  exact wpF_first h1 h2 hi h5 f listed F G a (Region.free_spec hi h4) h3 (.inl ⟨by simp [Region.wanted, hg], h⟩) (hk _ fun _ h => h)
theorem wpF_step_on {i f n : Nat} {o : Oper} {L : GK} {listed : Array Bool} {F : World → Prop} {G : List (Nat × Obj)} {a : Act} (hi : ops[i]? = some o) (hB : stepB md ops n i listed = true) (hg : Region.wanted o (yielded ops a.tmps) = true) (v : Value)
    (h : GivesH P N W0 o a v) (hk : ∀ K : Act → Prop, (∀ a, wpF P md ops N W0 n L f (listed.setIfInBounds i true) F G a → K a) → K (a.put o.dst v)) : wpF P md ops N W0 n L (f + 1) listed F G a := by
  obtain ⟨h1, h2, h3, h4, h5⟩ := stepB_spec hi hB
  exact wpF_first h1 h2 hi h5 f listed F G a (Region.free_spec hi h4) h3 (.inl ⟨hg, h⟩) (hk _ fun _ h => h)
theorem wpF_step_off {i f n : Nat} {o : Oper} {L : GK} {listed : Array Bool} {F : World → Prop} {G : List (Nat × Obj)} {a : Act} (hi : ops[i]? = some o) (hB : stepB md ops n i listed = true) (hg : Region.wanted o (yielded ops a.tmps) = false)
    (hk : ∀ K : Act → Prop, (∀ a, wpF P md ops N W0 n L f (listed.setIfInBounds i true) F G a → K a) → K (a.put o.dst undef)) : wpF P md ops N W0 n L (f + 1) listed F G a := by
  obtain ⟨h1, h2, h3, h4, h5⟩ := stepB_spec hi hB
  exact wpF_first h1 h2 hi h5 f listed F G a (Region.free_spec hi h4) h3 (.inr ⟨hg, rfl⟩) (hk _ fun _ h => h)
/-- The one operation that may come now: a new block. -/
theorem wpF_fresh {i f n : Nat} {o : Oper} {L : GK} {listed : Array Bool} {F : World → Prop} {G : List (Nat × Obj)} {a : Act} (hi : ops[i]? = some o) (hB : decide (Region.ready md ops listed = [i]) = true) (hg : isAlloc o = true) (ob : Obj)
    (h : ∀ W, (execOp a.eval o).run P W = .ok (.value (.pointer (some ⟨W.heap.size, 0, none⟩))) (W.alloc ob))
    (hk : ∀ g, N ≤ g → (∀ p ∈ G, p.1 ≠ g) → ∀ K : Act → Prop, (∀ a, wpF P md ops N W0 n L f (listed.setIfInBounds i true) F ((g, ob) :: G) a → K a) → K (a.put o.dst (.pointer (some ⟨g, 0, none⟩)))) : wpF P md ops N W0 n L (f + 1) listed F G a := by
  rw [decide_eq_true_eq] at hB
  refine ⟨fun h0 => (by rw [h0] at hB; cases hB), fun j hj => ?_⟩
  rw [hB] at hj
  obtain rfl : j = i := by simpa using hj
  unfold wfOp
  simp only [hi]
  rw [if_pos hg]
  have hgd : o.guard = none := by
    unfold isAlloc at hg
    split at hg
    · simpa using hg
    · cases hg
  exact ⟨ob, ⟨by simp [Region.wanted, hgd], h⟩, fun g hN hgG => hk g hN hgG _ fun _ h => h⟩
/-- The one operation that may come now, whatever it does to blocks from N on. -/
theorem wpF_wild {i f n : Nat} {o : Oper} {L : GK} {listed : Array Bool} {F : World → Prop} {G : List (Nat × Obj)} {a : Act} (hi : ops[i]? = some o) (hB : decide (Region.ready md ops listed = [i]) = true) (hg : (o.guard.isNone && !isAlloc o) = true)
    (h : ∀ W, F W → SG N W0 G W → givesW P N W0 (fun v F' G' => ∀ K : Act → Prop, (∀ a, wpF P md ops N W0 n L f (listed.setIfInBounds i true) F' G' a → K a) → K (a.put o.dst v)) ((execOp a.eval o).run P W)) : wpF P md ops N W0 n L (f + 1) listed F G a := by
  rw [decide_eq_true_eq] at hB
  rw [Bool.and_eq_true, Bool.not_eq_true'] at hg
  refine ⟨fun h0 => (by rw [h0] at hB; cases hB), fun j hj => ?_⟩
  rw [hB] at hj
  obtain rfl : j = i := by simpa using hj
  unfold wfOp
  simp only [hi]
  rw [if_neg (by rw [hg.2]; exact Bool.false_ne_true)]
  exact .inr (.inl ⟨by have := hg.1; simp [Region.wanted, Option.isNone_iff_eq_none.1 this], fun W hF hS => givesW_mono (fun v F' G' hk => hk _ fun _ h => h) _ (h W hF hS)⟩)
/-- What a new block holds at first. -/
def allocsB (P : Program) (ops : Array Oper) : Bool := ops.all fun o => match o.op with
  | .alloc T => (match P.info? T with | some i => i.zero.isSome | none => false)
  | _ => true
theorem alloc_run {o : Oper} {T : TypeId} (ho : o.op = .alloc T) {i : TypeInfo} (hi : P.info? T = some i) {z : Value} (hz : i.zero = some z) (a : Act) (W : World) :
    (execOp a.eval o).run P W = .ok (.value (.pointer (some ⟨W.heap.size, 0, none⟩))) (W.alloc (.cells z.cells T)) := by
  simp [execOp, ho, Instr.alloc, zeroValue, typeInfo, hi, hz, newVar, go_sem]
theorem allocs_fresh (h : allocsB P ops = true) (j : Nat) (oj : Oper) (hj : ops[j]? = some oj) (ha : isAlloc oj = true) : ∃ ob, ∀ a', FreshF P ops oj a' ob := by
  have h1 := Array.all_eq_true_iff_forall_mem.1 h oj (Array.mem_of_getElem? hj)
  unfold isAlloc at ha
  split at ha
  · rename_i T ho
    rw [ho] at h1
    simp only at h1
    split at h1
    · rename_i i hi
      obtain ⟨z, hz⟩ := Option.isSome_iff_exists.1 h1
      exact ⟨_, fun a' => ⟨by simp [Region.wanted, Option.isNone_iff_eq_none.1 ha], fun W => alloc_run ho hi hz a' W⟩⟩
    · cases h1
  · cases ha
def callB (md : Region.Mode) (ops : Array Oper) (n i f : Nat) (listed : Array Bool) : Bool :=
  Region.noSelect ops && onlyF md ops i f listed && match ops[i]? with | some o => !isAlloc o && o.guard.isNone | none => false
/-- A call of whatever result, which alone (beside new blocks) may come now. -/
theorem wpF_call {i f n : Nat} {o : Oper} {L : GK} {listed : Array Bool} {F : World → Prop} {G : List (Nat × Obj)} {a : Act} (hi : ops[i]? = some o) (hB : callB md ops n i f listed = true)
    (hal : allocsB P ops = true)
    (hk : ∀ W, F W → SG N W0 G W → givesX P W (fun v F' => ∀ K : Act → Prop, (∀ a, wpF P md ops N W0 n L f (listed.setIfInBounds i true) (fun W => F W ∧ F' W) G a → K a) → K (a.put o.dst v)) ((execOp a.eval o).run P W)) : wpF P md ops N W0 n L (f + 1) listed F G a := by
  simp only [callB, hi, Bool.and_eq_true, Bool.not_eq_true'] at hB
  obtain ⟨⟨hs, hon⟩, hna, hg⟩ := hB
  exact wpF_callfirst (Region.noSelect_spec hs) hi hna f listed F G a hon ⟨by simp [Region.wanted, Option.isNone_iff_eq_none.1 hg], fun W hF hS => givesX_mono (fun v F' hk => hk _ fun _ h => h) _ (hk W hF hS)⟩ (fun j oj hj ha _ => allocs_fresh hal j oj hj ha)
/-- The same, with the numbers of the operations that come next. -/
def wpI (P : Program) (md : Region.Mode) (ops : Array Oper) (N : Nat) (W0 : World) (n : Nat) (L : GK) (_ : List Nat) (m : Nat) (listed : Array Bool) (F : World → Prop) (G : List (Nat × Obj)) (a : Act) : Prop := wpF P md ops N W0 n L m listed F G a
theorem wpI_start {m n : Nat} {L : GK} {listed : Array Bool} {F : World → Prop} {G : List (Nat × Obj)} {a : Act} (is : List Nat) (h : wpI P md ops N W0 n L is m listed F G a) : wpF P md ops N W0 n L m listed F G a := h
theorem wpI_nil {m n : Nat} {L : GK} {listed : Array Bool} {F : World → Prop} {G : List (Nat × Obj)} {a : Act} (h : wpF P md ops N W0 n L m listed F G a) : wpI P md ops N W0 n L [] m listed F G a := h
theorem wpI_step {i f n : Nat} {is : List Nat} {o : Oper} {L : GK} {listed : Array Bool} {F : World → Prop} {G : List (Nat × Obj)} {a : Act} (hi : ops[i]? = some o) (hB : stepB md ops n i listed = true) (hg : o.guard = none) (v : Value)
    (h : GivesH P N W0 o a v) (hk : ∀ K : Act → Prop, (∀ a, wpI P md ops N W0 n L is f (listed.setIfInBounds i true) F G a → K a) → K (a.put o.dst v)) : wpI P md ops N W0 n L (i :: is) (f + 1) listed F G a := wpF_step hi hB hg v h hk
theorem wpI_on {i f n : Nat} {is : List Nat} {o : Oper} {L : GK} {listed : Array Bool} {F : World → Prop} {G : List (Nat × Obj)} {a : Act} (hi : ops[i]? = some o) (hB : stepB md ops n i listed = true) (hg : Region.wanted o (yielded ops a.tmps) = true) (v : Value)
    (h : GivesH P N W0 o a v) (hk : ∀ K : Act → Prop, (∀ a, wpI P md ops N W0 n L is f (listed.setIfInBounds i true) F G a → K a) → K (a.put o.dst v)) : wpI P md ops N W0 n L (i :: is) (f + 1) listed F G a := wpF_step_on hi hB hg v h hk
theorem wpI_off {i f n : Nat} {is : List Nat} {o : Oper} {L : GK} {listed : Array Bool} {F : World → Prop} {G : List (Nat × Obj)} {a : Act} (hi : ops[i]? = some o) (hB : stepB md ops n i listed = true) (hg : Region.wanted o (yielded ops a.tmps) = false)
    (hk : ∀ K : Act → Prop, (∀ a, wpI P md ops N W0 n L is f (listed.setIfInBounds i true) F G a → K a) → K (a.put o.dst undef)) : wpI P md ops N W0 n L (i :: is) (f + 1) listed F G a := wpF_step_off hi hB hg hk
theorem wpF_done {n : Nat} {L : GK} {listed : Array Bool} {F : World → Prop} {G : List (Nat × Obj)} {a : Act} (hB : Region.seqB md ops (ops.size - n) n listed = true) (h : L F G a) : wpF P md ops N W0 n L 0 listed F G a := ⟨hB, h⟩
/-- A store into a new block. -/
theorem SG.put {G : List (Nat × Obj)} {W : World} {g : Nat} {cs : Array Value} {T : TypeId} (h : SG N W0 ((g, .cells cs T) :: G) W) (hG : ∀ p ∈ G, p.1 ≠ g) (k : Nat) (x : Value) :
    SG N W0 ((g, .cells (cs.setIfInBounds k x) T) :: G) (W.setCell ⟨g, k, none⟩ x) := by
  have h0 := h.2 (g, .cells cs T) (by simp)
  refine ⟨h.1.setCell h0.1 _, fun p hp => ?_⟩
  rcases List.mem_cons.1 hp with rfl | hp
  · refine ⟨h0.1, ?_⟩
    have h1 := h0.2
    simp only at h1
    simp [World.setCell, Array.getElem?_modify, h1]
  · have h2 := h.2 p (by simp [hp])
    refine ⟨h2.1, ?_⟩
    rw [Below.heap_setCell _ _ _ _ (hG p hp)]
    exact h2.2
end
attribute [go_sem] givesB_value givesB_skip givesB_enter givesX_value givesX_enter givesW_value givesW_skip givesW_enter
end Go.Proofs.YteondblmcooklaaDoor
