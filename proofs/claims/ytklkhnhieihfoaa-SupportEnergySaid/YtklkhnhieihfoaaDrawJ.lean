/- Drawn regions whose tail (its operations wait for all others, each for the one ahead) is a list of numbers. Written by mk_drawj.py from XDraw. No program in sight. -/
import Derived.Test.YtklkhnhieihfoaaDraw
import Derived.Laws.AppendOwn
namespace Go.Proofs.Ytklkhnhieihfoaa
open Go Go.RowKit
set_option linter.unusedVariables false
section
variable {P : Program} {ops : Array Oper} {md : Region.Mode} {N : Nat} {W0 : World}
def waitsJ (md : Region.Mode) (ops : Array Oper) : Nat → Nat → Nat → Bool
  | 0, _, _ => false
  | f + 1, t, i => match ops[t]? with
    | some o => (o.after.any fun e => Region.binds md e && e.on == i) || o.after.any fun e => Region.binds md e && waitsJ md ops f e.on i
    | none => false
/-- What is listed lists all that it waits for. -/
def DC (md : Region.Mode) (ops : Array Oper) (listed : Array Bool) : Prop := ∀ j o, ops[j]? = some o → listed.getD j false = true → ∀ e ∈ o.after, Region.binds md e = true → listed.getD e.on false = true
def dcB (md : Region.Mode) (ops : Array Oper) (listed : Array Bool) : Bool := (List.range ops.size).all fun j => match ops[j]? with
  | some o => !listed.getD j false || o.after.all fun e => !Region.binds md e || listed.getD e.on false
  | none => true
theorem dcB_spec {listed : Array Bool} (h : dcB md ops listed = true) : DC md ops listed := fun j o hj hl e he hb => by
  simp only [dcB, List.all_eq_true, List.mem_range] at h
  have h1 := h j (Array.getElem?_eq_some_iff.1 hj).1
  simp only [hj, hl, Bool.not_true, Bool.false_or] at h1
  have h2 := Array.all_eq_true'.1 h1 e he
  simpa [hb] using h2
theorem getD_set_mono {listed : Array Bool} {i k : Nat} (h : listed.getD k false = true) : (listed.setIfInBounds i true).getD k false = true := by
  simp only [Array.getD_eq_getD_getElem?, Array.getElem?_setIfInBounds] at *
  split
  · split <;> simp_all
  · exact h
theorem DC.set {listed : Array Bool} {i : Nat} (h : DC md ops listed) (hr : i ∈ Region.ready md ops listed) : DC md ops (listed.setIfInBounds i true) := fun j o hj hl e he hb => by
  by_cases hji : j = i
  · subst hji
    obtain ⟨_, o', ho', hall⟩ := mem_ready.1 hr
    rw [hj] at ho'; injection ho' with ho'; subst ho'
    exact getD_set_mono (hall e he hb)
  · refine getD_set_mono (h j o hj ?_ e he hb)
    simp only [Array.getD_eq_getD_getElem?, Array.getElem?_setIfInBounds] at *
    rw [if_neg (fun e => hji e.symm)] at hl
    exact hl
theorem waits_spec {listed : Array Bool} (hdc : DC md ops listed) : ∀ (f t i : Nat), waitsJ md ops f t i = true → (∀ o, ops[t]? = some o → ∀ e ∈ o.after, Region.binds md e = true → listed.getD e.on false = true) → listed.getD i false = true
  | 0, t, i, h, _ => by simp [waitsJ] at h
  | f + 1, t, i, h, hd => by
    unfold waitsJ at h
    split at h
    · rename_i o ho
      rw [Bool.or_eq_true] at h
      rcases h with h | h
      · obtain ⟨e, he, hb⟩ := Array.any_eq_true'.1 h
        simp only [Bool.and_eq_true, beq_iff_eq] at hb
        have := hd o ho e he hb.1
        rwa [hb.2] at this
      · obtain ⟨e, he, hb⟩ := Array.any_eq_true'.1 h
        simp only [Bool.and_eq_true] at hb
        exact waits_spec hdc f e.on i hb.2 (fun o' ho' e' he' hb' => hdc e.on o' ho' (hd o ho e he hb.1) e' he' hb')
    · cases h
def tailBJ (md : Region.Mode) (ops : Array Oper) (n : List Nat) : Bool :=
  Region.noSelect ops && (List.range ops.size).all fun t => !n.contains t || match ops[t]? with
    | some _ => (List.range ops.size).all fun i => n.contains i || waitsJ md ops ops.size t i
    | none => true
theorem tailB_specJ {n : List Nat} {t i : Nat} {listed : Array Bool} (h : tailBJ md ops n = true) (hdc : DC md ops listed) (ht : t ∈ Region.ready md ops listed) (hs : i < ops.size) (hi : n.contains i = false) (hun : listed.getD i true = false) : n.contains t = false := by
  cases hc : n.contains t
  · rfl
  · exfalso
    obtain ⟨_, o, ho, hall⟩ := mem_ready.1 ht
    simp only [tailBJ, Bool.and_eq_true, List.all_eq_true, List.mem_range] at h
    have h1 := h.2 t (Array.getElem?_eq_some_iff.1 ho).1
    simp only [ho, hc, Bool.not_true, Bool.false_or, List.all_eq_true, List.mem_range] at h1
    have h2 := h1 i hs
    rw [hi, Bool.false_or] at h2
    have h3 := waits_spec hdc _ _ _ h2 (fun o' ho' e he hb => by rw [ho] at ho'; injection ho' with ho'; subst ho'; exact hall e he hb)
    rw [getD_both hun] at h3
    cases h3
def seqJ (md : Region.Mode) (ops : Array Oper) : List Nat → Array Bool → Bool
  | [], listed => (Region.ready md ops listed).isEmpty
  | k :: js, listed => decide (Region.ready md ops listed = [k]) && seqJ md ops js (listed.setIfInBounds k true)
theorem wpAny_of_seqJ {Q' : Exit → Act → World → Prop} : ∀ (js : List Nat) (listed : Array Bool) (a : Act) (w : World), (∀ j ∈ js, j < ops.size) →
    seqJ md ops js listed = true → wpList P ops Q' (js.filterMap (fun i => ops[i]?)) a w → wpAny P md ops Q' js.length listed a w
  | [], listed, a, w, _, hB, h => ⟨by simpa [seqJ] using hB, h⟩
  | k :: js, listed, a, w, hl, hB, h => by
    have hk : k < ops.size := hl k (by simp)
    have h0 : ops[k]? = some ops[k] := Array.getElem?_eq_some_iff.2 ⟨hk, rfl⟩
    simp only [seqJ, Bool.and_eq_true, decide_eq_true_eq] at hB
    refine ⟨fun h1 => (by rw [hB.1] at h1; cases h1), fun i hi => ?_⟩
    rw [hB.1] at hi
    have hik : i = k := by simpa using hi
    subst hik
    rw [List.filterMap_cons, h0] at h
    have hw : wpOp P ops Q' i (wpList P ops Q' (js.filterMap (fun i => ops[i]?))) a w := by unfold wpOp; simp only [h0]; exact h
    exact wpOp_mono (fun a' w' h' => wpAny_of_seqJ js _ a' w' (fun j hj => hl j (by simp [hj])) hB.2 h') hw
def wpJ (P : Program) (md : Region.Mode) (ops : Array Oper) (N : Nat) (W0 : World) (n : List Nat) (L : GK) : Nat → LK
  | 0, listed, F, G, a => seqJ md ops n listed = true ∧ L F G a
  | f + 1, listed, F, G, a => Region.ready md ops listed ≠ [] ∧ ∀ i ∈ Region.ready md ops listed, wfOp P ops N W0 i (wpJ P md ops N W0 n L f (listed.setIfInBounds i true)) F G a
theorem seqB_memJ {n : List Nat} {listed : Array Bool} (h : seqJ md ops n listed = true) : ∀ j ∈ Region.ready md ops listed, n.contains j = true := by
  cases n with
  | nil => intro j hj; simp only [seqJ, List.isEmpty_iff] at h; rw [h] at hj; cases hj
  | cons k js =>
    intro j hj
    simp only [seqJ, Bool.and_eq_true, decide_eq_true_eq] at h
    rw [h.1] at hj
    have : j = k := by simpa using hj
    subst this
    simp
theorem wpJ_first {i : Nat} {n : List Nat} {oi : Oper} {v : Value} {L : GK} (hT : tailBJ md ops n = true) (hin : n.contains i = false) (hi : ops[i]? = some oi) (ha : isAlloc oi = false) :
    ∀ (f : Nat) (listed : Array Bool) (F : World → Prop) (G : List (Nat × Obj)) (a : Act),
      DC md ops listed → (∀ j oj, ops[j]? = some oj → j ≠ i → listed.getD j true = false → (∀ e ∈ oj.after, Region.binds md e = true → e.on ≠ i) → oi.apart ops oj = true) →
      i ∈ Region.ready md ops listed → YieldsH P ops N W0 oi v a →
      wpJ P md ops N W0 n L f (listed.setIfInBounds i true) F G (a.put oi.dst v) → wpJ P md ops N W0 n L (f + 1) listed F G a := by
  have hsel := Region.noSelect_spec (by have := hT; unfold tailBJ at this; rw [Bool.and_eq_true] at this; exact this.1)
  have base : ∀ (F : World → Prop) (G : List (Nat × Obj)) (a : Act), YieldsH P ops N W0 oi v a → ∀ K : GK, K F G (a.put oi.dst v) → wfOp P ops N W0 i K F G a := by
    intro F G a hy K H
    unfold wfOp
    simp only [hi]
    rw [if_neg (by rw [ha]; exact Bool.false_ne_true)]
    exact .inl ⟨v, hy, H⟩
  intro f
  induction f with
  | zero =>
    intro listed F G a hdc hfree hr hy H
    have hun := (mem_ready.1 hr).1
    refine ⟨fun h => (by rw [h] at hr; cases hr), fun j hj => ?_⟩
    by_cases hji : j = i
    · subst hji
      exact base _ _ _ hy _ H
    · have h1 := seqB_memJ H.1 j (ready_mono hj hji)
      have h2 := tailB_specJ hT hdc hj (Array.getElem?_eq_some_iff.1 hi).1 hin hun
      rw [h1] at h2; cases h2
  | succ f ih =>
    intro listed F G a hdc hfree hr hy H
    have hun := (mem_ready.1 hr).1
    refine ⟨fun h => (by rw [h] at hr; cases hr), fun j hj => ?_⟩
    by_cases hji : j = i
    · subst hji
      exact base _ _ _ hy _ H
    · have h1 := H.2 j (ready_mono hj hji)
      obtain ⟨hjun, oj, hoj, hall⟩ := mem_ready.1 hj
      have hnot : ∀ e ∈ oj.after, Region.binds md e = true → e.on ≠ i := fun e he hb heq => by
        have h1 := hall e he hb
        rw [heq, getD_both hun] at h1
        cases h1
      have h2 := wfOp_put hoj (hfree j oj hoj hji hjun hnot) (fun cs b => hsel i oi cs b hi) (fun cs b => hsel j oj cs b hoj) hy h1
      have hfree' : ∀ k ok, ops[k]? = some ok → k ≠ i → (listed.setIfInBounds j true).getD k true = false →
          (∀ e ∈ ok.after, Region.binds md e = true → e.on ≠ i) → oi.apart ops ok = true := fun k ok hk hki hun hno => by
        refine hfree k ok hk hki ?_ hno
        by_cases hjk : j = k
        · subst hjk; exact hjun
        · rw [getD_set_ne true hjk] at hun; exact hun
      refine wfOp_mono (fun F' G' a' h3 => ih (listed.setIfInBounds j true) F' G' a' (hdc.set hj) hfree' (ready_mono hr (Ne.symm hji)) h3.1 ?_) h2
      rw [Array.setIfInBounds_comm _ _ hji]
      exact h3.2
theorem wpJ_callfirst {i : Nat} {n : List Nat} {oi : Oper} {L : GK} (hsel : ∀ (j : Nat) (o : Oper) cs b, ops[j]? = some o → o.op ≠ .select cs b) (hi : ops[i]? = some oi) (hai : isAlloc oi = false) :
    ∀ (f : Nat) (listed : Array Bool) (F : World → Prop) (G : List (Nat × Obj)) (a : Act), onlyF md ops i f listed = true →
      CallX P ops N W0 oi a (wpJ P md ops N W0 n L f (listed.setIfInBounds i true)) F G →
      (∀ (j : Nat) (oj : Oper), ops[j]? = some oj → isAlloc oj = true → oi.apart ops oj = true → ∃ ob, ∀ a', FreshF P ops oj a' ob) →
      wpJ P md ops N W0 n L (f + 1) listed F G a := by
  intro f
  induction f with
  | zero =>
    intro listed F G a hB hx _
    simp only [onlyF, decide_eq_true_eq] at hB
    refine ⟨fun h => (by rw [h] at hB; cases hB), fun j hj => ?_⟩
    rw [hB] at hj
    obtain rfl : j = i := by simpa using hj
    unfold wfOp
    simp only [hi]
    rw [if_neg (by rw [hai]; exact Bool.false_ne_true)]
    exact .inr (.inr hx)
  | succ f ih =>
    intro listed F G a hB hx hob
    simp only [onlyF, Bool.and_eq_true, List.all_eq_true] at hB
    obtain ⟨hr, hall⟩ := hB
    have hr : i ∈ Region.ready md ops listed := by simpa using hr
    refine ⟨fun h => (by rw [h] at hr; cases hr), fun j hj => ?_⟩
    by_cases hji : j = i
    · subst hji
      unfold wfOp
      simp only [hi]
      rw [if_neg (by rw [hai]; exact Bool.false_ne_true)]
      exact .inr (.inr hx)
    · have h1 := hall j hj
      obtain ⟨hjun, oj, hoj, _⟩ := mem_ready.1 hj
      simp only [hi, hoj, Bool.or_eq_true, beq_iff_eq, hji, false_or, Bool.and_eq_true] at h1
      obtain ⟨⟨haj, hap⟩, hon⟩ := h1
      obtain ⟨ob, hfr⟩ := hob j oj hoj haj hap
      obtain ⟨p1, p2, p3⟩ := Oper.apart_spec hap
      unfold wfOp
      simp only [hoj]
      rw [if_pos haj]
      refine ⟨ob, hfr a, fun g hN hG => ih (listed.setIfInBounds j true) F ((g, ob) :: G) _ hon ⟨?_, fun W hF hS => ?_⟩ hob⟩
      · rw [wanted_put oi a oj.dst _ p3]; exact hx.1
      · have h2 := hx.2 W hF hS.weak
        rw [execOp_put oi (fun cs b => hsel i oi cs b hi) a oj.dst _ p3]
        refine givesX_mono (fun v F' hk => ?_) _ h2
        have h3 := hk.2 j (ready_mono hj hji)
        unfold wfOp at h3
        simp only [hoj] at h3
        rw [if_pos haj] at h3
        obtain ⟨ob', hf', hk'⟩ := h3
        have hobe : ob = ob' := freshF_ob (hfr _) hf' rfl W
        subst hobe
        have h4 := hk' g hN hG
        rw [Array.setIfInBounds_comm _ _ (Ne.symm hji), Act.put_comm a _ v (fun d hd => fun h => p2 d h hd)] at *
        exact h4
theorem wpAny_of_wpFJ {n : List Nat} {L : GK} {Q' : Exit → Act → World → Prop} (hn : ∀ j ∈ n, j < ops.size) (hL : ∀ F G a w, F w → SG N W0 G w → L F G a → wpList P ops Q' (n.filterMap (fun i => ops[i]?)) a w) :
    ∀ (f : Nat) (listed : Array Bool) (F : World → Prop) (G : List (Nat × Obj)) (a : Act) (w : World), Cl F → F w → SG N W0 G w → wpJ P md ops N W0 n L f listed F G a → wpAny P md ops Q' (f + n.length) listed a w
  | 0, listed, F, G, a, w, hC, hF, hS, h => by
    rw [Nat.zero_add]
    exact wpAny_of_seqJ n listed a w hn h.1 (hL _ _ _ _ hF hS h.2)
  | f + 1, listed, F, G, a, w, hC, hF, hS, h => by
    rw [show f + 1 + n.length = (f + n.length) + 1 by omega]
    exact ⟨fun h0 => absurd h0 h.1, fun i hi => wpOp_of_wfOp hF hC hS (fun F' G' a' w' hC' hF' hS' h' => wpAny_of_wpFJ hn hL f _ F' G' a' w' hC' hF' hS' h') (h.2 i hi)⟩
/-- The region, taken so: m operations, then those whose numbers are listed. -/
theorem wp_region_floatJ {id : Nat} {Q : Exit → Act → World → Prop} {a : Act} {l : List Oper} {W0 : World} (N m : Nat) (n : List Nat) (hN : N ≤ W0.heap.size) (F0 : World → Prop) (hF0 : F0 W0) (hC0 : Cl F0) (hm : P.follows .mixedOrders = true) (hn : (decide (m + n.length = l.length) && n.all (fun j => decide (j < l.length))) = true)
    (h : wpJ P .any l.toArray N W0 n (fun F G a' => ∀ w', F w' → SG N W0 G w' → wpList P l.toArray Q (n.filterMap (fun i => l[i]?)) a' w') m (Array.replicate l.length false) F0 [] a) : (Code.region id l.toArray true).wp P Q a W0 := by
  simp only [Bool.and_eq_true, decide_eq_true_eq, List.all_eq_true] at hn
  refine wp_region_any hm ?_
  have := wpAny_of_wpFJ (Q' := Q) (ops := l.toArray) (fun j hj => by simpa using hn.2 j hj) (fun F G a w hF hS hL => by simpa using hL w hF hS) _ _ _ [] a W0.drew hC0 (hC0 _ _ hF0 (Below.refl _ _).drew) ⟨(Own.refl hN).drew, fun p hp => by cases hp⟩ h
  rw [hn.1] at this
  simpa using this
def stepBJ (md : Region.Mode) (ops : Array Oper) (n : List Nat) (i : Nat) (listed : Array Bool) : Bool :=
  tailBJ md ops n && dcB md ops listed && (!n.contains i) && (Region.ready md ops listed).contains i && Region.free md ops listed i && match ops[i]? with | some o => !isAlloc o | none => false
theorem stepB_specJ {n : List Nat} {i : Nat} {listed : Array Bool} {o : Oper} (hi : ops[i]? = some o) (h : stepBJ md ops n i listed = true) :
    (tailBJ md ops n = true ∧ dcB md ops listed = true) ∧ n.contains i = false ∧ i ∈ Region.ready md ops listed ∧ Region.free md ops listed i = true ∧ isAlloc o = false := by
  simp only [stepBJ, hi, Bool.and_eq_true, Bool.not_eq_true'] at h
  obtain ⟨⟨⟨⟨⟨a, a'⟩, b⟩, c⟩, d⟩, e⟩ := h
  exact ⟨⟨a, a'⟩, b, by simpa using c, d, e⟩
theorem wpJ_step {i f : Nat} {n : List Nat} {o : Oper} {L : GK} {listed : Array Bool} {F : World → Prop} {G : List (Nat × Obj)} {a : Act} (hi : ops[i]? = some o) (hB : stepBJ md ops n i listed = true) (hg : o.guard = none) (v : Value)
    (h : GivesH P N W0 o a v) (hk : ∀ K : Act → Prop, (∀ a, wpJ P md ops N W0 n L f (listed.setIfInBounds i true) F G a → K a) → K (a.put o.dst v)) : wpJ P md ops N W0 n L (f + 1) listed F G a := by
  obtain ⟨h1, h2, h3, h4, h5⟩ := stepB_specJ hi hB
  exact wpJ_first h1.1 h2 hi h5 f listed F G a (dcB_spec h1.2) (Region.free_spec hi h4) h3 (.inl ⟨by simp [Region.wanted, hg], h⟩) (hk _ fun _ h => h)
theorem wpJ_step_on {i f : Nat} {n : List Nat} {o : Oper} {L : GK} {listed : Array Bool} {F : World → Prop} {G : List (Nat × Obj)} {a : Act} (hi : ops[i]? = some o) (hB : stepBJ md ops n i listed = true) (hg : Region.wanted o (yielded ops a.tmps) = true) (v : Value)
    (h : GivesH P N W0 o a v) (hk : ∀ K : Act → Prop, (∀ a, wpJ P md ops N W0 n L f (listed.setIfInBounds i true) F G a → K a) → K (a.put o.dst v)) : wpJ P md ops N W0 n L (f + 1) listed F G a := by
  obtain ⟨h1, h2, h3, h4, h5⟩ := stepB_specJ hi hB
  exact wpJ_first h1.1 h2 hi h5 f listed F G a (dcB_spec h1.2) (Region.free_spec hi h4) h3 (.inl ⟨hg, h⟩) (hk _ fun _ h => h)
theorem wpJ_step_off {i f : Nat} {n : List Nat} {o : Oper} {L : GK} {listed : Array Bool} {F : World → Prop} {G : List (Nat × Obj)} {a : Act} (hi : ops[i]? = some o) (hB : stepBJ md ops n i listed = true) (hg : Region.wanted o (yielded ops a.tmps) = false)
    (hk : ∀ K : Act → Prop, (∀ a, wpJ P md ops N W0 n L f (listed.setIfInBounds i true) F G a → K a) → K (a.put o.dst undef)) : wpJ P md ops N W0 n L (f + 1) listed F G a := by
  obtain ⟨h1, h2, h3, h4, h5⟩ := stepB_specJ hi hB
  exact wpJ_first h1.1 h2 hi h5 f listed F G a (dcB_spec h1.2) (Region.free_spec hi h4) h3 (.inr ⟨hg, rfl⟩) (hk _ fun _ h => h)
theorem wpJ_fresh {i f : Nat} {n : List Nat} {o : Oper} {L : GK} {listed : Array Bool} {F : World → Prop} {G : List (Nat × Obj)} {a : Act} (hi : ops[i]? = some o) (hB : decide (Region.ready md ops listed = [i]) = true) (hg : isAlloc o = true) (ob : Obj)
    (h : ∀ W, (execOp a.eval o).run P W = .ok (.value (.pointer (some ⟨W.heap.size, 0, none⟩))) (W.alloc ob))
    (hk : ∀ g, N ≤ g → (∀ p ∈ G, p.1 ≠ g) → ∀ K : Act → Prop, (∀ a, wpJ P md ops N W0 n L f (listed.setIfInBounds i true) F ((g, ob) :: G) a → K a) → K (a.put o.dst (.pointer (some ⟨g, 0, none⟩)))) : wpJ P md ops N W0 n L (f + 1) listed F G a := by
  rw [decide_eq_true_eq] at hB
  refine ⟨fun h0 => (by rw [h0] at hB; cases hB), fun j hj => ?_⟩
  rw [hB] at hj
  obtain rfl : j = i := by simpa using hj
  unfold wfOp
  simp only [hi]
  rw [if_pos hg]
  have hgd : o.guard = none := by
    unfold isAlloc at hg
    split at hg
    · simpa using hg
    · cases hg
  exact ⟨ob, ⟨by simp [Region.wanted, hgd], h⟩, fun g hN hgG => hk g hN hgG _ fun _ h => h⟩
theorem wpJ_wild {i f : Nat} {n : List Nat} {o : Oper} {L : GK} {listed : Array Bool} {F : World → Prop} {G : List (Nat × Obj)} {a : Act} (hi : ops[i]? = some o) (hB : decide (Region.ready md ops listed = [i]) = true) (hg : (o.guard.isNone && !isAlloc o) = true)
    (h : ∀ W, F W → SG N W0 G W → givesW P N W0 (fun v F' G' => ∀ K : Act → Prop, (∀ a, wpJ P md ops N W0 n L f (listed.setIfInBounds i true) F' G' a → K a) → K (a.put o.dst v)) ((execOp a.eval o).run P W)) : wpJ P md ops N W0 n L (f + 1) listed F G a := by
  rw [decide_eq_true_eq] at hB
  rw [Bool.and_eq_true, Bool.not_eq_true'] at hg
  refine ⟨fun h0 => (by rw [h0] at hB; cases hB), fun j hj => ?_⟩
  rw [hB] at hj
  obtain rfl : j = i := by simpa using hj
  unfold wfOp
  simp only [hi]
  rw [if_neg (by rw [hg.2]; exact Bool.false_ne_true)]
  exact .inr (.inl ⟨by have := hg.1; simp [Region.wanted, Option.isNone_iff_eq_none.1 this], fun W hF hS => givesW_mono (fun v F' G' hk => hk _ fun _ h => h) _ (h W hF hS)⟩)
def callBJ (md : Region.Mode) (ops : Array Oper) (_n : List Nat) (i f : Nat) (listed : Array Bool) : Bool :=
  Region.noSelect ops && onlyF md ops i f listed && match ops[i]? with | some o => !isAlloc o && o.guard.isNone | none => false
theorem wpJ_call {i f : Nat} {n : List Nat} {o : Oper} {L : GK} {listed : Array Bool} {F : World → Prop} {G : List (Nat × Obj)} {a : Act} (hi : ops[i]? = some o) (hB : callBJ md ops n i f listed = true)
    (hal : allocsB P ops = true)
    (hk : ∀ W, F W → SG N W0 G W → givesX P W (fun v F' => ∀ K : Act → Prop, (∀ a, wpJ P md ops N W0 n L f (listed.setIfInBounds i true) (fun W => F W ∧ F' W) G a → K a) → K (a.put o.dst v)) ((execOp a.eval o).run P W)) : wpJ P md ops N W0 n L (f + 1) listed F G a := by
  simp only [callBJ, hi, Bool.and_eq_true, Bool.not_eq_true'] at hB
  obtain ⟨⟨hs, hon⟩, hna, hg⟩ := hB
  exact wpJ_callfirst (Region.noSelect_spec hs) hi hna f listed F G a hon ⟨by simp [Region.wanted, Option.isNone_iff_eq_none.1 hg], fun W hF hS => givesX_mono (fun v F' hk => hk _ fun _ h => h) _ (hk W hF hS)⟩ (fun j oj hj ha _ => allocs_fresh hal j oj hj ha)
def wpK (P : Program) (md : Region.Mode) (ops : Array Oper) (N : Nat) (W0 : World) (n : List Nat) (L : GK) (_ : List Nat) (m : Nat) (listed : Array Bool) (F : World → Prop) (G : List (Nat × Obj)) (a : Act) : Prop := wpJ P md ops N W0 n L m listed F G a
theorem wpK_start {m : Nat} {n : List Nat} {L : GK} {listed : Array Bool} {F : World → Prop} {G : List (Nat × Obj)} {a : Act} (is : List Nat) (h : wpK P md ops N W0 n L is m listed F G a) : wpJ P md ops N W0 n L m listed F G a := h
theorem wpK_nil {m : Nat} {n : List Nat} {L : GK} {listed : Array Bool} {F : World → Prop} {G : List (Nat × Obj)} {a : Act} (h : wpJ P md ops N W0 n L m listed F G a) : wpK P md ops N W0 n L [] m listed F G a := h
theorem wpK_step {i f : Nat} {n : List Nat} {is : List Nat} {o : Oper} {L : GK} {listed : Array Bool} {F : World → Prop} {G : List (Nat × Obj)} {a : Act} (hi : ops[i]? = some o) (hB : stepBJ md ops n i listed = true) (hg : o.guard = none) (v : Value)
    (h : GivesH P N W0 o a v) (hk : ∀ K : Act → Prop, (∀ a, wpK P md ops N W0 n L is f (listed.setIfInBounds i true) F G a → K a) → K (a.put o.dst v)) : wpK P md ops N W0 n L (i :: is) (f + 1) listed F G a := wpJ_step hi hB hg v h hk
theorem wpK_on {i f : Nat} {n : List Nat} {is : List Nat} {o : Oper} {L : GK} {listed : Array Bool} {F : World → Prop} {G : List (Nat × Obj)} {a : Act} (hi : ops[i]? = some o) (hB : stepBJ md ops n i listed = true) (hg : Region.wanted o (yielded ops a.tmps) = true) (v : Value)
    (h : GivesH P N W0 o a v) (hk : ∀ K : Act → Prop, (∀ a, wpK P md ops N W0 n L is f (listed.setIfInBounds i true) F G a → K a) → K (a.put o.dst v)) : wpK P md ops N W0 n L (i :: is) (f + 1) listed F G a := wpJ_step_on hi hB hg v h hk
theorem wpK_off {i f : Nat} {n : List Nat} {is : List Nat} {o : Oper} {L : GK} {listed : Array Bool} {F : World → Prop} {G : List (Nat × Obj)} {a : Act} (hi : ops[i]? = some o) (hB : stepBJ md ops n i listed = true) (hg : Region.wanted o (yielded ops a.tmps) = false)
    (hk : ∀ K : Act → Prop, (∀ a, wpK P md ops N W0 n L is f (listed.setIfInBounds i true) F G a → K a) → K (a.put o.dst undef)) : wpK P md ops N W0 n L (i :: is) (f + 1) listed F G a := wpJ_step_off hi hB hg hk
theorem wpJ_done {n : List Nat} {L : GK} {listed : Array Bool} {F : World → Prop} {G : List (Nat × Obj)} {a : Act} (hB : seqJ md ops n listed = true) (h : L F G a) : wpJ P md ops N W0 n L 0 listed F G a := ⟨hB, h⟩
def callOnBJ (md : Region.Mode) (ops : Array Oper) (_n : List Nat) (i f : Nat) (listed : Array Bool) : Bool :=
  Region.noSelect ops && onlyF md ops i f listed && match ops[i]? with | some o => !isAlloc o | none => false
theorem wpJ_call_on {i f : Nat} {n : List Nat} {o : Oper} {L : GK} {listed : Array Bool} {F : World → Prop} {G : List (Nat × Obj)} {a : Act} (hi : ops[i]? = some o) (hB : callOnBJ md ops n i f listed = true)
    (hal : allocsB P ops = true) (hg : Region.wanted o (yielded ops a.tmps) = true)
    (hk : ∀ W, F W → SG N W0 G W → givesX P W (fun v F' => ∀ K : Act → Prop, (∀ a, wpJ P md ops N W0 n L f (listed.setIfInBounds i true) (fun W => F W ∧ F' W) G a → K a) → K (a.put o.dst v)) ((execOp a.eval o).run P W)) : wpJ P md ops N W0 n L (f + 1) listed F G a := by
  simp only [callOnBJ, hi, Bool.and_eq_true, Bool.not_eq_true'] at hB
  obtain ⟨⟨hs, hon⟩, hna⟩ := hB
  exact wpJ_callfirst (Region.noSelect_spec hs) hi hna f listed F G a hon ⟨hg, fun W hF hS => givesX_mono (fun v F' hk => hk _ fun _ h => h) _ (hk W hF hS)⟩ (fun j oj hj ha _ => allocs_fresh hal j oj hj ha)
/-- One of two may come now, whatever each does to blocks from N on. -/
theorem wpJ_two {i j f : Nat} {n : List Nat} {o o' : Oper} {L : GK} {listed : Array Bool} {F : World → Prop} {G : List (Nat × Obj)} {a : Act} (hi : ops[i]? = some o) (hj : ops[j]? = some o') (hB : decide (Region.ready md ops listed = [i, j]) = true) (hg : (o.guard.isNone && !isAlloc o) = true) (hg' : (o'.guard.isNone && !isAlloc o') = true)
    (h : ∀ W, F W → SG N W0 G W → givesW P N W0 (fun v F' G' => ∀ K : Act → Prop, (∀ a, wpJ P md ops N W0 n L f (listed.setIfInBounds i true) F' G' a → K a) → K (a.put o.dst v)) ((execOp a.eval o).run P W))
    (h' : ∀ W, F W → SG N W0 G W → givesW P N W0 (fun v F' G' => ∀ K : Act → Prop, (∀ a, wpJ P md ops N W0 n L f (listed.setIfInBounds j true) F' G' a → K a) → K (a.put o'.dst v)) ((execOp a.eval o').run P W)) : wpJ P md ops N W0 n L (f + 1) listed F G a := by
  rw [decide_eq_true_eq] at hB
  rw [Bool.and_eq_true, Bool.not_eq_true'] at hg hg'
  refine ⟨fun h0 => (by rw [h0] at hB; cases hB), fun k hk => ?_⟩
  rw [hB] at hk
  have hk' : k = i ∨ k = j := by simpa using hk
  rcases hk' with rfl | rfl
  · unfold wfOp
    simp only [hi]
    rw [if_neg (by rw [hg.2]; exact Bool.false_ne_true)]
    exact .inr (.inl ⟨by have := hg.1; simp [Region.wanted, Option.isNone_iff_eq_none.1 this], fun W hF hS => givesW_mono (fun v F' G' hk => hk _ fun _ h => h) _ (h W hF hS)⟩)
  · unfold wfOp
    simp only [hj]
    rw [if_neg (by rw [hg'.2]; exact Bool.false_ne_true)]
    exact .inr (.inl ⟨by have := hg'.1; simp [Region.wanted, Option.isNone_iff_eq_none.1 this], fun W hF hS => givesW_mono (fun v F' G' hk => hk _ fun _ h => h) _ (h' W hF hS)⟩)
/-- An append to a row of one's own. -/
theorem givesW_append {w : World} {o : Oper} {a : Act} {K : Value → (World → Prop) → List (Nat × Obj) → Prop} (s x : Operand) (t : TypeId)
    (ho : o.op = .call { callee := .builtin .append, args := #[s, x], argTypes := #[t, t] })
    (base : Nat) (e : TypeId) (i : TypeInfo) (z : Value) (size bytes : Nat) (ht : P.underlying t = some (.slice e)) (hi : P.info? e = some i) (hz : i.zero = some z)
    (hsize : i.size = size) (hby : i.bytes = bytes) (hzs : z.cells.size = size) (hsz : 0 < size)
    (v : Value) (n : Nat) (xs : List Value) (hs : a.eval s = v) (hown : w.ownsRow base e size v n xs)
    (ad : Addr) (m c : Nat) (news : List Value) (hx : a.eval x = .slice (some ad) m c) (hl : news.length = m * size) (hnews : ∀ j u, news[j]? = some u → w.cell? (ad.add j) = some u) (h1 : ∀ u ∈ news, u.oneCell' = true)
    (h63 : n + m ≤ maxLen) (hbytes : (n + m) * bytes ≤ 140737488355328) (hbase : base ≤ w.heap.size)
    (h : ∀ v' w', w'.ownsRow base e size v' (n + m) (xs ++ news) → w.grownBy w' v.ownBlock → (v' = .slice none 0 0 ↔ v = .slice none 0 0 ∧ m = 0) → WPost N W0 K (.returned v') w') : givesW P N W0 K ((execOp a.eval o).run P w) := by
  obtain ⟨v', w', hr, h2, h3, h4⟩ := run_append_own (P := P) w base t o.type e i z size bytes ht hi hz hsize hby hzs hsz v n xs hown ad m c news hl hnews h1 h63 hbytes hbase
  unfold execOp
  simp only [ho, resolve, invoke, builtin, Sem.run_bind, Sem.run_pure, Result.andThen_ok, List.map_toArray, List.map_cons, List.map_nil, hs, hx, hr]
  exact h v' w' h2 h3 h4
end
end Go.Proofs.Ytklkhnhieihfoaa
