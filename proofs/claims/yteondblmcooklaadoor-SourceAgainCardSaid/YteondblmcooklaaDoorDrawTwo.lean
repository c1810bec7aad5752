/- Several new blocks in a drawn region: whichever comes first. No program in sight. -/
import Derived.Test.YteondblmcooklaaDoorDraw
namespace Go.Proofs.YteondblmcooklaaDoor
open Go Go.RowKit
set_option linter.unusedVariables false
section
variable {P : Program} {ops : Array Oper} {md : Region.Mode} {N : Nat} {W0 : World}
theorem SG.same {G G' : List (Nat × Obj)} {W : World} (h : ∀ p, p ∈ G ↔ p ∈ G') (hS : SG N W0 G W) : SG N W0 G' W := ⟨hS.1, fun p hp => hS.2 p ((h p).2 hp)⟩
theorem same_cons {G G' : List (Nat × Obj)} (h : ∀ p, p ∈ G ↔ p ∈ G') (q : Nat × Obj) : ∀ p, p ∈ q :: G ↔ p ∈ q :: G' := fun p => by simp [h p]
def LInv (L : GK) : Prop := ∀ F G G' a, (∀ p, p ∈ G ↔ p ∈ G') → L F G a → L F G' a
theorem wfOp_same {i : Nat} {a : Act} {F : World → Prop} {G G' : List (Nat × Obj)} {K : GK} (hK : LInv K) (h : ∀ p, p ∈ G ↔ p ∈ G') (hh : wfOp P ops N W0 i K F G a) : wfOp P ops N W0 i K F G' a := by
  unfold wfOp at *
  split
  · rename_i ho; simp only [ho] at hh
  · rename_i o ho
    simp only [ho] at hh
    split at hh
    · rename_i ha
      rw [if_pos ha]
      obtain ⟨ob, hf, hk⟩ := hh
      exact ⟨ob, hf, fun g hN hg => hK _ _ _ _ (same_cons h _) (hk g hN (fun p hp => hg p ((h p).1 hp)))⟩
    · rename_i ha
      rw [if_neg ha]
      rcases hh with ⟨v, hy, hk⟩ | ⟨hw, hx⟩ | ⟨hw, hx⟩
      · exact .inl ⟨v, hy, hK _ _ _ _ h hk⟩
      · exact .inr (.inl ⟨hw, fun W hF hS => hx W hF (hS.same (fun p => (h p).symm))⟩)
      · exact .inr (.inr ⟨hw, fun W hF hS => givesX_mono (fun v F' hk => hK _ _ _ _ h hk) _ (hx W hF (hS.same (fun p => (h p).symm)))⟩)
theorem wpF_same {n : Nat} {L : GK} (hL : LInv L) : ∀ (f : Nat) (listed : Array Bool), LInv (wpF P md ops N W0 n L f listed)
  | 0, listed => fun F G G' a h hh => ⟨hh.1, hL _ _ _ _ h hh.2⟩
  | f + 1, listed => fun F G G' a h hh => ⟨hh.1, fun i hi => wfOp_same (wpF_same hL f _) h (hh.2 i hi)⟩
theorem wpF_freshfirst {i n : Nat} {oi : Oper} {L : GK} (hL : LInv L) (hsel : ∀ (j : Nat) (o : Oper) cs b, ops[j]? = some o → o.op ≠ .select cs b) (hi : ops[i]? = some oi) (hai : isAlloc oi = true) (ob : Obj) (hfr : ∀ a', FreshF P ops oi a' ob)
    (hob : ∀ (j : Nat) (oj : Oper), ops[j]? = some oj → isAlloc oj = true → ∃ ob, ∀ a', FreshF P ops oj a' ob) :
    ∀ (f : Nat) (listed : Array Bool) (F : World → Prop) (G : List (Nat × Obj)) (a : Act), onlyF md ops i f listed = true →
      (∀ g, N ≤ g → (∀ p ∈ G, p.1 ≠ g) → wpF P md ops N W0 n L f (listed.setIfInBounds i true) F ((g, ob) :: G) (a.put oi.dst (.pointer (some ⟨g, 0, none⟩)))) →
      wpF P md ops N W0 n L (f + 1) listed F G a := by
  have here : ∀ (K : GK) (F : World → Prop) (G : List (Nat × Obj)) (a : Act), (∀ g, N ≤ g → (∀ p ∈ G, p.1 ≠ g) → K F ((g, ob) :: G) (a.put oi.dst (.pointer (some ⟨g, 0, none⟩)))) → wfOp P ops N W0 i K F G a := by
    intro K F G a hk
    unfold wfOp
    simp only [hi]
    rw [if_pos hai]
    exact ⟨ob, hfr a, hk⟩
  intro f
  induction f with
  | zero =>
    intro listed F G a hB hx
    simp only [onlyF, decide_eq_true_eq] at hB
    refine ⟨fun h => (by rw [h] at hB; cases hB), fun j hj => ?_⟩
    rw [hB] at hj
    obtain rfl : j = i := by simpa using hj
    exact here _ _ _ _ hx
  | succ f ih =>
    intro listed F G a hB hx
    simp only [onlyF, Bool.and_eq_true, List.all_eq_true] at hB
    obtain ⟨hr, hall⟩ := hB
    have hr : i ∈ Region.ready md ops listed := by simpa using hr
    refine ⟨fun h => (by rw [h] at hr; cases hr), fun j hj => ?_⟩
    by_cases hji : j = i
    · subst hji; exact here _ _ _ _ hx
    · have h1 := hall j hj
      obtain ⟨hjun, oj, hoj, _⟩ := mem_ready.1 hj
      simp only [hi, hoj, Bool.or_eq_true, beq_iff_eq, hji, false_or, Bool.and_eq_true] at h1
      obtain ⟨⟨haj, hap⟩, hon⟩ := h1
      obtain ⟨obj, hfrj⟩ := hob j oj hoj haj
      obtain ⟨p1, p2, p3⟩ := Oper.apart_spec hap
      unfold wfOp
      simp only [hoj]
      rw [if_pos haj]
      refine ⟨obj, hfrj a, fun g' hN' hG' => ih (listed.setIfInBounds j true) F ((g', obj) :: G) _ hon (fun g hN hG => ?_)⟩
      have hne : g' ≠ g := hG (g', obj) (by simp)
      have h2 := (hx g hN (fun p hp => hG p (by simp [hp]))).2 j (ready_mono hj hji)
      unfold wfOp at h2
      simp only [hoj] at h2
      rw [if_pos haj] at h2
      obtain ⟨ob', hf', hk'⟩ := h2
      have hobe : obj = ob' := freshF_ob (hfrj _) hf' rfl W0
      subst hobe
      have h4 := hk' g' hN' (fun p hp => by
        rcases List.mem_cons.1 hp with rfl | hp
        · exact Ne.symm hne
        · exact hG' p hp)
      rw [Array.setIfInBounds_comm _ _ (Ne.symm hji), Act.put_comm a _ _ p2] at h4
      exact wpF_same hL f _ _ _ _ _ (fun p => by simp only [List.mem_cons]; constructor <;> (rintro (h | h | h) <;> simp [h])) h4
def freshB (P : Program) (md : Region.Mode) (ops : Array Oper) (i f : Nat) (listed : Array Bool) : Bool :=
  Region.noSelect ops && onlyF md ops i f listed && allocsB P ops && match ops[i]? with | some o => isAlloc o | none => false
/-- A new block, beside new blocks alone. -/
theorem wpF_fresh2 {i f n : Nat} {o : Oper} {L : GK} {listed : Array Bool} {F : World → Prop} {G : List (Nat × Obj)} {a : Act} (hL : LInv L) (hi : ops[i]? = some o) (hB : freshB P md ops i f listed = true) (ob : Obj)
    (h : ∀ W, (execOp a.eval o).run P W = .ok (.value (.pointer (some ⟨W.heap.size, 0, none⟩))) (W.alloc ob))
    (hk : ∀ g, N ≤ g → (∀ p ∈ G, p.1 ≠ g) → ∀ K : Act → Prop, (∀ a, wpF P md ops N W0 n L f (listed.setIfInBounds i true) F ((g, ob) :: G) a → K a) → K (a.put o.dst (.pointer (some ⟨g, 0, none⟩)))) : wpF P md ops N W0 n L (f + 1) listed F G a := by
  simp only [freshB, hi, Bool.and_eq_true] at hB
  obtain ⟨⟨⟨hs, hon⟩, hal⟩, ha⟩ := hB
  obtain ⟨ob', hfr⟩ := allocs_fresh hal i o hi ha
  have hwt : Region.wanted o (yielded ops a.tmps) = true := (hfr a).1
  have e : ob = ob' := freshF_ob ⟨hwt, h⟩ (hfr a) rfl W0
  subst e
  exact wpF_freshfirst hL (Region.noSelect_spec hs) hi ha ob hfr (fun j oj hj haj => allocs_fresh hal j oj hj haj) f listed F G a hon (fun g hN hg => hk g hN hg _ fun _ h => h)
end
end Go.Proofs.YteondblmcooklaaDoor
