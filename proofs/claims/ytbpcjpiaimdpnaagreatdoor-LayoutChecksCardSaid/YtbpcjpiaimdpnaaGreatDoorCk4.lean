/- Merged texts: DrawN DrawO SeqY LcU Fr Vec LcV LcO On9w. -/
import Derived.Test.YtbpcjpiaimdpnaaGreatDoorCk3
import Derived.Test.YtbpcjpiaimdpnaaGreatDoorProg
import Derived.WalkKit
import Derived.WalkSpells
import Derived.WalkLawsBesides
import Derived.Outline
import Derived.Deep.Cut
set_option linter.unusedSimpArgs false
set_option linter.unusedVariables false
namespace Go.Proofs.YtbpcjpiaimdpnaaGreatDoor
open Go Go.RowKit
set_option linter.unusedVariables false
section
variable {P : Program} {ops : Array Oper} {md : Region.Mode} {S : World → Prop} {Q : Exit → Act → World → Prop}
def readyB (md : Region.Mode) (ops : Array Oper) (listed : Array Bool) (i : Nat) : Bool :=
  decide (i < ops.size) && (!listed.getD i true && ((ops[i]?).map (·.after.all fun e => !Region.binds md e || listed.getD e.on false)).getD false)
theorem readyB_spec {listed : Array Bool} {i : Nat} (h : readyB md ops listed i = true) : i ∈ Region.ready md ops listed := by
 unfold readyB at h
 rw [Bool.and_eq_true, decide_eq_true_eq] at h
 unfold Region.ready
 rw [List.mem_filter, List.mem_range]
 exact h
def stepBN (md : Region.Mode) (ops : Array Oper) (n : List Nat) (i : Nat) (listed : Array Bool) : Bool := (!n.contains i) && readyB md ops listed i && Region.free md ops listed i
theorem wpN_maybe {i f : Nat} {n : List Nat} {o : Oper} {L : Act → World → Prop} {listed : Array Bool} {a : Act} {w : World} (hT : Hid (tailBJ md ops n = true)) (hD : Hid (DC md ops listed)) (hi : ops[i]? = some o) (hB : stepBN md ops n i listed = true) (b : Bool) (hg : Region.wanted o (yielded ops a.tmps) = b) (v : Value)
  (hQ : ∀ c a w, Q (.panic c) (a.put o.dst (opt b v)) w → Q (.panic c) a w) (hS : S w)
  (h : b = true → ∀ w, S w → (execOp a.eval o).run P w = .ok (.value v) w) (hk : Hid (DC md ops (listed.setIfInBounds i true)) → ∀ K : Act → World → Prop, (∀ a w, wpZ P md ops S Q n L f (listed.setIfInBounds i true) a w → K a w) → K (a.put o.dst (opt b v)) w) : wpZ P md ops S Q n L (f + 1) listed a w := by
 simp only [stepBN, Bool.and_eq_true, Bool.not_eq_true'] at hB
 obtain ⟨⟨h2, h3⟩, h4⟩ := hB
 have h3 := readyB_spec h3
 refine wpZ_first (v := opt b v) hT.out h2 hi hQ f listed a w hD.out (Region.free_spec hi h4) h3 ?_ hS (hk (hQ0 (hD.out.set h3)) _ fun _ _ h => h)
 cases b with
 | true => exact .inl ⟨hg, h rfl⟩
 | false => exact .inr ⟨hg, rfl⟩
theorem wpN_freshm {i f : Nat} {n : List Nat} {o : Oper} {L : Act → World → Prop} {listed : Array Bool} {a : Act} {w : World} (hD : Hid (DC md ops listed)) (hi : ops[i]? = some o) (hB : decide (Region.ready md ops listed = [i]) = true) (b : Bool) (hg : Region.wanted o (yielded ops a.tmps) = b) (v : Value) (ob : Obj)
  (h : b = true → (execOp a.eval o).run P w = .ok (.value v) (w.alloc ob)) (hS : S w) (hS' : S (w.alloc ob))
  (hk : Hid (DC md ops (listed.setIfInBounds i true)) → ∀ K : Act → World → Prop, (∀ a w, wpZ P md ops S Q n L f (listed.setIfInBounds i true) a w → K a w) → ∀ w', S w' → (b = true → w' = w.alloc ob) → K (a.put o.dst (opt b v)) w') : wpZ P md ops S Q n L (f + 1) listed a w := by
 refine wpZ_freshm hi hB b hg v ob h hS hS' (hk (hQ0 (hD.out.set ?_)))
 rw [decide_eq_true_eq] at hB
 rw [hB]
 simp
theorem wpN_callm {i f : Nat} {n : List Nat} {o : Oper} {L : Act → World → Prop} {listed : Array Bool} {a : Act} {w : World} (hD : Hid (DC md ops listed)) (hi : ops[i]? = some o) (hB : decide (Region.ready md ops listed = [i]) = true) (b : Bool) (hg : Region.wanted o (yielded ops a.tmps) = b) (v : Value)
  (h : b = true → ∀ N : Act → World → Prop, (∀ w', S w' → N (a.put o.dst v) w') → Oper.upon P o a N Q ((execOp a.eval o).run P w)) (hS : S w)
  (hk : Hid (DC md ops (listed.setIfInBounds i true)) → ∀ K : Act → World → Prop, (∀ a w, wpZ P md ops S Q n L f (listed.setIfInBounds i true) a w → K a w) → ∀ w', S w' → K (a.put o.dst (opt b v)) w') : wpZ P md ops S Q n L (f + 1) listed a w := by
 refine wpZ_callm hi hB b hg v h hS (hk (hQ0 (hD.out.set ?_)))
 rw [decide_eq_true_eq] at hB
 rw [hB]
 simp
def hopB (md : Region.Mode) (ops : Array Oper) (m i : Nat) : Bool := match ops[m]? with
  | some o => o.after.any fun e => Region.binds md e && e.on == i
  | none => false
theorem waits_hop {m i : Nat} (hm : hopB md ops m i = true) : ∀ (f t : Nat), waitsJ md ops f t m = true → waitsJ md ops (f + 1) t i = true
 | 0, t, h => by simp [waitsJ] at h
 | f + 1, t, h => by
  unfold waitsJ at h ⊢
  cases ho : ops[t]? with
  | none => rw [ho] at h; simp at h
  | some o =>
   rw [ho] at h
   simp only [Bool.or_eq_true] at h ⊢
   right
   rcases h with h | h
   · obtain ⟨e, he, hb⟩ := Array.any_eq_true'.1 h
     simp only [Bool.and_eq_true, beq_iff_eq] at hb
     refine Array.any_eq_true'.2 ⟨e, he, ?_⟩
     simp only [Bool.and_eq_true]
     refine ⟨hb.1, ?_⟩
     rw [hb.2]
     unfold hopB at hm
     unfold waitsJ
     cases ho2 : ops[m]? with
     | none => rw [ho2] at hm; simp at hm
     | some o2 => rw [ho2] at hm; simp only [Bool.or_eq_true]; left; exact hm
   · obtain ⟨e, he, hb⟩ := Array.any_eq_true'.1 h
     simp only [Bool.and_eq_true] at hb
     exact Array.any_eq_true'.2 ⟨e, he, by simp only [Bool.and_eq_true]; exact ⟨hb.1, waits_hop hm f e.on hb.2⟩⟩
theorem waits_more : ∀ (f t i : Nat), waitsJ md ops f t i = true → waitsJ md ops (f + 1) t i = true
 | 0, t, i, h => by simp [waitsJ] at h
 | f + 1, t, i, h => by
  unfold waitsJ at h ⊢
  cases ho : ops[t]? with
  | none => rw [ho] at h; simp at h
  | some o =>
   rw [ho] at h
   simp only [Bool.or_eq_true] at h ⊢
   rcases h with h | h
   · exact .inl h
   · right
     obtain ⟨e, he, hb⟩ := Array.any_eq_true'.1 h
     simp only [Bool.and_eq_true] at hb
     exact Array.any_eq_true'.2 ⟨e, he, by simp only [Bool.and_eq_true]; exact ⟨hb.1, waits_more f e.on i hb.2⟩⟩
theorem waits_le {f g t i : Nat} (h : waitsJ md ops f t i = true) (hg : f ≤ g) : waitsJ md ops g t i = true := by
 induction hg with
 | refl => exact h
 | step _ ih => exact waits_more _ _ _ ih
def chainB (md : Region.Mode) (ops : Array Oper) (t : Nat) (nx : List Nat) : Bool :=
  (List.range ops.size).all fun i => i == t || (hopB md ops (nx.getD i 0) i && decide (i < nx.getD i 0) && decide (nx.getD i 0 ≤ t))
theorem chain_waits {t : Nat} {nx : List Nat} (ht : t < ops.size) (h : chainB md ops t nx = true) : ∀ (d i : Nat), t - i ≤ d → i < ops.size → i ≠ t → waitsJ md ops (t - i) t i = true
 | 0, i, hd, hi, hne => by
  simp only [chainB, List.all_eq_true, List.mem_range] at h
  have h1 := h i hi
  simp only [Bool.or_eq_true, beq_iff_eq, hne, false_or, Bool.and_eq_true, decide_eq_true_eq] at h1
  omega
 | d + 1, i, hd, hi, hne => by
  have h0 := h
  simp only [chainB, List.all_eq_true, List.mem_range] at h
  have h1 := h i hi
  simp only [Bool.or_eq_true, beq_iff_eq, hne, false_or, Bool.and_eq_true, decide_eq_true_eq] at h1
  obtain ⟨⟨h1, h2⟩, h3⟩ := h1
  by_cases hm : nx.getD i 0 = t
  · rw [hm] at h1
    refine waits_le (f := 1) ?_ (by omega)
    unfold hopB at h1
    unfold waitsJ
    cases ho : ops[t]? with
    | none => rw [ho] at h1; simp at h1
    | some o => rw [ho] at h1; simp only [Bool.or_eq_true]; exact .inl h1
  · have ih := chain_waits ht h0 d (nx.getD i 0) (by omega) (by omega) hm
    exact waits_le (waits_hop h1 _ _ ih) (by omega)
theorem tailBJ_of {t : Nat} {nx : List Nat} (h : (Region.noSelect ops && (decide (t < ops.size) && chainB md ops t nx)) = true) : tailBJ md ops [t] = true := by
 simp only [Bool.and_eq_true, decide_eq_true_eq] at h
 obtain ⟨hn, ht, hc⟩ := h
 unfold tailBJ
 rw [hn, Bool.true_and]
 simp only [List.all_eq_true, List.mem_range]
 intro u hu
 by_cases hut : u = t
 · subst hut
   simp only [List.contains_cons, beq_self_eq_true, Bool.true_or, Bool.not_true, Bool.false_or]
   cases ho : ops[u]? with
   | none => rfl
   | some o =>
    simp only [List.all_eq_true, List.mem_range, Bool.or_eq_true]
    intro i hi
    by_cases hiu : i = u
    · left; simp [hiu]
    · right; exact waits_le (chain_waits ht hc _ i (Nat.le_refl _) hi hiu) (by omega)
 · simp [hut]
theorem wp_region_N {id : Nat} {a : Act} {w : World} {l : List Oper} (S : World → Prop) (m : Nat) (n : List Nat) (hm : P.follows .mixedOrders = true) (hn : (decide (m + n.length = l.length) && n.all (fun j => decide (j < l.length))) = true) (hT : tailBJ .any l.toArray n = true) (hD : dcB .any l.toArray (Array.replicate l.length false) = true)
  (h : Hid (tailBJ .any l.toArray n = true) → Hid (DC .any l.toArray (Array.replicate l.length false)) → wpZ P .any l.toArray S Q n (fun a' w' => wpList P l.toArray Q (n.filterMap (fun i => l[i]?)) a' w') m (Array.replicate l.length false) a w.drew) : (Code.region id l.toArray true).wp P Q a w :=
 wp_region_Z S m n hm hn (h (hQ0 hT) (hQ0 (dcB_spec hD)))
end
theorem wpN_one {P : Program} {ops : Array Oper} {md : Region.Mode} {S : World → Prop} {Q : Exit → Act → World → Prop} {i f : Nat} {n : List Nat} {o : Oper} {L : Act → World → Prop} {listed : Array Bool} {a : Act} {w : World} (hD : Hid (DC md ops listed)) (hi : ops[i]? = some o) (hB : decide (Region.ready md ops listed = [i]) = true) (hg : o.guard = none)
  (hk : Hid (DC md ops (listed.setIfInBounds i true)) → ∀ K : Act → World → Prop, (∀ a w, wpZ P md ops S Q n L f (listed.setIfInBounds i true) a w → K a w) → Oper.upon P o a (fun a' w' => S w' ∧ K a' w') Q ((execOp a.eval o).run P w)) : wpZ P md ops S Q n L (f + 1) listed a w := by
 refine wpZ_one hi hB hg (hk (hQ0 (hD.out.set ?_)))
 rw [decide_eq_true_eq] at hB
 rw [hB]
 simp
theorem wpN_onew {P : Program} {ops : Array Oper} {md : Region.Mode} {S : World → Prop} {Q : Exit → Act → World → Prop} {i f : Nat} {n : List Nat} {o : Oper} {L : Act → World → Prop} {listed : Array Bool} {a : Act} {w : World} (hD : Hid (DC md ops listed)) (hi : ops[i]? = some o) (hB : decide (Region.ready md ops listed = [i]) = true) (hg : Region.wanted o (yielded ops a.tmps) = true)
  (hk : Hid (DC md ops (listed.setIfInBounds i true)) → ∀ K : Act → World → Prop, (∀ a w, wpZ P md ops S Q n L f (listed.setIfInBounds i true) a w → K a w) → Oper.upon P o a (fun a' w' => S w' ∧ K a' w') Q ((execOp a.eval o).run P w)) : wpZ P md ops S Q n L (f + 1) listed a w := by
 have hB2 := hB
 rw [decide_eq_true_eq] at hB
 have hk := hk (hQ0 (hD.out.set (by rw [hB]; simp))) _ fun _ _ h => h
 refine ⟨fun h0 => (by rw [h0] at hB; cases hB), fun j hj => ?_⟩
 rw [hB] at hj
 obtain rfl : j = i := by simpa using hj
 unfold wpOp
 simp only [hi]
 rw [if_pos hg]
 exact .inl hk
theorem hQ_of {Q : Exit → Act → World → Prop} (hQ : ∀ c a (d : Tmp) v w, Q (.panic c) (a.put (some d) v) w → Q (.panic c) a w) (d : Option Tmp) (v : Value) : ∀ c a w, Q (.panic c) (a.put d v) w → Q (.panic c) a w := by
 cases d with
 | none => exact fun _ _ _ h => h
 | some d => exact fun c a w h => hQ c a d v w h
def wpY (P : Program) (md : Region.Mode) (ops : Array Oper) (S : World → Prop) (Q : Exit → Act → World → Prop) (n : List Nat) (L : Act → World → Prop) (f : Nat) (listed : Array Bool) (a : Act) (w : World) : Prop :=
  (∀ c a (d : Tmp) v w, Q (.panic c) (a.put (some d) v) w → Q (.panic c) a w) → tailBJ md ops n = true → DC md ops listed → S w → wpZ P md ops S Q n L f listed a w
theorem wp_region_Y {P : Program} {Q : Exit → Act → World → Prop} {id : Nat} {a : Act} {w : World} {l : List Oper} (S : World → Prop) (m : Nat) (n : List Nat) (hm : P.follows .mixedOrders = true) (hn : (decide (m + n.length = l.length) && n.all (fun j => decide (j < l.length))) = true) (hT : tailBJ .any l.toArray n = true) (hD : dcB .any l.toArray (Array.replicate l.length false) = true) (hQ : ∀ c a (d : Tmp) v w, Q (.panic c) (a.put (some d) v) w → Q (.panic c) a w) (hS : S w.drew)
  (h : wpY P .any l.toArray S Q n (fun a' w' => wpList P l.toArray Q (n.filterMap (fun i => l[i]?)) a' w') m (Array.replicate l.length false) a w.drew) : (Code.region id l.toArray true).wp P Q a w :=
 wp_region_N S m n hm hn hT hD fun hT hD => h hQ hT.out hD.out hS
section
variable {P : Program} {ops : Array Oper} {md : Region.Mode} {S : World → Prop} {Q : Exit → Act → World → Prop} {i f : Nat} {n : List Nat} {o : Oper} {L : Act → World → Prop} {listed : Array Bool} {a : Act} {w : World}
theorem wpY_maybe (hi : ops[i]? = some o) (hB : stepBN md ops n i listed = true) (b : Bool) (hg : Region.wanted o (yielded ops a.tmps) = b) (v : Value)
  (h : b = true → ∀ w, S w → (execOp a.eval o).run P w = .ok (.value v) w) (hk : ∀ K : Act → World → Prop, (∀ a w, wpY P md ops S Q n L f (listed.setIfInBounds i true) a w → K a w) → K (a.put o.dst (opt b v)) w) : wpY P md ops S Q n L (f + 1) listed a w :=
 fun hQ hT hD hS => wpN_maybe (hQ0 hT) (hQ0 hD) hi hB b hg v (hQ_of hQ _ _) hS h fun hD2 K hK => hK _ _ (hk (fun a w' => S w' → wpZ P md ops S Q n L f (listed.setIfInBounds i true) a w') (fun a w' hy hs => hy hQ hT hD2.out hs) hS)
theorem wpY_seq (c : Nat) (hi : ops[c - (f + 1)]? = some o) (hB : stepBN md ops n (c - (f + 1)) listed = true) (b : Bool) (hg : Region.wanted o (yielded ops a.tmps) = b) (v : Value)
  (h : b = true → ∀ w, S w → (execOp a.eval o).run P w = .ok (.value v) w) (hk : ∀ K : Act → World → Prop, (∀ a w, wpY P md ops S Q n L f (listed.setIfInBounds (c - (f + 1)) true) a w → K a w) → K (a.put o.dst (opt b v)) w) : wpY P md ops S Q n L (f + 1) listed a w := wpY_maybe hi hB b hg v h hk
theorem wpY_freshm (hi : ops[i]? = some o) (hB : decide (Region.ready md ops listed = [i]) = true) (b : Bool) (hg : Region.wanted o (yielded ops a.tmps) = b) (v : Value) (ob : Obj)
  (h : b = true → (execOp a.eval o).run P w = .ok (.value v) (w.alloc ob)) (hS' : S (w.alloc ob))
  (hk : ∀ K : Act → World → Prop, (∀ a w, wpY P md ops S Q n L f (listed.setIfInBounds i true) a w → K a w) → ∀ w', S w' → (b = true → w' = w.alloc ob) → K (a.put o.dst (opt b v)) w') : wpY P md ops S Q n L (f + 1) listed a w :=
 fun hQ hT hD hS => wpN_freshm (hQ0 hD) hi hB b hg v ob h hS hS' fun hD2 K hK w' hw' he => hK _ _ (hk (fun a w' => S w' → wpZ P md ops S Q n L f (listed.setIfInBounds i true) a w') (fun a w' hy hs => hy hQ hT hD2.out hs) w' hw' he hw')
theorem wpY_callm (hi : ops[i]? = some o) (hB : decide (Region.ready md ops listed = [i]) = true) (b : Bool) (hg : Region.wanted o (yielded ops a.tmps) = b) (v : Value)
  (h : b = true → ∀ N : Act → World → Prop, (∀ w', S w' → N (a.put o.dst v) w') → Oper.upon P o a N Q ((execOp a.eval o).run P w))
  (hk : ∀ K : Act → World → Prop, (∀ a w, wpY P md ops S Q n L f (listed.setIfInBounds i true) a w → K a w) → ∀ w', S w' → K (a.put o.dst (opt b v)) w') : wpY P md ops S Q n L (f + 1) listed a w :=
 fun hQ hT hD hS => wpN_callm (hQ0 hD) hi hB b hg v h hS fun hD2 K hK w' hw' => hK _ _ (hk (fun a w' => S w' → wpZ P md ops S Q n L f (listed.setIfInBounds i true) a w') (fun a w' hy hs => hy hQ hT hD2.out hs) w' hw' hw')
theorem wpY_one (hi : ops[i]? = some o) (hB : decide (Region.ready md ops listed = [i]) = true) (hg : o.guard = none)
  (hk : ∀ K : Act → World → Prop, (∀ a w, wpY P md ops S Q n L f (listed.setIfInBounds i true) a w → K a w) → Oper.upon P o a (fun a' w' => S w' ∧ K a' w') Q ((execOp a.eval o).run P w)) : wpY P md ops S Q n L (f + 1) listed a w :=
 fun hQ hT hD hS => wpN_one (hQ0 hD) hi hB hg fun hD2 K hK => Oper.wp_mono (K := fun a' w' => S w' ∧ (S w' → K a' w')) (fun a' w' h => ⟨h.1, h.2 h.1⟩) (hk (fun a w' => S w' → K a w') (fun a w' hy hs => hK a w' (hy hQ hT hD2.out hs)))
theorem wpY_onew (hi : ops[i]? = some o) (hB : decide (Region.ready md ops listed = [i]) = true) (hg : Region.wanted o (yielded ops a.tmps) = true)
  (hk : ∀ K : Act → World → Prop, (∀ a w, wpY P md ops S Q n L f (listed.setIfInBounds i true) a w → K a w) → Oper.upon P o a (fun a' w' => S w' ∧ K a' w') Q ((execOp a.eval o).run P w)) : wpY P md ops S Q n L (f + 1) listed a w :=
 fun hQ hT hD hS => wpN_onew (hQ0 hD) hi hB hg fun hD2 K hK => Oper.wp_mono (K := fun a' w' => S w' ∧ (S w' → K a' w')) (fun a' w' h => ⟨h.1, h.2 h.1⟩) (hk (fun a w' => S w' → K a w') (fun a w' hy hs => hK a w' (hy hQ hT hD2.out hs)))
def isRow (o : Oper) : Bool := match o.op with
  | .buildSlice .. => true
  | .alloc .. => true
  | _ => false
def isCall (o : Oper) : Bool := match o.op with
  | .call c => (match c.callee with
    | .value _ => true
    | _ => false)
  | _ => false
theorem wpY_seqf (g c : Nat) (hf : Nat.ble g f = true) (hi : ops[c - (f + 1)]? = some o) (hR : isRow o = true) (hB : decide (Region.ready md ops listed = [c - (f + 1)]) = true) (hg : Region.wanted o (yielded ops a.tmps) = true) (v : Value) (ob : Obj)
  (h : (execOp a.eval o).run P w = .ok (.value v) (w.alloc ob)) (hS' : S (w.alloc ob))
  (hk : ∀ K : Act → World → Prop, (∀ a w, wpY P md ops S Q n L f (listed.setIfInBounds (c - (f + 1)) true) a w → K a w) → S (w.alloc ob) → K (a.put o.dst v) (w.alloc ob)) : wpY P md ops S Q n L (f + 1) listed a w :=
 wpY_freshm hi hB true hg v ob (fun _ => h) hS' fun K hK w' _ he => he rfl ▸ hk K hK hS'
theorem wpY_seqc (g c : Nat) (hf : Nat.ble g f = true) (hi : ops[c - (f + 1)]? = some o) (hR : isCall o = true) (hB : decide (Region.ready md ops listed = [c - (f + 1)]) = true) (hg : Region.wanted o (yielded ops a.tmps) = true) (v : Value)
  (h : ∀ N : Act → World → Prop, (∀ w', S w' → N (a.put o.dst v) w') → Oper.upon P o a N Q ((execOp a.eval o).run P w))
  (hk : ∀ K : Act → World → Prop, (∀ a w, wpY P md ops S Q n L f (listed.setIfInBounds (c - (f + 1)) true) a w → K a w) → ∀ w', S w' → K (a.put o.dst v) w') : wpY P md ops S Q n L (f + 1) listed a w :=
 wpY_callm hi hB true hg v (fun _ => h) hk
theorem wpY_skip (g c : Nat) (hf : Nat.ble g f = true) (hi : ops[c - (f + 1)]? = some o) (hB : stepBN md ops n (c - (f + 1)) listed = true) (hg : Region.wanted o (yielded ops a.tmps) = false)
  (hk : ∀ K : Act → World → Prop, (∀ a w, wpY P md ops S Q n L f (listed.setIfInBounds (c - (f + 1)) true) a w → K a w) → K (a.put o.dst undef) w) : wpY P md ops S Q n L (f + 1) listed a w :=
 wpY_maybe hi hB false hg undef (fun h => by cases h) hk
theorem wpY_seqg (g c : Nat) (hf : Nat.ble g f = true) (hi : ops[c - (f + 1)]? = some o) (hB : stepBN md ops n (c - (f + 1)) listed = true) (b : Bool) (hg : Region.wanted o (yielded ops a.tmps) = b) (v : Value)
  (h : b = true → ∀ w, S w → (execOp a.eval o).run P w = .ok (.value v) w) (hk : ∀ K : Act → World → Prop, (∀ a w, wpY P md ops S Q n L f (listed.setIfInBounds (c - (f + 1)) true) a w → K a w) → K (a.put o.dst (opt b v)) w) : wpY P md ops S Q n L (f + 1) listed a w := wpY_maybe hi hB b hg v h hk
theorem wpY_seqv (g c : Nat) (hf : Nat.beq f g = true) (hi : ops[c - (f + 1)]? = some o) (hB : stepBN md ops n (c - (f + 1)) listed = true) (b : Bool) (hg : Region.wanted o (yielded ops a.tmps) = b) (v : Value)
  (h : b = true → ∀ w, S w → (execOp a.eval o).run P w = .ok (.value v) w) (hk : ∀ K : Act → World → Prop, (∀ a w, wpY P md ops S Q n L f (listed.setIfInBounds (c - (f + 1)) true) a w → K a w) → K (a.put o.dst (opt b v)) w) : wpY P md ops S Q n L (f + 1) listed a w := wpY_maybe hi hB b hg v h hk
theorem wpY_end (hf : Nat.beq f 0 = true) (h : wpY P md ops S Q n L 0 listed a w) : wpY P md ops S Q n L f listed a w := Nat.eq_of_beq_eq_true hf ▸ h
theorem wpY_nil (hB : seqJ md ops n listed = true) (h : L a w) : wpY P md ops S Q n L 0 listed a w := fun _ _ _ _ => wpZ_nil hB h
end
theorem evA {T : List Value} {d : List Deferred} {A : Act} (h : Act.mk (List.toArray T) d = A) (i : Nat) : A.eval (.tmp i) = getL T i := by
 subst h
 exact evalL _ _ i
theorem evE {T : List Value} {d : List Deferred} {e : Operand → Value} (h : Act.eval (Act.mk (List.toArray T) d) = e) (i : Nat) : e (.tmp i) = getL T i := by
 subst h
 exact evalL _ _ i
theorem evC {a : Act} {e : Operand → Value} (h : Act.eval a = e) : ∀ v, e (.const v) = v := fun v => by
 rw [← h]
 rfl
theorem acC (A : Act) : ∀ v, Act.eval A (.const v) = v := fun _ => rfl
theorem acF (A : Act) : ∀ f, Act.eval A (.func f) = .func (.func f) #[] #[] := fun _ => rfl
theorem getL_some {v : Value} (hv : v ≠ undef) : ∀ (L : List Value) (d : Nat), getL L d = v → L[d]? = some v
 | [], d, h => absurd h.symm hv
 | a :: l, 0, h => by rw [← h]; rfl
 | a :: l, d + 1, h => by rw [List.getElem?_cons_succ]; exact getL_some hv l d h
theorem wantN {o : Oper} {y : Nat → Option Bool} (hg : o.guard = none) : Region.wanted o y = true := by unfold Region.wanted; rw [hg]
theorem wantE {o x : Oper} {ops : Array Oper} {L : List Value} {k d : Nat} {u b : Bool} (hg : o.guard = some (k, u)) (hx : ops[k]? = some x) (hd : x.dst = some d) (hv : getL L d = .bool b) : Region.wanted o (yielded ops (List.toArray L)) = (some b == some u) := by
 have h : (List.toArray L)[d]? = some (.bool b) := by rw [List.getElem?_toArray]; exact getL_some (by intro h; cases h) L d hv
 unfold Region.wanted yielded
 rw [hg]
 simp only [hx, Option.bind_some, hd]
 rw [h]
theorem wantT {o x : Oper} {ops : Array Oper} {L : List Value} {k d : Nat} {u : Bool} (hg : o.guard = some (k, u)) (hx : ops[k]? = some x) (hd : x.dst = some d) (hv : getL L d = .bool u) : Region.wanted o (yielded ops (List.toArray L)) = true := by
 rw [wantE hg hx hd hv]
 exact beq_self_eq_true _
theorem wantF {o x : Oper} {ops : Array Oper} {L : List Value} {k d : Nat} {u : Bool} (hg : o.guard = some (k, u)) (hx : ops[k]? = some x) (hd : x.dst = some d) (hv : getL L d = .bool (!u)) : Region.wanted o (yielded ops (List.toArray L)) = false := by
 rw [wantE hg hx hd hv]
 cases u <;> rfl
theorem upon_append_one {w : World} {o : Oper} {a : Act} {N : Act → World → Prop} {Q : Exit → Act → World → Prop} (s x : Operand) (t e : TypeId) (z : Value) (size bytes : Nat)
  (ho : o.op = .call { callee := .builtin .append, args := #[s, x], argTypes := #[t, t] })
  (ht : Tryz.prog.underlying t = some (.slice e)) (hinfo : (Tryz.prog.info? e).map (fun i => (i.zero, i.size, i.bytes)) = some (some z, size, bytes)) (hzs : z.cells.size = size) (hsz : 0 < size) (hby : bytes ≤ 1000)
  (base : Nat) (v : Value) (n : Nat) (xs cs : List Value) (hs : a.eval s = v) (hown : w.ownsRow base e size v n xs)
  (g c : Nat) (hx : a.eval x = .slice (some ⟨g, 0, none⟩) 1 c) (hl : cs.length = size) (hcell : ∀ j u, cs[j]? = some u → w.cell? ⟨g, j, none⟩ = some u) (h1 : ∀ u ∈ cs, u.oneCell' = true) (h63 : n ≤ 1000000) (hbase : base ≤ w.heap.size)
  (h : ∀ v' w', w'.ownsRow base e size v' (n + 1) (xs ++ cs) → w.grownBy w' v.ownBlock → (v'.ownBlock = v.ownBlock ∨ v'.ownBlock = some w.heap.size) → N (a.put o.dst v') w') : Oper.upon Tryz.prog o a N Q ((execOp a.eval o).run Tryz.prog w) := by
 obtain ⟨i, hi, hz, hsi, hb⟩ : ∃ i, Tryz.prog.info? e = some i ∧ i.zero = some z ∧ i.size = size ∧ i.bytes = bytes := by
  cases hi : Tryz.prog.info? e with
  | none => rw [hi] at hinfo; cases hinfo
  | some i =>
   rw [hi] at hinfo
   simp only [Option.map_some, Option.some.injEq, Prod.mk.injEq] at hinfo
   exact ⟨i, rfl, hinfo.1, hinfo.2.1, hinfo.2.2⟩
 have hbytes : (n + 1) * bytes ≤ 140737488355328 := by
  have := Nat.mul_le_mul (show n + 1 ≤ 1000001 by omega) hby
  omega
 obtain ⟨v', w', hrun, h2, h3, _, h5⟩ := run_append_own_at (P := Tryz.prog) w base t o.type e i _ size bytes ht hi hz hsi hb hzs hsz v n xs hown ⟨g, 0, none⟩ 1 c cs (by rw [hl, Nat.one_mul]) (fun j u hu => by
   rw [show (⟨g, 0, none⟩ : Addr).add j = ⟨g, j, none⟩ by unfold Addr.add; split <;> simp_all]
   exact hcell j u hu) h1 (by unfold maxLen; omega) hbytes hbase
 unfold execOp
 simp only [ho, resolve, invoke, builtin, Sem.run_bind, Sem.run_pure, Result.andThen_ok, List.map_toArray, List.map_cons, List.map_nil, hs, hx, hrun]
 exact h v' w' h2 h3 h5
theorem below_grown {tb : Nat} {W W' : World} {row : Option Nat} (g : W.grownBy W' row) (hr : ∀ k, row = some k → tb ≤ k) (ht : tb ≤ W.heap.size) : Below tb W W' :=
 ⟨g.os, g.tape, g.output, g.size, fun b hb => g.block b (by omega) (fun e => by have := hr b e.symm; omega)⟩
structure BelQ (tb q : Nat) (w w' : World) : Prop where
  b : Below tb w w'
  k : w'.heap[q]? = w.heap[q]?
theorem BelQ.of {tb q B : Nat} {w w' : World} (h : Below B w w') (ht : tb ≤ B) (hq : q < B) : BelQ tb q w w' := ⟨h.mono ht, h.block q hq⟩
theorem BelQ.call {tb q B : Nat} {w w' w2 : World} (h : BelQ tb q w w') (g : Below B w' w2) (ht : tb ≤ B) (hq : q < B) : BelQ tb q w w2 := ⟨h.b.trans (g.mono ht), (g.block q hq).trans h.k⟩
theorem BelQ.trans {tb q : Nat} {w w' w2 : World} (h : BelQ tb q w w') (g : BelQ tb q w' w2) : BelQ tb q w w2 := ⟨h.b.trans g.b, g.k.trans h.k⟩
theorem BelQ.drew {tb q : Nat} {w w' : World} (h : BelQ tb q w w') : BelQ tb q w w'.drew := ⟨h.b.drew, h.k⟩
theorem BelQ.alloc {tb q : Nat} {w w' : World} (h : BelQ tb q w w') (ht : tb ≤ w'.heap.size) (hq : q < w'.heap.size) (o : Obj) : BelQ tb q w (w'.alloc o) := ⟨h.b.alloc ht o, (heap_alloc_old w' o hq).trans h.k⟩
theorem BelQ.set {tb q : Nat} {w w' : World} {p : Addr} {u : Value} (h : BelQ tb q w w') (ht : tb ≤ p.block) (hq : p.block ≠ q) : BelQ tb q w (w'.setCell p u) := ⟨h.b.setCell ht u, (Below.heap_setCell _ _ _ _ (fun e => hq e.symm)).trans h.k⟩
theorem BelQ.grown {tb q : Nat} {w w' w2 : World} {row : Option Nat} (h : BelQ tb q w w') (g : w'.grownBy w2 row) (hr : ∀ k, row = some k → tb ≤ k) (ht : tb ≤ w'.heap.size) (hq : q < w'.heap.size) (hn : ∀ k, row = some k → q ≠ k) : BelQ tb q w w2 := ⟨h.b.trans (below_grown g hr ht), (g.block q hq (fun e => hn q e.symm rfl)).trans h.k⟩
def AddOut (T : Tb) (ok : Bool) (base tb q : Nat) (w : World) (e : Ending) (w' : World) : Prop := e = .returned (.bool ok) ∧ BelQ tb q w w' ∧ ∃ a', TbO w' base tb T a'
theorem boxAt_grown {W W' : World} {b : Nat} {cs : List Value} {row : Option Nat} (h : BoxAt W b cs) (g : W.grownBy W' row) (hr : ∀ k, row = some k → b ≠ k) : BoxAt W' b cs :=
 h.block g.size (g.block b h.lt (fun e => hr b e.symm rfl))
theorem TbO.put_ws {W W' : World} {base tb : Nat} {t : Tb} {a : TbA} {v' : Value} (h : TbO W base tb t a) (hlt : tb < base) (y : Wl) (hown : W'.ownsRow base 53 13 v' (t.ws.length + 1) (t.ws.flatMap Wl.cells ++ y.cells)) (hg : W.grownBy W' (Value.slice a.ws t.ws.length a.wsc).ownBlock) :
  ∃ A' c', v' = .slice A' (t.ws.length + 1) c' ∧ TbO (W'.setCell ⟨tb, 8, none⟩ v') base tb { t with ws := t.ws ++ [y] } { a with ws := A', wsc := c' } := by
 obtain ⟨A', c', rfl⟩ := own_sl hown
 refine ⟨A', c', rfl, ?_⟩
 have hr : ∀ k, (Value.slice a.ws t.ws.length a.wsc).ownBlock = some k → base ≤ k := fun k hk => (World.ownsRow.lt h.ws k hk).1
 have hbx := (boxAt_grown h.bx hg (fun k hk e => by have := hr k hk; omega)).set (.slice A' (t.ws.length + 1) c') (j := 8) rfl
 refine ⟨?_, ?_, ?_, ?_, ?_, ?_, ?_, ?_, ?_, ?_, ?_, ?_⟩
 · have e : ({ t with ws := t.ws ++ [y] } : Tb).cells { a with ws := A', wsc := c' } = (t.cells a).set 8 (.slice A' (t.ws.length + 1) c') := by simp [Tb.cells]
   rw [e]
   exact hbx
 · exact ownsRow_setCell_below (own_kept h.tr h.ws (by decide) hg) (by simpa using hlt) _
 · have e1 : (t.ws ++ [y]).length = t.ws.length + 1 := by simp
   have e2 : (t.ws ++ [y]).flatMap Wl.cells = t.ws.flatMap Wl.cells ++ y.cells := by simp
   simp only [e1, e2]
   exact ownsRow_setCell_below hown (by simpa using hlt) _
 · exact ownsRow_setCell_below (own_kept h.ars h.ws (by decide) hg) (by simpa using hlt) _
 · exact ownsRow_setCell_below (own_kept h.ps h.ws (by decide) hg) (by simpa using hlt) _
 · exact ownsRow_setCell_below (own_kept h.fs h.ws (by decide) hg) (by simpa using hlt) _
 · exact ownsRow_setCell_below (own_kept h.zs h.ws (by decide) hg) (by simpa using hlt) _
 · exact ownsRow_setCell_below (own_kept h.ss h.ws (by decide) hg) (by simpa using hlt) _
 · exact ownsRow_setCell_below (own_kept h.las h.ws (by decide) hg) (by simpa using hlt) _
 · exact ownsRow_setCell_below (own_kept h.rs h.ws (by decide) hg) (by simpa using hlt) _
 · exact ownsRow_setCell_below (own_kept h.ds h.ws (by decide) hg) (by simpa using hlt) _
 · exact ownsRow_setCell_below (own_kept h.lns h.ws (by decide) hg) (by simpa using hlt) _
theorem map_getD (L : List Value) (n : Nat) (h : L.length = n) : L = (List.range n).map fun i => L.getD i undef := by
 subst h
 refine List.ext_getElem (by simp) fun i h1 h2 => ?_
 simp [List.getD_eq_getElem?_getD, h1]
set_option maxRecDepth 100000 in
def fr623 (s : Nat → Value) : List Value := s 0 :: s 1 :: s 2 :: s 3 :: s 4 :: s 5 :: s 6 :: s 7 :: s 8 :: s 9 :: s 10 :: s 11 :: s 12 :: s 13 :: s 14 :: s 15 :: s 16 :: s 17 :: s 18 :: s 19 :: s 20 :: s 21 :: s 22 :: s 23 :: s 24 :: s 25 :: s 26 :: s 27 :: s 28 :: s 29 :: s 30 :: s 31 :: s 32 :: s 33 :: s 34 :: s 35 :: s 36 :: s 37 :: s 38 :: s 39 :: s 40 :: s 41 :: s 42 :: s 43 :: s 44 :: s 45 :: s 46 :: s 47 :: s 48 :: s 49 :: s 50 :: s 51 :: s 52 :: s 53 :: s 54 :: s 55 :: s 56 :: s 57 :: s 58 :: s 59 :: s 60 :: s 61 :: s 62 :: s 63 :: s 64 :: s 65 :: s 66 :: s 67 :: s 68 :: s 69 :: s 70 :: s 71 :: s 72 :: s 73 :: s 74 :: s 75 :: s 76 :: s 77 :: s 78 :: s 79 :: s 80 :: s 81 :: s 82 :: s 83 :: s 84 :: s 85 :: s 86 :: s 87 :: s 88 :: s 89 :: s 90 :: s 91 :: s 92 :: s 93 :: s 94 :: s 95 :: s 96 :: s 97 :: s 98 :: s 99 :: s 100 :: s 101 :: s 102 :: s 103 :: s 104 :: s 105 :: s 106 :: s 107 :: s 108 :: s 109 :: s 110 :: s 111 :: s 112 :: s 113 :: s 114 :: s 115 :: s 116 :: s 117 :: s 118 :: s 119 :: s 120 :: s 121 :: s 122 :: s 123 :: s 124 :: s 125 :: s 126 :: s 127 :: s 128 :: s 129 :: s 130 :: s 131 :: s 132 :: s 133 :: s 134 :: s 135 :: s 136 :: s 137 :: s 138 :: s 139 :: s 140 :: s 141 :: s 142 :: s 143 :: s 144 :: s 145 :: s 146 :: s 147 :: s 148 :: s 149 :: s 150 :: s 151 :: s 152 :: s 153 :: s 154 :: s 155 :: s 156 :: s 157 :: s 158 :: s 159 :: s 160 :: s 161 :: s 162 :: s 163 :: s 164 :: s 165 :: s 166 :: s 167 :: s 168 :: s 169 :: s 170 :: s 171 :: s 172 :: s 173 :: s 174 :: s 175 :: s 176 :: s 177 :: s 178 :: s 179 :: s 180 :: s 181 :: s 182 :: s 183 :: s 184 :: s 185 :: s 186 :: s 187 :: s 188 :: s 189 :: s 190 :: s 191 :: s 192 :: s 193 :: s 194 :: s 195 :: s 196 :: s 197 :: s 198 :: s 199 :: s 200 :: s 201 :: s 202 :: s 203 :: s 204 :: s 205 :: s 206 :: s 207 :: s 208 :: s 209 :: s 210 :: s 211 :: s 212 :: s 213 :: s 214 :: s 215 :: s 216 :: s 217 :: s 218 :: s 219 :: s 220 :: s 221 :: s 222 :: s 223 :: s 224 :: s 225 :: s 226 :: s 227 :: s 228 :: s 229 :: s 230 :: s 231 :: s 232 :: s 233 :: s 234 :: s 235 :: s 236 :: s 237 :: s 238 :: s 239 :: s 240 :: s 241 :: s 242 :: s 243 :: s 244 :: s 245 :: s 246 :: s 247 :: s 248 :: s 249 :: s 250 :: s 251 :: s 252 :: s 253 :: s 254 :: s 255 :: s 256 :: s 257 :: s 258 :: s 259 :: s 260 :: s 261 :: s 262 :: s 263 :: s 264 :: s 265 :: s 266 :: s 267 :: s 268 :: s 269 :: s 270 :: s 271 :: s 272 :: s 273 :: s 274 :: s 275 :: s 276 :: s 277 :: s 278 :: s 279 :: s 280 :: s 281 :: s 282 :: s 283 :: s 284 :: s 285 :: s 286 :: s 287 :: s 288 :: s 289 :: s 290 :: s 291 :: s 292 :: s 293 :: s 294 :: s 295 :: s 296 :: s 297 :: s 298 :: s 299 :: s 300 :: s 301 :: s 302 :: s 303 :: s 304 :: s 305 :: s 306 :: s 307 :: s 308 :: s 309 :: s 310 :: s 311 :: s 312 :: s 313 :: s 314 :: s 315 :: s 316 :: s 317 :: s 318 :: s 319 :: s 320 :: s 321 :: s 322 :: s 323 :: s 324 :: s 325 :: s 326 :: s 327 :: s 328 :: s 329 :: s 330 :: s 331 :: s 332 :: s 333 :: s 334 :: s 335 :: s 336 :: s 337 :: s 338 :: s 339 :: s 340 :: s 341 :: s 342 :: s 343 :: s 344 :: s 345 :: s 346 :: s 347 :: s 348 :: s 349 :: s 350 :: s 351 :: s 352 :: s 353 :: s 354 :: s 355 :: s 356 :: s 357 :: s 358 :: s 359 :: s 360 :: s 361 :: s 362 :: s 363 :: s 364 :: s 365 :: s 366 :: s 367 :: s 368 :: s 369 :: s 370 :: s 371 :: s 372 :: s 373 :: s 374 :: s 375 :: s 376 :: s 377 :: s 378 :: s 379 :: s 380 :: s 381 :: s 382 :: s 383 :: s 384 :: s 385 :: s 386 :: s 387 :: s 388 :: s 389 :: s 390 :: s 391 :: s 392 :: s 393 :: s 394 :: s 395 :: s 396 :: s 397 :: s 398 :: s 399 :: s 400 :: s 401 :: s 402 :: s 403 :: s 404 :: s 405 :: s 406 :: s 407 :: s 408 :: s 409 :: s 410 :: s 411 :: s 412 :: s 413 :: s 414 :: s 415 :: s 416 :: s 417 :: s 418 :: s 419 :: s 420 :: s 421 :: s 422 :: s 423 :: s 424 :: s 425 :: s 426 :: s 427 :: s 428 :: s 429 :: s 430 :: s 431 :: s 432 :: s 433 :: s 434 :: s 435 :: s 436 :: s 437 :: s 438 :: s 439 :: s 440 :: s 441 :: s 442 :: s 443 :: s 444 :: s 445 :: s 446 :: s 447 :: s 448 :: s 449 :: s 450 :: s 451 :: s 452 :: s 453 :: s 454 :: s 455 :: s 456 :: s 457 :: s 458 :: s 459 :: s 460 :: s 461 :: s 462 :: s 463 :: s 464 :: s 465 :: s 466 :: s 467 :: s 468 :: s 469 :: s 470 :: s 471 :: s 472 :: s 473 :: s 474 :: s 475 :: s 476 :: s 477 :: s 478 :: s 479 :: s 480 :: s 481 :: s 482 :: s 483 :: s 484 :: s 485 :: s 486 :: s 487 :: s 488 :: s 489 :: s 490 :: s 491 :: s 492 :: s 493 :: s 494 :: s 495 :: s 496 :: s 497 :: s 498 :: s 499 :: s 500 :: s 501 :: s 502 :: s 503 :: s 504 :: s 505 :: s 506 :: s 507 :: s 508 :: s 509 :: s 510 :: s 511 :: s 512 :: s 513 :: s 514 :: s 515 :: s 516 :: s 517 :: s 518 :: s 519 :: s 520 :: s 521 :: s 522 :: s 523 :: s 524 :: s 525 :: s 526 :: s 527 :: s 528 :: s 529 :: s 530 :: s 531 :: s 532 :: s 533 :: s 534 :: s 535 :: s 536 :: s 537 :: s 538 :: s 539 :: s 540 :: s 541 :: s 542 :: s 543 :: s 544 :: s 545 :: s 546 :: s 547 :: s 548 :: s 549 :: s 550 :: s 551 :: s 552 :: s 553 :: s 554 :: s 555 :: s 556 :: s 557 :: s 558 :: s 559 :: s 560 :: s 561 :: s 562 :: s 563 :: s 564 :: s 565 :: s 566 :: s 567 :: s 568 :: s 569 :: s 570 :: s 571 :: s 572 :: s 573 :: s 574 :: s 575 :: s 576 :: s 577 :: s 578 :: s 579 :: s 580 :: s 581 :: s 582 :: s 583 :: s 584 :: s 585 :: s 586 :: s 587 :: s 588 :: s 589 :: s 590 :: s 591 :: s 592 :: s 593 :: s 594 :: s 595 :: s 596 :: s 597 :: s 598 :: s 599 :: s 600 :: s 601 :: s 602 :: s 603 :: s 604 :: s 605 :: s 606 :: s 607 :: s 608 :: s 609 :: s 610 :: s 611 :: s 612 :: s 613 :: s 614 :: s 615 :: s 616 :: s 617 :: s 618 :: s 619 :: s 620 :: s 621 :: s 622 :: []
set_option maxRecDepth 100000 in
theorem fr623_ex (L : List Value) (h : L.length = 623) : ∃ s : Nat → Value, L = fr623 s := ⟨fun i => L.getD i undef, (map_getD L 623 h).trans (by kernel_rfl)⟩
end Go.Proofs.YtbpcjpiaimdpnaaGreatDoor
namespace Go.Proofs.YtbpcjpiaimdpnaaGreatDoor
open Go.RowKit
theorem ret_vec {a b c d : Int} (h : a = c) (h' : b = d) : Ending.returned (.agg #[.int .i64 a, .int .i64 b]) = .returned (.agg #[.int .i64 c, .int .i64 d]) := by rw [h, h']
theorem mul_bd (a b A B : Int) (h1 : -A ≤ a) (h2 : a ≤ A) (h3 : -B ≤ b) (h4 : b ≤ B) : -(A * B) ≤ a * b ∧ a * b ≤ A * B := by
 have e1 : 0 ≤ (A - a) * (B + b) := Int.mul_nonneg (by omega) (by omega)
 have e2 : 0 ≤ (A + a) * (B - b) := Int.mul_nonneg (by omega) (by omega)
 have e3 : 0 ≤ (A - a) * (B - b) := Int.mul_nonneg (by omega) (by omega)
 have e4 : 0 ≤ (A + a) * (B + b) := Int.mul_nonneg (by omega) (by omega)
 have f1 : (A - a) * (B + b) = A * B + A * b - a * B - a * b := by rw [Int.sub_mul, Int.mul_add, Int.mul_add]; omega
 have f2 : (A + a) * (B - b) = A * B - A * b + a * B - a * b := by rw [Int.add_mul, Int.mul_sub, Int.mul_sub]; omega
 have f3 : (A - a) * (B - b) = A * B - A * b - a * B + a * b := by rw [Int.sub_mul, Int.mul_sub, Int.mul_sub]; omega
 have f4 : (A + a) * (B + b) = A * B + A * b + a * B + a * b := by rw [Int.add_mul, Int.mul_add, Int.mul_add]; omega
 omega
def smallB (x y : Int) : Bool := decide (-1073741824 ≤ x ∧ x ≤ 1073741824 ∧ -1073741824 ≤ y ∧ y ≤ 1073741824)
set_option maxHeartbeats 400000 in
theorem small_any (x y : Int) (w : World) :
  Calls Tryz.prog 146 #[.agg #[.int .i64 x, .int .i64 y]] w fun e w' => e = .returned (.bool (smallB x y)) ∧ Below w.heap.size w w' := by
 go_enter Tryz.func146, Tryz.ntmps146
 go_wp2
 all_goals
  go_ret
  refine ⟨ret_bool (bool_iff ?_), (Below.refl _ _).alloc (Nat.le_refl _) _⟩
  simp only [smallB, decide_eq_true_eq, Bool.false_eq_true, false_iff]; omega
def keptI (x y z : Int) : Int := if smallB x y = true then z else 0
set_option maxHeartbeats 400000 in
theorem kept_any (x y : Int) (w : World) :
  Calls Tryz.prog 147 #[.agg #[.int .i64 x, .int .i64 y]] w fun e w' => e = .returned (.agg #[.int .i64 (keptI x y x), .int .i64 (keptI x y y)]) ∧ Below w.heap.size w w' := by
 go_enter Tryz.func147, Tryz.ntmps147
 go_wp2_with (first | (go_at_call 146; refine (small_any _ _ _).mono ?_; rintro e w1 ⟨rfl, hb1⟩; have hz1 : w.heap.size + 2 ≤ w1.heap.size := (by have h := hb1.size; (try simp at h); omega); have hbb := Below.mono hb1 (B' := w.heap.size + 2) (by (try simp) <;> omega); clear hb1; (with_reducible apply cel2 (b := w.heap.size) hbb); ((try simp) <;> omega); omega; (iterate 2 (focus (go_simp; try exact rfl))); (intro o; go_simp); intro cc cc fz hl; (with_reducible apply cel2 (b := w.heap.size + 1) hbb); ((try simp) <;> omega); omega; (iterate 2 (focus (go_simp; try exact rfl))); (intro o; go_simp); intro cc cc fz hl))
 · rename_i hs
   refine bodyPost_ret (v := .agg #[.int .i64 0, .int .i64 0]) (by simp only [results, Tryz.results147]; go_simp) rfl ⟨?_, ?_⟩
   refine ret_vec ?_ ?_
   · simp [keptI] at hs ⊢; simp [hs]
   · simp [keptI] at hs ⊢; simp [hs]
   · ((with_reducible (repeat (first | exact bR _ _ | apply bS | apply bA | apply bD | refine bT ?_ (by assumption) ?_ | refine bO (by assumption) ?_ ?_))) <;> (first | omega | (simp <;> omega)))
 · rename_i hs
   refine bodyPost_ret (v := .agg #[.int .i64 x, .int .i64 y]) (by simp only [results, Tryz.results147]; go_simp) rfl ⟨?_, ?_⟩
   refine ret_vec ?_ ?_
   · simp [keptI] at hs ⊢; simp [hs]
   · simp [keptI] at hs ⊢; simp [hs]
   · ((with_reducible (repeat (first | exact bR _ _ | apply bS | apply bA | apply bD | refine bT ?_ (by assumption) ?_ | refine bO (by assumption) ?_ ?_))) <;> (first | omega | (simp <;> omega)))
theorem small_of {x y : Int} (h : -1073741824 ≤ x ∧ x ≤ 1073741824 ∧ -1073741824 ≤ y ∧ y ≤ 1073741824) : smallB x y = true := by simp only [smallB, decide_eq_true_eq]; exact h
theorem kept_in {x y z : Int} (h : smallB x y = true) : keptI x y z = z := by simp [keptI, h]
set_option maxHeartbeats 400000 in
theorem dot_in (a b c d : Int) (w : World) (h1 : smallB a b = true) (h2 : smallB c d = true) :
  Calls Tryz.prog 81 #[.agg #[.int .i64 a, .int .i64 b], .agg #[.int .i64 c, .int .i64 d]] w fun e w' => e = .returned (.int .i64 (a * c + b * d)) ∧ Below w.heap.size w w' := by
 have hr1 : -1073741824 ≤ a ∧ a ≤ 1073741824 ∧ -1073741824 ≤ b ∧ b ≤ 1073741824 := by simpa [smallB] using h1
 obtain ⟨q1, q2, q3, q4⟩ := hr1
 have hr2 : -1073741824 ≤ c ∧ c ≤ 1073741824 ∧ -1073741824 ≤ d ∧ d ≤ 1073741824 := by simpa [smallB] using h2
 obtain ⟨r1, r2, r3, r4⟩ := hr2
 obtain ⟨m1, m2⟩ := mul_bd a c 1073741824 1073741824 q1 q2 r1 r2
 obtain ⟨m3, m4⟩ := mul_bd b d 1073741824 1073741824 q3 q4 r3 r4
 go_enter Tryz.func81, Tryz.ntmps81; (try simp only [List.append_eq, List.cons_append, List.nil_append])
 go_wp2_with (first | (go_at_call 146; refine (small_any _ _ _).mono ?_; rintro e w1 ⟨rfl, hb1⟩; have hz1 : w.heap.size + 2 ≤ w1.heap.size := (by have h := hb1.size; (try simp at h); omega); have hbb := Below.mono hb1 (B' := w.heap.size + 2) (by (try simp) <;> omega); clear hb1; (with_reducible apply cel2 (b := w.heap.size) hbb); ((try simp) <;> omega); omega; (iterate 2 (focus (go_simp; try exact rfl))); (intro o; go_simp); intro cc cc fz hl; (with_reducible apply cel2 (b := w.heap.size + 1) hbb); ((try simp) <;> omega); omega; (iterate 2 (focus (go_simp; try exact rfl))); (intro o; go_simp); intro cc cc fz hl))
 go_ret
 refine ⟨rfl, ?_⟩
 ((with_reducible (repeat (first | exact bR _ _ | apply bS | apply bA | apply bD | refine bT ?_ (by assumption) ?_ | refine bO (by assumption) ?_ ?_))) <;> (first | omega | (simp <;> omega)))
end Go.Proofs.YtbpcjpiaimdpnaaGreatDoor
namespace Go.Proofs.YtbpcjpiaimdpnaaGreatDoor
open Go Go.RowKit
set_option linter.unusedVariables false
theorem small_bd {a b : Int} (h1 : smallB a b = true) : -1073741824 ≤ a ∧ a ≤ 1073741824 ∧ -1073741824 ≤ b ∧ b ≤ 1073741824 := by simpa [smallB] using h1
set_option maxHeartbeats 400000 in
theorem cross_in (a b c d : Int) (w : World) (h1 : smallB a b = true) (h2 : smallB c d = true) :
  Calls Tryz.prog 82 #[.agg #[.int .i64 a, .int .i64 b], .agg #[.int .i64 c, .int .i64 d]] w fun e w' => e = .returned (.int .i64 (a * d - b * c)) ∧ Below w.heap.size w w' := by
 obtain ⟨q1, q2, q3, q4⟩ := small_bd h1
 obtain ⟨r1, r2, r3, r4⟩ := small_bd h2
 obtain ⟨m1, m2⟩ := mul_bd a d 1073741824 1073741824 q1 q2 r3 r4
 obtain ⟨m3, m4⟩ := mul_bd b c 1073741824 1073741824 q3 q4 r1 r2
 go_enter Tryz.func82, Tryz.ntmps82; (try simp only [List.append_eq, List.cons_append, List.nil_append])
 go_wp2_with (first | (go_at_call 146; refine (small_any _ _ _).mono ?_; rintro e w1 ⟨rfl, hb1⟩; have hz1 : w.heap.size + 2 ≤ w1.heap.size := (by have h := hb1.size; (try simp at h); omega); have hbb := Below.mono hb1 (B' := w.heap.size + 2) (by (try simp) <;> omega); clear hb1; (with_reducible apply cel2 (b := w.heap.size) hbb); ((try simp) <;> omega); omega; (iterate 2 (focus (go_simp; try exact rfl))); (intro o; go_simp); intro cc cc fz hl; (with_reducible apply cel2 (b := w.heap.size + 1) hbb); ((try simp) <;> omega); omega; (iterate 2 (focus (go_simp; try exact rfl))); (intro o; go_simp); intro cc cc fz hl))
 go_ret
 refine ⟨rfl, ?_⟩
 ((with_reducible (repeat (first | exact bR _ _ | apply bS | apply bA | apply bD | refine bT ?_ (by assumption) ?_ | refine bO (by assumption) ?_ ?_))) <;> (first | omega | (simp <;> omega)))
def pw : Nat → Int
  | 0 => 0
  | i + 1 => 2 ^ i
theorem pw_half (i : Nat) : (2 : Int) ^ i / 2 = pw i := by
 cases i with
 | zero => rfl
 | succ i => unfold pw; rw [Int.pow_succ]; exact Int.mul_ediv_cancel _ (by omega)
theorem wraps_i64' (n : Int) (h₀ : 0 ≤ n) (h₁ : n < 2 ^ 63) : IntKind.i64.wrap n = n := by rw [IntKind.wrap_i64]; omega
set_option maxRecDepth 100000 in
set_option maxHeartbeats 1000000 in
theorem root_any (n : Int) (w : World) (n1 : -9223372036854775808 ≤ n) (n2 : n ≤ 9223372036854775807) :
  Calls Tryz.prog 80 #[.int .i64 n] w fun e w' => e = .returned (.int .i64 (rootR n)) ∧ Below w.heap.size w w' := by
 unfold rootR
 by_cases h0 : n ≤ 0
 · rw [if_pos h0]
   go_enter Tryz.func80, Tryz.ntmps80; (try simp only [List.append_eq, List.cons_append, List.nil_append])
   go_wp2_with fail
   go_ret
   exact ⟨rfl, Below.refl _ _⟩
 · rw [if_neg h0]
   obtain ⟨R, hR⟩ : ∃ R, R = rootAux 32 n 0 := ⟨_, rfl⟩
   rw [← hR]
   have HR := hQ0 hR
   clear hR
   go_enter Tryz.func80, Tryz.ntmps80; (try simp only [List.append_eq, List.cons_append, List.nil_append])
   go_wp2_with fail
   go_loop [3, 4] (fun vr vb => ∃ (i : Nat) (r b : Int), i ≤ 32 ∧ vr = .int .i64 r ∧ vb = .int .i64 b ∧ 0 ≤ r ∧ r < 4294967296 ∧ Hid (b = pw i) ∧ Hid (r % 2 ^ i = 0) ∧ Hid (R = rootAux i n r)) (fun vr vb => (intOf vb).toNat)
   case atStart => exact ⟨32, 0, 2147483648, by omega, rfl, rfl, by omega, by omega, hQ0 (by decide), hQ0 (by decide), HR⟩
   case round =>
    obtain ⟨i, r, b, hi, rfl, rfl, r0, r1, HB, HM, HA⟩ := hrel
    cases i with
    | zero =>
     have hb : b = 0 := HB.out
     subst hb
     have hr : R = r := HA.out
     subst hr
     go_wp2_with fail
     go_ret
     exact ⟨rfl, Below.refl _ _⟩
    | succ j =>
     have hb : b = 2 ^ j := HB.out
     have b0 : 0 < b := by rw [hb]; exact Int.pow_pos (by omega)
     have b1 : b ≤ 2147483648 := by
      rw [hb]
      have h1 : (2 : Nat) ^ j ≤ 2147483648 := Nat.le_trans (Nat.pow_le_pow_right (by omega) (show j ≤ 31 by omega)) (by decide)
      have h2 : ((2 ^ j : Nat) : Int) ≤ ((2147483648 : Nat) : Int) := Int.ofNat_le.2 h1
      rw [Int.natCast_pow] at h2
      exact h2
     have hor : bits .or .i64 r b = r + b := by
      refine bits_join .i64 63 (by decide) wraps_i64' (j + 1) r b r0 HM.out (by omega) (by omega) ?_ (by omega)
      rw [hb, Int.pow_succ]; omega
     have hhalf : b / 2 = pw j := by rw [hb]; exact pw_half j
     obtain ⟨D, hD⟩ : ∃ D, D = n / (r + b) := ⟨_, rfl⟩
     have hDn : n.tdiv (r + b) = D := by rw [hD]; exact Int.tdiv_eq_ediv_of_nonneg (by omega)
     have hle : r + b ≤ D ↔ (r + b) * (r + b) ≤ n := by rw [hD]; exact Int.le_ediv_iff_mul_le (by omega)
     have D0 : 0 ≤ D := by rw [hD]; exact Int.ediv_nonneg (by omega) (by omega)
     have D1 : D ≤ n := by rw [hD]; exact Int.ediv_le_self _ (by omega)
     have HLE := hQ0 hle
     have Hb := hQ0 hb
     obtain ⟨b', hb'⟩ : ∃ b', b' = pw j := ⟨_, rfl⟩
     rw [← hb'] at hhalf
     have Hb' := hQ0 hb'
     have b2 : 0 ≤ b' ∧ b' < b := by omega
     obtain ⟨b3, b4⟩ := b2
     have hne : ((r + b) == 0) = false := by simp; omega
     have hne' : ¬ (r + b = 0) := by omega
     clear hle hb hb' hD
     by_cases hc : r + b ≤ D
     · have hr2 : R = rootAux j n (r + b) := by rw [HA.out, Hb.out]; exact if_pos (by rw [← Hb.out]; exact HLE.out.1 hc)
       have hm2 : (r + b) % 2 ^ j = 0 := by
        have h1 := HM.out
        have h2 : r % 2 ^ j = 0 := Int.emod_eq_zero_of_dvd (Int.dvd_trans ⟨2, by rw [Int.pow_succ]⟩ (Int.dvd_of_emod_eq_zero h1))
        rw [Hb.out, Int.add_emod, h2, Int.emod_self]; rfl
       have hlt : r + b < 4294967296 := by
        rcases Int.lt_or_le (r + b) 4294967296 with h | h
        · exact h
        · have h1 := HLE.out.1 hc
          have : (4294967296 : Int) * 4294967296 ≤ (r + b) * (r + b) := Int.mul_le_mul h h (by omega) (by omega)
          omega
       have H2 := hQ0 hr2
       have H3 := hQ0 hm2
       clear hr2 hm2
       go_wp2_with fail
       go_round
       case rel => exact ⟨j, r + b, b', by omega, by go_num, by go_num, by omega, by omega, Hb', H3, H2⟩
       case measure => simp [intOf]; omega
     · have hr2 : R = rootAux j n r := by rw [HA.out]; exact if_neg (by rw [← Hb.out]; exact fun h => hc (HLE.out.2 h))
       have hm2 : r % 2 ^ j = 0 := Int.emod_eq_zero_of_dvd (Int.dvd_trans ⟨2, by rw [Int.pow_succ]⟩ (Int.dvd_of_emod_eq_zero HM.out))
       have H2 := hQ0 hr2
       have H3 := hQ0 hm2
       clear hr2 hm2
       go_wp2_with fail
       go_round
       case rel => exact ⟨j, r, b', by omega, by go_num, by go_num, by omega, by omega, Hb', H3, H2⟩
       case measure => simp [intOf]; omega
theorem nearV_bd {n : Int} {v : Vc} (h : nearV n v = true) : -n ≤ v.x ∧ v.x ≤ n ∧ -n ≤ v.y ∧ v.y ≤ n := by
 simp only [nearV, in1, Bool.and_eq_true, decide_eq_true_eq] at h
 exact ⟨h.1.1, h.1.2, h.2.1, h.2.2⟩
set_option maxHeartbeats 400000 in
theorem sub_in (a b c d : Int) (w : World) (h1 : smallB a b = true) (h2 : smallB c d = true) :
  Calls Tryz.prog 79 #[.agg #[.int .i64 a, .int .i64 b], .agg #[.int .i64 c, .int .i64 d]] w fun e w' => e = .returned (.agg #[.int .i64 (keptI (a - c) (b - d) (a - c)), .int .i64 (keptI (a - c) (b - d) (b - d))]) ∧ Below w.heap.size w w' := by
 obtain ⟨q1, q2, q3, q4⟩ := small_bd h1
 obtain ⟨q5, q6, q7, q8⟩ := small_bd h2
 go_enter Tryz.func79, Tryz.ntmps79; (try simp only [List.append_eq, List.cons_append, List.nil_append])
 go_wp2_with (first | (go_at_call 146; refine (small_any _ _ _).mono ?_; rintro e w1 ⟨rfl, hb1⟩; have hz1 : w.heap.size + 3 ≤ w1.heap.size := (by have h := hb1.size; (try simp at h); omega); have hbb := Below.mono hb1 (B' := w.heap.size + 3) (by (try simp) <;> omega); clear hb1; (with_reducible apply cel2 (b := w.heap.size) hbb); ((try simp) <;> omega); omega; (iterate 2 (focus (go_simp; try exact rfl))); (intro o; go_simp); intro cc cc fz hl; (with_reducible apply cel2 (b := w.heap.size + 1) hbb); ((try simp) <;> omega); omega; (iterate 2 (focus (go_simp; try exact rfl))); (intro o; go_simp); intro cc cc fz hl; (with_reducible apply cel2 (b := w.heap.size + 1 + 1) hbb); ((try simp) <;> omega); omega; (iterate 2 (focus (go_simp; try exact rfl))); (intro o; go_simp); intro cc cc fz hl) | (go_at_call 147; refine (kept_any _ _ _).mono ?_; rintro e w1 ⟨rfl, hb1⟩; have hz1 : w.heap.size + 3 ≤ w1.heap.size := (by have h := hb1.size; (try simp at h); omega); have hbb := Below.mono hb1 (B' := w.heap.size + 3) (by (try simp) <;> omega); clear hb1; (with_reducible apply cel2 (b := w.heap.size) hbb); ((try simp) <;> omega); omega; (iterate 2 (focus (go_simp; try exact rfl))); (intro o; go_simp); intro cc cc fz hl; (with_reducible apply cel2 (b := w.heap.size + 1) hbb); ((try simp) <;> omega); omega; (iterate 2 (focus (go_simp; try exact rfl))); (intro o; go_simp); intro cc cc fz hl; (with_reducible apply cel2 (b := w.heap.size + 1 + 1) hbb); ((try simp) <;> omega); omega; (iterate 2 (focus (go_simp; try exact rfl))); (intro o; go_simp); intro cc cc fz hl))
 refine bodyPost_ret (v := .agg #[.int .i64 (keptI (a - c) (b - d) (a - c)), .int .i64 (keptI (a - c) (b - d) (b - d))]) (by simp only [results, Tryz.results79]; go_simp) rfl ⟨?_, ?_⟩
 · rfl
 · ((with_reducible (repeat (first | exact bR _ _ | apply bS | apply bA | apply bD | refine bT ?_ (by assumption) ?_ | refine bO (by assumption) ?_ ?_))) <;> (first | omega | (simp <;> omega)))
theorem sub_sm (a b c d : Int) (w : World) (h1 : smallB a b = true) (h2 : smallB c d = true) (h3 : smallB (a - c) (b - d) = true) :
  Calls Tryz.prog 79 #[.agg #[.int .i64 a, .int .i64 b], .agg #[.int .i64 c, .int .i64 d]] w fun e w' => e = .returned (.agg #[.int .i64 (a - c), .int .i64 (b - d)]) ∧ Below w.heap.size w w' := by
 have := sub_in a b c d w h1 h2
 rw [kept_in h3, kept_in h3] at this
 exact this
set_option maxHeartbeats 400000 in
theorem near_any (a b : Vc) (n : Int) (w : World) (ha : nearV 1048576 a = true) (hb : nearV 1048576 b = true) (h0 : 0 ≤ n) (h1 : n ≤ 1048576) :
  Calls Tryz.prog 83 #[.agg #[.int .i64 a.x, .int .i64 a.y], .agg #[.int .i64 b.x, .int .i64 b.y], .int .i64 n] w fun e w' => e = .returned (.bool (nearR a b n)) ∧ Below w.heap.size w w' := by
 obtain ⟨a1, a2, a3, a4⟩ := nearV_bd ha
 obtain ⟨b1, b2, b3, b4⟩ := nearV_bd hb
 obtain ⟨ax, ay⟩ := a
 obtain ⟨bx, bY⟩ := b
 simp only at a1 a2 a3 a4 b1 b2 b3 b4
 have m1 := mul_bd (ax - bx) (ax - bx) 2097152 2097152 (by omega) (by omega) (by omega) (by omega)
 have m2 := mul_bd (ay - bY) (ay - bY) 2097152 2097152 (by omega) (by omega) (by omega) (by omega)
 have m3 := mul_bd n n 1048576 1048576 (by omega) (by omega) (by omega) (by omega)
 obtain ⟨m1a, m1b⟩ := m1
 obtain ⟨m2a, m2b⟩ := m2
 obtain ⟨m3a, m3b⟩ := m3
 unfold nearR
 simp only
 go_enter Tryz.func83, Tryz.ntmps83; (try simp only [List.append_eq, List.cons_append, List.nil_append])
 go_wp2_with fail
 go_ret
 refine ⟨rfl, ?_⟩
 ((with_reducible (repeat (first | exact bR _ _ | apply bS | apply bA | apply bD | refine bT ?_ (by assumption) ?_ | refine bO (by assumption) ?_ ?_))) <;> (first | omega | (simp <;> omega)))
set_option maxRecDepth 100000 in
set_option maxHeartbeats 8000000 in
theorem round_any (x : Ac) (rad : Int) (w : World) (hp : x.pB = true) (r0 : 0 ≤ rad) (r1 : rad ≤ 32768) :
  Calls Tryz.prog 32 #[x.v, .int .i64 rad] w fun e w' => e = .returned (.bool (roundB x rad)) ∧ Below w.heap.size w w' := by
 obtain ⟨nm, lv, c1, c2, s1, s2, e1, e2, rs, gr, mn, sw⟩ := x
 simp only [Ac.pB, Bool.and_eq_true] at hp
 obtain ⟨hc, hs, he⟩ := hp
 obtain ⟨c1a, c1b, c2a, c2b⟩ := nearV_bd hc
 obtain ⟨s1a, s1b, s2a, s2b⟩ := nearV_bd hs
 obtain ⟨e1a, e1b, e2a, e2b⟩ := nearV_bd he
 clear hc hs he
 simp only at *
 unfold roundB Ac.n1 Ac.n2 Ac.tn Ac.v
 simp only
 obtain ⟨p, hp⟩ : ∃ p, p = s1 - c1 := ⟨_, rfl⟩
 obtain ⟨q, hq⟩ : ∃ p, p = s2 - c2 := ⟨_, rfl⟩
 obtain ⟨u, hu⟩ : ∃ p, p = e1 - c1 := ⟨_, rfl⟩
 obtain ⟨v, hv⟩ : ∃ p, p = e2 - c2 := ⟨_, rfl⟩
 rw [← hp, ← hq, ← hu, ← hv]
 have hpq : smallB p q = true := small_of (by omega)
 have huv : smallB u v = true := small_of (by omega)
 have m1 := (mul_bd p p 2097152 2097152 (by omega) (by omega) (by omega) (by omega))
 have m2 := (mul_bd q q 2097152 2097152 (by omega) (by omega) (by omega) (by omega))
 have z1 : 0 ≤ p * p := by rw [← Int.natAbs_mul_self]; exact Int.natCast_nonneg _
 have z2 : 0 ≤ q * q := by rw [← Int.natAbs_mul_self]; exact Int.natCast_nonneg _
 obtain ⟨N, hN⟩ : ∃ y, y = p * p + q * q := ⟨_, rfl⟩
 obtain ⟨M, hM⟩ : ∃ y, y = u * u + v * v := ⟨_, rfl⟩
 obtain ⟨T, hT⟩ : ∃ y, y = p * v - q * u := ⟨_, rfl⟩
 obtain ⟨R, hR⟩ : ∃ y, y = rootR N := ⟨_, rfl⟩
 have hRq : 0 ≤ R ∧ R * R ≤ N := by rw [hR]; exact rootR_sq (by omega)
 have hRb : R ≤ 4194304 := by
  rcases Int.lt_or_le 4194304 R with h | h
  · have : (4194305 : Int) * 4194305 ≤ R * R := Int.mul_le_mul h h (by omega) (by omega)
    omega
  · exact h
 obtain ⟨Q, hQ⟩ : ∃ Q, Q = R * R := ⟨_, rfl⟩
 rw [← hQ] at hRq
 obtain ⟨q0, q1⟩ := hRq
 obtain ⟨m1a, m1b⟩ := m1
 obtain ⟨m2a, m2b⟩ := m2
 have Q0 : 0 ≤ Q := by rw [hQ]; exact Int.mul_nonneg q0 q0
 have K1 := hQ0 (fun w => sub_sm s1 s2 c1 c2 w (small_of (by omega)) (small_of (by omega)) (by rw [← hp, ← hq]; exact hpq))
 have K2 := hQ0 (fun w => sub_sm e1 e2 c1 c2 w (small_of (by omega)) (small_of (by omega)) (by rw [← hu, ← hv]; exact huv))
 have K3 := hQ0 (fun w => dot_in p q p q w hpq hpq)
 have K4 := hQ0 (fun w => dot_in u v u v w huv huv)
 have K5 := hQ0 (fun w => cross_in p q u v w hpq huv)
 have K6 := hQ0 (fun w => root_any N w (by omega) (by omega))
 rw [← hp, ← hq] at K1
 rw [← hu, ← hv] at K2
 rw [← hN] at K3
 rw [← hM] at K4
 rw [← hT] at K5
 rw [← hR] at K6
 rw [← hN, ← hM, ← hT, ← hR, ← hQ]
 have N1 : N ≤ 8796093022208 := by omega
 clear hp hq hu hv hN hM hT hR m1a m1b m2a m2b z1 z2 hpq huv
 have eQ : IntKind.i64.wrap (R * R) = Q := by rw [← hQ, IntKind.wrap_i64]; omega
 have HQ := hQ0 hQ
 clear hQ
 go_enter Tryz.func32, Tryz.ntmps32; (try simp only [List.append_eq, List.cons_append, List.nil_append])
 go_upto_region 1 with (fail)
 (refine pin_eqT (fun w1 hE_w1 => ?_))
 have hX : BoxAt w1 w.heap.size [.string nm, .int .i64 lv, .int .i64 c1, .int .i64 c2, .int .i64 s1, .int .i64 s2, .int .i64 e1, .int .i64 e2, .int .i64 rs, .int .i64 gr, .int .i64 mn, .int .i64 sw] := by rw [hE_w1]; exact BoxAt.new _ _ _
 have hb_w1 : Below w.heap.size w w1 := by rw [hE_w1]; ((with_reducible (repeat (first | exact bR _ _ | apply bS | apply bA | apply bD | refine bT ?_ (by assumption) ?_ | refine bO (by assumption) ?_ ?_))) <;> (first | omega | (simp <;> omega)))
 have hz_w1 := hb_w1.size
 clear hE_w1
 have x2 := hX.c 2 _ rfl
 have x3 := hX.c 3 _ rfl
 have x4 := hX.c 4 _ rfl
 have x5 := hX.c 5 _ rfl
 have x6 := hX.c 6 _ rfl
 have x7 := hX.c 7 _ rfl
 have hl1 := hX.lt
 refine wp_region_floatQ w1.heap.size 12 [12, 13] (Nat.le_refl _) (fun _ => True) trivial Cl.tt (by kernel_rfl) (by kernel_rfl) ?_
 refine wpQI_start [0, 1, 2, 3] ?_; (iterate 4 (first | (refine wpQI_off (zA rfl) (by kernel_rfl) (by exact rfl) (fun K hK => ?_); go_simp; refine hK _ ?_; clear hK K) | ((first | apply wpQI_step (zA rfl) (by kernel_rfl) (by exact rfl) | apply wpQI_on (zA rfl) (by kernel_rfl) (by exact rfl)); (focus (intro W' hS; have hcS := hS.cells; go_simp; (iterate 2 (first | done | exact rfl | exact bB _ | go_simp)))); intro K hK; go_simp; (try go_bits); refine hK _ ?_; clear hK K))); refine wpQI_nil ?_
 refine wpQI_start [4] ?_; (iterate 1 (first | (refine wpQI_off (zA rfl) (by kernel_rfl) (by exact rfl) (fun K hK => ?_); go_simp; refine hK _ ?_; clear hK K) | ((first | apply wpQI_step (zA rfl) (by kernel_rfl) (by exact rfl) | apply wpQI_on (zA rfl) (by kernel_rfl) (by exact rfl)); (focus (intro W' hS; have hcS := hS.cells; go_simp; (first | done | exact rfl | exact ⟨rfl, Below.refl _ _⟩ | (go_at_call 79; exact (K1.out _).mono (fun _ _ h => ⟨h.1, h.2⟩)) | (go_simp; first | done | exact rfl | exact ⟨rfl, Below.refl _ _⟩)))); intro K hK; go_simp; (try go_bits); refine hK _ ?_; clear hK K))); refine wpQI_nil ?_
 refine wpQI_start [5, 6, 7, 8] ?_; (iterate 4 (first | (refine wpQI_off (zA rfl) (by kernel_rfl) (by exact rfl) (fun K hK => ?_); go_simp; refine hK _ ?_; clear hK K) | ((first | apply wpQI_step (zA rfl) (by kernel_rfl) (by exact rfl) | apply wpQI_on (zA rfl) (by kernel_rfl) (by exact rfl)); (focus (intro W' hS; have hcS := hS.cells; go_simp; (iterate 2 (first | done | exact rfl | exact bB _ | go_simp)))); intro K hK; go_simp; (try go_bits); refine hK _ ?_; clear hK K))); refine wpQI_nil ?_
 refine wpQI_start [9] ?_; (iterate 1 (first | (refine wpQI_off (zA rfl) (by kernel_rfl) (by exact rfl) (fun K hK => ?_); go_simp; refine hK _ ?_; clear hK K) | ((first | apply wpQI_step (zA rfl) (by kernel_rfl) (by exact rfl) | apply wpQI_on (zA rfl) (by kernel_rfl) (by exact rfl)); (focus (intro W' hS; have hcS := hS.cells; go_simp; (first | done | exact rfl | exact ⟨rfl, Below.refl _ _⟩ | (go_at_call 79; exact (K2.out _).mono (fun _ _ h => ⟨h.1, h.2⟩)) | (go_simp; first | done | exact rfl | exact ⟨rfl, Below.refl _ _⟩)))); intro K hK; go_simp; (try go_bits); refine hK _ ?_; clear hK K))); refine wpQI_nil ?_
 apply wpQ_fresh (i := 10) LInv.std (zA rfl) (by kernel_rfl) (fun g => Value.pointer (some ⟨g, 0, none⟩)) (by exact rfl); (focus (intro W; go_simp; first | done | exact rfl | exact ⟨rfl, rfl⟩))
 intro g_s hN_s hG_s K hK
 go_simp; refine hK _ ?_; clear hK K
 apply wpQ_fresh (i := 11) LInv.std (zA rfl) (by kernel_rfl) (fun g => Value.pointer (some ⟨g, 0, none⟩)) (by exact rfl); (focus (intro W; go_simp; first | done | exact rfl | exact ⟨rfl, rfl⟩))
 intro g_e hN_e hG_e K hK
 go_simp; refine hK _ ?_; clear hK K
 have hne : g_s ≠ g_e := by have h_ := hG_e _ (List.mem_cons_self ..); simpa using h_
 refine wpQ_done (by kernel_rfl) ?_
 intro w2 hF_w2 hSG
 have hz_w2 := hSG.1.1
 have hb_w2 := hSG.1.2
 have hB_e := (hSG.2 _ (List.mem_cons_self ..)).2; simp only at hB_e; have hl_e := (hSG.size (List.mem_cons_self ..)); simp only at hl_e
 have cc := cell_of_row w2 g_e 0 _ _ _ hB_e; simp only [List.getElem?_toArray, List.getElem?_cons_zero] at cc
 have cc := cell_of_row w2 g_e 1 _ _ _ hB_e; simp only [List.getElem?_toArray, List.getElem?_cons_zero, List.getElem?_cons_succ] at cc
 have fz : (∀ o, w2.frozen? ⟨g_e, o, none⟩ = false) := (fun o => frozen_of_row w2 g_e o _ _ hB_e); have HH_e := hQ0 hB_e; clear hB_e
 have hB_s := (hSG.2 _ (List.mem_cons_of_mem _ (List.mem_cons_self ..))).2; simp only at hB_s; have hl_s := (hSG.size (List.mem_cons_of_mem _ (List.mem_cons_self ..))); simp only at hl_s
 have cc := cell_of_row w2 g_s 0 _ _ _ hB_s; simp only [List.getElem?_toArray, List.getElem?_cons_zero] at cc
 have cc := cell_of_row w2 g_s 1 _ _ _ hB_s; simp only [List.getElem?_toArray, List.getElem?_cons_zero, List.getElem?_cons_succ] at cc
 have fz : (∀ o, w2.frozen? ⟨g_s, o, none⟩ = false) := (fun o => frozen_of_row w2 g_s o _ _ hB_s); have HH_s := hQ0 hB_s; clear hB_s
 clear hSG
 skip
 (try simp only [List.filterMap_cons, List.filterMap_nil, List.getElem?_cons_succ, List.getElem?_cons_zero])
 go_upto_region 2 with (fail)
 (refine pin_eqT (fun w3 hE_w3 => ?_))
 have hS3 : BoxAt w3 g_s [.int .i64 p, .int .i64 q] := ⟨by intro j u_ hj; match j, hj with
  | 0, hj => cases hj; rw [hE_w3]; go_simp
  | 1, hj => cases hj; rw [hE_w3]; go_simp
  | j + 2, hj => simp at hj, by intro o; rw [hE_w3]; go_simp, by rw [hE_w3]; simpa using hl_s⟩
 have hE3 : BoxAt w3 g_e [.int .i64 u, .int .i64 v] := ⟨by intro j u_ hj; match j, hj with
  | 0, hj => cases hj; rw [hE_w3]; go_simp
  | 1, hj => cases hj; rw [hE_w3]; go_simp
  | j + 2, hj => simp at hj, by intro o; rw [hE_w3]; go_simp, by rw [hE_w3]; simpa using hl_e⟩
 have hBB : Below w.heap.size w w3 := by rw [hE_w3]; have := hN_s; have := hN_e; exact ((((hb_w1.trans (hb_w2.mono hz_w1)).setCell (p := ⟨g_s, 0, none⟩) (by simp; omega) _).setCell (p := ⟨g_s, 1, none⟩) (by simp; omega) _).setCell (p := ⟨g_e, 0, none⟩) (by simp; omega) _).setCell (p := ⟨g_e, 1, none⟩) (by simp; omega) _
 clear hE_w3
 have cs0 := hS3.c 0 _ rfl
 have cs1 := hS3.c 1 _ rfl
 have ce0 := hE3.c 0 _ rfl
 have ce1 := hE3.c 1 _ rfl
 go_upto_region 3 with (first | (go_at_call 81; refine (K3.out _).mono ?_; rintro e w4 ⟨rfl, hb4⟩; have hS3 := hS3.below hb4 hS3.lt; have hE3 := hE3.below hb4 hE3.lt; have hBB := hBB.trans (hb4.mono hBB.size); have cs0 := hS3.c 0 _ rfl; have cs1 := hS3.c 1 _ rfl; have ce0 := hE3.c 0 _ rfl; have ce1 := hE3.c 1 _ rfl) | (go_at_call 81; refine (K4.out _).mono ?_; rintro e w4 ⟨rfl, hb4⟩; have hS3 := hS3.below hb4 hS3.lt; have hE3 := hE3.below hb4 hE3.lt; have hBB := hBB.trans (hb4.mono hBB.size); have cs0 := hS3.c 0 _ rfl; have cs1 := hS3.c 1 _ rfl; have ce0 := hE3.c 0 _ rfl; have ce1 := hE3.c 1 _ rfl) | (go_at_call 80; refine (K6.out _).mono ?_; rintro e w4 ⟨rfl, hb4⟩; have hS3 := hS3.below hb4 hS3.lt; have hE3 := hE3.below hb4 hE3.lt; have hBB := hBB.trans (hb4.mono hBB.size); have cs0 := hS3.c 0 _ rfl; have cs1 := hS3.c 1 _ rfl; have ce0 := hE3.c 0 _ rfl; have ce1 := hE3.c 1 _ rfl) | (go_at_call 82; refine (K5.out _).mono ?_; rintro e w4 ⟨rfl, hb4⟩; have hS3 := hS3.below hb4 hS3.lt; have hE3 := hE3.below hb4 hE3.lt; have hBB := hBB.trans (hb4.mono hBB.size); have cs0 := hS3.c 0 _ rfl; have cs1 := hS3.c 1 _ rfl; have ce0 := hE3.c 0 _ rfl; have ce1 := hE3.c 1 _ rfl))
 (refine pin_eqT (fun w6 hE_w6 => ?_))
 have hS6 : BoxAt w6 g_s [.int .i64 p, .int .i64 q] := by rw [hE_w6]; exact hS3
 have hE6 : BoxAt w6 g_e [.int .i64 u, .int .i64 v] := by rw [hE_w6]; exact hE3
 have HBB : Hid (Below w.heap.size w w6) := hQ0 (by rw [hE_w6]; exact hBB)
 clear hE_w6 hBB hS3 hE3
 have cs0 := hS6.c 0 _ rfl
 have cs1 := hS6.c 1 _ rfl
 have ce0 := hE6.c 0 _ rfl
 have ce1 := hE6.c 1 _ rfl
 have hlS := hS6.lt
 have hlE := hE6.lt
 have HS6 := hQ0 hS6
 have HE6 := hQ0 hE6
 clear hS6 hE6 cs0 cs1 ce0 ce1 hlS hlE
 obtain ⟨b0, hb0⟩ : ∃ b, b = (decide (N = M)) := ⟨_, rfl⟩
 have HHb0 := hQ0 hb0
 clear hb0
 obtain ⟨b1, hb1⟩ : ∃ b, b = (decide (Q = N)) := ⟨_, rfl⟩
 have HHb1 := hQ0 hb1
 clear hb1
 obtain ⟨b2, hb2⟩ : ∃ b, b = (decide (2 * rad < R)) := ⟨_, rfl⟩
 have HHb2 := hQ0 hb2
 clear hb2
 obtain ⟨b3, hb3⟩ : ∃ b, b = (decide (R ≤ 262144)) := ⟨_, rfl⟩
 have HHb3 := hQ0 hb3
 clear hb3
 obtain ⟨b4, hb4⟩ : ∃ b, b = (decide (0 < T)) := ⟨_, rfl⟩
 have HHb4 := hQ0 hb4
 clear hb4
 have e2 : IntKind.i64.wrap (2 * rad) = 2 * rad := by rw [IntKind.wrap_i64]; omega
 have hS_ : Below w6.heap.size w6 w6.drew := (Below.refl _ _).drew
 refine wp_region_Z (Below w6.heap.size w6) 32 [32] (by kernel_rfl) (by kernel_rfl) ?_
 generalize w6.drew = wd_ at hS_ ⊢
 apply wpZ_maybe (i := 0) rfl (by kernel_rfl) true (by exact rfl)
 (case h => intro _ W_ hW_; have hY_ := (HS6.out).below hW_ (HS6.out.lt); have y0_ := hY_.c 0 (.int .i64 p) (rfl); have y1_ := hY_.c 1 (.int .i64 q) (rfl); go_simp; try exact rfl); (case hQ => exact fun _ _ _ h => h); (case hS => exact hS_)
 intro K hK; go_simp; apply hK; clear hK K
 apply wpZ_maybe (i := 1) rfl (by kernel_rfl) true (by exact rfl)
 (case h => intro _ W_ hW_; have hY_ := (HS6.out).below hW_ (HS6.out.lt); have y0_ := hY_.c 0 (.int .i64 p) (rfl); have y1_ := hY_.c 1 (.int .i64 q) (rfl); go_simp; try exact rfl); (case hQ => exact fun _ _ _ h => h); (case hS => exact hS_)
 intro K hK; go_simp; apply hK; clear hK K
 apply wpZ_maybe (i := 3) rfl (by kernel_rfl) true (by exact rfl)
 (case h => intro _ W_ hW_; have hY_ := (HE6.out).below hW_ (HE6.out.lt); have y0_ := hY_.c 0 (.int .i64 u) (rfl); have y1_ := hY_.c 1 (.int .i64 v) (rfl); go_simp; try exact rfl); (case hQ => exact fun _ _ _ h => h); (case hS => exact hS_)
 intro K hK; go_simp; apply hK; clear hK K
 apply wpZ_maybe (i := 4) rfl (by kernel_rfl) true (by exact rfl)
 (case h => intro _ W_ hW_; have hY_ := (HE6.out).below hW_ (HE6.out.lt); have y0_ := hY_.c 0 (.int .i64 u) (rfl); have y1_ := hY_.c 1 (.int .i64 v) (rfl); go_simp; try exact rfl); (case hQ => exact fun _ _ _ h => h); (case hS => exact hS_)
 intro K hK; go_simp; apply hK; clear hK K
 refine wpZ_callm (S := Below w6.heap.size w6) (i := 2) rfl (by kernel_rfl) true (by exact rfl) (.int .i64 N) ?_ hS_ ?_
 · intro _; intro N_ hN_; go_simp; go_at_call 81; refine (K3.out _).mono ?_; rintro e w9 ⟨rfl, hb9⟩; exact hN_ _ (hS_.trans (hb9.mono hS_.size))
 intro K hK w_ hS2_; (try simp only [opt_true]); refine hK _ _ ?_; clear hK K hS_; have hS_ := hS2_; clear hS2_
 refine wpZ_callm (S := Below w6.heap.size w6) (i := 5) rfl (by kernel_rfl) true (by exact rfl) (.int .i64 M) ?_ hS_ ?_
 · intro _; intro N_ hN_; go_simp; go_at_call 81; refine (K4.out _).mono ?_; rintro e w9 ⟨rfl, hb9⟩; exact hN_ _ (hS_.trans (hb9.mono hS_.size))
 intro K hK w_ hS2_; (try simp only [opt_true]); refine hK _ _ ?_; clear hK K hS_; have hS_ := hS2_; clear hS2_
 apply wpZ_maybe (i := 6) rfl (by kernel_rfl) true (by exact rfl) (.bool b0)
 (case h => intro _ W_ hW_; have hcW_ := (bcellW hW_).1; go_simp; rw [HHb0.out]; first | done | exact rfl | simp); (case hQ => exact fun _ _ _ h => h); (case hS => exact hS_)
 intro K hK; go_simp; apply hK; clear hK K
 apply wpZ_maybe (i := 7) rfl (by kernel_rfl) true (by exact rfl)
 (case h => intro _ W_ hW_; have hcW_ := (bcellW hW_).1; go_simp; try exact rfl); (case hQ => exact fun _ _ _ h => h); (case hS => exact hS_)
 intro K hK; go_simp; apply hK; clear hK K
 apply wpZ_maybe (i := 8) rfl (by kernel_rfl) b0 (by clear hS_; cases b0 <;> rfl)
 (case h => intro hc_; obtain rfl : b0 = true := hc_; intro W_ hW_; have hcW_ := (bcellW hW_).1; go_simp; try exact rfl); (case hQ => exact fun _ _ _ h => h); (case hS => exact hS_)
 intro K hK; go_simp; apply hK; clear hK K
 apply wpZ_maybe (i := 9) rfl (by kernel_rfl) b0 (by clear hS_; cases b0 <;> rfl)
 (case h => intro hc_; obtain rfl : b0 = true := hc_; intro W_ hW_; have hcW_ := (bcellW hW_).1; go_simp; try exact rfl); (case hQ => exact fun _ _ _ h => h); (case hS => exact hS_)
 intro K hK; go_simp; apply hK; clear hK K
 apply wpZ_maybe (i := 10) rfl (by kernel_rfl) b0 (by clear hS_; cases b0 <;> rfl) (.int .i64 Q)
 (case h => intro hc_; obtain rfl : b0 = true := hc_; intro W_ hW_; have hcW_ := (bcellW hW_).1; go_simp; first | done | (rw [eQ])); (case hQ => exact fun _ _ _ h => h); (case hS => exact hS_)
 intro K hK; go_simp; apply hK; clear hK K
 apply wpZ_maybe (i := 11) rfl (by kernel_rfl) b0 (by clear hS_; cases b0 <;> rfl)
 (case h => intro hc_; obtain rfl : b0 = true := hc_; intro W_ hW_; have hY_ := (HS6.out).below hW_ (HS6.out.lt); have y0_ := hY_.c 0 (.int .i64 p) (rfl); have y1_ := hY_.c 1 (.int .i64 q) (rfl); go_simp; try exact rfl); (case hQ => exact fun _ _ _ h => h); (case hS => exact hS_)
 intro K hK; go_simp; apply hK; clear hK K
 as_aux_lemma =>
  apply wpZ_maybe (i := 12) rfl (by kernel_rfl) b0 (by clear hS_; cases b0 <;> rfl)
  (case h => intro hc_; obtain rfl : b0 = true := hc_; intro W_ hW_; have hY_ := (HS6.out).below hW_ (HS6.out.lt); have y0_ := hY_.c 0 (.int .i64 p) (rfl); have y1_ := hY_.c 1 (.int .i64 q) (rfl); go_simp; try exact rfl); (case hQ => exact fun _ _ _ h => h); (case hS => exact hS_)
  intro K hK; go_simp; apply hK; clear hK K
  refine wpZ_callm (S := Below w6.heap.size w6) (i := 13) rfl (by kernel_rfl) b0 (by clear hS_; cases b0 <;> rfl) (.int .i64 N) ?_ hS_ ?_
  · intro hc_; obtain rfl : b0 = true := hc_; (try simp only [opt_true]); intro N_ hN_; go_simp; go_at_call 81; refine (K3.out _).mono ?_; rintro e w9 ⟨rfl, hb9⟩; exact hN_ _ (hS_.trans (hb9.mono hS_.size))
  intro K hK w_ hS2_; (try simp only [opt_true]); refine hK _ _ ?_; clear hK K hS_; have hS_ := hS2_; clear hS2_
  apply wpZ_maybe (i := 14) rfl (by kernel_rfl) b0 (by clear hS_; cases b0 <;> rfl) (.bool b1)
  (case h => intro hc_; obtain rfl : b0 = true := hc_; intro W_ hW_; have hcW_ := (bcellW hW_).1; go_simp; rw [HHb1.out]; first | done | exact rfl | simp); (case hQ => exact fun _ _ _ h => h); (case hS => exact hS_)
  intro K hK; go_simp; apply hK; clear hK K
  obtain ⟨d3_1, hd3_1⟩ : ∃ b_, b_ = (b0 && b1) := ⟨_, rfl⟩
  apply wpZ_maybe (i := 15) rfl (by kernel_rfl) true (by exact rfl) (.bool d3_1) (fun _ _ _ h => h) hS_ (by intro _ W_ hW_; rw [hd3_1]; cases b0 <;> (go_simp; try exact rfl))
  have Hd3_1 := hQ0 hd3_1; clear hd3_1
  intro K hK; go_simp; apply hK; clear hK K
  apply wpZ_maybe (i := 16) rfl (by kernel_rfl) true (by exact rfl)
  (case h => intro _ W_ hW_; have hcW_ := (bcellW hW_).1; go_simp; try exact rfl); (case hQ => exact fun _ _ _ h => h); (case hS => exact hS_)
  intro K hK; go_simp; apply hK; clear hK K
  apply wpZ_maybe (i := 17) rfl (by kernel_rfl) d3_1 (by clear hS_; cases d3_1 <;> rfl)
  (case h => intro hc_; obtain rfl : d3_1 = true := hc_; intro W_ hW_; have hcW_ := (bcellW hW_).1; go_simp; try exact rfl); (case hQ => exact fun _ _ _ h => h); (case hS => exact hS_)
  intro K hK; go_simp; apply hK; clear hK K
  apply wpZ_maybe (i := 18) rfl (by kernel_rfl) d3_1 (by clear hS_; cases d3_1 <;> rfl)
  (case h => intro hc_; obtain rfl : d3_1 = true := hc_; intro W_ hW_; have hcW_ := (bcellW hW_).1; go_simp; try exact rfl); (case hQ => exact fun _ _ _ h => h); (case hS => exact hS_)
  intro K hK; go_simp; apply hK; clear hK K
  apply wpZ_maybe (i := 19) rfl (by kernel_rfl) d3_1 (by clear hS_; cases d3_1 <;> rfl) (.int .i64 (2 * rad))
  (case h => intro hc_; obtain rfl : d3_1 = true := hc_; intro W_ hW_; have hcW_ := (bcellW hW_).1; go_simp; first | done | (rw [e2])); (case hQ => exact fun _ _ _ h => h); (case hS => exact hS_)
  intro K hK; go_simp; apply hK; clear hK K
  apply wpZ_maybe (i := 20) rfl (by kernel_rfl) d3_1 (by clear hS_; cases d3_1 <;> rfl) (.bool b2)
  (case h => intro hc_; obtain rfl : d3_1 = true := hc_; intro W_ hW_; have hcW_ := (bcellW hW_).1; go_simp; rw [HHb2.out]; first | done | exact rfl | simp); (case hQ => exact fun _ _ _ h => h); (case hS => exact hS_)
  intro K hK; go_simp; apply hK; clear hK K
  obtain ⟨d3_2, hd3_2⟩ : ∃ b_, b_ = (d3_1 && b2) := ⟨_, rfl⟩
  apply wpZ_maybe (i := 21) rfl (by kernel_rfl) true (by exact rfl) (.bool d3_2) (fun _ _ _ h => h) hS_ (by intro _ W_ hW_; rw [hd3_2]; cases d3_1 <;> (go_simp; try exact rfl))
  have Hd3_2 := hQ0 hd3_2; clear hd3_2
  intro K hK; go_simp; apply hK; clear hK K
  apply wpZ_maybe (i := 22) rfl (by kernel_rfl) true (by exact rfl)
  (case h => intro _ W_ hW_; have hcW_ := (bcellW hW_).1; go_simp; try exact rfl); (case hQ => exact fun _ _ _ h => h); (case hS => exact hS_)
  intro K hK; go_simp; apply hK; clear hK K
  apply wpZ_maybe (i := 23) rfl (by kernel_rfl) d3_2 (by clear hS_; cases d3_2 <;> rfl)
  (case h => intro hc_; obtain rfl : d3_2 = true := hc_; intro W_ hW_; have hcW_ := (bcellW hW_).1; go_simp; try exact rfl); (case hQ => exact fun _ _ _ h => h); (case hS => exact hS_)
  intro K hK; go_simp; apply hK; clear hK K
  as_aux_lemma =>
   apply wpZ_maybe (i := 24) rfl (by kernel_rfl) d3_2 (by clear hS_; cases d3_2 <;> rfl) (.bool b3)
   (case h => intro hc_; obtain rfl : d3_2 = true := hc_; intro W_ hW_; have hcW_ := (bcellW hW_).1; go_simp; rw [HHb3.out]; first | done | exact rfl | simp); (case hQ => exact fun _ _ _ h => h); (case hS => exact hS_)
   intro K hK; go_simp; apply hK; clear hK K
   obtain ⟨d3_3, hd3_3⟩ : ∃ b_, b_ = (d3_2 && b3) := ⟨_, rfl⟩
   apply wpZ_maybe (i := 25) rfl (by kernel_rfl) true (by exact rfl) (.bool d3_3) (fun _ _ _ h => h) hS_ (by intro _ W_ hW_; rw [hd3_3]; cases d3_2 <;> (go_simp; try exact rfl))
   have Hd3_3 := hQ0 hd3_3; clear hd3_3
   intro K hK; go_simp; apply hK; clear hK K
   apply wpZ_maybe (i := 26) rfl (by kernel_rfl) true (by exact rfl)
   (case h => intro _ W_ hW_; have hcW_ := (bcellW hW_).1; go_simp; try exact rfl); (case hQ => exact fun _ _ _ h => h); (case hS => exact hS_)
   intro K hK; go_simp; apply hK; clear hK K
   apply wpZ_maybe (i := 27) rfl (by kernel_rfl) d3_3 (by clear hS_; cases d3_3 <;> rfl)
   (case h => intro hc_; obtain rfl : d3_3 = true := hc_; intro W_ hW_; have hY_ := (HS6.out).below hW_ (HS6.out.lt); have y0_ := hY_.c 0 (.int .i64 p) (rfl); have y1_ := hY_.c 1 (.int .i64 q) (rfl); go_simp; try exact rfl); (case hQ => exact fun _ _ _ h => h); (case hS => exact hS_)
   intro K hK; go_simp; apply hK; clear hK K
   apply wpZ_maybe (i := 28) rfl (by kernel_rfl) d3_3 (by clear hS_; cases d3_3 <;> rfl)
   (case h => intro hc_; obtain rfl : d3_3 = true := hc_; intro W_ hW_; have hY_ := (HE6.out).below hW_ (HE6.out.lt); have y0_ := hY_.c 0 (.int .i64 u) (rfl); have y1_ := hY_.c 1 (.int .i64 v) (rfl); go_simp; try exact rfl); (case hQ => exact fun _ _ _ h => h); (case hS => exact hS_)
   intro K hK; go_simp; apply hK; clear hK K
   refine wpZ_callm (S := Below w6.heap.size w6) (i := 29) rfl (by kernel_rfl) d3_3 (by clear hS_; cases d3_3 <;> rfl) (.int .i64 T) ?_ hS_ ?_
   · intro hc_; obtain rfl : d3_3 = true := hc_; (try simp only [opt_true]); intro N_ hN_; go_simp; go_at_call 82; refine (K5.out _).mono ?_; rintro e w9 ⟨rfl, hb9⟩; exact hN_ _ (hS_.trans (hb9.mono hS_.size))
   intro K hK w_ hS2_; (try simp only [opt_true]); refine hK _ _ ?_; clear hK K hS_; have hS_ := hS2_; clear hS2_
   apply wpZ_maybe (i := 30) rfl (by kernel_rfl) d3_3 (by clear hS_; cases d3_3 <;> rfl) (.bool b4)
   (case h => intro hc_; obtain rfl : d3_3 = true := hc_; intro W_ hW_; have hcW_ := (bcellW hW_).1; go_simp; rw [HHb4.out]; first | done | exact rfl | simp); (case hQ => exact fun _ _ _ h => h); (case hS => exact hS_)
   intro K hK; go_simp; apply hK; clear hK K
   obtain ⟨d3_4, hd3_4⟩ : ∃ b_, b_ = (d3_3 && b4) := ⟨_, rfl⟩
   apply wpZ_maybe (i := 31) rfl (by kernel_rfl) true (by exact rfl) (.bool d3_4) (fun _ _ _ h => h) hS_ (by intro _ W_ hW_; rw [hd3_4]; cases d3_3 <;> (go_simp; try exact rfl))
   have Hd3_4 := hQ0 hd3_4; clear hd3_4
   intro K hK; go_simp; apply hK; clear hK K
   refine wpZ_nil (by kernel_rfl) ?_
   (try simp only [List.filterMap_cons, List.filterMap_nil, List.getElem?_cons_succ, List.getElem?_cons_zero])
   (try go_simp)
   have hr_ : (d3_4 : Bool) = (decide (N = M) && decide (Q = N) && decide (2 * rad < R) && decide (R ≤ 262144) && decide (0 < T)) := by simp only [Hd3_4.out, Hd3_3.out, Hd3_2.out, Hd3_1.out, HHb0.out, HHb1.out, HHb2.out, HHb3.out, HHb4.out]
   have HR_ := hQ0 hr_
   clear hr_
   go_wp2_with fail
   go_ret
   exact ⟨(show _ = Ending.returned (.bool d3_4) from rfl).trans (by rw [HR_.out]), HBB.out.trans (hS_.mono HBB.out.size)⟩
theorem overA_step {α : Type} {f : α → α → Bool} {l : List α} {k : Nat} {x : α} (hx : l[k]? = some x) : overA f (l.take k) (l.drop k) = ((l.take k).any (f x) || overA f (l.take (k + 1)) (l.drop (k + 1))) := by
 obtain ⟨h1, rfl⟩ := List.getElem?_eq_some_iff.1 hx
 rw [List.drop_eq_getElem_cons h1, List.take_succ_eq_append_getElem h1]
 rfl
theorem overA_end {α : Type} {f : α → α → Bool} {l : List α} {k : Nat} (h : l.length ≤ k) : overA f (l.take k) (l.drop k) = false := by
 rw [List.drop_eq_nil_of_le h]
 rfl
theorem any_step {α : Type} {f : α → Bool} {l : List α} {i j : Nat} {y : α} (hj : j < i) (hy : l[j]? = some y) : ((l.take i).drop j).any f = (f y || ((l.take i).drop (j + 1)).any f) := by
 have h2 : (l.take i)[j]? = some y := by rw [List.getElem?_take_of_lt hj]; exact hy
 obtain ⟨h1, e⟩ := List.getElem?_eq_some_iff.1 h2
 rw [List.drop_eq_getElem_cons h1, e]
 rfl
theorem any_end {α : Type} {f : α → Bool} {l : List α} {i j : Nat} (h : i ≤ j) : ((l.take i).drop j).any f = false := by
 rw [List.drop_eq_nil_of_le (by rw [List.length_take]; omega)]
 rfl
def AOk (A : Option Addr) : Prop := A = none ∨ ∃ b o, A = some ⟨b, o, none⟩
structure TbA.ok (a : TbA) : Prop where
  tr : AOk a.tr
  ws : AOk a.ws
  ars : AOk a.ars
  ps : AOk a.ps
  fs : AOk a.fs
  zs : AOk a.zs
  ss : AOk a.ss
  las : AOk a.las
  rs : AOk a.rs
  ds : AOk a.ds
  lns : AOk a.lns
structure TbCap0 (t : Tb) (a : TbA) : Prop where
  ss : t.ss.length ≤ a.ssc
  rs : t.rs.length ≤ a.rsc
  lns : t.lns.length ≤ a.lnsc
structure TbCap (t : Tb) (a : TbA) : Prop extends TbCap0 t a where
  ok : a.ok
def OvOk (t : Tb) : Prop := (∀ x ∈ t.ss, nearV 1048576 ⟨x.c1, x.c2⟩ = true ∧ 0 ≤ x.sz ∧ x.sz ≤ 262144) ∧ (∀ x ∈ t.rs, nearV 1048576 ⟨x.c1, x.c2⟩ = true ∧ 0 ≤ x.sz ∧ x.sz ≤ 262144) ∧ (∀ x ∈ t.lns, nearV 1048576 ⟨x.a1, x.a2⟩ = true) ∧ 0 ≤ t.rad ∧ t.rad ≤ 32768
set_option maxRecDepth 100000 in
set_option maxHeartbeats 8000000 in
theorem overlaps_any (t : Tb) (a : TbA) (w : World) (hA : TbAt w t a) (hk : TbCap0 t a) (ho : OvOk t) (hl : t.ss.length ≤ 64 ∧ t.rs.length ≤ 64 ∧ t.lns.length ≤ 64) :
    Calls Tryz.prog 33 #[t.v a] w fun e w' => e = .returned (.bool t.over) ∧ Below w.heap.size w w' := by
  have HA := hQ0 hA
  have HO := hQ0 ho
  have HK := hQ0 hk
  clear hA ho hk
  obtain ⟨rad, bal, rst, gx, gy, drg, shf, tr, ws, ars, ps, fs, zs, ss, las, rs, ds, lns⟩ := t
  obtain ⟨Atr, ctr, Aws, cws, Aars, cars, Aps, cps, Afs, cfs, Azs, czs, Ass, css, Alas, clas, Ars, crs, Ads, cds, Alns, clns⟩ := a
  unfold Tb.v Tb.over
  simp only at hl ⊢
  obtain ⟨hl1, hl2, hl3⟩ := hl
  obtain ⟨R1, hR1⟩ : ∃ b, b = overA Sc.ov [] ss := ⟨_, rfl⟩
  obtain ⟨R2, hR2⟩ : ∃ b, b = overA Ra.ov [] rs := ⟨_, rfl⟩
  obtain ⟨R3, hR3⟩ : ∃ b, b = overA (Ln.ov rad) [] lns := ⟨_, rfl⟩
  rw [← hR1, ← hR2, ← hR3]
  have HR1 : Hid (overA Sc.ov (ss.take 0) (ss.drop 0) = R1) := hQ0 (by rw [hR1]; rfl)
  have HR2 : Hid (overA Ra.ov (rs.take 0) (rs.drop 0) = R2) := hQ0 (by rw [hR2]; rfl)
  have HR3 : Hid (overA (Ln.ov rad) (lns.take 0) (lns.drop 0) = R3) := hQ0 (by rw [hR3]; rfl)
  clear hR1 hR2 hR3
  obtain ⟨TC, hTC⟩ : ∃ z : List Value, z = [.int .i64 rad, .int .i64 bal, .int .i64 rst, .int .i64 gx, .int .i64 gy, .int .i64 drg, .int .i64 shf, .slice Atr tr.length ctr, .slice Aws ws.length cws, .slice Aars ars.length cars, .slice Aps ps.length cps, .slice Afs fs.length cfs, .slice Azs zs.length czs, .slice Ass ss.length css, .slice Alas las.length clas, .slice Ars rs.length crs, .slice Ads ds.length cds, .slice Alns lns.length clns] := ⟨_, rfl⟩
  have HTC := hQ0 hTC
  clear hTC
  go_enter Tryz.func33, Tryz.ntmps33; (try simp only [List.append_eq, List.cons_append, List.nil_append])
  go_upto_region 1 with (fail)
  (refine pin_eqT (fun w1 hE_w1 => ?_))
  have hT : BoxAt w1 w.heap.size TC := by rw [hE_w1, HTC.out]; exact BoxAt.new _ _ _
  have hb : Below w.heap.size w w1 := by rw [hE_w1]; ((with_reducible (repeat (first | exact bR _ _ | apply bS | apply bA | apply bD | refine bT ?_ (by assumption) ?_ | refine bO (by assumption) ?_ ?_))) <;> (first | omega | (simp <;> omega)))
  clear hE_w1
  have ta := hT.c 13 (.slice Ass ss.length css) (by rw [HTC.out]; rfl)
  have hlt_ := hT.lt
  go_wp2_with fail
  go_loopg [18] (ss.length + 1) (fun gk tt wr => ∃ k : Nat, k ≤ ss.length ∧ ss.length - k < gk ∧ tt = .int .i64 k ∧ Below w.heap.size w wr ∧ BoxAt wr w.heap.size TC ∧ Hid (overA Sc.ov (ss.take k) (ss.drop k) = R1))
  case atStart => exact ⟨0, by omega, by omega, rfl, hb, hT, HR1⟩
  case round =>
    obtain ⟨ws_, rfl⟩ : ∃ z, z = wr := ⟨_, rfl⟩
    clear hb hT ta hlt_ HR1
    obtain ⟨k, hk, hkk, rfl, hb_ws, hTr, HJ⟩ := hrel
    have hz_ws := hb_ws.size
    by_cases hlt : k < ss.length
    · as_aux_lemma =>
        obtain ⟨x, hx⟩ : ∃ x, ss[k]? = some x := ⟨ss[k], by simp⟩
        have hcap := HK.out.ss
        obtain ⟨g, o, hAe, hg, c0, c1, c2, c3, c4, c5, c6, c7, c8, c9⟩ := Sc.get (HA.out.ss.below hb_ws (Nat.le_refl _)) hx
        simp only at hAe hcap
        subst hAe
        have i1 : (k : Int) < (ss.length : Int) := by omega
        have i2 : (k : Int) ≤ (css : Int) := by omega
        have hkc : k ≤ css := by omega
        have HX := hQ0 hx
        have HBe := hQ0 hb_ws
        have HTr := hQ0 hTr
        have HOX := hQ0 (HO.out.1 x (List.mem_of_getElem? hx))
        clear hx hb_ws hTr
        go_upto_region 4 with (fail)
        (refine pin_eqT (fun w3 hE_w3 => ?_))
        obtain ⟨ga, hga⟩ : ∃ z, z = ws_.heap.size := ⟨_, rfl⟩
        rw [← hga]
        have hX3 : BoxAt w3 ga x.cells := by rw [hE_w3, hga]; exact BoxAt.new _ _ _
        have hT3 : BoxAt w3 w.heap.size TC := by rw [hE_w3]; exact HTr.out.alloc _
        have hB3 : Below w.heap.size w w3 := by rw [hE_w3]; exact HBe.out.alloc hz_ws _
        have hga2 : w.heap.size ≤ ga := by omega
        have ta := hT3.c 13 (.slice (some ⟨g, o, none⟩) ss.length css) (by rw [HTC.out]; rfl)
        have hlt3 := hT3.lt
        have HGA := hQ0 hga
        clear hga hE_w3 c0 c1 c2 c3 c4 c5 c6 c7 c8 c9
        have HJ2 : Hid ((((ss.take k).drop 0).any (Sc.ov x) || overA Sc.ov (ss.take (k + 1)) (ss.drop (k + 1))) = R1) := hQ0 (by rw [← HJ.out, overA_step HX.out]; rfl)
        go_wp2_with fail
        go_loopg [28] (k + 1) (fun gj tt wr => ∃ j : Nat, j ≤ k ∧ k - j < gj ∧ tt = .int .i64 j ∧ Below w.heap.size w wr ∧ BoxAt wr w.heap.size TC ∧ BoxAt wr ga x.cells ∧ Hid ((((ss.take k).drop j).any (Sc.ov x) || overA Sc.ov (ss.take (k + 1)) (ss.drop (k + 1))) = R1))
        case atStart => exact ⟨0, by omega, by omega, rfl, hB3, hT3, hX3, HJ2⟩
        case round =>
          obtain ⟨wj_, rfl⟩ : ∃ z, z = wr := ⟨_, rfl⟩
          clear hB3 hT3 hX3 ta hlt3 HJ2
          obtain ⟨j, hj, hjj, rfl, hb_wj, hTj, hXj, HJj⟩ := hrel
          have hz_wj := hb_wj.size
          by_cases hjk : j < k
          · obtain ⟨y, hy⟩ : ∃ y, ss[j]? = some y := ⟨ss[j]'(by omega), by simp⟩
            obtain ⟨g', o', hAe, hg', d0, d1, d2, d3, d4, d5, d6, d7, d8, d9⟩ := Sc.get (HA.out.ss.below hb_wj (Nat.le_refl _)) hy
            simp only [Option.some.injEq, Addr.mk.injEq, and_true] at hAe
            obtain ⟨rfl, rfl⟩ := hAe
            have i3 : (j : Int) < (k : Int) := by omega
            have HY := hQ0 hy
            have HBj := hQ0 hb_wj
            have HTj := hQ0 hTj
            have HXj := hQ0 hXj
            have HOY := hQ0 (HO.out.1 y (List.mem_of_getElem? hy))
            have HB0 : Hid (0 ≤ x.sz ∧ x.sz ≤ 262144 ∧ 0 ≤ y.sz ∧ y.sz ≤ 262144) := hQ0 ⟨HOX.out.2.1, HOX.out.2.2, HOY.out.2.1, HOY.out.2.2⟩
            have HD : Hid (IntKind.i64.wrap (x.sz + y.sz) = (x.sz + y.sz)) := hQ0 (by have := HB0.out; rw [IntKind.wrap_i64]; omega)
            clear hy hb_wj hTj hXj
            go_upto_region 7 with (fail)
            (refine pin_eqT (fun w5 hE_w5 => ?_))
            obtain ⟨gb, hgb⟩ : ∃ z, z = wj_.heap.size := ⟨_, rfl⟩
            rw [← hgb]
            have HY5 : Hid (BoxAt w5 gb y.cells) := hQ0 (by rw [hE_w5, hgb]; exact BoxAt.new _ _ _)
            have HX5 : Hid (BoxAt w5 ga x.cells) := hQ0 (by rw [hE_w5]; exact HXj.out.alloc _)
            have HT5 : Hid (BoxAt w5 w.heap.size TC) := hQ0 (by rw [hE_w5]; exact HTj.out.alloc _)
            have HB5 : Hid (Below w.heap.size w w5) := hQ0 (by rw [hE_w5]; exact HBj.out.alloc hz_wj _)
            have HGB := hQ0 hgb
            clear hgb hE_w5 d0 d1 d2 d3 d4 d5 d6 d7 d8 d9 HBj HTj HXj
            obtain ⟨p1, hp1⟩ : ∃ b, b = nearR ⟨x.c1, x.c2⟩ ⟨y.c1, y.c2⟩ (x.sz + y.sz) := ⟨_, rfl⟩
            have KN := fun W => near_any ⟨x.c1, x.c2⟩ ⟨y.c1, y.c2⟩ (x.sz + y.sz) W HOX.out.1 HOY.out.1 (by have := HB0.out; omega) (by have := HB0.out; omega)
            rw [← hp1] at KN
            have hD : Sc.ov x y = (decide (x.lv = y.lv) && p1) := by rw [hp1]; rfl
            have HJn := any_step (f := Sc.ov x) hjk HY.out
            have hJ := HJj.out
            rw [HJn, hD] at hJ
            have HN2 := hQ0 hJ
            clear hp1 hD HJn hJ
            have u1 := HX5.out.c 1 (.int .i64 x.lv) rfl
            have v1 := HY5.out.c 1 (.int .i64 y.lv) rfl
            have u2 := HX5.out.c 2 (.int .i64 x.c1) rfl
            have v2 := HY5.out.c 2 (.int .i64 y.c1) rfl
            have u3 := HX5.out.c 3 (.int .i64 x.c2) rfl
            have v3 := HY5.out.c 3 (.int .i64 y.c2) rfl
            have u4 := HX5.out.c 4 (.int .i64 x.sz) rfl
            have v4 := HY5.out.c 4 (.int .i64 y.sz) rfl
            have lx_ := HX5.out.lt
            have ly_ := HY5.out.lt
            have lt_ := HT5.out.lt
            have hw_ := HD.out
            cases q0 : decide (x.lv = y.lv)
            rotate_left
            cases p1
            all_goals (
              have hN3 := HN2.out
              simp only [q0, Bool.and_true, Bool.true_and, Bool.false_and, Bool.false_or, Bool.true_or] at hN3
              have HN3 := hQ0 hN3
              clear hN3
              first | have q9 := of_decide_eq_false q0 | have q9 := (of_decide_eq_true q0).symm
              have hbb := Below.refl w5.heap.size w5
              go_wp2_with (go_at_call 83; refine (KN _).mono ?_; rintro e w9 ⟨rfl, hb9⟩; replace hbb := hbb.trans (hb9.mono hbb.size); clear hb9)
              first
              | (go_ret
                 exact ⟨by rw [← HN3.out] <;> rfl, HB5.out.trans (hbb.mono HB5.out.size)⟩)
              | (go_roundg (k - (j + 1) + 1)
                 case measure => omega
                 case rel => exact ⟨j + 1, by omega, by omega, by go_num, HB5.out.trans (hbb.mono HB5.out.size), HT5.out.below hbb HT5.out.lt, HX5.out.below hbb HX5.out.lt, HN3⟩))
          · obtain rfl : j = k := by omega
            have HJ4 : Hid (overA Sc.ov (ss.take (j + 1)) (ss.drop (j + 1)) = R1) := hQ0 (by rw [← HJj.out, any_end (Nat.le_refl _)]; rfl)
            have HBj := hQ0 hb_wj
            have HTj := hQ0 hTj
            clear hb_wj hTj hXj
            go_wp2_with fail
            go_roundg (ss.length - (j + 1) + 1)
            case measure => omega
            case rel => exact ⟨j + 1, by omega, by omega, by go_num, HBj.out, HTj.out, HJ4⟩
    · obtain rfl : k = ss.length := by omega
      obtain rfl : R1 = false := by rw [← HJ.out]; exact overA_end (Nat.le_refl _)
      have hb := hb_ws
      have hT := hTr
      clear hb_ws hTr HJ
      go_upto_region 11 with (fail)
      as_aux_lemma =>
        have ta := hT.c 15 (.slice Ars rs.length crs) (by rw [HTC.out]; rfl)
        have hlt_ := hT.lt
        go_wp2_with fail
        go_loopg [54] (rs.length + 1) (fun gk tt wr => ∃ k : Nat, k ≤ rs.length ∧ rs.length - k < gk ∧ tt = .int .i64 k ∧ Below w.heap.size w wr ∧ BoxAt wr w.heap.size TC ∧ Hid (overA Ra.ov (rs.take k) (rs.drop k) = R2))
        case atStart => exact ⟨0, by omega, by omega, rfl, hb, hT, HR2⟩
        case round =>
          obtain ⟨ws_, rfl⟩ : ∃ z, z = wr := ⟨_, rfl⟩
          clear hb hT ta hlt_ HR2
          obtain ⟨k, hk, hkk, rfl, hb_ws, hTr, HJ⟩ := hrel
          have hz_ws := hb_ws.size
          by_cases hlt : k < rs.length
          · as_aux_lemma =>
              obtain ⟨x, hx⟩ : ∃ x, rs[k]? = some x := ⟨rs[k], by simp⟩
              have hcap := HK.out.rs
              obtain ⟨g, o, hAe, hg, c0, c1, c2, c3, c4, c5, c6, c7⟩ := Ra.get (HA.out.rs.below hb_ws (Nat.le_refl _)) hx
              simp only at hAe hcap
              subst hAe
              have i1 : (k : Int) < (rs.length : Int) := by omega
              have i2 : (k : Int) ≤ (crs : Int) := by omega
              have hkc : k ≤ crs := by omega
              have HX := hQ0 hx
              have HBe := hQ0 hb_ws
              have HTr := hQ0 hTr
              have HOX := hQ0 (HO.out.2.1 x (List.mem_of_getElem? hx))
              clear hx hb_ws hTr
              go_upto_region 14 with (fail)
              (refine pin_eqT (fun w3 hE_w3 => ?_))
              obtain ⟨ga, hga⟩ : ∃ z, z = ws_.heap.size := ⟨_, rfl⟩
              rw [← hga]
              have hX3 : BoxAt w3 ga x.cells := by rw [hE_w3, hga]; exact BoxAt.new _ _ _
              have hT3 : BoxAt w3 w.heap.size TC := by rw [hE_w3]; exact HTr.out.alloc _
              have hB3 : Below w.heap.size w w3 := by rw [hE_w3]; exact HBe.out.alloc hz_ws _
              have hga2 : w.heap.size ≤ ga := by omega
              have ta := hT3.c 15 (.slice (some ⟨g, o, none⟩) rs.length crs) (by rw [HTC.out]; rfl)
              have hlt3 := hT3.lt
              have HGA := hQ0 hga
              clear hga hE_w3 c0 c1 c2 c3 c4 c5 c6 c7
              have HJ2 : Hid ((((rs.take k).drop 0).any (Ra.ov x) || overA Ra.ov (rs.take (k + 1)) (rs.drop (k + 1))) = R2) := hQ0 (by rw [← HJ.out, overA_step HX.out]; rfl)
              go_wp2_with fail
              go_loopg [64] (k + 1) (fun gj tt wr => ∃ j : Nat, j ≤ k ∧ k - j < gj ∧ tt = .int .i64 j ∧ Below w.heap.size w wr ∧ BoxAt wr w.heap.size TC ∧ BoxAt wr ga x.cells ∧ Hid ((((rs.take k).drop j).any (Ra.ov x) || overA Ra.ov (rs.take (k + 1)) (rs.drop (k + 1))) = R2))
              case atStart => exact ⟨0, by omega, by omega, rfl, hB3, hT3, hX3, HJ2⟩
              case round =>
                obtain ⟨wj_, rfl⟩ : ∃ z, z = wr := ⟨_, rfl⟩
                clear hB3 hT3 hX3 ta hlt3 HJ2
                obtain ⟨j, hj, hjj, rfl, hb_wj, hTj, hXj, HJj⟩ := hrel
                have hz_wj := hb_wj.size
                by_cases hjk : j < k
                · obtain ⟨y, hy⟩ : ∃ y, rs[j]? = some y := ⟨rs[j]'(by omega), by simp⟩
                  obtain ⟨g', o', hAe, hg', d0, d1, d2, d3, d4, d5, d6, d7⟩ := Ra.get (HA.out.rs.below hb_wj (Nat.le_refl _)) hy
                  simp only [Option.some.injEq, Addr.mk.injEq, and_true] at hAe
                  obtain ⟨rfl, rfl⟩ := hAe
                  have i3 : (j : Int) < (k : Int) := by omega
                  have HY := hQ0 hy
                  have HBj := hQ0 hb_wj
                  have HTj := hQ0 hTj
                  have HXj := hQ0 hXj
                  have HOY := hQ0 (HO.out.2.1 y (List.mem_of_getElem? hy))
                  have HB0 : Hid (0 ≤ x.sz ∧ x.sz ≤ 262144 ∧ 0 ≤ y.sz ∧ y.sz ≤ 262144) := hQ0 ⟨HOX.out.2.1, HOX.out.2.2, HOY.out.2.1, HOY.out.2.2⟩
                  have HD : Hid (IntKind.i64.wrap (x.sz + y.sz) = (x.sz + y.sz)) := hQ0 (by have := HB0.out; rw [IntKind.wrap_i64]; omega)
                  clear hy hb_wj hTj hXj
                  go_upto_region 17 with (fail)
                  (refine pin_eqT (fun w5 hE_w5 => ?_))
                  obtain ⟨gb, hgb⟩ : ∃ z, z = wj_.heap.size := ⟨_, rfl⟩
                  rw [← hgb]
                  have HY5 : Hid (BoxAt w5 gb y.cells) := hQ0 (by rw [hE_w5, hgb]; exact BoxAt.new _ _ _)
                  have HX5 : Hid (BoxAt w5 ga x.cells) := hQ0 (by rw [hE_w5]; exact HXj.out.alloc _)
                  have HT5 : Hid (BoxAt w5 w.heap.size TC) := hQ0 (by rw [hE_w5]; exact HTj.out.alloc _)
                  have HB5 : Hid (Below w.heap.size w w5) := hQ0 (by rw [hE_w5]; exact HBj.out.alloc hz_wj _)
                  have HGB := hQ0 hgb
                  clear hgb hE_w5 d0 d1 d2 d3 d4 d5 d6 d7 HBj HTj HXj
                  obtain ⟨p1, hp1⟩ : ∃ b, b = nearR ⟨x.c1, x.c2⟩ ⟨y.c1, y.c2⟩ (x.sz + y.sz) := ⟨_, rfl⟩
                  have KN := fun W => near_any ⟨x.c1, x.c2⟩ ⟨y.c1, y.c2⟩ (x.sz + y.sz) W HOX.out.1 HOY.out.1 (by have := HB0.out; omega) (by have := HB0.out; omega)
                  rw [← hp1] at KN
                  have hD : Ra.ov x y = (decide (x.fr = y.fr) && p1) := by rw [hp1]; rfl
                  have HJn := any_step (f := Ra.ov x) hjk HY.out
                  have hJ := HJj.out
                  rw [HJn, hD] at hJ
                  have HN2 := hQ0 hJ
                  clear hp1 hD HJn hJ
                  have u1 := HX5.out.c 1 (.int .i64 x.fr) rfl
                  have v1 := HY5.out.c 1 (.int .i64 y.fr) rfl
                  have u3 := HX5.out.c 3 (.int .i64 x.c1) rfl
                  have v3 := HY5.out.c 3 (.int .i64 y.c1) rfl
                  have u4 := HX5.out.c 4 (.int .i64 x.c2) rfl
                  have v4 := HY5.out.c 4 (.int .i64 y.c2) rfl
                  have u5 := HX5.out.c 5 (.int .i64 x.sz) rfl
                  have v5 := HY5.out.c 5 (.int .i64 y.sz) rfl
                  have lx_ := HX5.out.lt
                  have ly_ := HY5.out.lt
                  have lt_ := HT5.out.lt
                  have hw_ := HD.out
                  cases q0 : decide (x.fr = y.fr)
                  rotate_left
                  cases p1
                  all_goals (
                    have hN3 := HN2.out
                    simp only [q0, Bool.and_true, Bool.true_and, Bool.false_and, Bool.false_or, Bool.true_or] at hN3
                    have HN3 := hQ0 hN3
                    clear hN3
                    first | have q9 := of_decide_eq_false q0 | have q9 := (of_decide_eq_true q0).symm
                    have hbb := Below.refl w5.heap.size w5
                    go_wp2_with (go_at_call 83; refine (KN _).mono ?_; rintro e w9 ⟨rfl, hb9⟩; replace hbb := hbb.trans (hb9.mono hbb.size); clear hb9)
                    first
                    | (go_ret
                       exact ⟨by rw [← HN3.out] <;> rfl, HB5.out.trans (hbb.mono HB5.out.size)⟩)
                    | (go_roundg (k - (j + 1) + 1)
                       case measure => omega
                       case rel => exact ⟨j + 1, by omega, by omega, by go_num, HB5.out.trans (hbb.mono HB5.out.size), HT5.out.below hbb HT5.out.lt, HX5.out.below hbb HX5.out.lt, HN3⟩))
                · obtain rfl : j = k := by omega
                  have HJ4 : Hid (overA Ra.ov (rs.take (j + 1)) (rs.drop (j + 1)) = R2) := hQ0 (by rw [← HJj.out, any_end (Nat.le_refl _)]; rfl)
                  have HBj := hQ0 hb_wj
                  have HTj := hQ0 hTj
                  clear hb_wj hTj hXj
                  go_wp2_with fail
                  go_roundg (rs.length - (j + 1) + 1)
                  case measure => omega
                  case rel => exact ⟨j + 1, by omega, by omega, by go_num, HBj.out, HTj.out, HJ4⟩
          · obtain rfl : k = rs.length := by omega
            obtain rfl : R2 = false := by rw [← HJ.out]; exact overA_end (Nat.le_refl _)
            have hb := hb_ws
            have hT := hTr
            clear hb_ws hTr HJ
            go_upto_region 21 with (fail)
            as_aux_lemma =>
              have ta := hT.c 17 (.slice Alns lns.length clns) (by rw [HTC.out]; rfl)
              have hlt_ := hT.lt
              go_wp2_with fail
              go_loopg [90] (lns.length + 1) (fun gk tt wr => ∃ k : Nat, k ≤ lns.length ∧ lns.length - k < gk ∧ tt = .int .i64 k ∧ Below w.heap.size w wr ∧ BoxAt wr w.heap.size TC ∧ Hid (overA (Ln.ov rad) (lns.take k) (lns.drop k) = R3))
              case atStart => exact ⟨0, by omega, by omega, rfl, hb, hT, HR3⟩
              case round =>
                obtain ⟨ws_, rfl⟩ : ∃ z, z = wr := ⟨_, rfl⟩
                clear hb hT ta hlt_ HR3
                obtain ⟨k, hk, hkk, rfl, hb_ws, hTr, HJ⟩ := hrel
                have hz_ws := hb_ws.size
                by_cases hlt : k < lns.length
                · as_aux_lemma =>
                    obtain ⟨x, hx⟩ : ∃ x, lns[k]? = some x := ⟨lns[k], by simp⟩
                    have hcap := HK.out.lns
                    obtain ⟨g, o, hAe, hg, c0, c1, c2, c3, c4, c5, c6⟩ := Ln.get (HA.out.lns.below hb_ws (Nat.le_refl _)) hx
                    simp only at hAe hcap
                    subst hAe
                    have i1 : (k : Int) < (lns.length : Int) := by omega
                    have i2 : (k : Int) ≤ (clns : Int) := by omega
                    have hkc : k ≤ clns := by omega
                    have HX := hQ0 hx
                    have HBe := hQ0 hb_ws
                    have HTr := hQ0 hTr
                    have HOX := hQ0 (HO.out.2.2.1 x (List.mem_of_getElem? hx))
                    clear hx hb_ws hTr
                    go_upto_region 24 with (fail)
                    (refine pin_eqT (fun w3 hE_w3 => ?_))
                    obtain ⟨ga, hga⟩ : ∃ z, z = ws_.heap.size := ⟨_, rfl⟩
                    rw [← hga]
                    have hX3 : BoxAt w3 ga x.cells := by rw [hE_w3, hga]; exact BoxAt.new _ _ _
                    have hT3 : BoxAt w3 w.heap.size TC := by rw [hE_w3]; exact HTr.out.alloc _
                    have hB3 : Below w.heap.size w w3 := by rw [hE_w3]; exact HBe.out.alloc hz_ws _
                    have hga2 : w.heap.size ≤ ga := by omega
                    have ta := hT3.c 17 (.slice (some ⟨g, o, none⟩) lns.length clns) (by rw [HTC.out]; rfl)
                    have hlt3 := hT3.lt
                    have HGA := hQ0 hga
                    clear hga hE_w3 c0 c1 c2 c3 c4 c5 c6
                    have HJ2 : Hid ((((lns.take k).drop 0).any ((Ln.ov rad) x) || overA (Ln.ov rad) (lns.take (k + 1)) (lns.drop (k + 1))) = R3) := hQ0 (by rw [← HJ.out, overA_step HX.out]; rfl)
                    go_wp2_with fail
                    go_loopg [100] (k + 1) (fun gj tt wr => ∃ j : Nat, j ≤ k ∧ k - j < gj ∧ tt = .int .i64 j ∧ Below w.heap.size w wr ∧ BoxAt wr w.heap.size TC ∧ BoxAt wr ga x.cells ∧ Hid ((((lns.take k).drop j).any ((Ln.ov rad) x) || overA (Ln.ov rad) (lns.take (k + 1)) (lns.drop (k + 1))) = R3))
                    case atStart => exact ⟨0, by omega, by omega, rfl, hB3, hT3, hX3, HJ2⟩
                    case round =>
                      obtain ⟨wj_, rfl⟩ : ∃ z, z = wr := ⟨_, rfl⟩
                      clear hB3 hT3 hX3 ta hlt3 HJ2
                      obtain ⟨j, hj, hjj, rfl, hb_wj, hTj, hXj, HJj⟩ := hrel
                      have hz_wj := hb_wj.size
                      by_cases hjk : j < k
                      · obtain ⟨y, hy⟩ : ∃ y, lns[j]? = some y := ⟨lns[j]'(by omega), by simp⟩
                        obtain ⟨g', o', hAe, hg', d0, d1, d2, d3, d4, d5, d6⟩ := Ln.get (HA.out.lns.below hb_wj (Nat.le_refl _)) hy
                        simp only [Option.some.injEq, Addr.mk.injEq, and_true] at hAe
                        obtain ⟨rfl, rfl⟩ := hAe
                        have i3 : (j : Int) < (k : Int) := by omega
                        have HY := hQ0 hy
                        have HBj := hQ0 hb_wj
                        have HTj := hQ0 hTj
                        have HXj := hQ0 hXj
                        have HOY := hQ0 (HO.out.2.2.1 y (List.mem_of_getElem? hy))
                        have HB0 : Hid (0 ≤ rad ∧ rad ≤ 32768) := hQ0 ⟨HO.out.2.2.2.1, HO.out.2.2.2.2⟩
                        have HD : Hid (IntKind.i64.wrap (2 * rad) = (2 * rad)) := hQ0 (by have := HB0.out; rw [IntKind.wrap_i64]; omega)
                        clear hy hb_wj hTj hXj
                        go_upto_region 27 with (fail)
                        (refine pin_eqT (fun w5 hE_w5 => ?_))
                        obtain ⟨gb, hgb⟩ : ∃ z, z = wj_.heap.size := ⟨_, rfl⟩
                        rw [← hgb]
                        have HY5 : Hid (BoxAt w5 gb y.cells) := hQ0 (by rw [hE_w5, hgb]; exact BoxAt.new _ _ _)
                        have HX5 : Hid (BoxAt w5 ga x.cells) := hQ0 (by rw [hE_w5]; exact HXj.out.alloc _)
                        have HT5 : Hid (BoxAt w5 w.heap.size TC) := hQ0 (by rw [hE_w5]; exact HTj.out.alloc _)
                        have HB5 : Hid (Below w.heap.size w w5) := hQ0 (by rw [hE_w5]; exact HBj.out.alloc hz_wj _)
                        have HGB := hQ0 hgb
                        clear hgb hE_w5 d0 d1 d2 d3 d4 d5 d6 HBj HTj HXj
                        obtain ⟨p1, hp1⟩ : ∃ b, b = nearR ⟨x.a1, x.a2⟩ ⟨y.a1, y.a2⟩ (2 * rad) := ⟨_, rfl⟩
                        have KN := fun W => near_any ⟨x.a1, x.a2⟩ ⟨y.a1, y.a2⟩ (2 * rad) W HOX.out HOY.out (by have := HB0.out; omega) (by have := HB0.out; omega)
                        rw [← hp1] at KN
                        have hD : (Ln.ov rad) x y = (decide (x.lv = y.lv) && p1) := by rw [hp1]; rfl
                        have HJn := any_step (f := (Ln.ov rad) x) hjk HY.out
                        have hJ := HJj.out
                        rw [HJn, hD] at hJ
                        have HN2 := hQ0 hJ
                        clear hp1 hD HJn hJ
                        have u1 := HX5.out.c 1 (.int .i64 x.lv) rfl
                        have v1 := HY5.out.c 1 (.int .i64 y.lv) rfl
                        have u2 := HX5.out.c 2 (.int .i64 x.a1) rfl
                        have v2 := HY5.out.c 2 (.int .i64 y.a1) rfl
                        have u3 := HX5.out.c 3 (.int .i64 x.a2) rfl
                        have v3 := HY5.out.c 3 (.int .i64 y.a2) rfl
                        have t0 := HT5.out.c 0 (.int .i64 rad) (by rw [HTC.out]; rfl)
                        have lx_ := HX5.out.lt
                        have ly_ := HY5.out.lt
                        have lt_ := HT5.out.lt
                        have hw_ := HD.out
                        cases q0 : decide (x.lv = y.lv)
                        rotate_left
                        cases p1
                        all_goals (
                          have hN3 := HN2.out
                          simp only [q0, Bool.and_true, Bool.true_and, Bool.false_and, Bool.false_or, Bool.true_or] at hN3
                          have HN3 := hQ0 hN3
                          clear hN3
                          first | have q9 := of_decide_eq_false q0 | have q9 := (of_decide_eq_true q0).symm
                          have hbb := Below.refl w5.heap.size w5
                          go_wp2_with (go_at_call 83; refine (KN _).mono ?_; rintro e w9 ⟨rfl, hb9⟩; replace hbb := hbb.trans (hb9.mono hbb.size); clear hb9)
                          first
                          | (go_ret
                             exact ⟨by rw [← HN3.out] <;> rfl, HB5.out.trans (hbb.mono HB5.out.size)⟩)
                          | (go_roundg (k - (j + 1) + 1)
                             case measure => omega
                             case rel => exact ⟨j + 1, by omega, by omega, by go_num, HB5.out.trans (hbb.mono HB5.out.size), HT5.out.below hbb HT5.out.lt, HX5.out.below hbb HX5.out.lt, HN3⟩))
                      · obtain rfl : j = k := by omega
                        have HJ4 : Hid (overA (Ln.ov rad) (lns.take (j + 1)) (lns.drop (j + 1)) = R3) := hQ0 (by rw [← HJj.out, any_end (Nat.le_refl _)]; rfl)
                        have HBj := hQ0 hb_wj
                        have HTj := hQ0 hTj
                        clear hb_wj hTj hXj
                        go_wp2_with fail
                        go_roundg (lns.length - (j + 1) + 1)
                        case measure => omega
                        case rel => exact ⟨j + 1, by omega, by omega, by go_num, HBj.out, HTj.out, HJ4⟩
                · obtain rfl : k = lns.length := by omega
                  obtain rfl : R3 = false := by rw [← HJ.out]; exact overA_end (Nat.le_refl _)
                  have hb := hb_ws
                  have hT := hTr
                  clear hb_ws hTr HJ
                  have HB := hQ0 hb
                  clear hb hT
                  go_wp2_with fail
                  go_ret
                  exact ⟨rfl, HB.out⟩
end Go.Proofs.YtbpcjpiaimdpnaaGreatDoor
namespace Go.Proofs.YtbpcjpiaimdpnaaGreatDoor
structure Tb.only9 (t : Tb) : Prop where
  ars : t.ars.length ≤ 0
  ps : t.ps.length ≤ 0
  fs : t.fs.length ≤ 0
  zs : t.zs.length ≤ 0
  ss : t.ss.length ≤ 0
  las : t.las.length ≤ 0
  rs : t.rs.length ≤ 0
  ds : t.ds.length ≤ 0
  lns : t.lns.length ≤ 0
end Go.Proofs.YtbpcjpiaimdpnaaGreatDoor
