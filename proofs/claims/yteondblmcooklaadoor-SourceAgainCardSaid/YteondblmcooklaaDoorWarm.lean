/-
  WARM REGIONS: a region that draws its order and whose head only reads what a predicate S on worlds fixes, and makes calls that keep S, may be walked in the order of its text; behind the head comes a tail in the order of the text. No program in sight.
-/
import Derived.StillTail
import Derived.StillTactics
import Derived.Below
namespace Go.Proofs.YteondblmcooklaaDoor
open Go Go.RowKit
section
variable {P : Program} {ops : Array Oper} {md : Region.Mode} {S : World → Prop}

/-- The operation yields v at the world w, and S holds behind it. -/
def givesUpon (P : Program) (S : World → Prop) (v : Value) : Result Next → Prop
  | .ok (.value u) w' => u = v ∧ S w'
  | .ok .skip w' => v = undef ∧ S w'
  | .ok (.enter f args) w' => Calls P f args w' (fun e w'' => e = .returned v ∧ S w'')
  | _ => False

theorem givesUpon_value (v u : Value) (w : World) : givesUpon P S v (.ok (.value u) w) = (u = v ∧ S w) := rfl
theorem givesUpon_skip (v : Value) (w : World) : givesUpon P S v (.ok .skip w) = (v = undef ∧ S w) := rfl
theorem givesUpon_enter (v : Value) (f : FuncId) (args : Array Value) (w : World) : givesUpon P S v (.ok (.enter f args) w) = Calls P f args w (fun e w'' => e = .returned v ∧ S w'') := rfl

def gives (P : Program) (S : World → Prop) (o : Oper) (a : Act) (v : Value) : Prop := ∀ w, S w → givesUpon P S v ((execOp a.eval o).run P w)

/-- What a region's operation yields under S, in an act. -/
def YieldsIn (P : Program) (ops : Array Oper) (S : World → Prop) (o : Oper) (v : Value) (a : Act) : Prop :=
  (Region.wanted o (yielded ops a.tmps) = true ∧ gives P S o a v) ∨ (Region.wanted o (yielded ops a.tmps) = false ∧ v = undef)

theorem YieldsIn.of_same {o : Oper} {v : Value} {a a' : Act} (hy : YieldsIn P ops S o v a) (he : execOp a'.eval o = execOp a.eval o)
    (hw : Region.wanted o (yielded ops a'.tmps) = Region.wanted o (yielded ops a.tmps)) : YieldsIn P ops S o v a' := by
  unfold YieldsIn gives at *
  rw [he, hw]
  exact hy

def wmOp (P : Program) (ops : Array Oper) (S : World → Prop) (i : Nat) (K : Act → Prop) (a : Act) : Prop :=
  match ops[i]? with
  | none => K a
  | some o => ∃ v, YieldsIn P ops S o v a ∧ K (a.put o.dst v)

def wpWarm (P : Program) (ops : Array Oper) (S : World → Prop) (Q : Act → Prop) : List Oper → Act → Prop
  | [], a => Q a
  | o :: rest, a => ∃ v, YieldsIn P ops S o v a ∧ wpWarm P ops S Q rest (a.put o.dst v)

theorem wpWarm_nil {Q : Act → Prop} {a : Act} (h : Q a) : wpWarm P ops S Q [] a := h

theorem wpWarm_plain {Q : Act → Prop} {a : Act} {o : Oper} {rest : List Oper} (hg : o.guard = none) (v : Value) (h : gives P S o a v)
    (hk : wpWarm P ops S Q rest (a.put o.dst v)) : wpWarm P ops S Q (o :: rest) a := ⟨v, .inl ⟨by simp [Region.wanted, hg], h⟩, hk⟩
theorem wpWarm_wanted {Q : Act → Prop} {a : Act} {o : Oper} {rest : List Oper} (hg : Region.wanted o (yielded ops a.tmps) = true) (v : Value) (h : gives P S o a v)
    (hk : wpWarm P ops S Q rest (a.put o.dst v)) : wpWarm P ops S Q (o :: rest) a := ⟨v, .inl ⟨hg, h⟩, hk⟩
theorem wpWarm_skip {Q : Act → Prop} {a : Act} {o : Oper} {rest : List Oper} (hg : Region.wanted o (yielded ops a.tmps) = false)
    (hk : wpWarm P ops S Q rest (a.put o.dst undef)) : wpWarm P ops S Q (o :: rest) a := ⟨undef, .inr ⟨hg, rfl⟩, hk⟩

theorem wpWarm_step {Q : Act → Prop} {a : Act} {o : Oper} {rest : List Oper} (hg : o.guard = none) (v : Value) (h : gives P S o a v)
    (hk : ∀ K : Act → Prop, (∀ a, wpWarm P ops S Q rest a → K a) → K (a.put o.dst v)) : wpWarm P ops S Q (o :: rest) a := wpWarm_plain hg v h (hk _ fun _ h => h)
theorem wpWarm_step_on {Q : Act → Prop} {a : Act} {o : Oper} {rest : List Oper} (hg : Region.wanted o (yielded ops a.tmps) = true) (v : Value) (h : gives P S o a v)
    (hk : ∀ K : Act → Prop, (∀ a, wpWarm P ops S Q rest a → K a) → K (a.put o.dst v)) : wpWarm P ops S Q (o :: rest) a := wpWarm_wanted hg v h (hk _ fun _ h => h)
theorem wpWarm_step_off {Q : Act → Prop} {a : Act} {o : Oper} {rest : List Oper} (hg : Region.wanted o (yielded ops a.tmps) = false)
    (hk : ∀ K : Act → Prop, (∀ a, wpWarm P ops S Q rest a → K a) → K (a.put o.dst undef)) : wpWarm P ops S Q (o :: rest) a := wpWarm_skip hg (hk _ fun _ h => h)

theorem wmOp_mono {i : Nat} {a : Act} {K K' : Act → Prop} (h : ∀ a, K a → K' a) (hh : wmOp P ops S i K a) : wmOp P ops S i K' a := by
  unfold wmOp at *
  split
  · exact h _ (by simpa [*] using hh)
  · rename_i o ho
    simp only [ho] at hh
    obtain ⟨v, hy, hk⟩ := hh
    exact ⟨v, hy, h _ hk⟩

theorem YieldsIn.wmOp {i : Nat} {o : Oper} {v : Value} {a : Act} (hi : ops[i]? = some o) (hy : YieldsIn P ops S o v a) {K : Act → Prop} (h : K (a.put o.dst v)) : wmOp P ops S i K a := by
  unfold Proofs.YteondblmcooklaaDoor.wmOp
  simp only [hi]
  exact ⟨v, hy, h⟩

theorem wmOp_put {j : Nat} {oi oj : Oper} {v : Value} (hj : ops[j]? = some oj) (hap : oi.apart ops oj = true)
    (hsi : ∀ cs b, oi.op ≠ .select cs b) (hsj : ∀ cs b, oj.op ≠ .select cs b) {K : Act → Prop} {a : Act}
    (hy : YieldsIn P ops S oi v a) (h : wmOp P ops S j K (a.put oi.dst v)) :
    wmOp P ops S j (fun a' => YieldsIn P ops S oi v a' ∧ K (a'.put oi.dst v)) a := by
  obtain ⟨h1, h2, h3⟩ := Oper.apart_spec hap
  have keep : ∀ (a : Act), YieldsIn P ops S oi v a → ∀ u, YieldsIn P ops S oi v (a.put oj.dst u) := fun a hy u =>
    hy.of_same (execOp_put oi hsi a oj.dst u h3) (wanted_put oi a oj.dst u h3)
  unfold wmOp at *
  simp only [hj] at *
  obtain ⟨u, hu, hk⟩ := h
  refine ⟨u, hu.of_same (execOp_put oj hsj a oi.dst v h1).symm (wanted_put oj a oi.dst v h1).symm, keep a hy u, ?_⟩
  rw [← Act.put_comm a v u h2]
  exact hk

/-- 'i' stands for the head's length: head operations alone come up till all of them are done. -/
def wpAnyM (P : Program) (md : Region.Mode) (ops : Array Oper) (S : World → Prop) (n : Nat) (L : Array Bool → Act → Prop) : Nat → Array Bool → Act → Prop
  | 0, listed, a => L listed a
  | f + 1, listed, a =>
    Region.ready md ops listed ≠ [] ∧ ∀ i ∈ Region.ready md ops listed, i < n ∧ wmOp P ops S i (wpAnyM P md ops S n L f (listed.setIfInBounds i true)) a

theorem wpOp_of_wmOp {i : Nat} {a : Act} {w : World} {K : Act → Prop} {K' : Act → World → Prop} {Q' : Exit → Act → World → Prop} (hS : S w) (h : ∀ a w, S w → K a → K' a w) (hh : wmOp P ops S i K a) : wpOp P ops Q' i K' a w := by
  unfold wmOp at hh
  unfold wpOp
  split
  · rename_i ho; simp only [ho] at hh; exact h _ _ hS hh
  · rename_i o ho
    simp only [ho] at hh
    obtain ⟨v, hy, hk⟩ := hh
    rcases hy with ⟨hw, hg⟩ | ⟨hw, rfl⟩
    · simp only [hw, if_true]
      refine .inl ?_
      have hg := hg w hS
      unfold Oper.wp
      generalize (execOp a.eval o).run P w = r at *
      cases r with
      | ok nx w' =>
        cases nx <;> simp only [givesUpon, Oper.upon] at hg ⊢
        case value u => obtain ⟨rfl, h2⟩ := hg; exact h _ _ h2 hk
        case skip => obtain ⟨rfl, h2⟩ := hg; exact h _ _ h2 hk
        case enter f args => exact hg.mono fun e w'' ⟨he, hw⟩ => by subst he; exact h _ _ hw hk
      | halt x w' => simp only [givesUpon] at hg
    · simp only [hw, Bool.false_eq_true, if_false]
      exact h _ _ hS hk

theorem wpAny_of_warmHead {n g : Nat} {L : Array Bool → Act → Prop} {Q' : Exit → Act → World → Prop} (hL : ∀ listed a w, S w → L listed a → wpAny P md ops Q' g listed a w) :
    ∀ (f : Nat) (listed : Array Bool) (a : Act) (w : World), S w → wpAnyM P md ops S n L f listed a → wpAny P md ops Q' (f + g) listed a w
  | 0, listed, a, w, hS, h => by rw [Nat.zero_add]; exact hL _ _ _ hS h
  | f + 1, listed, a, w, hS, h => by
    rw [show f + 1 + g = (f + g) + 1 by omega]
    exact ⟨fun h0 => absurd h0 h.1, fun i hi => wpOp_of_wmOp hS (fun a' w' hS' h' => wpAny_of_warmHead hL f _ a' w' hS' h') (h.2 i hi).2⟩

theorem wpAnyM_first {n i : Nat} {oi : Oper} {v : Value} {L : Array Bool → Act → Prop} (hi : ops[i]? = some oi) (hsel : ∀ (j : Nat) (o : Oper) cs b, ops[j]? = some o → o.op ≠ .select cs b)
    (htw : ∀ (listed : Array Bool), HeadInv md ops n listed → ∀ i, i < n → listed.getD i true = false → ∀ t, n ≤ t → t ∉ Region.ready md ops listed) (hin : i < n)
    (hdone : ∀ listed a, L listed a → ∀ j ∈ Region.ready md ops listed, n ≤ j) :
    ∀ (f : Nat) (listed : Array Bool) (a : Act), HeadInv md ops n listed →
      (∀ j oj, ops[j]? = some oj → j ≠ i → listed.getD j true = false → (∀ e ∈ oj.after, Region.binds md e = true → e.on ≠ i) → oi.apart ops oj = true) →
      i ∈ Region.ready md ops listed → YieldsIn P ops S oi v a →
      wpAnyM P md ops S n L f (listed.setIfInBounds i true) (a.put oi.dst v) → wpAnyM P md ops S n L (f + 1) listed a := by
  intro f
  induction f with
  | zero =>
    intro listed a inv _ hr hy H
    have hun := (mem_ready.1 hr).1
    refine ⟨fun h => (by rw [h] at hr; cases hr), fun j hj => ?_⟩
    have hjn : j < n := by
      rcases Nat.lt_or_ge j n with h | h
      · exact h
      · exact absurd hj (htw _ inv i hin hun j h)
    refine ⟨hjn, ?_⟩
    by_cases hji : j = i
    · subst hji; exact hy.wmOp hi H
    · have := hdone _ _ H j (ready_mono hj hji)
      omega
  | succ f ih =>
    intro listed a inv hfree hr hy H
    have hun := (mem_ready.1 hr).1
    refine ⟨fun h => (by rw [h] at hr; cases hr), fun j hj => ?_⟩
    have hjn : j < n := by
      rcases Nat.lt_or_ge j n with h | h
      · exact h
      · exact absurd hj (htw _ inv i hin hun j h)
    refine ⟨hjn, ?_⟩
    by_cases hji : j = i
    · subst hji; exact hy.wmOp hi H
    · have h1 := (H.2 j (ready_mono hj hji)).2
      obtain ⟨hjun, oj, hoj, hall⟩ := mem_ready.1 hj
      have hnot : ∀ e ∈ oj.after, Region.binds md e = true → e.on ≠ i := fun e he hb heq => by
        have h1 := hall e he hb
        rw [heq, getD_both hun] at h1
        cases h1
      have h2 := wmOp_put hoj (hfree j oj hoj hji hjun hnot) (fun cs b => hsel i oi cs b hi) (fun cs b => hsel j oj cs b hoj) hy h1
      have hfree' : ∀ k ok, ops[k]? = some ok → k ≠ i → (listed.setIfInBounds j true).getD k true = false →
          (∀ e ∈ ok.after, Region.binds md e = true → e.on ≠ i) → oi.apart ops ok = true := fun k ok hk hki hun hno => by
        refine hfree k ok hk hki ?_ hno
        by_cases hjk : j = k
        · subst hjk; exact hjun
        · rw [getD_set_ne true hjk] at hun; exact hun
      refine wmOp_mono (fun a' h3 => ih (listed.setIfInBounds j true) a' (inv.set hj hjn) hfree' (ready_mono hr (Ne.symm hji)) h3.1 ?_) h2
      rw [Array.setIfInBounds_comm _ _ hji]
      exact h3.2

theorem wpAnyM_lex {n g : Nat} {Lq : Act → Prop} (hsel : Region.noSelect ops = true)
    (htw : ∀ (listed : Array Bool), HeadInv md ops n listed → ∀ i, i < n → listed.getD i true = false → ∀ t, n ≤ t → t ∉ Region.ready md ops listed) :
    ∀ (l : List Oper) (k : Nat) (listed : Array Bool) (a : Act), (∀ j, j < l.length → l[j]? = ops[k + j]?) → k + l.length = n → HeadInv md ops n listed →
    Region.lexHead md ops g l.length k listed = true → wpWarm P ops S Lq l a →
    wpAnyM P md ops S n (fun listed' a' => Region.seqB md ops g n listed' = true ∧ Lq a') l.length listed a
  | [], k, listed, a, _, hk, _, hB, h => by
    have : k = n := by simpa using hk
    subst this
    exact ⟨by simpa [Region.lexHead] using hB, h⟩
  | o :: l, k, listed, a, hl, hk, inv, hB, h => by
    have h0 : ops[k]? = some o := by simpa using (hl 0 (by simp)).symm
    simp only [List.length_cons, Region.lexHead, Bool.and_eq_true] at hB
    obtain ⟨⟨hr, hf⟩, hB'⟩ := hB
    have hkn : k < n := by simp only [List.length_cons] at hk; omega
    have hr' : k ∈ Region.ready md ops listed := by simpa using hr
    obtain ⟨v, hy, hK⟩ := h
    exact wpAnyM_first h0 (Region.noSelect_spec hsel) htw hkn (fun listed' a' hL => seqB_ready hL.1) l.length listed a inv (Region.free_spec h0 hf) hr' hy
      (wpAnyM_lex hsel htw l (k + 1) _ _ (fun j hj => by have := hl (j + 1) (by simp; omega); simpa [Nat.add_assoc, Nat.add_comm 1 j] using this) (by simp only [List.length_cons] at hk; omega) (inv.set hr' hkn) hB' hK)

/-- A region whose head is warm, and whose tail runs in the order of the text. -/
theorem wp_region_warm_tail {id : Nat} {Q : Exit → Act → World → Prop} {a : Act} {w : World} {l : List Oper} (S : World → Prop) (n : Nat) (hm : P.follows .mixedOrders = true) (hB : Region.lexTailB .any l.toArray n = true)
    (hS : S w.drew) (h : wpWarm P l.toArray S (fun a' => ∀ w', S w' → wpList P l.toArray Q (l.drop n) a' w') (l.take n) a) : (Code.region id l.toArray true).wp P Q a w := by
  simp only [Region.lexTailB, Bool.and_eq_true, decide_eq_true_eq] at hB
  obtain ⟨⟨⟨⟨hsel, hn⟩, hs⟩, hc⟩, hlex⟩ := hB
  have hn' : n < l.length := by simpa using hn
  have htl : (l.take n).length = n := by simp; omega
  have hdl : (l.drop n).length = l.toArray.size - n := by simp
  have inv0 : HeadInv .any l.toArray n (Array.replicate l.toArray.size false) :=
    ⟨by simp, fun j oj _ hl => (by rw [getD_replicate_false] at hl; cases hl), fun t _ ht => getD_in (by simpa using ht) (getD_replicate_false _ _)⟩
  have H := wpAnyM_lex (md := .any) (g := l.toArray.size - n) hsel (fun listed inv i hin hun t ht => tail_waits hs hc hn inv _ i rfl hin hun t ht) (l.take n) 0 _ a (fun j hj => by
    have hj' : j < n := by rw [htl] at hj; exact hj
    simp [hj']) (by simpa using htl) inv0 (by rw [htl]; exact hlex) h
  refine wp_region_any hm ?_
  have := wpAny_of_warmHead (Q' := Q) (g := l.toArray.size - n) (fun listed a' w' hS' hL => by
    have := wpAny_of_seq (md := .any) (Q' := Q) (l.drop n) n listed a' w' (fun j => by simp [List.getElem?_drop]) (by rw [hdl]; exact hL.1) (hL.2 _ hS')
    rwa [hdl] at this) _ _ _ _ hS H
  rw [htl, show n + (l.toArray.size - n) = l.toArray.size by omega] at this
  exact this

/-- A region that is warm to its end. -/
theorem wp_region_warm {id : Nat} {Q : Exit → Act → World → Prop} {a : Act} {w : World} {l : List Oper} (S : World → Prop) (hm : P.follows .mixedOrders = true) (hB : Region.lexB .any l.toArray = true)
    (hS : S w.drew) (h : wpWarm P l.toArray S (fun a' => ∀ w', S w' → Q .normal a' w') l a) : (Code.region id l.toArray true).wp P Q a w := by
  simp only [Region.lexB, Bool.and_eq_true] at hB
  have lexH : ∀ (f k : Nat) (listed : Array Bool), Region.lexFrom .any l.toArray f k listed = true → Region.lexHead .any l.toArray 0 f k listed = true := by
    intro f
    induction f with
    | zero => intro k listed h; simpa [Region.lexHead, Region.lexFrom, Region.seqB] using h
    | succ f ih =>
      intro k listed h
      simp only [Region.lexFrom, Bool.and_eq_true] at h
      simp only [Region.lexHead, Bool.and_eq_true]
      exact ⟨h.1, ih _ _ h.2⟩
  have inv0 : HeadInv .any l.toArray l.length (Array.replicate l.toArray.size false) :=
    ⟨by simp, fun j oj _ hl => (by rw [getD_replicate_false] at hl; cases hl), fun t ht ht' => by simp at ht'; omega⟩
  have H := wpAnyM_lex (md := .any) (n := l.length) (g := 0) (Lq := fun a' => ∀ w', S w' → Q .normal a' w') hB.1
    (fun listed inv i hin hun t ht hr => by
      obtain ⟨_, o, ho, _⟩ := mem_ready.1 hr
      have := (Array.getElem?_eq_some_iff.1 ho).1
      simp at this
      omega) l 0 _ a (fun j _ => by simp) (by simp) inv0 (lexH _ _ _ (by simpa using hB.2)) h
  refine wp_region_any hm ?_
  have := wpAny_of_warmHead (Q' := Q) (g := 0) (fun listed a' w' hS' hL => ⟨by simpa [Region.seqB] using hL.1, hL.2 _ hS'⟩) _ _ _ _ hS H
  simpa using this

theorem bcell {W w1 : World} {B : Nat} (hb : Below B W w1) : (∀ b o, b < B → w1.cell? ⟨b, o, none⟩ = W.cell? ⟨b, o, none⟩) ∧ (∀ b o, b < B → w1.frozen? ⟨b, o, none⟩ = W.frozen? ⟨b, o, none⟩) :=
  ⟨fun b o h => hb.cell (p := ⟨b, o, none⟩) h, fun b o h => hb.frozen (p := ⟨b, o, none⟩) h⟩
/-- A region that does not draw its order, walked under S. -/
theorem wpList_of_warm {Q : Exit → Act → World → Prop} : ∀ (l : List Oper) (a : Act) (w : World) (rest : List Oper), S w → wpWarm P ops S (fun a' => ∀ w', S w' → wpList P ops Q rest a' w') l a → wpList P ops Q (l ++ rest) a w
  | [], a, w, rest, hS, h => h w hS
  | o :: l, a, w, rest, hS, ⟨v, hy, hk⟩ => by
    have ih := fun w' hS' => wpList_of_warm (Q := Q) l (a.put o.dst v) w' rest hS' hk
    rw [List.cons_append]
    unfold wpList
    rcases hy with ⟨hw, hg⟩ | ⟨hw, rfl⟩
    · rw [if_pos hw]
      refine .inl ?_
      have hg := hg w hS
      unfold Oper.wp
      generalize (execOp a.eval o).run P w = r at *
      cases r with
      | ok nx w' =>
        cases nx <;> simp only [givesUpon, Oper.upon] at hg ⊢
        case value u => obtain ⟨rfl, h2⟩ := hg; exact ih _ h2
        case skip => obtain ⟨rfl, h2⟩ := hg; exact ih _ h2
        case enter f args => exact hg.mono fun e w'' ⟨he, hw⟩ => by subst he; exact ih _ hw
      | halt x w' => simp only [givesUpon] at hg
    · rw [if_neg (by simp [hw])]
      exact ih _ hS
theorem wp_region_warm_seq {id : Nat} {Q : Exit → Act → World → Prop} {a : Act} {w : World} {l : List Oper} (S : World → Prop) (n : Nat)
    (hS : S w) (h : wpWarm P l.toArray S (fun a' => ∀ w', S w' → wpList P l.toArray Q (l.drop n) a' w') (l.take n) a) : (Code.region id l.toArray false).wp P Q a w := by
  refine wp_region_lit ?_
  have := wpList_of_warm (ops := l.toArray) (Q := Q) (l.take n) a w (l.drop n) hS h
  rwa [List.take_append_drop] at this

/-- The world W' is W below block number N, and has at least N blocks. -/
def Own (N : Nat) (W W' : World) : Prop := N ≤ W'.heap.size ∧ Below N W W'
theorem Own.refl {N : Nat} {W : World} (h : N ≤ W.heap.size) : Own N W W := ⟨h, Below.refl _ _⟩
theorem Own.drew {N : Nat} {W W' : World} (h : Own N W W') : Own N W W'.drew := ⟨h.1, h.2.drew⟩
theorem Own.call {N : Nat} {W W1 W2 : World} (h : Own N W W1) (hb : Below W1.heap.size W1 W2) : Own N W W2 := ⟨Nat.le_trans h.1 hb.size, h.2.trans (hb.mono h.1)⟩
theorem Own.first {N : Nat} {W W1 : World} (h : N ≤ W.heap.size) (hb : Below W.heap.size W W1) : Own N W W1 := (Own.refl h).call hb
theorem Own.trans {N : Nat} {W W1 W2 : World} (h : Own N W W1) (h' : Own N W1 W2) : Own N W W2 := ⟨h'.1, h.2.trans h'.2⟩
theorem Own.setCell {N : Nat} {W W1 : World} (h : Own N W W1) {p : Addr} (hp : N ≤ p.block) (u : Value) : Own N W (W1.setCell p u) := ⟨by simpa [World.setCell] using h.1, h.2.setCell hp u⟩
theorem Own.alloc {N : Nat} {W W1 : World} (h : Own N W W1) (o : Obj) : Own N W (W1.alloc o) := ⟨Nat.le_trans h.1 (by simp), h.2.alloc h.1 o⟩
theorem Own.cells {N : Nat} {W W1 : World} (h : Own N W W1) : (∀ b o, b < N → W1.cell? ⟨b, o, none⟩ = W.cell? ⟨b, o, none⟩) ∧ (∀ b o, b < N → W1.frozen? ⟨b, o, none⟩ = W.frozen? ⟨b, o, none⟩) := bcell h.2
theorem Own.below {N B : Nat} {w W W1 : World} (h : Own N W W1) (hb : Below B w W) (hB : B ≤ N) : Below B w W1 := hb.trans (h.2.mono hB)

theorem pin_wp {P : Program} {c : Code} {Q : Exit → Act → World → Prop} {a : Act} {X : World} {N : Nat} (hN : N ≤ X.heap.size) (h : ∀ w1 : World, Below N X w1 → N ≤ w1.heap.size → c.wp P Q a w1) : c.wp P Q a X := h X (Below.refl _ _) hN
theorem cell_in {G : Prop} {w : World} {p : Addr} (v : Value) (h : w.cell? p = some v) (k : w.cell? p = some v → G) : G := k h
end
attribute [go_sem] givesUpon_value givesUpon_skip givesUpon_enter
set_option linter.unusedVariables false
/- Cells of own blocks carried over a call; short names for the laws of Below. -/
theorem cel1 {G : Prop} {N b : Nat} {W w : World} {v0 : Value} (hb : Below N W w) (h1 : b < N) (h2 : b < w.heap.size) (c0 : W.cell? ⟨b, 0, none⟩ = some v0) (hf : ∀ o, W.frozen? ⟨b, o, none⟩ = false) (k : w.cell? ⟨b, 0, none⟩ = some v0 → (∀ o, w.frozen? ⟨b, o, none⟩ = false) → (b < w.heap.size ∧ b < w.heap.size + 1 ∧ b < w.heap.size + 1 + 1 ∧ b < w.heap.size + 1 + 1 + 1) → G) : G :=
  k (by rw [hb.cell (p := ⟨b, 0, none⟩) h1]; exact c0) (fun o => by rw [hb.frozen (p := ⟨b, o, none⟩) h1]; exact hf o) ⟨h2, by omega, by omega, by omega⟩
theorem cel2 {G : Prop} {N b : Nat} {W w : World} {v0 v1 : Value} (hb : Below N W w) (h1 : b < N) (h2 : b < w.heap.size) (c0 : W.cell? ⟨b, 0, none⟩ = some v0) (c1 : W.cell? ⟨b, 1, none⟩ = some v1) (hf : ∀ o, W.frozen? ⟨b, o, none⟩ = false) (k : w.cell? ⟨b, 0, none⟩ = some v0 → w.cell? ⟨b, 1, none⟩ = some v1 → (∀ o, w.frozen? ⟨b, o, none⟩ = false) → (b < w.heap.size ∧ b < w.heap.size + 1 ∧ b < w.heap.size + 1 + 1 ∧ b < w.heap.size + 1 + 1 + 1) → G) : G :=
  k (by rw [hb.cell (p := ⟨b, 0, none⟩) h1]; exact c0) (by rw [hb.cell (p := ⟨b, 1, none⟩) h1]; exact c1) (fun o => by rw [hb.frozen (p := ⟨b, o, none⟩) h1]; exact hf o) ⟨h2, by omega, by omega, by omega⟩
theorem cel3 {G : Prop} {N b : Nat} {W w : World} {v0 v1 v2 : Value} (hb : Below N W w) (h1 : b < N) (h2 : b < w.heap.size) (c0 : W.cell? ⟨b, 0, none⟩ = some v0) (c1 : W.cell? ⟨b, 1, none⟩ = some v1) (c2 : W.cell? ⟨b, 2, none⟩ = some v2) (hf : ∀ o, W.frozen? ⟨b, o, none⟩ = false) (k : w.cell? ⟨b, 0, none⟩ = some v0 → w.cell? ⟨b, 1, none⟩ = some v1 → w.cell? ⟨b, 2, none⟩ = some v2 → (∀ o, w.frozen? ⟨b, o, none⟩ = false) → (b < w.heap.size ∧ b < w.heap.size + 1 ∧ b < w.heap.size + 1 + 1 ∧ b < w.heap.size + 1 + 1 + 1) → G) : G :=
  k (by rw [hb.cell (p := ⟨b, 0, none⟩) h1]; exact c0) (by rw [hb.cell (p := ⟨b, 1, none⟩) h1]; exact c1) (by rw [hb.cell (p := ⟨b, 2, none⟩) h1]; exact c2) (fun o => by rw [hb.frozen (p := ⟨b, o, none⟩) h1]; exact hf o) ⟨h2, by omega, by omega, by omega⟩
theorem cel4 {G : Prop} {N b : Nat} {W w : World} {v0 v1 v2 v3 : Value} (hb : Below N W w) (h1 : b < N) (h2 : b < w.heap.size) (c0 : W.cell? ⟨b, 0, none⟩ = some v0) (c1 : W.cell? ⟨b, 1, none⟩ = some v1) (c2 : W.cell? ⟨b, 2, none⟩ = some v2) (c3 : W.cell? ⟨b, 3, none⟩ = some v3) (hf : ∀ o, W.frozen? ⟨b, o, none⟩ = false) (k : w.cell? ⟨b, 0, none⟩ = some v0 → w.cell? ⟨b, 1, none⟩ = some v1 → w.cell? ⟨b, 2, none⟩ = some v2 → w.cell? ⟨b, 3, none⟩ = some v3 → (∀ o, w.frozen? ⟨b, o, none⟩ = false) → (b < w.heap.size ∧ b < w.heap.size + 1 ∧ b < w.heap.size + 1 + 1 ∧ b < w.heap.size + 1 + 1 + 1) → G) : G :=
  k (by rw [hb.cell (p := ⟨b, 0, none⟩) h1]; exact c0) (by rw [hb.cell (p := ⟨b, 1, none⟩) h1]; exact c1) (by rw [hb.cell (p := ⟨b, 2, none⟩) h1]; exact c2) (by rw [hb.cell (p := ⟨b, 3, none⟩) h1]; exact c3) (fun o => by rw [hb.frozen (p := ⟨b, o, none⟩) h1]; exact hf o) ⟨h2, by omega, by omega, by omega⟩
theorem cel5 {G : Prop} {N b : Nat} {W w : World} {v0 v1 v2 v3 v4 : Value} (hb : Below N W w) (h1 : b < N) (h2 : b < w.heap.size) (c0 : W.cell? ⟨b, 0, none⟩ = some v0) (c1 : W.cell? ⟨b, 1, none⟩ = some v1) (c2 : W.cell? ⟨b, 2, none⟩ = some v2) (c3 : W.cell? ⟨b, 3, none⟩ = some v3) (c4 : W.cell? ⟨b, 4, none⟩ = some v4) (hf : ∀ o, W.frozen? ⟨b, o, none⟩ = false) (k : w.cell? ⟨b, 0, none⟩ = some v0 → w.cell? ⟨b, 1, none⟩ = some v1 → w.cell? ⟨b, 2, none⟩ = some v2 → w.cell? ⟨b, 3, none⟩ = some v3 → w.cell? ⟨b, 4, none⟩ = some v4 → (∀ o, w.frozen? ⟨b, o, none⟩ = false) → (b < w.heap.size ∧ b < w.heap.size + 1 ∧ b < w.heap.size + 1 + 1 ∧ b < w.heap.size + 1 + 1 + 1) → G) : G :=
  k (by rw [hb.cell (p := ⟨b, 0, none⟩) h1]; exact c0) (by rw [hb.cell (p := ⟨b, 1, none⟩) h1]; exact c1) (by rw [hb.cell (p := ⟨b, 2, none⟩) h1]; exact c2) (by rw [hb.cell (p := ⟨b, 3, none⟩) h1]; exact c3) (by rw [hb.cell (p := ⟨b, 4, none⟩) h1]; exact c4) (fun o => by rw [hb.frozen (p := ⟨b, o, none⟩) h1]; exact hf o) ⟨h2, by omega, by omega, by omega⟩
theorem cel6 {G : Prop} {N b : Nat} {W w : World} {v0 v1 v2 v3 v4 v5 : Value} (hb : Below N W w) (h1 : b < N) (h2 : b < w.heap.size) (c0 : W.cell? ⟨b, 0, none⟩ = some v0) (c1 : W.cell? ⟨b, 1, none⟩ = some v1) (c2 : W.cell? ⟨b, 2, none⟩ = some v2) (c3 : W.cell? ⟨b, 3, none⟩ = some v3) (c4 : W.cell? ⟨b, 4, none⟩ = some v4) (c5 : W.cell? ⟨b, 5, none⟩ = some v5) (hf : ∀ o, W.frozen? ⟨b, o, none⟩ = false) (k : w.cell? ⟨b, 0, none⟩ = some v0 → w.cell? ⟨b, 1, none⟩ = some v1 → w.cell? ⟨b, 2, none⟩ = some v2 → w.cell? ⟨b, 3, none⟩ = some v3 → w.cell? ⟨b, 4, none⟩ = some v4 → w.cell? ⟨b, 5, none⟩ = some v5 → (∀ o, w.frozen? ⟨b, o, none⟩ = false) → (b < w.heap.size ∧ b < w.heap.size + 1 ∧ b < w.heap.size + 1 + 1 ∧ b < w.heap.size + 1 + 1 + 1) → G) : G :=
  k (by rw [hb.cell (p := ⟨b, 0, none⟩) h1]; exact c0) (by rw [hb.cell (p := ⟨b, 1, none⟩) h1]; exact c1) (by rw [hb.cell (p := ⟨b, 2, none⟩) h1]; exact c2) (by rw [hb.cell (p := ⟨b, 3, none⟩) h1]; exact c3) (by rw [hb.cell (p := ⟨b, 4, none⟩) h1]; exact c4) (by rw [hb.cell (p := ⟨b, 5, none⟩) h1]; exact c5) (fun o => by rw [hb.frozen (p := ⟨b, o, none⟩) h1]; exact hf o) ⟨h2, by omega, by omega, by omega⟩
theorem cel7 {G : Prop} {N b : Nat} {W w : World} {v0 v1 v2 v3 v4 v5 v6 : Value} (hb : Below N W w) (h1 : b < N) (h2 : b < w.heap.size) (c0 : W.cell? ⟨b, 0, none⟩ = some v0) (c1 : W.cell? ⟨b, 1, none⟩ = some v1) (c2 : W.cell? ⟨b, 2, none⟩ = some v2) (c3 : W.cell? ⟨b, 3, none⟩ = some v3) (c4 : W.cell? ⟨b, 4, none⟩ = some v4) (c5 : W.cell? ⟨b, 5, none⟩ = some v5) (c6 : W.cell? ⟨b, 6, none⟩ = some v6) (hf : ∀ o, W.frozen? ⟨b, o, none⟩ = false) (k : w.cell? ⟨b, 0, none⟩ = some v0 → w.cell? ⟨b, 1, none⟩ = some v1 → w.cell? ⟨b, 2, none⟩ = some v2 → w.cell? ⟨b, 3, none⟩ = some v3 → w.cell? ⟨b, 4, none⟩ = some v4 → w.cell? ⟨b, 5, none⟩ = some v5 → w.cell? ⟨b, 6, none⟩ = some v6 → (∀ o, w.frozen? ⟨b, o, none⟩ = false) → (b < w.heap.size ∧ b < w.heap.size + 1 ∧ b < w.heap.size + 1 + 1 ∧ b < w.heap.size + 1 + 1 + 1) → G) : G :=
  k (by rw [hb.cell (p := ⟨b, 0, none⟩) h1]; exact c0) (by rw [hb.cell (p := ⟨b, 1, none⟩) h1]; exact c1) (by rw [hb.cell (p := ⟨b, 2, none⟩) h1]; exact c2) (by rw [hb.cell (p := ⟨b, 3, none⟩) h1]; exact c3) (by rw [hb.cell (p := ⟨b, 4, none⟩) h1]; exact c4) (by rw [hb.cell (p := ⟨b, 5, none⟩) h1]; exact c5) (by rw [hb.cell (p := ⟨b, 6, none⟩) h1]; exact c6) (fun o => by rw [hb.frozen (p := ⟨b, o, none⟩) h1]; exact hf o) ⟨h2, by omega, by omega, by omega⟩
theorem cel8 {G : Prop} {N b : Nat} {W w : World} {v0 v1 v2 v3 v4 v5 v6 v7 : Value} (hb : Below N W w) (h1 : b < N) (h2 : b < w.heap.size) (c0 : W.cell? ⟨b, 0, none⟩ = some v0) (c1 : W.cell? ⟨b, 1, none⟩ = some v1) (c2 : W.cell? ⟨b, 2, none⟩ = some v2) (c3 : W.cell? ⟨b, 3, none⟩ = some v3) (c4 : W.cell? ⟨b, 4, none⟩ = some v4) (c5 : W.cell? ⟨b, 5, none⟩ = some v5) (c6 : W.cell? ⟨b, 6, none⟩ = some v6) (c7 : W.cell? ⟨b, 7, none⟩ = some v7) (hf : ∀ o, W.frozen? ⟨b, o, none⟩ = false) (k : w.cell? ⟨b, 0, none⟩ = some v0 → w.cell? ⟨b, 1, none⟩ = some v1 → w.cell? ⟨b, 2, none⟩ = some v2 → w.cell? ⟨b, 3, none⟩ = some v3 → w.cell? ⟨b, 4, none⟩ = some v4 → w.cell? ⟨b, 5, none⟩ = some v5 → w.cell? ⟨b, 6, none⟩ = some v6 → w.cell? ⟨b, 7, none⟩ = some v7 → (∀ o, w.frozen? ⟨b, o, none⟩ = false) → (b < w.heap.size ∧ b < w.heap.size + 1 ∧ b < w.heap.size + 1 + 1 ∧ b < w.heap.size + 1 + 1 + 1) → G) : G :=
  k (by rw [hb.cell (p := ⟨b, 0, none⟩) h1]; exact c0) (by rw [hb.cell (p := ⟨b, 1, none⟩) h1]; exact c1) (by rw [hb.cell (p := ⟨b, 2, none⟩) h1]; exact c2) (by rw [hb.cell (p := ⟨b, 3, none⟩) h1]; exact c3) (by rw [hb.cell (p := ⟨b, 4, none⟩) h1]; exact c4) (by rw [hb.cell (p := ⟨b, 5, none⟩) h1]; exact c5) (by rw [hb.cell (p := ⟨b, 6, none⟩) h1]; exact c6) (by rw [hb.cell (p := ⟨b, 7, none⟩) h1]; exact c7) (fun o => by rw [hb.frozen (p := ⟨b, o, none⟩) h1]; exact hf o) ⟨h2, by omega, by omega, by omega⟩
theorem bR (B : Nat) (w : World) : Below B w w := Below.refl B w
theorem bS {B : Nat} {a w : World} {p : Addr} (h : Below B a w) (hp : B ≤ p.block) (u : Value) : Below B a (w.setCell p u) := h.setCell hp u
theorem bA {B : Nat} {a w : World} (h : Below B a w) (hB : B ≤ w.heap.size) (o : Obj) : Below B a (w.alloc o) := h.alloc hB o
theorem bD {B : Nat} {a w : World} (h : Below B a w) : Below B a w.drew := h.drew
theorem bT {N M : Nat} {a b c : World} (h : Below N a b) (k : Below M b c) (hN : N ≤ M) : Below N a c := h.trans (k.mono hN)
theorem bO {N B : Nat} {w W W1 : World} (h : Own N W W1) (hb : Below B w W) (hB : B ≤ N) : Below B w W1 := h.below hb hB
end Go.Proofs.YteondblmcooklaaDoor
