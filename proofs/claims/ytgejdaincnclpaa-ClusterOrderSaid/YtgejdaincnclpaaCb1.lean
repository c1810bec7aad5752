/- Merged texts: Warm Vec DivP VecB VecC LiftA LiftW LiftP Draw SafeW SupA ClO ClP VecE RsA ClB Big BigW BigM BigO BigA BigB BigMul BigP BigT BigUp BigDn BigDv Knuth BigK (what no proof of the claim needs is left out). -/
import Derived.StillTail
import Derived.StillTactics
import Derived.Below
import Derived.Test.YtgejdaincnclpaaProg
import Derived.WalkKit
import Derived.WalkSpells
import Derived.WalkLawsBesides
import Derived.Outline
import Derived.Lib.ItoaNum
import Derived.Lib.EndianBits
import Derived.Laws.BitsAllLaws
import Derived.Laws.Rows
import Derived.Deep.RegionHeld3
import Derived.Test.YtgejdaincnclpaaShelf
import Derived.Deep.LoopGhost
import Derived.Lib.Hide
import Derived.IntWalk
import Derived.Maps.AppendAt
import Derived.Deep.AppendLies
import Derived.Deep.OwnRows
namespace Go.Proofs.Ytgejdaincnclpaa
open Go Go.RowKit
section
variable {P : Program} {ops : Array Oper} {md : Region.Mode} {S : World → Prop}
/-- The operation yields v at the world w, and S holds behind it. -/
def givesUpon (P : Program) (S : World → Prop) (v : Value) : Result Next → Prop
  | .ok (.value u) w' => u = v ∧ S w'
  | .ok .skip w' => v = undef ∧ S w'
  | .ok (.enter f args) w' => Calls P f args w' (fun e w'' => e = .returned v ∧ S w'')
  | _ => False
theorem givesUpon_value (v u : Value) (w : World) : givesUpon P S v (.ok (.value u) w) = (u = v ∧ S w) := rfl
theorem givesUpon_skip (v : Value) (w : World) : givesUpon P S v (.ok .skip w) = (v = undef ∧ S w) := rfl
theorem givesUpon_enter (v : Value) (f : FuncId) (args : Array Value) (w : World) : givesUpon P S v (.ok (.enter f args) w) = Calls P f args w (fun e w'' => e = .returned v ∧ S w'') := rfl
def gives (P : Program) (S : World → Prop) (o : Oper) (a : Act) (v : Value) : Prop := ∀ w, S w → givesUpon P S v ((execOp a.eval o).run P w)
/-- What a region's operation yields under S, in an act. -/
def YieldsIn (P : Program) (ops : Array Oper) (S : World → Prop) (o : Oper) (v : Value) (a : Act) : Prop :=
  (Region.wanted o (yielded ops a.tmps) = true ∧ gives P S o a v) ∨ (Region.wanted o (yielded ops a.tmps) = false ∧ v = undef)
theorem YieldsIn.of_same {o : Oper} {v : Value} {a a' : Act} (hy : YieldsIn P ops S o v a) (he : execOp a'.eval o = execOp a.eval o)
    (hw : Region.wanted o (yielded ops a'.tmps) = Region.wanted o (yielded ops a.tmps)) : YieldsIn P ops S o v a' := by
  unfold YieldsIn gives at *
  rw [he, hw]
  exact hy
def wmOp (P : Program) (ops : Array Oper) (S : World → Prop) (i : Nat) (K : Act → Prop) (a : Act) : Prop :=
  match ops[i]? with
  | none => K a
  | some o => ∃ v, YieldsIn P ops S o v a ∧ K (a.put o.dst v)
def wpWarm (P : Program) (ops : Array Oper) (S : World → Prop) (Q : Act → Prop) : List Oper → Act → Prop
  | [], a => Q a
  | o :: rest, a => ∃ v, YieldsIn P ops S o v a ∧ wpWarm P ops S Q rest (a.put o.dst v)
theorem wpWarm_nil {Q : Act → Prop} {a : Act} (h : Q a) : wpWarm P ops S Q [] a := h
theorem wpWarm_plain {Q : Act → Prop} {a : Act} {o : Oper} {rest : List Oper} (hg : o.guard = none) (v : Value) (h : gives P S o a v)
    (hk : wpWarm P ops S Q rest (a.put o.dst v)) : wpWarm P ops S Q (o :: rest) a := ⟨v, .inl ⟨by simp [Region.wanted, hg], h⟩, hk⟩
theorem wpWarm_wanted {Q : Act → Prop} {a : Act} {o : Oper} {rest : List Oper} (hg : Region.wanted o (yielded ops a.tmps) = true) (v : Value) (h : gives P S o a v)
    (hk : wpWarm P ops S Q rest (a.put o.dst v)) : wpWarm P ops S Q (o :: rest) a := ⟨v, .inl ⟨hg, h⟩, hk⟩
theorem wpWarm_skip {Q : Act → Prop} {a : Act} {o : Oper} {rest : List Oper} (hg : Region.wanted o (yielded ops a.tmps) = false)
    (hk : wpWarm P ops S Q rest (a.put o.dst undef)) : wpWarm P ops S Q (o :: rest) a := ⟨undef, .inr ⟨hg, rfl⟩, hk⟩
theorem wpWarm_step {Q : Act → Prop} {a : Act} {o : Oper} {rest : List Oper} (hg : o.guard = none) (v : Value) (h : gives P S o a v)
    (hk : ∀ K : Act → Prop, (∀ a, wpWarm P ops S Q rest a → K a) → K (a.put o.dst v)) : wpWarm P ops S Q (o :: rest) a := wpWarm_plain hg v h (hk _ fun _ h => h)
theorem wpWarm_step_on {Q : Act → Prop} {a : Act} {o : Oper} {rest : List Oper} (hg : Region.wanted o (yielded ops a.tmps) = true) (v : Value) (h : gives P S o a v)
    (hk : ∀ K : Act → Prop, (∀ a, wpWarm P ops S Q rest a → K a) → K (a.put o.dst v)) : wpWarm P ops S Q (o :: rest) a := wpWarm_wanted hg v h (hk _ fun _ h => h)
theorem wpWarm_step_off {Q : Act → Prop} {a : Act} {o : Oper} {rest : List Oper} (hg : Region.wanted o (yielded ops a.tmps) = false)
    (hk : ∀ K : Act → Prop, (∀ a, wpWarm P ops S Q rest a → K a) → K (a.put o.dst undef)) : wpWarm P ops S Q (o :: rest) a := wpWarm_skip hg (hk _ fun _ h => h)
theorem wmOp_mono {i : Nat} {a : Act} {K K' : Act → Prop} (h : ∀ a, K a → K' a) (hh : wmOp P ops S i K a) : wmOp P ops S i K' a := by
  unfold wmOp at *
  split
  · exact h _ (by simpa [*] using hh)
  · rename_i o ho
    simp only [ho] at hh
    obtain ⟨v, hy, hk⟩ := hh
    exact ⟨v, hy, h _ hk⟩
theorem YieldsIn.wmOp {i : Nat} {o : Oper} {v : Value} {a : Act} (hi : ops[i]? = some o) (hy : YieldsIn P ops S o v a) {K : Act → Prop} (h : K (a.put o.dst v)) : wmOp P ops S i K a := by
  unfold Proofs.Ytgejdaincnclpaa.wmOp
  simp only [hi]
  exact ⟨v, hy, h⟩
theorem wmOp_put {j : Nat} {oi oj : Oper} {v : Value} (hj : ops[j]? = some oj) (hap : oi.apart ops oj = true)
    (hsi : ∀ cs b, oi.op ≠ .select cs b) (hsj : ∀ cs b, oj.op ≠ .select cs b) {K : Act → Prop} {a : Act}
    (hy : YieldsIn P ops S oi v a) (h : wmOp P ops S j K (a.put oi.dst v)) :
    wmOp P ops S j (fun a' => YieldsIn P ops S oi v a' ∧ K (a'.put oi.dst v)) a := by
  obtain ⟨h1, h2, h3⟩ := Oper.apart_spec hap
  have keep : ∀ (a : Act), YieldsIn P ops S oi v a → ∀ u, YieldsIn P ops S oi v (a.put oj.dst u) := fun a hy u =>
    hy.of_same (execOp_put oi hsi a oj.dst u h3) (wanted_put oi a oj.dst u h3)
  unfold wmOp at *
  simp only [hj] at *
  obtain ⟨u, hu, hk⟩ := h
  refine ⟨u, hu.of_same (execOp_put oj hsj a oi.dst v h1).symm (wanted_put oj a oi.dst v h1).symm, keep a hy u, ?_⟩
  rw [← Act.put_comm a v u h2]
  exact hk
/-- 'i' stands for the head's length: head operations alone come up till all of them are done. -/
def wpAnyM (P : Program) (md : Region.Mode) (ops : Array Oper) (S : World → Prop) (n : Nat) (L : Array Bool → Act → Prop) : Nat → Array Bool → Act → Prop
  | 0, listed, a => L listed a
  | f + 1, listed, a =>
    Region.ready md ops listed ≠ [] ∧ ∀ i ∈ Region.ready md ops listed, i < n ∧ wmOp P ops S i (wpAnyM P md ops S n L f (listed.setIfInBounds i true)) a
theorem wpOp_of_wmOp {i : Nat} {a : Act} {w : World} {K : Act → Prop} {K' : Act → World → Prop} {Q' : Exit → Act → World → Prop} (hS : S w) (h : ∀ a w, S w → K a → K' a w) (hh : wmOp P ops S i K a) : wpOp P ops Q' i K' a w := by
  unfold wmOp at hh
  unfold wpOp
  split
  · rename_i ho; simp only [ho] at hh; exact h _ _ hS hh
  · rename_i o ho
    simp only [ho] at hh
    obtain ⟨v, hy, hk⟩ := hh
    rcases hy with ⟨hw, hg⟩ | ⟨hw, rfl⟩
    · simp only [hw, if_true]
      refine .inl ?_
      have hg := hg w hS
      unfold Oper.wp
      generalize (execOp a.eval o).run P w = r at *
      cases r with
      | ok nx w' =>
        cases nx <;> simp only [givesUpon, Oper.upon] at hg ⊢
        case value u => obtain ⟨rfl, h2⟩ := hg; exact h _ _ h2 hk
        case skip => obtain ⟨rfl, h2⟩ := hg; exact h _ _ h2 hk
        case enter f args => exact hg.mono fun e w'' ⟨he, hw⟩ => by subst he; exact h _ _ hw hk
      | halt x w' => simp only [givesUpon] at hg
    · simp only [hw, Bool.false_eq_true, if_false]
      exact h _ _ hS hk
theorem wpAny_of_warmHead {n g : Nat} {L : Array Bool → Act → Prop} {Q' : Exit → Act → World → Prop} (hL : ∀ listed a w, S w → L listed a → wpAny P md ops Q' g listed a w) :
    ∀ (f : Nat) (listed : Array Bool) (a : Act) (w : World), S w → wpAnyM P md ops S n L f listed a → wpAny P md ops Q' (f + g) listed a w
  | 0, listed, a, w, hS, h => by rw [Nat.zero_add]; exact hL _ _ _ hS h
  | f + 1, listed, a, w, hS, h => by
    rw [show f + 1 + g = (f + g) + 1 by omega]
    exact ⟨fun h0 => absurd h0 h.1, fun i hi => wpOp_of_wmOp hS (fun a' w' hS' h' => wpAny_of_warmHead hL f _ a' w' hS' h') (h.2 i hi).2⟩
theorem wpAnyM_first {n i : Nat} {oi : Oper} {v : Value} {L : Array Bool → Act → Prop} (hi : ops[i]? = some oi) (hsel : ∀ (j : Nat) (o : Oper) cs b, ops[j]? = some o → o.op ≠ .select cs b)
    (htw : ∀ (listed : Array Bool), HeadInv md ops n listed → ∀ i, i < n → listed.getD i true = false → ∀ t, n ≤ t → t ∉ Region.ready md ops listed) (hin : i < n)
    (hdone : ∀ listed a, L listed a → ∀ j ∈ Region.ready md ops listed, n ≤ j) :
    ∀ (f : Nat) (listed : Array Bool) (a : Act), HeadInv md ops n listed →
      (∀ j oj, ops[j]? = some oj → j ≠ i → listed.getD j true = false → (∀ e ∈ oj.after, Region.binds md e = true → e.on ≠ i) → oi.apart ops oj = true) →
      i ∈ Region.ready md ops listed → YieldsIn P ops S oi v a →
      wpAnyM P md ops S n L f (listed.setIfInBounds i true) (a.put oi.dst v) → wpAnyM P md ops S n L (f + 1) listed a := by
  intro f
  induction f with
  | zero =>
    intro listed a inv _ hr hy H
    have hun := (mem_ready.1 hr).1
    refine ⟨fun h => (by rw [h] at hr; cases hr), fun j hj => ?_⟩
    have hjn : j < n := by
      rcases Nat.lt_or_ge j n with h | h
      · exact h
      · exact absurd hj (htw _ inv i hin hun j h)
    refine ⟨hjn, ?_⟩
    by_cases hji : j = i
    · subst hji; exact hy.wmOp hi H
    · have := hdone _ _ H j (ready_mono hj hji)
      omega
  | succ f ih =>
    intro listed a inv hfree hr hy H
    have hun := (mem_ready.1 hr).1
    refine ⟨fun h => (by rw [h] at hr; cases hr), fun j hj => ?_⟩
    have hjn : j < n := by
      rcases Nat.lt_or_ge j n with h | h
      · exact h
      · exact absurd hj (htw _ inv i hin hun j h)
    refine ⟨hjn, ?_⟩
    by_cases hji : j = i
    · subst hji; exact hy.wmOp hi H
    · have h1 := (H.2 j (ready_mono hj hji)).2
      obtain ⟨hjun, oj, hoj, hall⟩ := mem_ready.1 hj
      have hnot : ∀ e ∈ oj.after, Region.binds md e = true → e.on ≠ i := fun e he hb heq => by
        have h1 := hall e he hb
        rw [heq, getD_both hun] at h1
        cases h1
      have h2 := wmOp_put hoj (hfree j oj hoj hji hjun hnot) (fun cs b => hsel i oi cs b hi) (fun cs b => hsel j oj cs b hoj) hy h1
      have hfree' : ∀ k ok, ops[k]? = some ok → k ≠ i → (listed.setIfInBounds j true).getD k true = false →
          (∀ e ∈ ok.after, Region.binds md e = true → e.on ≠ i) → oi.apart ops ok = true := fun k ok hk hki hun hno => by
        refine hfree k ok hk hki ?_ hno
        by_cases hjk : j = k
        · subst hjk; exact hjun
        · rw [getD_set_ne true hjk] at hun; exact hun
      refine wmOp_mono (fun a' h3 => ih (listed.setIfInBounds j true) a' (inv.set hj hjn) hfree' (ready_mono hr (Ne.symm hji)) h3.1 ?_) h2
      rw [Array.setIfInBounds_comm _ _ hji]
      exact h3.2
theorem wpAnyM_lex {n g : Nat} {Lq : Act → Prop} (hsel : Region.noSelect ops = true)
    (htw : ∀ (listed : Array Bool), HeadInv md ops n listed → ∀ i, i < n → listed.getD i true = false → ∀ t, n ≤ t → t ∉ Region.ready md ops listed) :
    ∀ (l : List Oper) (k : Nat) (listed : Array Bool) (a : Act), (∀ j, j < l.length → l[j]? = ops[k + j]?) → k + l.length = n → HeadInv md ops n listed →
    Region.lexHead md ops g l.length k listed = true → wpWarm P ops S Lq l a →
    wpAnyM P md ops S n (fun listed' a' => Region.seqB md ops g n listed' = true ∧ Lq a') l.length listed a
  | [], k, listed, a, _, hk, _, hB, h => by
    have : k = n := by simpa using hk
    subst this
    exact ⟨by simpa [Region.lexHead] using hB, h⟩
  | o :: l, k, listed, a, hl, hk, inv, hB, h => by
    have h0 : ops[k]? = some o := by simpa using (hl 0 (by simp)).symm
    simp only [List.length_cons, Region.lexHead, Bool.and_eq_true] at hB
    obtain ⟨⟨hr, hf⟩, hB'⟩ := hB
    have hkn : k < n := by simp only [List.length_cons] at hk; omega
    have hr' : k ∈ Region.ready md ops listed := by simpa using hr
    obtain ⟨v, hy, hK⟩ := h
    exact wpAnyM_first h0 (Region.noSelect_spec hsel) htw hkn (fun listed' a' hL => seqB_ready hL.1) l.length listed a inv (Region.free_spec h0 hf) hr' hy
      (wpAnyM_lex hsel htw l (k + 1) _ _ (fun j hj => by have := hl (j + 1) (by simp; omega); simpa [Nat.add_assoc, Nat.add_comm 1 j] using this) (by simp only [List.length_cons] at hk; omega) (inv.set hr' hkn) hB' hK)
/-- A region whose head is warm, and whose tail runs in the order of the text. -/
theorem wp_region_warm_tail {id : Nat} {Q : Exit → Act → World → Prop} {a : Act} {w : World} {l : List Oper} (S : World → Prop) (n : Nat) (hm : P.follows .mixedOrders = true) (hB : Region.lexTailB .any l.toArray n = true)
    (hS : S w.drew) (h : wpWarm P l.toArray S (fun a' => ∀ w', S w' → wpList P l.toArray Q (l.drop n) a' w') (l.take n) a) : (Code.region id l.toArray true).wp P Q a w := by
  simp only [Region.lexTailB, Bool.and_eq_true, decide_eq_true_eq] at hB
  obtain ⟨⟨⟨⟨hsel, hn⟩, hs⟩, hc⟩, hlex⟩ := hB
  have hn' : n < l.length := by simpa using hn
  have htl : (l.take n).length = n := by simp; omega
  have hdl : (l.drop n).length = l.toArray.size - n := by simp
  have inv0 : HeadInv .any l.toArray n (Array.replicate l.toArray.size false) :=
    ⟨by simp, fun j oj _ hl => (by rw [getD_replicate_false] at hl; cases hl), fun t _ ht => getD_in (by simpa using ht) (getD_replicate_false _ _)⟩
  have H := wpAnyM_lex (md := .any) (g := l.toArray.size - n) hsel (fun listed inv i hin hun t ht => tail_waits hs hc hn inv _ i rfl hin hun t ht) (l.take n) 0 _ a (fun j hj => by
    have hj' : j < n := by rw [htl] at hj; exact hj
    simp [hj']) (by simpa using htl) inv0 (by rw [htl]; exact hlex) h
  refine wp_region_any hm ?_
  have := wpAny_of_warmHead (Q' := Q) (g := l.toArray.size - n) (fun listed a' w' hS' hL => by
    have := wpAny_of_seq (md := .any) (Q' := Q) (l.drop n) n listed a' w' (fun j => by simp [List.getElem?_drop]) (by rw [hdl]; exact hL.1) (hL.2 _ hS')
    rwa [hdl] at this) _ _ _ _ hS H
  rw [htl, show n + (l.toArray.size - n) = l.toArray.size by omega] at this
  exact this
/-- A region that is warm to its end. -/
theorem wp_region_warm {id : Nat} {Q : Exit → Act → World → Prop} {a : Act} {w : World} {l : List Oper} (S : World → Prop) (hm : P.follows .mixedOrders = true) (hB : Region.lexB .any l.toArray = true)
    (hS : S w.drew) (h : wpWarm P l.toArray S (fun a' => ∀ w', S w' → Q .normal a' w') l a) : (Code.region id l.toArray true).wp P Q a w := by
  simp only [Region.lexB, Bool.and_eq_true] at hB
  have lexH : ∀ (f k : Nat) (listed : Array Bool), Region.lexFrom .any l.toArray f k listed = true → Region.lexHead .any l.toArray 0 f k listed = true := by
    intro f
    induction f with
    | zero => intro k listed h; simpa [Region.lexHead, Region.lexFrom, Region.seqB] using h
    | succ f ih =>
      intro k listed h
      simp only [Region.lexFrom, Bool.and_eq_true] at h
      simp only [Region.lexHead, Bool.and_eq_true]
      exact ⟨h.1, ih _ _ h.2⟩
  have inv0 : HeadInv .any l.toArray l.length (Array.replicate l.toArray.size false) :=
    ⟨by simp, fun j oj _ hl => (by rw [getD_replicate_false] at hl; cases hl), fun t ht ht' => by simp at ht'; omega⟩
  have H := wpAnyM_lex (md := .any) (n := l.length) (g := 0) (Lq := fun a' => ∀ w', S w' → Q .normal a' w') hB.1
    (fun listed inv i hin hun t ht hr => by
      obtain ⟨_, o, ho, _⟩ := mem_ready.1 hr
      have := (Array.getElem?_eq_some_iff.1 ho).1
      simp at this
      omega) l 0 _ a (fun j _ => by simp) (by simp) inv0 (lexH _ _ _ (by simpa using hB.2)) h
  refine wp_region_any hm ?_
  have := wpAny_of_warmHead (Q' := Q) (g := 0) (fun listed a' w' hS' hL => ⟨by simpa [Region.seqB] using hL.1, hL.2 _ hS'⟩) _ _ _ _ hS H
  simpa using this
theorem bcell {W w1 : World} {B : Nat} (hb : Below B W w1) : (∀ b o, b < B → w1.cell? ⟨b, o, none⟩ = W.cell? ⟨b, o, none⟩) ∧ (∀ b o, b < B → w1.frozen? ⟨b, o, none⟩ = W.frozen? ⟨b, o, none⟩) :=
  ⟨fun b o h => hb.cell (p := ⟨b, o, none⟩) h, fun b o h => hb.frozen (p := ⟨b, o, none⟩) h⟩
/-- The world W' is W below block number N, and has at least N blocks. -/
def Own (N : Nat) (W W' : World) : Prop := N ≤ W'.heap.size ∧ Below N W W'
theorem Own.refl {N : Nat} {W : World} (h : N ≤ W.heap.size) : Own N W W := ⟨h, Below.refl _ _⟩
theorem Own.drew {N : Nat} {W W' : World} (h : Own N W W') : Own N W W'.drew := ⟨h.1, h.2.drew⟩
theorem Own.call {N : Nat} {W W1 W2 : World} (h : Own N W W1) (hb : Below W1.heap.size W1 W2) : Own N W W2 := ⟨Nat.le_trans h.1 hb.size, h.2.trans (hb.mono h.1)⟩
theorem Own.first {N : Nat} {W W1 : World} (h : N ≤ W.heap.size) (hb : Below W.heap.size W W1) : Own N W W1 := (Own.refl h).call hb
theorem Own.trans {N : Nat} {W W1 W2 : World} (h : Own N W W1) (h' : Own N W1 W2) : Own N W W2 := ⟨h'.1, h.2.trans h'.2⟩
theorem Own.setCell {N : Nat} {W W1 : World} (h : Own N W W1) {p : Addr} (hp : N ≤ p.block) (u : Value) : Own N W (W1.setCell p u) := ⟨by simpa [World.setCell] using h.1, h.2.setCell hp u⟩
theorem Own.alloc {N : Nat} {W W1 : World} (h : Own N W W1) (o : Obj) : Own N W (W1.alloc o) := ⟨Nat.le_trans h.1 (by simp), h.2.alloc h.1 o⟩
theorem Own.cells {N : Nat} {W W1 : World} (h : Own N W W1) : (∀ b o, b < N → W1.cell? ⟨b, o, none⟩ = W.cell? ⟨b, o, none⟩) ∧ (∀ b o, b < N → W1.frozen? ⟨b, o, none⟩ = W.frozen? ⟨b, o, none⟩) := bcell h.2
theorem Own.below {N B : Nat} {w W W1 : World} (h : Own N W W1) (hb : Below B w W) (hB : B ≤ N) : Below B w W1 := hb.trans (h.2.mono hB)
theorem pin_wp {P : Program} {c : Code} {Q : Exit → Act → World → Prop} {a : Act} {X : World} {N : Nat} (hN : N ≤ X.heap.size) (h : ∀ w1 : World, Below N X w1 → N ≤ w1.heap.size → c.wp P Q a w1) : c.wp P Q a X := h X (Below.refl _ _) hN
end
attribute [go_sem] givesUpon_value givesUpon_skip givesUpon_enter
set_option linter.unusedVariables false
theorem cel1 {G : Prop} {N b : Nat} {W w : World} {v0 : Value} (hb : Below N W w) (h1 : b < N) (h2 : b < w.heap.size) (c0 : W.cell? ⟨b, 0, none⟩ = some v0) (hf : ∀ o, W.frozen? ⟨b, o, none⟩ = false) (k : w.cell? ⟨b, 0, none⟩ = some v0 → (∀ o, w.frozen? ⟨b, o, none⟩ = false) → (b < w.heap.size ∧ b < w.heap.size + 1 ∧ b < w.heap.size + 1 + 1 ∧ b < w.heap.size + 1 + 1 + 1) → G) : G :=
  k (by rw [hb.cell (p := ⟨b, 0, none⟩) h1]; exact c0) (fun o => by rw [hb.frozen (p := ⟨b, o, none⟩) h1]; exact hf o) ⟨h2, by omega, by omega, by omega⟩
theorem cel2 {G : Prop} {N b : Nat} {W w : World} {v0 v1 : Value} (hb : Below N W w) (h1 : b < N) (h2 : b < w.heap.size) (c0 : W.cell? ⟨b, 0, none⟩ = some v0) (c1 : W.cell? ⟨b, 1, none⟩ = some v1) (hf : ∀ o, W.frozen? ⟨b, o, none⟩ = false) (k : w.cell? ⟨b, 0, none⟩ = some v0 → w.cell? ⟨b, 1, none⟩ = some v1 → (∀ o, w.frozen? ⟨b, o, none⟩ = false) → (b < w.heap.size ∧ b < w.heap.size + 1 ∧ b < w.heap.size + 1 + 1 ∧ b < w.heap.size + 1 + 1 + 1) → G) : G :=
  k (by rw [hb.cell (p := ⟨b, 0, none⟩) h1]; exact c0) (by rw [hb.cell (p := ⟨b, 1, none⟩) h1]; exact c1) (fun o => by rw [hb.frozen (p := ⟨b, o, none⟩) h1]; exact hf o) ⟨h2, by omega, by omega, by omega⟩
theorem cel6 {G : Prop} {N b : Nat} {W w : World} {v0 v1 v2 v3 v4 v5 : Value} (hb : Below N W w) (h1 : b < N) (h2 : b < w.heap.size) (c0 : W.cell? ⟨b, 0, none⟩ = some v0) (c1 : W.cell? ⟨b, 1, none⟩ = some v1) (c2 : W.cell? ⟨b, 2, none⟩ = some v2) (c3 : W.cell? ⟨b, 3, none⟩ = some v3) (c4 : W.cell? ⟨b, 4, none⟩ = some v4) (c5 : W.cell? ⟨b, 5, none⟩ = some v5) (hf : ∀ o, W.frozen? ⟨b, o, none⟩ = false) (k : w.cell? ⟨b, 0, none⟩ = some v0 → w.cell? ⟨b, 1, none⟩ = some v1 → w.cell? ⟨b, 2, none⟩ = some v2 → w.cell? ⟨b, 3, none⟩ = some v3 → w.cell? ⟨b, 4, none⟩ = some v4 → w.cell? ⟨b, 5, none⟩ = some v5 → (∀ o, w.frozen? ⟨b, o, none⟩ = false) → (b < w.heap.size ∧ b < w.heap.size + 1 ∧ b < w.heap.size + 1 + 1 ∧ b < w.heap.size + 1 + 1 + 1) → G) : G :=
  k (by rw [hb.cell (p := ⟨b, 0, none⟩) h1]; exact c0) (by rw [hb.cell (p := ⟨b, 1, none⟩) h1]; exact c1) (by rw [hb.cell (p := ⟨b, 2, none⟩) h1]; exact c2) (by rw [hb.cell (p := ⟨b, 3, none⟩) h1]; exact c3) (by rw [hb.cell (p := ⟨b, 4, none⟩) h1]; exact c4) (by rw [hb.cell (p := ⟨b, 5, none⟩) h1]; exact c5) (fun o => by rw [hb.frozen (p := ⟨b, o, none⟩) h1]; exact hf o) ⟨h2, by omega, by omega, by omega⟩
theorem bR (B : Nat) (w : World) : Below B w w := Below.refl B w
theorem bS {B : Nat} {a w : World} {p : Addr} (h : Below B a w) (hp : B ≤ p.block) (u : Value) : Below B a (w.setCell p u) := h.setCell hp u
theorem bA {B : Nat} {a w : World} (h : Below B a w) (hB : B ≤ w.heap.size) (o : Obj) : Below B a (w.alloc o) := h.alloc hB o
theorem bD {B : Nat} {a w : World} (h : Below B a w) : Below B a w.drew := h.drew
theorem bT {N M : Nat} {a b c : World} (h : Below N a b) (k : Below M b c) (hN : N ≤ M) : Below N a c := h.trans (k.mono hN)
theorem bO {N B : Nat} {w W W1 : World} (h : Own N W W1) (hb : Below B w W) (hB : B ≤ N) : Below B w W1 := h.below hb hB
end Go.Proofs.Ytgejdaincnclpaa
namespace Go.Proofs.Ytgejdaincnclpaa
open Go.RowKit
theorem ret_bool {a b : Bool} (h : a = b) : Ending.returned (.bool a) = .returned (.bool b) := by rw [h]
theorem bool_iff {a b : Bool} (h : a = true ↔ b = true) : a = b := by cases a <;> cases b <;> simp_all
theorem mul_bd (a b A B : Int) (h1 : -A ≤ a) (h2 : a ≤ A) (h3 : -B ≤ b) (h4 : b ≤ B) : -(A * B) ≤ a * b ∧ a * b ≤ A * B := by
  have e1 : 0 ≤ (A - a) * (B + b) := Int.mul_nonneg (by omega) (by omega)
  have e2 : 0 ≤ (A + a) * (B - b) := Int.mul_nonneg (by omega) (by omega)
  have e3 : 0 ≤ (A - a) * (B - b) := Int.mul_nonneg (by omega) (by omega)
  have e4 : 0 ≤ (A + a) * (B + b) := Int.mul_nonneg (by omega) (by omega)
  have f1 : (A - a) * (B + b) = A * B + A * b - a * B - a * b := by rw [Int.sub_mul, Int.mul_add, Int.mul_add]; omega
  have f2 : (A + a) * (B - b) = A * B - A * b + a * B - a * b := by rw [Int.add_mul, Int.mul_sub, Int.mul_sub]; omega
  have f3 : (A - a) * (B - b) = A * B - A * b - a * B + a * b := by rw [Int.sub_mul, Int.mul_sub, Int.mul_sub]; omega
  have f4 : (A + a) * (B + b) = A * B + A * b + a * B + a * b := by rw [Int.add_mul, Int.mul_add, Int.mul_add]; omega
  omega
def smallB (x y : Int) : Bool := decide (-1073741824 ≤ x ∧ x ≤ 1073741824 ∧ -1073741824 ≤ y ∧ y ≤ 1073741824)
set_option maxHeartbeats 400000 in
theorem small_any (x y : Int) (w : World) :
    Calls Try.prog 28 #[.agg #[.int .i64 x, .int .i64 y]] w fun e w' => e = .returned (.bool (smallB x y)) ∧ Below w.heap.size w w' := by
  go_enter Try.func28, Try.ntmps28
  go_wp2
  all_goals
    go_ret
    refine ⟨ret_bool (bool_iff ?_), (Below.refl _ _).alloc (Nat.le_refl _) _⟩
    simp only [smallB, decide_eq_true_eq, Bool.false_eq_true, false_iff]; omega
def withinB (x y n : Int) : Bool := decide (-n ≤ x ∧ x ≤ n ∧ -n ≤ y ∧ y ≤ n)
theorem small_of {x y : Int} (h : -1073741824 ≤ x ∧ x ≤ 1073741824 ∧ -1073741824 ≤ y ∧ y ≤ 1073741824) : smallB x y = true := by simp only [smallB, decide_eq_true_eq]; exact h
end Go.Proofs.Ytgejdaincnclpaa
namespace Go.Proofs.Ytgejdaincnclpaa
open Go
theorem wrap_small {z : Int} (h0 : 0 ≤ z) (h1 : z < 18446744073709551616) : IntKind.u64.wrap z = z := by rw [IntKind.wrap_u64]; omega
/-- One digit of the quotient: Y is the divisor in two halves, U the upper part, d the next half. -/
structure Digit (Y n1 n0 U d Q : Int) : Prop where
  hY : Y = n1 * 4294967296 + n0
  n00 : 0 ≤ n0
  n01 : n0 < 4294967296
  n10 : 2147483648 ≤ n1
  n11 : n1 < 4294967296
  u0 : 0 ≤ U
  u1 : U < Y
  d0 : 0 ≤ d
  d1 : d < 4294967296
  hQ : Q = (U * 4294967296 + d) / Y
theorem Digit.split {Y n1 n0 U d Q : Int} (D : Digit Y n1 n0 U d Q) (q : Int) : q * Y = q * n1 * 4294967296 + q * n0 := by
  rw [D.hY, Int.mul_add, Int.mul_assoc]
theorem Digit.pos {Y n1 n0 U d Q : Int} (D : Digit Y n1 n0 U d Q) : 0 < Y := by have := D.hY; have := D.n00; have := D.n10; omega
theorem Digit.q0 {Y n1 n0 U d Q : Int} (D : Digit Y n1 n0 U d Q) : 0 ≤ Q := by
  rw [D.hQ]
  exact Int.ediv_nonneg (by have := D.u0; have := D.d0; omega) (Int.le_of_lt D.pos)
theorem Digit.q1 {Y n1 n0 U d Q : Int} (D : Digit Y n1 n0 U d Q) : Q < 4294967296 := by
  rw [D.hQ]
  exact Int.ediv_lt_of_lt_mul D.pos (by have := D.u1; have := D.d1; omega)
theorem Digit.first {Y n1 n0 U d Q : Int} (D : Digit Y n1 n0 U d Q) : Q ≤ U / n1 := by
  have h1 := D.split Q
  have h2 : Q * Y ≤ U * 4294967296 + d := by rw [D.hQ]; exact Int.ediv_mul_le _ (by have := D.pos; omega)
  have h3 : 0 ≤ Q * n0 := Int.mul_nonneg D.q0 D.n00
  have := D.d1
  have := D.n10
  exact Int.le_ediv_of_mul_le (by omega) (by omega)
theorem Digit.rest {Y n1 n0 U d Q : Int} (D : Digit Y n1 n0 U d Q) : U * 4294967296 + d - Q * Y = (U * 4294967296 + d) % Y := by
  rw [D.hQ]
  have := Int.emod_add_mul_ediv (U * 4294967296 + d) Y
  rw [Int.mul_comm Y] at this
  omega
theorem Digit.restb {Y n1 n0 U d Q : Int} (D : Digit Y n1 n0 U d Q) : 0 ≤ U * 4294967296 + d - Q * Y ∧ U * 4294967296 + d - Q * Y < Y := by
  rw [D.rest]
  exact ⟨Int.emod_nonneg _ (by have := D.pos; omega), Int.emod_lt_of_pos _ D.pos⟩
/-- What the shifts make of the three numbers. -/
structure Shifted (hi lo y : Int) (k m : Nat) (Y n1 n0 H L U Z d1 d0 : Int) : Prop where
  k0 : (k : Int) < 64
  hY : Y = y * 2 ^ k
  hYs : Y = n1 * 4294967296 + n0
  n00 : 0 ≤ n0
  n01 : n0 < 4294967296
  n10 : 2147483648 ≤ n1
  n11 : n1 < 4294967296
  u0 : 0 ≤ U
  u1 : U < Y
  z0 : 0 ≤ Z
  hZ : Z = d1 * 4294967296 + d0
  d10 : 0 ≤ d1
  d11 : d1 < 4294967296
  d00 : 0 ≤ d0
  d01 : d0 < 4294967296
  hN : U * 18446744073709551616 + Z = (hi * 18446744073709551616 + lo) * 2 ^ k
theorem shifted {hi lo y : Int} (a1 : 0 < hi) (a2 : hi < y) (a3 : 0 ≤ lo) (a4 : lo < 18446744073709551616) (a5 : y < 18446744073709551616) :
    ∃ (k m : Nat) (Y n1 n0 H L U Z d1 d0 : Int), Shifted hi lo y k m Y n1 n0 H L U Z d1 d0 ∧
      IntKind.u64.wrap (64 - (Lib.bitLen y.toNat : Int)) = (k : Int) ∧ min k 64 = k ∧ IntKind.u64.wrap (y * 2 ^ k) = Y ∧ Y / 4294967296 = n1 ∧ bits .and .u64 Y 4294967295 = n0 ∧
      IntKind.u64.wrap (hi * 2 ^ k) = H ∧ IntKind.u64.wrap (64 - (k : Int)) = (m : Int) ∧ min m 64 = m ∧ lo / 2 ^ m = L ∧ bits .or .u64 H L = U ∧ IntKind.u64.wrap (lo * 2 ^ k) = Z ∧ Z / 4294967296 = d1 ∧ bits .and .u64 Z 4294967295 = d0 := by
  obtain ⟨b1, b2, b3⟩ := Lib.bitLenAux_bounds 64 y.toNat (by omega) (by omega)
  have b4 : Lib.bitLenAux 64 y.toNat ≤ 64 := Lib.bitLenAux_le 64 _ 64 (by omega)
  have hbl : Lib.bitLen y.toNat = Lib.bitLenAux 64 y.toNat := rfl
  obtain ⟨b, hb⟩ : ∃ b, b = Lib.bitLenAux 64 y.toNat := ⟨_, rfl⟩
  rw [← hb] at b1 b2 b3 b4 hbl
  obtain ⟨k, hk⟩ : ∃ k, k = 64 - b := ⟨_, rfl⟩
  obtain ⟨c, rfl⟩ : ∃ c, b = c + 1 := ⟨b - 1, by omega⟩
  have hy : ((y.toNat : Nat) : Int) = y := by omega
  -- the powers
  obtain ⟨P, hP⟩ : ∃ P : Int, P = 2 ^ k := ⟨_, rfl⟩
  obtain ⟨M, hM⟩ : ∃ M : Int, M = 2 ^ (64 - k) := ⟨_, rfl⟩
  have hPM : P * M = 18446744073709551616 := by
    rw [hP, hM, ← Int.pow_add, show k + (64 - k) = 64 by omega]; rfl
  have hP1 : 1 ≤ P := by have h : (0 : Int) < 2 ^ k := Int.pow_pos (by omega); omega
  have hM1 : 1 ≤ M := by have h : (0 : Int) < 2 ^ (64 - k) := Int.pow_pos (by omega); omega
  have c1 : (2 : Int) ^ c ≤ y := by rw [← hy]; simp only [Nat.add_sub_cancel] at b2; exact_mod_cast b2
  have c2 : y < 2 ^ (c + 1) := by rw [← hy]; exact_mod_cast b3
  have y0 : 9223372036854775808 ≤ y * P := by
    have h1 : (2 : Int) ^ c * P ≤ y * P := Int.mul_le_mul_of_nonneg_right c1 (by omega)
    have h2 : (2 : Int) ^ c * P = 9223372036854775808 := by rw [hP, ← Int.pow_add, show c + k = 63 by omega]; rfl
    omega
  have y1 : y * P < 18446744073709551616 := by
    have h1 : y * P < 2 ^ (c + 1) * P := Int.mul_lt_mul_of_pos_right c2 (by omega)
    have h2 : (2 : Int) ^ (c + 1) * P = 18446744073709551616 := by rw [hP, ← Int.pow_add, show c + 1 + k = 64 by omega]; rfl
    omega
  have h0 : 0 ≤ hi * P := Int.mul_nonneg (by omega) (by omega)
  have h1 : hi * P + P ≤ y * P := by
    have : (hi + 1) * P ≤ y * P := Int.mul_le_mul_of_nonneg_right (by omega) (by omega)
    rw [Int.add_mul, Int.one_mul] at this
    exact this
  obtain ⟨L, hL⟩ : ∃ L, L = lo / M := ⟨_, rfl⟩
  have L0 : 0 ≤ L := by rw [hL]; exact Int.ediv_nonneg a3 (by omega)
  have L1 : L < P := by rw [hL]; exact Int.ediv_lt_of_lt_mul (by omega) (by rw [hPM]; exact a4)
  have hmod := Int.emod_add_mul_ediv lo M
  rw [← hL] at hmod
  have m0 : 0 ≤ lo % M := Int.emod_nonneg _ (by omega)
  have m1 : lo % M < M := Int.emod_lt_of_pos _ (by omega)
  have hlo : lo * P = L * 18446744073709551616 + (lo % M) * P := by
    conv => lhs; rw [← hmod]
    rw [Int.add_mul, ← hPM, Int.mul_comm M L, Int.mul_assoc L M P, Int.mul_comm M P]
    omega
  have z0 : 0 ≤ (lo % M) * P := Int.mul_nonneg m0 (by omega)
  have z1 : (lo % M) * P < 18446744073709551616 := by
    have : (lo % M) * P < M * P := Int.mul_lt_mul_of_pos_right m1 (by omega)
    rw [Int.mul_comm M P, hPM] at this
    exact this
  have hZ : IntKind.u64.wrap (lo * P) = (lo % M) * P := by rw [IntKind.wrap_u64, hlo]; omega
  have hand : ∀ z : Int, 0 ≤ z → z < 18446744073709551616 → bits .and .u64 z 4294967295 = z % 4294967296 := fun z g0 g1 => bits_mask .u64 64 (by decide) wraps_u64 32 (by decide) z g0 (by omega)
  have hor : bits .or .u64 (hi * P) L = hi * P + L := by
    refine bits_join .u64 64 (by decide) wraps_u64 k (hi * P) L h0 ?_ (by omega) L0 (by rw [← hP]; exact L1) (by omega)
    rw [← hP]; exact Int.mul_emod_left _ _
  refine ⟨k, 64 - k, y * P, y * P / 4294967296, y * P % 4294967296, hi * P, L, hi * P + L, (lo % M) * P, (lo % M) * P / 4294967296, (lo % M) * P % 4294967296, ?_, ?_, ?_, ?_, rfl, ?_, ?_, ?_, ?_, ?_, hor, ?_, rfl, ?_⟩
  · refine { k0 := by omega, hY := by rw [hP], hYs := by omega, n00 := by omega, n01 := by omega, n10 := by omega, n11 := by omega, u0 := by omega, u1 := by omega, z0 := z0, hZ := by omega, d10 := by omega, d11 := by omega, d00 := by omega, d01 := by omega, hN := ?_ }
    have e : (hi * 18446744073709551616 + lo) * P = hi * P * 18446744073709551616 + lo * P := by rw [Int.add_mul, Int.mul_right_comm]
    rw [← hP, e]
    omega
  · rw [hbl, wrap_small (by omega) (by omega)]; omega
  · omega
  · rw [← hP]; exact wrap_small (by omega) (by omega)
  · exact hand _ (by omega) (by omega)
  · rw [← hP]; exact wrap_small (by omega) (by omega)
  · rw [wrap_small (by omega) (by omega)]; omega
  · omega
  · rw [← hM]; exact hL.symm
  · rw [← hP]; exact hZ
  · exact hand _ z0 z1
/-- Two digits and the last remainder. -/
theorem Shifted.result {hi lo y : Int} {k m : Nat} {Y n1 n0 H L U Z d1 d0 Q1 R1 Q0 : Int} (S : Shifted hi lo y k m Y n1 n0 H L U Z d1 d0) (hy : 0 < y)
    (hR : R1 = U * 4294967296 + d1 - Q1 * Y) (D0 : Digit Y n1 n0 R1 d0 Q0) :
    Q1 * 4294967296 + Q0 = (hi * 18446744073709551616 + lo) / y ∧ (R1 * 4294967296 + d0 - Q0 * Y) / 2 ^ k = (hi * 18446744073709551616 + lo) % y := by
  have hp : (0 : Int) < 2 ^ k := Int.pow_pos (by omega)
  obtain ⟨r1, r2⟩ := D0.restb
  obtain ⟨R, hRR⟩ : ∃ R, R = R1 * 4294967296 + d0 - Q0 * Y := ⟨_, rfl⟩
  rw [← hRR] at r1 r2 ⊢
  have e : (hi * 18446744073709551616 + lo) * 2 ^ k = (Q1 * 4294967296 + Q0) * Y + R := by
    rw [← S.hN, S.hZ, hRR, hR, Int.add_mul, Int.mul_right_comm]
    omega
  rw [S.hY] at e r2
  obtain ⟨q, hq⟩ : ∃ q, q = Q1 * 4294967296 + Q0 := ⟨_, rfl⟩
  rw [← hq] at e ⊢
  obtain ⟨N, hN⟩ : ∃ N, N = hi * 18446744073709551616 + lo := ⟨_, rfl⟩
  rw [← hN] at e ⊢
  obtain ⟨P, hP⟩ : ∃ P : Int, P = 2 ^ k := ⟨_, rfl⟩
  rw [← hP] at e hp r2 ⊢
  have e2 : R = (N - q * y) * P := by rw [Int.sub_mul, e, Int.mul_assoc q y P]; omega
  have t0 : 0 ≤ N - q * y := by
    rcases Int.lt_or_le (N - q * y) 0 with h | h
    · have : (N - q * y) * P < 0 := Int.mul_neg_of_neg_of_pos h hp
      omega
    · exact h
  have t1 : N - q * y < y := Int.lt_of_mul_lt_mul_right (by rw [← e2]; exact r2) (Int.le_of_lt hp)
  have hqd : N / y = q ∧ N % y = N - q * y := by
    have := Int.ediv_emod_unique (a := N) (b := y) (r := N - q * y) (q := q) hy
    exact this.2 ⟨by rw [Int.mul_comm y q]; omega, t0, t1⟩
  refine ⟨hqd.1.symm, ?_⟩
  rw [hqd.2, e2]
  exact Int.mul_ediv_cancel _ (by omega)
end Go.Proofs.Ytgejdaincnclpaa
namespace Go.Proofs.Ytgejdaincnclpaa
open Go.RowKit
set_option linter.unusedVariables false
theorem small_bd {a b : Int} (h1 : smallB a b = true) : -1073741824 ≤ a ∧ a ≤ 1073741824 ∧ -1073741824 ≤ b ∧ b ≤ 1073741824 := by simpa [smallB] using h1
def cmpV (a b : Int) : Int := if a < b then -1 else if b < a then 1 else 0
def sqI (x y : Int) : Int := x * x + y * y
def orderR (x1 x2 a1 a2 b1 b2 : Int) : Int := if sqI (a1 - x1) (a2 - x2) = sqI (b1 - x1) (b2 - x2) then cmpV (sqI a1 a2) (sqI b1 b2) else cmpV (sqI (a1 - x1) (a2 - x2)) (sqI (b1 - x1) (b2 - x2))
end Go.Proofs.Ytgejdaincnclpaa
namespace Go.Proofs.Ytgejdaincnclpaa
open Go.RowKit
set_option linter.unusedVariables false
theorem wraps_i64' (n : Int) (h₀ : 0 ≤ n) (h₁ : n < 2 ^ 63) : IntKind.i64.wrap n = n := by rw [IntKind.wrap_i64]; omega
end Go.Proofs.Ytgejdaincnclpaa
namespace Go.Proofs.Ytgejdaincnclpaa
open Go.RowKit
set_option linter.unusedVariables false
abbrev V2 := Int × Int
def smB (p : V2) : Bool := smallB p.1 p.2
def vd (x n : V2) : Int := x.1 * n.1 + x.2 * n.2
def allowedR (y : V2) (l : List V2) : Bool := l.all (fun n => decide (0 ≤ vd y n))
def candR (x : V2) (l : List V2) (best : List V2) (y : V2) : List V2 :=
  if smB y = true ∧ allowedR y l = true then
    (if orderR x.1 x.2 y.1 y.2 (best.headD (0, 0)).1 (best.headD (0, 0)).2 = -1 then [y] else if orderR x.1 x.2 y.1 y.2 (best.headD (0, 0)).1 (best.headD (0, 0)).2 = 0 then best ++ [y] else best)
  else best
def VsAt (w : World) (g o : Nat) (l : List V2) : Prop := ∀ k x, l[k]? = some x → w.cell? ⟨g, o + k * 2, none⟩ = some (.int .i64 x.1) ∧ w.cell? ⟨g, o + k * 2 + 1, none⟩ = some (.int .i64 x.2)
theorem VsAt.below {w w1 : World} {g o B : Nat} {l : List V2} (h : VsAt w g o l) (hb : Below B w w1) (hg : g < B) : VsAt w1 g o l := by
  intro k x hx
  obtain ⟨a, b⟩ := h k x hx
  refine ⟨?_, ?_⟩ <;> rw [hb.cell (by simpa using hg)] <;> assumption
theorem all_take_succ {p : V2 → Bool} {l : List V2} {k : Nat} {x : V2} (h : l[k]? = some x) : (l.take (k + 1)).all p = ((l.take k).all p && p x) := by
  rw [List.take_add_one, h]; simp
end Go.Proofs.Ytgejdaincnclpaa
namespace Go.Proofs.Ytgejdaincnclpaa
open Go.RowKit
set_option linter.unusedVariables false
def cellsOfV (p : V2) : List Value := [.int .i64 p.1, .int .i64 p.2]
def flatV (l : List V2) : List Value := l.flatMap cellsOfV
theorem flatV_len (l : List V2) : (flatV l).length = l.length * 2 := by
  induction l with
  | nil => rfl
  | cons x l ih => simp only [flatV, List.flatMap_cons, List.length_append, List.length_cons] at *; rw [ih]; simp [cellsOfV]; omega
theorem flatV_get {l : List V2} {k j : Nat} {x : V2} (h : l[k]? = some x) (hj : j < 2) : (flatV l)[k * 2 + j]? = (cellsOfV x)[j]? := by
  induction l generalizing k with
  | nil => simp at h
  | cons y l ih =>
    simp only [flatV, List.flatMap_cons]
    cases k with
    | zero =>
      simp only [List.getElem?_cons_zero, Option.some.injEq] at h
      subst h
      rw [List.getElem?_append_left (by simp [cellsOfV]; omega)]
      simp
    | succ k =>
      simp only [List.getElem?_cons_succ] at h
      rw [List.getElem?_append_right (by simp [cellsOfV]; omega)]
      have := ih h
      simp only [flatV] at this
      rw [← this]
      congr 1
      simp [cellsOfV]; omega
theorem own_vsAt {w : World} {base : Nat} {e : TypeId} {cap g : Nat} {l : List V2} (h : w.ownsRow base e 2 (.slice (some ⟨g, 0, none⟩) l.length cap) l.length (flatV l)) : VsAt w g 0 l := by
  intro k x hx
  have hk := (List.getElem?_eq_some_iff.1 hx).1
  rw [Nat.zero_add]
  refine ⟨?_, ?_⟩
  · rw [h.cellAt (k * 2) (by omega)]; exact flatV_get (j := 0) hx (by omega)
  · rw [h.cellAt (k * 2 + 1) (by omega)]; exact flatV_get hx (by omega)
theorem own_formS {w : World} {base size : Nat} {e : TypeId} {n : Nat} {v : Value} {xs : List Value} (h : w.ownsRow base e size v n xs) : (n = 0 ∧ ∃ A c, v = .slice A 0 c) ∨ (0 < n ∧ ∃ g c, v = .slice (some ⟨g, 0, none⟩) n c ∧ n ≤ c ∧ g < w.heap.size ∧ base ≤ g) := by
  rcases Nat.eq_zero_or_pos n with h0 | h0
  · subst h0
    rcases h.2 with ⟨hv, _⟩ | ⟨g, cap, cur, hv, _⟩
    · exact .inl ⟨rfl, none, 0, hv⟩
    · exact .inl ⟨rfl, _, _, hv⟩
  · rcases h.2 with ⟨_, hn⟩ | ⟨g, cap, cur, hv, hb, hh, hc, _⟩
    · omega
    · refine .inr ⟨h0, g, cap, hv, hc, ?_, hb⟩
      rcases Nat.lt_or_ge g w.heap.size with h | h
      · exact h
      · rw [Array.getElem?_eq_none h] at hh; cases hh
theorem own_below {w w1 : World} {base B : Nat} {e : TypeId} {size n : Nat} {v : Value} {xs : List Value} (h : w.ownsRow base e size v n xs) (hb : Below B w w1) (hB : w.heap.size ≤ B) : w1.ownsRow base e size v n xs := by
  obtain ⟨h1, h2⟩ := h
  refine ⟨h1, ?_⟩
  rcases h2 with h2 | ⟨g, cap, cur, hv, hg, hh, r⟩
  · exact .inl h2
  · have hlt : g < w.heap.size := by
      rcases Nat.lt_or_ge g w.heap.size with h | h
      · exact h
      · rw [Array.getElem?_eq_none h] at hh; cases hh
    exact .inr ⟨g, cap, cur, hv, hg, by rw [hb.block g (by omega)]; exact hh, r⟩
theorem own_new (w : World) (base : Nat) (e : TypeId) (size n : Nat) (cs : Array Value) (hb : base ≤ w.heap.size) (hc : cs.size = n * size) (hn : n ≤ maxLen) : (w.alloc (.cells cs e)).ownsRow base e size (.slice (some ⟨w.heap.size, 0, none⟩) n n) n cs.toList := by
  refine ⟨by simpa using hc, .inr ⟨w.heap.size, n, cs, rfl, hb, ?_, Nat.le_refl _, hn, hc, ?_⟩⟩
  · exact heap_alloc_new w _
  · rw [List.take_of_length_le]; simp [hc]
theorem vecInfo : (Try.prog.info? 32).map (fun i => (i.zero, i.size, i.bytes)) = some (some (.agg #[.int .i64 0, .int .i64 0]), 2, 16) := by kernel_rfl
end Go.Proofs.Ytgejdaincnclpaa
namespace Go.Proofs.Ytgejdaincnclpaa
open Go.RowKit
set_option linter.unusedVariables false
def kA (x c : V2) : Int := sqI (c.1 - x.1) (c.2 - x.2)
def kC (c : V2) : Int := sqI c.1 c.2
def leK (x c d : V2) : Prop := kA x c < kA x d ∨ (kA x c = kA x d ∧ kC c ≤ kC d)
theorem order_cases (x y h : V2) : (orderR x.1 x.2 y.1 y.2 h.1 h.2 = -1 ∧ ¬ leK x h y) ∨ (orderR x.1 x.2 y.1 y.2 h.1 h.2 = 0 ∧ leK x h y ∧ leK x y h) ∨ (orderR x.1 x.2 y.1 y.2 h.1 h.2 = 1 ∧ ¬ leK x y h) := by
  unfold orderR leK
  show ((if kA x y = kA x h then cmpV (kC y) (kC h) else cmpV (kA x y) (kA x h)) = -1 ∧ _) ∨ ((if kA x y = kA x h then cmpV (kC y) (kC h) else cmpV (kA x y) (kA x h)) = 0 ∧ _) ∨ ((if kA x y = kA x h then cmpV (kC y) (kC h) else cmpV (kA x y) (kA x h)) = 1 ∧ _)
  generalize kA x y = a
  generalize kA x h = b
  generalize kC y = c
  generalize kC h = d
  unfold cmpV
  split <;> (split <;> (try split) <;> omega)
theorem leK_trans {x a b c : V2} (h : leK x a b) (h' : leK x b c) : leK x a c := by unfold leK at *; omega
theorem leK_total {x a b : V2} (h : ¬ leK x a b) : leK x b a := by unfold leK at *; omega
theorem leK_refl (x a : V2) : leK x a a := by unfold leK; omega
def Least (x : V2) (S : V2 → Prop) (b : List V2) : Prop := b ≠ [] ∧ ∀ c, c ∈ b ↔ (S c ∧ ∀ d, S d → leK x c d)
theorem Least.congr {x : V2} {S S' : V2 → Prop} {b : List V2} (h : Least x S b) (hs : ∀ c, S c ↔ S' c) : Least x S' b :=
  ⟨h.1, fun c => by rw [h.2 c, hs c]; exact ⟨fun g => ⟨g.1, fun d hd => g.2 d ((hs d).2 hd)⟩, fun g => ⟨g.1, fun d hd => g.2 d ((hs d).1 hd)⟩⟩⟩
theorem headD_mem {b : List V2} (h : b ≠ []) : b.headD (0, 0) ∈ b := by cases b with
  | nil => exact absurd rfl h
  | cons a t => exact List.mem_cons_self ..
theorem Least.step {x : V2} {l : List V2} {S : V2 → Prop} {b : List V2} (h : Least x S b) (y : V2) : Least x (fun c => S c ∨ (c = y ∧ smB y = true ∧ allowedR y l = true)) (candR x l b y) := by
  unfold candR
  by_cases hg : smB y = true ∧ allowedR y l = true
  · rw [if_pos hg]
    have hm := headD_mem h.1
    generalize b.headD (0, 0) = hd at hm ⊢
    have hS := (h.2 hd).1 hm
    rcases order_cases x y hd with ⟨e, g⟩ | ⟨e, g, g'⟩ | ⟨e, g⟩
    · rw [if_pos e]
      have gy := leK_total g
      refine ⟨by simp, fun c => ?_⟩
      rw [List.mem_singleton]
      constructor
      · rintro rfl
        refine ⟨.inr ⟨rfl, hg⟩, fun d hd' => ?_⟩
        rcases hd' with hd' | ⟨rfl, _⟩
        · exact leK_trans gy (hS.2 d hd')
        · exact leK_refl _ _
      · rintro ⟨hc, hmin⟩
        rcases hc with hc | ⟨rfl, _⟩
        · exact absurd (leK_trans (hS.2 c hc) (hmin y (.inr ⟨rfl, hg⟩))) g
        · rfl
    · rw [if_neg (by rw [e]; decide), if_pos e]
      refine ⟨by simp, fun c => ?_⟩
      rw [List.mem_append, List.mem_singleton]
      constructor
      · rintro (hc | rfl)
        · have hc' := (h.2 c).1 hc
          refine ⟨.inl hc'.1, fun d hd' => ?_⟩
          rcases hd' with hd' | ⟨rfl, _⟩
          · exact hc'.2 d hd'
          · exact leK_trans (hc'.2 hd hS.1) g
        · refine ⟨.inr ⟨rfl, hg⟩, fun d hd' => ?_⟩
          rcases hd' with hd' | ⟨rfl, _⟩
          · exact leK_trans g' (hS.2 d hd')
          · exact leK_refl _ _
      · rintro ⟨hc, hmin⟩
        rcases hc with hc | ⟨rfl, _⟩
        · exact .inl ((h.2 c).2 ⟨hc, fun d hd' => hmin d (.inl hd')⟩)
        · exact .inr rfl
    · rw [if_neg (by rw [e]; decide), if_neg (by rw [e]; decide)]
      have gy := leK_total g
      refine ⟨h.1, fun c => ?_⟩
      constructor
      · intro hc
        have hc' := (h.2 c).1 hc
        refine ⟨.inl hc'.1, fun d hd' => ?_⟩
        rcases hd' with hd' | ⟨rfl, _⟩
        · exact hc'.2 d hd'
        · exact leK_trans (hc'.2 hd hS.1) gy
      · rintro ⟨hc, hmin⟩
        rcases hc with hc | ⟨rfl, _⟩
        · exact (h.2 c).2 ⟨hc, fun d hd' => hmin d (.inl hd')⟩
        · exact absurd (hmin hd (.inl hS.1)) g
  · rw [if_neg hg]
    exact h.congr fun c => ⟨.inl, fun hh => by
      rcases hh with hh | ⟨_, hh⟩
      · exact hh
      · exact absurd hh hg⟩
end Go.Proofs.Ytgejdaincnclpaa
namespace Go.Proofs.Ytgejdaincnclpaa
open Go Go.RowKit
set_option linter.unusedVariables false
section
variable {P : Program} {ops : Array Oper} {md : Region.Mode} {N : Nat} {W0 : World}
/-- The new blocks so far, with what they hold. -/
def SG (N : Nat) (W0 : World) (G : List (Nat × Obj)) (W : World) : Prop := Own N W0 W ∧ ∀ p ∈ G, N ≤ p.1 ∧ W.heap[p.1]? = some p.2
theorem SG.size {G : List (Nat × Obj)} {W : World} (h : SG N W0 G W) {p : Nat × Obj} (hp : p ∈ G) : p.1 < W.heap.size := by
  have h1 := (h.2 p hp).2
  exact (Array.getElem?_eq_some_iff.1 h1).1
theorem SG.below {G : List (Nat × Obj)} {W W' : World} (h : SG N W0 G W) (hb : Below W.heap.size W W') : SG N W0 G W' :=
  ⟨h.1.call hb, fun p hp => ⟨(h.2 p hp).1, by rw [hb.block _ (h.size hp)]; exact (h.2 p hp).2⟩⟩
theorem SG.alloc {G : List (Nat × Obj)} {W : World} (h : SG N W0 G W) (o : Obj) : SG N W0 ((W.heap.size, o) :: G) (W.alloc o) := by
  refine ⟨h.1.alloc o, fun p hp => ?_⟩
  rcases List.mem_cons.1 hp with rfl | hp
  · exact ⟨h.1.1, heap_alloc_new W o⟩
  · exact ⟨(h.2 p hp).1, by rw [Below.heap_alloc _ _ _ (h.size hp)]; exact (h.2 p hp).2⟩
/-- The operation gives v, and what was there stays. -/
def givesB (P : Program) (W : World) (v : Value) : Result Next → Prop
  | .ok (.value u) w' => u = v ∧ Below W.heap.size W w'
  | .ok .skip w' => v = undef ∧ Below W.heap.size W w'
  | .ok (.enter f args) w' => Calls P f args w' (fun e w'' => e = .returned v ∧ Below W.heap.size W w'')
  | _ => False
theorem givesB_value (W : World) (v u : Value) (w : World) : givesB P W v (.ok (.value u) w) = (u = v ∧ Below W.heap.size W w) := rfl
theorem givesB_skip (W : World) (v : Value) (w : World) : givesB P W v (.ok .skip w) = (v = undef ∧ Below W.heap.size W w) := rfl
theorem givesB_enter (W : World) (v : Value) (f : FuncId) (args : Array Value) (w : World) : givesB P W v (.ok (.enter f args) w) = Calls P f args w (fun e w'' => e = .returned v ∧ Below W.heap.size W w'') := rfl
/-- What holds of a world and goes on holding while nothing that was there is touched. -/
def Cl (F : World → Prop) : Prop := ∀ W W', F W → Below W.heap.size W W' → F W'
theorem Cl.and {F F' : World → Prop} (h : Cl F) (h' : Cl F') : Cl (fun W => F W ∧ F' W) := fun W W' k hb => ⟨h W W' k.1 hb, h' W W' k.2 hb⟩
theorem Cl.tt : Cl (fun _ => True) := fun _ _ _ _ => trivial
def XPost (W : World) (K : Value → (World → Prop) → Prop) (e : Ending) (w'' : World) : Prop := ∃ (v : Value) (F : World → Prop), e = .returned v ∧ Below W.heap.size W w'' ∧ F w'' ∧ Cl F ∧ K v F
theorem XPost.mk {W w'' : World} {K : Value → (World → Prop) → Prop} (v : Value) (F : World → Prop) (hb : Below W.heap.size W w'') (hF : F w'') (hC : Cl F) (hK : K v F) : XPost W K (.returned v) w'' := ⟨v, F, rfl, hb, hF, hC, hK⟩
def givesX (P : Program) (W : World) (K : Value → (World → Prop) → Prop) : Result Next → Prop
  | .ok (.value u) w' => ∃ F : World → Prop, Below W.heap.size W w' ∧ F w' ∧ Cl F ∧ K u F
  | .ok .skip w' => ∃ F : World → Prop, Below W.heap.size W w' ∧ F w' ∧ Cl F ∧ K undef F
  | .ok (.enter f args) w' => Calls P f args w' (XPost W K)
  | _ => False
theorem givesX_enter (W : World) (K : Value → (World → Prop) → Prop) (f : FuncId) (args : Array Value) (w : World) : givesX P W K (.ok (.enter f args) w) = Calls P f args w (XPost W K) := rfl
theorem givesX_value (W : World) (K : Value → (World → Prop) → Prop) (u : Value) (w : World) : givesX P W K (.ok (.value u) w) = ∃ F : World → Prop, Below W.heap.size W w ∧ F w ∧ Cl F ∧ K u F := rfl
theorem givesX_mono {W : World} {K K' : Value → (World → Prop) → Prop} (h : ∀ v F, K v F → K' v F) : ∀ r, givesX P W K r → givesX P W K' r := by
  intro r hr
  match r, hr with
  | .ok (.value u) w', ⟨F, a, b, c, d⟩ => exact ⟨F, a, b, c, h _ _ d⟩
  | .ok .skip w', ⟨F, a, b, c, d⟩ => exact ⟨F, a, b, c, h _ _ d⟩
  | .ok (.enter f args) w', hr => exact Calls.mono hr fun e w'' ⟨v, F, e1, a, b, c, d⟩ => ⟨v, F, e1, a, b, c, h _ _ d⟩
def GivesH (P : Program) (N : Nat) (W0 : World) (o : Oper) (a : Act) (v : Value) : Prop := ∀ W, Own N W0 W → givesB P W v ((execOp a.eval o).run P W)
def YieldsH (P : Program) (ops : Array Oper) (N : Nat) (W0 : World) (o : Oper) (v : Value) (a : Act) : Prop :=
  (Region.wanted o (yielded ops a.tmps) = true ∧ GivesH P N W0 o a v) ∨ (Region.wanted o (yielded ops a.tmps) = false ∧ v = undef)
def FreshF (P : Program) (ops : Array Oper) (o : Oper) (a : Act) (ob : Obj) : Prop :=
  Region.wanted o (yielded ops a.tmps) = true ∧ ∀ W, (execOp a.eval o).run P W = .ok (.value (.pointer (some ⟨W.heap.size, 0, none⟩))) (W.alloc ob)
/-- Of the state: what is known of the world, the new blocks, the frame. -/
abbrev GK := (World → Prop) → List (Nat × Obj) → Act → Prop
/-- What an operation that may touch blocks from N on leaves. -/
def WPost (N : Nat) (W0 : World) (K : Value → (World → Prop) → List (Nat × Obj) → Prop) (e : Ending) (w : World) : Prop := ∃ (v : Value) (F : World → Prop) (G : List (Nat × Obj)), e = .returned v ∧ F w ∧ Cl F ∧ SG N W0 G w ∧ K v F G
theorem WPost.mk {N : Nat} {W0 w : World} {K : Value → (World → Prop) → List (Nat × Obj) → Prop} (v : Value) (F : World → Prop) (G : List (Nat × Obj)) (hF : F w) (hC : Cl F) (hS : SG N W0 G w) (hK : K v F G) : WPost N W0 K (.returned v) w := ⟨v, F, G, rfl, hF, hC, hS, hK⟩
def givesW (P : Program) (N : Nat) (W0 : World) (K : Value → (World → Prop) → List (Nat × Obj) → Prop) : Result Next → Prop
  | .ok (.value u) w' => WPost N W0 K (.returned u) w'
  | .ok .skip w' => WPost N W0 K (.returned undef) w'
  | .ok (.enter f args) w' => Calls P f args w' (WPost N W0 K)
  | _ => False
theorem givesW_value (K : Value → (World → Prop) → List (Nat × Obj) → Prop) (u : Value) (w : World) : givesW P N W0 K (.ok (.value u) w) = WPost N W0 K (.returned u) w := rfl
theorem givesW_skip (K : Value → (World → Prop) → List (Nat × Obj) → Prop) (w : World) : givesW P N W0 K (.ok .skip w) = WPost N W0 K (.returned undef) w := rfl
theorem givesW_enter (K : Value → (World → Prop) → List (Nat × Obj) → Prop) (f : FuncId) (args : Array Value) (w : World) : givesW P N W0 K (.ok (.enter f args) w) = Calls P f args w (WPost N W0 K) := rfl
theorem WPost.mono {K K' : Value → (World → Prop) → List (Nat × Obj) → Prop} (h : ∀ v F G, K v F G → K' v F G) {e : Ending} {w : World} (hh : WPost N W0 K e w) : WPost N W0 K' e w := by
  obtain ⟨v, F, G, a, b, c, d, k⟩ := hh; exact ⟨v, F, G, a, b, c, d, h _ _ _ k⟩
theorem givesW_mono {K K' : Value → (World → Prop) → List (Nat × Obj) → Prop} (h : ∀ v F G, K v F G → K' v F G) : ∀ r, givesW P N W0 K r → givesW P N W0 K' r := by
  intro r hr
  match r, hr with
  | .ok (.value u) w', hr => exact WPost.mono h hr
  | .ok .skip w', hr => exact WPost.mono h hr
  | .ok (.enter f args) w', hr => exact Calls.mono hr fun e w'' h' => WPost.mono h h'
def WildX (P : Program) (ops : Array Oper) (N : Nat) (W0 : World) (o : Oper) (a : Act) (K : GK) (F : World → Prop) (G : List (Nat × Obj)) : Prop :=
  Region.wanted o (yielded ops a.tmps) = true ∧ ∀ W, F W → SG N W0 G W → givesW P N W0 (fun v F' G' => K F' G' (a.put o.dst v)) ((execOp a.eval o).run P W)
def CallX (P : Program) (ops : Array Oper) (N : Nat) (W0 : World) (o : Oper) (a : Act) (K : GK) (F : World → Prop) (G : List (Nat × Obj)) : Prop :=
  Region.wanted o (yielded ops a.tmps) = true ∧ ∀ W, F W → SG N W0 G W → givesX P W (fun v F' => K (fun W => F W ∧ F' W) G (a.put o.dst v)) ((execOp a.eval o).run P W)
def isAlloc (o : Oper) : Bool := match o.op with | .alloc _ => o.guard.isNone | _ => false
def wfOp (P : Program) (ops : Array Oper) (N : Nat) (W0 : World) (i : Nat) (K : GK) (F : World → Prop) (G : List (Nat × Obj)) (a : Act) : Prop :=
  match ops[i]? with
  | none => False
  | some o => if isAlloc o = true then ∃ ob, FreshF P ops o a ob ∧ ∀ g, N ≤ g → (∀ p ∈ G, p.1 ≠ g) → K F ((g, ob) :: G) (a.put o.dst (.pointer (some ⟨g, 0, none⟩)))
      else (∃ v, YieldsH P ops N W0 o v a ∧ K F G (a.put o.dst v)) ∨
      WildX P ops N W0 o a K F G ∨
      CallX P ops N W0 o a K F G
/-- The operations from n on wait each for all those ahead of n. -/
def tailB (md : Region.Mode) (ops : Array Oper) (n : Nat) : Bool :=
  Region.noSelect ops && (List.range ops.size).all fun t => decide (t < n) || match ops[t]? with
    | some o => (List.range n).all fun i => o.after.any fun e => Region.binds md e && e.on == i
    | none => true
theorem tailB_spec {n t i : Nat} {listed : Array Bool} (h : tailB md ops n = true) (ht : t ∈ Region.ready md ops listed) (hi : i < n) (hun : listed.getD i true = false) : t < n := by
  rcases Nat.lt_or_ge t n with hlt | hge
  · exact hlt
  · obtain ⟨_, o, ho, hall⟩ := mem_ready.1 ht
    simp only [tailB, Bool.and_eq_true, List.all_eq_true, List.mem_range] at h
    have h1 := h.2 t (Array.getElem?_eq_some_iff.1 ho).1
    simp only [ho, Bool.or_eq_true, decide_eq_true_eq, List.all_eq_true, List.mem_range] at h1
    rcases h1 with h1 | h1
    · omega
    · obtain ⟨e, he, hb⟩ := Array.any_eq_true'.1 (h1 i hi)
      simp only [Bool.and_eq_true, beq_iff_eq] at hb
      have := hall e he hb.1
      rw [hb.2, getD_both hun] at this
      cases this
abbrev LK := Array Bool → GK
def wpF (P : Program) (md : Region.Mode) (ops : Array Oper) (N : Nat) (W0 : World) (n : Nat) (L : GK) : Nat → LK
  | 0, listed, F, G, a => Region.seqB md ops (ops.size - n) n listed = true ∧ L F G a
  | f + 1, listed, F, G, a => Region.ready md ops listed ≠ [] ∧ ∀ i ∈ Region.ready md ops listed, wfOp P ops N W0 i (wpF P md ops N W0 n L f (listed.setIfInBounds i true)) F G a
theorem wfOp_mono {i : Nat} {a : Act} {F : World → Prop} {G : List (Nat × Obj)} {K K' : GK} (h : ∀ F G a, K F G a → K' F G a) (hh : wfOp P ops N W0 i K F G a) : wfOp P ops N W0 i K' F G a := by
  unfold wfOp at *
  split
  · rename_i ho; simp only [ho] at hh
  · rename_i o ho
    simp only [ho] at hh
    split at hh
    · rename_i ha
      rw [if_pos ha]
      obtain ⟨ob, hf, hk⟩ := hh
      exact ⟨ob, hf, fun g hN hg => h _ _ _ (hk g hN hg)⟩
    · rename_i ha
      rw [if_neg ha]
      rcases hh with ⟨v, hy, hk⟩ | ⟨hw, hx⟩ | ⟨hw, hx⟩
      · exact .inl ⟨v, hy, h _ _ _ hk⟩
      · exact .inr (.inl ⟨hw, fun W hF hS => givesW_mono (fun v F' G' hk => h _ _ _ hk) _ (hx W hF hS)⟩)
      · exact .inr (.inr ⟨hw, fun W hF hS => givesX_mono (fun v F' hk => h _ _ _ hk) _ (hx W hF hS)⟩)
theorem YieldsH.of_same {o : Oper} {v : Value} {a a' : Act} (hy : YieldsH P ops N W0 o v a) (he : execOp a'.eval o = execOp a.eval o)
    (hw : Region.wanted o (yielded ops a'.tmps) = Region.wanted o (yielded ops a.tmps)) : YieldsH P ops N W0 o v a' := by
  unfold YieldsH GivesH at *; rw [he, hw]; exact hy
/-- Another operation, behind one that may come first: the latter may come behind it. -/
theorem wfOp_put {j : Nat} {oi oj : Oper} {v : Value} (hj : ops[j]? = some oj) (hap : oi.apart ops oj = true)
    (hsi : ∀ cs b, oi.op ≠ .select cs b) (hsj : ∀ cs b, oj.op ≠ .select cs b) {K : GK} {F : World → Prop} {G : List (Nat × Obj)} {a : Act}
    (hy : YieldsH P ops N W0 oi v a) (h : wfOp P ops N W0 j K F G (a.put oi.dst v)) :
    wfOp P ops N W0 j (fun F' G' a' => YieldsH P ops N W0 oi v a' ∧ K F' G' (a'.put oi.dst v)) F G a := by
  obtain ⟨h1, h2, h3⟩ := Oper.apart_spec hap
  have keep : ∀ u, YieldsH P ops N W0 oi v (a.put oj.dst u) := fun u => hy.of_same (execOp_put oi hsi a oj.dst u h3) (wanted_put oi a oj.dst u h3)
  have e1 := execOp_put oj hsj a oi.dst v h1
  have e2 := wanted_put oj a oi.dst v h1
  unfold wfOp at *
  simp only [hj] at *
  split at h
  · rename_i ha
    rw [if_pos ha]
    obtain ⟨ob, hf, hk⟩ := h
    refine ⟨ob, ?_, fun g hN hg => ⟨keep _, by rw [← Act.put_comm a v _ h2]; exact hk g hN hg⟩⟩
    unfold FreshF at *; rw [e1, e2] at hf; exact hf
  · rename_i ha
    rw [if_neg ha]
    rcases h with ⟨u, hu, hk⟩ | ⟨hw, hx⟩ | ⟨hw, hx⟩
    · exact .inl ⟨u, hu.of_same e1.symm e2.symm, keep u, by rw [← Act.put_comm a v u h2]; exact hk⟩
    · refine .inr (.inl ⟨by rw [← e2]; exact hw, fun W hF hS => ?_⟩)
      have := hx W hF hS
      rw [e1] at this
      exact givesW_mono (fun u F' G' hk => ⟨keep u, by rw [← Act.put_comm a v u h2]; exact hk⟩) _ this
    · refine .inr (.inr ⟨by rw [← e2]; exact hw, fun W hF hS => ?_⟩)
      have := hx W hF hS
      rw [e1] at this
      exact givesX_mono (fun u F' hk => ⟨keep u, by rw [← Act.put_comm a v u h2]; exact hk⟩) _ this
theorem seqB_mem {g k : Nat} {listed : Array Bool} (h : Region.seqB md ops g k listed = true) : ∀ j ∈ Region.ready md ops listed, k ≤ j := seqB_ready h
theorem wpF_first {i n : Nat} {oi : Oper} {v : Value} {L : GK} (hT : tailB md ops n = true) (hin : i < n) (hi : ops[i]? = some oi) (ha : isAlloc oi = false) :
    ∀ (f : Nat) (listed : Array Bool) (F : World → Prop) (G : List (Nat × Obj)) (a : Act),
      (∀ j oj, ops[j]? = some oj → j ≠ i → listed.getD j true = false → (∀ e ∈ oj.after, Region.binds md e = true → e.on ≠ i) → oi.apart ops oj = true) →
      i ∈ Region.ready md ops listed → YieldsH P ops N W0 oi v a →
      wpF P md ops N W0 n L f (listed.setIfInBounds i true) F G (a.put oi.dst v) → wpF P md ops N W0 n L (f + 1) listed F G a := by
  have hsel := Region.noSelect_spec (by have := hT; unfold tailB at this; rw [Bool.and_eq_true] at this; exact this.1)
  have base : ∀ (F : World → Prop) (G : List (Nat × Obj)) (a : Act), YieldsH P ops N W0 oi v a → ∀ K : GK, K F G (a.put oi.dst v) → wfOp P ops N W0 i K F G a := by
    intro F G a hy K H
    unfold wfOp
    simp only [hi]
    rw [if_neg (by rw [ha]; exact Bool.false_ne_true)]
    exact .inl ⟨v, hy, H⟩
  intro f
  induction f with
  | zero =>
    intro listed F G a hfree hr hy H
    have hun := (mem_ready.1 hr).1
    refine ⟨fun h => (by rw [h] at hr; cases hr), fun j hj => ?_⟩
    by_cases hji : j = i
    · subst hji
      exact base _ _ _ hy _ H
    · have h1 := seqB_mem H.1 j (ready_mono hj hji)
      have h2 := tailB_spec hT hj hin hun
      omega
  | succ f ih =>
    intro listed F G a hfree hr hy H
    have hun := (mem_ready.1 hr).1
    refine ⟨fun h => (by rw [h] at hr; cases hr), fun j hj => ?_⟩
    by_cases hji : j = i
    · subst hji
      exact base _ _ _ hy _ H
    · have h1 := H.2 j (ready_mono hj hji)
      obtain ⟨hjun, oj, hoj, hall⟩ := mem_ready.1 hj
      have hnot : ∀ e ∈ oj.after, Region.binds md e = true → e.on ≠ i := fun e he hb heq => by
        have h1 := hall e he hb
        rw [heq, getD_both hun] at h1
        cases h1
      have h2 := wfOp_put hoj (hfree j oj hoj hji hjun hnot) (fun cs b => hsel i oi cs b hi) (fun cs b => hsel j oj cs b hoj) hy h1
      have hfree' : ∀ k ok, ops[k]? = some ok → k ≠ i → (listed.setIfInBounds j true).getD k true = false →
          (∀ e ∈ ok.after, Region.binds md e = true → e.on ≠ i) → oi.apart ops ok = true := fun k ok hk hki hun hno => by
        refine hfree k ok hk hki ?_ hno
        by_cases hjk : j = k
        · subst hjk; exact hjun
        · rw [getD_set_ne true hjk] at hun; exact hun
      refine wfOp_mono (fun F' G' a' h3 => ih (listed.setIfInBounds j true) F' G' a' hfree' (ready_mono hr (Ne.symm hji)) h3.1 ?_) h2
      rw [Array.setIfInBounds_comm _ _ hji]
      exact h3.2
/-- Beside i new blocks alone may come up, till i is done. -/
def onlyF (md : Region.Mode) (ops : Array Oper) (i : Nat) : Nat → Array Bool → Bool
  | 0, listed => decide (Region.ready md ops listed = [i])
  | f + 1, listed => (Region.ready md ops listed).contains i && (Region.ready md ops listed).all fun j => j == i || match ops[i]?, ops[j]? with
      | some oi, some oj => isAlloc oj && oi.apart ops oj && onlyF md ops i f (listed.setIfInBounds j true)
      | _, _ => false
theorem freshF_ob {o : Oper} {a a' : Act} {ob ob' : Obj} (h : FreshF P ops o a ob) (h' : FreshF P ops o a' ob') (he : execOp a'.eval o = execOp a.eval o) (W : World) : ob = ob' := by
  have h1 := h.2 W
  have h2 := h'.2 W
  rw [he, h1] at h2
  have h3 : W.alloc ob = W.alloc ob' := by injection h2
  have h4 := heap_alloc_new W ob
  rw [h3, heap_alloc_new W ob'] at h4
  injection h4 with h4
  exact h4.symm
theorem SG.weak {G : List (Nat × Obj)} {p : Nat × Obj} {W : World} (h : SG N W0 (p :: G) W) : SG N W0 G W := ⟨h.1, fun q hq => h.2 q (by simp [hq])⟩
theorem wpF_callfirst {i n : Nat} {oi : Oper} {L : GK} (hsel : ∀ (j : Nat) (o : Oper) cs b, ops[j]? = some o → o.op ≠ .select cs b) (hi : ops[i]? = some oi) (hai : isAlloc oi = false) :
    ∀ (f : Nat) (listed : Array Bool) (F : World → Prop) (G : List (Nat × Obj)) (a : Act), onlyF md ops i f listed = true →
      CallX P ops N W0 oi a (wpF P md ops N W0 n L f (listed.setIfInBounds i true)) F G →
      (∀ (j : Nat) (oj : Oper), ops[j]? = some oj → isAlloc oj = true → oi.apart ops oj = true → ∃ ob, ∀ a', FreshF P ops oj a' ob) →
      wpF P md ops N W0 n L (f + 1) listed F G a := by
  intro f
  induction f with
  | zero =>
    intro listed F G a hB hx _
    simp only [onlyF, decide_eq_true_eq] at hB
    refine ⟨fun h => (by rw [h] at hB; cases hB), fun j hj => ?_⟩
    rw [hB] at hj
    obtain rfl : j = i := by simpa using hj
    unfold wfOp
    simp only [hi]
    rw [if_neg (by rw [hai]; exact Bool.false_ne_true)]
    exact .inr (.inr hx)
  | succ f ih =>
    intro listed F G a hB hx hob
    simp only [onlyF, Bool.and_eq_true, List.all_eq_true] at hB
    obtain ⟨hr, hall⟩ := hB
    have hr : i ∈ Region.ready md ops listed := by simpa using hr
    refine ⟨fun h => (by rw [h] at hr; cases hr), fun j hj => ?_⟩
    by_cases hji : j = i
    · subst hji
      unfold wfOp
      simp only [hi]
      rw [if_neg (by rw [hai]; exact Bool.false_ne_true)]
      exact .inr (.inr hx)
    · have h1 := hall j hj
      obtain ⟨hjun, oj, hoj, _⟩ := mem_ready.1 hj
      simp only [hi, hoj, Bool.or_eq_true, beq_iff_eq, hji, false_or, Bool.and_eq_true] at h1
      obtain ⟨⟨haj, hap⟩, hon⟩ := h1
      obtain ⟨ob, hfr⟩ := hob j oj hoj haj hap
      obtain ⟨p1, p2, p3⟩ := Oper.apart_spec hap
      unfold wfOp
      simp only [hoj]
      rw [if_pos haj]
      refine ⟨ob, hfr a, fun g hN hG => ih (listed.setIfInBounds j true) F ((g, ob) :: G) _ hon ⟨?_, fun W hF hS => ?_⟩ hob⟩
      · rw [wanted_put oi a oj.dst _ p3]; exact hx.1
      · have h2 := hx.2 W hF hS.weak
        rw [execOp_put oi (fun cs b => hsel i oi cs b hi) a oj.dst _ p3]
        refine givesX_mono (fun v F' hk => ?_) _ h2
        have h3 := hk.2 j (ready_mono hj hji)
        unfold wfOp at h3
        simp only [hoj] at h3
        rw [if_pos haj] at h3
        obtain ⟨ob', hf', hk'⟩ := h3
        have hobe : ob = ob' := freshF_ob (hfr _) hf' rfl W
        subst hobe
        have h4 := hk' g hN hG
        rw [Array.setIfInBounds_comm _ _ (Ne.symm hji), Act.put_comm a _ v (fun d hd => fun h => p2 d h hd)] at *
        exact h4
theorem wpOp_of_wfOp {i : Nat} {a : Act} {w : World} {F : World → Prop} {G : List (Nat × Obj)} {K : GK} {K' : Act → World → Prop} {Q' : Exit → Act → World → Prop} (hF : F w) (hC : Cl F) (hS : SG N W0 G w)
    (h : ∀ F G a w, Cl F → F w → SG N W0 G w → K F G a → K' a w) (hh : wfOp P ops N W0 i K F G a) : wpOp P ops Q' i K' a w := by
  unfold wfOp at hh
  unfold wpOp
  split
  · rename_i ho; simp only [ho] at hh
  · rename_i o ho
    simp only [ho] at hh
    split at hh
    · obtain ⟨ob, ⟨hw, hf⟩, hk⟩ := hh
      rw [if_pos hw]
      refine .inl ?_
      unfold Oper.wp
      rw [hf w]
      exact h _ _ _ _ hC (hC _ _ hF ((Below.refl _ _).alloc (Nat.le_refl _) _)) (hS.alloc ob) (hk _ hS.1.1 (fun p hp e => by have := hS.size hp; omega))
    · rcases hh with ⟨v, hy, hk⟩ | ⟨hw, hx⟩ | ⟨hw, hx⟩
      · rcases hy with ⟨hw, hg⟩ | ⟨hw, rfl⟩
        · rw [if_pos hw]
          refine .inl ?_
          have hg := hg w hS.1
          unfold Oper.wp
          generalize (execOp a.eval o).run P w = r at *
          cases r with
          | ok nx w' =>
            cases nx <;> simp only [givesB, Oper.upon] at hg ⊢
            case value u => obtain ⟨rfl, h2⟩ := hg; exact h _ _ _ _ hC (hC _ _ hF h2) (hS.below h2) hk
            case skip => obtain ⟨rfl, h2⟩ := hg; exact h _ _ _ _ hC (hC _ _ hF h2) (hS.below h2) hk
            case enter f args => exact hg.mono fun e w'' ⟨he, hw⟩ => by subst he; exact h _ _ _ _ hC (hC _ _ hF hw) (hS.below hw) hk
          | halt x w' => simp only [givesB] at hg
        · rw [if_neg (by simp [hw])]
          exact h _ _ _ _ hC hF hS hk
      · rw [if_pos hw]
        refine .inl ?_
        have hg := hx w hF hS
        unfold Oper.wp
        generalize (execOp a.eval o).run P w = r at *
        cases r with
        | ok nx w' =>
          cases nx <;> simp only [givesW, Oper.upon] at hg ⊢
          case value u => obtain ⟨v, F', G', e1, hF', hC', hS', hk⟩ := hg; injection e1 with e1; subst e1; exact h _ _ _ _ hC' hF' hS' hk
          case skip => obtain ⟨v, F', G', e1, hF', hC', hS', hk⟩ := hg; injection e1 with e1; subst e1; exact h _ _ _ _ hC' hF' hS' hk
          case enter f args => exact hg.mono fun e w'' ⟨v, F', G', e1, hF', hC', hS', hk⟩ => by subst e1; exact h _ _ _ _ hC' hF' hS' hk
        | halt x w' => simp only [givesW] at hg
      · rw [if_pos hw]
        refine .inl ?_
        have hg := hx w hF hS
        unfold Oper.wp
        generalize (execOp a.eval o).run P w = r at *
        cases r with
        | ok nx w' =>
          cases nx <;> simp only [givesX, Oper.upon] at hg ⊢
          case value u => obtain ⟨F', hb, hF', hC', hk⟩ := hg; exact h _ _ _ _ (hC.and hC') ⟨hC _ _ hF hb, hF'⟩ (hS.below hb) hk
          case skip => obtain ⟨F', hb, hF', hC', hk⟩ := hg; exact h _ _ _ _ (hC.and hC') ⟨hC _ _ hF hb, hF'⟩ (hS.below hb) hk
          case enter f args => exact hg.mono fun e w'' ⟨v, F', he, hb, hF', hC', hk⟩ => by subst he; exact h _ _ _ _ (hC.and hC') ⟨hC _ _ hF hb, hF'⟩ (hS.below hb) hk
        | halt x w' => simp only [givesX] at hg
theorem wpAny_of_wpF {n : Nat} {L : GK} {Q' : Exit → Act → World → Prop} {l : List Oper} (hops : ops = l.toArray) (hn : n ≤ l.length) (hL : ∀ F G a w, F w → SG N W0 G w → L F G a → wpList P ops Q' (l.drop n) a w) :
    ∀ (f : Nat) (listed : Array Bool) (F : World → Prop) (G : List (Nat × Obj)) (a : Act) (w : World), Cl F → F w → SG N W0 G w → wpF P md ops N W0 n L f listed F G a → wpAny P md ops Q' (f + (ops.size - n)) listed a w
  | 0, listed, F, G, a, w, hC, hF, hS, h => by
    rw [Nat.zero_add]
    have hs : ops.size - n = (l.drop n).length := by rw [hops]; simp
    rw [hs]
    exact wpAny_of_seq (l.drop n) n listed a w (fun j => by rw [hops]; simp [List.getElem?_drop]) (by rw [← hs]; exact h.1) (hL _ _ _ _ hF hS h.2)
  | f + 1, listed, F, G, a, w, hC, hF, hS, h => by
    rw [show f + 1 + (ops.size - n) = (f + (ops.size - n)) + 1 by omega]
    exact ⟨fun h0 => absurd h0 h.1, fun i hi => wpOp_of_wfOp hF hC hS (fun F' G' a' w' hC' hF' hS' h' => wpAny_of_wpF hops hn hL f _ F' G' a' w' hC' hF' hS' h') (h.2 i hi)⟩
/-- The region, taken so: n operations, then the tail. -/
theorem wp_region_float {id : Nat} {Q : Exit → Act → World → Prop} {a : Act} {l : List Oper} {W0 : World} (N n : Nat) (hN : N ≤ W0.heap.size) (F0 : World → Prop) (hF0 : F0 W0) (hC0 : Cl F0) (hm : P.follows .mixedOrders = true) (hn : n ≤ l.length)
    (h : wpF P .any l.toArray N W0 n (fun F G a' => ∀ w', F w' → SG N W0 G w' → wpList P l.toArray Q (l.drop n) a' w') n (Array.replicate l.length false) F0 [] a) : (Code.region id l.toArray true).wp P Q a W0 := by
  refine wp_region_any hm ?_
  have := wpAny_of_wpF (Q' := Q) rfl hn (fun F G a w hF hS hL => hL w hF hS) _ _ _ [] a W0.drew hC0 (hC0 _ _ hF0 (Below.refl _ _).drew) ⟨(Own.refl hN).drew, fun p hp => by cases hp⟩ h
  have e : n + (l.length - n) = l.length := by omega
  simpa [e] using this
def stepB (md : Region.Mode) (ops : Array Oper) (n i : Nat) (listed : Array Bool) : Bool :=
  tailB md ops n && decide (i < n) && (Region.ready md ops listed).contains i && Region.free md ops listed i && match ops[i]? with | some o => !isAlloc o | none => false
theorem stepB_spec {n i : Nat} {listed : Array Bool} {o : Oper} (hi : ops[i]? = some o) (h : stepB md ops n i listed = true) :
    tailB md ops n = true ∧ i < n ∧ i ∈ Region.ready md ops listed ∧ Region.free md ops listed i = true ∧ isAlloc o = false := by
  simp only [stepB, hi, Bool.and_eq_true, decide_eq_true_eq, Bool.not_eq_true'] at h
  obtain ⟨⟨⟨⟨a, b⟩, c⟩, d⟩, e⟩ := h
  exact ⟨a, b, by simpa using c, d, e⟩
/-- One operation that may come first. -/
theorem wpF_step {i f n : Nat} {o : Oper} {L : GK} {listed : Array Bool} {F : World → Prop} {G : List (Nat × Obj)} {a : Act} (hi : ops[i]? = some o) (hB : stepB md ops n i listed = true) (hg : o.guard = none) (v : Value)
    (h : GivesH P N W0 o a v) (hk : ∀ K : Act → Prop, (∀ a, wpF P md ops N W0 n L f (listed.setIfInBounds i true) F G a → K a) → K (a.put o.dst v)) : wpF P md ops N W0 n L (f + 1) listed F G a := by
  obtain ⟨h1, h2, h3, h4, h5⟩ := stepB_spec hi hB
  exact wpF_first h1 h2 hi h5 f listed F G a (Region.free_spec hi h4) h3 (.inl ⟨by simp [Region.wanted, hg], h⟩) (hk _ fun _ h => h)
theorem wpF_step_on {i f n : Nat} {o : Oper} {L : GK} {listed : Array Bool} {F : World → Prop} {G : List (Nat × Obj)} {a : Act} (hi : ops[i]? = some o) (hB : stepB md ops n i listed = true) (hg : Region.wanted o (yielded ops a.tmps) = true) (v : Value)
    (h : GivesH P N W0 o a v) (hk : ∀ K : Act → Prop, (∀ a, wpF P md ops N W0 n L f (listed.setIfInBounds i true) F G a → K a) → K (a.put o.dst v)) : wpF P md ops N W0 n L (f + 1) listed F G a := by
  obtain ⟨h1, h2, h3, h4, h5⟩ := stepB_spec hi hB
  exact wpF_first h1 h2 hi h5 f listed F G a (Region.free_spec hi h4) h3 (.inl ⟨hg, h⟩) (hk _ fun _ h => h)
theorem wpF_step_off {i f n : Nat} {o : Oper} {L : GK} {listed : Array Bool} {F : World → Prop} {G : List (Nat × Obj)} {a : Act} (hi : ops[i]? = some o) (hB : stepB md ops n i listed = true) (hg : Region.wanted o (yielded ops a.tmps) = false)
    (hk : ∀ K : Act → Prop, (∀ a, wpF P md ops N W0 n L f (listed.setIfInBounds i true) F G a → K a) → K (a.put o.dst undef)) : wpF P md ops N W0 n L (f + 1) listed F G a := by
  obtain ⟨h1, h2, h3, h4, h5⟩ := stepB_spec hi hB
  exact wpF_first h1 h2 hi h5 f listed F G a (Region.free_spec hi h4) h3 (.inr ⟨hg, rfl⟩) (hk _ fun _ h => h)
/-- The one operation that may come now, whatever it does to blocks from N on. -/
theorem wpF_wild {i f n : Nat} {o : Oper} {L : GK} {listed : Array Bool} {F : World → Prop} {G : List (Nat × Obj)} {a : Act} (hi : ops[i]? = some o) (hB : decide (Region.ready md ops listed = [i]) = true) (hg : (o.guard.isNone && !isAlloc o) = true)
    (h : ∀ W, F W → SG N W0 G W → givesW P N W0 (fun v F' G' => ∀ K : Act → Prop, (∀ a, wpF P md ops N W0 n L f (listed.setIfInBounds i true) F' G' a → K a) → K (a.put o.dst v)) ((execOp a.eval o).run P W)) : wpF P md ops N W0 n L (f + 1) listed F G a := by
  rw [decide_eq_true_eq] at hB
  rw [Bool.and_eq_true, Bool.not_eq_true'] at hg
  refine ⟨fun h0 => (by rw [h0] at hB; cases hB), fun j hj => ?_⟩
  rw [hB] at hj
  obtain rfl : j = i := by simpa using hj
  unfold wfOp
  simp only [hi]
  rw [if_neg (by rw [hg.2]; exact Bool.false_ne_true)]
  exact .inr (.inl ⟨by have := hg.1; simp [Region.wanted, Option.isNone_iff_eq_none.1 this], fun W hF hS => givesW_mono (fun v F' G' hk => hk _ fun _ h => h) _ (h W hF hS)⟩)
/-- What a new block holds at first. -/
def allocsB (P : Program) (ops : Array Oper) : Bool := ops.all fun o => match o.op with
  | .alloc T => (match P.info? T with | some i => i.zero.isSome | none => false)
  | _ => true
theorem alloc_run {o : Oper} {T : TypeId} (ho : o.op = .alloc T) {i : TypeInfo} (hi : P.info? T = some i) {z : Value} (hz : i.zero = some z) (a : Act) (W : World) :
    (execOp a.eval o).run P W = .ok (.value (.pointer (some ⟨W.heap.size, 0, none⟩))) (W.alloc (.cells z.cells T)) := by
  simp [execOp, ho, Instr.alloc, zeroValue, typeInfo, hi, hz, newVar, go_sem]
theorem allocs_fresh (h : allocsB P ops = true) (j : Nat) (oj : Oper) (hj : ops[j]? = some oj) (ha : isAlloc oj = true) : ∃ ob, ∀ a', FreshF P ops oj a' ob := by
  have h1 := Array.all_eq_true_iff_forall_mem.1 h oj (Array.mem_of_getElem? hj)
  unfold isAlloc at ha
  split at ha
  · rename_i T ho
    rw [ho] at h1
    simp only at h1
    split at h1
    · rename_i i hi
      obtain ⟨z, hz⟩ := Option.isSome_iff_exists.1 h1
      exact ⟨_, fun a' => ⟨by simp [Region.wanted, Option.isNone_iff_eq_none.1 ha], fun W => alloc_run ho hi hz a' W⟩⟩
    · cases h1
  · cases ha
def callB (md : Region.Mode) (ops : Array Oper) (n i f : Nat) (listed : Array Bool) : Bool :=
  Region.noSelect ops && onlyF md ops i f listed && match ops[i]? with | some o => !isAlloc o && o.guard.isNone | none => false
/-- A call of whatever result, which alone (beside new blocks) may come now. -/
theorem wpF_call {i f n : Nat} {o : Oper} {L : GK} {listed : Array Bool} {F : World → Prop} {G : List (Nat × Obj)} {a : Act} (hi : ops[i]? = some o) (hB : callB md ops n i f listed = true)
    (hal : allocsB P ops = true)
    (hk : ∀ W, F W → SG N W0 G W → givesX P W (fun v F' => ∀ K : Act → Prop, (∀ a, wpF P md ops N W0 n L f (listed.setIfInBounds i true) (fun W => F W ∧ F' W) G a → K a) → K (a.put o.dst v)) ((execOp a.eval o).run P W)) : wpF P md ops N W0 n L (f + 1) listed F G a := by
  simp only [callB, hi, Bool.and_eq_true, Bool.not_eq_true'] at hB
  obtain ⟨⟨hs, hon⟩, hna, hg⟩ := hB
  exact wpF_callfirst (Region.noSelect_spec hs) hi hna f listed F G a hon ⟨by simp [Region.wanted, Option.isNone_iff_eq_none.1 hg], fun W hF hS => givesX_mono (fun v F' hk => hk _ fun _ h => h) _ (hk W hF hS)⟩ (fun j oj hj ha _ => allocs_fresh hal j oj hj ha)
/-- The same, with the numbers of the operations that come next. -/
def wpI (P : Program) (md : Region.Mode) (ops : Array Oper) (N : Nat) (W0 : World) (n : Nat) (L : GK) (_ : List Nat) (m : Nat) (listed : Array Bool) (F : World → Prop) (G : List (Nat × Obj)) (a : Act) : Prop := wpF P md ops N W0 n L m listed F G a
theorem wpI_start {m n : Nat} {L : GK} {listed : Array Bool} {F : World → Prop} {G : List (Nat × Obj)} {a : Act} (is : List Nat) (h : wpI P md ops N W0 n L is m listed F G a) : wpF P md ops N W0 n L m listed F G a := h
theorem wpI_nil {m n : Nat} {L : GK} {listed : Array Bool} {F : World → Prop} {G : List (Nat × Obj)} {a : Act} (h : wpF P md ops N W0 n L m listed F G a) : wpI P md ops N W0 n L [] m listed F G a := h
theorem wpI_step {i f n : Nat} {is : List Nat} {o : Oper} {L : GK} {listed : Array Bool} {F : World → Prop} {G : List (Nat × Obj)} {a : Act} (hi : ops[i]? = some o) (hB : stepB md ops n i listed = true) (hg : o.guard = none) (v : Value)
    (h : GivesH P N W0 o a v) (hk : ∀ K : Act → Prop, (∀ a, wpI P md ops N W0 n L is f (listed.setIfInBounds i true) F G a → K a) → K (a.put o.dst v)) : wpI P md ops N W0 n L (i :: is) (f + 1) listed F G a := wpF_step hi hB hg v h hk
theorem wpI_on {i f n : Nat} {is : List Nat} {o : Oper} {L : GK} {listed : Array Bool} {F : World → Prop} {G : List (Nat × Obj)} {a : Act} (hi : ops[i]? = some o) (hB : stepB md ops n i listed = true) (hg : Region.wanted o (yielded ops a.tmps) = true) (v : Value)
    (h : GivesH P N W0 o a v) (hk : ∀ K : Act → Prop, (∀ a, wpI P md ops N W0 n L is f (listed.setIfInBounds i true) F G a → K a) → K (a.put o.dst v)) : wpI P md ops N W0 n L (i :: is) (f + 1) listed F G a := wpF_step_on hi hB hg v h hk
theorem wpI_off {i f n : Nat} {is : List Nat} {o : Oper} {L : GK} {listed : Array Bool} {F : World → Prop} {G : List (Nat × Obj)} {a : Act} (hi : ops[i]? = some o) (hB : stepB md ops n i listed = true) (hg : Region.wanted o (yielded ops a.tmps) = false)
    (hk : ∀ K : Act → Prop, (∀ a, wpI P md ops N W0 n L is f (listed.setIfInBounds i true) F G a → K a) → K (a.put o.dst undef)) : wpI P md ops N W0 n L (i :: is) (f + 1) listed F G a := wpF_step_off hi hB hg hk
theorem wpF_done {n : Nat} {L : GK} {listed : Array Bool} {F : World → Prop} {G : List (Nat × Obj)} {a : Act} (hB : Region.seqB md ops (ops.size - n) n listed = true) (h : L F G a) : wpF P md ops N W0 n L 0 listed F G a := ⟨hB, h⟩
/-- A store into a new block. -/
theorem SG.put {G : List (Nat × Obj)} {W : World} {g : Nat} {cs : Array Value} {T : TypeId} (h : SG N W0 ((g, .cells cs T) :: G) W) (hG : ∀ p ∈ G, p.1 ≠ g) (k : Nat) (x : Value) :
    SG N W0 ((g, .cells (cs.setIfInBounds k x) T) :: G) (W.setCell ⟨g, k, none⟩ x) := by
  have h0 := h.2 (g, .cells cs T) (by simp)
  refine ⟨h.1.setCell h0.1 _, fun p hp => ?_⟩
  rcases List.mem_cons.1 hp with rfl | hp
  · refine ⟨h0.1, ?_⟩
    have h1 := h0.2
    simp only at h1
    simp [World.setCell, Array.getElem?_modify, h1]
  · have h2 := h.2 p (by simp [hp])
    refine ⟨h2.1, ?_⟩
    rw [Below.heap_setCell _ _ _ _ (hG p hp)]
    exact h2.2
end
attribute [go_sem] givesB_value givesB_skip givesB_enter givesX_value givesX_enter givesW_value givesW_skip givesW_enter
end Go.Proofs.Ytgejdaincnclpaa
namespace Go.Proofs.Ytgejdaincnclpaa
open Go Go.RowKit
set_option linter.unusedVariables false
def VAt (w : World) (A : Option Addr) (l : List V2) : Prop := ∀ k x, l[k]? = some x → ∃ g o, A = some ⟨g, o, none⟩ ∧ g < w.heap.size ∧ w.cell? ⟨g, o + k * 2, none⟩ = some (.int .i64 x.1) ∧ w.cell? ⟨g, o + k * 2 + 1, none⟩ = some (.int .i64 x.2)
theorem VAt.nil (w : World) (A : Option Addr) : VAt w A [] := fun k x h => by simp at h
theorem VAt.below {w w1 : World} {A : Option Addr} {l : List V2} {B : Nat} (h : VAt w A l) (hb : Below B w w1) (hB : w.heap.size ≤ B) : VAt w1 A l := by
  intro k x hx
  obtain ⟨g, o, e, hg, a, b⟩ := h k x hx
  have hs := hb.size
  refine ⟨g, o, e, ?_, ?_, ?_⟩
  · exact Nat.lt_of_lt_of_le hg hb.size
  · rw [hb.cell (by simp; omega)]; exact a
  · rw [hb.cell (by simp; omega)]; exact b
theorem VAt.own {w w1 : World} {A : Option Addr} {l : List V2} {N : Nat} (h : VAt w A l) (hb : Own N w w1) (hN : w.heap.size ≤ N) : VAt w1 A l := h.below hb.2 hN
theorem VAt.vs {w : World} {A : Option Addr} {l : List V2} (h : VAt w A l) (hl : 0 < l.length) : ∃ g o, A = some ⟨g, o, none⟩ ∧ g < w.heap.size ∧ VsAt w g o l := by
  obtain ⟨g, o, e, hg, _⟩ := h 0 (l[0]) (by simp)
  refine ⟨g, o, e, hg, fun k x hx => ?_⟩
  obtain ⟨g', o', e', _, a⟩ := h k x hx
  rw [e] at e'
  simp only [Option.some.injEq, Addr.mk.injEq] at e'
  obtain ⟨rfl, rfl, _⟩ := e'
  exact a
theorem VsAt.vat {w : World} {g o : Nat} {l : List V2} (h : VsAt w g o l) (hg : g < w.heap.size) : VAt w (some ⟨g, o, none⟩) l := fun k x hx => ⟨g, o, rfl, hg, h k x hx⟩
theorem own_vat {w : World} {base : Nat} {e : TypeId} {cap : Nat} {A : Option Addr} {l : List V2} (h : w.ownsRow base e 2 (.slice A l.length cap) l.length (flatV l)) : VAt w A l := by
  rcases Nat.eq_zero_or_pos l.length with h0 | h0
  · rw [List.length_eq_zero_iff.1 h0]; exact VAt.nil _ _
  · rcases own_formS h with ⟨hn, _⟩ | ⟨_, g, c, hv, _, hg, _⟩
    · omega
    · simp only [Value.slice.injEq] at hv
      obtain ⟨rfl, _, rfl⟩ := hv
      exact (own_vsAt h).vat hg
theorem own_slice {w : World} {base size n : Nat} {e : TypeId} {v : Value} {xs : List Value} (h : w.ownsRow base e size v n xs) : ∃ A c, v = .slice A n c := by
  rcases h.2 with ⟨hv, hn⟩ | ⟨g, cap, cur, hv, _⟩
  · subst hn; exact ⟨_, _, hv⟩
  · exact ⟨_, _, hv⟩
end Go.Proofs.Ytgejdaincnclpaa
namespace Go.Proofs.Ytgejdaincnclpaa
open Go Go.RowKit
set_option linter.unusedVariables false
def nearB (n : Int) (x : V2) : Bool := withinB x.1 x.2 n
set_option maxHeartbeats 2000000 in
theorem rwithin_any (n : Int) (l : List V2) (A : Option Addr) (c : Nat) (w : World) (hl : l.length ≤ 1000000) (hV : VAt w A l) (n0 : 0 ≤ n) (n1 : n ≤ 1000000000) :
    Calls Try.prog 47 #[.int .i64 n, .slice A l.length c] w fun e w' => e = .returned (.bool (l.all (nearB n))) ∧ Below w.heap.size w w' := by
  have HV := Lib.hid hV
  obtain ⟨R, hR⟩ : ∃ R, R = l.all (nearB n) := ⟨_, rfl⟩
  rw [← hR]
  have HR := Lib.hid hR
  clear hV hR
  go_enter Try.func47, Try.ntmps47; (try simp only [List.append_eq, List.cons_append, List.nil_append])
  go_wp2_with fail
  go_loopw [9] (fun t wr => ∃ k : Nat, k ≤ l.length ∧ t = .int .i64 k ∧ Hid ((l.take k).all (nearB n) = true) ∧ Below w.heap.size w wr) (fun t _ => l.length - (intOf t).toNat)
  case atStart => exact ⟨0, by omega, rfl, Lib.hid rfl, Below.refl _ _⟩
  case round =>
    obtain ⟨k, hk, rfl, HA, hb_wr⟩ := hrel
    have hz_wr := hb_wr.size
    have HB := Lib.hid hb_wr
    have i1 : (0 : Int) ≤ (k : Int) := by omega
    by_cases hlt : k < l.length
    · obtain ⟨⟨a, b⟩, hx⟩ : ∃ x, l[k]? = some x := ⟨l[k], by simp⟩
      obtain ⟨g, o, rfl, hg, a0, a1⟩ := (HV.out.below HB.out (Nat.le_refl _)) k _ hx
      have hall := all_take_succ (p := nearB n) hx
      have HX := Lib.hid hx
      have HN := Lib.hid hall
      have i2 : (k : Int) < (l.length : Int) := by omega
      simp only at a0 a1
      clear hb_wr hx hall
      by_cases hin : -n ≤ a ∧ a ≤ n ∧ -n ≤ b ∧ b ≤ n
      · obtain ⟨j1, j2, j3, j4⟩ := hin
        have HN2 := Lib.hid (show (l.take (k + 1)).all (nearB n) = true by rw [HN.out, HA.out]; simp [nearB, withinB]; omega)
        go_wp2_with fail
        go_roundw
        case rel => exact ⟨k + 1, by omega, by go_num, HN2, HB.out.trans (show Below w.heap.size wr _ by ((with_reducible (repeat (first | exact bR _ _ | refine bS ?_ ?_ _ | refine bA ?_ ?_ _ | refine bD ?_ | refine bT ?_ (by assumption) ?_ | refine bO (by assumption) ?_ ?_))) <;> (first | omega | (simp; done) | (simp <;> omega))))⟩
        case measure => simp [intOf]; omega
      · have hfin : R = false := by
          rw [HR.out, List.all_eq_false]
          exact ⟨(a, b), List.mem_of_getElem? HX.out, by simp only [nearB, withinB, decide_eq_true_eq]; exact hin⟩
        subst hfin
        have h4 : a < -n ∨ (-n ≤ a ∧ n < a) ∨ (-n ≤ a ∧ a ≤ n ∧ b < -n) ∨ (-n ≤ a ∧ a ≤ n ∧ -n ≤ b ∧ n < b) := by omega
        clear hin
        rcases h4 with h4 | ⟨h4, h5⟩ | ⟨h4, h5, h6⟩ | ⟨h4, h5, h6, h7⟩
        all_goals
          go_wp2_with fail
          go_ret
          exact ⟨rfl, HB.out.trans (show Below w.heap.size wr _ by ((with_reducible (repeat (first | exact bR _ _ | refine bS ?_ ?_ _ | refine bA ?_ ?_ _ | refine bD ?_ | refine bT ?_ (by assumption) ?_ | refine bO (by assumption) ?_ ?_))) <;> (first | omega | (simp; done) | (simp <;> omega))))⟩
    · obtain rfl : k = l.length := by omega
      have hfin : R = true := by rw [HR.out]; have := HA.out; rwa [List.take_length] at this
      subst hfin
      clear hb_wr
      go_wp2_with fail
      go_ret
      exact ⟨rfl, HB.out⟩
def IAt (w : World) (A : Option Addr) (l : List Int) : Prop := ∀ k x, l[k]? = some x → ∃ g o, A = some ⟨g, o, none⟩ ∧ g < w.heap.size ∧ w.cell? ⟨g, o + k, none⟩ = some (.int .i64 x)
theorem IAt.below {w w1 : World} {A : Option Addr} {l : List Int} {B : Nat} (h : IAt w A l) (hb : Below B w w1) (hB : w.heap.size ≤ B) : IAt w1 A l := fun k x hx => by
  obtain ⟨g, o, hA, hg, h0⟩ := h k x hx
  exact ⟨g, o, hA, Nat.lt_of_lt_of_le hg hb.size, (hb.cell (p := ⟨g, o + k, none⟩) (Nat.lt_of_lt_of_le hg hB)).trans h0⟩
theorem own_iat {w : World} {base : Nat} {e : TypeId} {cap : Nat} {A : Option Addr} {l : List Int} (h : w.ownsRow base e 1 (.slice A l.length cap) l.length (l.map (Value.int .i64))) : IAt w A l := fun k x hx => by
  have hk := (List.getElem?_eq_some_iff.1 hx).1
  rcases own_formS h with ⟨hn, _⟩ | ⟨_, g, c, hv, _, hg, _⟩
  · omega
  · simp only [Value.slice.injEq] at hv
    obtain ⟨rfl, _, rfl⟩ := hv
    refine ⟨g, 0, rfl, hg, ?_⟩
    rw [Nat.zero_add, h.cellAt k (by omega), List.getElem?_map, hx]
    rfl
theorem flatV_at {l : List V2} {j : Nat} {u : Value} (h : (flatV l)[j]? = some u) : ∃ k r x, j = k * 2 + r ∧ r < 2 ∧ l[k]? = some x ∧ (cellsOfV x)[r]? = some u := by
  have hj := (List.getElem?_eq_some_iff.1 h).1
  rw [flatV_len] at hj
  have hk : j / 2 < l.length := by omega
  have e : j = j / 2 * 2 + j % 2 := by omega
  refine ⟨j / 2, j % 2, l[j / 2], e, by omega, by simp, ?_⟩
  have := flatV_get (l := l) (k := j / 2) (j := j % 2) (x := l[j / 2]) (by simp) (by omega)
  rw [← e, h] at this
  exact this.symm
def CVOut (l : List V2) (w : World) (e : Ending) (w' : World) : Prop := Below w.heap.size w w' ∧ ∃ A c, e = .returned (.slice A l.length c) ∧ w'.ownsRow w.heap.size 32 2 (.slice A l.length c) l.length (flatV l)
set_option maxHeartbeats 1000000 in
theorem clonev_any (l : List V2) (A : Option Addr) (c : Nat) (w : World) (hl : l.length ≤ 1000) (hV : VAt w A l) :
    Calls Try.prog 24 #[.slice A l.length c] w (CVOut l w) := by
  have q22 : ∀ (w : World) (a : Option Addr) (n c n' c' : Nat), (binOp .eql 30 (.slice a n c) (.slice none n' c')).run Try.prog w = .ok (.bool a.isNone) w := fun w a n c n' c' => Lib.run_eql_slice_nil w _ _ a n c n' c' Try.underlying30
  have u22 : ∀ w, Sem.run Try.prog (underlying 30) w = .ok (TypeDesc.slice 32) w := run_underlying Try.underlying30
  obtain ⟨i0, hi0, hy⟩ := Option.map_eq_some_iff.1 vecInfo
  simp only [Prod.mk.injEq] at hy
  obtain ⟨hy0, hy1, hy2⟩ := hy
  rcases A with _ | a
  · have hnil : l = [] := by
      cases l with
      | nil => rfl
      | cons x l => obtain ⟨g, o, hA, _⟩ := hV 0 x rfl; cases hA
    subst hnil
    go_enter Try.func24, Try.ntmps24; (try simp only [List.append_eq, List.cons_append, List.nil_append])
    go_wp2_with fail
    go_ret
    exact ⟨Below.refl _ _, none, 0, rfl, World.ownsRow_nil _ _ _ _⟩
  · have hc : ∀ j u, (flatV l)[j]? = some u → w.cell? (a.add j) = some u := by
      intro j u hj
      obtain ⟨k, r, x, rfl, hr, hx, hu⟩ := flatV_at hj
      obtain ⟨g, o, hA, _, c0, c1⟩ := hV k x hx
      obtain rfl : a = ⟨g, o, none⟩ := Option.some.inj hA
      rw [Addr.add_lit]
      rcases (by omega : r = 0 ∨ r = 1) with rfl | rfl
      · simp only [cellsOfV, List.getElem?_cons_zero, Option.some.injEq] at hu
        rw [← hu]; simpa using c0
      · simp only [cellsOfV, List.getElem?_cons_succ, List.getElem?_cons_zero, Option.some.injEq] at hu
        rw [← hu]; simpa [Nat.add_assoc] using c1
    have HC := Lib.hid hc
    clear hc hV
    go_enter Try.func24, Try.ntmps24; (try simp only [List.append_eq, List.cons_append, List.nil_append])
    go_wp2_with (at_builtin; refine wpList_append_own _ rfl _ _ 30 rfl w.heap.size 32 i0 _ 2 16 Try.underlying30 hi0 hy0 hy1 hy2 rfl (by decide) _ _ _ rfl (World.ownsRow_made w #[] 0 (Nat.le_refl _) (Nat.zero_le _) rfl) a l.length c (flatV l) rfl ?qc1 ?qc2 ?qc3 ?qc4 ?qc5 ?qc6 ?_)
    case qc1 => first | rfl | (rw [flatV_len]) | (rw [flatV_len]; omega)
    case qc2 => intro j u hj; exact Lib.cell?_alloc_some _ (HC.out j u hj)
    case qc3 => intro u hu; obtain ⟨x, hx, hxu⟩ := List.mem_flatMap.1 hu; simp [cellsOfV] at hxu; rcases hxu with rfl | rfl <;> rfl
    case qc4 => unfold maxLen; omega
    case qc5 => omega
    case qc6 => simp
    intro v' w1 hown hgrow hnil
    obtain ⟨A', c', rfl⟩ := own_slice hown
    go_wp2_with fail
    go_ret
    refine ⟨((Below.refl _ w).alloc (Nat.le_refl _) _).grown hgrow (by simp) (by intro k hk; simp [Value.ownBlock] at hk; omega), A', c', ?_, ?_⟩
    · simp
    · simpa using hown
end Go.Proofs.Ytgejdaincnclpaa
namespace Go.Proofs.Ytgejdaincnclpaa
open Go Go.RowKit
theorem cel10 {G : Prop} {N b : Nat} {W w : World} {v0 v1 v2 v3 v4 v5 v6 v7 v8 v9 : Value} (hb : Below N W w) (h1 : b < N) (h2 : b < w.heap.size) (c0 : W.cell? ⟨b, 0, none⟩ = some v0) (c1 : W.cell? ⟨b, 1, none⟩ = some v1) (c2 : W.cell? ⟨b, 2, none⟩ = some v2) (c3 : W.cell? ⟨b, 3, none⟩ = some v3) (c4 : W.cell? ⟨b, 4, none⟩ = some v4) (c5 : W.cell? ⟨b, 5, none⟩ = some v5) (c6 : W.cell? ⟨b, 6, none⟩ = some v6) (c7 : W.cell? ⟨b, 7, none⟩ = some v7) (c8 : W.cell? ⟨b, 8, none⟩ = some v8) (c9 : W.cell? ⟨b, 9, none⟩ = some v9) (hf : ∀ o, W.frozen? ⟨b, o, none⟩ = false) (k : w.cell? ⟨b, 0, none⟩ = some v0 → w.cell? ⟨b, 1, none⟩ = some v1 → w.cell? ⟨b, 2, none⟩ = some v2 → w.cell? ⟨b, 3, none⟩ = some v3 → w.cell? ⟨b, 4, none⟩ = some v4 → w.cell? ⟨b, 5, none⟩ = some v5 → w.cell? ⟨b, 6, none⟩ = some v6 → w.cell? ⟨b, 7, none⟩ = some v7 → w.cell? ⟨b, 8, none⟩ = some v8 → w.cell? ⟨b, 9, none⟩ = some v9 → (∀ o, w.frozen? ⟨b, o, none⟩ = false) → (b < w.heap.size ∧ b < w.heap.size + 1 ∧ b < w.heap.size + 1 + 1 ∧ b < w.heap.size + 1 + 1 + 1) → G) : G :=
  k (by rw [hb.cell (p := ⟨b, 0, none⟩) h1]; exact c0) (by rw [hb.cell (p := ⟨b, 1, none⟩) h1]; exact c1) (by rw [hb.cell (p := ⟨b, 2, none⟩) h1]; exact c2) (by rw [hb.cell (p := ⟨b, 3, none⟩) h1]; exact c3) (by rw [hb.cell (p := ⟨b, 4, none⟩) h1]; exact c4) (by rw [hb.cell (p := ⟨b, 5, none⟩) h1]; exact c5) (by rw [hb.cell (p := ⟨b, 6, none⟩) h1]; exact c6) (by rw [hb.cell (p := ⟨b, 7, none⟩) h1]; exact c7) (by rw [hb.cell (p := ⟨b, 8, none⟩) h1]; exact c8) (by rw [hb.cell (p := ⟨b, 9, none⟩) h1]; exact c9) (fun o => by rw [hb.frozen (p := ⟨b, o, none⟩) h1]; exact hf o) ⟨h2, by omega, by omega, by omega⟩
/-- A meeting. -/
structure Mt where
  (a b n1 n2 w1 w2 k1 k2 e g : Int)
  deriving DecidableEq
def Mt.cells (m : Mt) : List Value := [.int .i64 m.a, .int .i64 m.b, .int .i64 m.n1, .int .i64 m.n2, .int .i64 m.w1, .int .i64 m.w2, .int .i64 m.k1, .int .i64 m.k2, .int .i64 m.e, .int .i64 m.g]
def Mt.v (m : Mt) : Value := .agg #[.int .i64 m.a, .int .i64 m.b, .int .i64 m.n1, .int .i64 m.n2, .int .i64 m.w1, .int .i64 m.w2, .int .i64 m.k1, .int .i64 m.k2, .int .i64 m.e, .int .i64 m.g]
/-- An address leads to meetings. -/
def MAt (w : World) (A : Option Addr) (l : List Mt) : Prop := ∀ k m, l[k]? = some m → ∃ g o, A = some ⟨g, o, none⟩ ∧ g < w.heap.size ∧ w.cell? ⟨g, o + k * 10, none⟩ = some (.int .i64 m.a) ∧ w.cell? ⟨g, o + k * 10 + 1, none⟩ = some (.int .i64 m.b) ∧ w.cell? ⟨g, o + k * 10 + 2, none⟩ = some (.int .i64 m.n1) ∧ w.cell? ⟨g, o + k * 10 + 3, none⟩ = some (.int .i64 m.n2) ∧ w.cell? ⟨g, o + k * 10 + 4, none⟩ = some (.int .i64 m.w1) ∧ w.cell? ⟨g, o + k * 10 + 5, none⟩ = some (.int .i64 m.w2) ∧ w.cell? ⟨g, o + k * 10 + 6, none⟩ = some (.int .i64 m.k1) ∧ w.cell? ⟨g, o + k * 10 + 7, none⟩ = some (.int .i64 m.k2) ∧ w.cell? ⟨g, o + k * 10 + 8, none⟩ = some (.int .i64 m.e) ∧ w.cell? ⟨g, o + k * 10 + 9, none⟩ = some (.int .i64 m.g)
theorem MAt.below {w w1 : World} {A : Option Addr} {l : List Mt} {B : Nat} (h : MAt w A l) (hb : Below B w w1) (hB : w.heap.size ≤ B) : MAt w1 A l := by
  intro k m hm
  obtain ⟨g, o, hA, hg, c0, c1, c2, c3, c4, c5, c6, c7, c8, c9⟩ := h k m hm
  refine ⟨g, o, hA, Nat.lt_of_lt_of_le hg hb.size, ?_, ?_, ?_, ?_, ?_, ?_, ?_, ?_, ?_, ?_⟩ <;> (rw [hb.cell (Nat.lt_of_lt_of_le hg hB)]; assumption)
/-- A contact: its ball, kind, index, and seven cells more. -/
structure Ct where
  (b k i : Int)
  (r0 r1 r2 r3 r4 r5 r6 : Value)
def Ct.cells (x : Ct) : List Value := [.int .i64 x.b, .int .i64 x.k, .int .i64 x.i, x.r0, x.r1, x.r2, x.r3, x.r4, x.r5, x.r6]
def Ct.v (x : Ct) : Value := .agg #[.int .i64 x.b, .int .i64 x.k, .int .i64 x.i, x.r0, x.r1, x.r2, x.r3, x.r4, x.r5, x.r6]
/-- An address leads to contacts. -/
def CAt (w : World) (A : Option Addr) (l : List Ct) : Prop := ∀ k x, l[k]? = some x → ∃ g o, A = some ⟨g, o, none⟩ ∧ g < w.heap.size ∧ w.cell? ⟨g, o + k * 10, none⟩ = some (.int .i64 x.b) ∧ w.cell? ⟨g, o + k * 10 + 1, none⟩ = some (.int .i64 x.k) ∧ w.cell? ⟨g, o + k * 10 + 2, none⟩ = some (.int .i64 x.i) ∧ w.cell? ⟨g, o + k * 10 + 3, none⟩ = some x.r0 ∧ w.cell? ⟨g, o + k * 10 + 4, none⟩ = some x.r1 ∧ w.cell? ⟨g, o + k * 10 + 5, none⟩ = some x.r2 ∧ w.cell? ⟨g, o + k * 10 + 6, none⟩ = some x.r3 ∧ w.cell? ⟨g, o + k * 10 + 7, none⟩ = some x.r4 ∧ w.cell? ⟨g, o + k * 10 + 8, none⟩ = some x.r5 ∧ w.cell? ⟨g, o + k * 10 + 9, none⟩ = some x.r6
theorem CAt.below {w w1 : World} {A : Option Addr} {l : List Ct} {B : Nat} (h : CAt w A l) (hb : Below B w w1) (hB : w.heap.size ≤ B) : CAt w1 A l := by
  intro k m hm
  obtain ⟨g, o, hA, hg, c0, c1, c2, c3, c4, c5, c6, c7, c8, c9⟩ := h k m hm
  refine ⟨g, o, hA, Nat.lt_of_lt_of_le hg hb.size, ?_, ?_, ?_, ?_, ?_, ?_, ?_, ?_, ?_, ?_⟩ <;> (rw [hb.cell (Nat.lt_of_lt_of_le hg hB)]; assumption)
end Go.Proofs.Ytgejdaincnclpaa
namespace Go.Proofs.Ytgejdaincnclpaa
set_option linter.unusedVariables false
/-- What can be reached from i. -/
inductive Reach (n : Nat) (sh : Nat → Nat → Bool) (i : Nat) : Nat → Prop
  | refl : Reach n sh i i
  | step {j k : Nat} : Reach n sh i j → k < n → sh j k = true → Reach n sh i k
theorem Reach.lt {n : Nat} {sh : Nat → Nat → Bool} {i j : Nat} (h : Reach n sh i j) (hi : i < n) : j < n := by
  cases h with
  | refl => exact hi
  | step _ hk _ => exact hk
theorem Reach.trans {n : Nat} {sh : Nat → Nat → Bool} {i j k : Nat} (h : Reach n sh i j) (g : Reach n sh j k) : Reach n sh i k := by
  induction g with
  | refl => exact h
  | step _ hk hs ih => exact ih.step hk hs
theorem Reach.symm {n : Nat} {sh : Nat → Nat → Bool} (hs : ∀ a b, sh a b = sh b a) {i j : Nat} (hi : i < n) (h : Reach n sh i j) : Reach n sh j i := by
  induction h with
  | refl => exact .refl
  | step hr hk hsh ih =>
    have := hr.lt hi
    exact (Reach.step .refl this (by rw [hs]; exact hsh)).trans ih
/-- Reached from an index below m. -/
def Old (n : Nat) (sh : Nat → Nat → Bool) (m j : Nat) : Prop := ∃ i, i < m ∧ Reach n sh i j
open Classical in
noncomputable def grpOf (n : Nat) (sh : Nat → Nat → Bool) (i : Nat) : List Nat := (List.range n).filter (fun j => decide (Reach n sh i j))
open Classical in
noncomputable def groupsTo (n : Nat) (sh : Nat → Nat → Bool) : Nat → List (List Nat)
  | 0 => []
  | m + 1 => groupsTo n sh m ++ (if Old n sh m m then [] else [grpOf n sh m])
theorem groupsTo_old {n : Nat} {sh : Nat → Nat → Bool} {m : Nat} (h : Old n sh m m) : groupsTo n sh (m + 1) = groupsTo n sh m := by
  show groupsTo n sh m ++ _ = _; rw [if_pos h, List.append_nil]
theorem groupsTo_new {n : Nat} {sh : Nat → Nat → Bool} {m : Nat} (h : ¬ Old n sh m m) : groupsTo n sh (m + 1) = groupsTo n sh m ++ [grpOf n sh m] := by
  show groupsTo n sh m ++ _ = _; rw [if_neg h]
theorem groupsTo_len (n : Nat) (sh : Nat → Nat → Bool) (m : Nat) : (groupsTo n sh m).length ≤ m := by
  induction m with
  | zero => exact Nat.le_refl _
  | succ m ih =>
    by_cases h : Old n sh m m
    · rw [groupsTo_old h]; omega
    · rw [groupsTo_new h, List.length_append, List.length_singleton]; omega
open Classical in
theorem mem_grp {n : Nat} {sh : Nat → Nat → Bool} {i j : Nat} : j ∈ grpOf n sh i ↔ j < n ∧ Reach n sh i j := by
  unfold grpOf
  rw [List.mem_filter, List.mem_range, decide_eq_true_eq]
theorem old_suc {n : Nat} {sh : Nat → Nat → Bool} {m j : Nat} : Old n sh (m + 1) j ↔ Old n sh m j ∨ Reach n sh m j := by
  constructor
  · rintro ⟨i, hi, h⟩
    rcases Nat.lt_or_eq_of_le (Nat.le_of_lt_succ hi) with h' | rfl
    · exact .inl ⟨i, h', h⟩
    · exact .inr h
  · rintro (⟨i, hi, h⟩ | h)
    · exact ⟨i, by omega, h⟩
    · exact ⟨m, by omega, h⟩
theorem old_same {n : Nat} {sh : Nat → Nat → Bool} {m j : Nat} (h : Old n sh m m) : Old n sh (m + 1) j ↔ Old n sh m j := by
  rw [old_suc]
  constructor
  · rintro (h' | h')
    · exact h'
    · obtain ⟨i, hi, g⟩ := h; exact ⟨i, hi, g.trans h'⟩
  · exact .inl
/-- What the first i rounds have marked. -/
def DoneI (n : Nat) (sh : Nat → Nat → Bool) (i : Nat) (d : List Bool) : Prop := d.length = n ∧ ∀ j, d[j]? = some true ↔ j < n ∧ Old n sh i j
theorem DoneI.zero (n : Nat) (sh : Nat → Nat → Bool) : DoneI n sh 0 (List.replicate n false) := ⟨by simp, fun j => by
  constructor
  · intro h
    have := List.mem_of_getElem? h
    rw [List.mem_replicate] at this
    exact absurd this.2 (by decide)
  · rintro ⟨_, i, hi, _⟩; omega⟩
theorem DoneI.old {n : Nat} {sh : Nat → Nat → Bool} {i : Nat} {d : List Bool} (h : DoneI n sh i d) (hi : d[i]? = some true) : Old n sh i i := ((h.2 i).1 hi).2
theorem DoneI.new {n : Nat} {sh : Nat → Nat → Bool} {i : Nat} {d : List Bool} (h : DoneI n sh i d) (hn : i < n) (hi : d[i]? = some false) : ¬ Old n sh i i := fun g => by
  have := (h.2 i).2 ⟨hn, g⟩
  rw [hi] at this
  exact absurd this (by decide)
theorem DoneI.skip {n : Nat} {sh : Nat → Nat → Bool} {i : Nat} {d : List Bool} (h : DoneI n sh i d) (hi : d[i]? = some true) : DoneI n sh (i + 1) d :=
  ⟨h.1, fun j => by rw [h.2, old_same (h.old hi)]⟩
/-- In the search: d marks, g is the growing list, its first p elements are closed, the next one up to k. -/
structure GI (n : Nat) (sh : Nat → Nat → Bool) (i : Nat) (d : List Bool) (g : List Nat) (p k : Nat) : Prop where
  new : ¬ Old n sh i i
  lt : i < n
  len : d.length = n
  don : ∀ j, d[j]? = some true ↔ (j < n ∧ (Old n sh i j ∨ j ∈ g))
  mem : ∀ j ∈ g, j < n ∧ Reach n sh i j
  nod : g.Nodup
  self : i ∈ g
  ple : p ≤ g.length
  clo : ∀ q a, q < p → g[q]? = some a → ∀ c, c < n → sh a c = true → d[c]? = some true
  cur : ∀ a, g[p]? = some a → ∀ c, c < k → c < n → sh a c = true → d[c]? = some true
theorem set_true_iff {d : List Bool} {k j : Nat} (hk : k < d.length) : (d.set k true)[j]? = some true ↔ d[j]? = some true ∨ j = k := by
  rw [List.getElem?_set]
  by_cases h : k = j
  · subst h; rw [if_pos rfl, if_pos hk]; simp
  · rw [if_neg h]
    constructor
    · exact .inl
    · rintro (h' | h')
      · exact h'
      · exact absurd h'.symm h
theorem GI.start {n : Nat} {sh : Nat → Nat → Bool} {i : Nat} {d : List Bool} (h : DoneI n sh i d) (hn : i < n) (hi : d[i]? = some false) : GI n sh i (d.set i true) [i] 0 0 where
  new := h.new hn hi
  lt := hn
  len := by simp [h.1]
  don := fun j => by
    rw [set_true_iff (by rw [h.1]; exact hn), h.2, List.mem_singleton]
    constructor
    · rintro (⟨a, b⟩ | rfl)
      · exact ⟨a, .inl b⟩
      · exact ⟨hn, .inr rfl⟩
    · rintro ⟨a, b | b⟩
      · exact .inl ⟨a, b⟩
      · exact .inr b
  mem := fun j hj => by rw [List.mem_singleton] at hj; subst hj; exact ⟨hn, .refl⟩
  nod := by simp
  self := by simp
  ple := Nat.zero_le _
  clo := fun q a hq => by omega
  cur := fun a _ c hc => by omega
theorem GI.len_le {n : Nat} {sh : Nat → Nat → Bool} {i : Nat} {d : List Bool} {g : List Nat} {p k : Nat} (h : GI n sh i d g p k) : g.length ≤ n := by
  simpa using h.nod.length_le_of_subset (l₂ := List.range n) (fun x hx => List.mem_range.2 (h.mem x hx).1)
/-- Nothing is added. -/
theorem GI.pass {n : Nat} {sh : Nat → Nat → Bool} {i : Nat} {d : List Bool} {g : List Nat} {p k a : Nat} (h : GI n sh i d g p k) (ha : g[p]? = some a) (hk : k < n) (hno : d[k]? = some true ∨ sh a k = false) : GI n sh i d g p (k + 1) :=
  { h with
    cur := fun a' ha' c hc hcn hs => by
      rw [ha] at ha'
      obtain rfl := Option.some.inj ha'
      rcases Nat.lt_or_eq_of_le (Nat.le_of_lt_succ hc) with h' | rfl
      · exact h.cur a ha c h' hcn hs
      · rcases hno with h1 | h1
        · exact h1
        · rw [hs] at h1; exact absurd h1 (by decide) }
/-- One is added. -/
theorem GI.add {n : Nat} {sh : Nat → Nat → Bool} {i : Nat} {d : List Bool} {g : List Nat} {p k a : Nat} (h : GI n sh i d g p k) (ha : g[p]? = some a) (hk : k < n) (hd : d[k]? = some false) (hs : sh a k = true) : GI n sh i (d.set k true) (g ++ [k]) p (k + 1) where
  new := h.new
  lt := h.lt
  len := by simp [h.len]
  don := fun j => by
    rw [set_true_iff (by rw [h.len]; exact hk), h.don, List.mem_append, List.mem_singleton]
    constructor
    · rintro (⟨x, y | y⟩ | rfl)
      · exact ⟨x, .inl y⟩
      · exact ⟨x, .inr (.inl y)⟩
      · exact ⟨hk, .inr (.inr rfl)⟩
    · rintro ⟨x, y | y | y⟩
      · exact .inl ⟨x, .inl y⟩
      · exact .inl ⟨x, .inr y⟩
      · exact .inr y
  mem := fun j hj => by
    rw [List.mem_append, List.mem_singleton] at hj
    rcases hj with hj | rfl
    · exact h.mem j hj
    · exact ⟨hk, (h.mem a (List.mem_of_getElem? ha)).2.step hk hs⟩
  nod := by
    rw [List.nodup_append]
    refine ⟨h.nod, by simp, fun x hx y hy => ?_⟩
    rw [List.mem_singleton] at hy
    subst hy
    intro e
    subst e
    have := (h.don x).2 ⟨hk, .inr hx⟩
    rw [hd] at this
    exact absurd this (by decide)
  self := List.mem_append_left _ h.self
  ple := by have := h.ple; rw [List.length_append]; omega
  clo := fun q b hq hb c hc hsh => by
    have hlt : q < g.length := Nat.lt_of_lt_of_le hq h.ple
    rw [List.getElem?_append_left hlt] at hb
    rw [set_true_iff (by rw [h.len]; exact hk)]
    exact .inl (h.clo q b hq hb c hc hsh)
  cur := fun b hb c hc hcn hsh => by
    have hlt : p < g.length := (List.getElem?_eq_some_iff.1 ha).1
    rw [List.getElem?_append_left hlt] at hb
    rw [set_true_iff (by rw [h.len]; exact hk)]
    rcases Nat.lt_or_eq_of_le (Nat.le_of_lt_succ hc) with h' | rfl
    · exact .inl (h.cur b hb c h' hcn hsh)
    · exact .inr rfl
/-- One element is closed. -/
theorem GI.next {n : Nat} {sh : Nat → Nat → Bool} {i : Nat} {d : List Bool} {g : List Nat} {p : Nat} (h : GI n sh i d g p n) (hp : p < g.length) : GI n sh i d g (p + 1) 0 :=
  { h with
    ple := hp
    clo := fun q a hq ha c hc hs => by
      rcases Nat.lt_or_eq_of_le (Nat.le_of_lt_succ hq) with h' | rfl
      · exact h.clo q a h' ha c hc hs
      · exact h.cur a ha c hc hc hs
    cur := fun a _ c hc => by omega }
/-- At the end the list holds what can be reached. -/
theorem GI.all {n : Nat} {sh : Nat → Nat → Bool} {i : Nat} {d : List Bool} {g : List Nat} {k : Nat} (hsy : ∀ a b, sh a b = sh b a) (h : GI n sh i d g g.length k) (j : Nat) : j ∈ g ↔ j < n ∧ Reach n sh i j := by
  constructor
  · exact h.mem j
  · rintro ⟨hj, hr⟩
    induction hr with
    | refl => exact h.self
    | step hr hk hs ih =>
      rename_i x y
      have hx := ih (hr.lt h.lt)
      obtain ⟨q, hq⟩ := List.getElem?_of_mem hx
      have hql := (List.getElem?_eq_some_iff.1 hq).1
      have hd := h.clo q x hql hq y hk hs
      rcases ((h.don y).1 hd).2 with ⟨i', hi', hr'⟩ | hy
      · exfalso
        apply h.new
        exact ⟨i', hi', (hr'.step (h.mem x hx).1 (by rw [hsy]; exact hs)).trans (hr.symm hsy h.lt)⟩
      · exact hy
theorem GI.done {n : Nat} {sh : Nat → Nat → Bool} {i : Nat} {d : List Bool} {g : List Nat} {k : Nat} (hsy : ∀ a b, sh a b = sh b a) (h : GI n sh i d g g.length k) : DoneI n sh (i + 1) d :=
  ⟨h.len, fun j => by
    rw [h.don, old_suc]
    constructor
    · rintro ⟨a, b | b⟩
      · exact ⟨a, .inl b⟩
      · exact ⟨a, .inr (h.mem j b).2⟩
    · rintro ⟨a, b | b⟩
      · exact ⟨a, .inl b⟩
      · exact ⟨a, .inr ((h.all hsy j).2 ⟨a, b⟩)⟩⟩
def natI (l : List Nat) : List Int := l.map (fun j : Nat => (j : Int))
/-- Sorted, the list is the group. -/
theorem sorted_grp {n : Nat} {sh : Nat → Nat → Bool} {i : Nat} {d : List Bool} {g : List Nat} {k : Nat} (hsy : ∀ a b, sh a b = sh b a) (h : GI n sh i d g g.length k) : (natI g).mergeSort (fun x y => decide (x ≤ y)) = natI (grpOf n sh i) := by
  have hp : g.Perm (grpOf n sh i) := (List.perm_ext_iff_of_nodup h.nod (by unfold grpOf; exact List.nodup_range.filter _)).2 fun j => by rw [h.all hsy, mem_grp]
  have hp2 : ((natI g).mergeSort (fun x y => decide (x ≤ y))).Perm (natI (grpOf n sh i)) := (List.mergeSort_perm _ _).trans (hp.map _)
  refine hp2.eq_of_pairwise (le := fun x y => x ≤ y) (fun a b _ _ h1 h2 => Int.le_antisymm h1 h2) ?_ ?_
  · have := List.pairwise_mergeSort (le := fun x y : Int => decide (x ≤ y)) (fun a b c h1 h2 => by simp only [decide_eq_true_eq] at *; omega) (fun a b => by simp only [Bool.or_eq_true, decide_eq_true_eq]; omega) (natI g)
    simpa using this
  · unfold natI grpOf
    rw [List.pairwise_map]
    refine List.Pairwise.imp ?_ (List.pairwise_lt_range.filter _)
    intro a b hab
    omega
/-- The reference's search in passes: the marks b. -/
structure RI (n : Nat) (sh : Nat → Nat → Bool) (i : Nat) (b : List Bool) : Prop where
  lt : i < n
  len : b.length = n
  self : b[i]? = some true
  mem : ∀ j, b[j]? = some true → Reach n sh i j
theorem RI.start {n : Nat} {sh : Nat → Nat → Bool} {i : Nat} (hi : i < n) : RI n sh i ((List.replicate n false).set i true) where
  lt := hi
  len := by simp
  self := by rw [set_true_iff (by simpa using hi)]; exact .inr rfl
  mem := fun j hj => by
    rw [set_true_iff (by simpa using hi)] at hj
    rcases hj with hj | rfl
    · have := List.mem_of_getElem? hj
      rw [List.mem_replicate] at this
      exact absurd this.2 (by decide)
    · exact .refl
theorem RI.add {n : Nat} {sh : Nat → Nat → Bool} {i : Nat} {b : List Bool} {x y : Nat} (h : RI n sh i b) (hx : b[x]? = some true) (hy : y < n) (hs : sh x y = true) : RI n sh i (b.set y true) where
  lt := h.lt
  len := by simp [h.len]
  self := by rw [set_true_iff (by rw [h.len]; exact hy)]; exact .inl h.self
  mem := fun j hj => by
    rw [set_true_iff (by rw [h.len]; exact hy)] at hj
    rcases hj with hj | rfl
    · exact h.mem j hj
    · exact (h.mem x hx).step hy hs
/-- Closed: all pairs ahead of (x, y) in a pass. -/
def Clos (n : Nat) (sh : Nat → Nat → Bool) (b : List Bool) (x y : Nat) : Prop := ∀ p q, p < n → q < n → (p < x ∨ (p = x ∧ q < y)) → b[p]? = some true → sh p q = true → b[q]? = some true
theorem Clos.zero (n : Nat) (sh : Nat → Nat → Bool) (b : List Bool) : Clos n sh b 0 0 := fun p q _ _ h => by omega
theorem Clos.row {n : Nat} {sh : Nat → Nat → Bool} {b : List Bool} {x : Nat} (h : Clos n sh b x n) : Clos n sh b (x + 1) 0 := fun p q hp hq h' => h p q hp hq (by omega)
theorem Clos.pass {n : Nat} {sh : Nat → Nat → Bool} {b : List Bool} {x y : Nat} (h : Clos n sh b x y) (hno : b[x]? = some true → b[y]? = some true ∨ sh x y = false) : Clos n sh b x (y + 1) := fun p q hp hq hlt hb hs => by
  by_cases e : p = x ∧ q = y
  · obtain ⟨rfl, rfl⟩ := e
    rcases hno hb with h1 | h1
    · exact h1
    · rw [hs] at h1; exact absurd h1 (by decide)
  · exact h p q hp hq (by omega) hb hs
theorem RI.all {n : Nat} {sh : Nat → Nat → Bool} {i : Nat} {b : List Bool} {y : Nat} (h : RI n sh i b) (hc : Clos n sh b n y) (j : Nat) : b[j]? = some true ↔ j < n ∧ Reach n sh i j := by
  constructor
  · intro hb
    exact ⟨by have := (List.getElem?_eq_some_iff.1 hb).1; rw [h.len] at this; exact this, h.mem j hb⟩
  · rintro ⟨hj, hr⟩
    induction hr with
    | refl => exact h.self
    | step hr hk hs ih =>
      have hx := hr.lt h.lt
      exact hc _ _ hx hk (.inl hx) (ih hx) hs
/-- The marked indices below m. -/
def marked (b : List Bool) (m : Nat) : List Nat := (List.range m).filter (fun j => b[j]? == some true)
end Go.Proofs.Ytgejdaincnclpaa
namespace Go.Proofs.Ytgejdaincnclpaa
open Go.RowKit
set_option linter.unusedVariables false
theorem vsmall_any (x y : Int) (w : World) : Calls Try.prog 28 #[.agg #[.int .i64 x, .int .i64 y]] w fun e w' => e = .returned (.bool (smallB x y)) ∧ Below w.heap.size w w' := small_any x y w
def keptR (x y : Int) : V2 := if smallB x y = true then (x, y) else (0, 0)
def subR (a b c d : Int) : V2 := if smallB a b = true ∧ smallB c d = true then keptR (a - c) (b - d) else (0, 0)
def dotR (a b c d : Int) : Int := if smallB a b = true ∧ smallB c d = true then a * c + b * d else 0
set_option maxHeartbeats 400000 in
theorem vkept_ok (x y : Int) (w : World) :
    Calls Try.prog 30 #[.agg #[.int .i64 x, .int .i64 y]] w fun e w' => e = .returned (.agg #[.int .i64 (keptR x y).1, .int .i64 (keptR x y).2]) ∧ Below w.heap.size w w' := by
  unfold keptR
  by_cases hs : smallB x y = true
  · rw [if_pos hs]
    go_enter Try.func30, Try.ntmps30; (try simp only [List.append_eq, List.cons_append, List.nil_append])
    go_wp2_with (first | (go_at_call 28; refine (vsmall_any _ _ _).mono ?_; rintro e w1 ⟨rfl, hb1⟩; have hz1 : w.heap.size + 2 ≤ w1.heap.size := (by have h := hb1.size; (try simp at h); omega); have hbb := Below.mono hb1 (B' := w.heap.size + 2) (by (try simp) <;> omega); clear hb1; (with_reducible apply cel2 (b := w.heap.size) hbb); (focus ((try simp) <;> omega)); (focus omega); (focus (go_simp; try exact rfl)); (focus (go_simp; try exact rfl)); (focus (intro o; go_simp)); intro cc cc fz hl; (with_reducible apply cel2 (b := w.heap.size + 1) hbb); (focus ((try simp) <;> omega)); (focus omega); (focus (go_simp; try exact rfl)); (focus (go_simp; try exact rfl)); (focus (intro o; go_simp)); intro cc cc fz hl))
    refine bodyPost_ret (v := .agg #[.int .i64 x, .int .i64 y]) (by simp only [results, Try.results30]; go_simp) rfl ⟨?_, ?_⟩
    · rfl
    · ((with_reducible (repeat (first | exact bR _ _ | refine bS ?_ ?_ _ | refine bA ?_ ?_ _ | refine bD ?_ | refine bT ?_ (by assumption) ?_ | refine bO (by assumption) ?_ ?_))) <;> (first | omega | (simp; done) | (simp <;> omega)))
  · rw [if_neg hs]
    have hs' : smallB x y = false := by simpa using hs
    go_enter Try.func30, Try.ntmps30; (try simp only [List.append_eq, List.cons_append, List.nil_append])
    go_wp2_with (first | (go_at_call 28; refine (vsmall_any _ _ _).mono ?_; rintro e w1 ⟨rfl, hb1⟩; have hz1 : w.heap.size + 2 ≤ w1.heap.size := (by have h := hb1.size; (try simp at h); omega); have hbb := Below.mono hb1 (B' := w.heap.size + 2) (by (try simp) <;> omega); clear hb1; (with_reducible apply cel2 (b := w.heap.size) hbb); (focus ((try simp) <;> omega)); (focus omega); (focus (go_simp; try exact rfl)); (focus (go_simp; try exact rfl)); (focus (intro o; go_simp)); intro cc cc fz hl; (with_reducible apply cel2 (b := w.heap.size + 1) hbb); (focus ((try simp) <;> omega)); (focus omega); (focus (go_simp; try exact rfl)); (focus (go_simp; try exact rfl)); (focus (intro o; go_simp)); intro cc cc fz hl))
    refine bodyPost_ret (v := .agg #[.int .i64 0, .int .i64 0]) (by simp only [results, Try.results30]; go_simp) rfl ⟨?_, ?_⟩
    · rfl
    · ((with_reducible (repeat (first | exact bR _ _ | refine bS ?_ ?_ _ | refine bA ?_ ?_ _ | refine bD ?_ | refine bT ?_ (by assumption) ?_ | refine bO (by assumption) ?_ ?_))) <;> (first | omega | (simp; done) | (simp <;> omega)))
set_option maxHeartbeats 800000 in
theorem vsub_any (a b c d : Int) (w : World) :
    Calls Try.prog 36 #[.agg #[.int .i64 a, .int .i64 b], .agg #[.int .i64 c, .int .i64 d]] w fun e w' => e = .returned (.agg #[.int .i64 (subR a b c d).1, .int .i64 (subR a b c d).2]) ∧ Below w.heap.size w w' := by
  unfold subR
  cases h1 : smallB a b
  · rw [if_neg (fun h => by cases h.1)]
    go_enter Try.func36, Try.ntmps36; (try simp only [List.append_eq, List.cons_append, List.nil_append])
    go_wp2_with (first | (go_at_call 28; refine (vsmall_any _ _ _).mono ?_; rintro e w1 ⟨rfl, hb1⟩; have hz1 : w.heap.size + 3 ≤ w1.heap.size := (by have h := hb1.size; (try simp at h); omega); have hbb := Below.mono hb1 (B' := w.heap.size + 3) (by (try simp) <;> omega); clear hb1; (with_reducible apply cel2 (b := w.heap.size) hbb); (focus ((try simp) <;> omega)); (focus omega); (focus (go_simp; try exact rfl)); (focus (go_simp; try exact rfl)); (focus (intro o; go_simp)); intro cc cc fz hl; (with_reducible apply cel2 (b := w.heap.size + 1) hbb); (focus ((try simp) <;> omega)); (focus omega); (focus (go_simp; try exact rfl)); (focus (go_simp; try exact rfl)); (focus (intro o; go_simp)); intro cc cc fz hl; (with_reducible apply cel2 (b := w.heap.size + 1 + 1) hbb); (focus ((try simp) <;> omega)); (focus omega); (focus (go_simp; try exact rfl)); (focus (go_simp; try exact rfl)); (focus (intro o; go_simp)); intro cc cc fz hl))
    refine bodyPost_ret (v := .agg #[.int .i64 0, .int .i64 0]) (by simp only [results, Try.results36]; go_simp) rfl ⟨?_, ?_⟩
    · rfl
    · ((with_reducible (repeat (first | exact bR _ _ | refine bS ?_ ?_ _ | refine bA ?_ ?_ _ | refine bD ?_ | refine bT ?_ (by assumption) ?_ | refine bO (by assumption) ?_ ?_))) <;> (first | omega | (simp; done) | (simp <;> omega)))
  · cases h2 : smallB c d
    · rw [if_neg (fun h => by cases h.2)]
      go_enter Try.func36, Try.ntmps36; (try simp only [List.append_eq, List.cons_append, List.nil_append])
      go_wp2_with (first | (go_at_call 28; refine (vsmall_any _ _ _).mono ?_; rintro e w1 ⟨rfl, hb1⟩; have hz1 : w.heap.size + 3 ≤ w1.heap.size := (by have h := hb1.size; (try simp at h); omega); have hbb := Below.mono hb1 (B' := w.heap.size + 3) (by (try simp) <;> omega); clear hb1; (with_reducible apply cel2 (b := w.heap.size) hbb); (focus ((try simp) <;> omega)); (focus omega); (focus (go_simp; try exact rfl)); (focus (go_simp; try exact rfl)); (focus (intro o; go_simp)); intro cc cc fz hl; (with_reducible apply cel2 (b := w.heap.size + 1) hbb); (focus ((try simp) <;> omega)); (focus omega); (focus (go_simp; try exact rfl)); (focus (go_simp; try exact rfl)); (focus (intro o; go_simp)); intro cc cc fz hl; (with_reducible apply cel2 (b := w.heap.size + 1 + 1) hbb); (focus ((try simp) <;> omega)); (focus omega); (focus (go_simp; try exact rfl)); (focus (go_simp; try exact rfl)); (focus (intro o; go_simp)); intro cc cc fz hl))
      refine bodyPost_ret (v := .agg #[.int .i64 0, .int .i64 0]) (by simp only [results, Try.results36]; go_simp) rfl ⟨?_, ?_⟩
      · rfl
      · ((with_reducible (repeat (first | exact bR _ _ | refine bS ?_ ?_ _ | refine bA ?_ ?_ _ | refine bD ?_ | refine bT ?_ (by assumption) ?_ | refine bO (by assumption) ?_ ?_))) <;> (first | omega | (simp; done) | (simp <;> omega)))
    · rw [if_pos ⟨rfl, rfl⟩]
      obtain ⟨q1, q2, q3, q4⟩ := small_bd h1
      obtain ⟨q5, q6, q7, q8⟩ := small_bd h2
      go_enter Try.func36, Try.ntmps36; (try simp only [List.append_eq, List.cons_append, List.nil_append])
      go_wp2_with (first | (go_at_call 28; refine (vsmall_any _ _ _).mono ?_; rintro e w1 ⟨rfl, hb1⟩; have hz1 : w.heap.size + 3 ≤ w1.heap.size := (by have h := hb1.size; (try simp at h); omega); have hbb := Below.mono hb1 (B' := w.heap.size + 3) (by (try simp) <;> omega); clear hb1; (with_reducible apply cel2 (b := w.heap.size) hbb); (focus ((try simp) <;> omega)); (focus omega); (focus (go_simp; try exact rfl)); (focus (go_simp; try exact rfl)); (focus (intro o; go_simp)); intro cc cc fz hl; (with_reducible apply cel2 (b := w.heap.size + 1) hbb); (focus ((try simp) <;> omega)); (focus omega); (focus (go_simp; try exact rfl)); (focus (go_simp; try exact rfl)); (focus (intro o; go_simp)); intro cc cc fz hl; (with_reducible apply cel2 (b := w.heap.size + 1 + 1) hbb); (focus ((try simp) <;> omega)); (focus omega); (focus (go_simp; try exact rfl)); (focus (go_simp; try exact rfl)); (focus (intro o; go_simp)); intro cc cc fz hl) | (go_at_call 30; refine (vkept_ok _ _ _).mono ?_; rintro e w1 ⟨rfl, hb1⟩; have hz1 : w.heap.size + 3 ≤ w1.heap.size := (by have h := hb1.size; (try simp at h); omega); have hbb := Below.mono hb1 (B' := w.heap.size + 3) (by (try simp) <;> omega); clear hb1; (with_reducible apply cel2 (b := w.heap.size) hbb); (focus ((try simp) <;> omega)); (focus omega); (focus (go_simp; try exact rfl)); (focus (go_simp; try exact rfl)); (focus (intro o; go_simp)); intro cc cc fz hl; (with_reducible apply cel2 (b := w.heap.size + 1) hbb); (focus ((try simp) <;> omega)); (focus omega); (focus (go_simp; try exact rfl)); (focus (go_simp; try exact rfl)); (focus (intro o; go_simp)); intro cc cc fz hl; (with_reducible apply cel2 (b := w.heap.size + 1 + 1) hbb); (focus ((try simp) <;> omega)); (focus omega); (focus (go_simp; try exact rfl)); (focus (go_simp; try exact rfl)); (focus (intro o; go_simp)); intro cc cc fz hl))
      refine bodyPost_ret (v := .agg #[.int .i64 (keptR (a - c) (b - d)).1, .int .i64 (keptR (a - c) (b - d)).2]) (by simp only [results, Try.results36]; go_simp) rfl ⟨?_, ?_⟩
      · rfl
      · ((with_reducible (repeat (first | exact bR _ _ | refine bS ?_ ?_ _ | refine bA ?_ ?_ _ | refine bD ?_ | refine bT ?_ (by assumption) ?_ | refine bO (by assumption) ?_ ?_))) <;> (first | omega | (simp; done) | (simp <;> omega)))
set_option maxHeartbeats 400000 in
theorem vdot_any (a b c d : Int) (w : World) :
    Calls Try.prog 11 #[.agg #[.int .i64 a, .int .i64 b], .agg #[.int .i64 c, .int .i64 d]] w fun e w' => e = .returned (.int .i64 (dotR a b c d)) ∧ Below w.heap.size w w' := by
  unfold dotR
  cases h1 : smallB a b
  · rw [if_neg (fun h => by cases h.1)]
    go_enter Try.func11, Try.ntmps11; (try simp only [List.append_eq, List.cons_append, List.nil_append])
    go_wp2_with (first | (go_at_call 28; refine (vsmall_any _ _ _).mono ?_; rintro e w1 ⟨rfl, hb1⟩; have hz1 : w.heap.size + 2 ≤ w1.heap.size := (by have h := hb1.size; (try simp at h); omega); have hbb := Below.mono hb1 (B' := w.heap.size + 2) (by (try simp) <;> omega); clear hb1; (with_reducible apply cel2 (b := w.heap.size) hbb); (focus ((try simp) <;> omega)); (focus omega); (focus (go_simp; try exact rfl)); (focus (go_simp; try exact rfl)); (focus (intro o; go_simp)); intro cc cc fz hl; (with_reducible apply cel2 (b := w.heap.size + 1) hbb); (focus ((try simp) <;> omega)); (focus omega); (focus (go_simp; try exact rfl)); (focus (go_simp; try exact rfl)); (focus (intro o; go_simp)); intro cc cc fz hl))
    go_ret
    refine ⟨rfl, ?_⟩
    ((with_reducible (repeat (first | exact bR _ _ | refine bS ?_ ?_ _ | refine bA ?_ ?_ _ | refine bD ?_ | refine bT ?_ (by assumption) ?_ | refine bO (by assumption) ?_ ?_))) <;> (first | omega | (simp; done) | (simp <;> omega)))
  · cases h2 : smallB c d
    · rw [if_neg (fun h => by cases h.2)]
      go_enter Try.func11, Try.ntmps11; (try simp only [List.append_eq, List.cons_append, List.nil_append])
      go_wp2_with (first | (go_at_call 28; refine (vsmall_any _ _ _).mono ?_; rintro e w1 ⟨rfl, hb1⟩; have hz1 : w.heap.size + 2 ≤ w1.heap.size := (by have h := hb1.size; (try simp at h); omega); have hbb := Below.mono hb1 (B' := w.heap.size + 2) (by (try simp) <;> omega); clear hb1; (with_reducible apply cel2 (b := w.heap.size) hbb); (focus ((try simp) <;> omega)); (focus omega); (focus (go_simp; try exact rfl)); (focus (go_simp; try exact rfl)); (focus (intro o; go_simp)); intro cc cc fz hl; (with_reducible apply cel2 (b := w.heap.size + 1) hbb); (focus ((try simp) <;> omega)); (focus omega); (focus (go_simp; try exact rfl)); (focus (go_simp; try exact rfl)); (focus (intro o; go_simp)); intro cc cc fz hl))
      go_ret
      refine ⟨rfl, ?_⟩
      ((with_reducible (repeat (first | exact bR _ _ | refine bS ?_ ?_ _ | refine bA ?_ ?_ _ | refine bD ?_ | refine bT ?_ (by assumption) ?_ | refine bO (by assumption) ?_ ?_))) <;> (first | omega | (simp; done) | (simp <;> omega)))
    · rw [if_pos ⟨rfl, rfl⟩]
      obtain ⟨q1, q2, q3, q4⟩ := small_bd h1
      obtain ⟨r1, r2, r3, r4⟩ := small_bd h2
      obtain ⟨m1, m2⟩ := mul_bd a c 1073741824 1073741824 q1 q2 r1 r2
      obtain ⟨m3, m4⟩ := mul_bd b d 1073741824 1073741824 q3 q4 r3 r4
      go_enter Try.func11, Try.ntmps11; (try simp only [List.append_eq, List.cons_append, List.nil_append])
      go_wp2_with (first | (go_at_call 28; refine (vsmall_any _ _ _).mono ?_; rintro e w1 ⟨rfl, hb1⟩; have hz1 : w.heap.size + 2 ≤ w1.heap.size := (by have h := hb1.size; (try simp at h); omega); have hbb := Below.mono hb1 (B' := w.heap.size + 2) (by (try simp) <;> omega); clear hb1; (with_reducible apply cel2 (b := w.heap.size) hbb); (focus ((try simp) <;> omega)); (focus omega); (focus (go_simp; try exact rfl)); (focus (go_simp; try exact rfl)); (focus (intro o; go_simp)); intro cc cc fz hl; (with_reducible apply cel2 (b := w.heap.size + 1) hbb); (focus ((try simp) <;> omega)); (focus omega); (focus (go_simp; try exact rfl)); (focus (go_simp; try exact rfl)); (focus (intro o; go_simp)); intro cc cc fz hl))
      go_ret
      refine ⟨rfl, ?_⟩
      ((with_reducible (repeat (first | exact bR _ _ | refine bS ?_ ?_ _ | refine bA ?_ ?_ _ | refine bD ?_ | refine bT ?_ (by assumption) ?_ | refine bO (by assumption) ?_ ?_))) <;> (first | omega | (simp; done) | (simp <;> omega)))
end Go.Proofs.Ytgejdaincnclpaa
namespace Go.Proofs.Ytgejdaincnclpaa
open Go Go.RowKit
set_option linter.unusedVariables false
def permB (v1 v2 w1 w2 n1 n2 : Int) : Bool := withinB v1 v2 1048576 && withinB w1 w2 1048576 && withinB n1 n2 2097152
theorem rwithin_one (n a b : Int) (g : Nat) (w : World) (n0 : 0 ≤ n) (n1 : n ≤ 1000000000) (hg : g < w.heap.size) (h0 : w.cell? ⟨g, 0, none⟩ = some (.int .i64 a)) (h1 : w.cell? ⟨g, 1, none⟩ = some (.int .i64 b)) :
    Calls Try.prog 47 #[.int .i64 n, .slice (some ⟨g, 0, none⟩) 1 1] w fun e w' => e = .returned (.bool (withinB a b n)) ∧ Below w.heap.size w w' := by
  have := rwithin_any n [(a, b)] (some ⟨g, 0, none⟩) 1 w (by simp) (fun k x hx => by
    rcases k with _ | k
    · simp only [List.getElem?_cons_zero, Option.some.injEq] at hx
      subst hx
      exact ⟨g, 0, rfl, hg, by simpa using h0, by simpa using h1⟩
    · simp at hx) n0 n1
  simpa [nearB] using this
theorem rwithin_two (n a b c d : Int) (g : Nat) (w : World) (n0 : 0 ≤ n) (n1 : n ≤ 1000000000) (hg : g < w.heap.size) (h0 : w.cell? ⟨g, 0, none⟩ = some (.int .i64 a)) (h1 : w.cell? ⟨g, 1, none⟩ = some (.int .i64 b)) (h2 : w.cell? ⟨g, 2, none⟩ = some (.int .i64 c)) (h3 : w.cell? ⟨g, 3, none⟩ = some (.int .i64 d)) :
    Calls Try.prog 47 #[.int .i64 n, .slice (some ⟨g, 0, none⟩) 2 2] w fun e w' => e = .returned (.bool (withinB a b n && withinB c d n)) ∧ Below w.heap.size w w' := by
  have := rwithin_any n [(a, b), (c, d)] (some ⟨g, 0, none⟩) 2 w (by simp) (fun k x hx => by
    rcases k with _ | _ | k
    · simp only [List.getElem?_cons_zero, Option.some.injEq] at hx
      subst hx
      exact ⟨g, 0, rfl, hg, by simpa using h0, by simpa using h1⟩
    · simp only [List.getElem?_cons_succ, List.getElem?_cons_zero, Option.some.injEq] at hx
      subst hx
      exact ⟨g, 0, rfl, hg, by simpa using h2, by simpa using h3⟩
    · simp at hx) n0 n1
  simpa [nearB] using this
set_option maxHeartbeats 4000000 in
theorem permitted_any (v1 v2 w1 w2 n1 n2 : Int) (w : World) :
    Calls Try.prog 35 #[.agg #[.int .i64 v1, .int .i64 v2], .agg #[.int .i64 w1, .int .i64 w2], .agg #[.int .i64 n1, .int .i64 n2]] w fun e w' => e = .returned (.bool (permB v1 v2 w1 w2 n1 n2)) ∧ Below w.heap.size w w' := by
  have k1 := fun g w => rwithin_two 1048576 v1 v2 w1 w2 g w (by omega) (by omega)
  have k2 := fun g w => rwithin_one 2097152 n1 n2 g w (by omega) (by omega)
  unfold permB
  generalize (withinB v1 v2 1048576 && withinB w1 w2 1048576) = c1 at *
  generalize withinB n1 n2 2097152 = c2 at *
  have K1 := Lib.hid k1
  have K2 := Lib.hid k2
  clear k1 k2
  go_enter Try.func35, Try.ntmps35; (try simp only [List.append_eq, List.cons_append, List.nil_append])
  go_wp2_with fail
  -- own blocks: w.heap.size:2, w.heap.size + 1:2, w.heap.size + 1 + 1:2
  (go_at_call 47; refine (K1.out _ _ (by simp) (by go_simp) (by go_simp) (by go_simp) (by go_simp)).mono ?_; rintro e w1 ⟨rfl, hb_w1⟩; have hz_w1 := hb_w1.size; (try simp at hz_w1); (with_reducible apply cel2 (b := w.heap.size) hb_w1); (focus ((try simp) <;> omega)); (focus omega); (focus (go_simp; try exact rfl)); (focus (go_simp; try exact rfl)); (focus (intro o; go_simp)); intro cc cc fz hl; (with_reducible apply cel2 (b := w.heap.size + 1) hb_w1); (focus ((try simp) <;> omega)); (focus omega); (focus (go_simp; try exact rfl)); (focus (go_simp; try exact rfl)); (focus (intro o; go_simp)); intro cc cc fz hl; (with_reducible apply cel2 (b := w.heap.size + 1 + 1) hb_w1); (focus ((try simp) <;> omega)); (focus omega); (focus (go_simp; try exact rfl)); (focus (go_simp; try exact rfl)); (focus (intro o; go_simp)); intro cc cc fz hl)
  cases c1
  · go_wp2_with fail
    go_ret
    exact ⟨rfl, by ((with_reducible (repeat (first | exact bR _ _ | refine bS ?_ ?_ _ | refine bA ?_ ?_ _ | refine bD ?_ | refine bT ?_ (by assumption) ?_ | refine bO (by assumption) ?_ ?_))) <;> (first | omega | (simp; done) | (simp <;> omega)))⟩
  · go_wp2_with fail
    (go_at_call 47; refine (K2.out _ _ (by simp) (by go_simp) (by go_simp)).mono ?_; rintro e w2 ⟨rfl, hb_w2⟩; have hz_w2 := hb_w2.size; (try simp at hz_w2); (with_reducible apply cel2 (b := w.heap.size) hb_w2); (focus ((try simp) <;> omega)); (focus omega); (focus (go_simp; try exact rfl)); (focus (go_simp; try exact rfl)); (focus (intro o; go_simp)); intro cc cc fz hl; (with_reducible apply cel2 (b := w.heap.size + 1) hb_w2); (focus ((try simp) <;> omega)); (focus omega); (focus (go_simp; try exact rfl)); (focus (go_simp; try exact rfl)); (focus (intro o; go_simp)); intro cc cc fz hl; (with_reducible apply cel2 (b := w.heap.size + 1 + 1) hb_w2); (focus ((try simp) <;> omega)); (focus omega); (focus (go_simp; try exact rfl)); (focus (go_simp; try exact rfl)); (focus (intro o; go_simp)); intro cc cc fz hl)
    go_wp2_with fail
    go_ret
    exact ⟨by cases c2 <;> rfl, by ((with_reducible (repeat (first | exact bR _ _ | refine bS ?_ ?_ _ | refine bA ?_ ?_ _ | refine bD ?_ | refine bT ?_ (by assumption) ?_ | refine bO (by assumption) ?_ ?_))) <;> (first | omega | (simp; done) | (simp <;> omega)))⟩
theorem all_take_suc {α : Type} {l : List α} {p : α → Bool} {k : Nat} {x : α} (hx : l[k]? = some x) : (l.take (k + 1)).all p = ((l.take k).all p && p x) := by rw [List.take_add_one, hx]; simp
def sixB (x : Int) : Bool := decide (0 ≤ x ∧ x ≤ 15)
set_option maxHeartbeats 2000000 in
theorem sixteenths_any (l : List Int) (A : Option Addr) (c : Nat) (w : World) (hl : l.length ≤ 1000000) (hV : IAt w A l) :
    Calls Try.prog 59 #[.slice A l.length c] w fun e w' => e = .returned (.bool (l.all sixB)) ∧ Below w.heap.size w w' := by
  have HV := Lib.hid hV
  obtain ⟨R, hR⟩ : ∃ R, R = l.all sixB := ⟨_, rfl⟩
  rw [← hR]
  have HR := Lib.hid hR
  clear hV hR
  go_enter Try.func59, Try.ntmps59; (try simp only [List.append_eq, List.cons_append, List.nil_append])
  go_wp2_with fail
  go_loopw [4, 7] (fun _ t wr => ∃ k : Nat, k ≤ l.length ∧ t = .int .i64 k ∧ Hid ((l.take k).all sixB = true) ∧ Below w.heap.size w wr) (fun _ t _ => l.length - (intOf t).toNat)
  case atStart => exact ⟨0, by omega, rfl, Lib.hid rfl, Below.refl _ _⟩
  case round =>
    obtain ⟨k, hk, rfl, HA, hb_wr⟩ := hrel
    have hz_wr := hb_wr.size
    have HB := Lib.hid hb_wr
    have i1 : (0 : Int) ≤ (k : Int) := by omega
    by_cases hlt : k < l.length
    · obtain ⟨a, hx⟩ : ∃ x, l[k]? = some x := ⟨l[k], by simp⟩
      obtain ⟨g, o, rfl, hg, a0⟩ := (HV.out.below HB.out (Nat.le_refl _)) k _ hx
      have hall := all_take_suc (p := sixB) hx
      have HX := Lib.hid hx
      have HN := Lib.hid hall
      have i2 : (k : Int) < (l.length : Int) := by omega
      clear hb_wr hx hall
      by_cases hin : 0 ≤ a ∧ a ≤ 15
      · obtain ⟨j1, j2⟩ := hin
        have HN2 := Lib.hid (show (l.take (k + 1)).all sixB = true by rw [HN.out, HA.out]; simp [sixB]; omega)
        go_wp2_with fail
        go_roundw
        case rel => exact ⟨k + 1, by omega, by go_num, HN2, HB.out⟩
        case measure => simp [intOf]; omega
      · have hfin : R = false := by
          rw [HR.out, List.all_eq_false]
          exact ⟨a, List.mem_of_getElem? HX.out, by simp only [sixB, decide_eq_true_eq]; exact hin⟩
        subst hfin
        have h4 : a < 0 ∨ (0 ≤ a ∧ 15 < a) := by omega
        clear hin
        rcases h4 with h4 | ⟨h4, h5⟩
        all_goals
          go_wp2_with fail
          go_ret
          exact ⟨rfl, HB.out⟩
    · obtain rfl : k = l.length := by omega
      rw [List.take_length] at HA
      have hfin : R = true := by rw [HR.out, HA.out]
      subst hfin
      clear hb_wr
      go_wp2_with fail
      go_ret
      exact ⟨rfl, HB.out⟩
theorem sixteenths_one (a : Int) (g : Nat) (w : World) (hg : g < w.heap.size) (h0 : w.cell? ⟨g, 0, none⟩ = some (.int .i64 a)) :
    Calls Try.prog 59 #[.slice (some ⟨g, 0, none⟩) 1 1] w fun e w' => e = .returned (.bool (sixB a)) ∧ Below w.heap.size w w' := by
  have := sixteenths_any [a] (some ⟨g, 0, none⟩) 1 w (by simp) (fun k x hx => by
    rcases k with _ | k
    · simp only [List.getElem?_cons_zero, Option.some.injEq] at hx
      subst hx
      exact ⟨g, 0, rfl, hg, by simpa using h0⟩
    · simp at hx)
  simpa using this
theorem sixteenths_two (a b : Int) (g : Nat) (w : World) (hg : g < w.heap.size) (h0 : w.cell? ⟨g, 0, none⟩ = some (.int .i64 a)) (h1 : w.cell? ⟨g, 1, none⟩ = some (.int .i64 b)) :
    Calls Try.prog 59 #[.slice (some ⟨g, 0, none⟩) 2 2] w fun e w' => e = .returned (.bool (sixB a && sixB b)) ∧ Below w.heap.size w w' := by
  have := sixteenths_any [a, b] (some ⟨g, 0, none⟩) 2 w (by simp) (fun k x hx => by
    rcases k with _ | _ | k
    · simp only [List.getElem?_cons_zero, Option.some.injEq] at hx
      subst hx
      exact ⟨g, 0, rfl, hg, by simpa using h0⟩
    · simp only [List.getElem?_cons_succ, List.getElem?_cons_zero, Option.some.injEq] at hx
      subst hx
      exact ⟨g, 0, rfl, hg, by simpa using h1⟩
    · simp at hx)
  simpa using this
def apprB (v1 v2 w1 w2 n1 n2 : Int) : Bool := permB v1 v2 w1 w2 n1 n2 && decide (dotR (subR v1 v2 w1 w2).1 (subR v1 v2 w1 w2).2 n1 n2 < 0)
set_option maxHeartbeats 4000000 in
theorem approaches_any (v1 v2 w1 w2 n1 n2 : Int) (w : World) :
    Calls Try.prog 22 #[.agg #[.int .i64 v1, .int .i64 v2], .agg #[.int .i64 w1, .int .i64 w2], .agg #[.int .i64 n1, .int .i64 n2]] w fun e w' => e = .returned (.bool (apprB v1 v2 w1 w2 n1 n2)) ∧ Below w.heap.size w w' := by
  have k1 := fun w => permitted_any v1 v2 w1 w2 n1 n2 w
  have k2 := fun w => vsub_any v1 v2 w1 w2 w
  have k3 := fun w => vdot_any (subR v1 v2 w1 w2).1 (subR v1 v2 w1 w2).2 n1 n2 w
  unfold apprB
  generalize dotR (subR v1 v2 w1 w2).1 (subR v1 v2 w1 w2).2 n1 n2 = D at *
  generalize subR v1 v2 w1 w2 = S at *
  generalize permB v1 v2 w1 w2 n1 n2 = c1 at *
  have K1 := Lib.hid k1
  have K2 := Lib.hid k2
  have K3 := Lib.hid k3
  clear k1 k2 k3
  cases c1
  all_goals
    go_enter Try.func22, Try.ntmps22; (try simp only [List.append_eq, List.cons_append, List.nil_append])
    go_wp2_with fail
    -- own blocks: w.heap.size:2, w.heap.size + 1:2, w.heap.size + 1 + 1:2
    (refine pin_wp (N := _) (Nat.le_refl _) (fun w1 hb_w1 hz_w1 => ?_); (try simp at hz_w1); (with_reducible apply cel2 (b := w.heap.size) hb_w1); (focus ((try simp) <;> omega)); (focus omega); (focus (go_simp; try exact rfl)); (focus (go_simp; try exact rfl)); (focus (intro o; go_simp)); intro cc cc fz hl; (with_reducible apply cel2 (b := w.heap.size + 1) hb_w1); (focus ((try simp) <;> omega)); (focus omega); (focus (go_simp; try exact rfl)); (focus (go_simp; try exact rfl)); (focus (intro o; go_simp)); intro cc cc fz hl; (with_reducible apply cel2 (b := w.heap.size + 1 + 1) hb_w1); (focus ((try simp) <;> omega)); (focus omega); (focus (go_simp; try exact rfl)); (focus (go_simp; try exact rfl)); (focus (intro o; go_simp)); intro cc cc fz hl); refine wp_region_warm (Own w1.heap.size w1) (by kernel_rfl) (by kernel_rfl) (Own.refl (Nat.le_refl _)).drew ?_
    repeat (first | (refine wpWarm_step_off rfl (fun K hK => ?_); (go_simp; refine hK _ ?_; clear hK K)) | (apply wpWarm_step rfl; (focus (intro W' hS; have hcS := hS.cells.1; have hfS := hS.cells.2; go_simp; (first | done | exact rfl | exact ⟨rfl, hS⟩ | (go_at_call 35; exact (K1.out _).mono (fun _ _ h => ⟨h.1, hS.call h.2⟩)) | (go_at_call 36; exact (K2.out _).mono (fun _ _ h => ⟨h.1, hS.call h.2⟩)) | (go_at_call 11; exact (K3.out _).mono (fun _ _ h => ⟨h.1, hS.call h.2⟩)) | (go_simp; exact rfl)))); (intro K hK; go_simp; (try go_bits); refine hK _ ?_; clear hK K)) | (apply wpWarm_step_on rfl; (focus (intro W' hS; have hcS := hS.cells.1; have hfS := hS.cells.2; go_simp; (first | done | exact rfl | exact ⟨rfl, hS⟩ | (go_at_call 35; exact (K1.out _).mono (fun _ _ h => ⟨h.1, hS.call h.2⟩)) | (go_at_call 36; exact (K2.out _).mono (fun _ _ h => ⟨h.1, hS.call h.2⟩)) | (go_at_call 11; exact (K3.out _).mono (fun _ _ h => ⟨h.1, hS.call h.2⟩)) | (go_simp; exact rfl)))); (intro K hK; go_simp; (try go_bits); refine hK _ ?_; clear hK K)))
    (refine wpWarm_nil ?_; intro w2 hO; have hz_w2 := hO.1; have hb_w2 := hO.2; clear hO; (with_reducible apply cel2 (b := w.heap.size) hb_w2); (focus ((try simp) <;> omega)); (focus omega); (focus (go_simp; try exact rfl)); (focus (go_simp; try exact rfl)); (focus (intro o; go_simp)); intro cc cc fz hl; (with_reducible apply cel2 (b := w.heap.size + 1) hb_w2); (focus ((try simp) <;> omega)); (focus omega); (focus (go_simp; try exact rfl)); (focus (go_simp; try exact rfl)); (focus (intro o; go_simp)); intro cc cc fz hl; (with_reducible apply cel2 (b := w.heap.size + 1 + 1) hb_w2); (focus ((try simp) <;> omega)); (focus omega); (focus (go_simp; try exact rfl)); (focus (go_simp; try exact rfl)); (focus (intro o; go_simp)); intro cc cc fz hl)
    go_wp2_with fail
    go_ret
    exact ⟨by first | rfl | simp, by ((with_reducible (repeat (first | exact bR _ _ | refine bS ?_ ?_ _ | refine bA ?_ ?_ _ | refine bD ?_ | refine bT ?_ (by assumption) ?_ | refine bO (by assumption) ?_ ?_))) <;> (first | omega | (simp; done) | (simp <;> omega)))⟩
end Go.Proofs.Ytgejdaincnclpaa
namespace Go.Proofs.Ytgejdaincnclpaa
open Go Go.RowKit
set_option linter.unusedVariables false
set_option maxHeartbeats 2000000 in
theorem cwithin_any (n : Int) (l : List V2) (A : Option Addr) (c : Nat) (w : World) (hl : l.length ≤ 1000000) (hV : VAt w A l) (n0 : 0 ≤ n) (n1 : n ≤ 1000000000) :
    Calls Try.prog 20 #[.int .i64 n, .slice A l.length c] w fun e w' => e = .returned (.bool (l.all (nearB n))) ∧ Below w.heap.size w w' := by
  have HV := Lib.hid hV
  obtain ⟨R, hR⟩ : ∃ R, R = l.all (nearB n) := ⟨_, rfl⟩
  rw [← hR]
  have HR := Lib.hid hR
  clear hV hR
  go_enter Try.func20, Try.ntmps20; (try simp only [List.append_eq, List.cons_append, List.nil_append])
  go_wp2_with fail
  go_loopw [9] (fun t wr => ∃ k : Nat, k ≤ l.length ∧ t = .int .i64 k ∧ Hid ((l.take k).all (nearB n) = true) ∧ Below w.heap.size w wr) (fun t _ => l.length - (intOf t).toNat)
  case atStart => exact ⟨0, by omega, rfl, Lib.hid rfl, Below.refl _ _⟩
  case round =>
    obtain ⟨k, hk, rfl, HA, hb_wr⟩ := hrel
    have hz_wr := hb_wr.size
    have HB := Lib.hid hb_wr
    have i1 : (0 : Int) ≤ (k : Int) := by omega
    by_cases hlt : k < l.length
    · obtain ⟨⟨a, b⟩, hx⟩ : ∃ x, l[k]? = some x := ⟨l[k], by simp⟩
      obtain ⟨g, o, rfl, hg, a0, a1⟩ := (HV.out.below HB.out (Nat.le_refl _)) k _ hx
      have hall := all_take_succ (p := nearB n) hx
      have HX := Lib.hid hx
      have HN := Lib.hid hall
      have i2 : (k : Int) < (l.length : Int) := by omega
      simp only at a0 a1
      clear hb_wr hx hall
      by_cases hin : -n ≤ a ∧ a ≤ n ∧ -n ≤ b ∧ b ≤ n
      · obtain ⟨j1, j2, j3, j4⟩ := hin
        have HN2 := Lib.hid (show (l.take (k + 1)).all (nearB n) = true by rw [HN.out, HA.out]; simp [nearB, withinB]; omega)
        go_wp2_with fail
        go_roundw
        case rel => exact ⟨k + 1, by omega, by go_num, HN2, HB.out.trans (show Below w.heap.size wr _ by ((with_reducible (repeat (first | exact bR _ _ | refine bS ?_ ?_ _ | refine bA ?_ ?_ _ | refine bD ?_ | refine bT ?_ (by assumption) ?_ | refine bO (by assumption) ?_ ?_))) <;> (first | omega | (simp; done) | (simp <;> omega))))⟩
        case measure => simp [intOf]; omega
      · have hfin : R = false := by
          rw [HR.out, List.all_eq_false]
          exact ⟨(a, b), List.mem_of_getElem? HX.out, by simp only [nearB, withinB, decide_eq_true_eq]; exact hin⟩
        subst hfin
        have h4 : a < -n ∨ (-n ≤ a ∧ n < a) ∨ (-n ≤ a ∧ a ≤ n ∧ b < -n) ∨ (-n ≤ a ∧ a ≤ n ∧ -n ≤ b ∧ n < b) := by omega
        clear hin
        rcases h4 with h4 | ⟨h4, h5⟩ | ⟨h4, h5, h6⟩ | ⟨h4, h5, h6, h7⟩
        all_goals
          go_wp2_with fail
          go_ret
          exact ⟨rfl, HB.out.trans (show Below w.heap.size wr _ by ((with_reducible (repeat (first | exact bR _ _ | refine bS ?_ ?_ _ | refine bA ?_ ?_ _ | refine bD ?_ | refine bT ?_ (by assumption) ?_ | refine bO (by assumption) ?_ ?_))) <;> (first | omega | (simp; done) | (simp <;> omega))))⟩
    · obtain rfl : k = l.length := by omega
      have hfin : R = true := by rw [HR.out]; have := HA.out; rwa [List.take_length] at this
      subst hfin
      clear hb_wr
      go_wp2_with fail
      go_ret
      exact ⟨rfl, HB.out⟩
theorem cwithin_one (n a b : Int) (g : Nat) (w : World) (n0 : 0 ≤ n) (n1 : n ≤ 1000000000) (hg : g < w.heap.size) (h0 : w.cell? ⟨g, 0, none⟩ = some (.int .i64 a)) (h1 : w.cell? ⟨g, 1, none⟩ = some (.int .i64 b)) :
    Calls Try.prog 20 #[.int .i64 n, .slice (some ⟨g, 0, none⟩) 1 1] w fun e w' => e = .returned (.bool (withinB a b n)) ∧ Below w.heap.size w w' := by
  have := cwithin_any n [(a, b)] (some ⟨g, 0, none⟩) 1 w (by simp) (fun k x hx => by
    rcases k with _ | k
    · simp only [List.getElem?_cons_zero, Option.some.injEq] at hx
      subst hx
      exact ⟨g, 0, rfl, hg, by simpa using h0, by simpa using h1⟩
    · simp at hx) n0 n1
  simpa [nearB] using this
theorem cwithin_two (n a b c d : Int) (g : Nat) (w : World) (n0 : 0 ≤ n) (n1 : n ≤ 1000000000) (hg : g < w.heap.size) (h0 : w.cell? ⟨g, 0, none⟩ = some (.int .i64 a)) (h1 : w.cell? ⟨g, 1, none⟩ = some (.int .i64 b)) (h2 : w.cell? ⟨g, 2, none⟩ = some (.int .i64 c)) (h3 : w.cell? ⟨g, 3, none⟩ = some (.int .i64 d)) :
    Calls Try.prog 20 #[.int .i64 n, .slice (some ⟨g, 0, none⟩) 2 2] w fun e w' => e = .returned (.bool (withinB a b n && withinB c d n)) ∧ Below w.heap.size w w' := by
  have := cwithin_any n [(a, b), (c, d)] (some ⟨g, 0, none⟩) 2 w (by simp) (fun k x hx => by
    rcases k with _ | _ | k
    · simp only [List.getElem?_cons_zero, Option.some.injEq] at hx
      subst hx
      exact ⟨g, 0, rfl, hg, by simpa using h0, by simpa using h1⟩
    · simp only [List.getElem?_cons_succ, List.getElem?_cons_zero, Option.some.injEq] at hx
      subst hx
      exact ⟨g, 0, rfl, hg, by simpa using h2, by simpa using h3⟩
    · simp at hx) n0 n1
  simpa [nearB] using this
/-- A meeting is permitted among n balls. -/
def permM (m : Mt) (n : Int) : Bool := decide (0 ≤ m.a ∧ m.a < n ∧ -1 ≤ m.b ∧ m.b < n ∧ ¬ m.a = m.b) && (decide (m.b = -1) || decide (m.w1 = 0 ∧ m.w2 = 0 ∧ m.k1 = 0 ∧ m.k2 = 0)) && (withinB m.n1 m.n2 2097152 && (withinB m.w1 m.w2 1048576 && withinB m.k1 m.k2 1048576) && (sixB m.e && sixB m.g))
set_option maxRecDepth 100000 in
set_option maxHeartbeats 20000000 in
theorem permitted16_any (m : Mt) (n : Int) (w : World) :
    Calls Try.prog 21 #[m.v, .int .i64 n] w fun e w' => e = .returned (.bool (permM m n)) ∧ Below w.heap.size w w' := by
  obtain ⟨a, b, n1, n2, x1, x2, y1, y2, e, g⟩ := m
  obtain ⟨R, hR⟩ : ∃ R, R = permM ⟨a, b, n1, n2, x1, x2, y1, y2, e, g⟩ n := ⟨_, rfl⟩
  rw [← hR]
  unfold permM at hR
  simp only [Mt.v] at *
  have k1 := fun g w => cwithin_one 2097152 n1 n2 g w (by omega) (by omega)
  have k2 := fun g w => cwithin_two 1048576 x1 x2 y1 y2 g w (by omega) (by omega)
  generalize withinB n1 n2 2097152 = c1 at *
  generalize (withinB x1 x2 1048576 && withinB y1 y2 1048576) = c2 at *
  have K1 := Lib.hid k1
  have K2 := Lib.hid k2
  clear k1 k2
  by_cases hA : 0 ≤ a ∧ a < n ∧ -1 ≤ b ∧ b < n ∧ ¬ a = b
  · rw [decide_eq_true hA, Bool.true_and] at hR
    obtain ⟨a1, a2, b1, b2, ab⟩ := hA
    have hab : (a != b) = true := by rw [bne_iff_ne]; exact ab
    have hcase : (b = -1) ∨ (¬ b = -1 ∧ ¬ x1 = 0) ∨ (¬ b = -1 ∧ x1 = 0 ∧ ¬ x2 = 0) ∨ (¬ b = -1 ∧ x1 = 0 ∧ x2 = 0 ∧ ¬ y1 = 0) ∨ (¬ b = -1 ∧ x1 = 0 ∧ x2 = 0 ∧ y1 = 0 ∧ ¬ y2 = 0) ∨ (¬ b = -1 ∧ x1 = 0 ∧ x2 = 0 ∧ y1 = 0 ∧ y2 = 0) := by omega
    rcases hcase with h | ⟨h, h2⟩ | ⟨h, rfl, h2⟩ | ⟨h, rfl, rfl, h2⟩ | ⟨h, rfl, rfl, rfl, h2⟩ | ⟨h, rfl, rfl, rfl, rfl⟩
    case inr.inl | inr.inr.inl | inr.inr.inr.inl | inr.inr.inr.inr.inl =>
      have hfin : R = false := by rw [hR]; simp [h, h2]
      subst hfin
      have hb1 : (b == -1) = false := by rw [beq_eq_false_iff_ne]; exact h
      have hz := h2
      clear hR
      go_enter Try.func21, Try.ntmps21; (try simp only [List.append_eq, List.cons_append, List.nil_append])
      go_wp2_with fail
      go_ret
      exact ⟨rfl, by ((with_reducible (repeat (first | exact bR _ _ | refine bS ?_ ?_ _ | refine bA ?_ ?_ _ | refine bD ?_ | refine bT ?_ (by assumption) ?_ | refine bO (by assumption) ?_ ?_))) <;> (first | omega | (simp; done) | (simp <;> omega)))⟩
    all_goals
      have hfin : R = (c1 && c2 && (sixB e && sixB g)) := by rw [hR]; simp [h]
      have HF := Lib.hid hfin
      clear hR hfin
      first
        | subst h
        | have hb1 : (b == -1) = false := by rw [beq_eq_false_iff_ne]; exact h
      go_enter Try.func21, Try.ntmps21; (try simp only [List.append_eq, List.cons_append, List.nil_append])
      go_wp2_with fail
      -- own blocks: w.heap.size:10, w.heap.size + 1:2
      (go_at_call 20; refine (K1.out _ _ (by simp) (by go_simp) (by go_simp)).mono ?_; rintro e w1 ⟨rfl, hb_w1⟩; have hz_w1 := hb_w1.size; (try simp at hz_w1); (with_reducible apply cel10 (b := w.heap.size) hb_w1); (focus ((try simp) <;> omega)); (focus omega); (focus (go_simp; try exact rfl)); (focus (go_simp; try exact rfl)); (focus (go_simp; try exact rfl)); (focus (go_simp; try exact rfl)); (focus (go_simp; try exact rfl)); (focus (go_simp; try exact rfl)); (focus (go_simp; try exact rfl)); (focus (go_simp; try exact rfl)); (focus (go_simp; try exact rfl)); (focus (go_simp; try exact rfl)); (focus (intro o; go_simp)); intro cc cc cc cc cc cc cc cc cc cc fz hl; (with_reducible apply cel2 (b := w.heap.size + 1) hb_w1); (focus ((try simp) <;> omega)); (focus omega); (focus (go_simp; try exact rfl)); (focus (go_simp; try exact rfl)); (focus (intro o; go_simp)); intro cc cc fz hl)
      cases c1
      · have hr : R = false := by rw [HF.out]; rfl
        subst hr
        go_wp2_with fail
        go_ret
        exact ⟨rfl, by ((with_reducible (repeat (first | exact bR _ _ | refine bS ?_ ?_ _ | refine bA ?_ ?_ _ | refine bD ?_ | refine bT ?_ (by assumption) ?_ | refine bO (by assumption) ?_ ?_))) <;> (first | omega | (simp; done) | (simp <;> omega)))⟩
      · go_wp2_with fail
        (go_at_call 20; refine (K2.out _ _ (by simp) (by go_simp) (by go_simp) (by go_simp) (by go_simp)).mono ?_; rintro e w2 ⟨rfl, hb_w2⟩; have hz_w2 := hb_w2.size; (try simp at hz_w2); (with_reducible apply cel10 (b := w.heap.size) hb_w2); (focus ((try simp) <;> omega)); (focus omega); (focus (go_simp; try exact rfl)); (focus (go_simp; try exact rfl)); (focus (go_simp; try exact rfl)); (focus (go_simp; try exact rfl)); (focus (go_simp; try exact rfl)); (focus (go_simp; try exact rfl)); (focus (go_simp; try exact rfl)); (focus (go_simp; try exact rfl)); (focus (go_simp; try exact rfl)); (focus (go_simp; try exact rfl)); (focus (intro o; go_simp)); intro cc cc cc cc cc cc cc cc cc cc fz hl; (with_reducible apply cel2 (b := w.heap.size + 1) hb_w2); (focus ((try simp) <;> omega)); (focus omega); (focus (go_simp; try exact rfl)); (focus (go_simp; try exact rfl)); (focus (intro o; go_simp)); intro cc cc fz hl)
        cases c2
        · have hr : R = false := by rw [HF.out]; rfl
          subst hr
          go_wp2_with fail
          go_ret
          exact ⟨rfl, by ((with_reducible (repeat (first | exact bR _ _ | refine bS ?_ ?_ _ | refine bA ?_ ?_ _ | refine bD ?_ | refine bT ?_ (by assumption) ?_ | refine bO (by assumption) ?_ ?_))) <;> (first | omega | (simp; done) | (simp <;> omega)))⟩
        · have h4 : e < 0 ∨ (0 ≤ e ∧ 15 < e) ∨ (0 ≤ e ∧ e ≤ 15 ∧ g < 0) ∨ (0 ≤ e ∧ e ≤ 15 ∧ 0 ≤ g ∧ 15 < g) ∨ (0 ≤ e ∧ e ≤ 15 ∧ 0 ≤ g ∧ g ≤ 15) := by omega
          rcases h4 with h4 | ⟨h4, h5⟩ | ⟨h4, h5, h6⟩ | ⟨h4, h5, h6, h7⟩ | ⟨h4, h5, h6, h7⟩
          case inr.inr.inr.inr =>
            have hr : R = true := by rw [HF.out]; simp only [sixB, Bool.true_and, Bool.and_eq_true, decide_eq_true_eq]; omega
            subst hr
            go_wp2_with fail
            go_ret
            exact ⟨rfl, by ((with_reducible (repeat (first | exact bR _ _ | refine bS ?_ ?_ _ | refine bA ?_ ?_ _ | refine bD ?_ | refine bT ?_ (by assumption) ?_ | refine bO (by assumption) ?_ ?_))) <;> (first | omega | (simp; done) | (simp <;> omega)))⟩
          all_goals
            have hr : R = false := by rw [HF.out]; simp only [sixB, Bool.true_and, Bool.and_eq_false_iff, decide_eq_false_iff_not]; omega
            subst hr
            go_wp2_with fail
            go_ret
            refine ⟨?_, by ((with_reducible (repeat (first | exact bR _ _ | refine bS ?_ ?_ _ | refine bA ?_ ?_ _ | refine bD ?_ | refine bT ?_ (by assumption) ?_ | refine bO (by assumption) ?_ ?_))) <;> (first | omega | (simp; done) | (simp <;> omega)))⟩
            first | rfl | (show Ending.returned (.bool (decide (g ≤ 15))) = _; rw [decide_eq_false (by omega)])
  · have hfin : R = false := by rw [hR, decide_eq_false hA]; rfl
    subst hfin
    have h4 : a < 0 ∨ (0 ≤ a ∧ n ≤ a) ∨ (0 ≤ a ∧ a < n ∧ b < -1) ∨ (0 ≤ a ∧ a < n ∧ -1 ≤ b ∧ n ≤ b) ∨ (0 ≤ a ∧ a < n ∧ -1 ≤ b ∧ b < n ∧ a = b) := by omega
    clear hA hR
    rcases h4 with h4 | ⟨h4, h5⟩ | ⟨h4, h5, h6⟩ | ⟨h4, h5, h6, h7⟩ | ⟨h4, h5, h6, h7, h8⟩
    case inr.inr.inr.inr =>
      subst h8
      have hbb : (a == -1) = false := by rw [beq_eq_false_iff_ne]; omega
      go_enter Try.func21, Try.ntmps21; (try simp only [List.append_eq, List.cons_append, List.nil_append])
      go_wp2_with fail
      go_ret
      exact ⟨rfl, by ((with_reducible (repeat (first | exact bR _ _ | refine bS ?_ ?_ _ | refine bA ?_ ?_ _ | refine bD ?_ | refine bT ?_ (by assumption) ?_ | refine bO (by assumption) ?_ ?_))) <;> (first | omega | (simp; done) | (simp <;> omega)))⟩
    all_goals
      cases hbb : (b == -1)
      all_goals
        go_enter Try.func21, Try.ntmps21; (try simp only [List.append_eq, List.cons_append, List.nil_append])
        go_wp2_with fail
        go_ret
        exact ⟨rfl, by ((with_reducible (repeat (first | exact bR _ _ | refine bS ?_ ?_ _ | refine bA ?_ ?_ _ | refine bD ?_ | refine bT ?_ (by assumption) ?_ | refine bO (by assumption) ?_ ?_))) <;> (first | omega | (simp; done) | (simp <;> omega)))⟩
end Go.Proofs.Ytgejdaincnclpaa
namespace Go.Proofs.Ytgejdaincnclpaa
set_option linter.unusedVariables false
/-- Every limb is below 2^32. -/
def Lim (l : List Int) : Prop := ∀ x ∈ l, 0 ≤ x ∧ x < 4294967296
/-- The powers of 2^32. -/
def PB (k : Nat) : Int := 4294967296 ^ k
theorem PB_zero : PB 0 = 1 := rfl
theorem PB_succ (k : Nat) : PB (k + 1) = 4294967296 * PB k := by unfold PB; rw [Int.pow_succ, Int.mul_comm]
theorem PB_pos (k : Nat) : 0 < PB k := Int.pow_pos (by decide)
theorem PB_add (a b : Nat) : PB (a + b) = PB a * PB b := Int.pow_add ..
theorem PB_mono {a b : Nat} (h : a ≤ b) : PB a ≤ PB b := by
  obtain ⟨c, rfl⟩ := Nat.le.dest h
  induction c with
  | zero => exact Int.le_refl _
  | succ c ih =>
    have h1 := ih (by omega)
    have h2 := PB_pos (a + c)
    rw [← Nat.add_assoc, PB_succ]
    omega
/-- What limbs are worth, the lowest first. -/
def mv : List Int → Int
  | [] => 0
  | x :: l => x + 4294967296 * mv l
theorem mv_cons (x : Int) (l : List Int) : mv (x :: l) = x + 4294967296 * mv l := rfl
theorem Lim.nil : Lim [] := fun _ h => by cases h
theorem Lim.cons {x : Int} {l : List Int} (h0 : 0 ≤ x) (h1 : x < 4294967296) (h : Lim l) : Lim (x :: l) := by
  intro y hy
  rcases List.mem_cons.1 hy with rfl | hy
  · exact ⟨h0, h1⟩
  · exact h y hy
theorem Lim.tail {x : Int} {l : List Int} (h : Lim (x :: l)) : Lim l := fun y hy => h y (by simp [hy])
theorem Lim.take {l : List Int} (h : Lim l) (k : Nat) : Lim (l.take k) := fun y hy => h y (List.mem_of_mem_take hy)
theorem Lim.drop {l : List Int} (h : Lim l) (k : Nat) : Lim (l.drop k) := fun y hy => h y (List.mem_of_mem_drop hy)
theorem Lim.append {a b : List Int} (h : Lim a) (h' : Lim b) : Lim (a ++ b) := fun y hy => by
  rcases List.mem_append.1 hy with g | g
  · exact h y g
  · exact h' y g
theorem Lim.snoc {x : Int} {l : List Int} (h : Lim l) (h0 : 0 ≤ x) (h1 : x < 4294967296) : Lim (l ++ [x]) := h.append (Lim.cons h0 h1 Lim.nil)
theorem Lim.set {x : Int} {l : List Int} (h : Lim l) (k : Nat) (h0 : 0 ≤ x) (h1 : x < 4294967296) : Lim (l.set k x) := fun y hy => by
  rcases List.mem_or_eq_of_mem_set hy with g | rfl
  · exact h y g
  · exact ⟨h0, h1⟩
theorem Lim.get {l : List Int} (h : Lim l) {k : Nat} {x : Int} (hx : l[k]? = some x) : 0 ≤ x ∧ x < 4294967296 := h x (List.mem_of_getElem? hx)
theorem Lim.replicate (n : Nat) : Lim (List.replicate n 0) := fun y hy => by
  rw [(List.mem_replicate.1 hy).2]; omega
theorem mv_nonneg {l : List Int} (h : Lim l) : 0 ≤ mv l := by
  induction l with
  | nil => exact Int.le_refl _
  | cons x l ih =>
    have h1 := h x (by simp)
    have h2 := ih h.tail
    unfold mv
    omega
theorem mv_lt {l : List Int} (h : Lim l) : mv l < PB l.length := by
  induction l with
  | nil => exact Int.one_pos
  | cons x l ih =>
    have h1 := h x (by simp)
    have h2 := ih h.tail
    rw [List.length_cons, PB_succ]
    unfold mv
    omega
theorem mv_append (a b : List Int) : mv (a ++ b) = mv a + PB a.length * mv b := by
  induction a with
  | nil => simp [mv, PB_zero]
  | cons x a ih =>
    rw [List.cons_append, List.length_cons, PB_succ]
    rw [mv_cons, mv_cons, ih]
    grind
theorem mv_one (x : Int) : mv [x] = x := by unfold mv mv; omega
theorem mv_two (x y : Int) : mv [x, y] = x + 4294967296 * y := by unfold mv mv mv; omega
theorem mv_snoc (l : List Int) (x : Int) : mv (l ++ [x]) = mv l + PB l.length * x := by rw [mv_append, mv_one]
theorem mv_replicate (n : Nat) : mv (List.replicate n 0) = 0 := by
  induction n with
  | zero => rfl
  | succ n ih => rw [List.replicate_succ]; unfold mv; omega
theorem take_snocI {l : List Int} {k : Nat} {x : Int} (hx : l[k]? = some x) : l.take (k + 1) = l.take k ++ [x] := by rw [List.take_add_one, hx]; rfl
theorem mv_take_succ {l : List Int} {k : Nat} {x : Int} (hx : l[k]? = some x) : mv (l.take (k + 1)) = mv (l.take k) + PB k * x := by
  have hk := (List.getElem?_eq_some_iff.1 hx).1
  rw [take_snocI hx, mv_snoc, List.length_take, Nat.min_eq_left (by omega)]
theorem drop_consI {l : List Int} {k : Nat} {x : Int} (hx : l[k]? = some x) : l.drop k = x :: l.drop (k + 1) := by
  obtain ⟨hk, e⟩ := List.getElem?_eq_some_iff.1 hx
  rw [List.drop_eq_getElem_cons hk, e]
theorem mv_drop_succ {l : List Int} {k : Nat} {x : Int} (hx : l[k]? = some x) : mv (l.drop k) = x + 4294967296 * mv (l.drop (k + 1)) := by
  rw [drop_consI hx]; rfl
theorem mv_split (l : List Int) (k : Nat) (h : k ≤ l.length) : mv l = mv (l.take k) + PB k * mv (l.drop k) := by
  have e := mv_append (l.take k) (l.drop k)
  rw [List.take_append_drop, List.length_take, Nat.min_eq_left h] at e
  exact e
theorem mv_set {l : List Int} {k : Nat} {y : Int} (hy : l[k]? = some y) (x : Int) : mv (l.set k x) = mv l + PB k * (x - y) := by
  have hk := (List.getElem?_eq_some_iff.1 hy).1
  induction l generalizing k with
  | nil => simp at hk
  | cons z l ih =>
    cases k with
    | zero =>
      simp only [List.getElem?_cons_zero, Option.some.injEq] at hy
      subst hy
      rw [List.set_cons_zero, PB_zero]
      unfold mv
      omega
    | succ k =>
      simp only [List.getElem?_cons_succ] at hy
      have := ih hy (by simpa using hk)
      rw [List.set_cons_succ, PB_succ, mv_cons, mv_cons, this]
      grind
/-- The limbs of a number, without a zero at the end. -/
def canN (n : Nat) : List Int := if h : n = 0 then [] else ((n % 4294967296 : Nat) : Int) :: canN (n / 4294967296)
termination_by n
decreasing_by omega
theorem canN_zero : canN 0 = [] := by unfold canN; rfl
theorem canN_pos {n : Nat} (h : n ≠ 0) : canN n = ((n % 4294967296 : Nat) : Int) :: canN (n / 4294967296) := by
  rw [canN, dif_neg h]
theorem canN_lim (n : Nat) : Lim (canN n) := by
  induction n using Nat.strongRecOn with
  | ind n ih =>
    by_cases h : n = 0
    · subst h; rw [canN_zero]; exact Lim.nil
    · rw [canN_pos h]; exact Lim.cons (by omega) (by omega) (ih _ (by omega))
theorem mv_canN (n : Nat) : mv (canN n) = n := by
  induction n using Nat.strongRecOn with
  | ind n ih =>
    by_cases h : n = 0
    · subst h; rw [canN_zero]; rfl
    · rw [canN_pos h]; unfold mv; rw [ih _ (by omega)]; omega
theorem canN_last (n : Nat) : ∀ x, (canN n).getLast? = some x → x ≠ 0 := by
  induction n using Nat.strongRecOn with
  | ind n ih =>
    by_cases h : n = 0
    · subst h; rw [canN_zero]; intro x hx; cases hx
    · rw [canN_pos h]
      intro x hx
      by_cases h2 : n / 4294967296 = 0
      · rw [h2, canN_zero] at hx
        simp only [List.getLast?_singleton, Option.some.injEq] at hx
        omega
      · have h3 := canN_pos h2
        rw [h3, List.getLast?_cons_cons, ← h3] at hx
        exact ih _ (by omega) x hx
/-- Limbs without a zero at the end are those of their number. -/
theorem canN_of {l : List Int} (h : Lim l) (hl : ∀ x, l.getLast? = some x → x ≠ 0) : l = canN (mv l).toNat := by
  induction l with
  | nil => exact canN_zero.symm
  | cons x l ih =>
    have hx := h x (by simp)
    have h0 := mv_nonneg h.tail
    have ih' := ih h.tail (fun y hy => by
      cases l with
      | nil => cases hy
      | cons z l => exact hl y (by rw [List.getLast?_cons_cons]; exact hy))
    have hne : (mv (x :: l)).toNat ≠ 0 := by
      intro hz
      have hv : mv (x :: l) = x + 4294967296 * mv l := rfl
      have h1 : mv l = 0 := by omega
      rw [h1] at ih'
      have : canN (0 : Int).toNat = [] := canN_zero
      rw [this] at ih'
      subst ih'
      have := hl x rfl
      rw [h1] at hv
      omega
    have hv : mv (x :: l) = x + 4294967296 * mv l := rfl
    rw [canN_pos hne]
    have e1 : (((mv (x :: l)).toNat % 4294967296 : Nat) : Int) = x := by omega
    have e2 : (mv (x :: l)).toNat / 4294967296 = (mv l).toNat := by omega
    rw [e1, e2, ← ih']
theorem canN_len {n k : Nat} : (canN n).length ≤ k ↔ (n : Int) < PB k := by
  constructor
  · intro h
    have h1 := mv_lt (canN_lim n)
    rw [mv_canN] at h1
    have := PB_mono h
    omega
  · intro h
    induction k generalizing n with
    | zero =>
      have : n = 0 := by rw [PB_zero] at h; omega
      subst this; rw [canN_zero]; simp
    | succ k ih =>
      by_cases h0 : n = 0
      · subst h0; rw [canN_zero]; simp
      · rw [canN_pos h0, List.length_cons]
        have := @ih (n / 4294967296) (by rw [PB_succ] at h; omega)
        omega
theorem canN_len0 {n : Nat} : (canN n).length = 0 ↔ n = 0 := by
  constructor
  · intro h
    have := mv_canN n
    rw [List.length_eq_zero_iff.1 h] at this
    unfold mv at this
    omega
  · rintro rfl; rw [canN_zero]; rfl
/-- Limbs that end in nothing but zeros from a place on. -/
theorem mv_take_of_zero {l : List Int} {n : Nat} (h : ∀ k x, l[k]? = some x → n ≤ k → x = 0) : mv (l.take n) = mv l := by
  have hz : ∀ l : List Int, (∀ x ∈ l, x = 0) → mv l = 0 := by
    intro l
    induction l with
    | nil => intro _; rfl
    | cons y l ih =>
      intro hl
      have h1 := hl y (by simp)
      have h2 := ih (fun x hx => hl x (by simp [hx]))
      unfold mv
      omega
  rcases Nat.le_total l.length n with hl | hl
  · rw [List.take_of_length_le hl]
  · have h1 := mv_split l n hl
    have h2 := hz (l.drop n) (fun x hx => by
      obtain ⟨i, hi⟩ := List.getElem?_of_mem hx
      rw [List.getElem?_drop] at hi
      exact h _ x hi (by omega))
    rw [h2] at h1
    omega
/-- What is left when the zeros at the end are struck. -/
theorem canN_take {l : List Int} {n : Nat} (hl : Lim l) (hn : n ≤ l.length) (h : ∀ k x, l[k]? = some x → n ≤ k → x = 0) (h1 : ∀ x, 0 < n → l[n - 1]? = some x → x ≠ 0) :
    l.take n = canN (mv l).toNat := by
  have e := canN_of (hl.take n) (fun x hx => by
    rw [List.getLast?_eq_getElem?, List.length_take, Nat.min_eq_left hn] at hx
    by_cases h0 : n = 0
    · subst h0; simp at hx
    · rw [List.getElem?_take, if_pos (by omega)] at hx
      exact h1 x (by omega) hx)
  rw [mv_take_of_zero h] at e
  exact e
/-- The sign and the limbs of a number. -/
def sv (neg : Bool) (m : Int) : Int := if neg = true then -m else m
end Go.Proofs.Ytgejdaincnclpaa
namespace Go.Proofs.Ytgejdaincnclpaa
open Go Go.RowKit
set_option linter.unusedVariables false
/-- The address leads to these limbs. -/
def LAt (w : World) (A : Option Addr) (l : List Int) : Prop := ∀ k x, l[k]? = some x → ∃ g o, A = some ⟨g, o, none⟩ ∧ g < w.heap.size ∧ w.cell? ⟨g, o + k, none⟩ = some (.int .u32 x)
theorem LAt.nil (w : World) (A : Option Addr) : LAt w A [] := fun k x h => by simp at h
theorem LAt.below {w w1 : World} {A : Option Addr} {l : List Int} (h : LAt w A l) (hb : Below w.heap.size w w1) : LAt w1 A l := by
  intro k x hx
  obtain ⟨g, o, hA, hg, hc⟩ := h k x hx
  exact ⟨g, o, hA, Nat.lt_of_lt_of_le hg hb.size, by rw [hb.cell (by simpa using hg)]; exact hc⟩
theorem LAt.own {w w1 : World} {A : Option Addr} {l : List Int} {N : Nat} (h : LAt w A l) (hb : Own N w w1) (hN : w.heap.size ≤ N) : LAt w1 A l := h.below (hb.2.mono hN)
theorem LAt.cl (A : Option Addr) (l : List Int) : Cl (fun w => LAt w A l) := fun _ _ h hb => h.below hb
theorem LAt.drew {w : World} {A : Option Addr} {l : List Int} (h : LAt w A l) : LAt w.drew A l := h
theorem LAt.alloc {w : World} {A : Option Addr} {l : List Int} (h : LAt w A l) (o : Obj) : LAt (w.alloc o) A l := h.below ((Below.refl _ _).alloc (Nat.le_refl _) _)
theorem LAt.take {w : World} {A : Option Addr} {l : List Int} (h : LAt w A l) (n : Nat) : LAt w A (l.take n) := by
  intro k x hx
  rw [List.getElem?_take] at hx
  split at hx
  · exact h k x hx
  · cases hx
/-- A store where no limb was. -/
theorem LAt.setCell {w : World} {A : Option Addr} {l : List Int} (h : LAt w A l) {p : Addr} {u : Value} (hp : w.cell? p = some u) (hu : ∀ x, u ≠ .int .u32 x) (v : Value) : LAt (w.setCell p v) A l := by
  intro k x hx
  obtain ⟨g, o, hA, hg, hc⟩ := h k x hx
  refine ⟨g, o, hA, by simpa [World.setCell] using hg, ?_⟩
  rw [World.cell?_setCell_other w p _ v (fun e => by
    subst e
    rw [hc] at hp
    exact hu x (Option.some.inj hp).symm)]
  exact hc
theorem LAt.set2 {w : World} {A : Option Addr} {l : List Int} (h : LAt w A l) {b : Nat} {b0 : Bool} {a : Option Addr} {n c : Nat} (h0 : w.cell? ⟨b, 0, none⟩ = some (.bool b0)) (h1 : w.cell? ⟨b, 1, none⟩ = some (.slice a n c)) (x y : Value) :
    LAt ((w.setCell ⟨b, 0, none⟩ x).setCell ⟨b, 1, none⟩ y) A l := by
  refine (h.setCell h0 (fun _ e => by cases e) x).setCell (u := .slice a n c) ?_ (fun _ e => by cases e) y
  rw [World.cell?_setCell_other w _ _ x (fun e => by simp at e)]
  exact h1
theorem LAt.grown {w w1 : World} {A : Option Addr} {l : List Int} {row : Option Nat} (h : LAt w A l) (hg : w.grownBy w1 row) (hne : ∀ g o, A = some ⟨g, o, none⟩ → some g ≠ row) : LAt w1 A l := by
  intro k x hx
  obtain ⟨g, o, hA, hlt, hc⟩ := h k x hx
  exact ⟨g, o, hA, Nat.lt_of_lt_of_le hlt hg.size, by rw [World.cell?_of_block (hg.block g hlt (hne g o hA))]; exact hc⟩
/-- A row of limbs that the call owns. -/
def OwnL (w : World) (base : Nat) (v : Value) (l : List Int) : Prop := w.ownsRow base 97 1 v l.length (l.map (Value.int .u32))
theorem OwnL.nil (w : World) (base : Nat) : OwnL w base (.slice none 0 0) [] := World.ownsRow_nil _ _ _ _
theorem OwnL.fresh {w : World} {base : Nat} {v : Value} {l : List Int} (h : OwnL w base v l) : ∀ k, v.ownBlock = some k → base ≤ k := fun k hk => (World.ownsRow.lt h k hk).1
theorem OwnL.alloc {w : World} {base : Nat} {v : Value} {l : List Int} (h : OwnL w base v l) (o : Obj) : OwnL (w.alloc o) base v l := World.ownsRow.alloc h o
theorem OwnL.below {w w1 : World} {base : Nat} {v : Value} {l : List Int} (h : OwnL w base v l) (hb : Below w.heap.size w w1) : OwnL w1 base v l := by
  obtain ⟨h1, h2⟩ := h
  refine ⟨h1, ?_⟩
  rcases h2 with h2 | ⟨g, cap, cur, hv, hg, hh, r⟩
  · exact .inl h2
  · refine .inr ⟨g, cap, cur, hv, hg, ?_, r⟩
    have hlt : g < w.heap.size := (Array.getElem?_eq_some_iff.1 hh).1
    rw [hb.block _ hlt]; exact hh
theorem OwnL.setCell {w : World} {base : Nat} {v : Value} {l : List Int} (h : OwnL w base v l) {p : Addr} (hp : p.block < base) (u : Value) : OwnL (w.setCell p u) base v l := ownsRow_setCell_below h hp u
theorem OwnL.weak {w : World} {base base' : Nat} {v : Value} {l : List Int} (h : OwnL w base v l) (hb : base' ≤ base) : OwnL w base' v l := by
  obtain ⟨h1, h2⟩ := h
  refine ⟨h1, ?_⟩
  rcases h2 with h2 | ⟨g, cap, cur, hv, hg, r⟩
  · exact .inl h2
  · exact .inr ⟨g, cap, cur, hv, by omega, r⟩
theorem OwnL.cl (base : Nat) (v : Value) (l : List Int) : Cl (fun w => OwnL w base v l) := fun _ _ h hb => h.below hb
theorem OwnL.lat {w : World} {base : Nat} {A : Option Addr} {n c : Nat} {l : List Int} (h : OwnL w base (.slice A n c) l) : LAt w A l := by
  rcases h.2 with ⟨hv, h0⟩ | ⟨g, cap, cur, hv, hb, hh, hc, hm, hs, ht⟩
  · have hl := List.length_eq_zero_iff.1 h0
    subst hl
    exact LAt.nil _ _
  · have hA : A = some ⟨g, 0, none⟩ := by injection hv
    subst hA
    refine fun k x hx => ⟨g, 0, rfl, (Array.getElem?_eq_some_iff.1 hh).1, ?_⟩
    have hcell := World.ownsRow.cells h (g := g) rfl k (.int .u32 x) (by rw [List.getElem?_map, hx]; rfl)
    unfold Addr.add at hcell
    split at hcell
    · rename_i h0; rw [h0]; exact hcell
    · exact hcell
/-- From an owned row. -/
theorem lat_of_own {w : World} {base : Nat} {v : Value} {l : List Int} (h : OwnL w base v l) :
    ∃ A c, v = .slice A l.length c ∧ l.length ≤ c ∧ c ≤ maxLen ∧ LAt w A l := by
  rcases h.2 with ⟨hv, h0⟩ | ⟨g, cap, cur, hv, hb, hh, hc, hm, hs, ht⟩
  · have hl := List.length_eq_zero_iff.1 h0
    subst hl
    exact ⟨none, 0, hv, Nat.le_refl _, Nat.zero_le _, LAt.nil _ _⟩
  · refine ⟨some ⟨g, 0, none⟩, cap, hv, hc, hm, fun k x hx => ⟨g, 0, rfl, (Array.getElem?_eq_some_iff.1 hh).1, ?_⟩⟩
    have hcell := World.ownsRow.cells h (g := g) (by rw [hv]; rfl) k (.int .u32 x) (by rw [List.getElem?_map, hx]; rfl)
    unfold Addr.add at hcell
    split at hcell
    · rename_i h0; rw [h0]; exact hcell
    · exact hcell
theorem limbInfo : (Try.prog.info? 97).map (fun i => (i.zero, i.size, i.bytes)) = some (some (.int .u32 0), 1, 4) := by kernel_rfl
theorem run_append_limbs (w : World) (base : Nat) (ty : TypeId) (v : Value) (n : Nat) (xs : List Value) (hown : w.ownsRow base 97 1 v n xs)
    (A : Option Addr) (c : Nat) (l : List Int) (hA : LAt w A l) (h63 : n + l.length ≤ maxLen) (hbytes : (n + l.length) * 4 ≤ 140737488355328) (hbase : base ≤ w.heap.size) :
    ∃ v' w', (Builtin.append_ #[47, 47] ty #[v, .slice A l.length c]).run Try.prog w = .ok v' w' ∧ w'.ownsRow base 97 1 v' (n + l.length) (xs ++ l.map (Value.int .u32)) ∧ w.grownBy w' v.ownBlock ∧ (v'.ownBlock = v.ownBlock ∨ v'.ownBlock = some w.heap.size) := by
  obtain ⟨i, hi, hz, hs, hb⟩ := info_parts limbInfo
  by_cases h0 : l = []
  · subst h0
    cases A with
    | none =>
      refine ⟨v, w, ?_, by simpa using hown, World.grownBy.refl w _, .inl rfl⟩
      rcases hown.2 with ⟨rfl, rfl⟩ | ⟨g, cap, cur, rfl, _, _, hnc, _⟩
      · simp [Builtin.append_, run_underlying Try.underlying47, sizeOf, typeInfo, hi, Builtin.lenOf, Builtin.firstCells]
      · simp [Builtin.append_, run_underlying Try.underlying47, sizeOf, typeInfo, hi, Builtin.lenOf, Builtin.firstCells, hnc, storeCells]
    | some a =>
      obtain ⟨v', w', h1, h2, h3, _, h5⟩ := run_append_own_at (P := Try.prog) w base 47 ty 97 i _ 1 4 Try.underlying47 hi hz hs hb rfl (by decide) v n xs hown a 0 c [] (by simp) (by simp) (by simp) (by simpa using h63) (by simpa using hbytes) hbase
      exact ⟨v', w', h1, by simpa using h2, h3, h5⟩
  · obtain ⟨x, hx⟩ : ∃ x, l[0]? = some x := by
      cases l with
      | nil => exact absurd rfl h0
      | cons x l => exact ⟨x, rfl⟩
    obtain ⟨g, o, rfl, _, _⟩ := hA 0 x hx
    obtain ⟨v', w', h1, h2, h3, _, h5⟩ := run_append_own_at (P := Try.prog) w base 47 ty 97 i _ 1 4 Try.underlying47 hi hz hs hb rfl (by decide) v n xs hown ⟨g, o, none⟩ l.length c (l.map (Value.int .u32)) (by simp) (fun j u hu => by
      rw [List.getElem?_map] at hu
      obtain ⟨y, hy, rfl⟩ := Option.map_eq_some_iff.1 hu
      obtain ⟨g', o', he, _, hc⟩ := hA j y hy
      simp only [Option.some.injEq, Addr.mk.injEq] at he
      obtain ⟨rfl, rfl, _⟩ := he
      unfold Addr.add
      split
      · rename_i h; rw [h, Nat.add_zero] at hc; exact hc
      · exact hc) (fun u hu => by obtain ⟨y, _, rfl⟩ := List.mem_map.1 hu; rfl) h63 hbytes hbase
    exact ⟨v', w', h1, h2, h3, h5⟩
/-- 'append(v, x...)', v a row of the call's own (or nil), x any limbs. -/
theorem wpList_append_limbs {w : World} {ops : Array Oper} {rest : List Oper} {o : Oper} {a : Act} {Q : Exit → Act → World → Prop} (hgd : o.guard = none) (s x : Operand)
    (ho : o.op = .call { callee := .builtin .append, args := #[s, x], argTypes := #[47, 47] })
    (base : Nat) (v : Value) (xs : List Int) (hs : a.eval s = v) (hown : OwnL w base v xs)
    (A : Option Addr) (c : Nat) (l : List Int) (hx : a.eval x = .slice A l.length c) (hA : LAt w A l) (h63 : xs.length + l.length ≤ 1000000000) (hbase : base ≤ w.heap.size)
    (h : ∀ v' w', OwnL w' base v' (xs ++ l) → w.grownBy w' v.ownBlock → wpList Try.prog ops Q rest (a.put o.dst v') w') : wpList Try.prog ops Q (o :: rest) a w := by
  refine wpList_plain hgd fun K hK => ?_
  obtain ⟨v', w', hrun, h2, h3, _⟩ := run_append_limbs w base o.type v _ _ hown A c l hA (by unfold maxLen; omega) (by omega) hbase
  unfold Oper.wp execOp
  simp only [ho, resolve, invoke, builtin, Sem.run_bind, Sem.run_pure, Result.andThen_ok, List.map_toArray, List.map_cons, List.map_nil, hs, hx, hrun]
  exact hK _ _ (h v' w' (by unfold OwnL; rw [List.length_append, List.map_append]; exact h2) h3)
/-- The result of a function that hands back limbs. -/
def SlOut (m : Nat) (w : World) (e : Ending) (w' : World) : Prop := Below w.heap.size w w' ∧ ∃ A c, e = .returned (.slice A (canN m).length c) ∧ (canN m).length ≤ c ∧ LAt w' A (canN m)
/-- The same, the limbs the call's own. -/
def SlOwn (m : Nat) (w : World) (e : Ending) (w' : World) : Prop := Below w.heap.size w w' ∧ ∃ A c, e = .returned (.slice A (canN m).length c) ∧ (canN m).length ≤ c ∧ OwnL w' w.heap.size (.slice A (canN m).length c) (canN m)
theorem SlOwn.out {m : Nat} {w : World} {e : Ending} {w' : World} (h : SlOwn m w e w') : SlOut m w e w' := by
  obtain ⟨hb, A, c, h1, h2, h3⟩ := h
  exact ⟨hb, A, c, h1, h2, h3.lat⟩
/-- The canonical integer z at a value: its sign, its limbs. -/
def IsC (w : World) (v : Value) (z : Int) : Prop := ∃ A c, v = .agg #[.bool (decide (z < 0)), .slice A (canN z.natAbs).length c] ∧ (canN z.natAbs).length ≤ c ∧ LAt w A (canN z.natAbs)
/-- Any integer at a value: n limbs at most. -/
def IsZ (w : World) (v : Value) (n : Nat) (z : Int) : Prop := ∃ neg A c l, v = .agg #[.bool neg, .slice A l.length c] ∧ l.length ≤ c ∧ Lim l ∧ l.length ≤ n ∧ LAt w A l ∧ z = sv neg (mv l)
theorem IsC.below {w w1 : World} {v : Value} {z : Int} (h : IsC w v z) (hb : Below w.heap.size w w1) : IsC w1 v z := by
  obtain ⟨A, c, h1, h2, h3⟩ := h
  exact ⟨A, c, h1, h2, h3.below hb⟩
theorem IsC.cl (v : Value) (z : Int) : Cl (fun w => IsC w v z) := fun _ _ h hb => h.below hb
theorem IsZ.below {w w1 : World} {v : Value} {n : Nat} {z : Int} (h : IsZ w v n z) (hb : Below w.heap.size w w1) : IsZ w1 v n z := by
  obtain ⟨neg, A, c, l, h1, h2, h3, h4, h5, h6⟩ := h
  exact ⟨neg, A, c, l, h1, h2, h3, h4, h5.below hb, h6⟩
theorem IsZ.cl (v : Value) (n : Nat) (z : Int) : Cl (fun w => IsZ w v n z) := fun _ _ h hb => h.below hb
theorem IsC.z {w : World} {v : Value} {z : Int} (h : IsC w v z) (n : Nat) (hn : (z.natAbs : Int) < PB n) : IsZ w v n z := by
  obtain ⟨A, c, h1, h2, h3⟩ := h
  refine ⟨_, A, c, _, h1, h2, canN_lim _, canN_len.2 hn, h3, ?_⟩
  rw [mv_canN]
  unfold sv
  split <;> rename_i hh <;> simp at hh <;> omega
/-- The result of a function that hands back an integer. -/
def ZOut (z : Int) (w : World) (e : Ending) (w' : World) : Prop := Below w.heap.size w w' ∧ ∃ v, e = .returned v ∧ IsC w' v z
/-- The same, its limbs the call's own. -/
def ZOwn (z : Int) (w : World) (e : Ending) (w' : World) : Prop := Below w.heap.size w w' ∧ ∃ A c, e = .returned (.agg #[.bool (decide (z < 0)), .slice A (canN z.natAbs).length c]) ∧ (canN z.natAbs).length ≤ c ∧ OwnL w' w.heap.size (.slice A (canN z.natAbs).length c) (canN z.natAbs)
theorem ZOwn.out {z : Int} {w : World} {e : Ending} {w' : World} (h : ZOwn z w e w') : ZOut z w e w' := by
  obtain ⟨hb, A, c, h1, h2, h3⟩ := h
  exact ⟨hb, _, h1, A, c, rfl, h2, h3.lat⟩
theorem sv_neg_mk (neg : Bool) (l : List Int) (hl : Lim l) : ((neg && decide (0 < (canN (mv l).toNat).length)) = decide (sv neg (mv l) < 0)) ∧ (sv neg (mv l)).natAbs = (mv l).toNat := by
  have h0 := mv_nonneg hl
  have h1 := @canN_len0 (mv l).toNat
  constructor
  · cases neg
    · simp [sv]; omega
    · rw [Bool.true_and]
      apply decide_eq_decide.2
      simp only [sv, if_true]
      constructor
      · intro h
        have : (mv l).toNat ≠ 0 := fun e => by have := h1.2 e; omega
        omega
      · intro h
        rcases Nat.eq_zero_or_pos (canN (mv l).toNat).length with e | e
        · have := h1.1 e; omega
        · exact e
  · unfold sv; split <;> omega
end Go.Proofs.Ytgejdaincnclpaa
namespace Go.Proofs.Ytgejdaincnclpaa
open Go Go.RowKit
set_option linter.unusedVariables false
theorem canN_len_le {l : List Int} (hL : Lim l) : (canN (mv l).toNat).length ≤ l.length := by
  rw [canN_len]
  have h1 := mv_lt hL
  have h0 := mv_nonneg hL
  omega
end Go.Proofs.Ytgejdaincnclpaa
namespace Go.Proofs.Ytgejdaincnclpaa
open Go Go.RowKit
set_option linter.unusedVariables false
theorem lat_two {w : World} {b : Nat} {x y : Int} (hb : b < w.heap.size) (h0 : w.cell? ⟨b, 0, none⟩ = some (.int .u32 x)) (h1 : w.cell? ⟨b, 1, none⟩ = some (.int .u32 y)) : LAt w (some ⟨b, 0, none⟩) [x, y] := by
  intro k z hz
  refine ⟨b, 0, rfl, hb, ?_⟩
  rcases k with _ | _ | k
  · simp at hz; subst hz; exact h0
  · simp at hz; subst hz; exact h1
  · simp at hz
theorem lat_one {w : World} {b : Nat} {x : Int} (hb : b < w.heap.size) (h0 : w.cell? ⟨b, 0, none⟩ = some (.int .u32 x)) : LAt w (some ⟨b, 0, none⟩) [x] := by
  intro k z hz
  refine ⟨b, 0, rfl, hb, ?_⟩
  rcases k with _ | k
  · simp at hz; subst hz; exact h0
  · simp at hz
def sgn (z : Int) : Int := if z = 0 then 0 else if z < 0 then -1 else 1
theorem canN_lt {x y : Nat} (h : (canN x).length < (canN y).length) : x < y := by
  rcases Nat.lt_or_ge x y with h1 | h1
  · exact h1
  · have h2 : (y : Int) < PB (canN x).length := by
      have h3 := (@canN_len x (canN x).length).1 (Nat.le_refl _)
      omega
    have := (@canN_len y (canN x).length).2 h2
    omega
theorem mv_lt_of {l1 l2 : List Int} (h1 : Lim l1) (h2 : Lim l2) (hl : l1.length = l2.length) {j : Nat} {x y : Int} (hx : l1[j]? = some x) (hy : l2[j]? = some y) (hd : l1.drop (j + 1) = l2.drop (j + 1)) (hxy : x < y) : mv l1 < mv l2 := by
  have hj := (List.getElem?_eq_some_iff.1 hx).1
  have a1 := mv_split l1 j (by omega)
  have a2 := mv_split l2 j (by omega)
  have b1 := mv_drop_succ hx
  have b2 := mv_drop_succ hy
  have c1 := mv_lt (h1.take j)
  have c2 := mv_nonneg (h2.take j)
  rw [List.length_take, Nat.min_eq_left (by omega)] at c1
  rw [hd] at b1
  have hp := PB_pos j
  have : PB j * (mv (l1.drop j) + 1) ≤ PB j * mv (l2.drop j) := Int.mul_le_mul_of_nonneg_left (by omega) (by omega)
  rw [Int.mul_add] at this
  omega
def cmpI (a b : Int) : Int := if a < b then -1 else if b < a then 1 else 0
theorem cmpI_lt {a b : Int} (h : a < b) : cmpI a b = -1 := if_pos h
theorem cmpI_gt {a b : Int} (h : b < a) : cmpI a b = 1 := by unfold cmpI; rw [if_neg (by omega), if_pos h]
theorem cmpI_self (a : Int) : cmpI a a = 0 := by unfold cmpI; rw [if_neg (by omega), if_neg (by omega)]
end Go.Proofs.Ytgejdaincnclpaa
namespace Go.Proofs.Ytgejdaincnclpaa
open Go Go.RowKit
set_option linter.unusedVariables false
/-- The result of a function that hands back limbs worth m, K limbs at most. -/
def MOut (K : Nat) (m : Int) (w : World) (e : Ending) (w' : World) : Prop := Below w.heap.size w w' ∧ ∃ A c l, e = .returned (.slice A l.length c) ∧ l.length ≤ c ∧ Lim l ∧ l.length ≤ K ∧ mv l = m ∧ LAt w' A l
theorem mv_take_getD (l : List Int) (k : Nat) : mv (l.take (k + 1)) = mv (l.take k) + PB k * (l[k]?).getD 0 := by
  rcases Nat.lt_or_ge k l.length with h | h
  · rw [List.getElem?_eq_getElem h]; exact mv_take_succ (List.getElem?_eq_getElem h)
  · rw [List.getElem?_eq_none h, List.take_of_length_le h, List.take_of_length_le (by omega)]; simp
theorem add_step {a b out : List Int} {k : Nat} {cc x y s : Int} (hk : out.length = k) (h : mv out + PB k * cc = mv (a.take k) + mv (b.take k)) (hx : (a[k]?).getD 0 = x) (hy : (b[k]?).getD 0 = y) (hs : s = cc + x + y) :
    mv (out ++ [s % 4294967296]) + PB (k + 1) * (s / 4294967296) = mv (a.take (k + 1)) + mv (b.take (k + 1)) := by
  rw [mv_snoc, hk, PB_succ, mv_take_getD, mv_take_getD, hx, hy]
  have e : s = s % 4294967296 + 4294967296 * (s / 4294967296) := by omega
  have e2 : PB k * s = PB k * (s % 4294967296) + 4294967296 * PB k * (s / 4294967296) := by
    conv => lhs; rw [e]
    rw [Int.mul_add]
    grind
  have e3 : PB k * s = PB k * cc + PB k * x + PB k * y := by rw [hs]; grind
  omega
theorem getD_some {l : List Int} {k : Nat} {x : Int} (h : l[k]? = some x) : (l[k]?).getD 0 = x := by rw [h]; rfl
theorem getD_none {l : List Int} {k : Nat} (h : l.length ≤ k) : (l[k]?).getD 0 = 0 := by rw [List.getElem?_eq_none h]; rfl
end Go.Proofs.Ytgejdaincnclpaa
namespace Go.Proofs.Ytgejdaincnclpaa
open Go Go.RowKit
set_option linter.unusedVariables false
theorem sub_step {a b out : List Int} {k : Nat} {cc x y D : Int} (hk : out.length = k) (h : mv out - PB k * cc = mv (a.take k) - mv (b.take k)) (hx : (a[k]?).getD 0 = x) (hy : (b[k]?).getD 0 = y)
    (hD : D % 4294967296 - 4294967296 * (D / 9223372036854775808) = x - y - cc) :
    mv (out ++ [D % 4294967296]) - PB (k + 1) * (D / 9223372036854775808) = mv (a.take (k + 1)) - mv (b.take (k + 1)) := by
  rw [mv_snoc, hk, PB_succ, mv_take_getD, mv_take_getD, hx, hy]
  have e2 : PB k * (D % 4294967296) - 4294967296 * PB k * (D / 9223372036854775808) = PB k * x - PB k * y - PB k * cc := by
    rw [← Int.mul_sub, ← Int.mul_sub, ← hD, Int.mul_sub]
    grind
  omega
/-- A difference of limbs in a word, with its borrow. -/
theorem word_sub {x y cc I D : Int} (x0 : 0 ≤ x) (x1 : x < 4294967296) (y0 : 0 ≤ y) (y1 : y < 4294967296) (c0 : 0 ≤ cc) (c1 : cc ≤ 1) (hI : I = IntKind.u64.wrap (x - y)) (hD : D = IntKind.u64.wrap (I - cc)) :
    D % 4294967296 - 4294967296 * (D / 9223372036854775808) = x - y - cc ∧ 0 ≤ D ∧ D < 18446744073709551616 ∧ 0 ≤ D / 9223372036854775808 ∧ D / 9223372036854775808 ≤ 1 := by
  rw [IntKind.wrap_u64] at hI hD
  omega
end Go.Proofs.Ytgejdaincnclpaa
namespace Go.Proofs.Ytgejdaincnclpaa
open Go Go.RowKit
set_option linter.unusedVariables false
/-- The block g holds these limbs, and no others. -/
def RowL (w : World) (g : Nat) (l : List Int) : Prop := w.rowIs g 97 l.length (fun i => .int .u32 (l.getD i 0))
theorem RowL.lt {w : World} {g : Nat} {l : List Int} (h : RowL w g l) : g < w.heap.size := World.rowIs.lt h
theorem RowL.cell {w : World} {g : Nat} {l : List Int} (h : RowL w g l) {i : Nat} {x : Int} (hx : l[i]? = some x) : w.cell? ⟨g, i, none⟩ = some (.int .u32 x) := by
  have hi := (List.getElem?_eq_some_iff.1 hx).1
  have h1 := World.rowIs.cell h hi
  rw [h1, List.getD_eq_getElem?_getD, hx]
  rfl
theorem RowL.frozen {w : World} {g : Nat} {l : List Int} (h : RowL w g l) : ∀ o, w.frozen? ⟨g, o, none⟩ = false := fun o => World.rowIs.frozen h o
theorem RowL.set {w : World} {g : Nat} {l : List Int} (h : RowL w g l) (i : Nat) (x : Int) : RowL (w.setCell ⟨g, i, none⟩ (.int .u32 x)) g (l.set i x) := by
  have h1 := World.rowIs.set h i (.int .u32 x)
  unfold RowL
  rw [List.length_set]
  refine World.rowIs.congr h1 (fun j hj => ?_)
  by_cases e : j = i
  · subst e
    simp [List.getD_eq_getElem?_getD, hj]
  · rw [if_neg e, List.getD_eq_getElem?_getD, List.getD_eq_getElem?_getD, List.getElem?_set, if_neg (fun h => e h.symm)]
theorem RowL.below {w w1 : World} {g : Nat} {l : List Int} (h : RowL w g l) (hb : Below w.heap.size w w1) : RowL w1 g l := World.rowIs.of_block h (hb.block g h.lt)
theorem RowL.lat {w : World} {g : Nat} {l : List Int} (h : RowL w g l) : LAt w (some ⟨g, 0, none⟩) l := fun k x hx => ⟨g, 0, rfl, h.lt, by rw [Nat.zero_add]; exact h.cell hx⟩
theorem RowL.made (w : World) (n : Nat) : RowL (w.alloc (.cells (madeCells #[.int .u32 0] n) 97)) w.heap.size (List.replicate n 0) := by
  have h := World.rowIs_made w (.int .u32 0) n 97
  unfold RowL
  rw [List.length_replicate]
  refine World.rowIs.congr h (fun i hi => ?_)
  simp [List.getD_eq_getElem?_getD, hi]
theorem mul_lim {x y : Int} (x0 : 0 ≤ x) (x1 : x < 4294967296) (y0 : 0 ≤ y) (y1 : y < 4294967296) : 0 ≤ x * y ∧ x * y ≤ 18446744065119617025 := by
  refine ⟨Int.mul_nonneg x0 y0, ?_⟩
  have : x * y ≤ 4294967295 * 4294967295 := Int.mul_le_mul (by omega) (by omega) y0 (by omega)
  omega
theorem mul_step {L b : List Int} {p k : Nat} {c x y z s M : Int} (h : mv L + PB (p + k) * c = M + PB p * x * mv (b.take k)) (hz : L[p + k]? = some z) (hy : b[k]? = some y) (hs : s = c + (z + x * y)) :
    mv (L.set (p + k) (s % 4294967296)) + PB (p + k + 1) * (s / 4294967296) = M + PB p * x * mv (b.take (k + 1)) := by
  rw [mv_set hz, mv_take_succ hy, PB_succ, PB_add] at *
  have e : s = s % 4294967296 + 4294967296 * (s / 4294967296) := by omega
  have e2 : PB p * PB k * s = PB p * PB k * (s % 4294967296) + 4294967296 * (PB p * PB k) * (s / 4294967296) := by
    conv => lhs; rw [e]
    rw [Int.mul_add]
    grind
  have e3 : PB p * PB k * s = PB p * PB k * c + PB p * PB k * z + PB p * PB k * (x * y) := by rw [hs]; grind
  grind
end Go.Proofs.Ytgejdaincnclpaa
namespace Go.Proofs.Ytgejdaincnclpaa
open Go Go.RowKit
set_option linter.unusedVariables false
theorem isZ_open {w : World} {v : Value} {n : Nat} {z : Int} (h : IsZ w v n z) : ∃ neg A c l, v = .agg #[.bool neg, .slice A l.length c] ∧ l.length ≤ c ∧ Lim l ∧ l.length ≤ n ∧ LAt w A l ∧ z = sv neg (z.natAbs : Int) ∧ (mv l).toNat = z.natAbs ∧ (canN z.natAbs).length ≤ n := by
  obtain ⟨neg, A, c, l, h1, h2, h3, h4, h5, h6⟩ := h
  have h7 := (sv_neg_mk neg l h3).2
  have h8 := canN_len_le h3
  have h0 := mv_nonneg h3
  refine ⟨neg, A, c, l, h1, h2, h3, h4, h5, ?_, by rw [h6, h7], by rw [h6, h7]; omega⟩
  rw [h6, h7]
  rw [Int.toNat_of_nonneg h0]
theorem sv_add {p : Bool} {a b x y : Int} (ha : a = sv p x) (hb : b = sv p y) : a + b = sv p (x + y) := by rw [ha, hb]; cases p <;> simp [sv] <;> omega
theorem sv_sub {p q : Bool} {a b x y : Int} (hpq : p ≠ q) (ha : a = sv p x) (hb : b = sv q y) : a + b = sv p (x - y) ∧ a + b = sv q (y - x) := by
  cases p <;> cases q <;> simp_all [sv] <;> omega
theorem sv_mul {p q : Bool} {a b x y : Int} (ha : a = sv p x) (hb : b = sv q y) : a * b = sv (p != q) (x * y) := by
  cases p <;> cases q <;> simp_all [sv, Int.neg_mul, Int.mul_neg]
end Go.Proofs.Ytgejdaincnclpaa
namespace Go.Proofs.Ytgejdaincnclpaa
open Go Go.RowKit
set_option linter.unusedVariables false
theorem IsC.zl {w : World} {v : Value} {z : Int} (h : IsC w v z) {n : Nat} (hn : (canN z.natAbs).length ≤ n) : IsZ w v n z := h.z n (canN_len.1 hn)
theorem isZ_len {w : World} {v : Value} {n : Nat} {z : Int} (h : IsZ w v n z) : (canN z.natAbs).length ≤ n := by
  obtain ⟨_, _, _, _, _, _, _, _, _, _, _, h⟩ := isZ_open h; exact h
theorem isZ_val {w : World} {v : Value} {n : Nat} {z : Int} (h : IsZ w v n z) : ∃ neg A c l, v = .agg #[.bool neg, .slice A l c] := by
  obtain ⟨neg, A, c, l, h, _⟩ := h; exact ⟨neg, A, c, l.length, h⟩
end Go.Proofs.Ytgejdaincnclpaa
namespace Go.Proofs.Ytgejdaincnclpaa
open Go Go.RowKit
set_option linter.unusedVariables false
theorem madeCells_list (W : Nat) : (madeCells #[Value.int .u32 0] W).toList = (List.replicate W 0).map (Value.int .u32) := by
  apply List.ext_getElem?
  intro i
  simp [madeCells, Nat.mod_one]
  rcases Nat.lt_or_ge i W with h | h
  · simp [h]
  · simp [Nat.not_lt.2 h]
theorem OwnL.made {w : World} {base : Nat} (W : Nat) (hb : base ≤ w.heap.size) (hW : W ≤ 1000000000) : OwnL (w.alloc (.cells (madeCells #[.int .u32 0] W) 97)) base (.slice (some ⟨w.heap.size, 0, none⟩) W W) (List.replicate W 0) := by
  have h2 : (madeCells #[Value.int .u32 0] W).size = W * 1 := by rw [size_madeCells, Nat.mul_one]
  refine ⟨by simp, .inr ⟨w.heap.size, W, madeCells #[.int .u32 0] W, by simp, hb, heap_alloc_new w _, by simp, by unfold maxLen; omega, h2, ?_⟩⟩
  rw [List.length_replicate, Nat.mul_one, List.take_of_length_le (by rw [Array.length_toList, size_madeCells]; exact Nat.le_refl _)]
  exact madeCells_list W
theorem pow2_bd {k : Nat} (h : k ≤ 31) : 1 ≤ (2 : Int) ^ k ∧ (2 : Int) ^ k ≤ 2147483648 := by
  have h1 : (2 : Nat) ^ k ≤ 2147483648 := Nat.le_trans (Nat.pow_le_pow_right (by omega) h) (by decide)
  have h2 : 1 ≤ (2 : Nat) ^ k := Nat.one_le_two_pow
  have e : ((2 ^ k : Nat) : Int) = (2 : Int) ^ k := by rw [Int.natCast_pow]; rfl
  omega
theorem wraps_u64' (n : Int) (h₀ : 0 ≤ n) (h₁ : n < 2 ^ 64) : IntKind.u64.wrap n = n := by rw [IntKind.wrap_u64]; omega
end Go.Proofs.Ytgejdaincnclpaa
namespace Go.Proofs.Ytgejdaincnclpaa
open Go Go.RowKit
set_option linter.unusedVariables false
theorem pow2_split {k : Nat} (h : k ≤ 31) : ∃ Q : Int, 1 ≤ Q ∧ 4294967296 = 2 ^ k * Q := by
  refine ⟨2 ^ (32 - k), ?_, ?_⟩
  · have h : (0 : Int) < 2 ^ (32 - k) := Int.pow_pos (by decide)
    omega
  · rw [← Int.pow_add, show k + (32 - k) = 32 by omega]; rfl
theorem down_digit {x y T T2 P Q : Int} (hP : 1 ≤ P) (hQ : 1 ≤ Q) (hB : 4294967296 = P * Q) (x0 : 0 ≤ x) (x1 : x < 4294967296) (y0 : 0 ≤ y) (hT : T = y + 4294967296 * T2) :
    (x + 4294967296 * T) / P = ((x + 4294967296 * y) / P) % 4294967296 + 4294967296 * (T / P) := by
  have e1 : (x + 4294967296 * T) / P = x / P + Q * T := by rw [hB, Int.mul_assoc]; exact Int.add_mul_ediv_left _ _ (by omega)
  have e2 : (x + 4294967296 * y) / P = x / P + Q * y := by rw [hB, Int.mul_assoc]; exact Int.add_mul_ediv_left _ _ (by omega)
  have e3 : T / P = y / P + Q * T2 := by rw [hT, hB, Int.mul_assoc]; exact Int.add_mul_ediv_left _ _ (by omega)
  rw [e1, e2, e3]
  obtain ⟨q, hq⟩ : ∃ q, q = y / P := ⟨_, rfl⟩
  obtain ⟨r, hr⟩ : ∃ r, r = y % P := ⟨_, rfl⟩
  obtain ⟨a, ha⟩ : ∃ a, a = x / P := ⟨_, rfl⟩
  have r0 : 0 ≤ r := by rw [hr]; exact Int.emod_nonneg _ (by omega)
  have r1 : r < P := by rw [hr]; exact Int.emod_lt_of_pos _ (by omega)
  have a0 : 0 ≤ a := by rw [ha]; exact Int.ediv_nonneg x0 (by omega)
  have a1 : a < Q := by
    rw [ha]
    exact Int.ediv_lt_of_lt_mul (by omega) (by rw [Int.mul_comm]; omega)
  have hy : y = P * q + r := by rw [hq, hr]; exact (Int.mul_ediv_add_emod _ _).symm
  rw [← ha, ← hq]
  have f1 : Q * y = 4294967296 * q + Q * r := by rw [hy, hB]; grind
  have f2 : Q * r ≤ Q * (P - 1) := Int.mul_le_mul_of_nonneg_left (by omega) (by omega)
  have f3 : Q * (P - 1) = 4294967296 - Q := by rw [hB]; grind
  have f4 : 0 ≤ Q * r := Int.mul_nonneg (by omega) r0
  have f5 : Q * T = Q * y + 4294967296 * (Q * T2) := by rw [hT]; grind
  have f6 : (a + Q * y) % 4294967296 = a + Q * r := by
    rw [f1]
    omega
  rw [f6, f5, f1]
  omega
theorem down_step {m out : List Int} {i j : Nat} {P x y Y : Int} {k : Nat} (hk : k ≤ 31) (hP : P = 2 ^ k) (hm : Lim m) (ho : out.length = j) (h : mv out + PB j * (mv (m.drop i) / P) = Y) (hx : m[i]? = some x) (hy : (m[i + 1]?).getD 0 = y) :
    mv (out ++ [((x + 4294967296 * y) / P) % 4294967296]) + PB (j + 1) * (mv (m.drop (i + 1)) / P) = Y := by
  obtain ⟨Q, hQ, hB⟩ := pow2_split hk
  obtain ⟨p0, p1⟩ := pow2_bd hk
  rw [← hP] at hB p0 p1
  obtain ⟨x0, x1⟩ := hm.get hx
  have hT : ∃ T2, mv (m.drop (i + 1)) = y + 4294967296 * T2 ∧ 0 ≤ y := by
    rcases Nat.lt_or_ge (i + 1) m.length with hl | hl
    · have h1 : m[i + 1]? = some m[i + 1] := List.getElem?_eq_getElem hl
      refine ⟨mv (m.drop (i + 1 + 1)), ?_, ?_⟩
      · rw [mv_drop_succ h1, ← hy, h1]; rfl
      · rw [← hy, h1]; exact (hm.get h1).1
    · rw [List.drop_of_length_le hl]
      rw [List.getElem?_eq_none hl] at hy
      have : y = 0 := hy.symm
      exact ⟨0, by rw [this]; rfl, by omega⟩
  obtain ⟨T2, hT, y0⟩ := hT
  have hd := down_digit p0 hQ hB x0 x1 y0 hT
  rw [mv_drop_succ hx, hd] at h
  rw [mv_snoc, ho, PB_succ, ← h]
  grind
theorem canN_mono {a b : Nat} (h : a ≤ b) : (canN a).length ≤ (canN b).length := by
  rw [canN_len]
  have := (@canN_len b (canN b).length).1 (Nat.le_refl _)
  omega
end Go.Proofs.Ytgejdaincnclpaa
namespace Go.Proofs.Ytgejdaincnclpaa
open Go Go.RowKit
set_option linter.unusedVariables false
theorem one_step {a out : List Int} {j : Nat} {y r q r' z v : Int} (h : mv (a.drop (j + 1)) = mv (out.drop (j + 1)) * y + r) (hz : a[j]? = some z) (hj : j < out.length) (hv : v = r * 4294967296 + z) (hq : v = y * q + r') :
    mv (a.drop j) = mv ((out.set j q).drop j) * y + r' := by
  have h1 : (out.set j q)[j]? = some q := by simp [hj]
  rw [mv_drop_succ hz, mv_drop_succ h1, List.drop_set_of_lt (by omega), h]
  grind
end Go.Proofs.Ytgejdaincnclpaa
namespace Go.Proofs.Ytgejdaincnclpaa
set_option linter.unusedVariables false
/-- The guess of a digit of the quotient: what its loop keeps. V = vl + p (next + B top), U = ul + p (u0 + B u1 + B^2 u2), p a power of B. -/
structure Guess (p vl ul top next u0 u1 u2 g r : Int) : Prop where
  num : g * top + r = u2 * 4294967296 + u1
  r0 : 0 ≤ r
  g0 : 0 ≤ g
  up : ul + p * (u0 + 4294967296 * (u1 + 4294967296 * u2)) < (g + 1) * (vl + p * (next + 4294967296 * top))
theorem guess_start {p vl ul top next u0 u1 u2 : Int} (hp : 0 < p) (v0 : 0 ≤ vl) (n0 : 0 ≤ next) (ul1 : ul < p) (a1 : u0 < 4294967296) (t0 : 0 < top) (b0 : 0 ≤ u1) (c0 : 0 ≤ u2) :
    Guess p vl ul top next u0 u1 u2 ((u2 * 4294967296 + u1) / top) ((u2 * 4294967296 + u1) % top) := by
  have hn : 0 ≤ u2 * 4294967296 + u1 := by omega
  refine ⟨by rw [Int.mul_comm]; exact Int.mul_ediv_add_emod _ _, Int.emod_nonneg _ (by omega), Int.ediv_nonneg hn (by omega), ?_⟩
  obtain ⟨g, hg⟩ : ∃ g, g = (u2 * 4294967296 + u1) / top := ⟨_, rfl⟩
  obtain ⟨r, hr⟩ : ∃ r, r = (u2 * 4294967296 + u1) % top := ⟨_, rfl⟩
  have e : g * top + r = u2 * 4294967296 + u1 := by rw [hg, hr, Int.mul_comm]; exact Int.mul_ediv_add_emod _ _
  have r1 : r < top := by rw [hr]; exact Int.emod_lt_of_pos _ t0
  have g0 : 0 ≤ g := by rw [hg]; exact Int.ediv_nonneg hn (by omega)
  rw [← hg]
  have h1 : (g + 1) * top = g * top + top := by grind
  have h2 : p * (u0 + 4294967296 * (u1 + 4294967296 * u2)) + p ≤ p * (4294967296 * ((g + 1) * top)) := by
    have q : p * (u0 + 4294967296 * (u1 + 4294967296 * u2) + 1) ≤ p * (4294967296 * ((g + 1) * top)) := Int.mul_le_mul_of_nonneg_left (by omega) (by omega)
    rw [Int.mul_add, Int.mul_one] at q
    exact q
  have h3 : (g + 1) * (vl + p * (next + 4294967296 * top)) = (g + 1) * vl + p * ((g + 1) * next) + p * (4294967296 * ((g + 1) * top)) := by grind
  have h4 : 0 ≤ (g + 1) * vl := Int.mul_nonneg (by omega) v0
  have h5 : 0 ≤ p * ((g + 1) * next) := Int.mul_nonneg (by omega) (Int.mul_nonneg (by omega) n0)
  omega
/-- The guess is too large: one less. -/
theorem guess_less {p vl ul top next u0 u1 u2 g r : Int} (h : Guess p vl ul top next u0 u1 u2 g r) (hp : 0 < p) (v0 : 0 ≤ vl) (t0 : 0 < top) (g1 : 1 ≤ g)
    (hU : ul + p * (u0 + 4294967296 * (u1 + 4294967296 * u2)) < g * (vl + p * (next + 4294967296 * top))) : Guess p vl ul top next u0 u1 u2 (g - 1) (r + top) := by
  have e : (g - 1) * top = g * top - top := by grind
  refine ⟨by have := h.num; omega, by have := h.r0; omega, by omega, ?_⟩
  rw [Int.sub_add_cancel]
  exact hU
/-- Why it is too large: at least B. -/
theorem guess_big {p vl ul top next u0 u1 u2 g : Int} (hp : 0 < p) (v0 : 0 ≤ vl) (n0 : 0 ≤ next) (t0 : 0 < top) (hg : 4294967296 ≤ g)
    (hB : ul + p * (u0 + 4294967296 * (u1 + 4294967296 * u2)) < 4294967296 * (vl + p * (next + 4294967296 * top))) :
    ul + p * (u0 + 4294967296 * (u1 + 4294967296 * u2)) < g * (vl + p * (next + 4294967296 * top)) := by
  have hV : 0 ≤ vl + p * (next + 4294967296 * top) := by
    have := Int.mul_nonneg (Int.le_of_lt hp) (show 0 ≤ next + 4294967296 * top by omega)
    omega
  have := Int.mul_le_mul_of_nonneg_right hg hV
  omega
/-- Why it is too large: the second digit says so. -/
theorem guess_next {p vl ul top next u0 u1 u2 g r : Int} (h : Guess p vl ul top next u0 u1 u2 g r) (hp : 0 < p) (v0 : 0 ≤ vl) (ul1 : ul < p) (hg : r * 4294967296 + u0 < g * next) :
    ul + p * (u0 + 4294967296 * (u1 + 4294967296 * u2)) < g * (vl + p * (next + 4294967296 * top)) := by
  have h1 := h.num
  have h2 : p * (u0 + 4294967296 * (u1 + 4294967296 * u2)) + p ≤ p * (g * next + 4294967296 * (g * top)) := by
    have q : p * (u0 + 4294967296 * (u1 + 4294967296 * u2) + 1) ≤ p * (g * next + 4294967296 * (g * top)) := Int.mul_le_mul_of_nonneg_left (by omega) (by omega)
    rw [Int.mul_add, Int.mul_one] at q
    exact q
  have h3 : g * (vl + p * (next + 4294967296 * top)) = g * vl + p * (g * next + 4294967296 * (g * top)) := by grind
  have h4 : 0 ≤ g * vl := Int.mul_nonneg h.g0 v0
  omega
/-- The guess is done: it is the digit, or one more. -/
theorem guess_done {p vl ul top next u0 u1 u2 g r : Int} (h : Guess p vl ul top next u0 u1 u2 g r) (hp : 0 < p) (v0 : 0 ≤ vl) (vl1 : vl < p) (u00 : 0 ≤ ul) (n0 : 0 ≤ next) (t1 : 1 ≤ top) (g1 : g < 4294967296) (hg : g * next ≤ r * 4294967296 + u0) :
    -(vl + p * (next + 4294967296 * top)) ≤ ul + p * (u0 + 4294967296 * (u1 + 4294967296 * u2)) - g * (vl + p * (next + 4294967296 * top)) ∧
    ul + p * (u0 + 4294967296 * (u1 + 4294967296 * u2)) - g * (vl + p * (next + 4294967296 * top)) < vl + p * (next + 4294967296 * top) := by
  have h1 := h.num
  have h2 : p * (g * next + 4294967296 * (g * top)) ≤ p * (u0 + 4294967296 * (u1 + 4294967296 * u2)) := Int.mul_le_mul_of_nonneg_left (by omega) (by omega)
  have h3 : g * (vl + p * (next + 4294967296 * top)) = g * vl + p * (g * next + 4294967296 * (g * top)) := by grind
  have h4 : g * vl ≤ 4294967296 * p := by
    have a1 := Int.mul_le_mul_of_nonneg_right (show g ≤ 4294967296 by omega) v0
    have a2 := Int.mul_le_mul_of_nonneg_left (show vl ≤ p by omega) (show (0 : Int) ≤ 4294967296 by omega)
    omega
  have h5 : 4294967296 * p ≤ p * (next + 4294967296 * top) := by
    rw [Int.mul_comm]
    exact Int.mul_le_mul_of_nonneg_left (by omega) (by omega)
  have h6 := h.up
  have h7 : (g + 1) * (vl + p * (next + 4294967296 * top)) = g * (vl + p * (next + 4294967296 * top)) + (vl + p * (next + 4294967296 * top)) := by grind
  omega
/-- Behind a decrement that makes the rest great the guess is done. -/
theorem guess_rest {p vl ul top next u0 u1 u2 g r : Int} (h : Guess p vl ul top next u0 u1 u2 g r) (n1 : next < 4294967296) (n0 : 0 ≤ next) (u00 : 0 ≤ u0) (b1 : u1 < 4294967296) (t0 : 0 < top) (ht : u2 ≤ top) (hr : 4294967296 ≤ r) :
    g < 4294967296 ∧ g * next ≤ r * 4294967296 + u0 := by
  have h1 := h.num
  have h2 : g < 4294967296 := by
    rcases Int.lt_or_le g 4294967296 with h3 | h3
    · exact h3
    · have := Int.mul_le_mul_of_nonneg_right h3 (Int.le_of_lt t0)
      omega
  refine ⟨h2, ?_⟩
  have h3 : g * next ≤ 4294967296 * 4294967296 := Int.mul_le_mul (by omega) (by omega) n0 (by omega)
  omega
/-- The leading digit of the dividend's piece is at most the divisor's. -/
theorem lead_le {p vl ul top next u0 u1 u2 : Int} (hp : 0 < p) (vl1 : vl < p) (n1 : next < 4294967296) (u00 : 0 ≤ ul) (a0 : 0 ≤ u0) (b0 : 0 ≤ u1)
    (hB : ul + p * (u0 + 4294967296 * (u1 + 4294967296 * u2)) < 4294967296 * (vl + p * (next + 4294967296 * top))) : u2 ≤ top := by
  rcases Int.lt_or_le top u2 with h | h
  · exfalso
    have h1 : p * (4294967296 * 4294967296 * (top + 1)) ≤ p * (u0 + 4294967296 * (u1 + 4294967296 * u2)) := Int.mul_le_mul_of_nonneg_left (by omega) (by omega)
    have h2 : p * (next + 4294967296 * top) + p ≤ p * (4294967296 * (top + 1)) := by
      have q : p * (next + 4294967296 * top + 1) ≤ p * (4294967296 * (top + 1)) := Int.mul_le_mul_of_nonneg_left (by omega) (by omega)
      rw [Int.mul_add, Int.mul_one] at q
      exact q
    have h3 : p * (4294967296 * 4294967296 * (top + 1)) = 4294967296 * (p * (4294967296 * (top + 1))) := by grind
    omega
  · exact h
/-- One step of the multiplication and subtraction. -/
theorem msub_step {L v : List Int} {j i : Nat} {R g cc bo z x s d : Int} (h : mv L = R - g * (PB j * mv (v.take i)) + PB (j + i) * (cc + bo)) (hz : L[j + i]? = some z) (hx : v[i]? = some x) (hs : s = cc + g * x)
    (hd : d % 4294967296 - 4294967296 * (d / 9223372036854775808) = z - s % 4294967296 - bo) :
    mv (L.set (j + i) (d % 4294967296)) = R - g * (PB j * mv (v.take (i + 1))) + PB (j + (i + 1)) * (s / 4294967296 + d / 9223372036854775808) := by
  rw [mv_set hz, mv_take_succ hx, ← Nat.add_assoc, PB_succ, h, PB_add]
  have e : s = s % 4294967296 + 4294967296 * (s / 4294967296) := by omega
  obtain ⟨S, hS⟩ : ∃ S, S = s % 4294967296 := ⟨_, rfl⟩
  obtain ⟨T, hT⟩ : ∃ T, T = s / 4294967296 := ⟨_, rfl⟩
  obtain ⟨D, hD⟩ : ∃ D, D = d % 4294967296 := ⟨_, rfl⟩
  obtain ⟨E, hE⟩ : ∃ E, E = d / 9223372036854775808 := ⟨_, rfl⟩
  rw [← hS, ← hT] at e
  rw [← hD, ← hE, ← hS] at hd
  rw [← hT, ← hD, ← hE]
  have e1 : D = z - S - bo + 4294967296 * E := by omega
  have e2 : cc = S + 4294967296 * T - g * x := by omega
  rw [e1, e2]
  grind
/-- The last step: the top digit. -/
theorem msub_top {L v : List Int} {j n : Nat} {R g cc bo z d V lo U : Int} (hL : Lim L) (hv : Lim v) (hn : v.length = n) (hV : V = mv v) (h : mv L = R - g * (PB j * V) + PB (j + n) * (cc + bo)) (hz : L[j + n]? = some z) (hup : mv (L.drop (j + n + 1)) = 0)
    (hR : R = lo + PB j * U) (lo0 : 0 ≤ lo) (lo1 : lo < PB j) (d1 : -V ≤ U - g * V) (d2 : U - g * V < V) :
    (z - cc - bo = 0 ∧ 0 ≤ U - g * V) ∨ (z - cc - bo = -1 ∧ U - g * V < 0) := by
  have hlt : j + n < L.length := (List.getElem?_eq_some_iff.1 hz).1
  have a1 := mv_split L (j + n) (by omega)
  have a2 := mv_drop_succ hz
  rw [hup] at a2
  have b1 := mv_lt (hL.take (j + n))
  have b2 := mv_nonneg (hL.take (j + n))
  rw [List.length_take, Nat.min_eq_left (by omega)] at b1
  have c1 := mv_lt hv
  rw [hn, ← hV] at c1
  have pj := PB_pos j
  have pn := PB_pos n
  obtain ⟨X, hX⟩ : ∃ X, X = U - g * V := ⟨_, rfl⟩
  obtain ⟨D, hD⟩ : ∃ D, D = z - cc - bo := ⟨_, rfl⟩
  obtain ⟨M, hM⟩ : ∃ M, M = mv (L.take (j + n)) := ⟨_, rfl⟩
  rw [← hX] at d1 d2
  rw [← hM] at a1 b1 b2
  rw [← hD, ← hX]
  have key : M = lo + PB j * X - PB (j + n) * D := by
    have e1 : mv (L.drop (j + n)) = z := by omega
    rw [e1] at a1
    have e2 : PB j * X = PB j * U - g * (PB j * V) := by rw [hX]; grind
    have e3 : PB (j + n) * D = PB (j + n) * z - PB (j + n) * (cc + bo) := by rw [hD]; grind
    omega
  rw [PB_add] at key b1
  have f1 : PB j * X ≤ PB j * (V - 1) := Int.mul_le_mul_of_nonneg_left (by omega) (by omega)
  have f2 : PB j * V ≤ PB j * PB n := Int.mul_le_mul_of_nonneg_left (by omega) (by omega)
  have f3 : PB j * (V - 1) = PB j * V - PB j := by grind
  have f4 : PB j * (-V) ≤ PB j * X := Int.mul_le_mul_of_nonneg_left (by omega) (by omega)
  have f5 : PB j * (-V) = -(PB j * V) := by grind
  have q := PB_pos (j + n)
  rw [PB_add] at q
  have g1 : D ≤ 0 := by
    rcases Int.lt_or_le 0 D with hh | hh
    · have := Int.mul_le_mul_of_nonneg_left (show 1 ≤ D by omega) (Int.le_of_lt q)
      omega
    · exact hh
  have g2 : -1 ≤ D := by
    rcases Int.lt_or_le D (-1) with hh | hh
    · have := Int.mul_le_mul_of_nonneg_left (show D ≤ -2 by omega) (Int.le_of_lt q)
      omega
    · exact hh
  have hD' : D = 0 ∨ D = -1 := by omega
  rcases hD' with hh | hh
  · left
    refine ⟨hh, ?_⟩
    rw [hh] at key
    rcases Int.lt_or_le X 0 with h0 | h0
    · have := Int.mul_le_mul_of_nonneg_left (show X ≤ -1 by omega) (Int.le_of_lt pj)
      omega
    · exact h0
  · right
    refine ⟨hh, ?_⟩
    rw [hh] at key
    rcases Int.lt_or_le X 0 with h0 | h0
    · exact h0
    · have := Int.mul_nonneg (Int.le_of_lt pj) h0
      omega
/-- One step of the adding back. -/
theorem addb_step {L v : List Int} {j i : Nat} {R c z x s : Int} (h : mv L + PB (j + i) * c = R + PB j * mv (v.take i)) (hz : L[j + i]? = some z) (hx : v[i]? = some x) (hs : s = c + (z + x)) :
    mv (L.set (j + i) (s % 4294967296)) + PB (j + (i + 1)) * (s / 4294967296) = R + PB j * mv (v.take (i + 1)) := by
  rw [mv_set hz, mv_take_succ hx, ← Nat.add_assoc, PB_succ]
  have e : s = s % 4294967296 + 4294967296 * (s / 4294967296) := by omega
  obtain ⟨S, hS⟩ : ∃ S, S = s % 4294967296 := ⟨_, rfl⟩
  obtain ⟨T, hT⟩ : ∃ T, T = s / 4294967296 := ⟨_, rfl⟩
  rw [← hS, ← hT] at e
  rw [← hS, ← hT]
  have e1 : S = c + z + x - 4294967296 * T := by omega
  have e2 : PB (j + i) = PB j * PB i := PB_add _ _
  rw [e2] at h ⊢
  rw [e1]
  grind
/-- The adding back is done: the carry is one, the number is what it must be. -/
theorem addb_done {L v : List Int} {j n : Nat} {R c V X : Int} (hL : Lim L) (hv : Lim v) (hn : v.length = n) (hV : V = mv v) (hz : L[j + n]? = some 4294967295) (hup : mv (L.drop (j + n + 1)) = 0)
    (h : mv L + PB (j + n) * c = X + PB (j + n + 1)) (c0 : 0 ≤ c) (c1 : c ≤ 1) (x0 : 0 ≤ X) :
    c = 1 ∧ mv (L.set (j + n) 0) = X := by
  have hlt : j + n < L.length := (List.getElem?_eq_some_iff.1 hz).1
  have a1 := mv_split L (j + n) (by omega)
  have a2 := mv_drop_succ hz
  rw [hup] at a2
  have b1 := mv_lt (hL.take (j + n))
  rw [List.length_take, Nat.min_eq_left (by omega)] at b1
  rw [PB_succ] at h
  have e1 : mv (L.drop (j + n)) = 4294967295 := by omega
  rw [e1] at a1
  have hc : c = 0 ∨ c = 1 := by omega
  rcases hc with rfl | rfl
  · exfalso; omega
  · refine ⟨rfl, ?_⟩
    rw [mv_set hz]
    omega
/-- A dividend's pieces. -/
theorem piece_top {L : List Int} {k : Nat} {z W : Int} (hL : Lim L) (hz : L[k]? = some z) (h : mv L < PB (k + 1)) : mv (L.drop (k + 1)) = 0 := by
  have hlt : k < L.length := (List.getElem?_eq_some_iff.1 hz).1
  have a1 := mv_split L (k + 1) (by omega)
  have b2 := mv_nonneg (hL.take (k + 1))
  have b3 := mv_nonneg (hL.drop (k + 1))
  have q := PB_pos (k + 1)
  rcases Int.lt_or_le 0 (mv (L.drop (k + 1))) with hh | hh
  · have := Int.mul_le_mul_of_nonneg_left (show 1 ≤ mv (L.drop (k + 1)) by omega) (Int.le_of_lt q)
    omega
  · omega
end Go.Proofs.Ytgejdaincnclpaa
namespace Go.Proofs.Ytgejdaincnclpaa
open Go Go.RowKit
set_option linter.unusedVariables false
theorem top_lt {L p t P : Int} (b0 : 0 ≤ L) (b1 : L < p) (hP : 0 < P) (h : (t + 1) * P ≤ 4294967296) : L * P + p * (t * P) < 4294967296 * p := by
  have d1 : L * P ≤ (p - 1) * P := Int.mul_le_mul_of_nonneg_right (by omega) (by omega)
  have d3 : p * ((t + 1) * P) ≤ p * 4294967296 := Int.mul_le_mul_of_nonneg_left h (by omega)
  have d4 : p * ((t + 1) * P) = p * (t * P) + p * P := by grind
  have d5 : (p - 1) * P = p * P - P := by grind
  omega
/-- The normalised divisor: as many limbs, the highest bit set. -/
theorem div_v {y n : Nat} {S : Nat} {t : Int} (hn : (canN y).length = n + 2) (ht : (canN y)[n + 1]? = some t) (hS1 : 2147483648 ≤ t * 2 ^ S) (hS2 : t * 2 ^ S < 4294967296) :
    ∃ V : Nat, ((V : Int) = (y : Int) * 2 ^ S) ∧ (canN V).length = n + 2 ∧ (∀ top, (canN V)[n + 1]? = some top → 2147483648 ≤ top) ∧ 2147483648 * PB (n + 1) ≤ V := by
  have hP : 0 < (2 : Int) ^ S := Int.pow_pos (by decide)
  obtain ⟨P, hPe⟩ : ∃ P : Int, P = 2 ^ S := ⟨_, rfl⟩
  rw [← hPe] at hP hS1 hS2
  have a1 := mv_split (canN y) (n + 1) (by omega)
  have a2 := mv_drop_succ ht
  rw [List.drop_of_length_le (show (canN y).length ≤ n + 1 + 1 by omega), show mv ([] : List Int) = 0 from rfl, Int.mul_zero, Int.add_zero] at a2
  have a4 := mv_canN y
  have b0 := mv_nonneg ((canN_lim y).take (n + 1))
  have b1 := mv_lt ((canN_lim y).take (n + 1))
  rw [List.length_take, Nat.min_eq_left (by omega)] at b1
  have q := PB_pos (n + 1)
  have e1 : (y : Int) = mv ((canN y).take (n + 1)) + PB (n + 1) * t := by rw [← a4, a1, a2]
  obtain ⟨L, hL⟩ : ∃ L, L = mv ((canN y).take (n + 1)) := ⟨_, rfl⟩
  rw [← hL] at e1 b0 b1
  have c1 : (y : Int) * P = L * P + PB (n + 1) * (t * P) := by rw [e1]; grind
  have c2 : 0 ≤ L * P := Int.mul_nonneg b0 (by omega)
  have c3 : PB (n + 1) * 2147483648 ≤ PB (n + 1) * (t * P) := Int.mul_le_mul_of_nonneg_left hS1 (by omega)
  have c4 : (y : Int) * P < PB (n + 2) := by
    have d2 : (t + 1) * P ≤ 4294967296 := by
      have : (t * P) % P = 0 := Int.mul_emod_left _ _
      obtain ⟨Q, hQ, hB⟩ : ∃ Q : Int, 1 ≤ Q ∧ 4294967296 = P * Q := by
        have hs : S ≤ 31 := by
          rcases Nat.lt_or_ge 31 S with h | h
          · exfalso
            have h1 : (2 : Int) ^ 32 ≤ 2 ^ S := by
              have : (2 : Nat) ^ 32 ≤ 2 ^ S := Nat.pow_le_pow_right (by omega) (by omega)
              have e : ((2 ^ S : Nat) : Int) = (2 : Int) ^ S := by rw [Int.natCast_pow]; rfl
              have e' : ((2 ^ 32 : Nat) : Int) = (2 : Int) ^ 32 := by rw [Int.natCast_pow]; rfl
              omega
            rw [← hPe] at h1
            have ht1 : 1 ≤ t := by
              rcases Int.lt_or_le t 1 with g | g
              · have : t * P ≤ 0 := Int.mul_nonpos_of_nonpos_of_nonneg (by omega) (by omega)
                omega
              · exact g
            have := Int.mul_le_mul_of_nonneg_right ht1 (show 0 ≤ P by omega)
            have e2 : (2 : Int) ^ 32 = 4294967296 := by decide
            omega
          · exact h
        rw [hPe]; exact pow2_split hs
      have h3 : t < Q := by
        rcases Int.lt_or_le t Q with g | g
        · exact g
        · have := Int.mul_le_mul_of_nonneg_right g (show 0 ≤ P by omega)
          rw [Int.mul_comm Q P, ← hB] at this
          omega
      have := Int.mul_le_mul_of_nonneg_right (show t + 1 ≤ Q by omega) (show 0 ≤ P by omega)
      rw [Int.mul_comm Q P, ← hB] at this
      exact this
    rw [c1, show PB (n + 2) = 4294967296 * PB (n + 1) from PB_succ (n + 1)]
    exact top_lt b0 b1 hP d2
  obtain ⟨V, hV⟩ := Int.eq_ofNat_of_zero_le (show 0 ≤ (y : Int) * P by omega)
  refine ⟨V, by rw [← hPe]; omega, ?_, ?_, by omega⟩
  · have h1 : (canN V).length ≤ n + 2 := canN_len.2 (by omega)
    have h2 : ¬ (canN V).length ≤ n + 1 := fun h => by have := canN_len.1 h; omega
    omega
  · intro top htop
    have h1 : (canN V).length ≤ n + 2 := canN_len.2 (by omega)
    have hlt := (List.getElem?_eq_some_iff.1 htop).1
    have a1 := mv_split (canN V) (n + 1) (by omega)
    have a2 := mv_drop_succ htop
    rw [List.drop_of_length_le (show (canN V).length ≤ n + 1 + 1 by omega), show mv ([] : List Int) = 0 from rfl, Int.mul_zero, Int.add_zero] at a2
    have b1 := mv_lt ((canN_lim V).take (n + 1))
    rw [List.length_take, Nat.min_eq_left (by omega)] at b1
    have a4 := mv_canN V
    rcases Int.lt_or_le top 2147483648 with g | g
    · exfalso
      rw [a2] at a1
      have := Int.mul_le_mul_of_nonneg_left (show top ≤ 2147483647 by omega) (Int.le_of_lt q)
      omega
    · exact g
/-- The shifted dividend, with a limb more. -/
theorem div_u {x y la : Nat} {S n : Nat} {V : Int} (hla : (canN x).length = la) (hS : S ≤ 31) (hn : n + 2 ≤ la) (hV : 2147483648 * PB (n + 1) ≤ V) :
    ∃ X : Nat, ((X : Int) = (x : Int) * 2 ^ S) ∧ ((canN X ++ [0, 0]).take (la + 1)).length = la + 1 ∧ mv ((canN X ++ [0, 0]).take (la + 1)) = X ∧ (X : Int) < PB (la + 1 - (n + 2)) * V ∧ la ≤ (canN X).length ∧ (canN X).length ≤ la + 1 := by
  obtain ⟨p0, p1⟩ := pow2_bd hS
  obtain ⟨P, hPe⟩ : ∃ P : Int, P = 2 ^ S := ⟨_, rfl⟩
  rw [← hPe] at p0 p1 ⊢
  have hx := (@canN_len x la).1 (by omega)
  obtain ⟨X, hX⟩ := Int.eq_ofNat_of_zero_le (show 0 ≤ (x : Int) * P from Int.mul_nonneg (by omega) (by omega))
  have q := PB_pos la
  have h1 : (x : Int) * P ≤ (PB la - 1) * P := Int.mul_le_mul_of_nonneg_right (by omega) (by omega)
  have h2 : (PB la - 1) * P = PB la * P - P := by grind
  have h3 : PB la * P ≤ PB la * 2147483648 := Int.mul_le_mul_of_nonneg_left p1 (by omega)
  have h4 := PB_succ la
  have hl1 : (canN X).length ≤ la + 1 := canN_len.2 (by omega)
  have hl2 : la ≤ (canN X).length := by
    have hxX : x ≤ X := by
      have := Int.mul_le_mul_of_nonneg_left p0 (show (0 : Int) ≤ (x : Int) by omega)
      omega
    have := canN_mono hxX
    omega
  have hm : mv (canN X ++ [0, 0]) = X := by rw [mv_append, mv_canN, mv_two]; omega
  refine ⟨X, hX.symm, by rw [List.length_take, List.length_append]; simp; omega, ?_, ?_, hl2, hl1⟩
  · rw [mv_take_of_zero, hm]
    intro k z hz hk
    rw [List.getElem?_append_right (by omega)] at hz
    have hk2 := (List.getElem?_eq_some_iff.1 hz).1
    simp at hk2
    have : k - (canN X).length = 0 ∨ k - (canN X).length = 1 := by omega
    rcases this with e | e
    · rw [e] at hz; simpa using hz.symm
    · rw [e] at hz; simpa using hz.symm
  · have e : PB la = PB (la + 1 - (n + 2)) * PB (n + 1) := by rw [← PB_add]; congr 1; omega
    have := Int.mul_le_mul_of_nonneg_left hV (Int.le_of_lt (PB_pos (la + 1 - (n + 2))))
    have e2 : PB (la + 1 - (n + 2)) * (2147483648 * PB (n + 1)) = PB la * 2147483648 := by rw [e]; grind
    omega
/-- Three digits of a piece. -/
theorem window3 {L : List Int} {j m : Nat} {u0 u1 u2 : Int} (h0 : L[j + m]? = some u0) (h1 : L[j + m + 1]? = some u1) (h2 : L[j + m + 2]? = some u2) (hup : mv (L.drop (j + m + 3)) = 0) :
    mv (L.drop j) = mv ((L.drop j).take m) + PB m * (u0 + 4294967296 * (u1 + 4294967296 * u2)) := by
  have hlt := (List.getElem?_eq_some_iff.1 h2).1
  have a1 := mv_split (L.drop j) m (by rw [List.length_drop]; omega)
  rw [List.drop_drop] at a1
  have a2 := mv_drop_succ h0
  have a3 := mv_drop_succ h1
  have a4 := mv_drop_succ h2
  rw [hup, Int.mul_zero, Int.add_zero] at a4
  rw [a1, a2, a3, a4]
theorem window2 {V : List Int} {m : Nat} {next top : Int} (hl : V.length = m + 2) (h0 : V[m]? = some next) (h1 : V[m + 1]? = some top) :
    mv V = mv (V.take m) + PB m * (next + 4294967296 * top) := by
  have a1 := mv_split V m (by omega)
  have a2 := mv_drop_succ h0
  have a3 := mv_drop_succ h1
  rw [List.drop_of_length_le (show V.length ≤ m + 1 + 1 by omega), show mv ([] : List Int) = 0 from rfl, Int.mul_zero, Int.add_zero] at a3
  rw [a1, a2, a3]
/-- What holds at the head of a round of the long division. -/
theorem round_facts {ul vl : List Int} {j m : Nat} {V : Int} (hul : Lim ul) (hv : Lim vl) (hvl : vl.length = m + 2) (hV : mv vl = V) (htop : ∀ top, vl[m + 1]? = some top → 2147483648 ≤ top) (hlen : j + m + 2 < ul.length) (hR : mv ul < PB (j + 1) * V) :
    ∃ u0 u1 u2 top next p lo wl wu, ul[j + m]? = some u0 ∧ ul[j + m + 1]? = some u1 ∧ ul[j + m + 2]? = some u2 ∧ vl[m]? = some next ∧ vl[m + 1]? = some top ∧
      0 ≤ u0 ∧ u0 < 4294967296 ∧ 0 ≤ u1 ∧ u1 < 4294967296 ∧ 0 ≤ u2 ∧ u2 < 4294967296 ∧ 0 ≤ next ∧ next < 4294967296 ∧ 2147483648 ≤ top ∧ top < 4294967296 ∧ 0 < p ∧ 0 ≤ wl ∧ wl < p ∧ 0 ≤ wu ∧ wu < p ∧
      V = wl + p * (next + 4294967296 * top) ∧ mv (ul.drop j) = wu + p * (u0 + 4294967296 * (u1 + 4294967296 * u2)) ∧
      wu + p * (u0 + 4294967296 * (u1 + 4294967296 * u2)) < 4294967296 * (wl + p * (next + 4294967296 * top)) ∧
      mv ul = lo + PB j * mv (ul.drop j) ∧ 0 ≤ lo ∧ lo < PB j ∧ mv (ul.drop (j + m + 3)) = 0 := by
  have h0 : ul[j + m]? = some (ul[j + m]'(by omega)) := List.getElem?_eq_getElem (by omega)
  have h1 : ul[j + m + 1]? = some (ul[j + m + 1]'(by omega)) := List.getElem?_eq_getElem (by omega)
  have h2 : ul[j + m + 2]? = some (ul[j + m + 2]'(by omega)) := List.getElem?_eq_getElem (by omega)
  have h3 : vl[m]? = some (vl[m]'(by omega)) := List.getElem?_eq_getElem (by omega)
  have h4 : vl[m + 1]? = some (vl[m + 1]'(by omega)) := List.getElem?_eq_getElem (by omega)
  have pj := PB_pos j
  have hVlt := mv_lt hv
  rw [hvl, hV] at hVlt
  have hup : mv (ul.drop (j + m + 3)) = 0 := by
    refine piece_top (z := ul[j + m + 2]'(by omega)) (W := 0) hul h2 ?_
    have e : PB (j + m + 2 + 1) = PB (j + 1) * PB (m + 2) := by rw [← PB_add]; congr 1; omega
    rw [e]
    have := Int.mul_le_mul_of_nonneg_left (show V ≤ PB (m + 2) by omega) (Int.le_of_lt (PB_pos (j + 1)))
    omega
  have a1 := mv_split ul j (by omega)
  have b1 := mv_lt (hul.take j)
  rw [List.length_take, Nat.min_eq_left (by omega)] at b1
  have b0 := mv_nonneg (hul.take j)
  have w3 := window3 h0 h1 h2 hup
  have w2 := window2 hvl h3 h4
  have c1 := mv_lt ((hul.drop j).take m)
  rw [List.length_take, List.length_drop, Nat.min_eq_left (by omega)] at c1
  have c2 := mv_lt (hv.take m)
  rw [List.length_take, Nat.min_eq_left (by omega)] at c2
  obtain ⟨U, hU⟩ : ∃ U, U = mv (ul.drop j) := ⟨_, rfl⟩
  have hUB : U < 4294967296 * V := by
    rcases Int.lt_or_le U (4294967296 * V) with g | g
    · exact g
    · exfalso
      have := Int.mul_le_mul_of_nonneg_left g (Int.le_of_lt pj)
      rw [← hU] at a1
      rw [PB_succ] at hR
      have e : PB j * (4294967296 * V) = 4294967296 * PB j * V := by grind
      omega
  rw [hV] at w2
  refine ⟨_, _, _, _, _, PB m, mv (ul.take j), mv (vl.take m), mv ((ul.drop j).take m), h0, h1, h2, h3, h4, (hul.get h0).1, (hul.get h0).2, (hul.get h1).1, (hul.get h1).2, (hul.get h2).1, (hul.get h2).2, (hv.get h3).1, (hv.get h3).2, htop _ h4, (hv.get h4).2, PB_pos m, mv_nonneg (hv.take m), c2, mv_nonneg ((hul.drop j).take m), c1, w2, w3, ?_, a1, b0, b1, hup⟩
  rw [← w3, ← w2, ← hU]
  exact hUB
end Go.Proofs.Ytgejdaincnclpaa
