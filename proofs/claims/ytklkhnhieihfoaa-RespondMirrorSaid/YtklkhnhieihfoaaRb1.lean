/- Merged texts: Warm Vec DivP MulDiv VecB VecC LiftA LiftW VecR LiftP Draw SafeW SupA VecE RsA Big BigW BigM BigO BigC BigA (what no proof of the claim needs is left out). -/
import Derived.StillTail
import Derived.StillTactics
import Derived.Below
import Derived.Test.YtklkhnhieihfoaaProg
import Derived.WalkKit
import Derived.WalkSpells
import Derived.WalkLawsBesides
import Derived.Outline
import Derived.Lib.ItoaNum
import Derived.Lib.EndianBits
import Derived.Laws.BitsAllLaws
import Derived.Laws.Rows
import Derived.Deep.RegionHeld3
import Derived.Test.YtklkhnhieihfoaaShelf
import Derived.Deep.LoopGhost
import Derived.Lib.Hide
import Derived.IntWalk
import Derived.Maps.AppendAt
import Derived.Deep.AppendLies
import Derived.Deep.OwnRows
namespace Go.Proofs.Ytklkhnhieihfoaa
open Go Go.RowKit
section
variable {P : Program} {ops : Array Oper} {md : Region.Mode} {S : World → Prop}
/-- The operation yields v at the world w, and S holds behind it. -/
def givesUpon (P : Program) (S : World → Prop) (v : Value) : Result Next → Prop
  | .ok (.value u) w' => u = v ∧ S w'
  | .ok .skip w' => v = undef ∧ S w'
  | .ok (.enter f args) w' => Calls P f args w' (fun e w'' => e = .returned v ∧ S w'')
  | _ => False
theorem givesUpon_value (v u : Value) (w : World) : givesUpon P S v (.ok (.value u) w) = (u = v ∧ S w) := rfl
theorem givesUpon_skip (v : Value) (w : World) : givesUpon P S v (.ok .skip w) = (v = undef ∧ S w) := rfl
theorem givesUpon_enter (v : Value) (f : FuncId) (args : Array Value) (w : World) : givesUpon P S v (.ok (.enter f args) w) = Calls P f args w (fun e w'' => e = .returned v ∧ S w'') := rfl
def gives (P : Program) (S : World → Prop) (o : Oper) (a : Act) (v : Value) : Prop := ∀ w, S w → givesUpon P S v ((execOp a.eval o).run P w)
/-- What a region's operation yields under S, in an act. -/
def YieldsIn (P : Program) (ops : Array Oper) (S : World → Prop) (o : Oper) (v : Value) (a : Act) : Prop :=
  (Region.wanted o (yielded ops a.tmps) = true ∧ gives P S o a v) ∨ (Region.wanted o (yielded ops a.tmps) = false ∧ v = undef)
theorem YieldsIn.of_same {o : Oper} {v : Value} {a a' : Act} (hy : YieldsIn P ops S o v a) (he : execOp a'.eval o = execOp a.eval o)
    (hw : Region.wanted o (yielded ops a'.tmps) = Region.wanted o (yielded ops a.tmps)) : YieldsIn P ops S o v a' := by
  unfold YieldsIn gives at *
  rw [he, hw]
  exact hy
def wmOp (P : Program) (ops : Array Oper) (S : World → Prop) (i : Nat) (K : Act → Prop) (a : Act) : Prop :=
  match ops[i]? with
  | none => K a
  | some o => ∃ v, YieldsIn P ops S o v a ∧ K (a.put o.dst v)
def wpWarm (P : Program) (ops : Array Oper) (S : World → Prop) (Q : Act → Prop) : List Oper → Act → Prop
  | [], a => Q a
  | o :: rest, a => ∃ v, YieldsIn P ops S o v a ∧ wpWarm P ops S Q rest (a.put o.dst v)
theorem wpWarm_nil {Q : Act → Prop} {a : Act} (h : Q a) : wpWarm P ops S Q [] a := h
theorem wpWarm_plain {Q : Act → Prop} {a : Act} {o : Oper} {rest : List Oper} (hg : o.guard = none) (v : Value) (h : gives P S o a v)
    (hk : wpWarm P ops S Q rest (a.put o.dst v)) : wpWarm P ops S Q (o :: rest) a := ⟨v, .inl ⟨by simp [Region.wanted, hg], h⟩, hk⟩
theorem wpWarm_wanted {Q : Act → Prop} {a : Act} {o : Oper} {rest : List Oper} (hg : Region.wanted o (yielded ops a.tmps) = true) (v : Value) (h : gives P S o a v)
    (hk : wpWarm P ops S Q rest (a.put o.dst v)) : wpWarm P ops S Q (o :: rest) a := ⟨v, .inl ⟨hg, h⟩, hk⟩
theorem wpWarm_skip {Q : Act → Prop} {a : Act} {o : Oper} {rest : List Oper} (hg : Region.wanted o (yielded ops a.tmps) = false)
    (hk : wpWarm P ops S Q rest (a.put o.dst undef)) : wpWarm P ops S Q (o :: rest) a := ⟨undef, .inr ⟨hg, rfl⟩, hk⟩
theorem wpWarm_step {Q : Act → Prop} {a : Act} {o : Oper} {rest : List Oper} (hg : o.guard = none) (v : Value) (h : gives P S o a v)
    (hk : ∀ K : Act → Prop, (∀ a, wpWarm P ops S Q rest a → K a) → K (a.put o.dst v)) : wpWarm P ops S Q (o :: rest) a := wpWarm_plain hg v h (hk _ fun _ h => h)
theorem wpWarm_step_on {Q : Act → Prop} {a : Act} {o : Oper} {rest : List Oper} (hg : Region.wanted o (yielded ops a.tmps) = true) (v : Value) (h : gives P S o a v)
    (hk : ∀ K : Act → Prop, (∀ a, wpWarm P ops S Q rest a → K a) → K (a.put o.dst v)) : wpWarm P ops S Q (o :: rest) a := wpWarm_wanted hg v h (hk _ fun _ h => h)
theorem wpWarm_step_off {Q : Act → Prop} {a : Act} {o : Oper} {rest : List Oper} (hg : Region.wanted o (yielded ops a.tmps) = false)
    (hk : ∀ K : Act → Prop, (∀ a, wpWarm P ops S Q rest a → K a) → K (a.put o.dst undef)) : wpWarm P ops S Q (o :: rest) a := wpWarm_skip hg (hk _ fun _ h => h)
theorem wmOp_mono {i : Nat} {a : Act} {K K' : Act → Prop} (h : ∀ a, K a → K' a) (hh : wmOp P ops S i K a) : wmOp P ops S i K' a := by
  unfold wmOp at *
  split
  · exact h _ (by simpa [*] using hh)
  · rename_i o ho
    simp only [ho] at hh
    obtain ⟨v, hy, hk⟩ := hh
    exact ⟨v, hy, h _ hk⟩
theorem YieldsIn.wmOp {i : Nat} {o : Oper} {v : Value} {a : Act} (hi : ops[i]? = some o) (hy : YieldsIn P ops S o v a) {K : Act → Prop} (h : K (a.put o.dst v)) : wmOp P ops S i K a := by
  unfold Proofs.Ytklkhnhieihfoaa.wmOp
  simp only [hi]
  exact ⟨v, hy, h⟩
theorem wmOp_put {j : Nat} {oi oj : Oper} {v : Value} (hj : ops[j]? = some oj) (hap : oi.apart ops oj = true)
    (hsi : ∀ cs b, oi.op ≠ .select cs b) (hsj : ∀ cs b, oj.op ≠ .select cs b) {K : Act → Prop} {a : Act}
    (hy : YieldsIn P ops S oi v a) (h : wmOp P ops S j K (a.put oi.dst v)) :
    wmOp P ops S j (fun a' => YieldsIn P ops S oi v a' ∧ K (a'.put oi.dst v)) a := by
  obtain ⟨h1, h2, h3⟩ := Oper.apart_spec hap
  have keep : ∀ (a : Act), YieldsIn P ops S oi v a → ∀ u, YieldsIn P ops S oi v (a.put oj.dst u) := fun a hy u =>
    hy.of_same (execOp_put oi hsi a oj.dst u h3) (wanted_put oi a oj.dst u h3)
  unfold wmOp at *
  simp only [hj] at *
  obtain ⟨u, hu, hk⟩ := h
  refine ⟨u, hu.of_same (execOp_put oj hsj a oi.dst v h1).symm (wanted_put oj a oi.dst v h1).symm, keep a hy u, ?_⟩
  rw [← Act.put_comm a v u h2]
  exact hk
/-- 'i' stands for the head's length: head operations alone come up till all of them are done. -/
def wpAnyM (P : Program) (md : Region.Mode) (ops : Array Oper) (S : World → Prop) (n : Nat) (L : Array Bool → Act → Prop) : Nat → Array Bool → Act → Prop
  | 0, listed, a => L listed a
  | f + 1, listed, a =>
    Region.ready md ops listed ≠ [] ∧ ∀ i ∈ Region.ready md ops listed, i < n ∧ wmOp P ops S i (wpAnyM P md ops S n L f (listed.setIfInBounds i true)) a
theorem wpOp_of_wmOp {i : Nat} {a : Act} {w : World} {K : Act → Prop} {K' : Act → World → Prop} {Q' : Exit → Act → World → Prop} (hS : S w) (h : ∀ a w, S w → K a → K' a w) (hh : wmOp P ops S i K a) : wpOp P ops Q' i K' a w := by
  unfold wmOp at hh
  unfold wpOp
  split
  · rename_i ho; simp only [ho] at hh; exact h _ _ hS hh
  · rename_i o ho
    simp only [ho] at hh
    obtain ⟨v, hy, hk⟩ := hh
    rcases hy with ⟨hw, hg⟩ | ⟨hw, rfl⟩
    · simp only [hw, if_true]
      refine .inl ?_
      have hg := hg w hS
      unfold Oper.wp
      generalize (execOp a.eval o).run P w = r at *
      cases r with
      | ok nx w' =>
        cases nx <;> simp only [givesUpon, Oper.upon] at hg ⊢
        case value u => obtain ⟨rfl, h2⟩ := hg; exact h _ _ h2 hk
        case skip => obtain ⟨rfl, h2⟩ := hg; exact h _ _ h2 hk
        case enter f args => exact hg.mono fun e w'' ⟨he, hw⟩ => by subst he; exact h _ _ hw hk
      | halt x w' => simp only [givesUpon] at hg
    · simp only [hw, Bool.false_eq_true, if_false]
      exact h _ _ hS hk
theorem wpAny_of_warmHead {n g : Nat} {L : Array Bool → Act → Prop} {Q' : Exit → Act → World → Prop} (hL : ∀ listed a w, S w → L listed a → wpAny P md ops Q' g listed a w) :
    ∀ (f : Nat) (listed : Array Bool) (a : Act) (w : World), S w → wpAnyM P md ops S n L f listed a → wpAny P md ops Q' (f + g) listed a w
  | 0, listed, a, w, hS, h => by rw [Nat.zero_add]; exact hL _ _ _ hS h
  | f + 1, listed, a, w, hS, h => by
    rw [show f + 1 + g = (f + g) + 1 by omega]
    exact ⟨fun h0 => absurd h0 h.1, fun i hi => wpOp_of_wmOp hS (fun a' w' hS' h' => wpAny_of_warmHead hL f _ a' w' hS' h') (h.2 i hi).2⟩
theorem wpAnyM_first {n i : Nat} {oi : Oper} {v : Value} {L : Array Bool → Act → Prop} (hi : ops[i]? = some oi) (hsel : ∀ (j : Nat) (o : Oper) cs b, ops[j]? = some o → o.op ≠ .select cs b)
    (htw : ∀ (listed : Array Bool), HeadInv md ops n listed → ∀ i, i < n → listed.getD i true = false → ∀ t, n ≤ t → t ∉ Region.ready md ops listed) (hin : i < n)
    (hdone : ∀ listed a, L listed a → ∀ j ∈ Region.ready md ops listed, n ≤ j) :
    ∀ (f : Nat) (listed : Array Bool) (a : Act), HeadInv md ops n listed →
      (∀ j oj, ops[j]? = some oj → j ≠ i → listed.getD j true = false → (∀ e ∈ oj.after, Region.binds md e = true → e.on ≠ i) → oi.apart ops oj = true) →
      i ∈ Region.ready md ops listed → YieldsIn P ops S oi v a →
      wpAnyM P md ops S n L f (listed.setIfInBounds i true) (a.put oi.dst v) → wpAnyM P md ops S n L (f + 1) listed a := by
  intro f
  induction f with
  | zero =>
    intro listed a inv _ hr hy H
    have hun := (mem_ready.1 hr).1
    refine ⟨fun h => (by rw [h] at hr; cases hr), fun j hj => ?_⟩
    have hjn : j < n := by
      rcases Nat.lt_or_ge j n with h | h
      · exact h
      · exact absurd hj (htw _ inv i hin hun j h)
    refine ⟨hjn, ?_⟩
    by_cases hji : j = i
    · subst hji; exact hy.wmOp hi H
    · have := hdone _ _ H j (ready_mono hj hji)
      omega
  | succ f ih =>
    intro listed a inv hfree hr hy H
    have hun := (mem_ready.1 hr).1
    refine ⟨fun h => (by rw [h] at hr; cases hr), fun j hj => ?_⟩
    have hjn : j < n := by
      rcases Nat.lt_or_ge j n with h | h
      · exact h
      · exact absurd hj (htw _ inv i hin hun j h)
    refine ⟨hjn, ?_⟩
    by_cases hji : j = i
    · subst hji; exact hy.wmOp hi H
    · have h1 := (H.2 j (ready_mono hj hji)).2
      obtain ⟨hjun, oj, hoj, hall⟩ := mem_ready.1 hj
      have hnot : ∀ e ∈ oj.after, Region.binds md e = true → e.on ≠ i := fun e he hb heq => by
        have h1 := hall e he hb
        rw [heq, getD_both hun] at h1
        cases h1
      have h2 := wmOp_put hoj (hfree j oj hoj hji hjun hnot) (fun cs b => hsel i oi cs b hi) (fun cs b => hsel j oj cs b hoj) hy h1
      have hfree' : ∀ k ok, ops[k]? = some ok → k ≠ i → (listed.setIfInBounds j true).getD k true = false →
          (∀ e ∈ ok.after, Region.binds md e = true → e.on ≠ i) → oi.apart ops ok = true := fun k ok hk hki hun hno => by
        refine hfree k ok hk hki ?_ hno
        by_cases hjk : j = k
        · subst hjk; exact hjun
        · rw [getD_set_ne true hjk] at hun; exact hun
      refine wmOp_mono (fun a' h3 => ih (listed.setIfInBounds j true) a' (inv.set hj hjn) hfree' (ready_mono hr (Ne.symm hji)) h3.1 ?_) h2
      rw [Array.setIfInBounds_comm _ _ hji]
      exact h3.2
theorem wpAnyM_lex {n g : Nat} {Lq : Act → Prop} (hsel : Region.noSelect ops = true)
    (htw : ∀ (listed : Array Bool), HeadInv md ops n listed → ∀ i, i < n → listed.getD i true = false → ∀ t, n ≤ t → t ∉ Region.ready md ops listed) :
    ∀ (l : List Oper) (k : Nat) (listed : Array Bool) (a : Act), (∀ j, j < l.length → l[j]? = ops[k + j]?) → k + l.length = n → HeadInv md ops n listed →
    Region.lexHead md ops g l.length k listed = true → wpWarm P ops S Lq l a →
    wpAnyM P md ops S n (fun listed' a' => Region.seqB md ops g n listed' = true ∧ Lq a') l.length listed a
  | [], k, listed, a, _, hk, _, hB, h => by
    have : k = n := by simpa using hk
    subst this
    exact ⟨by simpa [Region.lexHead] using hB, h⟩
  | o :: l, k, listed, a, hl, hk, inv, hB, h => by
    have h0 : ops[k]? = some o := by simpa using (hl 0 (by simp)).symm
    simp only [List.length_cons, Region.lexHead, Bool.and_eq_true] at hB
    obtain ⟨⟨hr, hf⟩, hB'⟩ := hB
    have hkn : k < n := by simp only [List.length_cons] at hk; omega
    have hr' : k ∈ Region.ready md ops listed := by simpa using hr
    obtain ⟨v, hy, hK⟩ := h
    exact wpAnyM_first h0 (Region.noSelect_spec hsel) htw hkn (fun listed' a' hL => seqB_ready hL.1) l.length listed a inv (Region.free_spec h0 hf) hr' hy
      (wpAnyM_lex hsel htw l (k + 1) _ _ (fun j hj => by have := hl (j + 1) (by simp; omega); simpa [Nat.add_assoc, Nat.add_comm 1 j] using this) (by simp only [List.length_cons] at hk; omega) (inv.set hr' hkn) hB' hK)
/-- A region whose head is warm, and whose tail runs in the order of the text. -/
theorem wp_region_warm_tail {id : Nat} {Q : Exit → Act → World → Prop} {a : Act} {w : World} {l : List Oper} (S : World → Prop) (n : Nat) (hm : P.follows .mixedOrders = true) (hB : Region.lexTailB .any l.toArray n = true)
    (hS : S w.drew) (h : wpWarm P l.toArray S (fun a' => ∀ w', S w' → wpList P l.toArray Q (l.drop n) a' w') (l.take n) a) : (Code.region id l.toArray true).wp P Q a w := by
  simp only [Region.lexTailB, Bool.and_eq_true, decide_eq_true_eq] at hB
  obtain ⟨⟨⟨⟨hsel, hn⟩, hs⟩, hc⟩, hlex⟩ := hB
  have hn' : n < l.length := by simpa using hn
  have htl : (l.take n).length = n := by simp; omega
  have hdl : (l.drop n).length = l.toArray.size - n := by simp
  have inv0 : HeadInv .any l.toArray n (Array.replicate l.toArray.size false) :=
    ⟨by simp, fun j oj _ hl => (by rw [getD_replicate_false] at hl; cases hl), fun t _ ht => getD_in (by simpa using ht) (getD_replicate_false _ _)⟩
  have H := wpAnyM_lex (md := .any) (g := l.toArray.size - n) hsel (fun listed inv i hin hun t ht => tail_waits hs hc hn inv _ i rfl hin hun t ht) (l.take n) 0 _ a (fun j hj => by
    have hj' : j < n := by rw [htl] at hj; exact hj
    simp [hj']) (by simpa using htl) inv0 (by rw [htl]; exact hlex) h
  refine wp_region_any hm ?_
  have := wpAny_of_warmHead (Q' := Q) (g := l.toArray.size - n) (fun listed a' w' hS' hL => by
    have := wpAny_of_seq (md := .any) (Q' := Q) (l.drop n) n listed a' w' (fun j => by simp [List.getElem?_drop]) (by rw [hdl]; exact hL.1) (hL.2 _ hS')
    rwa [hdl] at this) _ _ _ _ hS H
  rw [htl, show n + (l.toArray.size - n) = l.toArray.size by omega] at this
  exact this
/-- A region that is warm to its end. -/
theorem wp_region_warm {id : Nat} {Q : Exit → Act → World → Prop} {a : Act} {w : World} {l : List Oper} (S : World → Prop) (hm : P.follows .mixedOrders = true) (hB : Region.lexB .any l.toArray = true)
    (hS : S w.drew) (h : wpWarm P l.toArray S (fun a' => ∀ w', S w' → Q .normal a' w') l a) : (Code.region id l.toArray true).wp P Q a w := by
  simp only [Region.lexB, Bool.and_eq_true] at hB
  have lexH : ∀ (f k : Nat) (listed : Array Bool), Region.lexFrom .any l.toArray f k listed = true → Region.lexHead .any l.toArray 0 f k listed = true := by
    intro f
    induction f with
    | zero => intro k listed h; simpa [Region.lexHead, Region.lexFrom, Region.seqB] using h
    | succ f ih =>
      intro k listed h
      simp only [Region.lexFrom, Bool.and_eq_true] at h
      simp only [Region.lexHead, Bool.and_eq_true]
      exact ⟨h.1, ih _ _ h.2⟩
  have inv0 : HeadInv .any l.toArray l.length (Array.replicate l.toArray.size false) :=
    ⟨by simp, fun j oj _ hl => (by rw [getD_replicate_false] at hl; cases hl), fun t ht ht' => by simp at ht'; omega⟩
  have H := wpAnyM_lex (md := .any) (n := l.length) (g := 0) (Lq := fun a' => ∀ w', S w' → Q .normal a' w') hB.1
    (fun listed inv i hin hun t ht hr => by
      obtain ⟨_, o, ho, _⟩ := mem_ready.1 hr
      have := (Array.getElem?_eq_some_iff.1 ho).1
      simp at this
      omega) l 0 _ a (fun j _ => by simp) (by simp) inv0 (lexH _ _ _ (by simpa using hB.2)) h
  refine wp_region_any hm ?_
  have := wpAny_of_warmHead (Q' := Q) (g := 0) (fun listed a' w' hS' hL => ⟨by simpa [Region.seqB] using hL.1, hL.2 _ hS'⟩) _ _ _ _ hS H
  simpa using this
theorem bcell {W w1 : World} {B : Nat} (hb : Below B W w1) : (∀ b o, b < B → w1.cell? ⟨b, o, none⟩ = W.cell? ⟨b, o, none⟩) ∧ (∀ b o, b < B → w1.frozen? ⟨b, o, none⟩ = W.frozen? ⟨b, o, none⟩) :=
  ⟨fun b o h => hb.cell (p := ⟨b, o, none⟩) h, fun b o h => hb.frozen (p := ⟨b, o, none⟩) h⟩
/-- The world W' is W below block number N, and has at least N blocks. -/
def Own (N : Nat) (W W' : World) : Prop := N ≤ W'.heap.size ∧ Below N W W'
theorem Own.refl {N : Nat} {W : World} (h : N ≤ W.heap.size) : Own N W W := ⟨h, Below.refl _ _⟩
theorem Own.drew {N : Nat} {W W' : World} (h : Own N W W') : Own N W W'.drew := ⟨h.1, h.2.drew⟩
theorem Own.call {N : Nat} {W W1 W2 : World} (h : Own N W W1) (hb : Below W1.heap.size W1 W2) : Own N W W2 := ⟨Nat.le_trans h.1 hb.size, h.2.trans (hb.mono h.1)⟩
theorem Own.first {N : Nat} {W W1 : World} (h : N ≤ W.heap.size) (hb : Below W.heap.size W W1) : Own N W W1 := (Own.refl h).call hb
theorem Own.trans {N : Nat} {W W1 W2 : World} (h : Own N W W1) (h' : Own N W1 W2) : Own N W W2 := ⟨h'.1, h.2.trans h'.2⟩
theorem Own.setCell {N : Nat} {W W1 : World} (h : Own N W W1) {p : Addr} (hp : N ≤ p.block) (u : Value) : Own N W (W1.setCell p u) := ⟨by simpa [World.setCell] using h.1, h.2.setCell hp u⟩
theorem Own.alloc {N : Nat} {W W1 : World} (h : Own N W W1) (o : Obj) : Own N W (W1.alloc o) := ⟨Nat.le_trans h.1 (by simp), h.2.alloc h.1 o⟩
theorem Own.cells {N : Nat} {W W1 : World} (h : Own N W W1) : (∀ b o, b < N → W1.cell? ⟨b, o, none⟩ = W.cell? ⟨b, o, none⟩) ∧ (∀ b o, b < N → W1.frozen? ⟨b, o, none⟩ = W.frozen? ⟨b, o, none⟩) := bcell h.2
theorem Own.below {N B : Nat} {w W W1 : World} (h : Own N W W1) (hb : Below B w W) (hB : B ≤ N) : Below B w W1 := hb.trans (h.2.mono hB)
theorem pin_wp {P : Program} {c : Code} {Q : Exit → Act → World → Prop} {a : Act} {X : World} {N : Nat} (hN : N ≤ X.heap.size) (h : ∀ w1 : World, Below N X w1 → N ≤ w1.heap.size → c.wp P Q a w1) : c.wp P Q a X := h X (Below.refl _ _) hN
end
attribute [go_sem] givesUpon_value givesUpon_skip givesUpon_enter
set_option linter.unusedVariables false
theorem cel1 {G : Prop} {N b : Nat} {W w : World} {v0 : Value} (hb : Below N W w) (h1 : b < N) (h2 : b < w.heap.size) (c0 : W.cell? ⟨b, 0, none⟩ = some v0) (hf : ∀ o, W.frozen? ⟨b, o, none⟩ = false) (k : w.cell? ⟨b, 0, none⟩ = some v0 → (∀ o, w.frozen? ⟨b, o, none⟩ = false) → (b < w.heap.size ∧ b < w.heap.size + 1 ∧ b < w.heap.size + 1 + 1 ∧ b < w.heap.size + 1 + 1 + 1) → G) : G :=
  k (by rw [hb.cell (p := ⟨b, 0, none⟩) h1]; exact c0) (fun o => by rw [hb.frozen (p := ⟨b, o, none⟩) h1]; exact hf o) ⟨h2, by omega, by omega, by omega⟩
theorem cel2 {G : Prop} {N b : Nat} {W w : World} {v0 v1 : Value} (hb : Below N W w) (h1 : b < N) (h2 : b < w.heap.size) (c0 : W.cell? ⟨b, 0, none⟩ = some v0) (c1 : W.cell? ⟨b, 1, none⟩ = some v1) (hf : ∀ o, W.frozen? ⟨b, o, none⟩ = false) (k : w.cell? ⟨b, 0, none⟩ = some v0 → w.cell? ⟨b, 1, none⟩ = some v1 → (∀ o, w.frozen? ⟨b, o, none⟩ = false) → (b < w.heap.size ∧ b < w.heap.size + 1 ∧ b < w.heap.size + 1 + 1 ∧ b < w.heap.size + 1 + 1 + 1) → G) : G :=
  k (by rw [hb.cell (p := ⟨b, 0, none⟩) h1]; exact c0) (by rw [hb.cell (p := ⟨b, 1, none⟩) h1]; exact c1) (fun o => by rw [hb.frozen (p := ⟨b, o, none⟩) h1]; exact hf o) ⟨h2, by omega, by omega, by omega⟩
theorem cel6 {G : Prop} {N b : Nat} {W w : World} {v0 v1 v2 v3 v4 v5 : Value} (hb : Below N W w) (h1 : b < N) (h2 : b < w.heap.size) (c0 : W.cell? ⟨b, 0, none⟩ = some v0) (c1 : W.cell? ⟨b, 1, none⟩ = some v1) (c2 : W.cell? ⟨b, 2, none⟩ = some v2) (c3 : W.cell? ⟨b, 3, none⟩ = some v3) (c4 : W.cell? ⟨b, 4, none⟩ = some v4) (c5 : W.cell? ⟨b, 5, none⟩ = some v5) (hf : ∀ o, W.frozen? ⟨b, o, none⟩ = false) (k : w.cell? ⟨b, 0, none⟩ = some v0 → w.cell? ⟨b, 1, none⟩ = some v1 → w.cell? ⟨b, 2, none⟩ = some v2 → w.cell? ⟨b, 3, none⟩ = some v3 → w.cell? ⟨b, 4, none⟩ = some v4 → w.cell? ⟨b, 5, none⟩ = some v5 → (∀ o, w.frozen? ⟨b, o, none⟩ = false) → (b < w.heap.size ∧ b < w.heap.size + 1 ∧ b < w.heap.size + 1 + 1 ∧ b < w.heap.size + 1 + 1 + 1) → G) : G :=
  k (by rw [hb.cell (p := ⟨b, 0, none⟩) h1]; exact c0) (by rw [hb.cell (p := ⟨b, 1, none⟩) h1]; exact c1) (by rw [hb.cell (p := ⟨b, 2, none⟩) h1]; exact c2) (by rw [hb.cell (p := ⟨b, 3, none⟩) h1]; exact c3) (by rw [hb.cell (p := ⟨b, 4, none⟩) h1]; exact c4) (by rw [hb.cell (p := ⟨b, 5, none⟩) h1]; exact c5) (fun o => by rw [hb.frozen (p := ⟨b, o, none⟩) h1]; exact hf o) ⟨h2, by omega, by omega, by omega⟩
theorem bR (B : Nat) (w : World) : Below B w w := Below.refl B w
theorem bS {B : Nat} {a w : World} {p : Addr} (h : Below B a w) (hp : B ≤ p.block) (u : Value) : Below B a (w.setCell p u) := h.setCell hp u
theorem bA {B : Nat} {a w : World} (h : Below B a w) (hB : B ≤ w.heap.size) (o : Obj) : Below B a (w.alloc o) := h.alloc hB o
theorem bD {B : Nat} {a w : World} (h : Below B a w) : Below B a w.drew := h.drew
theorem bT {N M : Nat} {a b c : World} (h : Below N a b) (k : Below M b c) (hN : N ≤ M) : Below N a c := h.trans (k.mono hN)
theorem bO {N B : Nat} {w W W1 : World} (h : Own N W W1) (hb : Below B w W) (hB : B ≤ N) : Below B w W1 := h.below hb hB
end Go.Proofs.Ytklkhnhieihfoaa
namespace Go.Proofs.Ytklkhnhieihfoaa
open Go.RowKit
theorem ret_bool {a b : Bool} (h : a = b) : Ending.returned (.bool a) = .returned (.bool b) := by rw [h]
theorem bool_iff {a b : Bool} (h : a = true ↔ b = true) : a = b := by cases a <;> cases b <;> simp_all
theorem mul_bd (a b A B : Int) (h1 : -A ≤ a) (h2 : a ≤ A) (h3 : -B ≤ b) (h4 : b ≤ B) : -(A * B) ≤ a * b ∧ a * b ≤ A * B := by
  have e1 : 0 ≤ (A - a) * (B + b) := Int.mul_nonneg (by omega) (by omega)
  have e2 : 0 ≤ (A + a) * (B - b) := Int.mul_nonneg (by omega) (by omega)
  have e3 : 0 ≤ (A - a) * (B - b) := Int.mul_nonneg (by omega) (by omega)
  have e4 : 0 ≤ (A + a) * (B + b) := Int.mul_nonneg (by omega) (by omega)
  have f1 : (A - a) * (B + b) = A * B + A * b - a * B - a * b := by rw [Int.sub_mul, Int.mul_add, Int.mul_add]; omega
  have f2 : (A + a) * (B - b) = A * B - A * b + a * B - a * b := by rw [Int.add_mul, Int.mul_sub, Int.mul_sub]; omega
  have f3 : (A - a) * (B - b) = A * B - A * b - a * B + a * b := by rw [Int.sub_mul, Int.mul_sub, Int.mul_sub]; omega
  have f4 : (A + a) * (B + b) = A * B + A * b + a * B + a * b := by rw [Int.add_mul, Int.mul_add, Int.mul_add]; omega
  omega
def smallB (x y : Int) : Bool := decide (-1073741824 ≤ x ∧ x ≤ 1073741824 ∧ -1073741824 ≤ y ∧ y ≤ 1073741824)
set_option maxHeartbeats 400000 in
theorem small_any (x y : Int) (w : World) :
    Calls Try.prog 67 #[.agg #[.int .i64 x, .int .i64 y]] w fun e w' => e = .returned (.bool (smallB x y)) ∧ Below w.heap.size w w' := by
  go_enter Try.func67, Try.ntmps67
  go_wp2
  all_goals
    go_ret
    refine ⟨ret_bool (bool_iff ?_), (Below.refl _ _).alloc (Nat.le_refl _) _⟩
    simp only [smallB, decide_eq_true_eq, Bool.false_eq_true, false_iff]; omega
def withinB (x y n : Int) : Bool := decide (-n ≤ x ∧ x ≤ n ∧ -n ≤ y ∧ y ≤ n)
theorem small_of {x y : Int} (h : -1073741824 ≤ x ∧ x ≤ 1073741824 ∧ -1073741824 ≤ y ∧ y ≤ 1073741824) : smallB x y = true := by simp only [smallB, decide_eq_true_eq]; exact h
end Go.Proofs.Ytklkhnhieihfoaa
namespace Go.Proofs.Ytklkhnhieihfoaa
open Go
theorem wrap_small {z : Int} (h0 : 0 ≤ z) (h1 : z < 18446744073709551616) : IntKind.u64.wrap z = z := by rw [IntKind.wrap_u64]; omega
/-- One digit of the quotient: Y is the divisor in two halves, U the upper part, d the next half. -/
structure Digit (Y n1 n0 U d Q : Int) : Prop where
  hY : Y = n1 * 4294967296 + n0
  n00 : 0 ≤ n0
  n01 : n0 < 4294967296
  n10 : 2147483648 ≤ n1
  n11 : n1 < 4294967296
  u0 : 0 ≤ U
  u1 : U < Y
  d0 : 0 ≤ d
  d1 : d < 4294967296
  hQ : Q = (U * 4294967296 + d) / Y
theorem Digit.split {Y n1 n0 U d Q : Int} (D : Digit Y n1 n0 U d Q) (q : Int) : q * Y = q * n1 * 4294967296 + q * n0 := by
  rw [D.hY, Int.mul_add, Int.mul_assoc]
theorem Digit.pos {Y n1 n0 U d Q : Int} (D : Digit Y n1 n0 U d Q) : 0 < Y := by have := D.hY; have := D.n00; have := D.n10; omega
theorem Digit.q0 {Y n1 n0 U d Q : Int} (D : Digit Y n1 n0 U d Q) : 0 ≤ Q := by
  rw [D.hQ]
  exact Int.ediv_nonneg (by have := D.u0; have := D.d0; omega) (Int.le_of_lt D.pos)
theorem Digit.q1 {Y n1 n0 U d Q : Int} (D : Digit Y n1 n0 U d Q) : Q < 4294967296 := by
  rw [D.hQ]
  exact Int.ediv_lt_of_lt_mul D.pos (by have := D.u1; have := D.d1; omega)
theorem Digit.first {Y n1 n0 U d Q : Int} (D : Digit Y n1 n0 U d Q) : Q ≤ U / n1 := by
  have h1 := D.split Q
  have h2 : Q * Y ≤ U * 4294967296 + d := by rw [D.hQ]; exact Int.ediv_mul_le _ (by have := D.pos; omega)
  have h3 : 0 ≤ Q * n0 := Int.mul_nonneg D.q0 D.n00
  have := D.d1
  have := D.n10
  exact Int.le_ediv_of_mul_le (by omega) (by omega)
theorem Digit.rest {Y n1 n0 U d Q : Int} (D : Digit Y n1 n0 U d Q) : U * 4294967296 + d - Q * Y = (U * 4294967296 + d) % Y := by
  rw [D.hQ]
  have := Int.emod_add_mul_ediv (U * 4294967296 + d) Y
  rw [Int.mul_comm Y] at this
  omega
theorem Digit.restb {Y n1 n0 U d Q : Int} (D : Digit Y n1 n0 U d Q) : 0 ≤ U * 4294967296 + d - Q * Y ∧ U * 4294967296 + d - Q * Y < Y := by
  rw [D.rest]
  exact ⟨Int.emod_nonneg _ (by have := D.pos; omega), Int.emod_lt_of_pos _ D.pos⟩
/-- What the shifts make of the three numbers. -/
structure Shifted (hi lo y : Int) (k m : Nat) (Y n1 n0 H L U Z d1 d0 : Int) : Prop where
  k0 : (k : Int) < 64
  hY : Y = y * 2 ^ k
  hYs : Y = n1 * 4294967296 + n0
  n00 : 0 ≤ n0
  n01 : n0 < 4294967296
  n10 : 2147483648 ≤ n1
  n11 : n1 < 4294967296
  u0 : 0 ≤ U
  u1 : U < Y
  z0 : 0 ≤ Z
  hZ : Z = d1 * 4294967296 + d0
  d10 : 0 ≤ d1
  d11 : d1 < 4294967296
  d00 : 0 ≤ d0
  d01 : d0 < 4294967296
  hN : U * 18446744073709551616 + Z = (hi * 18446744073709551616 + lo) * 2 ^ k
theorem shifted {hi lo y : Int} (a1 : 0 < hi) (a2 : hi < y) (a3 : 0 ≤ lo) (a4 : lo < 18446744073709551616) (a5 : y < 18446744073709551616) :
    ∃ (k m : Nat) (Y n1 n0 H L U Z d1 d0 : Int), Shifted hi lo y k m Y n1 n0 H L U Z d1 d0 ∧
      IntKind.u64.wrap (64 - (Lib.bitLen y.toNat : Int)) = (k : Int) ∧ min k 64 = k ∧ IntKind.u64.wrap (y * 2 ^ k) = Y ∧ Y / 4294967296 = n1 ∧ bits .and .u64 Y 4294967295 = n0 ∧
      IntKind.u64.wrap (hi * 2 ^ k) = H ∧ IntKind.u64.wrap (64 - (k : Int)) = (m : Int) ∧ min m 64 = m ∧ lo / 2 ^ m = L ∧ bits .or .u64 H L = U ∧ IntKind.u64.wrap (lo * 2 ^ k) = Z ∧ Z / 4294967296 = d1 ∧ bits .and .u64 Z 4294967295 = d0 := by
  obtain ⟨b1, b2, b3⟩ := Lib.bitLenAux_bounds 64 y.toNat (by omega) (by omega)
  have b4 : Lib.bitLenAux 64 y.toNat ≤ 64 := Lib.bitLenAux_le 64 _ 64 (by omega)
  have hbl : Lib.bitLen y.toNat = Lib.bitLenAux 64 y.toNat := rfl
  obtain ⟨b, hb⟩ : ∃ b, b = Lib.bitLenAux 64 y.toNat := ⟨_, rfl⟩
  rw [← hb] at b1 b2 b3 b4 hbl
  obtain ⟨k, hk⟩ : ∃ k, k = 64 - b := ⟨_, rfl⟩
  obtain ⟨c, rfl⟩ : ∃ c, b = c + 1 := ⟨b - 1, by omega⟩
  have hy : ((y.toNat : Nat) : Int) = y := by omega
  -- the powers
  obtain ⟨P, hP⟩ : ∃ P : Int, P = 2 ^ k := ⟨_, rfl⟩
  obtain ⟨M, hM⟩ : ∃ M : Int, M = 2 ^ (64 - k) := ⟨_, rfl⟩
  have hPM : P * M = 18446744073709551616 := by
    rw [hP, hM, ← Int.pow_add, show k + (64 - k) = 64 by omega]; rfl
  have hP1 : 1 ≤ P := by have h : (0 : Int) < 2 ^ k := Int.pow_pos (by omega); omega
  have hM1 : 1 ≤ M := by have h : (0 : Int) < 2 ^ (64 - k) := Int.pow_pos (by omega); omega
  have c1 : (2 : Int) ^ c ≤ y := by rw [← hy]; simp only [Nat.add_sub_cancel] at b2; exact_mod_cast b2
  have c2 : y < 2 ^ (c + 1) := by rw [← hy]; exact_mod_cast b3
  have y0 : 9223372036854775808 ≤ y * P := by
    have h1 : (2 : Int) ^ c * P ≤ y * P := Int.mul_le_mul_of_nonneg_right c1 (by omega)
    have h2 : (2 : Int) ^ c * P = 9223372036854775808 := by rw [hP, ← Int.pow_add, show c + k = 63 by omega]; rfl
    omega
  have y1 : y * P < 18446744073709551616 := by
    have h1 : y * P < 2 ^ (c + 1) * P := Int.mul_lt_mul_of_pos_right c2 (by omega)
    have h2 : (2 : Int) ^ (c + 1) * P = 18446744073709551616 := by rw [hP, ← Int.pow_add, show c + 1 + k = 64 by omega]; rfl
    omega
  have h0 : 0 ≤ hi * P := Int.mul_nonneg (by omega) (by omega)
  have h1 : hi * P + P ≤ y * P := by
    have : (hi + 1) * P ≤ y * P := Int.mul_le_mul_of_nonneg_right (by omega) (by omega)
    rw [Int.add_mul, Int.one_mul] at this
    exact this
  obtain ⟨L, hL⟩ : ∃ L, L = lo / M := ⟨_, rfl⟩
  have L0 : 0 ≤ L := by rw [hL]; exact Int.ediv_nonneg a3 (by omega)
  have L1 : L < P := by rw [hL]; exact Int.ediv_lt_of_lt_mul (by omega) (by rw [hPM]; exact a4)
  have hmod := Int.emod_add_mul_ediv lo M
  rw [← hL] at hmod
  have m0 : 0 ≤ lo % M := Int.emod_nonneg _ (by omega)
  have m1 : lo % M < M := Int.emod_lt_of_pos _ (by omega)
  have hlo : lo * P = L * 18446744073709551616 + (lo % M) * P := by
    conv => lhs; rw [← hmod]
    rw [Int.add_mul, ← hPM, Int.mul_comm M L, Int.mul_assoc L M P, Int.mul_comm M P]
    omega
  have z0 : 0 ≤ (lo % M) * P := Int.mul_nonneg m0 (by omega)
  have z1 : (lo % M) * P < 18446744073709551616 := by
    have : (lo % M) * P < M * P := Int.mul_lt_mul_of_pos_right m1 (by omega)
    rw [Int.mul_comm M P, hPM] at this
    exact this
  have hZ : IntKind.u64.wrap (lo * P) = (lo % M) * P := by rw [IntKind.wrap_u64, hlo]; omega
  have hand : ∀ z : Int, 0 ≤ z → z < 18446744073709551616 → bits .and .u64 z 4294967295 = z % 4294967296 := fun z g0 g1 => bits_mask .u64 64 (by decide) wraps_u64 32 (by decide) z g0 (by omega)
  have hor : bits .or .u64 (hi * P) L = hi * P + L := by
    refine bits_join .u64 64 (by decide) wraps_u64 k (hi * P) L h0 ?_ (by omega) L0 (by rw [← hP]; exact L1) (by omega)
    rw [← hP]; exact Int.mul_emod_left _ _
  refine ⟨k, 64 - k, y * P, y * P / 4294967296, y * P % 4294967296, hi * P, L, hi * P + L, (lo % M) * P, (lo % M) * P / 4294967296, (lo % M) * P % 4294967296, ?_, ?_, ?_, ?_, rfl, ?_, ?_, ?_, ?_, ?_, hor, ?_, rfl, ?_⟩
  · refine { k0 := by omega, hY := by rw [hP], hYs := by omega, n00 := by omega, n01 := by omega, n10 := by omega, n11 := by omega, u0 := by omega, u1 := by omega, z0 := z0, hZ := by omega, d10 := by omega, d11 := by omega, d00 := by omega, d01 := by omega, hN := ?_ }
    have e : (hi * 18446744073709551616 + lo) * P = hi * P * 18446744073709551616 + lo * P := by rw [Int.add_mul, Int.mul_right_comm]
    rw [← hP, e]
    omega
  · rw [hbl, wrap_small (by omega) (by omega)]; omega
  · omega
  · rw [← hP]; exact wrap_small (by omega) (by omega)
  · exact hand _ (by omega) (by omega)
  · rw [← hP]; exact wrap_small (by omega) (by omega)
  · rw [wrap_small (by omega) (by omega)]; omega
  · omega
  · rw [← hM]; exact hL.symm
  · rw [← hP]; exact hZ
  · exact hand _ z0 z1
/-- Two digits and the last remainder. -/
theorem Shifted.result {hi lo y : Int} {k m : Nat} {Y n1 n0 H L U Z d1 d0 Q1 R1 Q0 : Int} (S : Shifted hi lo y k m Y n1 n0 H L U Z d1 d0) (hy : 0 < y)
    (hR : R1 = U * 4294967296 + d1 - Q1 * Y) (D0 : Digit Y n1 n0 R1 d0 Q0) :
    Q1 * 4294967296 + Q0 = (hi * 18446744073709551616 + lo) / y ∧ (R1 * 4294967296 + d0 - Q0 * Y) / 2 ^ k = (hi * 18446744073709551616 + lo) % y := by
  have hp : (0 : Int) < 2 ^ k := Int.pow_pos (by omega)
  obtain ⟨r1, r2⟩ := D0.restb
  obtain ⟨R, hRR⟩ : ∃ R, R = R1 * 4294967296 + d0 - Q0 * Y := ⟨_, rfl⟩
  rw [← hRR] at r1 r2 ⊢
  have e : (hi * 18446744073709551616 + lo) * 2 ^ k = (Q1 * 4294967296 + Q0) * Y + R := by
    rw [← S.hN, S.hZ, hRR, hR, Int.add_mul, Int.mul_right_comm]
    omega
  rw [S.hY] at e r2
  obtain ⟨q, hq⟩ : ∃ q, q = Q1 * 4294967296 + Q0 := ⟨_, rfl⟩
  rw [← hq] at e ⊢
  obtain ⟨N, hN⟩ : ∃ N, N = hi * 18446744073709551616 + lo := ⟨_, rfl⟩
  rw [← hN] at e ⊢
  obtain ⟨P, hP⟩ : ∃ P : Int, P = 2 ^ k := ⟨_, rfl⟩
  rw [← hP] at e hp r2 ⊢
  have e2 : R = (N - q * y) * P := by rw [Int.sub_mul, e, Int.mul_assoc q y P]; omega
  have t0 : 0 ≤ N - q * y := by
    rcases Int.lt_or_le (N - q * y) 0 with h | h
    · have : (N - q * y) * P < 0 := Int.mul_neg_of_neg_of_pos h hp
      omega
    · exact h
  have t1 : N - q * y < y := Int.lt_of_mul_lt_mul_right (by rw [← e2]; exact r2) (Int.le_of_lt hp)
  have hqd : N / y = q ∧ N % y = N - q * y := by
    have := Int.ediv_emod_unique (a := N) (b := y) (r := N - q * y) (q := q) hy
    exact this.2 ⟨by rw [Int.mul_comm y q]; omega, t0, t1⟩
  refine ⟨hqd.1.symm, ?_⟩
  rw [hqd.2, e2]
  exact Int.mul_ediv_cancel _ (by omega)
end Go.Proofs.Ytklkhnhieihfoaa
namespace Go.Proofs.Ytklkhnhieihfoaa
open Go.RowKit
set_option linter.unusedVariables false
theorem mul64_b (x y : Nat) (w : World) (hx : x < 18446744073709551616) (hy : y < 18446744073709551616) :
    Calls Try.prog 73 #[.int .u64 x, .int .u64 y] w fun e w' => e = .returned (.tuple #[.int .u64 ((x * y / 18446744073709551616 : Nat) : Int), .int .u64 ((x * y % 18446744073709551616 : Nat) : Int)]) ∧ Below w.heap.size w w' :=
  (Try.bits_Mul64 x y hx hy w).mono fun e w' h => ⟨h.1, by rw [h.2]; exact Below.refl _ _⟩
end Go.Proofs.Ytklkhnhieihfoaa
namespace Go.Proofs.Ytklkhnhieihfoaa
open Go.RowKit
set_option linter.unusedVariables false
theorem small_bd {a b : Int} (h1 : smallB a b = true) : -1073741824 ≤ a ∧ a ≤ 1073741824 ∧ -1073741824 ≤ b ∧ b ≤ 1073741824 := by simpa [smallB] using h1
def cmpV (a b : Int) : Int := if a < b then -1 else if b < a then 1 else 0
def sqI (x y : Int) : Int := x * x + y * y
def orderR (x1 x2 a1 a2 b1 b2 : Int) : Int := if sqI (a1 - x1) (a2 - x2) = sqI (b1 - x1) (b2 - x2) then cmpV (sqI a1 a2) (sqI b1 b2) else cmpV (sqI (a1 - x1) (a2 - x2)) (sqI (b1 - x1) (b2 - x2))
end Go.Proofs.Ytklkhnhieihfoaa
namespace Go.Proofs.Ytklkhnhieihfoaa
open Go.RowKit
set_option linter.unusedVariables false
/-- The greatest integer whose square is at most n, bit by bit. -/
def rootAux : Nat → Int → Int → Int
  | 0, _, r => r
  | i + 1, n, r => if (r + 2 ^ i) * (r + 2 ^ i) ≤ n then rootAux i n (r + 2 ^ i) else rootAux i n r
def rootR (n : Int) : Int := if n ≤ 0 then 0 else rootAux 32 n 0
def pw : Nat → Int
  | 0 => 0
  | i + 1 => 2 ^ i
theorem pw_half (i : Nat) : (2 : Int) ^ i / 2 = pw i := by
  cases i with
  | zero => rfl
  | succ i => unfold pw; rw [Int.pow_succ]; exact Int.mul_ediv_cancel _ (by omega)
theorem wraps_i64' (n : Int) (h₀ : 0 ≤ n) (h₁ : n < 2 ^ 63) : IntKind.i64.wrap n = n := by rw [IntKind.wrap_i64]; omega
set_option maxRecDepth 100000 in
set_option maxHeartbeats 1000000 in
theorem root_any (n : Int) (w : World) (n1 : -9223372036854775808 ≤ n) (n2 : n ≤ 9223372036854775807) :
    Calls Try.prog 102 #[.int .i64 n] w fun e w' => e = .returned (.int .i64 (rootR n)) ∧ Below w.heap.size w w' := by
  unfold rootR
  by_cases h0 : n ≤ 0
  · rw [if_pos h0]
    go_enter Try.func102, Try.ntmps102; (try simp only [List.append_eq, List.cons_append, List.nil_append])
    go_wp2_with fail
    go_ret
    exact ⟨rfl, Below.refl _ _⟩
  · rw [if_neg h0]
    obtain ⟨R, hR⟩ : ∃ R, R = rootAux 32 n 0 := ⟨_, rfl⟩
    rw [← hR]
    have HR := Lib.hid hR
    clear hR
    go_enter Try.func102, Try.ntmps102; (try simp only [List.append_eq, List.cons_append, List.nil_append])
    go_wp2_with fail
    go_loop [3, 4] (fun vr vb => ∃ (i : Nat) (r b : Int), i ≤ 32 ∧ vr = .int .i64 r ∧ vb = .int .i64 b ∧ 0 ≤ r ∧ r < 4294967296 ∧ Hid (b = pw i) ∧ Hid (r % 2 ^ i = 0) ∧ Hid (R = rootAux i n r)) (fun vr vb => (intOf vb).toNat)
    case atStart => exact ⟨32, 0, 2147483648, by omega, rfl, rfl, by omega, by omega, Lib.hid (by decide), Lib.hid (by decide), HR⟩
    case round =>
      obtain ⟨i, r, b, hi, rfl, rfl, r0, r1, HB, HM, HA⟩ := hrel
      cases i with
      | zero =>
        have hb : b = 0 := HB.out
        subst hb
        have hr : R = r := HA.out
        subst hr
        go_wp2_with fail
        go_ret
        exact ⟨rfl, Below.refl _ _⟩
      | succ j =>
        have hb : b = 2 ^ j := HB.out
        have b0 : 0 < b := by rw [hb]; exact Int.pow_pos (by omega)
        have b1 : b ≤ 2147483648 := by
          rw [hb]
          have h1 : (2 : Nat) ^ j ≤ 2147483648 := Nat.le_trans (Nat.pow_le_pow_right (by omega) (show j ≤ 31 by omega)) (by decide)
          have h2 : ((2 ^ j : Nat) : Int) ≤ ((2147483648 : Nat) : Int) := Int.ofNat_le.2 h1
          rw [Int.natCast_pow] at h2
          exact h2
        have hor : bits .or .i64 r b = r + b := by
          refine bits_join .i64 63 (by decide) wraps_i64' (j + 1) r b r0 HM.out (by omega) (by omega) ?_ (by omega)
          rw [hb, Int.pow_succ]; omega
        have hhalf : b / 2 = pw j := by rw [hb]; exact pw_half j
        obtain ⟨D, hD⟩ : ∃ D, D = n / (r + b) := ⟨_, rfl⟩
        have hDn : n.tdiv (r + b) = D := by rw [hD]; exact Int.tdiv_eq_ediv_of_nonneg (by omega)
        have hle : r + b ≤ D ↔ (r + b) * (r + b) ≤ n := by rw [hD]; exact Int.le_ediv_iff_mul_le (by omega)
        have D0 : 0 ≤ D := by rw [hD]; exact Int.ediv_nonneg (by omega) (by omega)
        have D1 : D ≤ n := by rw [hD]; exact Int.ediv_le_self _ (by omega)
        have HLE := Lib.hid hle
        have Hb := Lib.hid hb
        obtain ⟨b', hb'⟩ : ∃ b', b' = pw j := ⟨_, rfl⟩
        rw [← hb'] at hhalf
        have Hb' := Lib.hid hb'
        have b2 : 0 ≤ b' ∧ b' < b := by omega
        obtain ⟨b3, b4⟩ := b2
        have hne : ((r + b) == 0) = false := by simp; omega
        have hne' : ¬ (r + b = 0) := by omega
        clear hle hb hb' hD
        by_cases hc : r + b ≤ D
        · have hr2 : R = rootAux j n (r + b) := by rw [HA.out, Hb.out]; exact if_pos (by rw [← Hb.out]; exact HLE.out.1 hc)
          have hm2 : (r + b) % 2 ^ j = 0 := by
            have h1 := HM.out
            have h2 : r % 2 ^ j = 0 := Int.emod_eq_zero_of_dvd (Int.dvd_trans ⟨2, by rw [Int.pow_succ]⟩ (Int.dvd_of_emod_eq_zero h1))
            rw [Hb.out, Int.add_emod, h2, Int.emod_self]; rfl
          have hlt : r + b < 4294967296 := by
            rcases Int.lt_or_le (r + b) 4294967296 with h | h
            · exact h
            · have h1 := HLE.out.1 hc
              have : (4294967296 : Int) * 4294967296 ≤ (r + b) * (r + b) := Int.mul_le_mul h h (by omega) (by omega)
              omega
          have H2 := Lib.hid hr2
          have H3 := Lib.hid hm2
          clear hr2 hm2
          go_wp2_with fail
          go_round
          case rel => exact ⟨j, r + b, b', by omega, by go_num, by go_num, by omega, by omega, Hb', H3, H2⟩
          case measure => simp [intOf]; omega
        · have hr2 : R = rootAux j n r := by rw [HA.out]; exact if_neg (by rw [← Hb.out]; exact fun h => hc (HLE.out.2 h))
          have hm2 : r % 2 ^ j = 0 := Int.emod_eq_zero_of_dvd (Int.dvd_trans ⟨2, by rw [Int.pow_succ]⟩ (Int.dvd_of_emod_eq_zero HM.out))
          have H2 := Lib.hid hr2
          have H3 := Lib.hid hm2
          clear hr2 hm2
          go_wp2_with fail
          go_round
          case rel => exact ⟨j, r, b', by omega, by go_num, by go_num, by omega, by omega, Hb', H3, H2⟩
          case measure => simp [intOf]; omega
end Go.Proofs.Ytklkhnhieihfoaa
namespace Go.Proofs.Ytklkhnhieihfoaa
open Go.RowKit
set_option linter.unusedVariables false
abbrev V2 := Int × Int
def smB (p : V2) : Bool := smallB p.1 p.2
def vd (x n : V2) : Int := x.1 * n.1 + x.2 * n.2
def allowedR (y : V2) (l : List V2) : Bool := l.all (fun n => decide (0 ≤ vd y n))
def candR (x : V2) (l : List V2) (best : List V2) (y : V2) : List V2 :=
  if smB y = true ∧ allowedR y l = true then
    (if orderR x.1 x.2 y.1 y.2 (best.headD (0, 0)).1 (best.headD (0, 0)).2 = -1 then [y] else if orderR x.1 x.2 y.1 y.2 (best.headD (0, 0)).1 (best.headD (0, 0)).2 = 0 then best ++ [y] else best)
  else best
def VsAt (w : World) (g o : Nat) (l : List V2) : Prop := ∀ k x, l[k]? = some x → w.cell? ⟨g, o + k * 2, none⟩ = some (.int .i64 x.1) ∧ w.cell? ⟨g, o + k * 2 + 1, none⟩ = some (.int .i64 x.2)
theorem VsAt.below {w w1 : World} {g o B : Nat} {l : List V2} (h : VsAt w g o l) (hb : Below B w w1) (hg : g < B) : VsAt w1 g o l := by
  intro k x hx
  obtain ⟨a, b⟩ := h k x hx
  refine ⟨?_, ?_⟩ <;> rw [hb.cell (by simpa using hg)] <;> assumption
theorem all_take_succ {p : V2 → Bool} {l : List V2} {k : Nat} {x : V2} (h : l[k]? = some x) : (l.take (k + 1)).all p = ((l.take k).all p && p x) := by
  rw [List.take_add_one, h]; simp
end Go.Proofs.Ytklkhnhieihfoaa
namespace Go.Proofs.Ytklkhnhieihfoaa
open Go.RowKit
set_option linter.unusedVariables false
theorem idx0 (w : World) (a b c d e f g h : Value) : (Instr.index 115 (.agg #[a, b, c, d, e, f, g, h]) (.int .i64 0)).run Try.prog w = .ok (.agg #[a, b]) w := by
  simp [Instr.index, asIntOf, run_underlying Try.underlying115, go_sem]
theorem idx1 (w : World) (a b c d e f g h : Value) : (Instr.index 115 (.agg #[a, b, c, d, e, f, g, h]) (.int .i64 1)).run Try.prog w = .ok (.agg #[c, d]) w := by
  simp [Instr.index, asIntOf, run_underlying Try.underlying115, go_sem]
theorem idx2 (w : World) (a b c d e f g h : Value) : (Instr.index 115 (.agg #[a, b, c, d, e, f, g, h]) (.int .i64 2)).run Try.prog w = .ok (.agg #[e, f]) w := by
  simp [Instr.index, asIntOf, run_underlying Try.underlying115, go_sem]
theorem idx3 (w : World) (a b c d e f g h : Value) : (Instr.index 115 (.agg #[a, b, c, d, e, f, g, h]) (.int .i64 3)).run Try.prog w = .ok (.agg #[g, h]) w := by
  simp [Instr.index, asIntOf, run_underlying Try.underlying115, go_sem]
attribute [local go_sem] idx0 idx1 idx2 idx3
end Go.Proofs.Ytklkhnhieihfoaa
namespace Go.Proofs.Ytklkhnhieihfoaa
open Go.RowKit
set_option linter.unusedVariables false
set_option maxHeartbeats 400000 in
theorem rsmall_any (x y : Int) (w : World) :
    Calls Try.prog 104 #[.agg #[.int .i64 x, .int .i64 y]] w fun e w' => e = .returned (.bool (smallB x y)) ∧ Below w.heap.size w w' := by
  go_enter Try.func104, Try.ntmps104
  go_wp2
  all_goals
    go_ret
    refine ⟨ret_bool ?_, by ((with_reducible (repeat (first | exact bR _ _ | refine bS ?_ ?_ _ | refine bA ?_ ?_ _ | refine bD ?_ | refine bT ?_ (by assumption) ?_ | refine bO (by assumption) ?_ ?_))) <;> (first | omega | (simp; done) | (simp <;> omega)))⟩
    simp [smallB, *]
    try omega
end Go.Proofs.Ytklkhnhieihfoaa
namespace Go.Proofs.Ytklkhnhieihfoaa
open Go.RowKit
set_option linter.unusedVariables false
def kA (x c : V2) : Int := sqI (c.1 - x.1) (c.2 - x.2)
def kC (c : V2) : Int := sqI c.1 c.2
def leK (x c d : V2) : Prop := kA x c < kA x d ∨ (kA x c = kA x d ∧ kC c ≤ kC d)
theorem order_cases (x y h : V2) : (orderR x.1 x.2 y.1 y.2 h.1 h.2 = -1 ∧ ¬ leK x h y) ∨ (orderR x.1 x.2 y.1 y.2 h.1 h.2 = 0 ∧ leK x h y ∧ leK x y h) ∨ (orderR x.1 x.2 y.1 y.2 h.1 h.2 = 1 ∧ ¬ leK x y h) := by
  unfold orderR leK
  show ((if kA x y = kA x h then cmpV (kC y) (kC h) else cmpV (kA x y) (kA x h)) = -1 ∧ _) ∨ ((if kA x y = kA x h then cmpV (kC y) (kC h) else cmpV (kA x y) (kA x h)) = 0 ∧ _) ∨ ((if kA x y = kA x h then cmpV (kC y) (kC h) else cmpV (kA x y) (kA x h)) = 1 ∧ _)
  generalize kA x y = a
  generalize kA x h = b
  generalize kC y = c
  generalize kC h = d
  unfold cmpV
  split <;> (split <;> (try split) <;> omega)
theorem leK_trans {x a b c : V2} (h : leK x a b) (h' : leK x b c) : leK x a c := by unfold leK at *; omega
theorem leK_total {x a b : V2} (h : ¬ leK x a b) : leK x b a := by unfold leK at *; omega
theorem leK_refl (x a : V2) : leK x a a := by unfold leK; omega
def Least (x : V2) (S : V2 → Prop) (b : List V2) : Prop := b ≠ [] ∧ ∀ c, c ∈ b ↔ (S c ∧ ∀ d, S d → leK x c d)
theorem Least.congr {x : V2} {S S' : V2 → Prop} {b : List V2} (h : Least x S b) (hs : ∀ c, S c ↔ S' c) : Least x S' b :=
  ⟨h.1, fun c => by rw [h.2 c, hs c]; exact ⟨fun g => ⟨g.1, fun d hd => g.2 d ((hs d).2 hd)⟩, fun g => ⟨g.1, fun d hd => g.2 d ((hs d).1 hd)⟩⟩⟩
theorem headD_mem {b : List V2} (h : b ≠ []) : b.headD (0, 0) ∈ b := by cases b with
  | nil => exact absurd rfl h
  | cons a t => exact List.mem_cons_self ..
theorem Least.step {x : V2} {l : List V2} {S : V2 → Prop} {b : List V2} (h : Least x S b) (y : V2) : Least x (fun c => S c ∨ (c = y ∧ smB y = true ∧ allowedR y l = true)) (candR x l b y) := by
  unfold candR
  by_cases hg : smB y = true ∧ allowedR y l = true
  · rw [if_pos hg]
    have hm := headD_mem h.1
    generalize b.headD (0, 0) = hd at hm ⊢
    have hS := (h.2 hd).1 hm
    rcases order_cases x y hd with ⟨e, g⟩ | ⟨e, g, g'⟩ | ⟨e, g⟩
    · rw [if_pos e]
      have gy := leK_total g
      refine ⟨by simp, fun c => ?_⟩
      rw [List.mem_singleton]
      constructor
      · rintro rfl
        refine ⟨.inr ⟨rfl, hg⟩, fun d hd' => ?_⟩
        rcases hd' with hd' | ⟨rfl, _⟩
        · exact leK_trans gy (hS.2 d hd')
        · exact leK_refl _ _
      · rintro ⟨hc, hmin⟩
        rcases hc with hc | ⟨rfl, _⟩
        · exact absurd (leK_trans (hS.2 c hc) (hmin y (.inr ⟨rfl, hg⟩))) g
        · rfl
    · rw [if_neg (by rw [e]; decide), if_pos e]
      refine ⟨by simp, fun c => ?_⟩
      rw [List.mem_append, List.mem_singleton]
      constructor
      · rintro (hc | rfl)
        · have hc' := (h.2 c).1 hc
          refine ⟨.inl hc'.1, fun d hd' => ?_⟩
          rcases hd' with hd' | ⟨rfl, _⟩
          · exact hc'.2 d hd'
          · exact leK_trans (hc'.2 hd hS.1) g
        · refine ⟨.inr ⟨rfl, hg⟩, fun d hd' => ?_⟩
          rcases hd' with hd' | ⟨rfl, _⟩
          · exact leK_trans g' (hS.2 d hd')
          · exact leK_refl _ _
      · rintro ⟨hc, hmin⟩
        rcases hc with hc | ⟨rfl, _⟩
        · exact .inl ((h.2 c).2 ⟨hc, fun d hd' => hmin d (.inl hd')⟩)
        · exact .inr rfl
    · rw [if_neg (by rw [e]; decide), if_neg (by rw [e]; decide)]
      have gy := leK_total g
      refine ⟨h.1, fun c => ?_⟩
      constructor
      · intro hc
        have hc' := (h.2 c).1 hc
        refine ⟨.inl hc'.1, fun d hd' => ?_⟩
        rcases hd' with hd' | ⟨rfl, _⟩
        · exact hc'.2 d hd'
        · exact leK_trans (hc'.2 hd hS.1) gy
      · rintro ⟨hc, hmin⟩
        rcases hc with hc | ⟨rfl, _⟩
        · exact (h.2 c).2 ⟨hc, fun d hd' => hmin d (.inl hd')⟩
        · exact absurd (hmin hd (.inl hS.1)) g
  · rw [if_neg hg]
    exact h.congr fun c => ⟨.inl, fun hh => by
      rcases hh with hh | ⟨_, hh⟩
      · exact hh
      · exact absurd hh hg⟩
end Go.Proofs.Ytklkhnhieihfoaa
namespace Go.Proofs.Ytklkhnhieihfoaa
open Go Go.RowKit
set_option linter.unusedVariables false
section
variable {P : Program} {ops : Array Oper} {md : Region.Mode} {N : Nat} {W0 : World}
/-- The new blocks so far, with what they hold. -/
def SG (N : Nat) (W0 : World) (G : List (Nat × Obj)) (W : World) : Prop := Own N W0 W ∧ ∀ p ∈ G, N ≤ p.1 ∧ W.heap[p.1]? = some p.2
theorem SG.size {G : List (Nat × Obj)} {W : World} (h : SG N W0 G W) {p : Nat × Obj} (hp : p ∈ G) : p.1 < W.heap.size := by
  have h1 := (h.2 p hp).2
  exact (Array.getElem?_eq_some_iff.1 h1).1
theorem SG.below {G : List (Nat × Obj)} {W W' : World} (h : SG N W0 G W) (hb : Below W.heap.size W W') : SG N W0 G W' :=
  ⟨h.1.call hb, fun p hp => ⟨(h.2 p hp).1, by rw [hb.block _ (h.size hp)]; exact (h.2 p hp).2⟩⟩
theorem SG.alloc {G : List (Nat × Obj)} {W : World} (h : SG N W0 G W) (o : Obj) : SG N W0 ((W.heap.size, o) :: G) (W.alloc o) := by
  refine ⟨h.1.alloc o, fun p hp => ?_⟩
  rcases List.mem_cons.1 hp with rfl | hp
  · exact ⟨h.1.1, heap_alloc_new W o⟩
  · exact ⟨(h.2 p hp).1, by rw [Below.heap_alloc _ _ _ (h.size hp)]; exact (h.2 p hp).2⟩
/-- The operation gives v, and what was there stays. -/
def givesB (P : Program) (W : World) (v : Value) : Result Next → Prop
  | .ok (.value u) w' => u = v ∧ Below W.heap.size W w'
  | .ok .skip w' => v = undef ∧ Below W.heap.size W w'
  | .ok (.enter f args) w' => Calls P f args w' (fun e w'' => e = .returned v ∧ Below W.heap.size W w'')
  | _ => False
theorem givesB_value (W : World) (v u : Value) (w : World) : givesB P W v (.ok (.value u) w) = (u = v ∧ Below W.heap.size W w) := rfl
theorem givesB_skip (W : World) (v : Value) (w : World) : givesB P W v (.ok .skip w) = (v = undef ∧ Below W.heap.size W w) := rfl
theorem givesB_enter (W : World) (v : Value) (f : FuncId) (args : Array Value) (w : World) : givesB P W v (.ok (.enter f args) w) = Calls P f args w (fun e w'' => e = .returned v ∧ Below W.heap.size W w'') := rfl
/-- What holds of a world and goes on holding while nothing that was there is touched. -/
def Cl (F : World → Prop) : Prop := ∀ W W', F W → Below W.heap.size W W' → F W'
theorem Cl.and {F F' : World → Prop} (h : Cl F) (h' : Cl F') : Cl (fun W => F W ∧ F' W) := fun W W' k hb => ⟨h W W' k.1 hb, h' W W' k.2 hb⟩
theorem Cl.tt : Cl (fun _ => True) := fun _ _ _ _ => trivial
def XPost (W : World) (K : Value → (World → Prop) → Prop) (e : Ending) (w'' : World) : Prop := ∃ (v : Value) (F : World → Prop), e = .returned v ∧ Below W.heap.size W w'' ∧ F w'' ∧ Cl F ∧ K v F
theorem XPost.mk {W w'' : World} {K : Value → (World → Prop) → Prop} (v : Value) (F : World → Prop) (hb : Below W.heap.size W w'') (hF : F w'') (hC : Cl F) (hK : K v F) : XPost W K (.returned v) w'' := ⟨v, F, rfl, hb, hF, hC, hK⟩
def givesX (P : Program) (W : World) (K : Value → (World → Prop) → Prop) : Result Next → Prop
  | .ok (.value u) w' => ∃ F : World → Prop, Below W.heap.size W w' ∧ F w' ∧ Cl F ∧ K u F
  | .ok .skip w' => ∃ F : World → Prop, Below W.heap.size W w' ∧ F w' ∧ Cl F ∧ K undef F
  | .ok (.enter f args) w' => Calls P f args w' (XPost W K)
  | _ => False
theorem givesX_enter (W : World) (K : Value → (World → Prop) → Prop) (f : FuncId) (args : Array Value) (w : World) : givesX P W K (.ok (.enter f args) w) = Calls P f args w (XPost W K) := rfl
theorem givesX_value (W : World) (K : Value → (World → Prop) → Prop) (u : Value) (w : World) : givesX P W K (.ok (.value u) w) = ∃ F : World → Prop, Below W.heap.size W w ∧ F w ∧ Cl F ∧ K u F := rfl
theorem givesX_mono {W : World} {K K' : Value → (World → Prop) → Prop} (h : ∀ v F, K v F → K' v F) : ∀ r, givesX P W K r → givesX P W K' r := by
  intro r hr
  match r, hr with
  | .ok (.value u) w', ⟨F, a, b, c, d⟩ => exact ⟨F, a, b, c, h _ _ d⟩
  | .ok .skip w', ⟨F, a, b, c, d⟩ => exact ⟨F, a, b, c, h _ _ d⟩
  | .ok (.enter f args) w', hr => exact Calls.mono hr fun e w'' ⟨v, F, e1, a, b, c, d⟩ => ⟨v, F, e1, a, b, c, h _ _ d⟩
def GivesH (P : Program) (N : Nat) (W0 : World) (o : Oper) (a : Act) (v : Value) : Prop := ∀ W, Own N W0 W → givesB P W v ((execOp a.eval o).run P W)
def YieldsH (P : Program) (ops : Array Oper) (N : Nat) (W0 : World) (o : Oper) (v : Value) (a : Act) : Prop :=
  (Region.wanted o (yielded ops a.tmps) = true ∧ GivesH P N W0 o a v) ∨ (Region.wanted o (yielded ops a.tmps) = false ∧ v = undef)
def FreshF (P : Program) (ops : Array Oper) (o : Oper) (a : Act) (ob : Obj) : Prop :=
  Region.wanted o (yielded ops a.tmps) = true ∧ ∀ W, (execOp a.eval o).run P W = .ok (.value (.pointer (some ⟨W.heap.size, 0, none⟩))) (W.alloc ob)
/-- Of the state: what is known of the world, the new blocks, the frame. -/
abbrev GK := (World → Prop) → List (Nat × Obj) → Act → Prop
/-- What an operation that may touch blocks from N on leaves. -/
def WPost (N : Nat) (W0 : World) (K : Value → (World → Prop) → List (Nat × Obj) → Prop) (e : Ending) (w : World) : Prop := ∃ (v : Value) (F : World → Prop) (G : List (Nat × Obj)), e = .returned v ∧ F w ∧ Cl F ∧ SG N W0 G w ∧ K v F G
theorem WPost.mk {N : Nat} {W0 w : World} {K : Value → (World → Prop) → List (Nat × Obj) → Prop} (v : Value) (F : World → Prop) (G : List (Nat × Obj)) (hF : F w) (hC : Cl F) (hS : SG N W0 G w) (hK : K v F G) : WPost N W0 K (.returned v) w := ⟨v, F, G, rfl, hF, hC, hS, hK⟩
def givesW (P : Program) (N : Nat) (W0 : World) (K : Value → (World → Prop) → List (Nat × Obj) → Prop) : Result Next → Prop
  | .ok (.value u) w' => WPost N W0 K (.returned u) w'
  | .ok .skip w' => WPost N W0 K (.returned undef) w'
  | .ok (.enter f args) w' => Calls P f args w' (WPost N W0 K)
  | _ => False
theorem givesW_value (K : Value → (World → Prop) → List (Nat × Obj) → Prop) (u : Value) (w : World) : givesW P N W0 K (.ok (.value u) w) = WPost N W0 K (.returned u) w := rfl
theorem givesW_skip (K : Value → (World → Prop) → List (Nat × Obj) → Prop) (w : World) : givesW P N W0 K (.ok .skip w) = WPost N W0 K (.returned undef) w := rfl
theorem givesW_enter (K : Value → (World → Prop) → List (Nat × Obj) → Prop) (f : FuncId) (args : Array Value) (w : World) : givesW P N W0 K (.ok (.enter f args) w) = Calls P f args w (WPost N W0 K) := rfl
theorem WPost.mono {K K' : Value → (World → Prop) → List (Nat × Obj) → Prop} (h : ∀ v F G, K v F G → K' v F G) {e : Ending} {w : World} (hh : WPost N W0 K e w) : WPost N W0 K' e w := by
  obtain ⟨v, F, G, a, b, c, d, k⟩ := hh; exact ⟨v, F, G, a, b, c, d, h _ _ _ k⟩
theorem givesW_mono {K K' : Value → (World → Prop) → List (Nat × Obj) → Prop} (h : ∀ v F G, K v F G → K' v F G) : ∀ r, givesW P N W0 K r → givesW P N W0 K' r := by
  intro r hr
  match r, hr with
  | .ok (.value u) w', hr => exact WPost.mono h hr
  | .ok .skip w', hr => exact WPost.mono h hr
  | .ok (.enter f args) w', hr => exact Calls.mono hr fun e w'' h' => WPost.mono h h'
def WildX (P : Program) (ops : Array Oper) (N : Nat) (W0 : World) (o : Oper) (a : Act) (K : GK) (F : World → Prop) (G : List (Nat × Obj)) : Prop :=
  Region.wanted o (yielded ops a.tmps) = true ∧ ∀ W, F W → SG N W0 G W → givesW P N W0 (fun v F' G' => K F' G' (a.put o.dst v)) ((execOp a.eval o).run P W)
def CallX (P : Program) (ops : Array Oper) (N : Nat) (W0 : World) (o : Oper) (a : Act) (K : GK) (F : World → Prop) (G : List (Nat × Obj)) : Prop :=
  Region.wanted o (yielded ops a.tmps) = true ∧ ∀ W, F W → SG N W0 G W → givesX P W (fun v F' => K (fun W => F W ∧ F' W) G (a.put o.dst v)) ((execOp a.eval o).run P W)
def isAlloc (o : Oper) : Bool := match o.op with | .alloc _ => o.guard.isNone | _ => false
def wfOp (P : Program) (ops : Array Oper) (N : Nat) (W0 : World) (i : Nat) (K : GK) (F : World → Prop) (G : List (Nat × Obj)) (a : Act) : Prop :=
  match ops[i]? with
  | none => False
  | some o => if isAlloc o = true then ∃ ob, FreshF P ops o a ob ∧ ∀ g, N ≤ g → (∀ p ∈ G, p.1 ≠ g) → K F ((g, ob) :: G) (a.put o.dst (.pointer (some ⟨g, 0, none⟩)))
      else (∃ v, YieldsH P ops N W0 o v a ∧ K F G (a.put o.dst v)) ∨
      WildX P ops N W0 o a K F G ∨
      CallX P ops N W0 o a K F G
/-- The operations from n on wait each for all those ahead of n. -/
def tailB (md : Region.Mode) (ops : Array Oper) (n : Nat) : Bool :=
  Region.noSelect ops && (List.range ops.size).all fun t => decide (t < n) || match ops[t]? with
    | some o => (List.range n).all fun i => o.after.any fun e => Region.binds md e && e.on == i
    | none => true
theorem tailB_spec {n t i : Nat} {listed : Array Bool} (h : tailB md ops n = true) (ht : t ∈ Region.ready md ops listed) (hi : i < n) (hun : listed.getD i true = false) : t < n := by
  rcases Nat.lt_or_ge t n with hlt | hge
  · exact hlt
  · obtain ⟨_, o, ho, hall⟩ := mem_ready.1 ht
    simp only [tailB, Bool.and_eq_true, List.all_eq_true, List.mem_range] at h
    have h1 := h.2 t (Array.getElem?_eq_some_iff.1 ho).1
    simp only [ho, Bool.or_eq_true, decide_eq_true_eq, List.all_eq_true, List.mem_range] at h1
    rcases h1 with h1 | h1
    · omega
    · obtain ⟨e, he, hb⟩ := Array.any_eq_true'.1 (h1 i hi)
      simp only [Bool.and_eq_true, beq_iff_eq] at hb
      have := hall e he hb.1
      rw [hb.2, getD_both hun] at this
      cases this
abbrev LK := Array Bool → GK
def wpF (P : Program) (md : Region.Mode) (ops : Array Oper) (N : Nat) (W0 : World) (n : Nat) (L : GK) : Nat → LK
  | 0, listed, F, G, a => Region.seqB md ops (ops.size - n) n listed = true ∧ L F G a
  | f + 1, listed, F, G, a => Region.ready md ops listed ≠ [] ∧ ∀ i ∈ Region.ready md ops listed, wfOp P ops N W0 i (wpF P md ops N W0 n L f (listed.setIfInBounds i true)) F G a
theorem wfOp_mono {i : Nat} {a : Act} {F : World → Prop} {G : List (Nat × Obj)} {K K' : GK} (h : ∀ F G a, K F G a → K' F G a) (hh : wfOp P ops N W0 i K F G a) : wfOp P ops N W0 i K' F G a := by
  unfold wfOp at *
  split
  · rename_i ho; simp only [ho] at hh
  · rename_i o ho
    simp only [ho] at hh
    split at hh
    · rename_i ha
      rw [if_pos ha]
      obtain ⟨ob, hf, hk⟩ := hh
      exact ⟨ob, hf, fun g hN hg => h _ _ _ (hk g hN hg)⟩
    · rename_i ha
      rw [if_neg ha]
      rcases hh with ⟨v, hy, hk⟩ | ⟨hw, hx⟩ | ⟨hw, hx⟩
      · exact .inl ⟨v, hy, h _ _ _ hk⟩
      · exact .inr (.inl ⟨hw, fun W hF hS => givesW_mono (fun v F' G' hk => h _ _ _ hk) _ (hx W hF hS)⟩)
      · exact .inr (.inr ⟨hw, fun W hF hS => givesX_mono (fun v F' hk => h _ _ _ hk) _ (hx W hF hS)⟩)
theorem YieldsH.of_same {o : Oper} {v : Value} {a a' : Act} (hy : YieldsH P ops N W0 o v a) (he : execOp a'.eval o = execOp a.eval o)
    (hw : Region.wanted o (yielded ops a'.tmps) = Region.wanted o (yielded ops a.tmps)) : YieldsH P ops N W0 o v a' := by
  unfold YieldsH GivesH at *; rw [he, hw]; exact hy
/-- Another operation, behind one that may come first: the latter may come behind it. -/
theorem wfOp_put {j : Nat} {oi oj : Oper} {v : Value} (hj : ops[j]? = some oj) (hap : oi.apart ops oj = true)
    (hsi : ∀ cs b, oi.op ≠ .select cs b) (hsj : ∀ cs b, oj.op ≠ .select cs b) {K : GK} {F : World → Prop} {G : List (Nat × Obj)} {a : Act}
    (hy : YieldsH P ops N W0 oi v a) (h : wfOp P ops N W0 j K F G (a.put oi.dst v)) :
    wfOp P ops N W0 j (fun F' G' a' => YieldsH P ops N W0 oi v a' ∧ K F' G' (a'.put oi.dst v)) F G a := by
  obtain ⟨h1, h2, h3⟩ := Oper.apart_spec hap
  have keep : ∀ u, YieldsH P ops N W0 oi v (a.put oj.dst u) := fun u => hy.of_same (execOp_put oi hsi a oj.dst u h3) (wanted_put oi a oj.dst u h3)
  have e1 := execOp_put oj hsj a oi.dst v h1
  have e2 := wanted_put oj a oi.dst v h1
  unfold wfOp at *
  simp only [hj] at *
  split at h
  · rename_i ha
    rw [if_pos ha]
    obtain ⟨ob, hf, hk⟩ := h
    refine ⟨ob, ?_, fun g hN hg => ⟨keep _, by rw [← Act.put_comm a v _ h2]; exact hk g hN hg⟩⟩
    unfold FreshF at *; rw [e1, e2] at hf; exact hf
  · rename_i ha
    rw [if_neg ha]
    rcases h with ⟨u, hu, hk⟩ | ⟨hw, hx⟩ | ⟨hw, hx⟩
    · exact .inl ⟨u, hu.of_same e1.symm e2.symm, keep u, by rw [← Act.put_comm a v u h2]; exact hk⟩
    · refine .inr (.inl ⟨by rw [← e2]; exact hw, fun W hF hS => ?_⟩)
      have := hx W hF hS
      rw [e1] at this
      exact givesW_mono (fun u F' G' hk => ⟨keep u, by rw [← Act.put_comm a v u h2]; exact hk⟩) _ this
    · refine .inr (.inr ⟨by rw [← e2]; exact hw, fun W hF hS => ?_⟩)
      have := hx W hF hS
      rw [e1] at this
      exact givesX_mono (fun u F' hk => ⟨keep u, by rw [← Act.put_comm a v u h2]; exact hk⟩) _ this
theorem seqB_mem {g k : Nat} {listed : Array Bool} (h : Region.seqB md ops g k listed = true) : ∀ j ∈ Region.ready md ops listed, k ≤ j := seqB_ready h
theorem wpF_first {i n : Nat} {oi : Oper} {v : Value} {L : GK} (hT : tailB md ops n = true) (hin : i < n) (hi : ops[i]? = some oi) (ha : isAlloc oi = false) :
    ∀ (f : Nat) (listed : Array Bool) (F : World → Prop) (G : List (Nat × Obj)) (a : Act),
      (∀ j oj, ops[j]? = some oj → j ≠ i → listed.getD j true = false → (∀ e ∈ oj.after, Region.binds md e = true → e.on ≠ i) → oi.apart ops oj = true) →
      i ∈ Region.ready md ops listed → YieldsH P ops N W0 oi v a →
      wpF P md ops N W0 n L f (listed.setIfInBounds i true) F G (a.put oi.dst v) → wpF P md ops N W0 n L (f + 1) listed F G a := by
  have hsel := Region.noSelect_spec (by have := hT; unfold tailB at this; rw [Bool.and_eq_true] at this; exact this.1)
  have base : ∀ (F : World → Prop) (G : List (Nat × Obj)) (a : Act), YieldsH P ops N W0 oi v a → ∀ K : GK, K F G (a.put oi.dst v) → wfOp P ops N W0 i K F G a := by
    intro F G a hy K H
    unfold wfOp
    simp only [hi]
    rw [if_neg (by rw [ha]; exact Bool.false_ne_true)]
    exact .inl ⟨v, hy, H⟩
  intro f
  induction f with
  | zero =>
    intro listed F G a hfree hr hy H
    have hun := (mem_ready.1 hr).1
    refine ⟨fun h => (by rw [h] at hr; cases hr), fun j hj => ?_⟩
    by_cases hji : j = i
    · subst hji
      exact base _ _ _ hy _ H
    · have h1 := seqB_mem H.1 j (ready_mono hj hji)
      have h2 := tailB_spec hT hj hin hun
      omega
  | succ f ih =>
    intro listed F G a hfree hr hy H
    have hun := (mem_ready.1 hr).1
    refine ⟨fun h => (by rw [h] at hr; cases hr), fun j hj => ?_⟩
    by_cases hji : j = i
    · subst hji
      exact base _ _ _ hy _ H
    · have h1 := H.2 j (ready_mono hj hji)
      obtain ⟨hjun, oj, hoj, hall⟩ := mem_ready.1 hj
      have hnot : ∀ e ∈ oj.after, Region.binds md e = true → e.on ≠ i := fun e he hb heq => by
        have h1 := hall e he hb
        rw [heq, getD_both hun] at h1
        cases h1
      have h2 := wfOp_put hoj (hfree j oj hoj hji hjun hnot) (fun cs b => hsel i oi cs b hi) (fun cs b => hsel j oj cs b hoj) hy h1
      have hfree' : ∀ k ok, ops[k]? = some ok → k ≠ i → (listed.setIfInBounds j true).getD k true = false →
          (∀ e ∈ ok.after, Region.binds md e = true → e.on ≠ i) → oi.apart ops ok = true := fun k ok hk hki hun hno => by
        refine hfree k ok hk hki ?_ hno
        by_cases hjk : j = k
        · subst hjk; exact hjun
        · rw [getD_set_ne true hjk] at hun; exact hun
      refine wfOp_mono (fun F' G' a' h3 => ih (listed.setIfInBounds j true) F' G' a' hfree' (ready_mono hr (Ne.symm hji)) h3.1 ?_) h2
      rw [Array.setIfInBounds_comm _ _ hji]
      exact h3.2
/-- Beside i new blocks alone may come up, till i is done. -/
def onlyF (md : Region.Mode) (ops : Array Oper) (i : Nat) : Nat → Array Bool → Bool
  | 0, listed => decide (Region.ready md ops listed = [i])
  | f + 1, listed => (Region.ready md ops listed).contains i && (Region.ready md ops listed).all fun j => j == i || match ops[i]?, ops[j]? with
      | some oi, some oj => isAlloc oj && oi.apart ops oj && onlyF md ops i f (listed.setIfInBounds j true)
      | _, _ => false
theorem freshF_ob {o : Oper} {a a' : Act} {ob ob' : Obj} (h : FreshF P ops o a ob) (h' : FreshF P ops o a' ob') (he : execOp a'.eval o = execOp a.eval o) (W : World) : ob = ob' := by
  have h1 := h.2 W
  have h2 := h'.2 W
  rw [he, h1] at h2
  have h3 : W.alloc ob = W.alloc ob' := by injection h2
  have h4 := heap_alloc_new W ob
  rw [h3, heap_alloc_new W ob'] at h4
  injection h4 with h4
  exact h4.symm
theorem SG.weak {G : List (Nat × Obj)} {p : Nat × Obj} {W : World} (h : SG N W0 (p :: G) W) : SG N W0 G W := ⟨h.1, fun q hq => h.2 q (by simp [hq])⟩
theorem wpF_callfirst {i n : Nat} {oi : Oper} {L : GK} (hsel : ∀ (j : Nat) (o : Oper) cs b, ops[j]? = some o → o.op ≠ .select cs b) (hi : ops[i]? = some oi) (hai : isAlloc oi = false) :
    ∀ (f : Nat) (listed : Array Bool) (F : World → Prop) (G : List (Nat × Obj)) (a : Act), onlyF md ops i f listed = true →
      CallX P ops N W0 oi a (wpF P md ops N W0 n L f (listed.setIfInBounds i true)) F G →
      (∀ (j : Nat) (oj : Oper), ops[j]? = some oj → isAlloc oj = true → oi.apart ops oj = true → ∃ ob, ∀ a', FreshF P ops oj a' ob) →
      wpF P md ops N W0 n L (f + 1) listed F G a := by
  intro f
  induction f with
  | zero =>
    intro listed F G a hB hx _
    simp only [onlyF, decide_eq_true_eq] at hB
    refine ⟨fun h => (by rw [h] at hB; cases hB), fun j hj => ?_⟩
    rw [hB] at hj
    obtain rfl : j = i := by simpa using hj
    unfold wfOp
    simp only [hi]
    rw [if_neg (by rw [hai]; exact Bool.false_ne_true)]
    exact .inr (.inr hx)
  | succ f ih =>
    intro listed F G a hB hx hob
    simp only [onlyF, Bool.and_eq_true, List.all_eq_true] at hB
    obtain ⟨hr, hall⟩ := hB
    have hr : i ∈ Region.ready md ops listed := by simpa using hr
    refine ⟨fun h => (by rw [h] at hr; cases hr), fun j hj => ?_⟩
    by_cases hji : j = i
    · subst hji
      unfold wfOp
      simp only [hi]
      rw [if_neg (by rw [hai]; exact Bool.false_ne_true)]
      exact .inr (.inr hx)
    · have h1 := hall j hj
      obtain ⟨hjun, oj, hoj, _⟩ := mem_ready.1 hj
      simp only [hi, hoj, Bool.or_eq_true, beq_iff_eq, hji, false_or, Bool.and_eq_true] at h1
      obtain ⟨⟨haj, hap⟩, hon⟩ := h1
      obtain ⟨ob, hfr⟩ := hob j oj hoj haj hap
      obtain ⟨p1, p2, p3⟩ := Oper.apart_spec hap
      unfold wfOp
      simp only [hoj]
      rw [if_pos haj]
      refine ⟨ob, hfr a, fun g hN hG => ih (listed.setIfInBounds j true) F ((g, ob) :: G) _ hon ⟨?_, fun W hF hS => ?_⟩ hob⟩
      · rw [wanted_put oi a oj.dst _ p3]; exact hx.1
      · have h2 := hx.2 W hF hS.weak
        rw [execOp_put oi (fun cs b => hsel i oi cs b hi) a oj.dst _ p3]
        refine givesX_mono (fun v F' hk => ?_) _ h2
        have h3 := hk.2 j (ready_mono hj hji)
        unfold wfOp at h3
        simp only [hoj] at h3
        rw [if_pos haj] at h3
        obtain ⟨ob', hf', hk'⟩ := h3
        have hobe : ob = ob' := freshF_ob (hfr _) hf' rfl W
        subst hobe
        have h4 := hk' g hN hG
        rw [Array.setIfInBounds_comm _ _ (Ne.symm hji), Act.put_comm a _ v (fun d hd => fun h => p2 d h hd)] at *
        exact h4
theorem wpOp_of_wfOp {i : Nat} {a : Act} {w : World} {F : World → Prop} {G : List (Nat × Obj)} {K : GK} {K' : Act → World → Prop} {Q' : Exit → Act → World → Prop} (hF : F w) (hC : Cl F) (hS : SG N W0 G w)
    (h : ∀ F G a w, Cl F → F w → SG N W0 G w → K F G a → K' a w) (hh : wfOp P ops N W0 i K F G a) : wpOp P ops Q' i K' a w := by
  unfold wfOp at hh
  unfold wpOp
  split
  · rename_i ho; simp only [ho] at hh
  · rename_i o ho
    simp only [ho] at hh
    split at hh
    · obtain ⟨ob, ⟨hw, hf⟩, hk⟩ := hh
      rw [if_pos hw]
      refine .inl ?_
      unfold Oper.wp
      rw [hf w]
      exact h _ _ _ _ hC (hC _ _ hF ((Below.refl _ _).alloc (Nat.le_refl _) _)) (hS.alloc ob) (hk _ hS.1.1 (fun p hp e => by have := hS.size hp; omega))
    · rcases hh with ⟨v, hy, hk⟩ | ⟨hw, hx⟩ | ⟨hw, hx⟩
      · rcases hy with ⟨hw, hg⟩ | ⟨hw, rfl⟩
        · rw [if_pos hw]
          refine .inl ?_
          have hg := hg w hS.1
          unfold Oper.wp
          generalize (execOp a.eval o).run P w = r at *
          cases r with
          | ok nx w' =>
            cases nx <;> simp only [givesB, Oper.upon] at hg ⊢
            case value u => obtain ⟨rfl, h2⟩ := hg; exact h _ _ _ _ hC (hC _ _ hF h2) (hS.below h2) hk
            case skip => obtain ⟨rfl, h2⟩ := hg; exact h _ _ _ _ hC (hC _ _ hF h2) (hS.below h2) hk
            case enter f args => exact hg.mono fun e w'' ⟨he, hw⟩ => by subst he; exact h _ _ _ _ hC (hC _ _ hF hw) (hS.below hw) hk
          | halt x w' => simp only [givesB] at hg
        · rw [if_neg (by simp [hw])]
          exact h _ _ _ _ hC hF hS hk
      · rw [if_pos hw]
        refine .inl ?_
        have hg := hx w hF hS
        unfold Oper.wp
        generalize (execOp a.eval o).run P w = r at *
        cases r with
        | ok nx w' =>
          cases nx <;> simp only [givesW, Oper.upon] at hg ⊢
          case value u => obtain ⟨v, F', G', e1, hF', hC', hS', hk⟩ := hg; injection e1 with e1; subst e1; exact h _ _ _ _ hC' hF' hS' hk
          case skip => obtain ⟨v, F', G', e1, hF', hC', hS', hk⟩ := hg; injection e1 with e1; subst e1; exact h _ _ _ _ hC' hF' hS' hk
          case enter f args => exact hg.mono fun e w'' ⟨v, F', G', e1, hF', hC', hS', hk⟩ => by subst e1; exact h _ _ _ _ hC' hF' hS' hk
        | halt x w' => simp only [givesW] at hg
      · rw [if_pos hw]
        refine .inl ?_
        have hg := hx w hF hS
        unfold Oper.wp
        generalize (execOp a.eval o).run P w = r at *
        cases r with
        | ok nx w' =>
          cases nx <;> simp only [givesX, Oper.upon] at hg ⊢
          case value u => obtain ⟨F', hb, hF', hC', hk⟩ := hg; exact h _ _ _ _ (hC.and hC') ⟨hC _ _ hF hb, hF'⟩ (hS.below hb) hk
          case skip => obtain ⟨F', hb, hF', hC', hk⟩ := hg; exact h _ _ _ _ (hC.and hC') ⟨hC _ _ hF hb, hF'⟩ (hS.below hb) hk
          case enter f args => exact hg.mono fun e w'' ⟨v, F', he, hb, hF', hC', hk⟩ => by subst he; exact h _ _ _ _ (hC.and hC') ⟨hC _ _ hF hb, hF'⟩ (hS.below hb) hk
        | halt x w' => simp only [givesX] at hg
theorem wpAny_of_wpF {n : Nat} {L : GK} {Q' : Exit → Act → World → Prop} {l : List Oper} (hops : ops = l.toArray) (hn : n ≤ l.length) (hL : ∀ F G a w, F w → SG N W0 G w → L F G a → wpList P ops Q' (l.drop n) a w) :
    ∀ (f : Nat) (listed : Array Bool) (F : World → Prop) (G : List (Nat × Obj)) (a : Act) (w : World), Cl F → F w → SG N W0 G w → wpF P md ops N W0 n L f listed F G a → wpAny P md ops Q' (f + (ops.size - n)) listed a w
  | 0, listed, F, G, a, w, hC, hF, hS, h => by
    rw [Nat.zero_add]
    have hs : ops.size - n = (l.drop n).length := by rw [hops]; simp
    rw [hs]
    exact wpAny_of_seq (l.drop n) n listed a w (fun j => by rw [hops]; simp [List.getElem?_drop]) (by rw [← hs]; exact h.1) (hL _ _ _ _ hF hS h.2)
  | f + 1, listed, F, G, a, w, hC, hF, hS, h => by
    rw [show f + 1 + (ops.size - n) = (f + (ops.size - n)) + 1 by omega]
    exact ⟨fun h0 => absurd h0 h.1, fun i hi => wpOp_of_wfOp hF hC hS (fun F' G' a' w' hC' hF' hS' h' => wpAny_of_wpF hops hn hL f _ F' G' a' w' hC' hF' hS' h') (h.2 i hi)⟩
/-- The region, taken so: n operations, then the tail. -/
theorem wp_region_float {id : Nat} {Q : Exit → Act → World → Prop} {a : Act} {l : List Oper} {W0 : World} (N n : Nat) (hN : N ≤ W0.heap.size) (F0 : World → Prop) (hF0 : F0 W0) (hC0 : Cl F0) (hm : P.follows .mixedOrders = true) (hn : n ≤ l.length)
    (h : wpF P .any l.toArray N W0 n (fun F G a' => ∀ w', F w' → SG N W0 G w' → wpList P l.toArray Q (l.drop n) a' w') n (Array.replicate l.length false) F0 [] a) : (Code.region id l.toArray true).wp P Q a W0 := by
  refine wp_region_any hm ?_
  have := wpAny_of_wpF (Q' := Q) rfl hn (fun F G a w hF hS hL => hL w hF hS) _ _ _ [] a W0.drew hC0 (hC0 _ _ hF0 (Below.refl _ _).drew) ⟨(Own.refl hN).drew, fun p hp => by cases hp⟩ h
  have e : n + (l.length - n) = l.length := by omega
  simpa [e] using this
def stepB (md : Region.Mode) (ops : Array Oper) (n i : Nat) (listed : Array Bool) : Bool :=
  tailB md ops n && decide (i < n) && (Region.ready md ops listed).contains i && Region.free md ops listed i && match ops[i]? with | some o => !isAlloc o | none => false
theorem stepB_spec {n i : Nat} {listed : Array Bool} {o : Oper} (hi : ops[i]? = some o) (h : stepB md ops n i listed = true) :
    tailB md ops n = true ∧ i < n ∧ i ∈ Region.ready md ops listed ∧ Region.free md ops listed i = true ∧ isAlloc o = false := by
  simp only [stepB, hi, Bool.and_eq_true, decide_eq_true_eq, Bool.not_eq_true'] at h
  obtain ⟨⟨⟨⟨a, b⟩, c⟩, d⟩, e⟩ := h
  exact ⟨a, b, by simpa using c, d, e⟩
/-- One operation that may come first. -/
theorem wpF_step {i f n : Nat} {o : Oper} {L : GK} {listed : Array Bool} {F : World → Prop} {G : List (Nat × Obj)} {a : Act} (hi : ops[i]? = some o) (hB : stepB md ops n i listed = true) (hg : o.guard = none) (v : Value)
    (h : GivesH P N W0 o a v) (hk : ∀ K : Act → Prop, (∀ a, wpF P md ops N W0 n L f (listed.setIfInBounds i true) F G a → K a) → K (a.put o.dst v)) : wpF P md ops N W0 n L (f + 1) listed F G a := by
  obtain ⟨h1, h2, h3, h4, h5⟩ := stepB_spec hi hB
  exact wpF_first h1 h2 hi h5 f listed F G a (Region.free_spec hi h4) h3 (.inl ⟨by simp [Region.wanted, hg], h⟩) (hk _ fun _ h => h)
theorem wpF_step_on {i f n : Nat} {o : Oper} {L : GK} {listed : Array Bool} {F : World → Prop} {G : List (Nat × Obj)} {a : Act} (hi : ops[i]? = some o) (hB : stepB md ops n i listed = true) (hg : Region.wanted o (yielded ops a.tmps) = true) (v : Value)
    (h : GivesH P N W0 o a v) (hk : ∀ K : Act → Prop, (∀ a, wpF P md ops N W0 n L f (listed.setIfInBounds i true) F G a → K a) → K (a.put o.dst v)) : wpF P md ops N W0 n L (f + 1) listed F G a := by
  obtain ⟨h1, h2, h3, h4, h5⟩ := stepB_spec hi hB
  exact wpF_first h1 h2 hi h5 f listed F G a (Region.free_spec hi h4) h3 (.inl ⟨hg, h⟩) (hk _ fun _ h => h)
theorem wpF_step_off {i f n : Nat} {o : Oper} {L : GK} {listed : Array Bool} {F : World → Prop} {G : List (Nat × Obj)} {a : Act} (hi : ops[i]? = some o) (hB : stepB md ops n i listed = true) (hg : Region.wanted o (yielded ops a.tmps) = false)
    (hk : ∀ K : Act → Prop, (∀ a, wpF P md ops N W0 n L f (listed.setIfInBounds i true) F G a → K a) → K (a.put o.dst undef)) : wpF P md ops N W0 n L (f + 1) listed F G a := by
  obtain ⟨h1, h2, h3, h4, h5⟩ := stepB_spec hi hB
  exact wpF_first h1 h2 hi h5 f listed F G a (Region.free_spec hi h4) h3 (.inr ⟨hg, rfl⟩) (hk _ fun _ h => h)
/-- The one operation that may come now, whatever it does to blocks from N on. -/
theorem wpF_wild {i f n : Nat} {o : Oper} {L : GK} {listed : Array Bool} {F : World → Prop} {G : List (Nat × Obj)} {a : Act} (hi : ops[i]? = some o) (hB : decide (Region.ready md ops listed = [i]) = true) (hg : (o.guard.isNone && !isAlloc o) = true)
    (h : ∀ W, F W → SG N W0 G W → givesW P N W0 (fun v F' G' => ∀ K : Act → Prop, (∀ a, wpF P md ops N W0 n L f (listed.setIfInBounds i true) F' G' a → K a) → K (a.put o.dst v)) ((execOp a.eval o).run P W)) : wpF P md ops N W0 n L (f + 1) listed F G a := by
  rw [decide_eq_true_eq] at hB
  rw [Bool.and_eq_true, Bool.not_eq_true'] at hg
  refine ⟨fun h0 => (by rw [h0] at hB; cases hB), fun j hj => ?_⟩
  rw [hB] at hj
  obtain rfl : j = i := by simpa using hj
  unfold wfOp
  simp only [hi]
  rw [if_neg (by rw [hg.2]; exact Bool.false_ne_true)]
  exact .inr (.inl ⟨by have := hg.1; simp [Region.wanted, Option.isNone_iff_eq_none.1 this], fun W hF hS => givesW_mono (fun v F' G' hk => hk _ fun _ h => h) _ (h W hF hS)⟩)
/-- What a new block holds at first. -/
def allocsB (P : Program) (ops : Array Oper) : Bool := ops.all fun o => match o.op with
  | .alloc T => (match P.info? T with | some i => i.zero.isSome | none => false)
  | _ => true
theorem alloc_run {o : Oper} {T : TypeId} (ho : o.op = .alloc T) {i : TypeInfo} (hi : P.info? T = some i) {z : Value} (hz : i.zero = some z) (a : Act) (W : World) :
    (execOp a.eval o).run P W = .ok (.value (.pointer (some ⟨W.heap.size, 0, none⟩))) (W.alloc (.cells z.cells T)) := by
  simp [execOp, ho, Instr.alloc, zeroValue, typeInfo, hi, hz, newVar, go_sem]
theorem allocs_fresh (h : allocsB P ops = true) (j : Nat) (oj : Oper) (hj : ops[j]? = some oj) (ha : isAlloc oj = true) : ∃ ob, ∀ a', FreshF P ops oj a' ob := by
  have h1 := Array.all_eq_true_iff_forall_mem.1 h oj (Array.mem_of_getElem? hj)
  unfold isAlloc at ha
  split at ha
  · rename_i T ho
    rw [ho] at h1
    simp only at h1
    split at h1
    · rename_i i hi
      obtain ⟨z, hz⟩ := Option.isSome_iff_exists.1 h1
      exact ⟨_, fun a' => ⟨by simp [Region.wanted, Option.isNone_iff_eq_none.1 ha], fun W => alloc_run ho hi hz a' W⟩⟩
    · cases h1
  · cases ha
def callB (md : Region.Mode) (ops : Array Oper) (n i f : Nat) (listed : Array Bool) : Bool :=
  Region.noSelect ops && onlyF md ops i f listed && match ops[i]? with | some o => !isAlloc o && o.guard.isNone | none => false
/-- A call of whatever result, which alone (beside new blocks) may come now. -/
theorem wpF_call {i f n : Nat} {o : Oper} {L : GK} {listed : Array Bool} {F : World → Prop} {G : List (Nat × Obj)} {a : Act} (hi : ops[i]? = some o) (hB : callB md ops n i f listed = true)
    (hal : allocsB P ops = true)
    (hk : ∀ W, F W → SG N W0 G W → givesX P W (fun v F' => ∀ K : Act → Prop, (∀ a, wpF P md ops N W0 n L f (listed.setIfInBounds i true) (fun W => F W ∧ F' W) G a → K a) → K (a.put o.dst v)) ((execOp a.eval o).run P W)) : wpF P md ops N W0 n L (f + 1) listed F G a := by
  simp only [callB, hi, Bool.and_eq_true, Bool.not_eq_true'] at hB
  obtain ⟨⟨hs, hon⟩, hna, hg⟩ := hB
  exact wpF_callfirst (Region.noSelect_spec hs) hi hna f listed F G a hon ⟨by simp [Region.wanted, Option.isNone_iff_eq_none.1 hg], fun W hF hS => givesX_mono (fun v F' hk => hk _ fun _ h => h) _ (hk W hF hS)⟩ (fun j oj hj ha _ => allocs_fresh hal j oj hj ha)
/-- The same, with the numbers of the operations that come next. -/
def wpI (P : Program) (md : Region.Mode) (ops : Array Oper) (N : Nat) (W0 : World) (n : Nat) (L : GK) (_ : List Nat) (m : Nat) (listed : Array Bool) (F : World → Prop) (G : List (Nat × Obj)) (a : Act) : Prop := wpF P md ops N W0 n L m listed F G a
theorem wpI_start {m n : Nat} {L : GK} {listed : Array Bool} {F : World → Prop} {G : List (Nat × Obj)} {a : Act} (is : List Nat) (h : wpI P md ops N W0 n L is m listed F G a) : wpF P md ops N W0 n L m listed F G a := h
theorem wpI_nil {m n : Nat} {L : GK} {listed : Array Bool} {F : World → Prop} {G : List (Nat × Obj)} {a : Act} (h : wpF P md ops N W0 n L m listed F G a) : wpI P md ops N W0 n L [] m listed F G a := h
theorem wpI_step {i f n : Nat} {is : List Nat} {o : Oper} {L : GK} {listed : Array Bool} {F : World → Prop} {G : List (Nat × Obj)} {a : Act} (hi : ops[i]? = some o) (hB : stepB md ops n i listed = true) (hg : o.guard = none) (v : Value)
    (h : GivesH P N W0 o a v) (hk : ∀ K : Act → Prop, (∀ a, wpI P md ops N W0 n L is f (listed.setIfInBounds i true) F G a → K a) → K (a.put o.dst v)) : wpI P md ops N W0 n L (i :: is) (f + 1) listed F G a := wpF_step hi hB hg v h hk
theorem wpI_on {i f n : Nat} {is : List Nat} {o : Oper} {L : GK} {listed : Array Bool} {F : World → Prop} {G : List (Nat × Obj)} {a : Act} (hi : ops[i]? = some o) (hB : stepB md ops n i listed = true) (hg : Region.wanted o (yielded ops a.tmps) = true) (v : Value)
    (h : GivesH P N W0 o a v) (hk : ∀ K : Act → Prop, (∀ a, wpI P md ops N W0 n L is f (listed.setIfInBounds i true) F G a → K a) → K (a.put o.dst v)) : wpI P md ops N W0 n L (i :: is) (f + 1) listed F G a := wpF_step_on hi hB hg v h hk
theorem wpI_off {i f n : Nat} {is : List Nat} {o : Oper} {L : GK} {listed : Array Bool} {F : World → Prop} {G : List (Nat × Obj)} {a : Act} (hi : ops[i]? = some o) (hB : stepB md ops n i listed = true) (hg : Region.wanted o (yielded ops a.tmps) = false)
    (hk : ∀ K : Act → Prop, (∀ a, wpI P md ops N W0 n L is f (listed.setIfInBounds i true) F G a → K a) → K (a.put o.dst undef)) : wpI P md ops N W0 n L (i :: is) (f + 1) listed F G a := wpF_step_off hi hB hg hk
theorem wpF_done {n : Nat} {L : GK} {listed : Array Bool} {F : World → Prop} {G : List (Nat × Obj)} {a : Act} (hB : Region.seqB md ops (ops.size - n) n listed = true) (h : L F G a) : wpF P md ops N W0 n L 0 listed F G a := ⟨hB, h⟩
/-- A store into a new block. -/
theorem SG.put {G : List (Nat × Obj)} {W : World} {g : Nat} {cs : Array Value} {T : TypeId} (h : SG N W0 ((g, .cells cs T) :: G) W) (hG : ∀ p ∈ G, p.1 ≠ g) (k : Nat) (x : Value) :
    SG N W0 ((g, .cells (cs.setIfInBounds k x) T) :: G) (W.setCell ⟨g, k, none⟩ x) := by
  have h0 := h.2 (g, .cells cs T) (by simp)
  refine ⟨h.1.setCell h0.1 _, fun p hp => ?_⟩
  rcases List.mem_cons.1 hp with rfl | hp
  · refine ⟨h0.1, ?_⟩
    have h1 := h0.2
    simp only at h1
    simp [World.setCell, Array.getElem?_modify, h1]
  · have h2 := h.2 p (by simp [hp])
    refine ⟨h2.1, ?_⟩
    rw [Below.heap_setCell _ _ _ _ (hG p hp)]
    exact h2.2
end
attribute [go_sem] givesB_value givesB_skip givesB_enter givesX_value givesX_enter givesW_value givesW_skip givesW_enter
end Go.Proofs.Ytklkhnhieihfoaa
namespace Go.Proofs.Ytklkhnhieihfoaa
open Go Go.RowKit
set_option linter.unusedVariables false
def VAt (w : World) (A : Option Addr) (l : List V2) : Prop := ∀ k x, l[k]? = some x → ∃ g o, A = some ⟨g, o, none⟩ ∧ g < w.heap.size ∧ w.cell? ⟨g, o + k * 2, none⟩ = some (.int .i64 x.1) ∧ w.cell? ⟨g, o + k * 2 + 1, none⟩ = some (.int .i64 x.2)
theorem VAt.nil (w : World) (A : Option Addr) : VAt w A [] := fun k x h => by simp at h
theorem VAt.below {w w1 : World} {A : Option Addr} {l : List V2} {B : Nat} (h : VAt w A l) (hb : Below B w w1) (hB : w.heap.size ≤ B) : VAt w1 A l := by
  intro k x hx
  obtain ⟨g, o, e, hg, a, b⟩ := h k x hx
  have hs := hb.size
  refine ⟨g, o, e, ?_, ?_, ?_⟩
  · exact Nat.lt_of_lt_of_le hg hb.size
  · rw [hb.cell (by simp; omega)]; exact a
  · rw [hb.cell (by simp; omega)]; exact b
theorem VAt.own {w w1 : World} {A : Option Addr} {l : List V2} {N : Nat} (h : VAt w A l) (hb : Own N w w1) (hN : w.heap.size ≤ N) : VAt w1 A l := h.below hb.2 hN
theorem VAt.vs {w : World} {A : Option Addr} {l : List V2} (h : VAt w A l) (hl : 0 < l.length) : ∃ g o, A = some ⟨g, o, none⟩ ∧ g < w.heap.size ∧ VsAt w g o l := by
  obtain ⟨g, o, e, hg, _⟩ := h 0 (l[0]) (by simp)
  refine ⟨g, o, e, hg, fun k x hx => ?_⟩
  obtain ⟨g', o', e', _, a⟩ := h k x hx
  rw [e] at e'
  simp only [Option.some.injEq, Addr.mk.injEq] at e'
  obtain ⟨rfl, rfl, _⟩ := e'
  exact a
end Go.Proofs.Ytklkhnhieihfoaa
namespace Go.Proofs.Ytklkhnhieihfoaa
open Go Go.RowKit
set_option linter.unusedVariables false
def nearB (n : Int) (x : V2) : Bool := withinB x.1 x.2 n
set_option maxHeartbeats 2000000 in
theorem rwithin_any (n : Int) (l : List V2) (A : Option Addr) (c : Nat) (w : World) (hl : l.length ≤ 1000000) (hV : VAt w A l) (n0 : 0 ≤ n) (n1 : n ≤ 1000000000) :
    Calls Try.prog 92 #[.int .i64 n, .slice A l.length c] w fun e w' => e = .returned (.bool (l.all (nearB n))) ∧ Below w.heap.size w w' := by
  have HV := Lib.hid hV
  obtain ⟨R, hR⟩ : ∃ R, R = l.all (nearB n) := ⟨_, rfl⟩
  rw [← hR]
  have HR := Lib.hid hR
  clear hV hR
  go_enter Try.func92, Try.ntmps92; (try simp only [List.append_eq, List.cons_append, List.nil_append])
  go_wp2_with fail
  go_loopw [9] (fun t wr => ∃ k : Nat, k ≤ l.length ∧ t = .int .i64 k ∧ Hid ((l.take k).all (nearB n) = true) ∧ Below w.heap.size w wr) (fun t _ => l.length - (intOf t).toNat)
  case atStart => exact ⟨0, by omega, rfl, Lib.hid rfl, Below.refl _ _⟩
  case round =>
    obtain ⟨k, hk, rfl, HA, hb_wr⟩ := hrel
    have hz_wr := hb_wr.size
    have HB := Lib.hid hb_wr
    have i1 : (0 : Int) ≤ (k : Int) := by omega
    by_cases hlt : k < l.length
    · obtain ⟨⟨a, b⟩, hx⟩ : ∃ x, l[k]? = some x := ⟨l[k], by simp⟩
      obtain ⟨g, o, rfl, hg, a0, a1⟩ := (HV.out.below HB.out (Nat.le_refl _)) k _ hx
      have hall := all_take_succ (p := nearB n) hx
      have HX := Lib.hid hx
      have HN := Lib.hid hall
      have i2 : (k : Int) < (l.length : Int) := by omega
      simp only at a0 a1
      clear hb_wr hx hall
      by_cases hin : -n ≤ a ∧ a ≤ n ∧ -n ≤ b ∧ b ≤ n
      · obtain ⟨j1, j2, j3, j4⟩ := hin
        have HN2 := Lib.hid (show (l.take (k + 1)).all (nearB n) = true by rw [HN.out, HA.out]; simp [nearB, withinB]; omega)
        go_wp2_with fail
        go_roundw
        case rel => exact ⟨k + 1, by omega, by go_num, HN2, HB.out.trans (show Below w.heap.size wr _ by ((with_reducible (repeat (first | exact bR _ _ | refine bS ?_ ?_ _ | refine bA ?_ ?_ _ | refine bD ?_ | refine bT ?_ (by assumption) ?_ | refine bO (by assumption) ?_ ?_))) <;> (first | omega | (simp; done) | (simp <;> omega))))⟩
        case measure => simp [intOf]; omega
      · have hfin : R = false := by
          rw [HR.out, List.all_eq_false]
          exact ⟨(a, b), List.mem_of_getElem? HX.out, by simp only [nearB, withinB, decide_eq_true_eq]; exact hin⟩
        subst hfin
        have h4 : a < -n ∨ (-n ≤ a ∧ n < a) ∨ (-n ≤ a ∧ a ≤ n ∧ b < -n) ∨ (-n ≤ a ∧ a ≤ n ∧ -n ≤ b ∧ n < b) := by omega
        clear hin
        rcases h4 with h4 | ⟨h4, h5⟩ | ⟨h4, h5, h6⟩ | ⟨h4, h5, h6, h7⟩
        all_goals
          go_wp2_with fail
          go_ret
          exact ⟨rfl, HB.out.trans (show Below w.heap.size wr _ by ((with_reducible (repeat (first | exact bR _ _ | refine bS ?_ ?_ _ | refine bA ?_ ?_ _ | refine bD ?_ | refine bT ?_ (by assumption) ?_ | refine bO (by assumption) ?_ ?_))) <;> (first | omega | (simp; done) | (simp <;> omega))))⟩
    · obtain rfl : k = l.length := by omega
      have hfin : R = true := by rw [HR.out]; have := HA.out; rwa [List.take_length] at this
      subst hfin
      clear hb_wr
      go_wp2_with fail
      go_ret
      exact ⟨rfl, HB.out⟩
def IAt (w : World) (A : Option Addr) (l : List Int) : Prop := ∀ k x, l[k]? = some x → ∃ g o, A = some ⟨g, o, none⟩ ∧ g < w.heap.size ∧ w.cell? ⟨g, o + k, none⟩ = some (.int .i64 x)
theorem IAt.below {w w1 : World} {A : Option Addr} {l : List Int} {B : Nat} (h : IAt w A l) (hb : Below B w w1) (hB : w.heap.size ≤ B) : IAt w1 A l := fun k x hx => by
  obtain ⟨g, o, hA, hg, h0⟩ := h k x hx
  exact ⟨g, o, hA, Nat.lt_of_lt_of_le hg hb.size, (hb.cell (p := ⟨g, o + k, none⟩) (Nat.lt_of_lt_of_le hg hB)).trans h0⟩
end Go.Proofs.Ytklkhnhieihfoaa
namespace Go.Proofs.Ytklkhnhieihfoaa
open Go.RowKit
set_option linter.unusedVariables false
theorem vsmall_any (x y : Int) (w : World) : Calls Try.prog 67 #[.agg #[.int .i64 x, .int .i64 y]] w fun e w' => e = .returned (.bool (smallB x y)) ∧ Below w.heap.size w w' := small_any x y w
def keptR (x y : Int) : V2 := if smallB x y = true then (x, y) else (0, 0)
def subR (a b c d : Int) : V2 := if smallB a b = true ∧ smallB c d = true then keptR (a - c) (b - d) else (0, 0)
def dotR (a b c d : Int) : Int := if smallB a b = true ∧ smallB c d = true then a * c + b * d else 0
set_option maxHeartbeats 400000 in
theorem vkept_ok (x y : Int) (w : World) :
    Calls Try.prog 68 #[.agg #[.int .i64 x, .int .i64 y]] w fun e w' => e = .returned (.agg #[.int .i64 (keptR x y).1, .int .i64 (keptR x y).2]) ∧ Below w.heap.size w w' := by
  unfold keptR
  by_cases hs : smallB x y = true
  · rw [if_pos hs]
    go_enter Try.func68, Try.ntmps68; (try simp only [List.append_eq, List.cons_append, List.nil_append])
    go_wp2_with (first | (go_at_call 67; refine (vsmall_any _ _ _).mono ?_; rintro e w1 ⟨rfl, hb1⟩; have hz1 : w.heap.size + 2 ≤ w1.heap.size := (by have h := hb1.size; (try simp at h); omega); have hbb := Below.mono hb1 (B' := w.heap.size + 2) (by (try simp) <;> omega); clear hb1; (with_reducible apply cel2 (b := w.heap.size) hbb); (focus ((try simp) <;> omega)); (focus omega); (focus (go_simp; try exact rfl)); (focus (go_simp; try exact rfl)); (focus (intro o; go_simp)); intro cc cc fz hl; (with_reducible apply cel2 (b := w.heap.size + 1) hbb); (focus ((try simp) <;> omega)); (focus omega); (focus (go_simp; try exact rfl)); (focus (go_simp; try exact rfl)); (focus (intro o; go_simp)); intro cc cc fz hl))
    refine bodyPost_ret (v := .agg #[.int .i64 x, .int .i64 y]) (by simp only [results, Try.results68]; go_simp) rfl ⟨?_, ?_⟩
    · rfl
    · ((with_reducible (repeat (first | exact bR _ _ | refine bS ?_ ?_ _ | refine bA ?_ ?_ _ | refine bD ?_ | refine bT ?_ (by assumption) ?_ | refine bO (by assumption) ?_ ?_))) <;> (first | omega | (simp; done) | (simp <;> omega)))
  · rw [if_neg hs]
    have hs' : smallB x y = false := by simpa using hs
    go_enter Try.func68, Try.ntmps68; (try simp only [List.append_eq, List.cons_append, List.nil_append])
    go_wp2_with (first | (go_at_call 67; refine (vsmall_any _ _ _).mono ?_; rintro e w1 ⟨rfl, hb1⟩; have hz1 : w.heap.size + 2 ≤ w1.heap.size := (by have h := hb1.size; (try simp at h); omega); have hbb := Below.mono hb1 (B' := w.heap.size + 2) (by (try simp) <;> omega); clear hb1; (with_reducible apply cel2 (b := w.heap.size) hbb); (focus ((try simp) <;> omega)); (focus omega); (focus (go_simp; try exact rfl)); (focus (go_simp; try exact rfl)); (focus (intro o; go_simp)); intro cc cc fz hl; (with_reducible apply cel2 (b := w.heap.size + 1) hbb); (focus ((try simp) <;> omega)); (focus omega); (focus (go_simp; try exact rfl)); (focus (go_simp; try exact rfl)); (focus (intro o; go_simp)); intro cc cc fz hl))
    refine bodyPost_ret (v := .agg #[.int .i64 0, .int .i64 0]) (by simp only [results, Try.results68]; go_simp) rfl ⟨?_, ?_⟩
    · rfl
    · ((with_reducible (repeat (first | exact bR _ _ | refine bS ?_ ?_ _ | refine bA ?_ ?_ _ | refine bD ?_ | refine bT ?_ (by assumption) ?_ | refine bO (by assumption) ?_ ?_))) <;> (first | omega | (simp; done) | (simp <;> omega)))
set_option maxHeartbeats 800000 in
theorem vsub_any (a b c d : Int) (w : World) :
    Calls Try.prog 20 #[.agg #[.int .i64 a, .int .i64 b], .agg #[.int .i64 c, .int .i64 d]] w fun e w' => e = .returned (.agg #[.int .i64 (subR a b c d).1, .int .i64 (subR a b c d).2]) ∧ Below w.heap.size w w' := by
  unfold subR
  cases h1 : smallB a b
  · rw [if_neg (fun h => by cases h.1)]
    go_enter Try.func20, Try.ntmps20; (try simp only [List.append_eq, List.cons_append, List.nil_append])
    go_wp2_with (first | (go_at_call 67; refine (vsmall_any _ _ _).mono ?_; rintro e w1 ⟨rfl, hb1⟩; have hz1 : w.heap.size + 3 ≤ w1.heap.size := (by have h := hb1.size; (try simp at h); omega); have hbb := Below.mono hb1 (B' := w.heap.size + 3) (by (try simp) <;> omega); clear hb1; (with_reducible apply cel2 (b := w.heap.size) hbb); (focus ((try simp) <;> omega)); (focus omega); (focus (go_simp; try exact rfl)); (focus (go_simp; try exact rfl)); (focus (intro o; go_simp)); intro cc cc fz hl; (with_reducible apply cel2 (b := w.heap.size + 1) hbb); (focus ((try simp) <;> omega)); (focus omega); (focus (go_simp; try exact rfl)); (focus (go_simp; try exact rfl)); (focus (intro o; go_simp)); intro cc cc fz hl; (with_reducible apply cel2 (b := w.heap.size + 1 + 1) hbb); (focus ((try simp) <;> omega)); (focus omega); (focus (go_simp; try exact rfl)); (focus (go_simp; try exact rfl)); (focus (intro o; go_simp)); intro cc cc fz hl))
    refine bodyPost_ret (v := .agg #[.int .i64 0, .int .i64 0]) (by simp only [results, Try.results20]; go_simp) rfl ⟨?_, ?_⟩
    · rfl
    · ((with_reducible (repeat (first | exact bR _ _ | refine bS ?_ ?_ _ | refine bA ?_ ?_ _ | refine bD ?_ | refine bT ?_ (by assumption) ?_ | refine bO (by assumption) ?_ ?_))) <;> (first | omega | (simp; done) | (simp <;> omega)))
  · cases h2 : smallB c d
    · rw [if_neg (fun h => by cases h.2)]
      go_enter Try.func20, Try.ntmps20; (try simp only [List.append_eq, List.cons_append, List.nil_append])
      go_wp2_with (first | (go_at_call 67; refine (vsmall_any _ _ _).mono ?_; rintro e w1 ⟨rfl, hb1⟩; have hz1 : w.heap.size + 3 ≤ w1.heap.size := (by have h := hb1.size; (try simp at h); omega); have hbb := Below.mono hb1 (B' := w.heap.size + 3) (by (try simp) <;> omega); clear hb1; (with_reducible apply cel2 (b := w.heap.size) hbb); (focus ((try simp) <;> omega)); (focus omega); (focus (go_simp; try exact rfl)); (focus (go_simp; try exact rfl)); (focus (intro o; go_simp)); intro cc cc fz hl; (with_reducible apply cel2 (b := w.heap.size + 1) hbb); (focus ((try simp) <;> omega)); (focus omega); (focus (go_simp; try exact rfl)); (focus (go_simp; try exact rfl)); (focus (intro o; go_simp)); intro cc cc fz hl; (with_reducible apply cel2 (b := w.heap.size + 1 + 1) hbb); (focus ((try simp) <;> omega)); (focus omega); (focus (go_simp; try exact rfl)); (focus (go_simp; try exact rfl)); (focus (intro o; go_simp)); intro cc cc fz hl))
      refine bodyPost_ret (v := .agg #[.int .i64 0, .int .i64 0]) (by simp only [results, Try.results20]; go_simp) rfl ⟨?_, ?_⟩
      · rfl
      · ((with_reducible (repeat (first | exact bR _ _ | refine bS ?_ ?_ _ | refine bA ?_ ?_ _ | refine bD ?_ | refine bT ?_ (by assumption) ?_ | refine bO (by assumption) ?_ ?_))) <;> (first | omega | (simp; done) | (simp <;> omega)))
    · rw [if_pos ⟨rfl, rfl⟩]
      obtain ⟨q1, q2, q3, q4⟩ := small_bd h1
      obtain ⟨q5, q6, q7, q8⟩ := small_bd h2
      go_enter Try.func20, Try.ntmps20; (try simp only [List.append_eq, List.cons_append, List.nil_append])
      go_wp2_with (first | (go_at_call 67; refine (vsmall_any _ _ _).mono ?_; rintro e w1 ⟨rfl, hb1⟩; have hz1 : w.heap.size + 3 ≤ w1.heap.size := (by have h := hb1.size; (try simp at h); omega); have hbb := Below.mono hb1 (B' := w.heap.size + 3) (by (try simp) <;> omega); clear hb1; (with_reducible apply cel2 (b := w.heap.size) hbb); (focus ((try simp) <;> omega)); (focus omega); (focus (go_simp; try exact rfl)); (focus (go_simp; try exact rfl)); (focus (intro o; go_simp)); intro cc cc fz hl; (with_reducible apply cel2 (b := w.heap.size + 1) hbb); (focus ((try simp) <;> omega)); (focus omega); (focus (go_simp; try exact rfl)); (focus (go_simp; try exact rfl)); (focus (intro o; go_simp)); intro cc cc fz hl; (with_reducible apply cel2 (b := w.heap.size + 1 + 1) hbb); (focus ((try simp) <;> omega)); (focus omega); (focus (go_simp; try exact rfl)); (focus (go_simp; try exact rfl)); (focus (intro o; go_simp)); intro cc cc fz hl) | (go_at_call 68; refine (vkept_ok _ _ _).mono ?_; rintro e w1 ⟨rfl, hb1⟩; have hz1 : w.heap.size + 3 ≤ w1.heap.size := (by have h := hb1.size; (try simp at h); omega); have hbb := Below.mono hb1 (B' := w.heap.size + 3) (by (try simp) <;> omega); clear hb1; (with_reducible apply cel2 (b := w.heap.size) hbb); (focus ((try simp) <;> omega)); (focus omega); (focus (go_simp; try exact rfl)); (focus (go_simp; try exact rfl)); (focus (intro o; go_simp)); intro cc cc fz hl; (with_reducible apply cel2 (b := w.heap.size + 1) hbb); (focus ((try simp) <;> omega)); (focus omega); (focus (go_simp; try exact rfl)); (focus (go_simp; try exact rfl)); (focus (intro o; go_simp)); intro cc cc fz hl; (with_reducible apply cel2 (b := w.heap.size + 1 + 1) hbb); (focus ((try simp) <;> omega)); (focus omega); (focus (go_simp; try exact rfl)); (focus (go_simp; try exact rfl)); (focus (intro o; go_simp)); intro cc cc fz hl))
      refine bodyPost_ret (v := .agg #[.int .i64 (keptR (a - c) (b - d)).1, .int .i64 (keptR (a - c) (b - d)).2]) (by simp only [results, Try.results20]; go_simp) rfl ⟨?_, ?_⟩
      · rfl
      · ((with_reducible (repeat (first | exact bR _ _ | refine bS ?_ ?_ _ | refine bA ?_ ?_ _ | refine bD ?_ | refine bT ?_ (by assumption) ?_ | refine bO (by assumption) ?_ ?_))) <;> (first | omega | (simp; done) | (simp <;> omega)))
set_option maxHeartbeats 400000 in
theorem vdot_any (a b c d : Int) (w : World) :
    Calls Try.prog 19 #[.agg #[.int .i64 a, .int .i64 b], .agg #[.int .i64 c, .int .i64 d]] w fun e w' => e = .returned (.int .i64 (dotR a b c d)) ∧ Below w.heap.size w w' := by
  unfold dotR
  cases h1 : smallB a b
  · rw [if_neg (fun h => by cases h.1)]
    go_enter Try.func19, Try.ntmps19; (try simp only [List.append_eq, List.cons_append, List.nil_append])
    go_wp2_with (first | (go_at_call 67; refine (vsmall_any _ _ _).mono ?_; rintro e w1 ⟨rfl, hb1⟩; have hz1 : w.heap.size + 2 ≤ w1.heap.size := (by have h := hb1.size; (try simp at h); omega); have hbb := Below.mono hb1 (B' := w.heap.size + 2) (by (try simp) <;> omega); clear hb1; (with_reducible apply cel2 (b := w.heap.size) hbb); (focus ((try simp) <;> omega)); (focus omega); (focus (go_simp; try exact rfl)); (focus (go_simp; try exact rfl)); (focus (intro o; go_simp)); intro cc cc fz hl; (with_reducible apply cel2 (b := w.heap.size + 1) hbb); (focus ((try simp) <;> omega)); (focus omega); (focus (go_simp; try exact rfl)); (focus (go_simp; try exact rfl)); (focus (intro o; go_simp)); intro cc cc fz hl))
    go_ret
    refine ⟨rfl, ?_⟩
    ((with_reducible (repeat (first | exact bR _ _ | refine bS ?_ ?_ _ | refine bA ?_ ?_ _ | refine bD ?_ | refine bT ?_ (by assumption) ?_ | refine bO (by assumption) ?_ ?_))) <;> (first | omega | (simp; done) | (simp <;> omega)))
  · cases h2 : smallB c d
    · rw [if_neg (fun h => by cases h.2)]
      go_enter Try.func19, Try.ntmps19; (try simp only [List.append_eq, List.cons_append, List.nil_append])
      go_wp2_with (first | (go_at_call 67; refine (vsmall_any _ _ _).mono ?_; rintro e w1 ⟨rfl, hb1⟩; have hz1 : w.heap.size + 2 ≤ w1.heap.size := (by have h := hb1.size; (try simp at h); omega); have hbb := Below.mono hb1 (B' := w.heap.size + 2) (by (try simp) <;> omega); clear hb1; (with_reducible apply cel2 (b := w.heap.size) hbb); (focus ((try simp) <;> omega)); (focus omega); (focus (go_simp; try exact rfl)); (focus (go_simp; try exact rfl)); (focus (intro o; go_simp)); intro cc cc fz hl; (with_reducible apply cel2 (b := w.heap.size + 1) hbb); (focus ((try simp) <;> omega)); (focus omega); (focus (go_simp; try exact rfl)); (focus (go_simp; try exact rfl)); (focus (intro o; go_simp)); intro cc cc fz hl))
      go_ret
      refine ⟨rfl, ?_⟩
      ((with_reducible (repeat (first | exact bR _ _ | refine bS ?_ ?_ _ | refine bA ?_ ?_ _ | refine bD ?_ | refine bT ?_ (by assumption) ?_ | refine bO (by assumption) ?_ ?_))) <;> (first | omega | (simp; done) | (simp <;> omega)))
    · rw [if_pos ⟨rfl, rfl⟩]
      obtain ⟨q1, q2, q3, q4⟩ := small_bd h1
      obtain ⟨r1, r2, r3, r4⟩ := small_bd h2
      obtain ⟨m1, m2⟩ := mul_bd a c 1073741824 1073741824 q1 q2 r1 r2
      obtain ⟨m3, m4⟩ := mul_bd b d 1073741824 1073741824 q3 q4 r3 r4
      go_enter Try.func19, Try.ntmps19; (try simp only [List.append_eq, List.cons_append, List.nil_append])
      go_wp2_with (first | (go_at_call 67; refine (vsmall_any _ _ _).mono ?_; rintro e w1 ⟨rfl, hb1⟩; have hz1 : w.heap.size + 2 ≤ w1.heap.size := (by have h := hb1.size; (try simp at h); omega); have hbb := Below.mono hb1 (B' := w.heap.size + 2) (by (try simp) <;> omega); clear hb1; (with_reducible apply cel2 (b := w.heap.size) hbb); (focus ((try simp) <;> omega)); (focus omega); (focus (go_simp; try exact rfl)); (focus (go_simp; try exact rfl)); (focus (intro o; go_simp)); intro cc cc fz hl; (with_reducible apply cel2 (b := w.heap.size + 1) hbb); (focus ((try simp) <;> omega)); (focus omega); (focus (go_simp; try exact rfl)); (focus (go_simp; try exact rfl)); (focus (intro o; go_simp)); intro cc cc fz hl))
      go_ret
      refine ⟨rfl, ?_⟩
      ((with_reducible (repeat (first | exact bR _ _ | refine bS ?_ ?_ _ | refine bA ?_ ?_ _ | refine bD ?_ | refine bT ?_ (by assumption) ?_ | refine bO (by assumption) ?_ ?_))) <;> (first | omega | (simp; done) | (simp <;> omega)))
set_option maxHeartbeats 400000 in
theorem rdot_any (a b c d : Int) (w : World) :
    Calls Try.prog 54 #[.agg #[.int .i64 a, .int .i64 b], .agg #[.int .i64 c, .int .i64 d]] w fun e w' => e = .returned (.int .i64 (dotR a b c d)) ∧ Below w.heap.size w w' := by
  unfold dotR
  cases h1 : smallB a b
  · rw [if_neg (fun h => by cases h.1)]
    go_enter Try.func54, Try.ntmps54; (try simp only [List.append_eq, List.cons_append, List.nil_append])
    go_wp2_with (first | (go_at_call 104; refine (rsmall_any _ _ _).mono ?_; rintro e w1 ⟨rfl, hb1⟩; have hz1 : w.heap.size + 2 ≤ w1.heap.size := (by have h := hb1.size; (try simp at h); omega); have hbb := Below.mono hb1 (B' := w.heap.size + 2) (by (try simp) <;> omega); clear hb1; (with_reducible apply cel2 (b := w.heap.size) hbb); (focus ((try simp) <;> omega)); (focus omega); (focus (go_simp; try exact rfl)); (focus (go_simp; try exact rfl)); (focus (intro o; go_simp)); intro cc cc fz hl; (with_reducible apply cel2 (b := w.heap.size + 1) hbb); (focus ((try simp) <;> omega)); (focus omega); (focus (go_simp; try exact rfl)); (focus (go_simp; try exact rfl)); (focus (intro o; go_simp)); intro cc cc fz hl))
    go_ret
    refine ⟨rfl, ?_⟩
    ((with_reducible (repeat (first | exact bR _ _ | refine bS ?_ ?_ _ | refine bA ?_ ?_ _ | refine bD ?_ | refine bT ?_ (by assumption) ?_ | refine bO (by assumption) ?_ ?_))) <;> (first | omega | (simp; done) | (simp <;> omega)))
  · cases h2 : smallB c d
    · rw [if_neg (fun h => by cases h.2)]
      go_enter Try.func54, Try.ntmps54; (try simp only [List.append_eq, List.cons_append, List.nil_append])
      go_wp2_with (first | (go_at_call 104; refine (rsmall_any _ _ _).mono ?_; rintro e w1 ⟨rfl, hb1⟩; have hz1 : w.heap.size + 2 ≤ w1.heap.size := (by have h := hb1.size; (try simp at h); omega); have hbb := Below.mono hb1 (B' := w.heap.size + 2) (by (try simp) <;> omega); clear hb1; (with_reducible apply cel2 (b := w.heap.size) hbb); (focus ((try simp) <;> omega)); (focus omega); (focus (go_simp; try exact rfl)); (focus (go_simp; try exact rfl)); (focus (intro o; go_simp)); intro cc cc fz hl; (with_reducible apply cel2 (b := w.heap.size + 1) hbb); (focus ((try simp) <;> omega)); (focus omega); (focus (go_simp; try exact rfl)); (focus (go_simp; try exact rfl)); (focus (intro o; go_simp)); intro cc cc fz hl))
      go_ret
      refine ⟨rfl, ?_⟩
      ((with_reducible (repeat (first | exact bR _ _ | refine bS ?_ ?_ _ | refine bA ?_ ?_ _ | refine bD ?_ | refine bT ?_ (by assumption) ?_ | refine bO (by assumption) ?_ ?_))) <;> (first | omega | (simp; done) | (simp <;> omega)))
    · rw [if_pos ⟨rfl, rfl⟩]
      obtain ⟨q1, q2, q3, q4⟩ := small_bd h1
      obtain ⟨r1, r2, r3, r4⟩ := small_bd h2
      obtain ⟨m1, m2⟩ := mul_bd a c 1073741824 1073741824 q1 q2 r1 r2
      obtain ⟨m3, m4⟩ := mul_bd b d 1073741824 1073741824 q3 q4 r3 r4
      go_enter Try.func54, Try.ntmps54; (try simp only [List.append_eq, List.cons_append, List.nil_append])
      go_wp2_with (first | (go_at_call 104; refine (rsmall_any _ _ _).mono ?_; rintro e w1 ⟨rfl, hb1⟩; have hz1 : w.heap.size + 2 ≤ w1.heap.size := (by have h := hb1.size; (try simp at h); omega); have hbb := Below.mono hb1 (B' := w.heap.size + 2) (by (try simp) <;> omega); clear hb1; (with_reducible apply cel2 (b := w.heap.size) hbb); (focus ((try simp) <;> omega)); (focus omega); (focus (go_simp; try exact rfl)); (focus (go_simp; try exact rfl)); (focus (intro o; go_simp)); intro cc cc fz hl; (with_reducible apply cel2 (b := w.heap.size + 1) hbb); (focus ((try simp) <;> omega)); (focus omega); (focus (go_simp; try exact rfl)); (focus (go_simp; try exact rfl)); (focus (intro o; go_simp)); intro cc cc fz hl))
      go_ret
      refine ⟨rfl, ?_⟩
      ((with_reducible (repeat (first | exact bR _ _ | refine bS ?_ ?_ _ | refine bA ?_ ?_ _ | refine bD ?_ | refine bT ?_ (by assumption) ?_ | refine bO (by assumption) ?_ ?_))) <;> (first | omega | (simp; done) | (simp <;> omega)))
end Go.Proofs.Ytklkhnhieihfoaa
namespace Go.Proofs.Ytklkhnhieihfoaa
open Go Go.RowKit
set_option linter.unusedVariables false
def permB (v1 v2 w1 w2 n1 n2 : Int) : Bool := withinB v1 v2 1048576 && withinB w1 w2 1048576 && withinB n1 n2 2097152
theorem rwithin_one (n a b : Int) (g : Nat) (w : World) (n0 : 0 ≤ n) (n1 : n ≤ 1000000000) (hg : g < w.heap.size) (h0 : w.cell? ⟨g, 0, none⟩ = some (.int .i64 a)) (h1 : w.cell? ⟨g, 1, none⟩ = some (.int .i64 b)) :
    Calls Try.prog 92 #[.int .i64 n, .slice (some ⟨g, 0, none⟩) 1 1] w fun e w' => e = .returned (.bool (withinB a b n)) ∧ Below w.heap.size w w' := by
  have := rwithin_any n [(a, b)] (some ⟨g, 0, none⟩) 1 w (by simp) (fun k x hx => by
    rcases k with _ | k
    · simp only [List.getElem?_cons_zero, Option.some.injEq] at hx
      subst hx
      exact ⟨g, 0, rfl, hg, by simpa using h0, by simpa using h1⟩
    · simp at hx) n0 n1
  simpa [nearB] using this
theorem rwithin_two (n a b c d : Int) (g : Nat) (w : World) (n0 : 0 ≤ n) (n1 : n ≤ 1000000000) (hg : g < w.heap.size) (h0 : w.cell? ⟨g, 0, none⟩ = some (.int .i64 a)) (h1 : w.cell? ⟨g, 1, none⟩ = some (.int .i64 b)) (h2 : w.cell? ⟨g, 2, none⟩ = some (.int .i64 c)) (h3 : w.cell? ⟨g, 3, none⟩ = some (.int .i64 d)) :
    Calls Try.prog 92 #[.int .i64 n, .slice (some ⟨g, 0, none⟩) 2 2] w fun e w' => e = .returned (.bool (withinB a b n && withinB c d n)) ∧ Below w.heap.size w w' := by
  have := rwithin_any n [(a, b), (c, d)] (some ⟨g, 0, none⟩) 2 w (by simp) (fun k x hx => by
    rcases k with _ | _ | k
    · simp only [List.getElem?_cons_zero, Option.some.injEq] at hx
      subst hx
      exact ⟨g, 0, rfl, hg, by simpa using h0, by simpa using h1⟩
    · simp only [List.getElem?_cons_succ, List.getElem?_cons_zero, Option.some.injEq] at hx
      subst hx
      exact ⟨g, 0, rfl, hg, by simpa using h2, by simpa using h3⟩
    · simp at hx) n0 n1
  simpa [nearB] using this
set_option maxHeartbeats 4000000 in
theorem permitted_any (v1 v2 w1 w2 n1 n2 : Int) (w : World) :
    Calls Try.prog 70 #[.agg #[.int .i64 v1, .int .i64 v2], .agg #[.int .i64 w1, .int .i64 w2], .agg #[.int .i64 n1, .int .i64 n2]] w fun e w' => e = .returned (.bool (permB v1 v2 w1 w2 n1 n2)) ∧ Below w.heap.size w w' := by
  have k1 := fun g w => rwithin_two 1048576 v1 v2 w1 w2 g w (by omega) (by omega)
  have k2 := fun g w => rwithin_one 2097152 n1 n2 g w (by omega) (by omega)
  unfold permB
  generalize (withinB v1 v2 1048576 && withinB w1 w2 1048576) = c1 at *
  generalize withinB n1 n2 2097152 = c2 at *
  have K1 := Lib.hid k1
  have K2 := Lib.hid k2
  clear k1 k2
  go_enter Try.func70, Try.ntmps70; (try simp only [List.append_eq, List.cons_append, List.nil_append])
  go_wp2_with fail
  -- own blocks: w.heap.size:2, w.heap.size + 1:2, w.heap.size + 1 + 1:2
  (go_at_call 92; refine (K1.out _ _ (by simp) (by go_simp) (by go_simp) (by go_simp) (by go_simp)).mono ?_; rintro e w1 ⟨rfl, hb_w1⟩; have hz_w1 := hb_w1.size; (try simp at hz_w1); (with_reducible apply cel2 (b := w.heap.size) hb_w1); (focus ((try simp) <;> omega)); (focus omega); (focus (go_simp; try exact rfl)); (focus (go_simp; try exact rfl)); (focus (intro o; go_simp)); intro cc cc fz hl; (with_reducible apply cel2 (b := w.heap.size + 1) hb_w1); (focus ((try simp) <;> omega)); (focus omega); (focus (go_simp; try exact rfl)); (focus (go_simp; try exact rfl)); (focus (intro o; go_simp)); intro cc cc fz hl; (with_reducible apply cel2 (b := w.heap.size + 1 + 1) hb_w1); (focus ((try simp) <;> omega)); (focus omega); (focus (go_simp; try exact rfl)); (focus (go_simp; try exact rfl)); (focus (intro o; go_simp)); intro cc cc fz hl)
  cases c1
  · go_wp2_with fail
    go_ret
    exact ⟨rfl, by ((with_reducible (repeat (first | exact bR _ _ | refine bS ?_ ?_ _ | refine bA ?_ ?_ _ | refine bD ?_ | refine bT ?_ (by assumption) ?_ | refine bO (by assumption) ?_ ?_))) <;> (first | omega | (simp; done) | (simp <;> omega)))⟩
  · go_wp2_with fail
    (go_at_call 92; refine (K2.out _ _ (by simp) (by go_simp) (by go_simp)).mono ?_; rintro e w2 ⟨rfl, hb_w2⟩; have hz_w2 := hb_w2.size; (try simp at hz_w2); (with_reducible apply cel2 (b := w.heap.size) hb_w2); (focus ((try simp) <;> omega)); (focus omega); (focus (go_simp; try exact rfl)); (focus (go_simp; try exact rfl)); (focus (intro o; go_simp)); intro cc cc fz hl; (with_reducible apply cel2 (b := w.heap.size + 1) hb_w2); (focus ((try simp) <;> omega)); (focus omega); (focus (go_simp; try exact rfl)); (focus (go_simp; try exact rfl)); (focus (intro o; go_simp)); intro cc cc fz hl; (with_reducible apply cel2 (b := w.heap.size + 1 + 1) hb_w2); (focus ((try simp) <;> omega)); (focus omega); (focus (go_simp; try exact rfl)); (focus (go_simp; try exact rfl)); (focus (intro o; go_simp)); intro cc cc fz hl)
    go_wp2_with fail
    go_ret
    exact ⟨by cases c2 <;> rfl, by ((with_reducible (repeat (first | exact bR _ _ | refine bS ?_ ?_ _ | refine bA ?_ ?_ _ | refine bD ?_ | refine bT ?_ (by assumption) ?_ | refine bO (by assumption) ?_ ?_))) <;> (first | omega | (simp; done) | (simp <;> omega)))⟩
theorem all_take_suc {α : Type} {l : List α} {p : α → Bool} {k : Nat} {x : α} (hx : l[k]? = some x) : (l.take (k + 1)).all p = ((l.take k).all p && p x) := by rw [List.take_add_one, hx]; simp
def sixB (x : Int) : Bool := decide (0 ≤ x ∧ x ≤ 15)
set_option maxHeartbeats 2000000 in
theorem sixteenths_any (l : List Int) (A : Option Addr) (c : Nat) (w : World) (hl : l.length ≤ 1000000) (hV : IAt w A l) :
    Calls Try.prog 75 #[.slice A l.length c] w fun e w' => e = .returned (.bool (l.all sixB)) ∧ Below w.heap.size w w' := by
  have HV := Lib.hid hV
  obtain ⟨R, hR⟩ : ∃ R, R = l.all sixB := ⟨_, rfl⟩
  rw [← hR]
  have HR := Lib.hid hR
  clear hV hR
  go_enter Try.func75, Try.ntmps75; (try simp only [List.append_eq, List.cons_append, List.nil_append])
  go_wp2_with fail
  go_loopw [4, 7] (fun _ t wr => ∃ k : Nat, k ≤ l.length ∧ t = .int .i64 k ∧ Hid ((l.take k).all sixB = true) ∧ Below w.heap.size w wr) (fun _ t _ => l.length - (intOf t).toNat)
  case atStart => exact ⟨0, by omega, rfl, Lib.hid rfl, Below.refl _ _⟩
  case round =>
    obtain ⟨k, hk, rfl, HA, hb_wr⟩ := hrel
    have hz_wr := hb_wr.size
    have HB := Lib.hid hb_wr
    have i1 : (0 : Int) ≤ (k : Int) := by omega
    by_cases hlt : k < l.length
    · obtain ⟨a, hx⟩ : ∃ x, l[k]? = some x := ⟨l[k], by simp⟩
      obtain ⟨g, o, rfl, hg, a0⟩ := (HV.out.below HB.out (Nat.le_refl _)) k _ hx
      have hall := all_take_suc (p := sixB) hx
      have HX := Lib.hid hx
      have HN := Lib.hid hall
      have i2 : (k : Int) < (l.length : Int) := by omega
      clear hb_wr hx hall
      by_cases hin : 0 ≤ a ∧ a ≤ 15
      · obtain ⟨j1, j2⟩ := hin
        have HN2 := Lib.hid (show (l.take (k + 1)).all sixB = true by rw [HN.out, HA.out]; simp [sixB]; omega)
        go_wp2_with fail
        go_roundw
        case rel => exact ⟨k + 1, by omega, by go_num, HN2, HB.out⟩
        case measure => simp [intOf]; omega
      · have hfin : R = false := by
          rw [HR.out, List.all_eq_false]
          exact ⟨a, List.mem_of_getElem? HX.out, by simp only [sixB, decide_eq_true_eq]; exact hin⟩
        subst hfin
        have h4 : a < 0 ∨ (0 ≤ a ∧ 15 < a) := by omega
        clear hin
        rcases h4 with h4 | ⟨h4, h5⟩
        all_goals
          go_wp2_with fail
          go_ret
          exact ⟨rfl, HB.out⟩
    · obtain rfl : k = l.length := by omega
      rw [List.take_length] at HA
      have hfin : R = true := by rw [HR.out, HA.out]
      subst hfin
      clear hb_wr
      go_wp2_with fail
      go_ret
      exact ⟨rfl, HB.out⟩
theorem sixteenths_one (a : Int) (g : Nat) (w : World) (hg : g < w.heap.size) (h0 : w.cell? ⟨g, 0, none⟩ = some (.int .i64 a)) :
    Calls Try.prog 75 #[.slice (some ⟨g, 0, none⟩) 1 1] w fun e w' => e = .returned (.bool (sixB a)) ∧ Below w.heap.size w w' := by
  have := sixteenths_any [a] (some ⟨g, 0, none⟩) 1 w (by simp) (fun k x hx => by
    rcases k with _ | k
    · simp only [List.getElem?_cons_zero, Option.some.injEq] at hx
      subst hx
      exact ⟨g, 0, rfl, hg, by simpa using h0⟩
    · simp at hx)
  simpa using this
theorem sixteenths_two (a b : Int) (g : Nat) (w : World) (hg : g < w.heap.size) (h0 : w.cell? ⟨g, 0, none⟩ = some (.int .i64 a)) (h1 : w.cell? ⟨g, 1, none⟩ = some (.int .i64 b)) :
    Calls Try.prog 75 #[.slice (some ⟨g, 0, none⟩) 2 2] w fun e w' => e = .returned (.bool (sixB a && sixB b)) ∧ Below w.heap.size w w' := by
  have := sixteenths_any [a, b] (some ⟨g, 0, none⟩) 2 w (by simp) (fun k x hx => by
    rcases k with _ | _ | k
    · simp only [List.getElem?_cons_zero, Option.some.injEq] at hx
      subst hx
      exact ⟨g, 0, rfl, hg, by simpa using h0⟩
    · simp only [List.getElem?_cons_succ, List.getElem?_cons_zero, Option.some.injEq] at hx
      subst hx
      exact ⟨g, 0, rfl, hg, by simpa using h1⟩
    · simp at hx)
  simpa using this
def apprB (v1 v2 w1 w2 n1 n2 : Int) : Bool := permB v1 v2 w1 w2 n1 n2 && decide (dotR (subR v1 v2 w1 w2).1 (subR v1 v2 w1 w2).2 n1 n2 < 0)
set_option maxHeartbeats 4000000 in
theorem approaches_any (v1 v2 w1 w2 n1 n2 : Int) (w : World) :
    Calls Try.prog 26 #[.agg #[.int .i64 v1, .int .i64 v2], .agg #[.int .i64 w1, .int .i64 w2], .agg #[.int .i64 n1, .int .i64 n2]] w fun e w' => e = .returned (.bool (apprB v1 v2 w1 w2 n1 n2)) ∧ Below w.heap.size w w' := by
  have k1 := fun w => permitted_any v1 v2 w1 w2 n1 n2 w
  have k2 := fun w => vsub_any v1 v2 w1 w2 w
  have k3 := fun w => vdot_any (subR v1 v2 w1 w2).1 (subR v1 v2 w1 w2).2 n1 n2 w
  unfold apprB
  generalize dotR (subR v1 v2 w1 w2).1 (subR v1 v2 w1 w2).2 n1 n2 = D at *
  generalize subR v1 v2 w1 w2 = S at *
  generalize permB v1 v2 w1 w2 n1 n2 = c1 at *
  have K1 := Lib.hid k1
  have K2 := Lib.hid k2
  have K3 := Lib.hid k3
  clear k1 k2 k3
  cases c1
  all_goals
    go_enter Try.func26, Try.ntmps26; (try simp only [List.append_eq, List.cons_append, List.nil_append])
    go_wp2_with fail
    -- own blocks: w.heap.size:2, w.heap.size + 1:2, w.heap.size + 1 + 1:2
    (refine pin_wp (N := _) (Nat.le_refl _) (fun w1 hb_w1 hz_w1 => ?_); (try simp at hz_w1); (with_reducible apply cel2 (b := w.heap.size) hb_w1); (focus ((try simp) <;> omega)); (focus omega); (focus (go_simp; try exact rfl)); (focus (go_simp; try exact rfl)); (focus (intro o; go_simp)); intro cc cc fz hl; (with_reducible apply cel2 (b := w.heap.size + 1) hb_w1); (focus ((try simp) <;> omega)); (focus omega); (focus (go_simp; try exact rfl)); (focus (go_simp; try exact rfl)); (focus (intro o; go_simp)); intro cc cc fz hl; (with_reducible apply cel2 (b := w.heap.size + 1 + 1) hb_w1); (focus ((try simp) <;> omega)); (focus omega); (focus (go_simp; try exact rfl)); (focus (go_simp; try exact rfl)); (focus (intro o; go_simp)); intro cc cc fz hl); refine wp_region_warm (Own w1.heap.size w1) (by kernel_rfl) (by kernel_rfl) (Own.refl (Nat.le_refl _)).drew ?_
    repeat (first | (refine wpWarm_step_off rfl (fun K hK => ?_); (go_simp; refine hK _ ?_; clear hK K)) | (apply wpWarm_step rfl; (focus (intro W' hS; have hcS := hS.cells.1; have hfS := hS.cells.2; go_simp; (first | done | exact rfl | exact ⟨rfl, hS⟩ | (go_at_call 70; exact (K1.out _).mono (fun _ _ h => ⟨h.1, hS.call h.2⟩)) | (go_at_call 20; exact (K2.out _).mono (fun _ _ h => ⟨h.1, hS.call h.2⟩)) | (go_at_call 19; exact (K3.out _).mono (fun _ _ h => ⟨h.1, hS.call h.2⟩)) | (go_simp; exact rfl)))); (intro K hK; go_simp; (try go_bits); refine hK _ ?_; clear hK K)) | (apply wpWarm_step_on rfl; (focus (intro W' hS; have hcS := hS.cells.1; have hfS := hS.cells.2; go_simp; (first | done | exact rfl | exact ⟨rfl, hS⟩ | (go_at_call 70; exact (K1.out _).mono (fun _ _ h => ⟨h.1, hS.call h.2⟩)) | (go_at_call 20; exact (K2.out _).mono (fun _ _ h => ⟨h.1, hS.call h.2⟩)) | (go_at_call 19; exact (K3.out _).mono (fun _ _ h => ⟨h.1, hS.call h.2⟩)) | (go_simp; exact rfl)))); (intro K hK; go_simp; (try go_bits); refine hK _ ?_; clear hK K)))
    (refine wpWarm_nil ?_; intro w2 hO; have hz_w2 := hO.1; have hb_w2 := hO.2; clear hO; (with_reducible apply cel2 (b := w.heap.size) hb_w2); (focus ((try simp) <;> omega)); (focus omega); (focus (go_simp; try exact rfl)); (focus (go_simp; try exact rfl)); (focus (intro o; go_simp)); intro cc cc fz hl; (with_reducible apply cel2 (b := w.heap.size + 1) hb_w2); (focus ((try simp) <;> omega)); (focus omega); (focus (go_simp; try exact rfl)); (focus (go_simp; try exact rfl)); (focus (intro o; go_simp)); intro cc cc fz hl; (with_reducible apply cel2 (b := w.heap.size + 1 + 1) hb_w2); (focus ((try simp) <;> omega)); (focus omega); (focus (go_simp; try exact rfl)); (focus (go_simp; try exact rfl)); (focus (intro o; go_simp)); intro cc cc fz hl)
    go_wp2_with fail
    go_ret
    exact ⟨by first | rfl | simp, by ((with_reducible (repeat (first | exact bR _ _ | refine bS ?_ ?_ _ | refine bA ?_ ?_ _ | refine bD ?_ | refine bT ?_ (by assumption) ?_ | refine bO (by assumption) ?_ ?_))) <;> (first | omega | (simp; done) | (simp <;> omega)))⟩
set_option maxHeartbeats 400000 in
theorem rnear_any (x y n : Int) (w : World) (h0 : 0 ≤ n) (h1 : n ≤ 1000000000) :
    Calls Try.prog 86 #[.agg #[.int .i64 x, .int .i64 y], .int .i64 n] w fun e w' => e = .returned (.bool (withinB x y n)) ∧ Below w.heap.size w w' := by
  go_enter Try.func86, Try.ntmps86; (try simp only [List.append_eq, List.cons_append, List.nil_append])
  go_wp2
  all_goals
    go_ret
    refine ⟨ret_bool (bool_iff ?_), (Below.refl _ _).alloc (Nat.le_refl _) _⟩
    simp only [withinB, decide_eq_true_eq, Bool.false_eq_true, false_iff]; omega
theorem rdirection_any (x y : Int) (w : World) :
    Calls Try.prog 71 #[.agg #[.int .i64 x, .int .i64 y]] w fun e w' => e = .returned (.bool (withinB x y 2097152)) ∧ Below w.heap.size w w' := by
  go_enter Try.func71, Try.ntmps71; (try simp only [List.append_eq, List.cons_append, List.nil_append])
  go_wp2_with fail
  -- own blocks: w.heap.size:2
  (go_at_call 86; refine (rnear_any _ _ _ _ (by omega) (by omega)).mono ?_; rintro e w1 ⟨rfl, hb_w1⟩; have hz_w1 := hb_w1.size; (try simp at hz_w1); (with_reducible apply cel2 (b := w.heap.size) hb_w1); (focus ((try simp) <;> omega)); (focus omega); (focus (go_simp; try exact rfl)); (focus (go_simp; try exact rfl)); (focus (intro o; go_simp)); intro cc cc fz hl)
  go_wp2_with fail
  go_ret
  exact ⟨rfl, by ((with_reducible (repeat (first | exact bR _ _ | refine bS ?_ ?_ _ | refine bA ?_ ?_ _ | refine bD ?_ | refine bT ?_ (by assumption) ?_ | refine bO (by assumption) ?_ ?_))) <;> (first | omega | (simp; done) | (simp <;> omega)))⟩
end Go.Proofs.Ytklkhnhieihfoaa
namespace Go.Proofs.Ytklkhnhieihfoaa
set_option linter.unusedVariables false
/-- Every limb is below 2^32. -/
def Lim (l : List Int) : Prop := ∀ x ∈ l, 0 ≤ x ∧ x < 4294967296
/-- The powers of 2^32. -/
def PB (k : Nat) : Int := 4294967296 ^ k
theorem PB_zero : PB 0 = 1 := rfl
theorem PB_succ (k : Nat) : PB (k + 1) = 4294967296 * PB k := by unfold PB; rw [Int.pow_succ, Int.mul_comm]
theorem PB_pos (k : Nat) : 0 < PB k := Int.pow_pos (by decide)
theorem PB_add (a b : Nat) : PB (a + b) = PB a * PB b := Int.pow_add ..
theorem PB_mono {a b : Nat} (h : a ≤ b) : PB a ≤ PB b := by
  obtain ⟨c, rfl⟩ := Nat.le.dest h
  induction c with
  | zero => exact Int.le_refl _
  | succ c ih =>
    have h1 := ih (by omega)
    have h2 := PB_pos (a + c)
    rw [← Nat.add_assoc, PB_succ]
    omega
/-- What limbs are worth, the lowest first. -/
def mv : List Int → Int
  | [] => 0
  | x :: l => x + 4294967296 * mv l
theorem mv_cons (x : Int) (l : List Int) : mv (x :: l) = x + 4294967296 * mv l := rfl
theorem Lim.nil : Lim [] := fun _ h => by cases h
theorem Lim.cons {x : Int} {l : List Int} (h0 : 0 ≤ x) (h1 : x < 4294967296) (h : Lim l) : Lim (x :: l) := by
  intro y hy
  rcases List.mem_cons.1 hy with rfl | hy
  · exact ⟨h0, h1⟩
  · exact h y hy
theorem Lim.tail {x : Int} {l : List Int} (h : Lim (x :: l)) : Lim l := fun y hy => h y (by simp [hy])
theorem Lim.take {l : List Int} (h : Lim l) (k : Nat) : Lim (l.take k) := fun y hy => h y (List.mem_of_mem_take hy)
theorem Lim.drop {l : List Int} (h : Lim l) (k : Nat) : Lim (l.drop k) := fun y hy => h y (List.mem_of_mem_drop hy)
theorem Lim.append {a b : List Int} (h : Lim a) (h' : Lim b) : Lim (a ++ b) := fun y hy => by
  rcases List.mem_append.1 hy with g | g
  · exact h y g
  · exact h' y g
theorem Lim.snoc {x : Int} {l : List Int} (h : Lim l) (h0 : 0 ≤ x) (h1 : x < 4294967296) : Lim (l ++ [x]) := h.append (Lim.cons h0 h1 Lim.nil)
theorem Lim.set {x : Int} {l : List Int} (h : Lim l) (k : Nat) (h0 : 0 ≤ x) (h1 : x < 4294967296) : Lim (l.set k x) := fun y hy => by
  rcases List.mem_or_eq_of_mem_set hy with g | rfl
  · exact h y g
  · exact ⟨h0, h1⟩
theorem Lim.get {l : List Int} (h : Lim l) {k : Nat} {x : Int} (hx : l[k]? = some x) : 0 ≤ x ∧ x < 4294967296 := h x (List.mem_of_getElem? hx)
theorem Lim.replicate (n : Nat) : Lim (List.replicate n 0) := fun y hy => by
  rw [(List.mem_replicate.1 hy).2]; omega
theorem mv_nonneg {l : List Int} (h : Lim l) : 0 ≤ mv l := by
  induction l with
  | nil => exact Int.le_refl _
  | cons x l ih =>
    have h1 := h x (by simp)
    have h2 := ih h.tail
    unfold mv
    omega
theorem mv_lt {l : List Int} (h : Lim l) : mv l < PB l.length := by
  induction l with
  | nil => exact Int.one_pos
  | cons x l ih =>
    have h1 := h x (by simp)
    have h2 := ih h.tail
    rw [List.length_cons, PB_succ]
    unfold mv
    omega
theorem mv_append (a b : List Int) : mv (a ++ b) = mv a + PB a.length * mv b := by
  induction a with
  | nil => simp [mv, PB_zero]
  | cons x a ih =>
    rw [List.cons_append, List.length_cons, PB_succ]
    rw [mv_cons, mv_cons, ih]
    grind
theorem mv_one (x : Int) : mv [x] = x := by unfold mv mv; omega
theorem mv_two (x y : Int) : mv [x, y] = x + 4294967296 * y := by unfold mv mv mv; omega
theorem mv_snoc (l : List Int) (x : Int) : mv (l ++ [x]) = mv l + PB l.length * x := by rw [mv_append, mv_one]
theorem mv_replicate (n : Nat) : mv (List.replicate n 0) = 0 := by
  induction n with
  | zero => rfl
  | succ n ih => rw [List.replicate_succ]; unfold mv; omega
theorem take_snocI {l : List Int} {k : Nat} {x : Int} (hx : l[k]? = some x) : l.take (k + 1) = l.take k ++ [x] := by rw [List.take_add_one, hx]; rfl
theorem mv_take_succ {l : List Int} {k : Nat} {x : Int} (hx : l[k]? = some x) : mv (l.take (k + 1)) = mv (l.take k) + PB k * x := by
  have hk := (List.getElem?_eq_some_iff.1 hx).1
  rw [take_snocI hx, mv_snoc, List.length_take, Nat.min_eq_left (by omega)]
theorem drop_consI {l : List Int} {k : Nat} {x : Int} (hx : l[k]? = some x) : l.drop k = x :: l.drop (k + 1) := by
  obtain ⟨hk, e⟩ := List.getElem?_eq_some_iff.1 hx
  rw [List.drop_eq_getElem_cons hk, e]
theorem mv_drop_succ {l : List Int} {k : Nat} {x : Int} (hx : l[k]? = some x) : mv (l.drop k) = x + 4294967296 * mv (l.drop (k + 1)) := by
  rw [drop_consI hx]; rfl
theorem mv_split (l : List Int) (k : Nat) (h : k ≤ l.length) : mv l = mv (l.take k) + PB k * mv (l.drop k) := by
  have e := mv_append (l.take k) (l.drop k)
  rw [List.take_append_drop, List.length_take, Nat.min_eq_left h] at e
  exact e
theorem mv_set {l : List Int} {k : Nat} {y : Int} (hy : l[k]? = some y) (x : Int) : mv (l.set k x) = mv l + PB k * (x - y) := by
  have hk := (List.getElem?_eq_some_iff.1 hy).1
  induction l generalizing k with
  | nil => simp at hk
  | cons z l ih =>
    cases k with
    | zero =>
      simp only [List.getElem?_cons_zero, Option.some.injEq] at hy
      subst hy
      rw [List.set_cons_zero, PB_zero]
      unfold mv
      omega
    | succ k =>
      simp only [List.getElem?_cons_succ] at hy
      have := ih hy (by simpa using hk)
      rw [List.set_cons_succ, PB_succ, mv_cons, mv_cons, this]
      grind
/-- The limbs of a number, without a zero at the end. -/
def canN (n : Nat) : List Int := if h : n = 0 then [] else ((n % 4294967296 : Nat) : Int) :: canN (n / 4294967296)
termination_by n
decreasing_by omega
theorem canN_zero : canN 0 = [] := by unfold canN; rfl
theorem canN_pos {n : Nat} (h : n ≠ 0) : canN n = ((n % 4294967296 : Nat) : Int) :: canN (n / 4294967296) := by
  rw [canN, dif_neg h]
theorem canN_lim (n : Nat) : Lim (canN n) := by
  induction n using Nat.strongRecOn with
  | ind n ih =>
    by_cases h : n = 0
    · subst h; rw [canN_zero]; exact Lim.nil
    · rw [canN_pos h]; exact Lim.cons (by omega) (by omega) (ih _ (by omega))
theorem mv_canN (n : Nat) : mv (canN n) = n := by
  induction n using Nat.strongRecOn with
  | ind n ih =>
    by_cases h : n = 0
    · subst h; rw [canN_zero]; rfl
    · rw [canN_pos h]; unfold mv; rw [ih _ (by omega)]; omega
theorem canN_last (n : Nat) : ∀ x, (canN n).getLast? = some x → x ≠ 0 := by
  induction n using Nat.strongRecOn with
  | ind n ih =>
    by_cases h : n = 0
    · subst h; rw [canN_zero]; intro x hx; cases hx
    · rw [canN_pos h]
      intro x hx
      by_cases h2 : n / 4294967296 = 0
      · rw [h2, canN_zero] at hx
        simp only [List.getLast?_singleton, Option.some.injEq] at hx
        omega
      · have h3 := canN_pos h2
        rw [h3, List.getLast?_cons_cons, ← h3] at hx
        exact ih _ (by omega) x hx
/-- Limbs without a zero at the end are those of their number. -/
theorem canN_of {l : List Int} (h : Lim l) (hl : ∀ x, l.getLast? = some x → x ≠ 0) : l = canN (mv l).toNat := by
  induction l with
  | nil => exact canN_zero.symm
  | cons x l ih =>
    have hx := h x (by simp)
    have h0 := mv_nonneg h.tail
    have ih' := ih h.tail (fun y hy => by
      cases l with
      | nil => cases hy
      | cons z l => exact hl y (by rw [List.getLast?_cons_cons]; exact hy))
    have hne : (mv (x :: l)).toNat ≠ 0 := by
      intro hz
      have hv : mv (x :: l) = x + 4294967296 * mv l := rfl
      have h1 : mv l = 0 := by omega
      rw [h1] at ih'
      have : canN (0 : Int).toNat = [] := canN_zero
      rw [this] at ih'
      subst ih'
      have := hl x rfl
      rw [h1] at hv
      omega
    have hv : mv (x :: l) = x + 4294967296 * mv l := rfl
    rw [canN_pos hne]
    have e1 : (((mv (x :: l)).toNat % 4294967296 : Nat) : Int) = x := by omega
    have e2 : (mv (x :: l)).toNat / 4294967296 = (mv l).toNat := by omega
    rw [e1, e2, ← ih']
theorem canN_len {n k : Nat} : (canN n).length ≤ k ↔ (n : Int) < PB k := by
  constructor
  · intro h
    have h1 := mv_lt (canN_lim n)
    rw [mv_canN] at h1
    have := PB_mono h
    omega
  · intro h
    induction k generalizing n with
    | zero =>
      have : n = 0 := by rw [PB_zero] at h; omega
      subst this; rw [canN_zero]; simp
    | succ k ih =>
      by_cases h0 : n = 0
      · subst h0; rw [canN_zero]; simp
      · rw [canN_pos h0, List.length_cons]
        have := @ih (n / 4294967296) (by rw [PB_succ] at h; omega)
        omega
theorem canN_len0 {n : Nat} : (canN n).length = 0 ↔ n = 0 := by
  constructor
  · intro h
    have := mv_canN n
    rw [List.length_eq_zero_iff.1 h] at this
    unfold mv at this
    omega
  · rintro rfl; rw [canN_zero]; rfl
/-- Limbs that end in nothing but zeros from a place on. -/
theorem mv_take_of_zero {l : List Int} {n : Nat} (h : ∀ k x, l[k]? = some x → n ≤ k → x = 0) : mv (l.take n) = mv l := by
  have hz : ∀ l : List Int, (∀ x ∈ l, x = 0) → mv l = 0 := by
    intro l
    induction l with
    | nil => intro _; rfl
    | cons y l ih =>
      intro hl
      have h1 := hl y (by simp)
      have h2 := ih (fun x hx => hl x (by simp [hx]))
      unfold mv
      omega
  rcases Nat.le_total l.length n with hl | hl
  · rw [List.take_of_length_le hl]
  · have h1 := mv_split l n hl
    have h2 := hz (l.drop n) (fun x hx => by
      obtain ⟨i, hi⟩ := List.getElem?_of_mem hx
      rw [List.getElem?_drop] at hi
      exact h _ x hi (by omega))
    rw [h2] at h1
    omega
/-- What is left when the zeros at the end are struck. -/
theorem canN_take {l : List Int} {n : Nat} (hl : Lim l) (hn : n ≤ l.length) (h : ∀ k x, l[k]? = some x → n ≤ k → x = 0) (h1 : ∀ x, 0 < n → l[n - 1]? = some x → x ≠ 0) :
    l.take n = canN (mv l).toNat := by
  have e := canN_of (hl.take n) (fun x hx => by
    rw [List.getLast?_eq_getElem?, List.length_take, Nat.min_eq_left hn] at hx
    by_cases h0 : n = 0
    · subst h0; simp at hx
    · rw [List.getElem?_take, if_pos (by omega)] at hx
      exact h1 x (by omega) hx)
  rw [mv_take_of_zero h] at e
  exact e
/-- The sign and the limbs of a number. -/
def sv (neg : Bool) (m : Int) : Int := if neg = true then -m else m
end Go.Proofs.Ytklkhnhieihfoaa
namespace Go.Proofs.Ytklkhnhieihfoaa
open Go Go.RowKit
set_option linter.unusedVariables false
/-- The address leads to these limbs. -/
def LAt (w : World) (A : Option Addr) (l : List Int) : Prop := ∀ k x, l[k]? = some x → ∃ g o, A = some ⟨g, o, none⟩ ∧ g < w.heap.size ∧ w.cell? ⟨g, o + k, none⟩ = some (.int .u32 x)
theorem LAt.nil (w : World) (A : Option Addr) : LAt w A [] := fun k x h => by simp at h
theorem LAt.below {w w1 : World} {A : Option Addr} {l : List Int} (h : LAt w A l) (hb : Below w.heap.size w w1) : LAt w1 A l := by
  intro k x hx
  obtain ⟨g, o, hA, hg, hc⟩ := h k x hx
  exact ⟨g, o, hA, Nat.lt_of_lt_of_le hg hb.size, by rw [hb.cell (by simpa using hg)]; exact hc⟩
theorem LAt.own {w w1 : World} {A : Option Addr} {l : List Int} {N : Nat} (h : LAt w A l) (hb : Own N w w1) (hN : w.heap.size ≤ N) : LAt w1 A l := h.below (hb.2.mono hN)
theorem LAt.cl (A : Option Addr) (l : List Int) : Cl (fun w => LAt w A l) := fun _ _ h hb => h.below hb
theorem LAt.drew {w : World} {A : Option Addr} {l : List Int} (h : LAt w A l) : LAt w.drew A l := h
theorem LAt.alloc {w : World} {A : Option Addr} {l : List Int} (h : LAt w A l) (o : Obj) : LAt (w.alloc o) A l := h.below ((Below.refl _ _).alloc (Nat.le_refl _) _)
theorem LAt.take {w : World} {A : Option Addr} {l : List Int} (h : LAt w A l) (n : Nat) : LAt w A (l.take n) := by
  intro k x hx
  rw [List.getElem?_take] at hx
  split at hx
  · exact h k x hx
  · cases hx
/-- A store where no limb was. -/
theorem LAt.setCell {w : World} {A : Option Addr} {l : List Int} (h : LAt w A l) {p : Addr} {u : Value} (hp : w.cell? p = some u) (hu : ∀ x, u ≠ .int .u32 x) (v : Value) : LAt (w.setCell p v) A l := by
  intro k x hx
  obtain ⟨g, o, hA, hg, hc⟩ := h k x hx
  refine ⟨g, o, hA, by simpa [World.setCell] using hg, ?_⟩
  rw [World.cell?_setCell_other w p _ v (fun e => by
    subst e
    rw [hc] at hp
    exact hu x (Option.some.inj hp).symm)]
  exact hc
theorem LAt.set2 {w : World} {A : Option Addr} {l : List Int} (h : LAt w A l) {b : Nat} {b0 : Bool} {a : Option Addr} {n c : Nat} (h0 : w.cell? ⟨b, 0, none⟩ = some (.bool b0)) (h1 : w.cell? ⟨b, 1, none⟩ = some (.slice a n c)) (x y : Value) :
    LAt ((w.setCell ⟨b, 0, none⟩ x).setCell ⟨b, 1, none⟩ y) A l := by
  refine (h.setCell h0 (fun _ e => by cases e) x).setCell (u := .slice a n c) ?_ (fun _ e => by cases e) y
  rw [World.cell?_setCell_other w _ _ x (fun e => by simp at e)]
  exact h1
theorem LAt.grown {w w1 : World} {A : Option Addr} {l : List Int} {row : Option Nat} (h : LAt w A l) (hg : w.grownBy w1 row) (hne : ∀ g o, A = some ⟨g, o, none⟩ → some g ≠ row) : LAt w1 A l := by
  intro k x hx
  obtain ⟨g, o, hA, hlt, hc⟩ := h k x hx
  exact ⟨g, o, hA, Nat.lt_of_lt_of_le hlt hg.size, by rw [World.cell?_of_block (hg.block g hlt (hne g o hA))]; exact hc⟩
/-- A row of limbs that the call owns. -/
def OwnL (w : World) (base : Nat) (v : Value) (l : List Int) : Prop := w.ownsRow base 110 1 v l.length (l.map (Value.int .u32))
theorem OwnL.nil (w : World) (base : Nat) : OwnL w base (.slice none 0 0) [] := World.ownsRow_nil _ _ _ _
theorem OwnL.fresh {w : World} {base : Nat} {v : Value} {l : List Int} (h : OwnL w base v l) : ∀ k, v.ownBlock = some k → base ≤ k := fun k hk => (World.ownsRow.lt h k hk).1
theorem OwnL.alloc {w : World} {base : Nat} {v : Value} {l : List Int} (h : OwnL w base v l) (o : Obj) : OwnL (w.alloc o) base v l := World.ownsRow.alloc h o
theorem OwnL.below {w w1 : World} {base : Nat} {v : Value} {l : List Int} (h : OwnL w base v l) (hb : Below w.heap.size w w1) : OwnL w1 base v l := by
  obtain ⟨h1, h2⟩ := h
  refine ⟨h1, ?_⟩
  rcases h2 with h2 | ⟨g, cap, cur, hv, hg, hh, r⟩
  · exact .inl h2
  · refine .inr ⟨g, cap, cur, hv, hg, ?_, r⟩
    have hlt : g < w.heap.size := (Array.getElem?_eq_some_iff.1 hh).1
    rw [hb.block _ hlt]; exact hh
theorem OwnL.setCell {w : World} {base : Nat} {v : Value} {l : List Int} (h : OwnL w base v l) {p : Addr} (hp : p.block < base) (u : Value) : OwnL (w.setCell p u) base v l := ownsRow_setCell_below h hp u
theorem OwnL.weak {w : World} {base base' : Nat} {v : Value} {l : List Int} (h : OwnL w base v l) (hb : base' ≤ base) : OwnL w base' v l := by
  obtain ⟨h1, h2⟩ := h
  refine ⟨h1, ?_⟩
  rcases h2 with h2 | ⟨g, cap, cur, hv, hg, r⟩
  · exact .inl h2
  · exact .inr ⟨g, cap, cur, hv, by omega, r⟩
theorem OwnL.cl (base : Nat) (v : Value) (l : List Int) : Cl (fun w => OwnL w base v l) := fun _ _ h hb => h.below hb
theorem OwnL.lat {w : World} {base : Nat} {A : Option Addr} {n c : Nat} {l : List Int} (h : OwnL w base (.slice A n c) l) : LAt w A l := by
  rcases h.2 with ⟨hv, h0⟩ | ⟨g, cap, cur, hv, hb, hh, hc, hm, hs, ht⟩
  · have hl := List.length_eq_zero_iff.1 h0
    subst hl
    exact LAt.nil _ _
  · have hA : A = some ⟨g, 0, none⟩ := by injection hv
    subst hA
    refine fun k x hx => ⟨g, 0, rfl, (Array.getElem?_eq_some_iff.1 hh).1, ?_⟩
    have hcell := World.ownsRow.cells h (g := g) rfl k (.int .u32 x) (by rw [List.getElem?_map, hx]; rfl)
    unfold Addr.add at hcell
    split at hcell
    · rename_i h0; rw [h0]; exact hcell
    · exact hcell
/-- From an owned row. -/
theorem lat_of_own {w : World} {base : Nat} {v : Value} {l : List Int} (h : OwnL w base v l) :
    ∃ A c, v = .slice A l.length c ∧ l.length ≤ c ∧ c ≤ maxLen ∧ LAt w A l := by
  rcases h.2 with ⟨hv, h0⟩ | ⟨g, cap, cur, hv, hb, hh, hc, hm, hs, ht⟩
  · have hl := List.length_eq_zero_iff.1 h0
    subst hl
    exact ⟨none, 0, hv, Nat.le_refl _, Nat.zero_le _, LAt.nil _ _⟩
  · refine ⟨some ⟨g, 0, none⟩, cap, hv, hc, hm, fun k x hx => ⟨g, 0, rfl, (Array.getElem?_eq_some_iff.1 hh).1, ?_⟩⟩
    have hcell := World.ownsRow.cells h (g := g) (by rw [hv]; rfl) k (.int .u32 x) (by rw [List.getElem?_map, hx]; rfl)
    unfold Addr.add at hcell
    split at hcell
    · rename_i h0; rw [h0]; exact hcell
    · exact hcell
theorem limbInfo : (Try.prog.info? 110).map (fun i => (i.zero, i.size, i.bytes)) = some (some (.int .u32 0), 1, 4) := by kernel_rfl
theorem run_append_limbs (w : World) (base : Nat) (ty : TypeId) (v : Value) (n : Nat) (xs : List Value) (hown : w.ownsRow base 110 1 v n xs)
    (A : Option Addr) (c : Nat) (l : List Int) (hA : LAt w A l) (h63 : n + l.length ≤ maxLen) (hbytes : (n + l.length) * 4 ≤ 140737488355328) (hbase : base ≤ w.heap.size) :
    ∃ v' w', (Builtin.append_ #[56, 56] ty #[v, .slice A l.length c]).run Try.prog w = .ok v' w' ∧ w'.ownsRow base 110 1 v' (n + l.length) (xs ++ l.map (Value.int .u32)) ∧ w.grownBy w' v.ownBlock ∧ (v'.ownBlock = v.ownBlock ∨ v'.ownBlock = some w.heap.size) := by
  obtain ⟨i, hi, hz, hs, hb⟩ := info_parts limbInfo
  by_cases h0 : l = []
  · subst h0
    cases A with
    | none =>
      refine ⟨v, w, ?_, by simpa using hown, World.grownBy.refl w _, .inl rfl⟩
      rcases hown.2 with ⟨rfl, rfl⟩ | ⟨g, cap, cur, rfl, _, _, hnc, _⟩
      · simp [Builtin.append_, run_underlying Try.underlying56, sizeOf, typeInfo, hi, Builtin.lenOf, Builtin.firstCells]
      · simp [Builtin.append_, run_underlying Try.underlying56, sizeOf, typeInfo, hi, Builtin.lenOf, Builtin.firstCells, hnc, storeCells]
    | some a =>
      obtain ⟨v', w', h1, h2, h3, _, h5⟩ := run_append_own_at (P := Try.prog) w base 56 ty 110 i _ 1 4 Try.underlying56 hi hz hs hb rfl (by decide) v n xs hown a 0 c [] (by simp) (by simp) (by simp) (by simpa using h63) (by simpa using hbytes) hbase
      exact ⟨v', w', h1, by simpa using h2, h3, h5⟩
  · obtain ⟨x, hx⟩ : ∃ x, l[0]? = some x := by
      cases l with
      | nil => exact absurd rfl h0
      | cons x l => exact ⟨x, rfl⟩
    obtain ⟨g, o, rfl, _, _⟩ := hA 0 x hx
    obtain ⟨v', w', h1, h2, h3, _, h5⟩ := run_append_own_at (P := Try.prog) w base 56 ty 110 i _ 1 4 Try.underlying56 hi hz hs hb rfl (by decide) v n xs hown ⟨g, o, none⟩ l.length c (l.map (Value.int .u32)) (by simp) (fun j u hu => by
      rw [List.getElem?_map] at hu
      obtain ⟨y, hy, rfl⟩ := Option.map_eq_some_iff.1 hu
      obtain ⟨g', o', he, _, hc⟩ := hA j y hy
      simp only [Option.some.injEq, Addr.mk.injEq] at he
      obtain ⟨rfl, rfl, _⟩ := he
      unfold Addr.add
      split
      · rename_i h; rw [h, Nat.add_zero] at hc; exact hc
      · exact hc) (fun u hu => by obtain ⟨y, _, rfl⟩ := List.mem_map.1 hu; rfl) h63 hbytes hbase
    exact ⟨v', w', h1, h2, h3, h5⟩
/-- 'append(v, x...)', v a row of the call's own (or nil), x any limbs. -/
theorem wpList_append_limbs {w : World} {ops : Array Oper} {rest : List Oper} {o : Oper} {a : Act} {Q : Exit → Act → World → Prop} (hgd : o.guard = none) (s x : Operand)
    (ho : o.op = .call { callee := .builtin .append, args := #[s, x], argTypes := #[56, 56] })
    (base : Nat) (v : Value) (xs : List Int) (hs : a.eval s = v) (hown : OwnL w base v xs)
    (A : Option Addr) (c : Nat) (l : List Int) (hx : a.eval x = .slice A l.length c) (hA : LAt w A l) (h63 : xs.length + l.length ≤ 1000000000) (hbase : base ≤ w.heap.size)
    (h : ∀ v' w', OwnL w' base v' (xs ++ l) → w.grownBy w' v.ownBlock → wpList Try.prog ops Q rest (a.put o.dst v') w') : wpList Try.prog ops Q (o :: rest) a w := by
  refine wpList_plain hgd fun K hK => ?_
  obtain ⟨v', w', hrun, h2, h3, _⟩ := run_append_limbs w base o.type v _ _ hown A c l hA (by unfold maxLen; omega) (by omega) hbase
  unfold Oper.wp execOp
  simp only [ho, resolve, invoke, builtin, Sem.run_bind, Sem.run_pure, Result.andThen_ok, List.map_toArray, List.map_cons, List.map_nil, hs, hx, hrun]
  exact hK _ _ (h v' w' (by unfold OwnL; rw [List.length_append, List.map_append]; exact h2) h3)
/-- .. and where the new row lies. -/
theorem wpList_append_limbs2 {w : World} {ops : Array Oper} {rest : List Oper} {o : Oper} {a : Act} {Q : Exit → Act → World → Prop} (hgd : o.guard = none) (s x : Operand)
    (ho : o.op = .call { callee := .builtin .append, args := #[s, x], argTypes := #[56, 56] })
    (base : Nat) (v : Value) (xs : List Int) (hs : a.eval s = v) (hown : OwnL w base v xs)
    (A : Option Addr) (c : Nat) (l : List Int) (hx : a.eval x = .slice A l.length c) (hA : LAt w A l) (h63 : xs.length + l.length ≤ 1000000000) (hbase : base ≤ w.heap.size)
    (h : ∀ v' w', OwnL w' base v' (xs ++ l) → w.grownBy w' v.ownBlock → (v'.ownBlock = v.ownBlock ∨ v'.ownBlock = some w.heap.size) → wpList Try.prog ops Q rest (a.put o.dst v') w') : wpList Try.prog ops Q (o :: rest) a w := by
  refine wpList_plain hgd fun K hK => ?_
  obtain ⟨v', w', hrun, h2, h3, h5⟩ := run_append_limbs w base o.type v _ _ hown A c l hA (by unfold maxLen; omega) (by omega) hbase
  unfold Oper.wp execOp
  simp only [ho, resolve, invoke, builtin, Sem.run_bind, Sem.run_pure, Result.andThen_ok, List.map_toArray, List.map_cons, List.map_nil, hs, hx, hrun]
  exact hK _ _ (h v' w' (by unfold OwnL; rw [List.length_append, List.map_append]; exact h2) h3 h5)
/-- The result of a function that hands back limbs. -/
def SlOut (m : Nat) (w : World) (e : Ending) (w' : World) : Prop := Below w.heap.size w w' ∧ ∃ A c, e = .returned (.slice A (canN m).length c) ∧ (canN m).length ≤ c ∧ LAt w' A (canN m)
/-- The same, the limbs the call's own. -/
def SlOwn (m : Nat) (w : World) (e : Ending) (w' : World) : Prop := Below w.heap.size w w' ∧ ∃ A c, e = .returned (.slice A (canN m).length c) ∧ (canN m).length ≤ c ∧ OwnL w' w.heap.size (.slice A (canN m).length c) (canN m)
theorem SlOwn.out {m : Nat} {w : World} {e : Ending} {w' : World} (h : SlOwn m w e w') : SlOut m w e w' := by
  obtain ⟨hb, A, c, h1, h2, h3⟩ := h
  exact ⟨hb, A, c, h1, h2, h3.lat⟩
/-- The canonical integer z at a value: its sign, its limbs. -/
def IsC (w : World) (v : Value) (z : Int) : Prop := ∃ A c, v = .agg #[.bool (decide (z < 0)), .slice A (canN z.natAbs).length c] ∧ (canN z.natAbs).length ≤ c ∧ LAt w A (canN z.natAbs)
/-- Any integer at a value: n limbs at most. -/
def IsZ (w : World) (v : Value) (n : Nat) (z : Int) : Prop := ∃ neg A c l, v = .agg #[.bool neg, .slice A l.length c] ∧ l.length ≤ c ∧ Lim l ∧ l.length ≤ n ∧ LAt w A l ∧ z = sv neg (mv l)
theorem IsC.below {w w1 : World} {v : Value} {z : Int} (h : IsC w v z) (hb : Below w.heap.size w w1) : IsC w1 v z := by
  obtain ⟨A, c, h1, h2, h3⟩ := h
  exact ⟨A, c, h1, h2, h3.below hb⟩
theorem IsC.cl (v : Value) (z : Int) : Cl (fun w => IsC w v z) := fun _ _ h hb => h.below hb
theorem IsZ.below {w w1 : World} {v : Value} {n : Nat} {z : Int} (h : IsZ w v n z) (hb : Below w.heap.size w w1) : IsZ w1 v n z := by
  obtain ⟨neg, A, c, l, h1, h2, h3, h4, h5, h6⟩ := h
  exact ⟨neg, A, c, l, h1, h2, h3, h4, h5.below hb, h6⟩
theorem IsZ.cl (v : Value) (n : Nat) (z : Int) : Cl (fun w => IsZ w v n z) := fun _ _ h hb => h.below hb
theorem IsC.z {w : World} {v : Value} {z : Int} (h : IsC w v z) (n : Nat) (hn : (z.natAbs : Int) < PB n) : IsZ w v n z := by
  obtain ⟨A, c, h1, h2, h3⟩ := h
  refine ⟨_, A, c, _, h1, h2, canN_lim _, canN_len.2 hn, h3, ?_⟩
  rw [mv_canN]
  unfold sv
  split <;> rename_i hh <;> simp at hh <;> omega
/-- The result of a function that hands back an integer. -/
def ZOut (z : Int) (w : World) (e : Ending) (w' : World) : Prop := Below w.heap.size w w' ∧ ∃ v, e = .returned v ∧ IsC w' v z
/-- The same, its limbs the call's own. -/
def ZOwn (z : Int) (w : World) (e : Ending) (w' : World) : Prop := Below w.heap.size w w' ∧ ∃ A c, e = .returned (.agg #[.bool (decide (z < 0)), .slice A (canN z.natAbs).length c]) ∧ (canN z.natAbs).length ≤ c ∧ OwnL w' w.heap.size (.slice A (canN z.natAbs).length c) (canN z.natAbs)
theorem ZOwn.out {z : Int} {w : World} {e : Ending} {w' : World} (h : ZOwn z w e w') : ZOut z w e w' := by
  obtain ⟨hb, A, c, h1, h2, h3⟩ := h
  exact ⟨hb, _, h1, A, c, rfl, h2, h3.lat⟩
theorem sv_neg_mk (neg : Bool) (l : List Int) (hl : Lim l) : ((neg && decide (0 < (canN (mv l).toNat).length)) = decide (sv neg (mv l) < 0)) ∧ (sv neg (mv l)).natAbs = (mv l).toNat := by
  have h0 := mv_nonneg hl
  have h1 := @canN_len0 (mv l).toNat
  constructor
  · cases neg
    · simp [sv]; omega
    · rw [Bool.true_and]
      apply decide_eq_decide.2
      simp only [sv, if_true]
      constructor
      · intro h
        have : (mv l).toNat ≠ 0 := fun e => by have := h1.2 e; omega
        omega
      · intro h
        rcases Nat.eq_zero_or_pos (canN (mv l).toNat).length with e | e
        · have := h1.1 e; omega
        · exact e
  · unfold sv; split <;> omega
end Go.Proofs.Ytklkhnhieihfoaa
namespace Go.Proofs.Ytklkhnhieihfoaa
open Go Go.RowKit
set_option linter.unusedVariables false
theorem canN_len_le {l : List Int} (hL : Lim l) : (canN (mv l).toNat).length ≤ l.length := by
  rw [canN_len]
  have h1 := mv_lt hL
  have h0 := mv_nonneg hL
  omega
set_option maxHeartbeats 1000000 in
theorem mag_own (A : Option Addr) (l : List Int) (c : Nat) (w : World) (hL : Lim l) (hA : LAt w A l) (hc : l.length ≤ c) (hn : l.length ≤ 1000000) :
    Calls Try.prog 94 #[.slice A l.length c] w (SlOwn (mv l).toNat w) := by
  have HL := Lib.hid hL
  have HA := Lib.hid hA
  clear hL hA
  go_enter Try.func94, Try.ntmps94; (try simp only [List.append_eq, List.cons_append, List.nil_append])
  go_wp2_with fail
  go_loop [3] (fun vn => ∃ k : Nat, k ≤ l.length ∧ vn = .int .i64 k ∧ Hid (∀ j x, l[j]? = some x → k ≤ j → x = 0)) (fun vn => (intOf vn).toNat)
  case atStart => exact ⟨l.length, Nat.le_refl _, rfl, Lib.hid (fun j x hx hj => by have := (List.getElem?_eq_some_iff.1 hx).1; omega)⟩
  case round =>
    obtain ⟨k, hk, rfl, HZ⟩ := hrel
    have fin : Hid (∀ (hz : ∀ x, 0 < k → l[k - 1]? = some x → x ≠ 0), l.take k = canN (mv l).toNat) := Lib.hid (fun hz => canN_take HL.out hk HZ.out hz)
    rcases k with _ | j
    · have hfin := fin.out (fun x h _ => absurd h (by omega))
      rw [List.take_zero] at hfin
      have HF := Lib.hid hfin
      clear hfin fin
      go_wp2_with (at_builtin; go_must (refine wpList_append_limbs rfl _ _ rfl w.heap.size (.slice none 0 0) [] rfl (OwnL.nil _ _) A c [] rfl (LAt.nil _ _) (by simp) (Nat.le_refl _) ?_))
      intro v1 w1 hown hg1
      have hb1 : Below w.heap.size w w1 := (Below.refl _ _).grown hg1 (Nat.le_refl _) (by simp [Value.ownBlock])
      obtain ⟨A1, c1, rfl, hc1, _, hA1⟩ := lat_of_own hown
      have hA1 := Lib.hid hown
      clear hown hg1
      go_wp2_with fail
      go_ret
      exact ⟨hb1, A1, c1, by rw [← HF.out]; rfl, by rw [← HF.out]; exact hc1, by rw [← HF.out]; exact hA1.out⟩
    · obtain ⟨x, hx⟩ : ∃ x, l[j]? = some x := ⟨l[j], by simp⟩
      obtain ⟨g, o, rfl, hg, hcell⟩ := HA.out j x hx
      have HX := Lib.hid hx
      have i1 : (0 : Int) ≤ (j : Int) := by omega
      have i2 : (j : Int) < (l.length : Int) := by omega
      have i3 : (0 : Int) < (j : Int) + 1 := by omega
      have i4 : (l.length : Int) ≤ 1000000 := by omega
      clear hx
      by_cases h0 : x = 0
      · subst h0
        clear fin
        go_wp2_with fail
        go_round
        case rel =>
          refine ⟨j, by omega, rfl, Lib.hid (fun i y hy hj => ?_)⟩
          rcases Nat.lt_or_ge i (j + 1) with h | h
          · obtain rfl : i = j := by omega
            have := HX.out
            rw [hy] at this
            exact Option.some.inj this
          · exact HZ.out i y hy h
        case measure => simp [intOf]
      · have hne : (x == 0) = false := by simp [h0]
        have hfin := fin.out (fun y _ hy => by
          rw [Nat.add_sub_cancel, HX.out] at hy
          rw [← Option.some.inj hy]; exact h0)
        have HF := Lib.hid hfin
        have hlt : (l.take (j + 1)).length = j + 1 := by rw [List.length_take]; omega
        have HT := Lib.hid hlt
        have hAt := HA.out.take (j + 1)
        have HAt := Lib.hid hAt
        clear hfin fin hlt hAt h0
        go_wp2_with (at_builtin; go_must (refine wpList_append_limbs rfl _ _ rfl w.heap.size (.slice none 0 0) [] rfl (OwnL.nil _ _) (some ⟨g, o, none⟩) c (l.take (j + 1)) (by rw [HT.out]; rfl) HAt.out (by rw [HT.out, List.length_nil]; omega) (Nat.le_refl _) ?_))
        intro v1 w1 hown hg1
        have hb1 : Below w.heap.size w w1 := (Below.refl _ _).grown hg1 (Nat.le_refl _) (by simp [Value.ownBlock])
        obtain ⟨A1, c1, rfl, hc1, _, hA1⟩ := lat_of_own hown
        have HA1 := Lib.hid hown
        have HC1 := Lib.hid hc1
        clear hown hg1 hA1 hc1
        go_wp2_with fail
        go_ret
        exact ⟨hb1, A1, c1, by rw [← HF.out]; rfl, by rw [← HF.out]; exact HC1.out, by rw [← HF.out]; exact HA1.out⟩
theorem mag_any (A : Option Addr) (l : List Int) (c : Nat) (w : World) (hL : Lim l) (hA : LAt w A l) (hc : l.length ≤ c) (hn : l.length ≤ 1000000) :
    Calls Try.prog 94 #[.slice A l.length c] w (SlOut (mv l).toNat w) := (mag_own A l c w hL hA hc hn).mono fun _ _ h => h.out
set_option maxHeartbeats 1000000 in
theorem make1_own (neg : Bool) (A : Option Addr) (l : List Int) (c : Nat) (w : World) (hL : Lim l) (hA : LAt w A l) (hc : l.length ≤ c) (hn : l.length ≤ 1000000) :
    Calls Try.prog 95 #[.bool neg, .slice A l.length c] w (ZOwn (sv neg (mv l)) w) := by
  obtain ⟨hs1, hs2⟩ := sv_neg_mk neg l hL
  have hm := fun w hA => mag_own A l c w hL hA hc hn
  obtain ⟨Z, hZ⟩ : ∃ Z, Z = sv neg (mv l) := ⟨_, rfl⟩
  obtain ⟨m, hmm⟩ : ∃ m, m = (mv l).toNat := ⟨_, rfl⟩
  rw [← hZ, ← hmm] at hs1
  rw [← hZ, ← hmm] at hs2
  rw [← hmm] at hm
  rw [← hZ]
  have HM := Lib.hid hm
  have H1 := Lib.hid hs1
  have H2 := Lib.hid hs2
  have HA := Lib.hid hA
  clear hm hs1 hs2 hA hZ hmm
  cases neg
  · go_enter Try.func95, Try.ntmps95; (try simp only [List.append_eq, List.cons_append, List.nil_append])
    go_wp2_with fail
    -- own blocks: w.heap.size:2
    (go_at_call 94; refine (HM.out _ (HA.out.alloc _)).mono ?_; rintro e w1 ⟨hb_w1, A1, c1, rfl, hc1, hA1⟩; have hz_w1 := hb_w1.size; (try simp at hz_w1); (with_reducible apply cel2 (b := w.heap.size) hb_w1); (focus ((try simp) <;> omega)); (focus omega); (focus (go_simp; try exact rfl)); (focus (go_simp; try exact rfl)); (focus (intro o; go_simp)); intro cc cc fz hl)
    have HC := Lib.hid hc1
    have HA1 := Lib.hid hA1
    clear hc1 hA1
    go_wp2_with fail
    refine bodyPost_ret (v := .agg #[.bool false, .slice A1 (canN m).length c1]) (by simp only [results, Try.results95]; go_simp) rfl ⟨?_, ?_⟩
    · ((with_reducible (repeat (first | exact bR _ _ | refine bS ?_ ?_ _ | refine bA ?_ ?_ _ | refine bD ?_ | refine bT ?_ (by assumption) ?_ | refine bO (by assumption) ?_ ?_))) <;> (first | omega | (simp; done) | (simp <;> omega)))
    · have hh := H2.out
      have h1 := H1.out
      subst hh
      exact ⟨A1, c1, by rw [← h1]; rfl, HC.out, ((HA1.out.setCell (by simp) _).setCell (by simp) _).weak (by simp)⟩
  · go_enter Try.func95, Try.ntmps95; (try simp only [List.append_eq, List.cons_append, List.nil_append])
    go_wp2_with fail
    -- own blocks: w.heap.size:2
    (go_at_call 94; refine (HM.out _ (HA.out.alloc _)).mono ?_; rintro e w1 ⟨hb_w1, A1, c1, rfl, hc1, hA1⟩; have hz_w1 := hb_w1.size; (try simp at hz_w1); (with_reducible apply cel2 (b := w.heap.size) hb_w1); (focus ((try simp) <;> omega)); (focus omega); (focus (go_simp; try exact rfl)); (focus (go_simp; try exact rfl)); (focus (intro o; go_simp)); intro cc cc fz hl)
    have HC := Lib.hid hc1
    have HA1 := Lib.hid hA1
    clear hc1 hA1
    go_wp2_with fail
    refine bodyPost_ret (v := .agg #[.bool (decide (0 < (canN m).length)), .slice A1 (canN m).length c1]) (by simp only [results, Try.results95]; go_simp) rfl ⟨?_, ?_⟩
    · ((with_reducible (repeat (first | exact bR _ _ | refine bS ?_ ?_ _ | refine bA ?_ ?_ _ | refine bD ?_ | refine bT ?_ (by assumption) ?_ | refine bO (by assumption) ?_ ?_))) <;> (first | omega | (simp; done) | (simp <;> omega)))
    · have hh := H2.out
      have h1 := H1.out
      subst hh
      exact ⟨A1, c1, by rw [← h1]; rfl, HC.out, ((HA1.out.setCell (by simp) _).setCell (by simp) _).weak (by simp)⟩
theorem make1_any (neg : Bool) (A : Option Addr) (l : List Int) (c : Nat) (w : World) (hL : Lim l) (hA : LAt w A l) (hc : l.length ≤ c) (hn : l.length ≤ 1000000) :
    Calls Try.prog 95 #[.bool neg, .slice A l.length c] w (ZOut (sv neg (mv l)) w) := (make1_own neg A l c w hL hA hc hn).mono fun _ _ h => h.out
set_option maxHeartbeats 1000000 in
theorem neg_any (n : Nat) (v : Value) (z : Int) (w : World) (h : IsZ w v n z) (hn : n ≤ 1000000) :
    Calls Try.prog 46 #[v] w (ZOut (-z) w) := by
  obtain ⟨neg, A, c, l, rfl, hc, hL, hl, hA, rfl⟩ := h
  have hm := fun w hA => make1_any (!neg) A l c w hL hA hc (by omega)
  have e : sv (!neg) (mv l) = -sv neg (mv l) := by cases neg <;> simp [sv]
  rw [e] at hm
  have HM := Lib.hid hm
  have HA := Lib.hid hA
  clear hm hA e
  go_enter Try.func46, Try.ntmps46; (try simp only [List.append_eq, List.cons_append, List.nil_append])
  go_wp2_with fail
  -- own blocks: w.heap.size:2, w.heap.size + 1:2
  (go_at_call 95; refine (HM.out _ ((HA.out.alloc _).alloc _)).mono ?_; rintro e w1 ⟨hb_w1, v1, rfl, hv1⟩; have hz_w1 := hb_w1.size; (try simp at hz_w1); (with_reducible apply cel2 (b := w.heap.size) hb_w1); (focus ((try simp) <;> omega)); (focus omega); (focus (go_simp; try exact rfl)); (focus (go_simp; try exact rfl)); (focus (intro o; go_simp)); intro cc cc fz hl; (with_reducible apply cel2 (b := w.heap.size + 1) hb_w1); (focus ((try simp) <;> omega)); (focus omega); (focus (go_simp; try exact rfl)); (focus (go_simp; try exact rfl)); (focus (intro o; go_simp)); intro cc cc fz hl)
  obtain ⟨A1, c1, rfl, hc1, hA1⟩ := hv1
  have HC := Lib.hid hc1
  have HA1 := Lib.hid hA1
  clear hc1 hA1
  go_wp2_with fail
  refine bodyPost_ret (v := .agg #[.bool (decide (-sv neg (mv l) < 0)), .slice A1 (canN (-sv neg (mv l)).natAbs).length c1]) (by simp only [results, Try.results46]; go_simp) rfl ⟨?_, ?_⟩
  · ((with_reducible (repeat (first | exact bR _ _ | refine bS ?_ ?_ _ | refine bA ?_ ?_ _ | refine bD ?_ | refine bT ?_ (by assumption) ?_ | refine bO (by assumption) ?_ ?_))) <;> (first | omega | (simp; done) | (simp <;> omega)))
  · exact ⟨_, rfl, A1, c1, rfl, HC.out, HA1.out.set2 (by assumption) (by assumption) _ _⟩
end Go.Proofs.Ytklkhnhieihfoaa
namespace Go.Proofs.Ytklkhnhieihfoaa
open Go Go.RowKit
set_option linter.unusedVariables false
theorem lat_two {w : World} {b : Nat} {x y : Int} (hb : b < w.heap.size) (h0 : w.cell? ⟨b, 0, none⟩ = some (.int .u32 x)) (h1 : w.cell? ⟨b, 1, none⟩ = some (.int .u32 y)) : LAt w (some ⟨b, 0, none⟩) [x, y] := by
  intro k z hz
  refine ⟨b, 0, rfl, hb, ?_⟩
  rcases k with _ | _ | k
  · simp at hz; subst hz; exact h0
  · simp at hz; subst hz; exact h1
  · simp at hz
theorem lat_one {w : World} {b : Nat} {x : Int} (hb : b < w.heap.size) (h0 : w.cell? ⟨b, 0, none⟩ = some (.int .u32 x)) : LAt w (some ⟨b, 0, none⟩) [x] := by
  intro k z hz
  refine ⟨b, 0, rfl, hb, ?_⟩
  rcases k with _ | k
  · simp at hz; subst hz; exact h0
  · simp at hz
theorem make1_two (neg : Bool) (b : Nat) (x y z : Int) (w : World) (hb : b < w.heap.size) (h0 : w.cell? ⟨b, 0, none⟩ = some (.int .u32 x)) (h1 : w.cell? ⟨b, 1, none⟩ = some (.int .u32 y))
    (x0 : 0 ≤ x) (x1 : x < 4294967296) (y0 : 0 ≤ y) (y1 : y < 4294967296) (hz : z = sv neg (x + 4294967296 * y)) :
    Calls Try.prog 95 #[.bool neg, .slice (some ⟨b, 0, none⟩) 2 2] w (ZOut z w) := by
  have := make1_any neg (some ⟨b, 0, none⟩) [x, y] 2 w (Lim.cons x0 x1 (Lim.cons y0 y1 Lim.nil)) (lat_two hb h0 h1) (by simp) (by simp)
  rw [mv_two, ← hz] at this
  exact this
set_option maxHeartbeats 1000000 in
theorem of_any (n : Int) (w : World) (h1 : -9223372036854775808 ≤ n) (h2 : n ≤ 9223372036854775807) :
    Calls Try.prog 44 #[.int .i64 n] w (ZOut n w) := by
  rcases Int.lt_or_le n 0 with h | h
  · have e1 : IntKind.u64.wrap (-IntKind.u64.wrap n) = -n := by rw [IntKind.wrap_u64, IntKind.wrap_u64]; omega
    go_enter Try.func44, Try.ntmps44; (try simp only [List.append_eq, List.cons_append, List.nil_append])
    go_wp2_with fail
    clear e1
    -- own blocks: w.heap.size:2
    (go_at_call 95; refine (make1_two _ _ (-n % 4294967296) (-n / 4294967296) n _ (by simp) (by go_simp) (by go_simp) (by omega) (by omega) (by omega) (by omega) (by unfold sv; rw [if_pos rfl]; omega)).mono ?_; rintro e w1 ⟨hb_w1, v1, rfl, hv1⟩; have hz_w1 := hb_w1.size; (try simp at hz_w1); (with_reducible apply cel2 (b := w.heap.size) hb_w1); (focus ((try simp) <;> omega)); (focus omega); (focus (go_simp; try exact rfl)); (focus (go_simp; try exact rfl)); (focus (intro o; go_simp)); intro cc cc fz hl)
    obtain ⟨A1, c1, rfl, hc1, hA1⟩ := hv1
    have HC := Lib.hid hc1
    have HA1 := Lib.hid hA1
    clear hc1 hA1
    go_wp2_with fail
    refine bodyPost_ret (v := .agg #[.bool (decide (n < 0)), .slice A1 (canN n.natAbs).length c1]) (by simp only [results, Try.results44]; go_simp) rfl ⟨?_, ?_⟩
    · ((with_reducible (repeat (first | exact bR _ _ | refine bS ?_ ?_ _ | refine bA ?_ ?_ _ | refine bD ?_ | refine bT ?_ (by assumption) ?_ | refine bO (by assumption) ?_ ?_))) <;> (first | omega | (simp; done) | (simp <;> omega)))
    · exact ⟨_, rfl, A1, c1, rfl, HC.out, HA1.out.set2 (by assumption) (by assumption) _ _⟩
  · have hn : ¬ n < 0 := by omega
    go_enter Try.func44, Try.ntmps44; (try simp only [List.append_eq, List.cons_append, List.nil_append])
    go_wp2_with fail
    -- own blocks: w.heap.size:2
    (go_at_call 95; refine (make1_two _ _ (n % 4294967296) (n / 4294967296) n _ (by simp) (by go_simp) (by go_simp) (by omega) (by omega) (by omega) (by omega) (by unfold sv; rw [if_neg (by simp)]; omega)).mono ?_; rintro e w1 ⟨hb_w1, v1, rfl, hv1⟩; have hz_w1 := hb_w1.size; (try simp at hz_w1); (with_reducible apply cel2 (b := w.heap.size) hb_w1); (focus ((try simp) <;> omega)); (focus omega); (focus (go_simp; try exact rfl)); (focus (go_simp; try exact rfl)); (focus (intro o; go_simp)); intro cc cc fz hl)
    obtain ⟨A1, c1, rfl, hc1, hA1⟩ := hv1
    have HC := Lib.hid hc1
    have HA1 := Lib.hid hA1
    clear hc1 hA1
    go_wp2_with fail
    refine bodyPost_ret (v := .agg #[.bool (decide (n < 0)), .slice A1 (canN n.natAbs).length c1]) (by simp only [results, Try.results44]; go_simp) rfl ⟨?_, ?_⟩
    · ((with_reducible (repeat (first | exact bR _ _ | refine bS ?_ ?_ _ | refine bA ?_ ?_ _ | refine bD ?_ | refine bT ?_ (by assumption) ?_ | refine bO (by assumption) ?_ ?_))) <;> (first | omega | (simp; done) | (simp <;> omega)))
    · exact ⟨_, rfl, A1, c1, rfl, HC.out, HA1.out.set2 (by assumption) (by assumption) _ _⟩
def sgn (z : Int) : Int := if z = 0 then 0 else if z < 0 then -1 else 1
set_option maxHeartbeats 1000000 in
theorem sign_any (n : Nat) (v : Value) (z : Int) (w : World) (h : IsZ w v n z) (hn : n ≤ 1000000) :
    Calls Try.prog 100 #[v] w fun e w' => e = .returned (.int .i64 (sgn z)) ∧ Below w.heap.size w w' := by
  obtain ⟨neg, A, c, l, rfl, hc, hL, hl, hA, rfl⟩ := h
  have hm := fun w hA => mag_any A l c w hL hA hc (by omega)
  have hv0 := mv_nonneg hL
  have h00 := @canN_len0 (mv l).toNat
  have HM := Lib.hid hm
  have HA := Lib.hid hA
  obtain ⟨m, hmm⟩ : ∃ m, m = (mv l).toNat := ⟨_, rfl⟩
  rw [← hmm] at h00 hm
  have HM := Lib.hid hm
  by_cases h0 : (canN m).length = 0
  · have h1 : mv l = 0 := by have := h00.1 h0; omega
    have e : sgn (sv neg (mv l)) = 0 := by rw [h1]; cases neg <;> rfl
    rw [e]
    have e0 : (((canN m).length : Int) == 0) = true := by rw [h0]; rfl
    clear hm hA e h1 h0 h00 hmm hv0
    go_enter Try.func100, Try.ntmps100; (try simp only [List.append_eq, List.cons_append, List.nil_append])
    go_wp2_with fail
    -- own blocks: w.heap.size:2
    (go_at_call 94; refine (HM.out _ (HA.out.alloc _)).mono ?_; rintro e w1 ⟨hb_w1, A1, c1, rfl, hc1, hA1⟩; have hz_w1 := hb_w1.size; (try simp at hz_w1); (with_reducible apply cel2 (b := w.heap.size) hb_w1); (focus ((try simp) <;> omega)); (focus omega); (focus (go_simp; try exact rfl)); (focus (go_simp; try exact rfl)); (focus (intro o; go_simp)); intro cc cc fz hl)
    clear hc1 hA1
    go_wp2_with fail
    go_ret
    exact ⟨rfl, by ((with_reducible (repeat (first | exact bR _ _ | refine bS ?_ ?_ _ | refine bA ?_ ?_ _ | refine bD ?_ | refine bT ?_ (by assumption) ?_ | refine bO (by assumption) ?_ ?_))) <;> (first | omega | (simp; done) | (simp <;> omega)))⟩
  · have h1 : mv l ≠ 0 := fun e => h0 (h00.2 (by omega))
    have e : sgn (sv neg (mv l)) = if neg = true then -1 else 1 := by
      have hp : 0 < mv l := by omega
      cases neg
      · show sgn (mv l) = 1; unfold sgn; rw [if_neg (by omega), if_neg (by omega)]
      · show sgn (-(mv l)) = -1; unfold sgn; rw [if_neg (by omega), if_pos (by omega)]
    rw [e]
    have e0 : (((canN m).length : Int) == 0) = false := by rw [beq_eq_false_iff_ne]; omega
    clear hm hA e h1 h0 h00 hmm hv0
    cases neg
    all_goals
      go_enter Try.func100, Try.ntmps100; (try simp only [List.append_eq, List.cons_append, List.nil_append])
      go_wp2_with fail
      -- own blocks: w.heap.size:2
      (go_at_call 94; refine (HM.out _ (HA.out.alloc _)).mono ?_; rintro e w1 ⟨hb_w1, A1, c1, rfl, hc1, hA1⟩; have hz_w1 := hb_w1.size; (try simp at hz_w1); (with_reducible apply cel2 (b := w.heap.size) hb_w1); (focus ((try simp) <;> omega)); (focus omega); (focus (go_simp; try exact rfl)); (focus (go_simp; try exact rfl)); (focus (intro o; go_simp)); intro cc cc fz hl)
      clear hc1 hA1
      go_wp2_with fail
      go_ret
      exact ⟨rfl, by ((with_reducible (repeat (first | exact bR _ _ | refine bS ?_ ?_ _ | refine bA ?_ ?_ _ | refine bD ?_ | refine bT ?_ (by assumption) ?_ | refine bO (by assumption) ?_ ?_))) <;> (first | omega | (simp; done) | (simp <;> omega)))⟩
theorem canN_lt {x y : Nat} (h : (canN x).length < (canN y).length) : x < y := by
  rcases Nat.lt_or_ge x y with h1 | h1
  · exact h1
  · have h2 : (y : Int) < PB (canN x).length := by
      have h3 := (@canN_len x (canN x).length).1 (Nat.le_refl _)
      omega
    have := (@canN_len y (canN x).length).2 h2
    omega
theorem canN_inj {x y : Nat} (h : canN x = canN y) : x = y := by
  have h1 := mv_canN x
  rw [h, mv_canN] at h1
  omega
theorem mv_lt_of {l1 l2 : List Int} (h1 : Lim l1) (h2 : Lim l2) (hl : l1.length = l2.length) {j : Nat} {x y : Int} (hx : l1[j]? = some x) (hy : l2[j]? = some y) (hd : l1.drop (j + 1) = l2.drop (j + 1)) (hxy : x < y) : mv l1 < mv l2 := by
  have hj := (List.getElem?_eq_some_iff.1 hx).1
  have a1 := mv_split l1 j (by omega)
  have a2 := mv_split l2 j (by omega)
  have b1 := mv_drop_succ hx
  have b2 := mv_drop_succ hy
  have c1 := mv_lt (h1.take j)
  have c2 := mv_nonneg (h2.take j)
  rw [List.length_take, Nat.min_eq_left (by omega)] at c1
  rw [hd] at b1
  have hp := PB_pos j
  have : PB j * (mv (l1.drop j) + 1) ≤ PB j * mv (l2.drop j) := Int.mul_le_mul_of_nonneg_left (by omega) (by omega)
  rw [Int.mul_add] at this
  omega
def cmpI (a b : Int) : Int := if a < b then -1 else if b < a then 1 else 0
theorem cmpI_lt {a b : Int} (h : a < b) : cmpI a b = -1 := if_pos h
theorem cmpI_gt {a b : Int} (h : b < a) : cmpI a b = 1 := by unfold cmpI; rw [if_neg (by omega), if_pos h]
theorem cmpI_self (a : Int) : cmpI a a = 0 := by unfold cmpI; rw [if_neg (by omega), if_neg (by omega)]
set_option maxHeartbeats 1000000 in
theorem cmpmag_same (A B : Option Addr) (l1 l2 : List Int) (c d : Nat) (w : World) (h1 : Lim l1) (h2 : Lim l2) (hl : l1.length = l2.length) (hn : l1.length ≤ 1000000) (hA : LAt w A l1) (hB : LAt w B l2) :
    Calls Try.prog 97 #[.slice A l1.length c, .slice B l2.length d] w fun e w' => e = .returned (.int .i64 (cmpI (mv l1) (mv l2))) ∧ Below w.heap.size w w' := by
  obtain ⟨R, hR⟩ : ∃ R, R = cmpI (mv l1) (mv l2) := ⟨_, rfl⟩
  rw [← hR]
  have HR := Lib.hid hR
  have HA := Lib.hid hA
  have HB := Lib.hid hB
  have HLI := Lib.hid h1
  have HL2 := Lib.hid h2
  rw [← hl]
  have HL := Lib.hid hl
  clear hR hA hB h1 h2 hl
  go_enter Try.func97, Try.ntmps97; (try simp only [List.append_eq, List.cons_append, List.nil_append])
  go_wp2_with fail
  go_loopw [5] (fun vi wr => ∃ k : Nat, k ≤ l1.length ∧ vi = .int .i64 ((k : Int) - 1) ∧ Hid (l1.drop k = l2.drop k) ∧ Below w.heap.size w wr) (fun vi _ => (intOf vi + 1).toNat)
  case atStart => exact ⟨l1.length, Nat.le_refl _, rfl, Lib.hid (by rw [List.drop_length, HL.out, List.drop_length]), Below.refl _ _⟩
  case round =>
    obtain ⟨k, hk, rfl, HD, hbel⟩ := hrel
    rcases k with _ | j
    · have hfin : R = 0 := by
        have := HD.out
        rw [List.drop_zero, List.drop_zero] at this
        rw [HR.out, this]; exact cmpI_self _
      subst hfin
      go_wp2_with fail
      go_ret
      exact ⟨rfl, hbel⟩
    · obtain ⟨x, hx⟩ : ∃ x, l1[j]? = some x := ⟨l1[j], by simp⟩
      obtain ⟨y, hy⟩ : ∃ y, l2[j]? = some y := ⟨l2[j]'(by have := HL.out; omega), by simp⟩
      obtain ⟨g, o, rfl, hg, hc1⟩ := HA.out.below hbel j x hx
      obtain ⟨g', o', rfl, hg', hc2⟩ := HB.out.below hbel j y hy
      have HX := Lib.hid hx
      have HY := Lib.hid hy
      have HB1 := Lib.hid hbel
      have i1 : (0 : Int) ≤ (j : Int) := by omega
      have i2 : (j : Int) < (l1.length : Int) := by omega
      have i3 : (l1.length : Int) ≤ 1000000 := by omega
      have hz := hbel.size
      clear hx hy hbel
      by_cases hxy : x = y
      · subst hxy
        have b1 : (x != x) = false := by simp
        go_wp2_with fail
        refine wp_region_warm (Own wr.heap.size wr) (by kernel_rfl) (by kernel_rfl) (Own.refl (Nat.le_refl _)).drew ?_
        repeat (first | (refine wpWarm_step_off rfl (fun K hK => ?_); (go_simp; refine hK _ ?_; clear hK K)) | (apply wpWarm_step rfl; (focus (intro W' hS; have hcS := hS.cells.1; have hfS := hS.cells.2; go_simp; (first | done | exact rfl | exact ⟨rfl, hS⟩ | (go_simp; exact rfl)))); (intro K hK; go_simp; (try go_bits); refine hK _ ?_; clear hK K)) | (apply wpWarm_step_on rfl; (focus (intro W' hS; have hcS := hS.cells.1; have hfS := hS.cells.2; go_simp; (first | done | exact rfl | exact ⟨rfl, hS⟩ | (go_simp; exact rfl)))); (intro K hK; go_simp; (try go_bits); refine hK _ ?_; clear hK K)))
        refine wpWarm_nil ?_
        intro w4 hO
        go_wp2_with fail
        go_roundw
        case rel => exact ⟨j, by omega, rfl, Lib.hid (by rw [drop_consI HX.out, drop_consI HY.out, HD.out]), HB1.out.trans (hO.2.mono hz)⟩
        case measure => simp [intOf]
      · have b1 : (x != y) = true := by simp [hxy]
        have hlt : x < y → R = -1 := fun h => by rw [HR.out]; exact cmpI_lt (mv_lt_of HLI.out HL2.out HL.out HX.out HY.out HD.out h)
        have hgt : y < x → R = 1 := fun h => by rw [HR.out]; exact cmpI_gt (mv_lt_of HL2.out HLI.out HL.out.symm HY.out HX.out HD.out.symm h)
        have HLT := Lib.hid hlt
        have HGT := Lib.hid hgt
        have HNE := Lib.hid hxy
        clear hlt hgt hxy
        go_wp2_with fail
        refine wp_region_warm (Own wr.heap.size wr) (by kernel_rfl) (by kernel_rfl) (Own.refl (Nat.le_refl _)).drew ?_
        repeat (first | (refine wpWarm_step_off rfl (fun K hK => ?_); (go_simp; refine hK _ ?_; clear hK K)) | (apply wpWarm_step rfl; (focus (intro W' hS; have hcS := hS.cells.1; have hfS := hS.cells.2; go_simp; (first | done | exact rfl | exact ⟨rfl, hS⟩ | (go_simp; exact rfl)))); (intro K hK; go_simp; (try go_bits); refine hK _ ?_; clear hK K)) | (apply wpWarm_step_on rfl; (focus (intro W' hS; have hcS := hS.cells.1; have hfS := hS.cells.2; go_simp; (first | done | exact rfl | exact ⟨rfl, hS⟩ | (go_simp; exact rfl)))); (intro K hK; go_simp; (try go_bits); refine hK _ ?_; clear hK K)))
        refine wpWarm_nil ?_
        intro w4 hO
        have HB4 := Lib.hid (HB1.out.trans (hO.2.mono hz))
        have d1 : w4.cell? ⟨g, o + j, none⟩ = some (.int .u32 x) := by rw [hO.cells.1 g _ hg]; exact hc1
        have d2 : w4.cell? ⟨g', o' + j, none⟩ = some (.int .u32 y) := by rw [hO.cells.1 g' _ hg']; exact hc2
        have hg4 : g < w4.heap.size := Nat.lt_of_lt_of_le hg hO.1
        have hg4' : g' < w4.heap.size := Nat.lt_of_lt_of_le hg' hO.1
        have hz4 := HB4.out.size
        clear hc1 hc2 hO
        by_cases hlt : x < y
        · have hR := HLT.out hlt
          subst hR
          go_wp2_with fail
          refine wp_region_warm (Own w4.heap.size w4) (by kernel_rfl) (by kernel_rfl) (Own.refl (Nat.le_refl _)).drew ?_
          repeat (first | (refine wpWarm_step_off rfl (fun K hK => ?_); (go_simp; refine hK _ ?_; clear hK K)) | (apply wpWarm_step rfl; (focus (intro W' hS; have hcS := hS.cells.1; have hfS := hS.cells.2; go_simp; (first | done | exact rfl | exact ⟨rfl, hS⟩ | (go_simp; exact rfl)))); (intro K hK; go_simp; (try go_bits); refine hK _ ?_; clear hK K)) | (apply wpWarm_step_on rfl; (focus (intro W' hS; have hcS := hS.cells.1; have hfS := hS.cells.2; go_simp; (first | done | exact rfl | exact ⟨rfl, hS⟩ | (go_simp; exact rfl)))); (intro K hK; go_simp; (try go_bits); refine hK _ ?_; clear hK K)))
          refine wpWarm_nil ?_
          intro w5 hO
          go_wp2_with fail
          go_ret
          exact ⟨rfl, HB4.out.trans (hO.2.mono hz4)⟩
        · have hR := HGT.out (by have := HNE.out; omega)
          subst hR
          go_wp2_with fail
          refine wp_region_warm (Own w4.heap.size w4) (by kernel_rfl) (by kernel_rfl) (Own.refl (Nat.le_refl _)).drew ?_
          repeat (first | (refine wpWarm_step_off rfl (fun K hK => ?_); (go_simp; refine hK _ ?_; clear hK K)) | (apply wpWarm_step rfl; (focus (intro W' hS; have hcS := hS.cells.1; have hfS := hS.cells.2; go_simp; (first | done | exact rfl | exact ⟨rfl, hS⟩ | (go_simp; exact rfl)))); (intro K hK; go_simp; (try go_bits); refine hK _ ?_; clear hK K)) | (apply wpWarm_step_on rfl; (focus (intro W' hS; have hcS := hS.cells.1; have hfS := hS.cells.2; go_simp; (first | done | exact rfl | exact ⟨rfl, hS⟩ | (go_simp; exact rfl)))); (intro K hK; go_simp; (try go_bits); refine hK _ ?_; clear hK K)))
          refine wpWarm_nil ?_
          intro w5 hO
          go_wp2_with fail
          go_ret
          exact ⟨rfl, HB4.out.trans (hO.2.mono hz4)⟩
end Go.Proofs.Ytklkhnhieihfoaa
namespace Go.Proofs.Ytklkhnhieihfoaa
open Go Go.RowKit
set_option linter.unusedVariables false
set_option maxHeartbeats 1000000 in
theorem cmpmag_any (A B : Option Addr) (x y c d : Nat) (w : World) (hn : (canN x).length ≤ 1000000) (hn' : (canN y).length ≤ 1000000) (hA : LAt w A (canN x)) (hB : LAt w B (canN y)) :
    Calls Try.prog 97 #[.slice A (canN x).length c, .slice B (canN y).length d] w fun e w' => e = .returned (.int .i64 (cmpI x y)) ∧ Below w.heap.size w w' := by
  by_cases hl : (canN x).length = (canN y).length
  · have := cmpmag_same A B (canN x) (canN y) c d w (canN_lim _) (canN_lim _) hl hn hA hB
    rw [mv_canN, mv_canN] at this
    exact this
  · have hne : (((canN x).length : Int) != ((canN y).length : Int)) = true := by rw [bne_iff_ne]; omega
    clear hA hB
    rcases Nat.lt_or_ge (canN x).length (canN y).length with h | h
    · have hR : cmpI x y = -1 := cmpI_lt (by have := canN_lt h; omega)
      rw [hR]
      have h' : ((canN x).length : Int) < ((canN y).length : Int) := by omega
      clear hR hl
      go_enter Try.func97, Try.ntmps97; (try simp only [List.append_eq, List.cons_append, List.nil_append])
      go_wp2_with fail
      go_ret
      exact ⟨rfl, Below.refl _ _⟩
    · have hR : cmpI x y = 1 := cmpI_gt (by have := canN_lt (show (canN y).length < (canN x).length by omega); omega)
      rw [hR]
      have h' : ¬ ((canN x).length : Int) < ((canN y).length : Int) := by omega
      clear hR hl
      go_enter Try.func97, Try.ntmps97; (try simp only [List.append_eq, List.cons_append, List.nil_append])
      go_wp2_with fail
      go_ret
      exact ⟨rfl, Below.refl _ _⟩
theorem sgn_cmp {a b : Int} (h : sgn a < sgn b) : a < b := by
  unfold sgn at h
  split at h <;> split at h <;> (try split at h) <;> (try split at h) <;> omega
theorem cmp_pos {a b : Int} (h : sgn a = sgn b) : cmpI a b = if sgn a < 0 then -cmpI a.natAbs b.natAbs else cmpI a.natAbs b.natAbs := by
  have hc : (a < 0 ∧ b < 0) ∨ (a = 0 ∧ b = 0) ∨ (0 < a ∧ 0 < b) := by
    unfold sgn at h
    by_cases h1 : a = 0 <;> by_cases h2 : b = 0 <;> by_cases h3 : a < 0 <;> by_cases h4 : b < 0 <;> simp [h1, h2, h3, h4] at h <;> omega
  rcases hc with ⟨h1, h2⟩ | ⟨h1, h2⟩ | ⟨h1, h2⟩
  · have e : sgn a = -1 := by unfold sgn; rw [if_neg (by omega), if_pos h1]
    rw [e, if_pos (by omega)]
    unfold cmpI
    repeat' split
    all_goals omega
  · subst h1; subst h2; rfl
  · have e : sgn a = 1 := by unfold sgn; rw [if_neg (by omega), if_neg (by omega)]
    rw [e, if_neg (by omega)]
    unfold cmpI
    repeat' split
    all_goals omega
theorem cmpI_bd (a b : Int) : -1 ≤ cmpI a b ∧ cmpI a b ≤ 1 := by unfold cmpI; split <;> (try split) <;> omega
set_option maxHeartbeats 2000000 in
theorem cmp_any (n : Nat) (u v : Value) (a b : Int) (w : World) (ha : IsZ w u n a) (hb : IsZ w v n b) (hn : n ≤ 1000000) :
    Calls Try.prog 45 #[u, v] w fun e w' => e = .returned (.int .i64 (cmpI a b)) ∧ Below w.heap.size w w' := by
  have HA := Lib.hid ha
  have HB := Lib.hid hb
  obtain ⟨neg, A, c, l, rfl, hc, hL, hl, hAt, ea⟩ := ha
  obtain ⟨neg', A', c', l', rfl, hc', hL', hl', hAt', eb⟩ := hb
  have hsa := fun w' (h : Below w.heap.size w w') => sign_any n _ a w' (HA.out.below h) hn
  have hsb := fun w' (h : Below w.heap.size w w') => sign_any n _ b w' (HB.out.below h) hn
  have ma : (mv l).toNat = a.natAbs := by rw [ea]; exact (sv_neg_mk neg l hL).2.symm
  have mb : (mv l').toNat = b.natAbs := by rw [eb]; exact (sv_neg_mk neg' l' hL').2.symm
  have hma := fun w' (h : Below w.heap.size w w') => mag_any A l c w' hL (hAt.below h) hc (by omega)
  have hmb := fun w' (h : Below w.heap.size w w') => mag_any A' l' c' w' hL' (hAt'.below h) hc' (by omega)
  rw [ma] at hma
  rw [mb] at hmb
  have hla : (canN a.natAbs).length ≤ 1000000 := by rw [← ma]; have := canN_len_le hL; omega
  have hlb : (canN b.natAbs).length ≤ 1000000 := by rw [← mb]; have := canN_len_le hL'; omega
  have hcp := @cmp_pos a b
  have hlt := @sgn_cmp a b
  have hgt := @sgn_cmp b a
  obtain ⟨s, hs⟩ : ∃ s, s = sgn a := ⟨_, rfl⟩
  obtain ⟨t, ht⟩ : ∃ t, t = sgn b := ⟨_, rfl⟩
  rw [← hs] at hsa hcp hlt hgt
  rw [← ht] at hsb hcp hlt hgt
  obtain ⟨R, hR⟩ : ∃ R, R = cmpI a b := ⟨_, rfl⟩
  rw [← hR]
  rw [← hR] at hcp
  have hRl : a < b → R = -1 := fun h => by rw [hR]; exact cmpI_lt h
  have hRg : b < a → R = 1 := fun h => by rw [hR]; exact cmpI_gt h
  have HSA := Lib.hid hsa
  have HSB := Lib.hid hsb
  have HMA := Lib.hid hma
  have HMB := Lib.hid hmb
  have HLA := Lib.hid hla
  have HLB := Lib.hid hlb
  have HCP := Lib.hid hcp
  have HL := Lib.hid (fun h => hRl (hlt h))
  have HG := Lib.hid (fun h => hRg (hgt h))
  clear hsa hsb hma hmb hla hlb hcp hlt hgt hRl hRg hs ht hR ma mb ea eb hAt hAt' hL hL' HA HB
  rcases Int.lt_trichotomy s t with h | h | h
  · have hR := HL.out h
    subst hR
    go_enter Try.func45, Try.ntmps45; (try simp only [List.append_eq, List.cons_append, List.nil_append])
    go_wp2_with fail
    -- own blocks: w.heap.size:2, w.heap.size + 1:2
    have HB0 := Lib.hid (show Below w.heap.size w ((w.alloc (.cells #[.bool neg, .slice A l.length c] 58)).alloc (.cells #[.bool neg', .slice A' l'.length c'] 58)) by ((with_reducible (repeat (first | exact bR _ _ | refine bS ?_ ?_ _ | refine bA ?_ ?_ _ | refine bD ?_ | refine bT ?_ (by assumption) ?_ | refine bO (by assumption) ?_ ?_))) <;> (first | omega | (simp; done) | (simp <;> omega))))
    (refine pin_wp (N := _) (Nat.le_refl _) (fun w1 hb_w1 hz_w1 => ?_); (try simp at hz_w1); (with_reducible apply cel2 (b := w.heap.size) hb_w1); (focus ((try simp) <;> omega)); (focus omega); (focus (go_simp; try exact rfl)); (focus (go_simp; try exact rfl)); (focus (intro o; go_simp)); intro cc cc fz hl; (with_reducible apply cel2 (b := w.heap.size + 1) hb_w1); (focus ((try simp) <;> omega)); (focus omega); (focus (go_simp; try exact rfl)); (focus (go_simp; try exact rfl)); (focus (intro o; go_simp)); intro cc cc fz hl); refine wp_region_float w1.heap.size 6 (Nat.le_refl _) (fun _ => True) trivial Cl.tt (by kernel_rfl) (by simp) ?_
    have HB1 := Lib.hid (HB0.out.trans (hb_w1.mono (by simp <;> omega)))
    refine wpI_start [0, 1] ?_; (iterate 2 (first | (refine wpI_off rfl (by kernel_rfl) rfl (fun K hK => ?_); go_simp; refine hK _ ?_; clear hK K) | ((first | apply wpI_step rfl (by kernel_rfl) rfl | apply wpI_on rfl (by kernel_rfl) rfl); (focus (intro W' hS; have hcS := hS.cells.1; have hfS := hS.cells.2; go_simp; (first | done | exact rfl | exact ⟨rfl, Below.refl _ _⟩ | (go_at_call 100; exact (HSA.out _ (HB1.out.trans (hS.2.mono (by omega)))).mono (fun _ _ h => ⟨h.1, h.2⟩)) | (go_simp; first | done | exact rfl | exact ⟨rfl, Below.refl _ _⟩)))); intro K hK; go_simp; (try go_bits); refine hK _ ?_; clear hK K))); refine wpI_nil ?_
    refine wpI_start [2, 3] ?_; (iterate 2 (first | (refine wpI_off rfl (by kernel_rfl) rfl (fun K hK => ?_); go_simp; refine hK _ ?_; clear hK K) | ((first | apply wpI_step rfl (by kernel_rfl) rfl | apply wpI_on rfl (by kernel_rfl) rfl); (focus (intro W' hS; have hcS := hS.cells.1; have hfS := hS.cells.2; go_simp; (first | done | exact rfl | exact ⟨rfl, Below.refl _ _⟩ | (go_at_call 100; exact (HSB.out _ (HB1.out.trans (hS.2.mono (by omega)))).mono (fun _ _ h => ⟨h.1, h.2⟩)) | (go_simp; first | done | exact rfl | exact ⟨rfl, Below.refl _ _⟩)))); intro K hK; go_simp; (try go_bits); refine hK _ ?_; clear hK K))); refine wpI_nil ?_
    refine wpI_start [4, 5] ?_; (iterate 2 (first | (refine wpI_off rfl (by kernel_rfl) rfl (fun K hK => ?_); go_simp; refine hK _ ?_; clear hK K) | ((first | apply wpI_step rfl (by kernel_rfl) rfl | apply wpI_on rfl (by kernel_rfl) rfl); (focus (intro W' hS; have hcS := hS.cells.1; have hfS := hS.cells.2; go_simp; (first | done | exact rfl | exact ⟨rfl, Below.refl _ _⟩ | (go_simp; first | done | exact rfl | exact ⟨rfl, Below.refl _ _⟩)))); intro K hK; go_simp; (try go_bits); refine hK _ ?_; clear hK K))); refine wpI_nil ?_
    refine wpF_done (by kernel_rfl) ?_
    intro w2 hF_w2 hSG
    have hz_w2 := hSG.1.1
    have hb_w2 := hSG.1.2
    clear hSG
    (with_reducible apply cel2 (b := w.heap.size) hb_w2); (focus ((try simp) <;> omega)); (focus omega); (focus (go_simp; try exact rfl)); (focus (go_simp; try exact rfl)); (focus (intro o; go_simp)); intro cc cc fz hl; (with_reducible apply cel2 (b := w.heap.size + 1) hb_w2); (focus ((try simp) <;> omega)); (focus omega); (focus (go_simp; try exact rfl)); (focus (go_simp; try exact rfl)); (focus (intro o; go_simp)); intro cc cc fz hl
    (try simp only [List.drop_succ_cons, List.drop_zero])
    have HB2 := Lib.hid (HB1.out.trans (hb_w2.mono (by omega)))
    clear hb_w1 hb_w2
    go_wp2_with fail
    go_ret
    exact ⟨rfl, HB2.out⟩
  · subst h
    have hcp := HCP.out rfl
    obtain ⟨C, hC⟩ : ∃ C, C = cmpI a.natAbs b.natAbs := ⟨_, rfl⟩
    rw [← hC] at hcp
    have HC := Lib.hid hC
    obtain ⟨k1, k2⟩ := cmpI_bd a.natAbs b.natAbs
    rw [← hC] at k1 k2
    have HCP' := Lib.hid hcp
    have l1 : ¬ s < s := by omega
    clear hC hcp
    by_cases hs0 : s < 0
    · have hR := HCP'.out
      rw [if_pos hs0] at hR
      subst hR
      go_enter Try.func45, Try.ntmps45; (try simp only [List.append_eq, List.cons_append, List.nil_append])
      go_wp2_with fail
      -- own blocks: w.heap.size:2, w.heap.size + 1:2
      have HB0 := Lib.hid (show Below w.heap.size w ((w.alloc (.cells #[.bool neg, .slice A l.length c] 58)).alloc (.cells #[.bool neg', .slice A' l'.length c'] 58)) by ((with_reducible (repeat (first | exact bR _ _ | refine bS ?_ ?_ _ | refine bA ?_ ?_ _ | refine bD ?_ | refine bT ?_ (by assumption) ?_ | refine bO (by assumption) ?_ ?_))) <;> (first | omega | (simp; done) | (simp <;> omega))))
      (refine pin_wp (N := _) (Nat.le_refl _) (fun w1 hb_w1 hz_w1 => ?_); (try simp at hz_w1); (with_reducible apply cel2 (b := w.heap.size) hb_w1); (focus ((try simp) <;> omega)); (focus omega); (focus (go_simp; try exact rfl)); (focus (go_simp; try exact rfl)); (focus (intro o; go_simp)); intro cc cc fz hl; (with_reducible apply cel2 (b := w.heap.size + 1) hb_w1); (focus ((try simp) <;> omega)); (focus omega); (focus (go_simp; try exact rfl)); (focus (go_simp; try exact rfl)); (focus (intro o; go_simp)); intro cc cc fz hl); refine wp_region_float w1.heap.size 6 (Nat.le_refl _) (fun _ => True) trivial Cl.tt (by kernel_rfl) (by simp) ?_
      have HB1 := Lib.hid (HB0.out.trans (hb_w1.mono (by simp <;> omega)))
      refine wpI_start [0, 1] ?_; (iterate 2 (first | (refine wpI_off rfl (by kernel_rfl) rfl (fun K hK => ?_); go_simp; refine hK _ ?_; clear hK K) | ((first | apply wpI_step rfl (by kernel_rfl) rfl | apply wpI_on rfl (by kernel_rfl) rfl); (focus (intro W' hS; have hcS := hS.cells.1; have hfS := hS.cells.2; go_simp; (first | done | exact rfl | exact ⟨rfl, Below.refl _ _⟩ | (go_at_call 100; exact (HSA.out _ (HB1.out.trans (hS.2.mono (by omega)))).mono (fun _ _ h => ⟨h.1, h.2⟩)) | (go_simp; first | done | exact rfl | exact ⟨rfl, Below.refl _ _⟩)))); intro K hK; go_simp; (try go_bits); refine hK _ ?_; clear hK K))); refine wpI_nil ?_
      refine wpI_start [2, 3] ?_; (iterate 2 (first | (refine wpI_off rfl (by kernel_rfl) rfl (fun K hK => ?_); go_simp; refine hK _ ?_; clear hK K) | ((first | apply wpI_step rfl (by kernel_rfl) rfl | apply wpI_on rfl (by kernel_rfl) rfl); (focus (intro W' hS; have hcS := hS.cells.1; have hfS := hS.cells.2; go_simp; (first | done | exact rfl | exact ⟨rfl, Below.refl _ _⟩ | (go_at_call 100; exact (HSB.out _ (HB1.out.trans (hS.2.mono (by omega)))).mono (fun _ _ h => ⟨h.1, h.2⟩)) | (go_simp; first | done | exact rfl | exact ⟨rfl, Below.refl _ _⟩)))); intro K hK; go_simp; (try go_bits); refine hK _ ?_; clear hK K))); refine wpI_nil ?_
      refine wpI_start [4, 5] ?_; (iterate 2 (first | (refine wpI_off rfl (by kernel_rfl) rfl (fun K hK => ?_); go_simp; refine hK _ ?_; clear hK K) | ((first | apply wpI_step rfl (by kernel_rfl) rfl | apply wpI_on rfl (by kernel_rfl) rfl); (focus (intro W' hS; have hcS := hS.cells.1; have hfS := hS.cells.2; go_simp; (first | done | exact rfl | exact ⟨rfl, Below.refl _ _⟩ | (go_simp; first | done | exact rfl | exact ⟨rfl, Below.refl _ _⟩)))); intro K hK; go_simp; (try go_bits); refine hK _ ?_; clear hK K))); refine wpI_nil ?_
      refine wpF_done (by kernel_rfl) ?_
      intro w2 hF_w2 hSG
      have hz_w2 := hSG.1.1
      have hb_w2 := hSG.1.2
      clear hSG
      (with_reducible apply cel2 (b := w.heap.size) hb_w2); (focus ((try simp) <;> omega)); (focus omega); (focus (go_simp; try exact rfl)); (focus (go_simp; try exact rfl)); (focus (intro o; go_simp)); intro cc cc fz hl; (with_reducible apply cel2 (b := w.heap.size + 1) hb_w2); (focus ((try simp) <;> omega)); (focus omega); (focus (go_simp; try exact rfl)); (focus (go_simp; try exact rfl)); (focus (intro o; go_simp)); intro cc cc fz hl
      (try simp only [List.drop_succ_cons, List.drop_zero])
      have HB2 := Lib.hid (HB1.out.trans (hb_w2.mono (by omega)))
      clear hb_w1 hb_w2
      go_wp2_with fail
      (refine pin_wp (N := _) (Nat.le_refl _) (fun w3 hb_w3 hz_w3 => ?_); (try simp at hz_w3); (with_reducible apply cel2 (b := w.heap.size) hb_w3); (focus ((try simp) <;> omega)); (focus omega); (focus (go_simp; try exact rfl)); (focus (go_simp; try exact rfl)); (focus (intro o; go_simp)); intro cc cc fz hl; (with_reducible apply cel2 (b := w.heap.size + 1) hb_w3); (focus ((try simp) <;> omega)); (focus omega); (focus (go_simp; try exact rfl)); (focus (go_simp; try exact rfl)); (focus (intro o; go_simp)); intro cc cc fz hl); refine wp_region_float w3.heap.size 8 (Nat.le_refl _) (fun _ => True) trivial Cl.tt (by kernel_rfl) (by simp) ?_
      have HB3 := Lib.hid (HB2.out.trans (hb_w3.mono (by omega)))
      refine wpI_start [0, 1] ?_; (iterate 2 (first | (refine wpI_off rfl (by kernel_rfl) rfl (fun K hK => ?_); go_simp; refine hK _ ?_; clear hK K) | ((first | apply wpI_step rfl (by kernel_rfl) rfl | apply wpI_on rfl (by kernel_rfl) rfl); (focus (intro W' hS; have hcS := hS.cells.1; have hfS := hS.cells.2; go_simp; (first | done | exact rfl | exact ⟨rfl, Below.refl _ _⟩ | (go_simp; first | done | exact rfl | exact ⟨rfl, Below.refl _ _⟩)))); intro K hK; go_simp; (try go_bits); refine hK _ ?_; clear hK K))); refine wpI_nil ?_
      refine wpI_start [3, 4] ?_; (iterate 2 (first | (refine wpI_off rfl (by kernel_rfl) rfl (fun K hK => ?_); go_simp; refine hK _ ?_; clear hK K) | ((first | apply wpI_step rfl (by kernel_rfl) rfl | apply wpI_on rfl (by kernel_rfl) rfl); (focus (intro W' hS; have hcS := hS.cells.1; have hfS := hS.cells.2; go_simp; (first | done | exact rfl | exact ⟨rfl, Below.refl _ _⟩ | (go_simp; first | done | exact rfl | exact ⟨rfl, Below.refl _ _⟩)))); intro K hK; go_simp; (try go_bits); refine hK _ ?_; clear hK K))); refine wpI_nil ?_
      apply wpF_call (i := 2) rfl (by kernel_rfl) (by kernel_rfl); intro W hF hS; have hcS := hS.1.cells.1; have hfS := hS.1.cells.2; go_simp; (go_at_call 94; refine (HMA.out _ (HB3.out.trans (hS.1.2.mono (by omega)))).mono ?_; rintro e w4 ⟨hb_w4, A1, c1, rfl, hc1, hA1⟩; refine XPost.mk _ (fun W => LAt W A1 (canN a.natAbs)) hb_w4 (hA1) (LAt.cl _ _) ?_); clear hb_w4 hcS hfS hS hF
      intro K hK; go_simp; (try go_bits); refine hK _ ?_; clear hK K
      clear hA1 hc1
      apply wpF_call (i := 5) rfl (by kernel_rfl) (by kernel_rfl); intro W hF hS; have hcS := hS.1.cells.1; have hfS := hS.1.cells.2; go_simp; (go_at_call 94; refine (HMB.out _ (HB3.out.trans (hS.1.2.mono (by omega)))).mono ?_; rintro e w5 ⟨hb_w5, A2, c2, rfl, hc2, hA2⟩; refine XPost.mk _ (fun W => LAt W A2 (canN b.natAbs)) hb_w5 (hA2) (LAt.cl _ _) ?_); clear hb_w5 hcS hfS hS hF
      intro K hK; go_simp; (try go_bits); refine hK _ ?_; clear hK K
      clear hA2 hc2
      apply wpF_call (i := 6) rfl (by kernel_rfl) (by kernel_rfl); intro W hF hS; have hcS := hS.1.cells.1; have hfS := hS.1.cells.2; go_simp; (go_at_call 97; refine (cmpmag_any A1 A2 a.natAbs b.natAbs c1 c2 _ HLA.out HLB.out hF.1 hF.2).mono ?_; rintro e w6 ⟨rfl, hb_w6⟩; refine XPost.mk _ (fun _ => True) hb_w6 (trivial) (Cl.tt) ?_); clear hb_w6 hcS hfS hS hF
      intro K hK; go_simp; (try go_bits); refine hK _ ?_; clear hK K
      rw [← HC.out]
      refine wpI_start [7] ?_; (iterate 1 (first | (refine wpI_off rfl (by kernel_rfl) rfl (fun K hK => ?_); go_simp; refine hK _ ?_; clear hK K) | ((first | apply wpI_step rfl (by kernel_rfl) rfl | apply wpI_on rfl (by kernel_rfl) rfl); (focus (intro W' hS; have hcS := hS.cells.1; have hfS := hS.cells.2; go_simp; (first | done | exact rfl | exact ⟨rfl, Below.refl _ _⟩ | (go_simp; first | done | exact rfl | exact ⟨rfl, Below.refl _ _⟩)))); intro K hK; go_simp; (try go_bits); refine hK _ ?_; clear hK K))); refine wpI_nil ?_
      refine wpF_done (by kernel_rfl) ?_
      intro w7 hF_w7 hSG
      have hz_w7 := hSG.1.1
      have hb_w7 := hSG.1.2
      clear hSG
      (with_reducible apply cel2 (b := w.heap.size) hb_w7); (focus ((try simp) <;> omega)); (focus omega); (focus (go_simp; try exact rfl)); (focus (go_simp; try exact rfl)); (focus (intro o; go_simp)); intro cc cc fz hl; (with_reducible apply cel2 (b := w.heap.size + 1) hb_w7); (focus ((try simp) <;> omega)); (focus omega); (focus (go_simp; try exact rfl)); (focus (go_simp; try exact rfl)); (focus (intro o; go_simp)); intro cc cc fz hl
      (try simp only [List.drop_succ_cons, List.drop_zero])
      have HB7 := Lib.hid (HB3.out.trans (hb_w7.mono (by omega)))
      clear hb_w3 hb_w7 hF_w7
      go_wp2_with fail
      go_ret
      exact ⟨rfl, HB7.out⟩
    · have hR := HCP'.out
      rw [if_neg hs0] at hR
      subst hR
      go_enter Try.func45, Try.ntmps45; (try simp only [List.append_eq, List.cons_append, List.nil_append])
      go_wp2_with fail
      -- own blocks: w.heap.size:2, w.heap.size + 1:2
      have HB0 := Lib.hid (show Below w.heap.size w ((w.alloc (.cells #[.bool neg, .slice A l.length c] 58)).alloc (.cells #[.bool neg', .slice A' l'.length c'] 58)) by ((with_reducible (repeat (first | exact bR _ _ | refine bS ?_ ?_ _ | refine bA ?_ ?_ _ | refine bD ?_ | refine bT ?_ (by assumption) ?_ | refine bO (by assumption) ?_ ?_))) <;> (first | omega | (simp; done) | (simp <;> omega))))
      (refine pin_wp (N := _) (Nat.le_refl _) (fun w1 hb_w1 hz_w1 => ?_); (try simp at hz_w1); (with_reducible apply cel2 (b := w.heap.size) hb_w1); (focus ((try simp) <;> omega)); (focus omega); (focus (go_simp; try exact rfl)); (focus (go_simp; try exact rfl)); (focus (intro o; go_simp)); intro cc cc fz hl; (with_reducible apply cel2 (b := w.heap.size + 1) hb_w1); (focus ((try simp) <;> omega)); (focus omega); (focus (go_simp; try exact rfl)); (focus (go_simp; try exact rfl)); (focus (intro o; go_simp)); intro cc cc fz hl); refine wp_region_float w1.heap.size 6 (Nat.le_refl _) (fun _ => True) trivial Cl.tt (by kernel_rfl) (by simp) ?_
      have HB1 := Lib.hid (HB0.out.trans (hb_w1.mono (by simp <;> omega)))
      refine wpI_start [0, 1] ?_; (iterate 2 (first | (refine wpI_off rfl (by kernel_rfl) rfl (fun K hK => ?_); go_simp; refine hK _ ?_; clear hK K) | ((first | apply wpI_step rfl (by kernel_rfl) rfl | apply wpI_on rfl (by kernel_rfl) rfl); (focus (intro W' hS; have hcS := hS.cells.1; have hfS := hS.cells.2; go_simp; (first | done | exact rfl | exact ⟨rfl, Below.refl _ _⟩ | (go_at_call 100; exact (HSA.out _ (HB1.out.trans (hS.2.mono (by omega)))).mono (fun _ _ h => ⟨h.1, h.2⟩)) | (go_simp; first | done | exact rfl | exact ⟨rfl, Below.refl _ _⟩)))); intro K hK; go_simp; (try go_bits); refine hK _ ?_; clear hK K))); refine wpI_nil ?_
      refine wpI_start [2, 3] ?_; (iterate 2 (first | (refine wpI_off rfl (by kernel_rfl) rfl (fun K hK => ?_); go_simp; refine hK _ ?_; clear hK K) | ((first | apply wpI_step rfl (by kernel_rfl) rfl | apply wpI_on rfl (by kernel_rfl) rfl); (focus (intro W' hS; have hcS := hS.cells.1; have hfS := hS.cells.2; go_simp; (first | done | exact rfl | exact ⟨rfl, Below.refl _ _⟩ | (go_at_call 100; exact (HSB.out _ (HB1.out.trans (hS.2.mono (by omega)))).mono (fun _ _ h => ⟨h.1, h.2⟩)) | (go_simp; first | done | exact rfl | exact ⟨rfl, Below.refl _ _⟩)))); intro K hK; go_simp; (try go_bits); refine hK _ ?_; clear hK K))); refine wpI_nil ?_
      refine wpI_start [4, 5] ?_; (iterate 2 (first | (refine wpI_off rfl (by kernel_rfl) rfl (fun K hK => ?_); go_simp; refine hK _ ?_; clear hK K) | ((first | apply wpI_step rfl (by kernel_rfl) rfl | apply wpI_on rfl (by kernel_rfl) rfl); (focus (intro W' hS; have hcS := hS.cells.1; have hfS := hS.cells.2; go_simp; (first | done | exact rfl | exact ⟨rfl, Below.refl _ _⟩ | (go_simp; first | done | exact rfl | exact ⟨rfl, Below.refl _ _⟩)))); intro K hK; go_simp; (try go_bits); refine hK _ ?_; clear hK K))); refine wpI_nil ?_
      refine wpF_done (by kernel_rfl) ?_
      intro w2 hF_w2 hSG
      have hz_w2 := hSG.1.1
      have hb_w2 := hSG.1.2
      clear hSG
      (with_reducible apply cel2 (b := w.heap.size) hb_w2); (focus ((try simp) <;> omega)); (focus omega); (focus (go_simp; try exact rfl)); (focus (go_simp; try exact rfl)); (focus (intro o; go_simp)); intro cc cc fz hl; (with_reducible apply cel2 (b := w.heap.size + 1) hb_w2); (focus ((try simp) <;> omega)); (focus omega); (focus (go_simp; try exact rfl)); (focus (go_simp; try exact rfl)); (focus (intro o; go_simp)); intro cc cc fz hl
      (try simp only [List.drop_succ_cons, List.drop_zero])
      have HB2 := Lib.hid (HB1.out.trans (hb_w2.mono (by omega)))
      clear hb_w1 hb_w2
      go_wp2_with fail
      (refine pin_wp (N := _) (Nat.le_refl _) (fun w3 hb_w3 hz_w3 => ?_); (try simp at hz_w3); (with_reducible apply cel2 (b := w.heap.size) hb_w3); (focus ((try simp) <;> omega)); (focus omega); (focus (go_simp; try exact rfl)); (focus (go_simp; try exact rfl)); (focus (intro o; go_simp)); intro cc cc fz hl; (with_reducible apply cel2 (b := w.heap.size + 1) hb_w3); (focus ((try simp) <;> omega)); (focus omega); (focus (go_simp; try exact rfl)); (focus (go_simp; try exact rfl)); (focus (intro o; go_simp)); intro cc cc fz hl); refine wp_region_float w3.heap.size 8 (Nat.le_refl _) (fun _ => True) trivial Cl.tt (by kernel_rfl) (by simp) ?_
      have HB3 := Lib.hid (HB2.out.trans (hb_w3.mono (by omega)))
      refine wpI_start [0, 1] ?_; (iterate 2 (first | (refine wpI_off rfl (by kernel_rfl) rfl (fun K hK => ?_); go_simp; refine hK _ ?_; clear hK K) | ((first | apply wpI_step rfl (by kernel_rfl) rfl | apply wpI_on rfl (by kernel_rfl) rfl); (focus (intro W' hS; have hcS := hS.cells.1; have hfS := hS.cells.2; go_simp; (first | done | exact rfl | exact ⟨rfl, Below.refl _ _⟩ | (go_simp; first | done | exact rfl | exact ⟨rfl, Below.refl _ _⟩)))); intro K hK; go_simp; (try go_bits); refine hK _ ?_; clear hK K))); refine wpI_nil ?_
      refine wpI_start [3, 4] ?_; (iterate 2 (first | (refine wpI_off rfl (by kernel_rfl) rfl (fun K hK => ?_); go_simp; refine hK _ ?_; clear hK K) | ((first | apply wpI_step rfl (by kernel_rfl) rfl | apply wpI_on rfl (by kernel_rfl) rfl); (focus (intro W' hS; have hcS := hS.cells.1; have hfS := hS.cells.2; go_simp; (first | done | exact rfl | exact ⟨rfl, Below.refl _ _⟩ | (go_simp; first | done | exact rfl | exact ⟨rfl, Below.refl _ _⟩)))); intro K hK; go_simp; (try go_bits); refine hK _ ?_; clear hK K))); refine wpI_nil ?_
      apply wpF_call (i := 2) rfl (by kernel_rfl) (by kernel_rfl); intro W hF hS; have hcS := hS.1.cells.1; have hfS := hS.1.cells.2; go_simp; (go_at_call 94; refine (HMA.out _ (HB3.out.trans (hS.1.2.mono (by omega)))).mono ?_; rintro e w4 ⟨hb_w4, A1, c1, rfl, hc1, hA1⟩; refine XPost.mk _ (fun W => LAt W A1 (canN a.natAbs)) hb_w4 (hA1) (LAt.cl _ _) ?_); clear hb_w4 hcS hfS hS hF
      intro K hK; go_simp; (try go_bits); refine hK _ ?_; clear hK K
      clear hA1 hc1
      apply wpF_call (i := 5) rfl (by kernel_rfl) (by kernel_rfl); intro W hF hS; have hcS := hS.1.cells.1; have hfS := hS.1.cells.2; go_simp; (go_at_call 94; refine (HMB.out _ (HB3.out.trans (hS.1.2.mono (by omega)))).mono ?_; rintro e w5 ⟨hb_w5, A2, c2, rfl, hc2, hA2⟩; refine XPost.mk _ (fun W => LAt W A2 (canN b.natAbs)) hb_w5 (hA2) (LAt.cl _ _) ?_); clear hb_w5 hcS hfS hS hF
      intro K hK; go_simp; (try go_bits); refine hK _ ?_; clear hK K
      clear hA2 hc2
      apply wpF_call (i := 6) rfl (by kernel_rfl) (by kernel_rfl); intro W hF hS; have hcS := hS.1.cells.1; have hfS := hS.1.cells.2; go_simp; (go_at_call 97; refine (cmpmag_any A1 A2 a.natAbs b.natAbs c1 c2 _ HLA.out HLB.out hF.1 hF.2).mono ?_; rintro e w6 ⟨rfl, hb_w6⟩; refine XPost.mk _ (fun _ => True) hb_w6 (trivial) (Cl.tt) ?_); clear hb_w6 hcS hfS hS hF
      intro K hK; go_simp; (try go_bits); refine hK _ ?_; clear hK K
      rw [← HC.out]
      refine wpI_start [7] ?_; (iterate 1 (first | (refine wpI_off rfl (by kernel_rfl) rfl (fun K hK => ?_); go_simp; refine hK _ ?_; clear hK K) | ((first | apply wpI_step rfl (by kernel_rfl) rfl | apply wpI_on rfl (by kernel_rfl) rfl); (focus (intro W' hS; have hcS := hS.cells.1; have hfS := hS.cells.2; go_simp; (first | done | exact rfl | exact ⟨rfl, Below.refl _ _⟩ | (go_simp; first | done | exact rfl | exact ⟨rfl, Below.refl _ _⟩)))); intro K hK; go_simp; (try go_bits); refine hK _ ?_; clear hK K))); refine wpI_nil ?_
      refine wpF_done (by kernel_rfl) ?_
      intro w7 hF_w7 hSG
      have hz_w7 := hSG.1.1
      have hb_w7 := hSG.1.2
      clear hSG
      (with_reducible apply cel2 (b := w.heap.size) hb_w7); (focus ((try simp) <;> omega)); (focus omega); (focus (go_simp; try exact rfl)); (focus (go_simp; try exact rfl)); (focus (intro o; go_simp)); intro cc cc fz hl; (with_reducible apply cel2 (b := w.heap.size + 1) hb_w7); (focus ((try simp) <;> omega)); (focus omega); (focus (go_simp; try exact rfl)); (focus (go_simp; try exact rfl)); (focus (intro o; go_simp)); intro cc cc fz hl
      (try simp only [List.drop_succ_cons, List.drop_zero])
      have HB7 := Lib.hid (HB3.out.trans (hb_w7.mono (by omega)))
      clear hb_w3 hb_w7 hF_w7
      go_wp2_with fail
      go_ret
      exact ⟨rfl, HB7.out⟩
  · have hR := HG.out h
    subst hR
    have l1 : ¬ s < t := by omega
    go_enter Try.func45, Try.ntmps45; (try simp only [List.append_eq, List.cons_append, List.nil_append])
    go_wp2_with fail
    -- own blocks: w.heap.size:2, w.heap.size + 1:2
    have HB0 := Lib.hid (show Below w.heap.size w ((w.alloc (.cells #[.bool neg, .slice A l.length c] 58)).alloc (.cells #[.bool neg', .slice A' l'.length c'] 58)) by ((with_reducible (repeat (first | exact bR _ _ | refine bS ?_ ?_ _ | refine bA ?_ ?_ _ | refine bD ?_ | refine bT ?_ (by assumption) ?_ | refine bO (by assumption) ?_ ?_))) <;> (first | omega | (simp; done) | (simp <;> omega))))
    (refine pin_wp (N := _) (Nat.le_refl _) (fun w1 hb_w1 hz_w1 => ?_); (try simp at hz_w1); (with_reducible apply cel2 (b := w.heap.size) hb_w1); (focus ((try simp) <;> omega)); (focus omega); (focus (go_simp; try exact rfl)); (focus (go_simp; try exact rfl)); (focus (intro o; go_simp)); intro cc cc fz hl; (with_reducible apply cel2 (b := w.heap.size + 1) hb_w1); (focus ((try simp) <;> omega)); (focus omega); (focus (go_simp; try exact rfl)); (focus (go_simp; try exact rfl)); (focus (intro o; go_simp)); intro cc cc fz hl); refine wp_region_float w1.heap.size 6 (Nat.le_refl _) (fun _ => True) trivial Cl.tt (by kernel_rfl) (by simp) ?_
    have HB1 := Lib.hid (HB0.out.trans (hb_w1.mono (by simp <;> omega)))
    refine wpI_start [0, 1] ?_; (iterate 2 (first | (refine wpI_off rfl (by kernel_rfl) rfl (fun K hK => ?_); go_simp; refine hK _ ?_; clear hK K) | ((first | apply wpI_step rfl (by kernel_rfl) rfl | apply wpI_on rfl (by kernel_rfl) rfl); (focus (intro W' hS; have hcS := hS.cells.1; have hfS := hS.cells.2; go_simp; (first | done | exact rfl | exact ⟨rfl, Below.refl _ _⟩ | (go_at_call 100; exact (HSA.out _ (HB1.out.trans (hS.2.mono (by omega)))).mono (fun _ _ h => ⟨h.1, h.2⟩)) | (go_simp; first | done | exact rfl | exact ⟨rfl, Below.refl _ _⟩)))); intro K hK; go_simp; (try go_bits); refine hK _ ?_; clear hK K))); refine wpI_nil ?_
    refine wpI_start [2, 3] ?_; (iterate 2 (first | (refine wpI_off rfl (by kernel_rfl) rfl (fun K hK => ?_); go_simp; refine hK _ ?_; clear hK K) | ((first | apply wpI_step rfl (by kernel_rfl) rfl | apply wpI_on rfl (by kernel_rfl) rfl); (focus (intro W' hS; have hcS := hS.cells.1; have hfS := hS.cells.2; go_simp; (first | done | exact rfl | exact ⟨rfl, Below.refl _ _⟩ | (go_at_call 100; exact (HSB.out _ (HB1.out.trans (hS.2.mono (by omega)))).mono (fun _ _ h => ⟨h.1, h.2⟩)) | (go_simp; first | done | exact rfl | exact ⟨rfl, Below.refl _ _⟩)))); intro K hK; go_simp; (try go_bits); refine hK _ ?_; clear hK K))); refine wpI_nil ?_
    refine wpI_start [4, 5] ?_; (iterate 2 (first | (refine wpI_off rfl (by kernel_rfl) rfl (fun K hK => ?_); go_simp; refine hK _ ?_; clear hK K) | ((first | apply wpI_step rfl (by kernel_rfl) rfl | apply wpI_on rfl (by kernel_rfl) rfl); (focus (intro W' hS; have hcS := hS.cells.1; have hfS := hS.cells.2; go_simp; (first | done | exact rfl | exact ⟨rfl, Below.refl _ _⟩ | (go_simp; first | done | exact rfl | exact ⟨rfl, Below.refl _ _⟩)))); intro K hK; go_simp; (try go_bits); refine hK _ ?_; clear hK K))); refine wpI_nil ?_
    refine wpF_done (by kernel_rfl) ?_
    intro w2 hF_w2 hSG
    have hz_w2 := hSG.1.1
    have hb_w2 := hSG.1.2
    clear hSG
    (with_reducible apply cel2 (b := w.heap.size) hb_w2); (focus ((try simp) <;> omega)); (focus omega); (focus (go_simp; try exact rfl)); (focus (go_simp; try exact rfl)); (focus (intro o; go_simp)); intro cc cc fz hl; (with_reducible apply cel2 (b := w.heap.size + 1) hb_w2); (focus ((try simp) <;> omega)); (focus omega); (focus (go_simp; try exact rfl)); (focus (go_simp; try exact rfl)); (focus (intro o; go_simp)); intro cc cc fz hl
    (try simp only [List.drop_succ_cons, List.drop_zero])
    have HB2 := Lib.hid (HB1.out.trans (hb_w2.mono (by omega)))
    clear hb_w1 hb_w2
    go_wp2_with fail
    go_ret
    exact ⟨rfl, HB2.out⟩
end Go.Proofs.Ytklkhnhieihfoaa
namespace Go.Proofs.Ytklkhnhieihfoaa
open Go Go.RowKit
set_option linter.unusedVariables false
/-- The result of a function that hands back limbs worth m, K limbs at most. -/
def MOut (K : Nat) (m : Int) (w : World) (e : Ending) (w' : World) : Prop := Below w.heap.size w w' ∧ ∃ A c l, e = .returned (.slice A l.length c) ∧ l.length ≤ c ∧ Lim l ∧ l.length ≤ K ∧ mv l = m ∧ LAt w' A l
theorem mv_take_getD (l : List Int) (k : Nat) : mv (l.take (k + 1)) = mv (l.take k) + PB k * (l[k]?).getD 0 := by
  rcases Nat.lt_or_ge k l.length with h | h
  · rw [List.getElem?_eq_getElem h]; exact mv_take_succ (List.getElem?_eq_getElem h)
  · rw [List.getElem?_eq_none h, List.take_of_length_le h, List.take_of_length_le (by omega)]; simp
theorem add_step {a b out : List Int} {k : Nat} {cc x y s : Int} (hk : out.length = k) (h : mv out + PB k * cc = mv (a.take k) + mv (b.take k)) (hx : (a[k]?).getD 0 = x) (hy : (b[k]?).getD 0 = y) (hs : s = cc + x + y) :
    mv (out ++ [s % 4294967296]) + PB (k + 1) * (s / 4294967296) = mv (a.take (k + 1)) + mv (b.take (k + 1)) := by
  rw [mv_snoc, hk, PB_succ, mv_take_getD, mv_take_getD, hx, hy]
  have e : s = s % 4294967296 + 4294967296 * (s / 4294967296) := by omega
  have e2 : PB k * s = PB k * (s % 4294967296) + 4294967296 * PB k * (s / 4294967296) := by
    conv => lhs; rw [e]
    rw [Int.mul_add]
    grind
  have e3 : PB k * s = PB k * cc + PB k * x + PB k * y := by rw [hs]; grind
  omega
theorem getD_some {l : List Int} {k : Nat} {x : Int} (h : l[k]? = some x) : (l[k]?).getD 0 = x := by rw [h]; rfl
theorem getD_none {l : List Int} {k : Nat} (h : l.length ≤ k) : (l[k]?).getD 0 = 0 := by rw [List.getElem?_eq_none h]; rfl
set_option maxRecDepth 100000 in
set_option maxHeartbeats 2000000 in
theorem addmag_any (A B : Option Addr) (a b : List Int) (c d : Nat) (w : World) (ha : Lim a) (hb : Lim b) (hn : a.length ≤ 1000000) (hn' : b.length ≤ 1000000) (hA : LAt w A a) (hB : LAt w B b) :
    Calls Try.prog 96 #[.slice A a.length c, .slice B b.length d] w (MOut (max a.length b.length + 1) (mv a + mv b) w) := by
  obtain ⟨M, hM⟩ : ∃ M, M = max a.length b.length := ⟨_, rfl⟩
  rw [← hM]
  have m1 : a.length ≤ M := by omega
  have m2 : b.length ≤ M := by omega
  have m3 : M ≤ 1000000 := by omega
  have m4 : M ≤ a.length ∨ M ≤ b.length := by omega
  have HA := Lib.hid hA
  have HB := Lib.hid hB
  have HLA := Lib.hid ha
  have HLB := Lib.hid hb
  have M4 := Lib.hid m4
  clear hA hB ha hb hM m4
  go_enter Try.func96, Try.ntmps96; (try simp only [List.append_eq, List.cons_append, List.nil_append])
  go_wp2_with fail
  go_loopw [5, 6, 7] (fun v vc vi wr => ∃ (k : Nat) (cc : Int) (out : List Int), k ≤ M + 1 ∧ vi = .int .i64 k ∧ vc = .int .u64 cc ∧ 0 ≤ cc ∧ cc ≤ 1 ∧ (k ≤ M ∨ cc = 0) ∧ OwnL wr w.heap.size v out ∧ Hid (Lim out ∧ out.length = k ∧ mv out + PB k * cc = mv (a.take k) + mv (b.take k)) ∧ Below w.heap.size w wr) (fun _ _ vi _ => (M + 1 - (intOf vi).toNat))
  case atStart => exact ⟨0, 0, [], by omega, rfl, rfl, by omega, by omega, by omega, OwnL.nil _ _, Lib.hid ⟨Lim.nil, rfl, by simp [mv]⟩, Below.refl _ _⟩
  case round =>
    obtain ⟨k, cc, out, hk, rfl, rfl, c0, c1, hkc, hown, HO, hbel⟩ := hrel
    have i1 : (0 : Int) ≤ (k : Int) := by omega
    have i3 : (k : Int) ≤ 1000001 := by omega
    have hz := hbel.size
    have HBE := Lib.hid hbel
    have HOW := Lib.hid hown
    clear hbel hown
    by_cases hka : k < a.length
    · obtain ⟨x, hx⟩ : ∃ x, a[k]? = some x := ⟨a[k], by simp⟩
      obtain ⟨g, o, rfl, hg, hcg⟩ := HA.out.below HBE.out k x hx
      obtain ⟨x0, x1⟩ := HLA.out.get hx
      have Hx := Lib.hid hx
      have j1 : (k : Int) < (a.length : Int) := by omega
      clear hx
      by_cases hkb : k < b.length
      · obtain ⟨y, hx⟩ : ∃ x, b[k]? = some x := ⟨b[k], by simp⟩
        obtain ⟨f, p, rfl, hf, hcf⟩ := HB.out.below HBE.out k y hx
        obtain ⟨y0, y1⟩ := HLB.out.get hx
        have Hy := Lib.hid hx
        have j2 : (k : Int) < (b.length : Int) := by omega
        clear hx
        have HST := Lib.hid (add_step (s := cc + x + y) HO.out.2.1 HO.out.2.2 (getD_some Hx.out) (getD_some Hy.out) (by omega))
        have q1 : 0 ≤ cc + x := by omega
        have q2 : cc + x < 18446744073709551616 := by omega
        have q3 : 0 ≤ cc + x + y := by omega
        have q4 : cc + x + y < 18446744073709551616 := by omega
        have hol : out.length ≤ 1000001 := by have := HO.out.2.1; omega
        go_wp2_with (at_builtin; go_must (refine wpList_append_limbs rfl _ _ rfl w.heap.size _ out rfl (HOW.out.alloc _) (some ⟨wr.heap.size, 0, none⟩) 1 [(cc + x + y) % 4294967296] rfl (lat_one (by simp) (by go_simp)) (by simp; omega) (by simp; omega) ?_))
        intro v1 w1 hown1 hg1
        have HB1 := Lib.hid ((HBE.out.alloc hz _).grown hg1 (by simp; omega) HOW.out.fresh)
        have HO1 := Lib.hid hown1
        clear hg1 hown1
        go_wp2_with fail
        go_roundw
        case rel => exact ⟨k + 1, (cc + x + y) / 4294967296, out ++ [(cc + x + y) % 4294967296], by omega, by go_num, rfl, by omega, by omega, by omega, HO1.out, Lib.hid ⟨HO.out.1.snoc (by omega) (by omega), by rw [List.length_append, HO.out.2.1]; rfl, HST.out⟩, HB1.out⟩
        case measure => simp [intOf]; omega
      · have j2 : ¬ (k : Int) < (b.length : Int) := by omega
        have HST := Lib.hid (add_step (s := cc + x) HO.out.2.1 HO.out.2.2 (getD_some Hx.out) (getD_none (by omega)) (by omega))
        have q1 : 0 ≤ cc + x := by omega
        have q2 : cc + x < 18446744073709551616 := by omega
        have hol : out.length ≤ 1000001 := by have := HO.out.2.1; omega
        go_wp2_with (at_builtin; go_must (refine wpList_append_limbs rfl _ _ rfl w.heap.size _ out rfl (HOW.out.alloc _) (some ⟨wr.heap.size, 0, none⟩) 1 [(cc + x) % 4294967296] rfl (lat_one (by simp) (by go_simp)) (by simp; omega) (by simp; omega) ?_))
        intro v1 w1 hown1 hg1
        have HB1 := Lib.hid ((HBE.out.alloc hz _).grown hg1 (by simp; omega) HOW.out.fresh)
        have HO1 := Lib.hid hown1
        clear hg1 hown1
        go_wp2_with fail
        go_roundw
        case rel => exact ⟨k + 1, (cc + x) / 4294967296, out ++ [(cc + x) % 4294967296], by omega, by go_num, rfl, by omega, by omega, by omega, HO1.out, Lib.hid ⟨HO.out.1.snoc (by omega) (by omega), by rw [List.length_append, HO.out.2.1]; rfl, HST.out⟩, HB1.out⟩
        case measure => simp [intOf]; omega
    · have j1 : ¬ (k : Int) < (a.length : Int) := by omega
      by_cases hkb : k < b.length
      · obtain ⟨y, hx⟩ : ∃ x, b[k]? = some x := ⟨b[k], by simp⟩
        obtain ⟨f, p, rfl, hf, hcf⟩ := HB.out.below HBE.out k y hx
        obtain ⟨y0, y1⟩ := HLB.out.get hx
        have Hy := Lib.hid hx
        have j2 : (k : Int) < (b.length : Int) := by omega
        clear hx
        have HST := Lib.hid (add_step (s := cc + y) HO.out.2.1 HO.out.2.2 (getD_none (by omega)) (getD_some Hy.out) (by omega))
        have q3 : 0 ≤ cc + y := by omega
        have q4 : cc + y < 18446744073709551616 := by omega
        have hol : out.length ≤ 1000001 := by have := HO.out.2.1; omega
        go_wp2_with (at_builtin; go_must (refine wpList_append_limbs rfl _ _ rfl w.heap.size _ out rfl (HOW.out.alloc _) (some ⟨wr.heap.size, 0, none⟩) 1 [(cc + y) % 4294967296] rfl (lat_one (by simp) (by go_simp)) (by simp; omega) (by simp; omega) ?_))
        intro v1 w1 hown1 hg1
        have HB1 := Lib.hid ((HBE.out.alloc hz _).grown hg1 (by simp; omega) HOW.out.fresh)
        have HO1 := Lib.hid hown1
        clear hg1 hown1
        go_wp2_with fail
        go_roundw
        case rel => exact ⟨k + 1, (cc + y) / 4294967296, out ++ [(cc + y) % 4294967296], by omega, by go_num, rfl, by omega, by omega, by omega, HO1.out, Lib.hid ⟨HO.out.1.snoc (by omega) (by omega), by rw [List.length_append, HO.out.2.1]; rfl, HST.out⟩, HB1.out⟩
        case measure => simp [intOf]; omega
      · have j2 : ¬ (k : Int) < (b.length : Int) := by omega
        by_cases hcc : cc = 0
        · subst hcc
          have HF := Lib.hid (show mv out = mv a + mv b by
            have h := HO.out.2.2
            rw [List.take_of_length_le (by omega), List.take_of_length_le (by omega)] at h
            omega)
          have hol : out.length ≤ M + 1 := by have := HO.out.2.1; omega
          obtain ⟨A1, c1, rfl, hc1, _, hA1⟩ := lat_of_own HOW.out
          have HA1 := Lib.hid hA1
          clear hA1
          go_wp2_with fail
          go_ret
          exact ⟨HBE.out, A1, c1, out, rfl, hc1, HO.out.1, hol, HF.out, HA1.out⟩
        · obtain rfl : cc = 1 := by omega
          have HST := Lib.hid (add_step (s := 1) HO.out.2.1 HO.out.2.2 (getD_none (by omega)) (getD_none (by omega)) (by omega))
          have hol : out.length ≤ 1000001 := by have := HO.out.2.1; omega
          go_wp2_with (at_builtin; go_must (refine wpList_append_limbs rfl _ _ rfl w.heap.size _ out rfl (HOW.out.alloc _) (some ⟨wr.heap.size, 0, none⟩) 1 [(1) % 4294967296] rfl (lat_one (by simp) (by go_simp)) (by simp; omega) (by simp; omega) ?_))
          intro v1 w1 hown1 hg1
          have HB1 := Lib.hid ((HBE.out.alloc hz _).grown hg1 (by simp; omega) HOW.out.fresh)
          have HO1 := Lib.hid hown1
          clear hg1 hown1
          go_wp2_with fail
          go_roundw
          case rel => exact ⟨k + 1, (1) / 4294967296, out ++ [(1) % 4294967296], by omega, by go_num, rfl, by omega, by omega, by omega, HO1.out, Lib.hid ⟨HO.out.1.snoc (by omega) (by omega), by rw [List.length_append, HO.out.2.1]; rfl, HST.out⟩, HB1.out⟩
          case measure => simp [intOf]; omega
end Go.Proofs.Ytklkhnhieihfoaa
