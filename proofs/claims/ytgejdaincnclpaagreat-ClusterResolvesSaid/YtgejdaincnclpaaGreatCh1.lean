/- Merged texts: Warm Vec VecB VecC LiftA LiftW VecR Draw SafeW SupA VecE RsA Big BigW BigM BigO BigC BigA BigB BigMul (what no proof of the claim needs is left out). -/
import Derived.StillTail
import Derived.StillTactics
import Derived.Below
import Derived.Test.YtgejdaincnclpaaGreatProg
import Derived.WalkKit
import Derived.WalkSpells
import Derived.WalkLawsBesides
import Derived.Outline
import Derived.Laws.Rows
import Derived.Deep.RegionHeld3
import Derived.Test.YtgejdaincnclpaaGreatShelf
import Derived.Deep.LoopGhost
import Derived.Lib.Hide
import Derived.IntWalk
import Derived.Maps.AppendAt
import Derived.Deep.AppendLies
import Derived.Deep.OwnRows
namespace Go.Proofs.YtgejdaincnclpaaGreat
open Go Go.RowKit
section
open Go Go.RowKit
theorem zA {α : Type} {l : List α} {i : Nat} {o : Option α} (h : l[i]? = o) : l.toArray[i]? = o := List.getElem?_toArray.trans h
theorem zB {α : Type} {a : α} {l : List α} : (a :: l)[0]? = some a := List.getElem?_cons_zero
theorem zC {α : Type} {a : α} {l : List α} {i : Nat} {o : Option α} (h : l[i]? = o) : (a :: l)[i + 1]? = o := List.getElem?_cons_succ.trans h
theorem hQ0 {p : Prop} (h : p) : RowKit.Hid p := Lib.hid h
theorem bB {v : Value} (w : World) : v = v ∧ Below w.heap.size w w := ⟨rfl, Below.refl _ _⟩
end
section
variable {P : Program} {ops : Array Oper} {md : Region.Mode} {S : World → Prop}
def givesUpon (P : Program) (S : World → Prop) (v : Value) : Result Next → Prop
  | .ok (.value u) w' => u = v ∧ S w'
  | .ok .skip w' => v = undef ∧ S w'
  | .ok (.enter f args) w' => Calls P f args w' (fun e w'' => e = .returned v ∧ S w'')
  | _ => False
theorem givesUpon_value (v u : Value) (w : World) : givesUpon P S v (.ok (.value u) w) = (u = v ∧ S w) := rfl
theorem givesUpon_skip (v : Value) (w : World) : givesUpon P S v (.ok .skip w) = (v = undef ∧ S w) := rfl
theorem givesUpon_enter (v : Value) (f : FuncId) (args : Array Value) (w : World) : givesUpon P S v (.ok (.enter f args) w) = Calls P f args w (fun e w'' => e = .returned v ∧ S w'') := rfl
def gives (P : Program) (S : World → Prop) (o : Oper) (a : Act) (v : Value) : Prop := ∀ w, S w → givesUpon P S v ((execOp a.eval o).run P w)
def YieldsIn (P : Program) (ops : Array Oper) (S : World → Prop) (o : Oper) (v : Value) (a : Act) : Prop :=
  (Region.wanted o (yielded ops a.tmps) = true ∧ gives P S o a v) ∨ (Region.wanted o (yielded ops a.tmps) = false ∧ v = undef)
theorem YieldsIn.of_same {o : Oper} {v : Value} {a a' : Act} (hy : YieldsIn P ops S o v a) (he : execOp a'.eval o = execOp a.eval o)
  (hw : Region.wanted o (yielded ops a'.tmps) = Region.wanted o (yielded ops a.tmps)) : YieldsIn P ops S o v a' := by
 unfold YieldsIn gives at *
 rw [he, hw]
 exact hy
def wmOp (P : Program) (ops : Array Oper) (S : World → Prop) (i : Nat) (K : Act → Prop) (a : Act) : Prop :=
  match ops[i]? with
  | none => K a
  | some o => ∃ v, YieldsIn P ops S o v a ∧ K (a.put o.dst v)
def wpWarm (P : Program) (ops : Array Oper) (S : World → Prop) (Q : Act → Prop) : List Oper → Act → Prop
  | [], a => Q a
  | o :: rest, a => ∃ v, YieldsIn P ops S o v a ∧ wpWarm P ops S Q rest (a.put o.dst v)
theorem wpWarm_nil {Q : Act → Prop} {a : Act} (h : Q a) : wpWarm P ops S Q [] a := h
theorem wpWarm_plain {Q : Act → Prop} {a : Act} {o : Oper} {rest : List Oper} (hg : o.guard = none) (v : Value) (h : gives P S o a v)
  (hk : wpWarm P ops S Q rest (a.put o.dst v)) : wpWarm P ops S Q (o :: rest) a := ⟨v, .inl ⟨by simp [Region.wanted, hg], h⟩, hk⟩
theorem wpWarm_wanted {Q : Act → Prop} {a : Act} {o : Oper} {rest : List Oper} (hg : Region.wanted o (yielded ops a.tmps) = true) (v : Value) (h : gives P S o a v)
  (hk : wpWarm P ops S Q rest (a.put o.dst v)) : wpWarm P ops S Q (o :: rest) a := ⟨v, .inl ⟨hg, h⟩, hk⟩
theorem wpWarm_skip {Q : Act → Prop} {a : Act} {o : Oper} {rest : List Oper} (hg : Region.wanted o (yielded ops a.tmps) = false)
  (hk : wpWarm P ops S Q rest (a.put o.dst undef)) : wpWarm P ops S Q (o :: rest) a := ⟨undef, .inr ⟨hg, rfl⟩, hk⟩
theorem wpWarm_step {Q : Act → Prop} {a : Act} {o : Oper} {rest : List Oper} (hg : o.guard = none) (v : Value) (h : gives P S o a v)
  (hk : ∀ K : Act → Prop, (∀ a, wpWarm P ops S Q rest a → K a) → K (a.put o.dst v)) : wpWarm P ops S Q (o :: rest) a := wpWarm_plain hg v h (hk _ fun _ h => h)
theorem wpWarm_step_on {Q : Act → Prop} {a : Act} {o : Oper} {rest : List Oper} (hg : Region.wanted o (yielded ops a.tmps) = true) (v : Value) (h : gives P S o a v)
  (hk : ∀ K : Act → Prop, (∀ a, wpWarm P ops S Q rest a → K a) → K (a.put o.dst v)) : wpWarm P ops S Q (o :: rest) a := wpWarm_wanted hg v h (hk _ fun _ h => h)
theorem wpWarm_step_off {Q : Act → Prop} {a : Act} {o : Oper} {rest : List Oper} (hg : Region.wanted o (yielded ops a.tmps) = false)
  (hk : ∀ K : Act → Prop, (∀ a, wpWarm P ops S Q rest a → K a) → K (a.put o.dst undef)) : wpWarm P ops S Q (o :: rest) a := wpWarm_skip hg (hk _ fun _ h => h)
theorem wmOp_mono {i : Nat} {a : Act} {K K' : Act → Prop} (h : ∀ a, K a → K' a) (hh : wmOp P ops S i K a) : wmOp P ops S i K' a := by
 unfold wmOp at *
 split
 · exact h _ (by simpa [*] using hh)
 · rename_i o ho
   simp only [ho] at hh
   obtain ⟨v, hy, hk⟩ := hh
   exact ⟨v, hy, h _ hk⟩
theorem YieldsIn.wmOp {i : Nat} {o : Oper} {v : Value} {a : Act} (hi : ops[i]? = some o) (hy : YieldsIn P ops S o v a) {K : Act → Prop} (h : K (a.put o.dst v)) : wmOp P ops S i K a := by
 unfold Proofs.YtgejdaincnclpaaGreat.wmOp
 simp only [hi]
 exact ⟨v, hy, h⟩
theorem wmOp_put {j : Nat} {oi oj : Oper} {v : Value} (hj : ops[j]? = some oj) (hap : oi.apart ops oj = true)
  (hsi : ∀ cs b, oi.op ≠ .select cs b) (hsj : ∀ cs b, oj.op ≠ .select cs b) {K : Act → Prop} {a : Act}
  (hy : YieldsIn P ops S oi v a) (h : wmOp P ops S j K (a.put oi.dst v)) :
  wmOp P ops S j (fun a' => YieldsIn P ops S oi v a' ∧ K (a'.put oi.dst v)) a := by
 obtain ⟨h1, h2, h3⟩ := Oper.apart_spec hap
 have keep : ∀ (a : Act), YieldsIn P ops S oi v a → ∀ u, YieldsIn P ops S oi v (a.put oj.dst u) := fun a hy u =>
  hy.of_same (execOp_put oi hsi a oj.dst u h3) (wanted_put oi a oj.dst u h3)
 unfold wmOp at *
 simp only [hj] at *
 obtain ⟨u, hu, hk⟩ := h
 refine ⟨u, hu.of_same (execOp_put oj hsj a oi.dst v h1).symm (wanted_put oj a oi.dst v h1).symm, keep a hy u, ?_⟩
 rw [← Act.put_comm a v u h2]
 exact hk
def wpAnyM (P : Program) (md : Region.Mode) (ops : Array Oper) (S : World → Prop) (n : Nat) (L : Array Bool → Act → Prop) : Nat → Array Bool → Act → Prop
  | 0, listed, a => L listed a
  | f + 1, listed, a =>
    Region.ready md ops listed ≠ [] ∧ ∀ i ∈ Region.ready md ops listed, i < n ∧ wmOp P ops S i (wpAnyM P md ops S n L f (listed.setIfInBounds i true)) a
theorem wpOp_of_wmOp {i : Nat} {a : Act} {w : World} {K : Act → Prop} {K' : Act → World → Prop} {Q' : Exit → Act → World → Prop} (hS : S w) (h : ∀ a w, S w → K a → K' a w) (hh : wmOp P ops S i K a) : wpOp P ops Q' i K' a w := by
 unfold wmOp at hh
 unfold wpOp
 split
 · rename_i ho; simp only [ho] at hh; exact h _ _ hS hh
 · rename_i o ho
   simp only [ho] at hh
   obtain ⟨v, hy, hk⟩ := hh
   rcases hy with ⟨hw, hg⟩ | ⟨hw, rfl⟩
   · simp only [hw, if_true]
     refine .inl ?_
     have hg := hg w hS
     unfold Oper.wp
     generalize (execOp a.eval o).run P w = r at *
     cases r with
     | ok nx w' =>
      cases nx <;> simp only [givesUpon, Oper.upon] at hg ⊢
      case value u => obtain ⟨rfl, h2⟩ := hg; exact h _ _ h2 hk
      case skip => obtain ⟨rfl, h2⟩ := hg; exact h _ _ h2 hk
      case enter f args => exact hg.mono fun e w'' ⟨he, hw⟩ => by subst he; exact h _ _ hw hk
     | halt x w' => simp only [givesUpon] at hg
   · simp only [hw, Bool.false_eq_true, if_false]
     exact h _ _ hS hk
theorem wpAny_of_warmHead {n g : Nat} {L : Array Bool → Act → Prop} {Q' : Exit → Act → World → Prop} (hL : ∀ listed a w, S w → L listed a → wpAny P md ops Q' g listed a w) :
  ∀ (f : Nat) (listed : Array Bool) (a : Act) (w : World), S w → wpAnyM P md ops S n L f listed a → wpAny P md ops Q' (f + g) listed a w
 | 0, listed, a, w, hS, h => by rw [Nat.zero_add]; exact hL _ _ _ hS h
 | f + 1, listed, a, w, hS, h => by
  rw [show f + 1 + g = (f + g) + 1 by omega]
  exact ⟨fun h0 => absurd h0 h.1, fun i hi => wpOp_of_wmOp hS (fun a' w' hS' h' => wpAny_of_warmHead hL f _ a' w' hS' h') (h.2 i hi).2⟩
theorem wpAnyM_first {n i : Nat} {oi : Oper} {v : Value} {L : Array Bool → Act → Prop} (hi : ops[i]? = some oi) (hsel : ∀ (j : Nat) (o : Oper) cs b, ops[j]? = some o → o.op ≠ .select cs b)
  (htw : ∀ (listed : Array Bool), HeadInv md ops n listed → ∀ i, i < n → listed.getD i true = false → ∀ t, n ≤ t → t ∉ Region.ready md ops listed) (hin : i < n)
  (hdone : ∀ listed a, L listed a → ∀ j ∈ Region.ready md ops listed, n ≤ j) :
  ∀ (f : Nat) (listed : Array Bool) (a : Act), HeadInv md ops n listed →
   (∀ j oj, ops[j]? = some oj → j ≠ i → listed.getD j true = false → (∀ e ∈ oj.after, Region.binds md e = true → e.on ≠ i) → oi.apart ops oj = true) →
   i ∈ Region.ready md ops listed → YieldsIn P ops S oi v a →
   wpAnyM P md ops S n L f (listed.setIfInBounds i true) (a.put oi.dst v) → wpAnyM P md ops S n L (f + 1) listed a := by
 intro f
 induction f with
 | zero =>
  intro listed a inv _ hr hy H
  have hun := (mem_ready.1 hr).1
  refine ⟨fun h => (by rw [h] at hr; cases hr), fun j hj => ?_⟩
  have hjn : j < n := by
   rcases Nat.lt_or_ge j n with h | h
   · exact h
   · exact absurd hj (htw _ inv i hin hun j h)
  refine ⟨hjn, ?_⟩
  by_cases hji : j = i
  · subst hji; exact hy.wmOp hi H
  · have := hdone _ _ H j (ready_mono hj hji)
    omega
 | succ f ih =>
  intro listed a inv hfree hr hy H
  have hun := (mem_ready.1 hr).1
  refine ⟨fun h => (by rw [h] at hr; cases hr), fun j hj => ?_⟩
  have hjn : j < n := by
   rcases Nat.lt_or_ge j n with h | h
   · exact h
   · exact absurd hj (htw _ inv i hin hun j h)
  refine ⟨hjn, ?_⟩
  by_cases hji : j = i
  · subst hji; exact hy.wmOp hi H
  · have h1 := (H.2 j (ready_mono hj hji)).2
    obtain ⟨hjun, oj, hoj, hall⟩ := mem_ready.1 hj
    have hnot : ∀ e ∈ oj.after, Region.binds md e = true → e.on ≠ i := fun e he hb heq => by
     have h1 := hall e he hb
     rw [heq, getD_both hun] at h1
     cases h1
    have h2 := wmOp_put hoj (hfree j oj hoj hji hjun hnot) (fun cs b => hsel i oi cs b hi) (fun cs b => hsel j oj cs b hoj) hy h1
    have hfree' : ∀ k ok, ops[k]? = some ok → k ≠ i → (listed.setIfInBounds j true).getD k true = false →
      (∀ e ∈ ok.after, Region.binds md e = true → e.on ≠ i) → oi.apart ops ok = true := fun k ok hk hki hun hno => by
     refine hfree k ok hk hki ?_ hno
     by_cases hjk : j = k
     · subst hjk; exact hjun
     · rw [getD_set_ne true hjk] at hun; exact hun
    refine wmOp_mono (fun a' h3 => ih (listed.setIfInBounds j true) a' (inv.set hj hjn) hfree' (ready_mono hr (Ne.symm hji)) h3.1 ?_) h2
    rw [Array.setIfInBounds_comm _ _ hji]
    exact h3.2
theorem wpAnyM_lex {n g : Nat} {Lq : Act → Prop} (hsel : Region.noSelect ops = true)
  (htw : ∀ (listed : Array Bool), HeadInv md ops n listed → ∀ i, i < n → listed.getD i true = false → ∀ t, n ≤ t → t ∉ Region.ready md ops listed) :
  ∀ (l : List Oper) (k : Nat) (listed : Array Bool) (a : Act), (∀ j, j < l.length → l[j]? = ops[k + j]?) → k + l.length = n → HeadInv md ops n listed →
  Region.lexHead md ops g l.length k listed = true → wpWarm P ops S Lq l a →
  wpAnyM P md ops S n (fun listed' a' => Region.seqB md ops g n listed' = true ∧ Lq a') l.length listed a
 | [], k, listed, a, _, hk, _, hB, h => by
  have : k = n := by simpa using hk
  subst this
  exact ⟨by simpa [Region.lexHead] using hB, h⟩
 | o :: l, k, listed, a, hl, hk, inv, hB, h => by
  have h0 : ops[k]? = some o := by simpa using (hl 0 (by simp)).symm
  simp only [List.length_cons, Region.lexHead, Bool.and_eq_true] at hB
  obtain ⟨⟨hr, hf⟩, hB'⟩ := hB
  have hkn : k < n := by simp only [List.length_cons] at hk; omega
  have hr' : k ∈ Region.ready md ops listed := by simpa using hr
  obtain ⟨v, hy, hK⟩ := h
  exact wpAnyM_first h0 (Region.noSelect_spec hsel) htw hkn (fun listed' a' hL => seqB_ready hL.1) l.length listed a inv (Region.free_spec h0 hf) hr' hy
   (wpAnyM_lex hsel htw l (k + 1) _ _ (fun j hj => by have := hl (j + 1) (by simp; omega); simpa [Nat.add_assoc, Nat.add_comm 1 j] using this) (by simp only [List.length_cons] at hk; omega) (inv.set hr' hkn) hB' hK)
theorem wp_region_warm_tail {id : Nat} {Q : Exit → Act → World → Prop} {a : Act} {w : World} {l : List Oper} (S : World → Prop) (n : Nat) (hm : P.follows .mixedOrders = true) (hB : Region.lexTailB .any l.toArray n = true)
  (hS : S w.drew) (h : wpWarm P l.toArray S (fun a' => ∀ w', S w' → wpList P l.toArray Q (l.drop n) a' w') (l.take n) a) : (Code.region id l.toArray true).wp P Q a w := by
 simp only [Region.lexTailB, Bool.and_eq_true, decide_eq_true_eq] at hB
 obtain ⟨⟨⟨⟨hsel, hn⟩, hs⟩, hc⟩, hlex⟩ := hB
 have hn' : n < l.length := by simpa using hn
 have htl : (l.take n).length = n := by simp; omega
 have hdl : (l.drop n).length = l.toArray.size - n := by simp
 have inv0 : HeadInv .any l.toArray n (Array.replicate l.toArray.size false) :=
  ⟨by simp, fun j oj _ hl => (by rw [getD_replicate_false] at hl; cases hl), fun t _ ht => getD_in (by simpa using ht) (getD_replicate_false _ _)⟩
 have H := wpAnyM_lex (md := .any) (g := l.toArray.size - n) hsel (fun listed inv i hin hun t ht => tail_waits hs hc hn inv _ i rfl hin hun t ht) (l.take n) 0 _ a (fun j hj => by
  have hj' : j < n := by rw [htl] at hj; exact hj
  simp [hj']) (by simpa using htl) inv0 (by rw [htl]; exact hlex) h
 refine wp_region_any hm ?_
 have := wpAny_of_warmHead (Q' := Q) (g := l.toArray.size - n) (fun listed a' w' hS' hL => by
  have := wpAny_of_seq (md := .any) (Q' := Q) (l.drop n) n listed a' w' (fun j => by simp [List.getElem?_drop]) (by rw [hdl]; exact hL.1) (hL.2 _ hS')
  rwa [hdl] at this) _ _ _ _ hS H
 rw [htl, show n + (l.toArray.size - n) = l.toArray.size by omega] at this
 exact this
theorem wp_region_warm {id : Nat} {Q : Exit → Act → World → Prop} {a : Act} {w : World} {l : List Oper} (S : World → Prop) (hm : P.follows .mixedOrders = true) (hB : Region.lexB .any l.toArray = true)
  (hS : S w.drew) (h : wpWarm P l.toArray S (fun a' => ∀ w', S w' → Q .normal a' w') l a) : (Code.region id l.toArray true).wp P Q a w := by
 simp only [Region.lexB, Bool.and_eq_true] at hB
 have lexH : ∀ (f k : Nat) (listed : Array Bool), Region.lexFrom .any l.toArray f k listed = true → Region.lexHead .any l.toArray 0 f k listed = true := by
  intro f
  induction f with
  | zero => intro k listed h; simpa [Region.lexHead, Region.lexFrom, Region.seqB] using h
  | succ f ih =>
   intro k listed h
   simp only [Region.lexFrom, Bool.and_eq_true] at h
   simp only [Region.lexHead, Bool.and_eq_true]
   exact ⟨h.1, ih _ _ h.2⟩
 have inv0 : HeadInv .any l.toArray l.length (Array.replicate l.toArray.size false) :=
  ⟨by simp, fun j oj _ hl => (by rw [getD_replicate_false] at hl; cases hl), fun t ht ht' => by simp at ht'; omega⟩
 have H := wpAnyM_lex (md := .any) (n := l.length) (g := 0) (Lq := fun a' => ∀ w', S w' → Q .normal a' w') hB.1
  (fun listed inv i hin hun t ht hr => by
   obtain ⟨_, o, ho, _⟩ := mem_ready.1 hr
   have := (Array.getElem?_eq_some_iff.1 ho).1
   simp at this
   omega) l 0 _ a (fun j _ => by simp) (by simp) inv0 (lexH _ _ _ (by simpa using hB.2)) h
 refine wp_region_any hm ?_
 have := wpAny_of_warmHead (Q' := Q) (g := 0) (fun listed a' w' hS' hL => ⟨by simpa [Region.seqB] using hL.1, hL.2 _ hS'⟩) _ _ _ _ hS H
 simpa using this
theorem bcell {W w1 : World} {B : Nat} (hb : Below B W w1) : (∀ b o, b < B → w1.cell? ⟨b, o, none⟩ = W.cell? ⟨b, o, none⟩) ∧ (∀ b o, b < B → w1.frozen? ⟨b, o, none⟩ = W.frozen? ⟨b, o, none⟩) :=
 ⟨fun b o h => hb.cell (p := ⟨b, o, none⟩) h, fun b o h => hb.frozen (p := ⟨b, o, none⟩) h⟩
def Own (N : Nat) (W W' : World) : Prop := N ≤ W'.heap.size ∧ Below N W W'
theorem Own.refl {N : Nat} {W : World} (h : N ≤ W.heap.size) : Own N W W := ⟨h, Below.refl _ _⟩
theorem Own.drew {N : Nat} {W W' : World} (h : Own N W W') : Own N W W'.drew := ⟨h.1, h.2.drew⟩
theorem Own.call {N : Nat} {W W1 W2 : World} (h : Own N W W1) (hb : Below W1.heap.size W1 W2) : Own N W W2 := ⟨Nat.le_trans h.1 hb.size, h.2.trans (hb.mono h.1)⟩
theorem Own.first {N : Nat} {W W1 : World} (h : N ≤ W.heap.size) (hb : Below W.heap.size W W1) : Own N W W1 := (Own.refl h).call hb
theorem Own.trans {N : Nat} {W W1 W2 : World} (h : Own N W W1) (h' : Own N W1 W2) : Own N W W2 := ⟨h'.1, h.2.trans h'.2⟩
theorem Own.setCell {N : Nat} {W W1 : World} (h : Own N W W1) {p : Addr} (hp : N ≤ p.block) (u : Value) : Own N W (W1.setCell p u) := ⟨by simpa [World.setCell] using h.1, h.2.setCell hp u⟩
theorem Own.alloc {N : Nat} {W W1 : World} (h : Own N W W1) (o : Obj) : Own N W (W1.alloc o) := ⟨Nat.le_trans h.1 (by simp), h.2.alloc h.1 o⟩
theorem Own.cells {N : Nat} {W W1 : World} (h : Own N W W1) : (∀ b o, b < N → W1.cell? ⟨b, o, none⟩ = W.cell? ⟨b, o, none⟩) ∧ (∀ b o, b < N → W1.frozen? ⟨b, o, none⟩ = W.frozen? ⟨b, o, none⟩) := bcell h.2
theorem Own.below {N B : Nat} {w W W1 : World} (h : Own N W W1) (hb : Below B w W) (hB : B ≤ N) : Below B w W1 := hb.trans (h.2.mono hB)
theorem pin_wp {P : Program} {c : Code} {Q : Exit → Act → World → Prop} {a : Act} {X : World} {N : Nat} (hN : N ≤ X.heap.size) (h : ∀ w1 : World, Below N X w1 → N ≤ w1.heap.size → c.wp P Q a w1) : c.wp P Q a X := h X (Below.refl _ _) hN
end
attribute [go_sem] givesUpon_value givesUpon_skip givesUpon_enter
set_option linter.unusedVariables false
theorem cel1 {G : Prop} {N b : Nat} {W w : World} {v0 : Value} (hb : Below N W w) (h1 : b < N) (h2 : b < w.heap.size) (c0 : W.cell? ⟨b, 0, none⟩ = some v0) (hf : ∀ o, W.frozen? ⟨b, o, none⟩ = false) (k : w.cell? ⟨b, 0, none⟩ = some v0 → (∀ o, w.frozen? ⟨b, o, none⟩ = false) → (b < w.heap.size ∧ b < w.heap.size + 1 ∧ b < w.heap.size + 1 + 1 ∧ b < w.heap.size + 1 + 1 + 1) → G) : G :=
 k (by rw [hb.cell (p := ⟨b, 0, none⟩) h1]; exact c0) (fun o => by rw [hb.frozen (p := ⟨b, o, none⟩) h1]; exact hf o) ⟨h2, by omega, by omega, by omega⟩
theorem cel2 {G : Prop} {N b : Nat} {W w : World} {v0 v1 : Value} (hb : Below N W w) (h1 : b < N) (h2 : b < w.heap.size) (c0 : W.cell? ⟨b, 0, none⟩ = some v0) (c1 : W.cell? ⟨b, 1, none⟩ = some v1) (hf : ∀ o, W.frozen? ⟨b, o, none⟩ = false) (k : w.cell? ⟨b, 0, none⟩ = some v0 → w.cell? ⟨b, 1, none⟩ = some v1 → (∀ o, w.frozen? ⟨b, o, none⟩ = false) → (b < w.heap.size ∧ b < w.heap.size + 1 ∧ b < w.heap.size + 1 + 1 ∧ b < w.heap.size + 1 + 1 + 1) → G) : G :=
 k (by rw [hb.cell (p := ⟨b, 0, none⟩) h1]; exact c0) (by rw [hb.cell (p := ⟨b, 1, none⟩) h1]; exact c1) (fun o => by rw [hb.frozen (p := ⟨b, o, none⟩) h1]; exact hf o) ⟨h2, by omega, by omega, by omega⟩
theorem cel6 {G : Prop} {N b : Nat} {W w : World} {v0 v1 v2 v3 v4 v5 : Value} (hb : Below N W w) (h1 : b < N) (h2 : b < w.heap.size) (c0 : W.cell? ⟨b, 0, none⟩ = some v0) (c1 : W.cell? ⟨b, 1, none⟩ = some v1) (c2 : W.cell? ⟨b, 2, none⟩ = some v2) (c3 : W.cell? ⟨b, 3, none⟩ = some v3) (c4 : W.cell? ⟨b, 4, none⟩ = some v4) (c5 : W.cell? ⟨b, 5, none⟩ = some v5) (hf : ∀ o, W.frozen? ⟨b, o, none⟩ = false) (k : w.cell? ⟨b, 0, none⟩ = some v0 → w.cell? ⟨b, 1, none⟩ = some v1 → w.cell? ⟨b, 2, none⟩ = some v2 → w.cell? ⟨b, 3, none⟩ = some v3 → w.cell? ⟨b, 4, none⟩ = some v4 → w.cell? ⟨b, 5, none⟩ = some v5 → (∀ o, w.frozen? ⟨b, o, none⟩ = false) → (b < w.heap.size ∧ b < w.heap.size + 1 ∧ b < w.heap.size + 1 + 1 ∧ b < w.heap.size + 1 + 1 + 1) → G) : G :=
 k (by rw [hb.cell (p := ⟨b, 0, none⟩) h1]; exact c0) (by rw [hb.cell (p := ⟨b, 1, none⟩) h1]; exact c1) (by rw [hb.cell (p := ⟨b, 2, none⟩) h1]; exact c2) (by rw [hb.cell (p := ⟨b, 3, none⟩) h1]; exact c3) (by rw [hb.cell (p := ⟨b, 4, none⟩) h1]; exact c4) (by rw [hb.cell (p := ⟨b, 5, none⟩) h1]; exact c5) (fun o => by rw [hb.frozen (p := ⟨b, o, none⟩) h1]; exact hf o) ⟨h2, by omega, by omega, by omega⟩
theorem cal1 {G : Prop} {b : Nat} {W w : World} {v0 : Value} (hb : Below W.heap.size W w) (c : W.cell? ⟨b, 0, none⟩ = some v0 ∧ ∀ o, W.frozen? ⟨b, o, none⟩ = false) (k : w.cell? ⟨b, 0, none⟩ = some v0 → (∀ o, w.frozen? ⟨b, o, none⟩ = false) → (b < w.heap.size ∧ b < w.heap.size + 1 ∧ b < w.heap.size + 1 + 1 ∧ b < w.heap.size + 1 + 1 + 1) → G) : G := by
  obtain ⟨c0, hf⟩ := c
  have h1 : b < W.heap.size := World.block_lt_of_cell? _ _ c0
  have := hb.size
  exact cel1 hb h1 (by omega) c0 hf k
theorem cal2 {G : Prop} {b : Nat} {W w : World} {v0 v1 : Value} (hb : Below W.heap.size W w) (c : W.cell? ⟨b, 0, none⟩ = some v0 ∧ W.cell? ⟨b, 1, none⟩ = some v1 ∧ ∀ o, W.frozen? ⟨b, o, none⟩ = false) (k : w.cell? ⟨b, 0, none⟩ = some v0 → w.cell? ⟨b, 1, none⟩ = some v1 → (∀ o, w.frozen? ⟨b, o, none⟩ = false) → (b < w.heap.size ∧ b < w.heap.size + 1 ∧ b < w.heap.size + 1 + 1 ∧ b < w.heap.size + 1 + 1 + 1) → G) : G := by
  obtain ⟨c0, c1, hf⟩ := c
  have h1 : b < W.heap.size := World.block_lt_of_cell? _ _ c0
  have := hb.size
  exact cel2 hb h1 (by omega) c0 c1 hf k
theorem cal6 {G : Prop} {b : Nat} {W w : World} {v0 v1 v2 v3 v4 v5 : Value} (hb : Below W.heap.size W w) (c : W.cell? ⟨b, 0, none⟩ = some v0 ∧ W.cell? ⟨b, 1, none⟩ = some v1 ∧ W.cell? ⟨b, 2, none⟩ = some v2 ∧ W.cell? ⟨b, 3, none⟩ = some v3 ∧ W.cell? ⟨b, 4, none⟩ = some v4 ∧ W.cell? ⟨b, 5, none⟩ = some v5 ∧ ∀ o, W.frozen? ⟨b, o, none⟩ = false) (k : w.cell? ⟨b, 0, none⟩ = some v0 → w.cell? ⟨b, 1, none⟩ = some v1 → w.cell? ⟨b, 2, none⟩ = some v2 → w.cell? ⟨b, 3, none⟩ = some v3 → w.cell? ⟨b, 4, none⟩ = some v4 → w.cell? ⟨b, 5, none⟩ = some v5 → (∀ o, w.frozen? ⟨b, o, none⟩ = false) → (b < w.heap.size ∧ b < w.heap.size + 1 ∧ b < w.heap.size + 1 + 1 ∧ b < w.heap.size + 1 + 1 + 1) → G) : G := by
  obtain ⟨c0, c1, c2, c3, c4, c5, hf⟩ := c
  have h1 : b < W.heap.size := World.block_lt_of_cell? _ _ c0
  have := hb.size
  exact cel6 hb h1 (by omega) c0 c1 c2 c3 c4 c5 hf k
theorem bR (B : Nat) (w : World) : Below B w w := Below.refl B w
theorem bS {B : Nat} {a w : World} {p : Addr} (h : Below B a w) (hp : B ≤ p.block) (u : Value) : Below B a (w.setCell p u) := h.setCell hp u
theorem bA {B : Nat} {a w : World} (h : Below B a w) (hB : B ≤ w.heap.size) (o : Obj) : Below B a (w.alloc o) := h.alloc hB o
theorem bD {B : Nat} {a w : World} (h : Below B a w) : Below B a w.drew := h.drew
theorem bT {N M : Nat} {a b c : World} (h : Below N a b) (k : Below M b c) (hN : N ≤ M) : Below N a c := h.trans (k.mono hN)
theorem bO {N B : Nat} {w W W1 : World} (h : Own N W W1) (hb : Below B w W) (hB : B ≤ N) : Below B w W1 := h.below hb hB
end Go.Proofs.YtgejdaincnclpaaGreat
namespace Go.Proofs.YtgejdaincnclpaaGreat
open Go.RowKit
theorem ret_bool {a b : Bool} (h : a = b) : Ending.returned (.bool a) = .returned (.bool b) := by rw [h]
theorem bool_iff {a b : Bool} (h : a = true ↔ b = true) : a = b := by cases a <;> cases b <;> simp_all
theorem mul_bd (a b A B : Int) (h1 : -A ≤ a) (h2 : a ≤ A) (h3 : -B ≤ b) (h4 : b ≤ B) : -(A * B) ≤ a * b ∧ a * b ≤ A * B := by
 have e1 : 0 ≤ (A - a) * (B + b) := Int.mul_nonneg (by omega) (by omega)
 have e2 : 0 ≤ (A + a) * (B - b) := Int.mul_nonneg (by omega) (by omega)
 have e3 : 0 ≤ (A - a) * (B - b) := Int.mul_nonneg (by omega) (by omega)
 have e4 : 0 ≤ (A + a) * (B + b) := Int.mul_nonneg (by omega) (by omega)
 have f1 : (A - a) * (B + b) = A * B + A * b - a * B - a * b := by rw [Int.sub_mul, Int.mul_add, Int.mul_add]; omega
 have f2 : (A + a) * (B - b) = A * B - A * b + a * B - a * b := by rw [Int.add_mul, Int.mul_sub, Int.mul_sub]; omega
 have f3 : (A - a) * (B - b) = A * B - A * b - a * B + a * b := by rw [Int.sub_mul, Int.mul_sub, Int.mul_sub]; omega
 have f4 : (A + a) * (B + b) = A * B + A * b + a * B + a * b := by rw [Int.add_mul, Int.mul_add, Int.mul_add]; omega
 omega
def smallB (x y : Int) : Bool := decide (-1073741824 ≤ x ∧ x ≤ 1073741824 ∧ -1073741824 ≤ y ∧ y ≤ 1073741824)
set_option maxHeartbeats 400000 in
theorem small_any (x y : Int) (w : World) :
  Calls Tryz.prog 82 #[.agg #[.int .i64 x, .int .i64 y]] w fun e w' => e = .returned (.bool (smallB x y)) ∧ Below w.heap.size w w' := by
 go_enter Tryz.func82, Tryz.ntmps82
 go_wp2
 all_goals
  go_ret
  refine ⟨ret_bool (bool_iff ?_), (Below.refl _ _).alloc (Nat.le_refl _) _⟩
  simp only [smallB, decide_eq_true_eq, Bool.false_eq_true, false_iff]; omega
def withinB (x y n : Int) : Bool := decide (-n ≤ x ∧ x ≤ n ∧ -n ≤ y ∧ y ≤ n)
theorem small_of {x y : Int} (h : -1073741824 ≤ x ∧ x ≤ 1073741824 ∧ -1073741824 ≤ y ∧ y ≤ 1073741824) : smallB x y = true := by simp only [smallB, decide_eq_true_eq]; exact h
end Go.Proofs.YtgejdaincnclpaaGreat
namespace Go.Proofs.YtgejdaincnclpaaGreat
open Go.RowKit
set_option linter.unusedVariables false
theorem small_bd {a b : Int} (h1 : smallB a b = true) : -1073741824 ≤ a ∧ a ≤ 1073741824 ∧ -1073741824 ≤ b ∧ b ≤ 1073741824 := by simpa [smallB] using h1
theorem wraps_i64' (n : Int) (h₀ : 0 ≤ n) (h₁ : n < 2 ^ 63) : IntKind.i64.wrap n = n := by rw [IntKind.wrap_i64]; omega
abbrev V2 := Int × Int
def VsAt (w : World) (g o : Nat) (l : List V2) : Prop := ∀ k x, l[k]? = some x → w.cell? ⟨g, o + k * 2, none⟩ = some (.int .i64 x.1) ∧ w.cell? ⟨g, o + k * 2 + 1, none⟩ = some (.int .i64 x.2)
theorem all_take_succ {p : V2 → Bool} {l : List V2} {k : Nat} {x : V2} (h : l[k]? = some x) : (l.take (k + 1)).all p = ((l.take k).all p && p x) := by
 rw [List.take_add_one, h]; simp
def cellsOfV (p : V2) : List Value := [.int .i64 p.1, .int .i64 p.2]
def flatV (l : List V2) : List Value := l.flatMap cellsOfV
theorem flatV_len (l : List V2) : (flatV l).length = l.length * 2 := by
 induction l with
 | nil => rfl
 | cons x l ih => simp only [flatV, List.flatMap_cons, List.length_append, List.length_cons] at *; rw [ih]; simp [cellsOfV]; omega
theorem flatV_get {l : List V2} {k j : Nat} {x : V2} (h : l[k]? = some x) (hj : j < 2) : (flatV l)[k * 2 + j]? = (cellsOfV x)[j]? := by
 induction l generalizing k with
 | nil => simp at h
 | cons y l ih =>
  simp only [flatV, List.flatMap_cons]
  cases k with
  | zero =>
   simp only [List.getElem?_cons_zero, Option.some.injEq] at h
   subst h
   rw [List.getElem?_append_left (by simp [cellsOfV]; omega)]
   simp
  | succ k =>
   simp only [List.getElem?_cons_succ] at h
   rw [List.getElem?_append_right (by simp [cellsOfV]; omega)]
   have := ih h
   simp only [flatV] at this
   rw [← this]
   congr 1
   simp [cellsOfV]; omega
theorem own_vsAt {w : World} {base : Nat} {e : TypeId} {cap g : Nat} {l : List V2} (h : w.ownsRow base e 2 (.slice (some ⟨g, 0, none⟩) l.length cap) l.length (flatV l)) : VsAt w g 0 l := by
 intro k x hx
 have hk := (List.getElem?_eq_some_iff.1 hx).1
 rw [Nat.zero_add]
 refine ⟨?_, ?_⟩
 · rw [h.cellAt (k * 2) (by omega)]; exact flatV_get (j := 0) hx (by omega)
 · rw [h.cellAt (k * 2 + 1) (by omega)]; exact flatV_get hx (by omega)
theorem own_formS {w : World} {base size : Nat} {e : TypeId} {n : Nat} {v : Value} {xs : List Value} (h : w.ownsRow base e size v n xs) : (n = 0 ∧ ∃ A c, v = .slice A 0 c) ∨ (0 < n ∧ ∃ g c, v = .slice (some ⟨g, 0, none⟩) n c ∧ n ≤ c ∧ g < w.heap.size ∧ base ≤ g) := by
 rcases Nat.eq_zero_or_pos n with h0 | h0
 · subst h0
   rcases h.2 with ⟨hv, _⟩ | ⟨g, cap, cur, hv, _⟩
   · exact .inl ⟨rfl, none, 0, hv⟩
   · exact .inl ⟨rfl, _, _, hv⟩
 · rcases h.2 with ⟨_, hn⟩ | ⟨g, cap, cur, hv, hb, hh, hc, _⟩
   · omega
   · refine .inr ⟨h0, g, cap, hv, hc, ?_, hb⟩
     rcases Nat.lt_or_ge g w.heap.size with h | h
     · exact h
     · rw [Array.getElem?_eq_none h] at hh; cases hh
theorem own_below {w w1 : World} {base B : Nat} {e : TypeId} {size n : Nat} {v : Value} {xs : List Value} (h : w.ownsRow base e size v n xs) (hb : Below B w w1) (hB : w.heap.size ≤ B) : w1.ownsRow base e size v n xs := by
 obtain ⟨h1, h2⟩ := h
 refine ⟨h1, ?_⟩
 rcases h2 with h2 | ⟨g, cap, cur, hv, hg, hh, r⟩
 · exact .inl h2
 · have hlt : g < w.heap.size := by
    rcases Nat.lt_or_ge g w.heap.size with h | h
    · exact h
    · rw [Array.getElem?_eq_none h] at hh; cases hh
   exact .inr ⟨g, cap, cur, hv, hg, by rw [hb.block g (by omega)]; exact hh, r⟩
theorem own_new (w : World) (base : Nat) (e : TypeId) (size n : Nat) (cs : Array Value) (hb : base ≤ w.heap.size) (hc : cs.size = n * size) (hn : n ≤ maxLen) : (w.alloc (.cells cs e)).ownsRow base e size (.slice (some ⟨w.heap.size, 0, none⟩) n n) n cs.toList := by
 refine ⟨by simpa using hc, .inr ⟨w.heap.size, n, cs, rfl, hb, ?_, Nat.le_refl _, hn, hc, ?_⟩⟩
 · exact heap_alloc_new w _
 · rw [List.take_of_length_le]; simp [hc]
theorem vecInfo : (Tryz.prog.info? 38).map (fun i => (i.zero, i.size, i.bytes)) = some (some (.agg #[.int .i64 0, .int .i64 0]), 2, 16) := by kernel_rfl
set_option maxHeartbeats 400000 in
theorem rsmall_any (x y : Int) (w : World) :
  Calls Tryz.prog 67 #[.agg #[.int .i64 x, .int .i64 y]] w fun e w' => e = .returned (.bool (smallB x y)) ∧ Below w.heap.size w w' := by
 go_enter Tryz.func67, Tryz.ntmps67
 go_wp2
 all_goals
  go_ret
  refine ⟨ret_bool ?_, by ((with_reducible (repeat (first | exact bR _ _ | apply bS | apply bA | apply bD | refine bT ?_ (by assumption) ?_ | refine bO (by assumption) ?_ ?_))) <;> (first | omega | (simp <;> omega)))⟩
  simp [smallB, *]
  try omega
end Go.Proofs.YtgejdaincnclpaaGreat
namespace Go.Proofs.YtgejdaincnclpaaGreat
open Go Go.RowKit
set_option linter.unusedVariables false
section
variable {P : Program} {ops : Array Oper} {md : Region.Mode} {N : Nat} {W0 : World}
def SG (N : Nat) (W0 : World) (G : List (Nat × Obj)) (W : World) : Prop := Own N W0 W ∧ ∀ p ∈ G, N ≤ p.1 ∧ W.heap[p.1]? = some p.2
theorem SG.size {G : List (Nat × Obj)} {W : World} (h : SG N W0 G W) {p : Nat × Obj} (hp : p ∈ G) : p.1 < W.heap.size := by
 have h1 := (h.2 p hp).2
 exact (Array.getElem?_eq_some_iff.1 h1).1
theorem SG.below {G : List (Nat × Obj)} {W W' : World} (h : SG N W0 G W) (hb : Below W.heap.size W W') : SG N W0 G W' :=
 ⟨h.1.call hb, fun p hp => ⟨(h.2 p hp).1, by rw [hb.block _ (h.size hp)]; exact (h.2 p hp).2⟩⟩
theorem SG.alloc {G : List (Nat × Obj)} {W : World} (h : SG N W0 G W) (o : Obj) : SG N W0 ((W.heap.size, o) :: G) (W.alloc o) := by
 refine ⟨h.1.alloc o, fun p hp => ?_⟩
 rcases List.mem_cons.1 hp with rfl | hp
 · exact ⟨h.1.1, heap_alloc_new W o⟩
 · exact ⟨(h.2 p hp).1, by rw [Below.heap_alloc _ _ _ (h.size hp)]; exact (h.2 p hp).2⟩
def givesB (P : Program) (W : World) (v : Value) : Result Next → Prop
  | .ok (.value u) w' => u = v ∧ Below W.heap.size W w'
  | .ok .skip w' => v = undef ∧ Below W.heap.size W w'
  | .ok (.enter f args) w' => Calls P f args w' (fun e w'' => e = .returned v ∧ Below W.heap.size W w'')
  | _ => False
theorem givesB_value (W : World) (v u : Value) (w : World) : givesB P W v (.ok (.value u) w) = (u = v ∧ Below W.heap.size W w) := rfl
theorem givesB_skip (W : World) (v : Value) (w : World) : givesB P W v (.ok .skip w) = (v = undef ∧ Below W.heap.size W w) := rfl
theorem givesB_enter (W : World) (v : Value) (f : FuncId) (args : Array Value) (w : World) : givesB P W v (.ok (.enter f args) w) = Calls P f args w (fun e w'' => e = .returned v ∧ Below W.heap.size W w'') := rfl
def Cl (F : World → Prop) : Prop := ∀ W W', F W → Below W.heap.size W W' → F W'
theorem Cl.and {F F' : World → Prop} (h : Cl F) (h' : Cl F') : Cl (fun W => F W ∧ F' W) := fun W W' k hb => ⟨h W W' k.1 hb, h' W W' k.2 hb⟩
theorem Cl.tt : Cl (fun _ => True) := fun _ _ _ _ => trivial
def XPost (W : World) (K : Value → (World → Prop) → Prop) (e : Ending) (w'' : World) : Prop := ∃ (v : Value) (F : World → Prop), e = .returned v ∧ Below W.heap.size W w'' ∧ F w'' ∧ Cl F ∧ K v F
theorem XPost.mk {W w'' : World} {K : Value → (World → Prop) → Prop} (v : Value) (F : World → Prop) (hb : Below W.heap.size W w'') (hF : F w'') (hC : Cl F) (hK : K v F) : XPost W K (.returned v) w'' := ⟨v, F, rfl, hb, hF, hC, hK⟩
def givesX (P : Program) (W : World) (K : Value → (World → Prop) → Prop) : Result Next → Prop
  | .ok (.value u) w' => ∃ F : World → Prop, Below W.heap.size W w' ∧ F w' ∧ Cl F ∧ K u F
  | .ok .skip w' => ∃ F : World → Prop, Below W.heap.size W w' ∧ F w' ∧ Cl F ∧ K undef F
  | .ok (.enter f args) w' => Calls P f args w' (XPost W K)
  | _ => False
theorem givesX_enter (W : World) (K : Value → (World → Prop) → Prop) (f : FuncId) (args : Array Value) (w : World) : givesX P W K (.ok (.enter f args) w) = Calls P f args w (XPost W K) := rfl
theorem givesX_value (W : World) (K : Value → (World → Prop) → Prop) (u : Value) (w : World) : givesX P W K (.ok (.value u) w) = ∃ F : World → Prop, Below W.heap.size W w ∧ F w ∧ Cl F ∧ K u F := rfl
theorem givesX_mono {W : World} {K K' : Value → (World → Prop) → Prop} (h : ∀ v F, K v F → K' v F) : ∀ r, givesX P W K r → givesX P W K' r := by
 intro r hr
 match r, hr with
 | .ok (.value u) w', ⟨F, a, b, c, d⟩ => exact ⟨F, a, b, c, h _ _ d⟩
 | .ok .skip w', ⟨F, a, b, c, d⟩ => exact ⟨F, a, b, c, h _ _ d⟩
 | .ok (.enter f args) w', hr => exact Calls.mono hr fun e w'' ⟨v, F, e1, a, b, c, d⟩ => ⟨v, F, e1, a, b, c, h _ _ d⟩
def GivesH (P : Program) (N : Nat) (W0 : World) (o : Oper) (a : Act) (v : Value) : Prop := ∀ W, Own N W0 W → givesB P W v ((execOp a.eval o).run P W)
def YieldsH (P : Program) (ops : Array Oper) (N : Nat) (W0 : World) (o : Oper) (v : Value) (a : Act) : Prop :=
  (Region.wanted o (yielded ops a.tmps) = true ∧ GivesH P N W0 o a v) ∨ (Region.wanted o (yielded ops a.tmps) = false ∧ v = undef)
def FreshF (P : Program) (ops : Array Oper) (o : Oper) (a : Act) (ob : Obj) : Prop :=
  Region.wanted o (yielded ops a.tmps) = true ∧ ∀ W, (execOp a.eval o).run P W = .ok (.value (.pointer (some ⟨W.heap.size, 0, none⟩))) (W.alloc ob)
abbrev GK := (World → Prop) → List (Nat × Obj) → Act → Prop
def WPost (N : Nat) (W0 : World) (K : Value → (World → Prop) → List (Nat × Obj) → Prop) (e : Ending) (w : World) : Prop := ∃ (v : Value) (F : World → Prop) (G : List (Nat × Obj)), e = .returned v ∧ F w ∧ Cl F ∧ SG N W0 G w ∧ K v F G
theorem WPost.mk {N : Nat} {W0 w : World} {K : Value → (World → Prop) → List (Nat × Obj) → Prop} (v : Value) (F : World → Prop) (G : List (Nat × Obj)) (hF : F w) (hC : Cl F) (hS : SG N W0 G w) (hK : K v F G) : WPost N W0 K (.returned v) w := ⟨v, F, G, rfl, hF, hC, hS, hK⟩
def givesW (P : Program) (N : Nat) (W0 : World) (K : Value → (World → Prop) → List (Nat × Obj) → Prop) : Result Next → Prop
  | .ok (.value u) w' => WPost N W0 K (.returned u) w'
  | .ok .skip w' => WPost N W0 K (.returned undef) w'
  | .ok (.enter f args) w' => Calls P f args w' (WPost N W0 K)
  | _ => False
theorem givesW_value (K : Value → (World → Prop) → List (Nat × Obj) → Prop) (u : Value) (w : World) : givesW P N W0 K (.ok (.value u) w) = WPost N W0 K (.returned u) w := rfl
theorem givesW_skip (K : Value → (World → Prop) → List (Nat × Obj) → Prop) (w : World) : givesW P N W0 K (.ok .skip w) = WPost N W0 K (.returned undef) w := rfl
theorem givesW_enter (K : Value → (World → Prop) → List (Nat × Obj) → Prop) (f : FuncId) (args : Array Value) (w : World) : givesW P N W0 K (.ok (.enter f args) w) = Calls P f args w (WPost N W0 K) := rfl
theorem WPost.mono {K K' : Value → (World → Prop) → List (Nat × Obj) → Prop} (h : ∀ v F G, K v F G → K' v F G) {e : Ending} {w : World} (hh : WPost N W0 K e w) : WPost N W0 K' e w := by
 obtain ⟨v, F, G, a, b, c, d, k⟩ := hh; exact ⟨v, F, G, a, b, c, d, h _ _ _ k⟩
theorem givesW_mono {K K' : Value → (World → Prop) → List (Nat × Obj) → Prop} (h : ∀ v F G, K v F G → K' v F G) : ∀ r, givesW P N W0 K r → givesW P N W0 K' r := by
 intro r hr
 match r, hr with
 | .ok (.value u) w', hr => exact WPost.mono h hr
 | .ok .skip w', hr => exact WPost.mono h hr
 | .ok (.enter f args) w', hr => exact Calls.mono hr fun e w'' h' => WPost.mono h h'
def WildX (P : Program) (ops : Array Oper) (N : Nat) (W0 : World) (o : Oper) (a : Act) (K : GK) (F : World → Prop) (G : List (Nat × Obj)) : Prop :=
  Region.wanted o (yielded ops a.tmps) = true ∧ ∀ W, F W → SG N W0 G W → givesW P N W0 (fun v F' G' => K F' G' (a.put o.dst v)) ((execOp a.eval o).run P W)
def CallX (P : Program) (ops : Array Oper) (N : Nat) (W0 : World) (o : Oper) (a : Act) (K : GK) (F : World → Prop) (G : List (Nat × Obj)) : Prop :=
  Region.wanted o (yielded ops a.tmps) = true ∧ ∀ W, F W → SG N W0 G W → givesX P W (fun v F' => K (fun W => F W ∧ F' W) G (a.put o.dst v)) ((execOp a.eval o).run P W)
def isAlloc (o : Oper) : Bool := match o.op with | .alloc _ => o.guard.isNone | _ => false
def wfOp (P : Program) (ops : Array Oper) (N : Nat) (W0 : World) (i : Nat) (K : GK) (F : World → Prop) (G : List (Nat × Obj)) (a : Act) : Prop :=
  match ops[i]? with
  | none => False
  | some o => if isAlloc o = true then ∃ ob, FreshF P ops o a ob ∧ ∀ g, N ≤ g → (∀ p ∈ G, p.1 ≠ g) → K F ((g, ob) :: G) (a.put o.dst (.pointer (some ⟨g, 0, none⟩)))
      else (∃ v, YieldsH P ops N W0 o v a ∧ K F G (a.put o.dst v)) ∨
      WildX P ops N W0 o a K F G ∨
      CallX P ops N W0 o a K F G
def tailB (md : Region.Mode) (ops : Array Oper) (n : Nat) : Bool :=
  Region.noSelect ops && (List.range ops.size).all fun t => decide (t < n) || match ops[t]? with
    | some o => (List.range n).all fun i => o.after.any fun e => Region.binds md e && e.on == i
    | none => true
theorem tailB_spec {n t i : Nat} {listed : Array Bool} (h : tailB md ops n = true) (ht : t ∈ Region.ready md ops listed) (hi : i < n) (hun : listed.getD i true = false) : t < n := by
 rcases Nat.lt_or_ge t n with hlt | hge
 · exact hlt
 · obtain ⟨_, o, ho, hall⟩ := mem_ready.1 ht
   simp only [tailB, Bool.and_eq_true, List.all_eq_true, List.mem_range] at h
   have h1 := h.2 t (Array.getElem?_eq_some_iff.1 ho).1
   simp only [ho, Bool.or_eq_true, decide_eq_true_eq, List.all_eq_true, List.mem_range] at h1
   rcases h1 with h1 | h1
   · omega
   · obtain ⟨e, he, hb⟩ := Array.any_eq_true'.1 (h1 i hi)
     simp only [Bool.and_eq_true, beq_iff_eq] at hb
     have := hall e he hb.1
     rw [hb.2, getD_both hun] at this
     cases this
abbrev LK := Array Bool → GK
def wpF (P : Program) (md : Region.Mode) (ops : Array Oper) (N : Nat) (W0 : World) (n : Nat) (L : GK) : Nat → LK
  | 0, listed, F, G, a => Region.seqB md ops (ops.size - n) n listed = true ∧ L F G a
  | f + 1, listed, F, G, a => Region.ready md ops listed ≠ [] ∧ ∀ i ∈ Region.ready md ops listed, wfOp P ops N W0 i (wpF P md ops N W0 n L f (listed.setIfInBounds i true)) F G a
theorem wfOp_mono {i : Nat} {a : Act} {F : World → Prop} {G : List (Nat × Obj)} {K K' : GK} (h : ∀ F G a, K F G a → K' F G a) (hh : wfOp P ops N W0 i K F G a) : wfOp P ops N W0 i K' F G a := by
 unfold wfOp at *
 split
 · rename_i ho; simp only [ho] at hh
 · rename_i o ho
   simp only [ho] at hh
   split at hh
   · rename_i ha
     rw [if_pos ha]
     obtain ⟨ob, hf, hk⟩ := hh
     exact ⟨ob, hf, fun g hN hg => h _ _ _ (hk g hN hg)⟩
   · rename_i ha
     rw [if_neg ha]
     rcases hh with ⟨v, hy, hk⟩ | ⟨hw, hx⟩ | ⟨hw, hx⟩
     · exact .inl ⟨v, hy, h _ _ _ hk⟩
     · exact .inr (.inl ⟨hw, fun W hF hS => givesW_mono (fun v F' G' hk => h _ _ _ hk) _ (hx W hF hS)⟩)
     · exact .inr (.inr ⟨hw, fun W hF hS => givesX_mono (fun v F' hk => h _ _ _ hk) _ (hx W hF hS)⟩)
theorem YieldsH.of_same {o : Oper} {v : Value} {a a' : Act} (hy : YieldsH P ops N W0 o v a) (he : execOp a'.eval o = execOp a.eval o)
  (hw : Region.wanted o (yielded ops a'.tmps) = Region.wanted o (yielded ops a.tmps)) : YieldsH P ops N W0 o v a' := by
 unfold YieldsH GivesH at *; rw [he, hw]; exact hy
theorem wfOp_put {j : Nat} {oi oj : Oper} {v : Value} (hj : ops[j]? = some oj) (hap : oi.apart ops oj = true)
  (hsi : ∀ cs b, oi.op ≠ .select cs b) (hsj : ∀ cs b, oj.op ≠ .select cs b) {K : GK} {F : World → Prop} {G : List (Nat × Obj)} {a : Act}
  (hy : YieldsH P ops N W0 oi v a) (h : wfOp P ops N W0 j K F G (a.put oi.dst v)) :
  wfOp P ops N W0 j (fun F' G' a' => YieldsH P ops N W0 oi v a' ∧ K F' G' (a'.put oi.dst v)) F G a := by
 obtain ⟨h1, h2, h3⟩ := Oper.apart_spec hap
 have keep : ∀ u, YieldsH P ops N W0 oi v (a.put oj.dst u) := fun u => hy.of_same (execOp_put oi hsi a oj.dst u h3) (wanted_put oi a oj.dst u h3)
 have e1 := execOp_put oj hsj a oi.dst v h1
 have e2 := wanted_put oj a oi.dst v h1
 unfold wfOp at *
 simp only [hj] at *
 split at h
 · rename_i ha
   rw [if_pos ha]
   obtain ⟨ob, hf, hk⟩ := h
   refine ⟨ob, ?_, fun g hN hg => ⟨keep _, by rw [← Act.put_comm a v _ h2]; exact hk g hN hg⟩⟩
   unfold FreshF at *; rw [e1, e2] at hf; exact hf
 · rename_i ha
   rw [if_neg ha]
   rcases h with ⟨u, hu, hk⟩ | ⟨hw, hx⟩ | ⟨hw, hx⟩
   · exact .inl ⟨u, hu.of_same e1.symm e2.symm, keep u, by rw [← Act.put_comm a v u h2]; exact hk⟩
   · refine .inr (.inl ⟨by rw [← e2]; exact hw, fun W hF hS => ?_⟩)
     have := hx W hF hS
     rw [e1] at this
     exact givesW_mono (fun u F' G' hk => ⟨keep u, by rw [← Act.put_comm a v u h2]; exact hk⟩) _ this
   · refine .inr (.inr ⟨by rw [← e2]; exact hw, fun W hF hS => ?_⟩)
     have := hx W hF hS
     rw [e1] at this
     exact givesX_mono (fun u F' hk => ⟨keep u, by rw [← Act.put_comm a v u h2]; exact hk⟩) _ this
theorem seqB_mem {g k : Nat} {listed : Array Bool} (h : Region.seqB md ops g k listed = true) : ∀ j ∈ Region.ready md ops listed, k ≤ j := seqB_ready h
theorem wpF_first {i n : Nat} {oi : Oper} {v : Value} {L : GK} (hT : tailB md ops n = true) (hin : i < n) (hi : ops[i]? = some oi) (ha : isAlloc oi = false) :
  ∀ (f : Nat) (listed : Array Bool) (F : World → Prop) (G : List (Nat × Obj)) (a : Act),
   (∀ j oj, ops[j]? = some oj → j ≠ i → listed.getD j true = false → (∀ e ∈ oj.after, Region.binds md e = true → e.on ≠ i) → oi.apart ops oj = true) →
   i ∈ Region.ready md ops listed → YieldsH P ops N W0 oi v a →
   wpF P md ops N W0 n L f (listed.setIfInBounds i true) F G (a.put oi.dst v) → wpF P md ops N W0 n L (f + 1) listed F G a := by
 have hsel := Region.noSelect_spec (by have := hT; unfold tailB at this; rw [Bool.and_eq_true] at this; exact this.1)
 have base : ∀ (F : World → Prop) (G : List (Nat × Obj)) (a : Act), YieldsH P ops N W0 oi v a → ∀ K : GK, K F G (a.put oi.dst v) → wfOp P ops N W0 i K F G a := by
  intro F G a hy K H
  unfold wfOp
  simp only [hi]
  rw [if_neg (by rw [ha]; exact Bool.false_ne_true)]
  exact .inl ⟨v, hy, H⟩
 intro f
 induction f with
 | zero =>
  intro listed F G a hfree hr hy H
  have hun := (mem_ready.1 hr).1
  refine ⟨fun h => (by rw [h] at hr; cases hr), fun j hj => ?_⟩
  by_cases hji : j = i
  · subst hji
    exact base _ _ _ hy _ H
  · have h1 := seqB_mem H.1 j (ready_mono hj hji)
    have h2 := tailB_spec hT hj hin hun
    omega
 | succ f ih =>
  intro listed F G a hfree hr hy H
  have hun := (mem_ready.1 hr).1
  refine ⟨fun h => (by rw [h] at hr; cases hr), fun j hj => ?_⟩
  by_cases hji : j = i
  · subst hji
    exact base _ _ _ hy _ H
  · have h1 := H.2 j (ready_mono hj hji)
    obtain ⟨hjun, oj, hoj, hall⟩ := mem_ready.1 hj
    have hnot : ∀ e ∈ oj.after, Region.binds md e = true → e.on ≠ i := fun e he hb heq => by
     have h1 := hall e he hb
     rw [heq, getD_both hun] at h1
     cases h1
    have h2 := wfOp_put hoj (hfree j oj hoj hji hjun hnot) (fun cs b => hsel i oi cs b hi) (fun cs b => hsel j oj cs b hoj) hy h1
    have hfree' : ∀ k ok, ops[k]? = some ok → k ≠ i → (listed.setIfInBounds j true).getD k true = false →
      (∀ e ∈ ok.after, Region.binds md e = true → e.on ≠ i) → oi.apart ops ok = true := fun k ok hk hki hun hno => by
     refine hfree k ok hk hki ?_ hno
     by_cases hjk : j = k
     · subst hjk; exact hjun
     · rw [getD_set_ne true hjk] at hun; exact hun
    refine wfOp_mono (fun F' G' a' h3 => ih (listed.setIfInBounds j true) F' G' a' hfree' (ready_mono hr (Ne.symm hji)) h3.1 ?_) h2
    rw [Array.setIfInBounds_comm _ _ hji]
    exact h3.2
def onlyF (md : Region.Mode) (ops : Array Oper) (i : Nat) : Nat → Array Bool → Bool
  | 0, listed => decide (Region.ready md ops listed = [i])
  | f + 1, listed => (Region.ready md ops listed).contains i && (Region.ready md ops listed).all fun j => j == i || match ops[i]?, ops[j]? with
      | some oi, some oj => isAlloc oj && oi.apart ops oj && onlyF md ops i f (listed.setIfInBounds j true)
      | _, _ => false
theorem freshF_ob {o : Oper} {a a' : Act} {ob ob' : Obj} (h : FreshF P ops o a ob) (h' : FreshF P ops o a' ob') (he : execOp a'.eval o = execOp a.eval o) (W : World) : ob = ob' := by
 have h1 := h.2 W
 have h2 := h'.2 W
 rw [he, h1] at h2
 have h3 : W.alloc ob = W.alloc ob' := by injection h2
 have h4 := heap_alloc_new W ob
 rw [h3, heap_alloc_new W ob'] at h4
 injection h4 with h4
 exact h4.symm
theorem SG.weak {G : List (Nat × Obj)} {p : Nat × Obj} {W : World} (h : SG N W0 (p :: G) W) : SG N W0 G W := ⟨h.1, fun q hq => h.2 q (by simp [hq])⟩
theorem wpF_callfirst {i n : Nat} {oi : Oper} {L : GK} (hsel : ∀ (j : Nat) (o : Oper) cs b, ops[j]? = some o → o.op ≠ .select cs b) (hi : ops[i]? = some oi) (hai : isAlloc oi = false) :
  ∀ (f : Nat) (listed : Array Bool) (F : World → Prop) (G : List (Nat × Obj)) (a : Act), onlyF md ops i f listed = true →
   CallX P ops N W0 oi a (wpF P md ops N W0 n L f (listed.setIfInBounds i true)) F G →
   (∀ (j : Nat) (oj : Oper), ops[j]? = some oj → isAlloc oj = true → oi.apart ops oj = true → ∃ ob, ∀ a', FreshF P ops oj a' ob) →
   wpF P md ops N W0 n L (f + 1) listed F G a := by
 intro f
 induction f with
 | zero =>
  intro listed F G a hB hx _
  simp only [onlyF, decide_eq_true_eq] at hB
  refine ⟨fun h => (by rw [h] at hB; cases hB), fun j hj => ?_⟩
  rw [hB] at hj
  obtain rfl : j = i := by simpa using hj
  unfold wfOp
  simp only [hi]
  rw [if_neg (by rw [hai]; exact Bool.false_ne_true)]
  exact .inr (.inr hx)
 | succ f ih =>
  intro listed F G a hB hx hob
  simp only [onlyF, Bool.and_eq_true, List.all_eq_true] at hB
  obtain ⟨hr, hall⟩ := hB
  have hr : i ∈ Region.ready md ops listed := by simpa using hr
  refine ⟨fun h => (by rw [h] at hr; cases hr), fun j hj => ?_⟩
  by_cases hji : j = i
  · subst hji
    unfold wfOp
    simp only [hi]
    rw [if_neg (by rw [hai]; exact Bool.false_ne_true)]
    exact .inr (.inr hx)
  · have h1 := hall j hj
    obtain ⟨hjun, oj, hoj, _⟩ := mem_ready.1 hj
    simp only [hi, hoj, Bool.or_eq_true, beq_iff_eq, hji, false_or, Bool.and_eq_true] at h1
    obtain ⟨⟨haj, hap⟩, hon⟩ := h1
    obtain ⟨ob, hfr⟩ := hob j oj hoj haj hap
    obtain ⟨p1, p2, p3⟩ := Oper.apart_spec hap
    unfold wfOp
    simp only [hoj]
    rw [if_pos haj]
    refine ⟨ob, hfr a, fun g hN hG => ih (listed.setIfInBounds j true) F ((g, ob) :: G) _ hon ⟨?_, fun W hF hS => ?_⟩ hob⟩
    · rw [wanted_put oi a oj.dst _ p3]; exact hx.1
    · have h2 := hx.2 W hF hS.weak
      rw [execOp_put oi (fun cs b => hsel i oi cs b hi) a oj.dst _ p3]
      refine givesX_mono (fun v F' hk => ?_) _ h2
      have h3 := hk.2 j (ready_mono hj hji)
      unfold wfOp at h3
      simp only [hoj] at h3
      rw [if_pos haj] at h3
      obtain ⟨ob', hf', hk'⟩ := h3
      have hobe : ob = ob' := freshF_ob (hfr _) hf' rfl W
      subst hobe
      have h4 := hk' g hN hG
      rw [Array.setIfInBounds_comm _ _ (Ne.symm hji), Act.put_comm a _ v (fun d hd => fun h => p2 d h hd)] at *
      exact h4
theorem wpOp_of_wfOp {i : Nat} {a : Act} {w : World} {F : World → Prop} {G : List (Nat × Obj)} {K : GK} {K' : Act → World → Prop} {Q' : Exit → Act → World → Prop} (hF : F w) (hC : Cl F) (hS : SG N W0 G w)
  (h : ∀ F G a w, Cl F → F w → SG N W0 G w → K F G a → K' a w) (hh : wfOp P ops N W0 i K F G a) : wpOp P ops Q' i K' a w := by
 unfold wfOp at hh
 unfold wpOp
 split
 · rename_i ho; simp only [ho] at hh
 · rename_i o ho
   simp only [ho] at hh
   split at hh
   · obtain ⟨ob, ⟨hw, hf⟩, hk⟩ := hh
     rw [if_pos hw]
     refine .inl ?_
     unfold Oper.wp
     rw [hf w]
     exact h _ _ _ _ hC (hC _ _ hF ((Below.refl _ _).alloc (Nat.le_refl _) _)) (hS.alloc ob) (hk _ hS.1.1 (fun p hp e => by have := hS.size hp; omega))
   · rcases hh with ⟨v, hy, hk⟩ | ⟨hw, hx⟩ | ⟨hw, hx⟩
     · rcases hy with ⟨hw, hg⟩ | ⟨hw, rfl⟩
       · rw [if_pos hw]
         refine .inl ?_
         have hg := hg w hS.1
         unfold Oper.wp
         generalize (execOp a.eval o).run P w = r at *
         cases r with
         | ok nx w' =>
          cases nx <;> simp only [givesB, Oper.upon] at hg ⊢
          case value u => obtain ⟨rfl, h2⟩ := hg; exact h _ _ _ _ hC (hC _ _ hF h2) (hS.below h2) hk
          case skip => obtain ⟨rfl, h2⟩ := hg; exact h _ _ _ _ hC (hC _ _ hF h2) (hS.below h2) hk
          case enter f args => exact hg.mono fun e w'' ⟨he, hw⟩ => by subst he; exact h _ _ _ _ hC (hC _ _ hF hw) (hS.below hw) hk
         | halt x w' => simp only [givesB] at hg
       · rw [if_neg (by simp [hw])]
         exact h _ _ _ _ hC hF hS hk
     · rw [if_pos hw]
       refine .inl ?_
       have hg := hx w hF hS
       unfold Oper.wp
       generalize (execOp a.eval o).run P w = r at *
       cases r with
       | ok nx w' =>
        cases nx <;> simp only [givesW, Oper.upon] at hg ⊢
        case value u => obtain ⟨v, F', G', e1, hF', hC', hS', hk⟩ := hg; injection e1 with e1; subst e1; exact h _ _ _ _ hC' hF' hS' hk
        case skip => obtain ⟨v, F', G', e1, hF', hC', hS', hk⟩ := hg; injection e1 with e1; subst e1; exact h _ _ _ _ hC' hF' hS' hk
        case enter f args => exact hg.mono fun e w'' ⟨v, F', G', e1, hF', hC', hS', hk⟩ => by subst e1; exact h _ _ _ _ hC' hF' hS' hk
       | halt x w' => simp only [givesW] at hg
     · rw [if_pos hw]
       refine .inl ?_
       have hg := hx w hF hS
       unfold Oper.wp
       generalize (execOp a.eval o).run P w = r at *
       cases r with
       | ok nx w' =>
        cases nx <;> simp only [givesX, Oper.upon] at hg ⊢
        case value u => obtain ⟨F', hb, hF', hC', hk⟩ := hg; exact h _ _ _ _ (hC.and hC') ⟨hC _ _ hF hb, hF'⟩ (hS.below hb) hk
        case skip => obtain ⟨F', hb, hF', hC', hk⟩ := hg; exact h _ _ _ _ (hC.and hC') ⟨hC _ _ hF hb, hF'⟩ (hS.below hb) hk
        case enter f args => exact hg.mono fun e w'' ⟨v, F', he, hb, hF', hC', hk⟩ => by subst he; exact h _ _ _ _ (hC.and hC') ⟨hC _ _ hF hb, hF'⟩ (hS.below hb) hk
       | halt x w' => simp only [givesX] at hg
theorem wpAny_of_wpF {n : Nat} {L : GK} {Q' : Exit → Act → World → Prop} {l : List Oper} (hops : ops = l.toArray) (hn : n ≤ l.length) (hL : ∀ F G a w, F w → SG N W0 G w → L F G a → wpList P ops Q' (l.drop n) a w) :
  ∀ (f : Nat) (listed : Array Bool) (F : World → Prop) (G : List (Nat × Obj)) (a : Act) (w : World), Cl F → F w → SG N W0 G w → wpF P md ops N W0 n L f listed F G a → wpAny P md ops Q' (f + (ops.size - n)) listed a w
 | 0, listed, F, G, a, w, hC, hF, hS, h => by
  rw [Nat.zero_add]
  have hs : ops.size - n = (l.drop n).length := by rw [hops]; simp
  rw [hs]
  exact wpAny_of_seq (l.drop n) n listed a w (fun j => by rw [hops]; simp [List.getElem?_drop]) (by rw [← hs]; exact h.1) (hL _ _ _ _ hF hS h.2)
 | f + 1, listed, F, G, a, w, hC, hF, hS, h => by
  rw [show f + 1 + (ops.size - n) = (f + (ops.size - n)) + 1 by omega]
  exact ⟨fun h0 => absurd h0 h.1, fun i hi => wpOp_of_wfOp hF hC hS (fun F' G' a' w' hC' hF' hS' h' => wpAny_of_wpF hops hn hL f _ F' G' a' w' hC' hF' hS' h') (h.2 i hi)⟩
theorem wp_region_float {id : Nat} {Q : Exit → Act → World → Prop} {a : Act} {l : List Oper} {W0 : World} (N n : Nat) (hN : N ≤ W0.heap.size) (F0 : World → Prop) (hF0 : F0 W0) (hC0 : Cl F0) (hm : P.follows .mixedOrders = true) (hn : n ≤ l.length)
  (h : wpF P .any l.toArray N W0 n (fun F G a' => ∀ w', F w' → SG N W0 G w' → wpList P l.toArray Q (l.drop n) a' w') n (Array.replicate l.length false) F0 [] a) : (Code.region id l.toArray true).wp P Q a W0 := by
 refine wp_region_any hm ?_
 have := wpAny_of_wpF (Q' := Q) rfl hn (fun F G a w hF hS hL => hL w hF hS) _ _ _ [] a W0.drew hC0 (hC0 _ _ hF0 (Below.refl _ _).drew) ⟨(Own.refl hN).drew, fun p hp => by cases hp⟩ h
 have e : n + (l.length - n) = l.length := by omega
 simpa [e] using this
def stepB (md : Region.Mode) (ops : Array Oper) (n i : Nat) (listed : Array Bool) : Bool :=
  tailB md ops n && decide (i < n) && (Region.ready md ops listed).contains i && Region.free md ops listed i && match ops[i]? with | some o => !isAlloc o | none => false
theorem stepB_spec {n i : Nat} {listed : Array Bool} {o : Oper} (hi : ops[i]? = some o) (h : stepB md ops n i listed = true) :
  tailB md ops n = true ∧ i < n ∧ i ∈ Region.ready md ops listed ∧ Region.free md ops listed i = true ∧ isAlloc o = false := by
 simp only [stepB, hi, Bool.and_eq_true, decide_eq_true_eq, Bool.not_eq_true'] at h
 obtain ⟨⟨⟨⟨a, b⟩, c⟩, d⟩, e⟩ := h
 exact ⟨a, b, by simpa using c, d, e⟩
theorem wpF_step {i f n : Nat} {o : Oper} {L : GK} {listed : Array Bool} {F : World → Prop} {G : List (Nat × Obj)} {a : Act} (hi : ops[i]? = some o) (hB : stepB md ops n i listed = true) (hg : o.guard = none) (v : Value)
  (h : GivesH P N W0 o a v) (hk : ∀ K : Act → Prop, (∀ a, wpF P md ops N W0 n L f (listed.setIfInBounds i true) F G a → K a) → K (a.put o.dst v)) : wpF P md ops N W0 n L (f + 1) listed F G a := by
 obtain ⟨h1, h2, h3, h4, h5⟩ := stepB_spec hi hB
 exact wpF_first h1 h2 hi h5 f listed F G a (Region.free_spec hi h4) h3 (.inl ⟨by simp [Region.wanted, hg], h⟩) (hk _ fun _ h => h)
theorem wpF_step_on {i f n : Nat} {o : Oper} {L : GK} {listed : Array Bool} {F : World → Prop} {G : List (Nat × Obj)} {a : Act} (hi : ops[i]? = some o) (hB : stepB md ops n i listed = true) (hg : Region.wanted o (yielded ops a.tmps) = true) (v : Value)
  (h : GivesH P N W0 o a v) (hk : ∀ K : Act → Prop, (∀ a, wpF P md ops N W0 n L f (listed.setIfInBounds i true) F G a → K a) → K (a.put o.dst v)) : wpF P md ops N W0 n L (f + 1) listed F G a := by
 obtain ⟨h1, h2, h3, h4, h5⟩ := stepB_spec hi hB
 exact wpF_first h1 h2 hi h5 f listed F G a (Region.free_spec hi h4) h3 (.inl ⟨hg, h⟩) (hk _ fun _ h => h)
theorem wpF_step_off {i f n : Nat} {o : Oper} {L : GK} {listed : Array Bool} {F : World → Prop} {G : List (Nat × Obj)} {a : Act} (hi : ops[i]? = some o) (hB : stepB md ops n i listed = true) (hg : Region.wanted o (yielded ops a.tmps) = false)
  (hk : ∀ K : Act → Prop, (∀ a, wpF P md ops N W0 n L f (listed.setIfInBounds i true) F G a → K a) → K (a.put o.dst undef)) : wpF P md ops N W0 n L (f + 1) listed F G a := by
 obtain ⟨h1, h2, h3, h4, h5⟩ := stepB_spec hi hB
 exact wpF_first h1 h2 hi h5 f listed F G a (Region.free_spec hi h4) h3 (.inr ⟨hg, rfl⟩) (hk _ fun _ h => h)
theorem wpF_wild {i f n : Nat} {o : Oper} {L : GK} {listed : Array Bool} {F : World → Prop} {G : List (Nat × Obj)} {a : Act} (hi : ops[i]? = some o) (hB : decide (Region.ready md ops listed = [i]) = true) (hg : (o.guard.isNone && !isAlloc o) = true)
  (h : ∀ W, F W → SG N W0 G W → givesW P N W0 (fun v F' G' => ∀ K : Act → Prop, (∀ a, wpF P md ops N W0 n L f (listed.setIfInBounds i true) F' G' a → K a) → K (a.put o.dst v)) ((execOp a.eval o).run P W)) : wpF P md ops N W0 n L (f + 1) listed F G a := by
 rw [decide_eq_true_eq] at hB
 rw [Bool.and_eq_true, Bool.not_eq_true'] at hg
 refine ⟨fun h0 => (by rw [h0] at hB; cases hB), fun j hj => ?_⟩
 rw [hB] at hj
 obtain rfl : j = i := by simpa using hj
 unfold wfOp
 simp only [hi]
 rw [if_neg (by rw [hg.2]; exact Bool.false_ne_true)]
 exact .inr (.inl ⟨by have := hg.1; simp [Region.wanted, Option.isNone_iff_eq_none.1 this], fun W hF hS => givesW_mono (fun v F' G' hk => hk _ fun _ h => h) _ (h W hF hS)⟩)
def allocsB (P : Program) (ops : Array Oper) : Bool := ops.all fun o => match o.op with
  | .alloc T => (match P.info? T with | some i => i.zero.isSome | none => false)
  | _ => true
theorem alloc_run {o : Oper} {T : TypeId} (ho : o.op = .alloc T) {i : TypeInfo} (hi : P.info? T = some i) {z : Value} (hz : i.zero = some z) (a : Act) (W : World) :
  (execOp a.eval o).run P W = .ok (.value (.pointer (some ⟨W.heap.size, 0, none⟩))) (W.alloc (.cells z.cells T)) := by
 simp [execOp, ho, Instr.alloc, zeroValue, typeInfo, hi, hz, newVar, go_sem]
theorem allocs_fresh (h : allocsB P ops = true) (j : Nat) (oj : Oper) (hj : ops[j]? = some oj) (ha : isAlloc oj = true) : ∃ ob, ∀ a', FreshF P ops oj a' ob := by
 have h1 := Array.all_eq_true_iff_forall_mem.1 h oj (Array.mem_of_getElem? hj)
 unfold isAlloc at ha
 split at ha
 · rename_i T ho
   rw [ho] at h1
   simp only at h1
   split at h1
   · rename_i i hi
     obtain ⟨z, hz⟩ := Option.isSome_iff_exists.1 h1
     exact ⟨_, fun a' => ⟨by simp [Region.wanted, Option.isNone_iff_eq_none.1 ha], fun W => alloc_run ho hi hz a' W⟩⟩
   · cases h1
 · cases ha
def callB (md : Region.Mode) (ops : Array Oper) (n i f : Nat) (listed : Array Bool) : Bool :=
  Region.noSelect ops && onlyF md ops i f listed && match ops[i]? with | some o => !isAlloc o && o.guard.isNone | none => false
theorem wpF_call {i f n : Nat} {o : Oper} {L : GK} {listed : Array Bool} {F : World → Prop} {G : List (Nat × Obj)} {a : Act} (hi : ops[i]? = some o) (hB : callB md ops n i f listed = true)
  (hal : allocsB P ops = true)
  (hk : ∀ W, F W → SG N W0 G W → givesX P W (fun v F' => ∀ K : Act → Prop, (∀ a, wpF P md ops N W0 n L f (listed.setIfInBounds i true) (fun W => F W ∧ F' W) G a → K a) → K (a.put o.dst v)) ((execOp a.eval o).run P W)) : wpF P md ops N W0 n L (f + 1) listed F G a := by
 simp only [callB, hi, Bool.and_eq_true, Bool.not_eq_true'] at hB
 obtain ⟨⟨hs, hon⟩, hna, hg⟩ := hB
 exact wpF_callfirst (Region.noSelect_spec hs) hi hna f listed F G a hon ⟨by simp [Region.wanted, Option.isNone_iff_eq_none.1 hg], fun W hF hS => givesX_mono (fun v F' hk => hk _ fun _ h => h) _ (hk W hF hS)⟩ (fun j oj hj ha _ => allocs_fresh hal j oj hj ha)
def wpI (P : Program) (md : Region.Mode) (ops : Array Oper) (N : Nat) (W0 : World) (n : Nat) (L : GK) (_ : List Nat) (m : Nat) (listed : Array Bool) (F : World → Prop) (G : List (Nat × Obj)) (a : Act) : Prop := wpF P md ops N W0 n L m listed F G a
theorem wpI_start {m n : Nat} {L : GK} {listed : Array Bool} {F : World → Prop} {G : List (Nat × Obj)} {a : Act} (is : List Nat) (h : wpI P md ops N W0 n L is m listed F G a) : wpF P md ops N W0 n L m listed F G a := h
theorem wpI_nil {m n : Nat} {L : GK} {listed : Array Bool} {F : World → Prop} {G : List (Nat × Obj)} {a : Act} (h : wpF P md ops N W0 n L m listed F G a) : wpI P md ops N W0 n L [] m listed F G a := h
theorem wpI_step {i f n : Nat} {is : List Nat} {o : Oper} {L : GK} {listed : Array Bool} {F : World → Prop} {G : List (Nat × Obj)} {a : Act} (hi : ops[i]? = some o) (hB : stepB md ops n i listed = true) (hg : o.guard = none) (v : Value)
  (h : GivesH P N W0 o a v) (hk : ∀ K : Act → Prop, (∀ a, wpI P md ops N W0 n L is f (listed.setIfInBounds i true) F G a → K a) → K (a.put o.dst v)) : wpI P md ops N W0 n L (i :: is) (f + 1) listed F G a := wpF_step hi hB hg v h hk
theorem wpI_on {i f n : Nat} {is : List Nat} {o : Oper} {L : GK} {listed : Array Bool} {F : World → Prop} {G : List (Nat × Obj)} {a : Act} (hi : ops[i]? = some o) (hB : stepB md ops n i listed = true) (hg : Region.wanted o (yielded ops a.tmps) = true) (v : Value)
  (h : GivesH P N W0 o a v) (hk : ∀ K : Act → Prop, (∀ a, wpI P md ops N W0 n L is f (listed.setIfInBounds i true) F G a → K a) → K (a.put o.dst v)) : wpI P md ops N W0 n L (i :: is) (f + 1) listed F G a := wpF_step_on hi hB hg v h hk
theorem wpI_off {i f n : Nat} {is : List Nat} {o : Oper} {L : GK} {listed : Array Bool} {F : World → Prop} {G : List (Nat × Obj)} {a : Act} (hi : ops[i]? = some o) (hB : stepB md ops n i listed = true) (hg : Region.wanted o (yielded ops a.tmps) = false)
  (hk : ∀ K : Act → Prop, (∀ a, wpI P md ops N W0 n L is f (listed.setIfInBounds i true) F G a → K a) → K (a.put o.dst undef)) : wpI P md ops N W0 n L (i :: is) (f + 1) listed F G a := wpF_step_off hi hB hg hk
theorem wpF_done {n : Nat} {L : GK} {listed : Array Bool} {F : World → Prop} {G : List (Nat × Obj)} {a : Act} (hB : Region.seqB md ops (ops.size - n) n listed = true) (h : L F G a) : wpF P md ops N W0 n L 0 listed F G a := ⟨hB, h⟩
theorem SG.put {G : List (Nat × Obj)} {W : World} {g : Nat} {cs : Array Value} {T : TypeId} (h : SG N W0 ((g, .cells cs T) :: G) W) (hG : ∀ p ∈ G, p.1 ≠ g) (k : Nat) (x : Value) :
  SG N W0 ((g, .cells (cs.setIfInBounds k x) T) :: G) (W.setCell ⟨g, k, none⟩ x) := by
 have h0 := h.2 (g, .cells cs T) (by simp)
 refine ⟨h.1.setCell h0.1 _, fun p hp => ?_⟩
 rcases List.mem_cons.1 hp with rfl | hp
 · refine ⟨h0.1, ?_⟩
   have h1 := h0.2
   simp only at h1
   simp [World.setCell, Array.getElem?_modify, h1]
 · have h2 := h.2 p (by simp [hp])
   refine ⟨h2.1, ?_⟩
   rw [Below.heap_setCell _ _ _ _ (hG p hp)]
   exact h2.2
end
attribute [go_sem] givesB_value givesB_skip givesB_enter givesX_value givesX_enter givesW_value givesW_skip givesW_enter
def VAt (w : World) (A : Option Addr) (l : List V2) : Prop := ∀ k x, l[k]? = some x → ∃ g o, A = some ⟨g, o, none⟩ ∧ g < w.heap.size ∧ w.cell? ⟨g, o + k * 2, none⟩ = some (.int .i64 x.1) ∧ w.cell? ⟨g, o + k * 2 + 1, none⟩ = some (.int .i64 x.2)
theorem VAt.nil (w : World) (A : Option Addr) : VAt w A [] := fun k x h => by simp at h
theorem VAt.below {w w1 : World} {A : Option Addr} {l : List V2} {B : Nat} (h : VAt w A l) (hb : Below B w w1) (hB : w.heap.size ≤ B) : VAt w1 A l := by
 intro k x hx
 obtain ⟨g, o, e, hg, a, b⟩ := h k x hx
 have hs := hb.size
 refine ⟨g, o, e, ?_, ?_, ?_⟩
 · exact Nat.lt_of_lt_of_le hg hb.size
 · rw [hb.cell (by simp; omega)]; exact a
 · rw [hb.cell (by simp; omega)]; exact b
theorem VsAt.vat {w : World} {g o : Nat} {l : List V2} (h : VsAt w g o l) (hg : g < w.heap.size) : VAt w (some ⟨g, o, none⟩) l := fun k x hx => ⟨g, o, rfl, hg, h k x hx⟩
theorem own_vat {w : World} {base : Nat} {e : TypeId} {cap : Nat} {A : Option Addr} {l : List V2} (h : w.ownsRow base e 2 (.slice A l.length cap) l.length (flatV l)) : VAt w A l := by
 rcases Nat.eq_zero_or_pos l.length with h0 | h0
 · rw [List.length_eq_zero_iff.1 h0]; exact VAt.nil _ _
 · rcases own_formS h with ⟨hn, _⟩ | ⟨_, g, c, hv, _, hg, _⟩
   · omega
   · simp only [Value.slice.injEq] at hv
     obtain ⟨rfl, _, rfl⟩ := hv
     exact (own_vsAt h).vat hg
theorem own_slice {w : World} {base size n : Nat} {e : TypeId} {v : Value} {xs : List Value} (h : w.ownsRow base e size v n xs) : ∃ A c, v = .slice A n c := by
 rcases h.2 with ⟨hv, hn⟩ | ⟨g, cap, cur, hv, _⟩
 · subst hn; exact ⟨_, _, hv⟩
 · exact ⟨_, _, hv⟩
def nearB (n : Int) (x : V2) : Bool := withinB x.1 x.2 n
set_option maxHeartbeats 2000000 in
theorem rwithin_any (n : Int) (l : List V2) (A : Option Addr) (c : Nat) (w : World) (hl : l.length ≤ 1000000) (hV : VAt w A l) (n0 : 0 ≤ n) (n1 : n ≤ 1000000000) :
  Calls Tryz.prog 63 #[.int .i64 n, .slice A l.length c] w fun e w' => e = .returned (.bool (l.all (nearB n))) ∧ Below w.heap.size w w' := by
 have HV := hQ0 hV
 obtain ⟨R, hR⟩ : ∃ R, R = l.all (nearB n) := ⟨_, rfl⟩
 rw [← hR]
 have HR := hQ0 hR
 clear hV hR
 go_enter Tryz.func63, Tryz.ntmps63; (try simp only [List.append_eq, List.cons_append, List.nil_append])
 go_wp2_with fail
 go_loopw [9] (fun t wr => ∃ k : Nat, k ≤ l.length ∧ t = .int .i64 k ∧ Hid ((l.take k).all (nearB n) = true) ∧ Below w.heap.size w wr) (fun t _ => l.length - (intOf t).toNat)
 case atStart => exact ⟨0, by omega, rfl, hQ0 rfl, Below.refl _ _⟩
 case round =>
  obtain ⟨k, hk, rfl, HA, hb_wr⟩ := hrel
  have hz_wr := hb_wr.size
  have HB := hQ0 hb_wr
  have i1 : (0 : Int) ≤ (k : Int) := by omega
  by_cases hlt : k < l.length
  · obtain ⟨⟨a, b⟩, hx⟩ : ∃ x, l[k]? = some x := ⟨l[k], by simp⟩
    obtain ⟨g, o, rfl, hg, a0, a1⟩ := (HV.out.below HB.out (Nat.le_refl _)) k _ hx
    have hall := all_take_succ (p := nearB n) hx
    have HX := hQ0 hx
    have HN := hQ0 hall
    have i2 : (k : Int) < (l.length : Int) := by omega
    simp only at a0 a1
    clear hb_wr hx hall
    by_cases hin : -n ≤ a ∧ a ≤ n ∧ -n ≤ b ∧ b ≤ n
    · obtain ⟨j1, j2, j3, j4⟩ := hin
      have HN2 := hQ0 (show (l.take (k + 1)).all (nearB n) = true by rw [HN.out, HA.out]; simp [nearB, withinB]; omega)
      go_wp2_with fail
      go_roundw
      case rel => exact ⟨k + 1, by omega, by go_num, HN2, HB.out.trans (show Below w.heap.size wr _ by ((with_reducible (repeat (first | exact bR _ _ | apply bS | apply bA | apply bD | refine bT ?_ (by assumption) ?_ | refine bO (by assumption) ?_ ?_))) <;> (first | omega | (simp <;> omega))))⟩
      case measure => simp [intOf]; omega
    · have hfin : R = false := by
       rw [HR.out, List.all_eq_false]
       exact ⟨(a, b), List.mem_of_getElem? HX.out, by simp only [nearB, withinB, decide_eq_true_eq]; exact hin⟩
      subst hfin
      have h4 : a < -n ∨ (-n ≤ a ∧ n < a) ∨ (-n ≤ a ∧ a ≤ n ∧ b < -n) ∨ (-n ≤ a ∧ a ≤ n ∧ -n ≤ b ∧ n < b) := by omega
      clear hin
      rcases h4 with h4 | ⟨h4, h5⟩ | ⟨h4, h5, h6⟩ | ⟨h4, h5, h6, h7⟩
      all_goals
       go_wp2_with fail
       go_ret
       exact ⟨rfl, HB.out.trans (show Below w.heap.size wr _ by ((with_reducible (repeat (first | exact bR _ _ | apply bS | apply bA | apply bD | refine bT ?_ (by assumption) ?_ | refine bO (by assumption) ?_ ?_))) <;> (first | omega | (simp <;> omega))))⟩
  · obtain rfl : k = l.length := by omega
    have hfin : R = true := by rw [HR.out]; have := HA.out; rwa [List.take_length] at this
    subst hfin
    clear hb_wr
    go_wp2_with fail
    go_ret
    exact ⟨rfl, HB.out⟩
def IAt (w : World) (A : Option Addr) (l : List Int) : Prop := ∀ k x, l[k]? = some x → ∃ g o, A = some ⟨g, o, none⟩ ∧ g < w.heap.size ∧ w.cell? ⟨g, o + k, none⟩ = some (.int .i64 x)
theorem IAt.below {w w1 : World} {A : Option Addr} {l : List Int} {B : Nat} (h : IAt w A l) (hb : Below B w w1) (hB : w.heap.size ≤ B) : IAt w1 A l := fun k x hx => by
 obtain ⟨g, o, hA, hg, h0⟩ := h k x hx
 exact ⟨g, o, hA, Nat.lt_of_lt_of_le hg hb.size, (hb.cell (p := ⟨g, o + k, none⟩) (Nat.lt_of_lt_of_le hg hB)).trans h0⟩
theorem own_iat {w : World} {base : Nat} {e : TypeId} {cap : Nat} {A : Option Addr} {l : List Int} (h : w.ownsRow base e 1 (.slice A l.length cap) l.length (l.map (Value.int .i64))) : IAt w A l := fun k x hx => by
 have hk := (List.getElem?_eq_some_iff.1 hx).1
 rcases own_formS h with ⟨hn, _⟩ | ⟨_, g, c, hv, _, hg, _⟩
 · omega
 · simp only [Value.slice.injEq] at hv
   obtain ⟨rfl, _, rfl⟩ := hv
   refine ⟨g, 0, rfl, hg, ?_⟩
   rw [Nat.zero_add, h.cellAt k (by omega), List.getElem?_map, hx]
   rfl
theorem flatV_at {l : List V2} {j : Nat} {u : Value} (h : (flatV l)[j]? = some u) : ∃ k r x, j = k * 2 + r ∧ r < 2 ∧ l[k]? = some x ∧ (cellsOfV x)[r]? = some u := by
 have hj := (List.getElem?_eq_some_iff.1 h).1
 rw [flatV_len] at hj
 have hk : j / 2 < l.length := by omega
 have e : j = j / 2 * 2 + j % 2 := by omega
 refine ⟨j / 2, j % 2, l[j / 2], e, by omega, by simp, ?_⟩
 have := flatV_get (l := l) (k := j / 2) (j := j % 2) (x := l[j / 2]) (by simp) (by omega)
 rw [← e, h] at this
 exact this.symm
def CVOut (l : List V2) (w : World) (e : Ending) (w' : World) : Prop := Below w.heap.size w w' ∧ ∃ A c, e = .returned (.slice A l.length c) ∧ w'.ownsRow w.heap.size 38 2 (.slice A l.length c) l.length (flatV l)
set_option maxHeartbeats 1000000 in
theorem clonev_any (l : List V2) (A : Option Addr) (c : Nat) (w : World) (hl : l.length ≤ 1000) (hV : VAt w A l) :
  Calls Tryz.prog 23 #[.slice A l.length c] w (CVOut l w) := by
 have q22 : ∀ (w : World) (a : Option Addr) (n c n' c' : Nat), (binOp .eql 23 (.slice a n c) (.slice none n' c')).run Tryz.prog w = .ok (.bool a.isNone) w := fun w a n c n' c' => Lib.run_eql_slice_nil w _ _ a n c n' c' Tryz.underlying23
 have u22 : ∀ w, Sem.run Tryz.prog (underlying 23) w = .ok (TypeDesc.slice 38) w := run_underlying Tryz.underlying23
 obtain ⟨i0, hi0, hy⟩ := Option.map_eq_some_iff.1 vecInfo
 simp only [Prod.mk.injEq] at hy
 obtain ⟨hy0, hy1, hy2⟩ := hy
 rcases A with _ | a
 · have hnil : l = [] := by
    cases l with
    | nil => rfl
    | cons x l => obtain ⟨g, o, hA, _⟩ := hV 0 x rfl; cases hA
   subst hnil
   go_enter Tryz.func23, Tryz.ntmps23; (try simp only [List.append_eq, List.cons_append, List.nil_append])
   go_wp2_with fail
   go_ret
   exact ⟨Below.refl _ _, none, 0, rfl, World.ownsRow_nil _ _ _ _⟩
 · have hc : ∀ j u, (flatV l)[j]? = some u → w.cell? (a.add j) = some u := by
    intro j u hj
    obtain ⟨k, r, x, rfl, hr, hx, hu⟩ := flatV_at hj
    obtain ⟨g, o, hA, _, c0, c1⟩ := hV k x hx
    obtain rfl : a = ⟨g, o, none⟩ := Option.some.inj hA
    rw [Addr.add_lit]
    rcases (by omega : r = 0 ∨ r = 1) with rfl | rfl
    · simp only [cellsOfV, List.getElem?_cons_zero, Option.some.injEq] at hu
      rw [← hu]; simpa using c0
    · simp only [cellsOfV, List.getElem?_cons_succ, List.getElem?_cons_zero, Option.some.injEq] at hu
      rw [← hu]; simpa [Nat.add_assoc] using c1
   have HC := hQ0 hc
   clear hc hV
   go_enter Tryz.func23, Tryz.ntmps23; (try simp only [List.append_eq, List.cons_append, List.nil_append])
   go_wp2_with (at_builtin; refine wpList_append_own _ rfl _ _ 23 rfl w.heap.size 38 i0 _ 2 16 Tryz.underlying23 hi0 hy0 hy1 hy2 rfl (by decide) _ _ _ rfl (World.ownsRow_made w #[] 0 (Nat.le_refl _) (Nat.zero_le _) rfl) a l.length c (flatV l) rfl ?qc1 ?qc2 ?qc3 ?qc4 ?qc5 ?qc6 ?_)
   case qc1 => first | rfl | (rw [flatV_len]) | (rw [flatV_len]; omega)
   case qc2 => intro j u hj; exact Lib.cell?_alloc_some _ (HC.out j u hj)
   case qc3 => intro u hu; obtain ⟨x, hx, hxu⟩ := List.mem_flatMap.1 hu; simp [cellsOfV] at hxu; rcases hxu with rfl | rfl <;> rfl
   case qc4 => unfold maxLen; omega
   case qc5 => omega
   case qc6 => simp
   intro v' w1 hown hgrow hnil
   obtain ⟨A', c', rfl⟩ := own_slice hown
   go_wp2_with fail
   go_ret
   refine ⟨((Below.refl _ w).alloc (Nat.le_refl _) _).grown hgrow (by simp) (by intro k hk; simp [Value.ownBlock] at hk; omega), A', c', ?_, ?_⟩
   · simp
   · simpa using hown
end Go.Proofs.YtgejdaincnclpaaGreat
namespace Go.Proofs.YtgejdaincnclpaaGreat
open Go.RowKit
set_option linter.unusedVariables false
theorem vsmall_any (x y : Int) (w : World) : Calls Tryz.prog 82 #[.agg #[.int .i64 x, .int .i64 y]] w fun e w' => e = .returned (.bool (smallB x y)) ∧ Below w.heap.size w w' := small_any x y w
def keptR (x y : Int) : V2 := if smallB x y = true then (x, y) else (0, 0)
def subR (a b c d : Int) : V2 := if smallB a b = true ∧ smallB c d = true then keptR (a - c) (b - d) else (0, 0)
def dotR (a b c d : Int) : Int := if smallB a b = true ∧ smallB c d = true then a * c + b * d else 0
set_option maxHeartbeats 400000 in
theorem vkept_ok (x y : Int) (w : World) :
  Calls Tryz.prog 83 #[.agg #[.int .i64 x, .int .i64 y]] w fun e w' => e = .returned (.agg #[.int .i64 (keptR x y).1, .int .i64 (keptR x y).2]) ∧ Below w.heap.size w w' := by
 unfold keptR
 by_cases hs : smallB x y = true
 · rw [if_pos hs]
   go_enter Tryz.func83, Tryz.ntmps83; (try simp only [List.append_eq, List.cons_append, List.nil_append])
   go_wp2_with (first | (go_at_call 82; refine (vsmall_any _ _ _).mono ?_; rintro e w1 ⟨rfl, hb1⟩; have hz1 : w.heap.size + 2 ≤ w1.heap.size := (by have h := hb1.size; (try simp at h); omega); have hbb := Below.mono hb1 (B' := w.heap.size + 2) (by (try simp) <;> omega); clear hb1; (with_reducible apply cel2 (b := w.heap.size) hbb); ((try simp) <;> omega); omega; (iterate 2 (focus (go_simp; try exact rfl))); (intro o; go_simp); intro cc cc fz hl; (with_reducible apply cel2 (b := w.heap.size + 1) hbb); ((try simp) <;> omega); omega; (iterate 2 (focus (go_simp; try exact rfl))); (intro o; go_simp); intro cc cc fz hl))
   refine bodyPost_ret (v := .agg #[.int .i64 x, .int .i64 y]) (by simp only [results, Tryz.results83]; go_simp) rfl ⟨?_, ?_⟩
   · rfl
   · ((with_reducible (repeat (first | exact bR _ _ | apply bS | apply bA | apply bD | refine bT ?_ (by assumption) ?_ | refine bO (by assumption) ?_ ?_))) <;> (first | omega | (simp <;> omega)))
 · rw [if_neg hs]
   have hs' : smallB x y = false := by simpa using hs
   go_enter Tryz.func83, Tryz.ntmps83; (try simp only [List.append_eq, List.cons_append, List.nil_append])
   go_wp2_with (first | (go_at_call 82; refine (vsmall_any _ _ _).mono ?_; rintro e w1 ⟨rfl, hb1⟩; have hz1 : w.heap.size + 2 ≤ w1.heap.size := (by have h := hb1.size; (try simp at h); omega); have hbb := Below.mono hb1 (B' := w.heap.size + 2) (by (try simp) <;> omega); clear hb1; (with_reducible apply cel2 (b := w.heap.size) hbb); ((try simp) <;> omega); omega; (iterate 2 (focus (go_simp; try exact rfl))); (intro o; go_simp); intro cc cc fz hl; (with_reducible apply cel2 (b := w.heap.size + 1) hbb); ((try simp) <;> omega); omega; (iterate 2 (focus (go_simp; try exact rfl))); (intro o; go_simp); intro cc cc fz hl))
   refine bodyPost_ret (v := .agg #[.int .i64 0, .int .i64 0]) (by simp only [results, Tryz.results83]; go_simp) rfl ⟨?_, ?_⟩
   · rfl
   · ((with_reducible (repeat (first | exact bR _ _ | apply bS | apply bA | apply bD | refine bT ?_ (by assumption) ?_ | refine bO (by assumption) ?_ ?_))) <;> (first | omega | (simp <;> omega)))
set_option maxHeartbeats 400000 in
theorem rkept_ok (x y : Int) (w : World) :
  Calls Tryz.prog 68 #[.agg #[.int .i64 x, .int .i64 y]] w fun e w' => e = .returned (.agg #[.int .i64 (keptR x y).1, .int .i64 (keptR x y).2]) ∧ Below w.heap.size w w' := by
 unfold keptR
 by_cases hs : smallB x y = true
 · rw [if_pos hs]
   go_enter Tryz.func68, Tryz.ntmps68; (try simp only [List.append_eq, List.cons_append, List.nil_append])
   go_wp2_with (first | (go_at_call 67; refine (rsmall_any _ _ _).mono ?_; rintro e w1 ⟨rfl, hb1⟩; have hz1 : w.heap.size + 2 ≤ w1.heap.size := (by have h := hb1.size; (try simp at h); omega); have hbb := Below.mono hb1 (B' := w.heap.size + 2) (by (try simp) <;> omega); clear hb1; (with_reducible apply cel2 (b := w.heap.size) hbb); ((try simp) <;> omega); omega; (iterate 2 (focus (go_simp; try exact rfl))); (intro o; go_simp); intro cc cc fz hl; (with_reducible apply cel2 (b := w.heap.size + 1) hbb); ((try simp) <;> omega); omega; (iterate 2 (focus (go_simp; try exact rfl))); (intro o; go_simp); intro cc cc fz hl))
   refine bodyPost_ret (v := .agg #[.int .i64 x, .int .i64 y]) (by simp only [results, Tryz.results68]; go_simp) rfl ⟨?_, ?_⟩
   · rfl
   · ((with_reducible (repeat (first | exact bR _ _ | apply bS | apply bA | apply bD | refine bT ?_ (by assumption) ?_ | refine bO (by assumption) ?_ ?_))) <;> (first | omega | (simp <;> omega)))
 · rw [if_neg hs]
   have hs' : smallB x y = false := by simpa using hs
   go_enter Tryz.func68, Tryz.ntmps68; (try simp only [List.append_eq, List.cons_append, List.nil_append])
   go_wp2_with (first | (go_at_call 67; refine (rsmall_any _ _ _).mono ?_; rintro e w1 ⟨rfl, hb1⟩; have hz1 : w.heap.size + 2 ≤ w1.heap.size := (by have h := hb1.size; (try simp at h); omega); have hbb := Below.mono hb1 (B' := w.heap.size + 2) (by (try simp) <;> omega); clear hb1; (with_reducible apply cel2 (b := w.heap.size) hbb); ((try simp) <;> omega); omega; (iterate 2 (focus (go_simp; try exact rfl))); (intro o; go_simp); intro cc cc fz hl; (with_reducible apply cel2 (b := w.heap.size + 1) hbb); ((try simp) <;> omega); omega; (iterate 2 (focus (go_simp; try exact rfl))); (intro o; go_simp); intro cc cc fz hl))
   refine bodyPost_ret (v := .agg #[.int .i64 0, .int .i64 0]) (by simp only [results, Tryz.results68]; go_simp) rfl ⟨?_, ?_⟩
   · rfl
   · ((with_reducible (repeat (first | exact bR _ _ | apply bS | apply bA | apply bD | refine bT ?_ (by assumption) ?_ | refine bO (by assumption) ?_ ?_))) <;> (first | omega | (simp <;> omega)))
set_option maxHeartbeats 800000 in
theorem vsub_any (a b c d : Int) (w : World) :
  Calls Tryz.prog 52 #[.agg #[.int .i64 a, .int .i64 b], .agg #[.int .i64 c, .int .i64 d]] w fun e w' => e = .returned (.agg #[.int .i64 (subR a b c d).1, .int .i64 (subR a b c d).2]) ∧ Below w.heap.size w w' := by
 unfold subR
 cases h1 : smallB a b
 · rw [if_neg (fun h => by cases h.1)]
   go_enter Tryz.func52, Tryz.ntmps52; (try simp only [List.append_eq, List.cons_append, List.nil_append])
   go_wp2_with (first | (go_at_call 82; refine (vsmall_any _ _ _).mono ?_; rintro e w1 ⟨rfl, hb1⟩; have hz1 : w.heap.size + 3 ≤ w1.heap.size := (by have h := hb1.size; (try simp at h); omega); have hbb := Below.mono hb1 (B' := w.heap.size + 3) (by (try simp) <;> omega); clear hb1; (with_reducible apply cel2 (b := w.heap.size) hbb); ((try simp) <;> omega); omega; (iterate 2 (focus (go_simp; try exact rfl))); (intro o; go_simp); intro cc cc fz hl; (with_reducible apply cel2 (b := w.heap.size + 1) hbb); ((try simp) <;> omega); omega; (iterate 2 (focus (go_simp; try exact rfl))); (intro o; go_simp); intro cc cc fz hl; (with_reducible apply cel2 (b := w.heap.size + 1 + 1) hbb); ((try simp) <;> omega); omega; (iterate 2 (focus (go_simp; try exact rfl))); (intro o; go_simp); intro cc cc fz hl))
   refine bodyPost_ret (v := .agg #[.int .i64 0, .int .i64 0]) (by simp only [results, Tryz.results52]; go_simp) rfl ⟨?_, ?_⟩
   · rfl
   · ((with_reducible (repeat (first | exact bR _ _ | apply bS | apply bA | apply bD | refine bT ?_ (by assumption) ?_ | refine bO (by assumption) ?_ ?_))) <;> (first | omega | (simp <;> omega)))
 · cases h2 : smallB c d
   · rw [if_neg (fun h => by cases h.2)]
     go_enter Tryz.func52, Tryz.ntmps52; (try simp only [List.append_eq, List.cons_append, List.nil_append])
     go_wp2_with (first | (go_at_call 82; refine (vsmall_any _ _ _).mono ?_; rintro e w1 ⟨rfl, hb1⟩; have hz1 : w.heap.size + 3 ≤ w1.heap.size := (by have h := hb1.size; (try simp at h); omega); have hbb := Below.mono hb1 (B' := w.heap.size + 3) (by (try simp) <;> omega); clear hb1; (with_reducible apply cel2 (b := w.heap.size) hbb); ((try simp) <;> omega); omega; (iterate 2 (focus (go_simp; try exact rfl))); (intro o; go_simp); intro cc cc fz hl; (with_reducible apply cel2 (b := w.heap.size + 1) hbb); ((try simp) <;> omega); omega; (iterate 2 (focus (go_simp; try exact rfl))); (intro o; go_simp); intro cc cc fz hl; (with_reducible apply cel2 (b := w.heap.size + 1 + 1) hbb); ((try simp) <;> omega); omega; (iterate 2 (focus (go_simp; try exact rfl))); (intro o; go_simp); intro cc cc fz hl))
     refine bodyPost_ret (v := .agg #[.int .i64 0, .int .i64 0]) (by simp only [results, Tryz.results52]; go_simp) rfl ⟨?_, ?_⟩
     · rfl
     · ((with_reducible (repeat (first | exact bR _ _ | apply bS | apply bA | apply bD | refine bT ?_ (by assumption) ?_ | refine bO (by assumption) ?_ ?_))) <;> (first | omega | (simp <;> omega)))
   · rw [if_pos ⟨rfl, rfl⟩]
     obtain ⟨q1, q2, q3, q4⟩ := small_bd h1
     obtain ⟨q5, q6, q7, q8⟩ := small_bd h2
     go_enter Tryz.func52, Tryz.ntmps52; (try simp only [List.append_eq, List.cons_append, List.nil_append])
     go_wp2_with (first | (go_at_call 82; refine (vsmall_any _ _ _).mono ?_; rintro e w1 ⟨rfl, hb1⟩; have hz1 : w.heap.size + 3 ≤ w1.heap.size := (by have h := hb1.size; (try simp at h); omega); have hbb := Below.mono hb1 (B' := w.heap.size + 3) (by (try simp) <;> omega); clear hb1; (with_reducible apply cel2 (b := w.heap.size) hbb); ((try simp) <;> omega); omega; (iterate 2 (focus (go_simp; try exact rfl))); (intro o; go_simp); intro cc cc fz hl; (with_reducible apply cel2 (b := w.heap.size + 1) hbb); ((try simp) <;> omega); omega; (iterate 2 (focus (go_simp; try exact rfl))); (intro o; go_simp); intro cc cc fz hl; (with_reducible apply cel2 (b := w.heap.size + 1 + 1) hbb); ((try simp) <;> omega); omega; (iterate 2 (focus (go_simp; try exact rfl))); (intro o; go_simp); intro cc cc fz hl) | (go_at_call 83; refine (vkept_ok _ _ _).mono ?_; rintro e w1 ⟨rfl, hb1⟩; have hz1 : w.heap.size + 3 ≤ w1.heap.size := (by have h := hb1.size; (try simp at h); omega); have hbb := Below.mono hb1 (B' := w.heap.size + 3) (by (try simp) <;> omega); clear hb1; (with_reducible apply cel2 (b := w.heap.size) hbb); ((try simp) <;> omega); omega; (iterate 2 (focus (go_simp; try exact rfl))); (intro o; go_simp); intro cc cc fz hl; (with_reducible apply cel2 (b := w.heap.size + 1) hbb); ((try simp) <;> omega); omega; (iterate 2 (focus (go_simp; try exact rfl))); (intro o; go_simp); intro cc cc fz hl; (with_reducible apply cel2 (b := w.heap.size + 1 + 1) hbb); ((try simp) <;> omega); omega; (iterate 2 (focus (go_simp; try exact rfl))); (intro o; go_simp); intro cc cc fz hl))
     refine bodyPost_ret (v := .agg #[.int .i64 (keptR (a - c) (b - d)).1, .int .i64 (keptR (a - c) (b - d)).2]) (by simp only [results, Tryz.results52]; go_simp) rfl ⟨?_, ?_⟩
     · rfl
     · ((with_reducible (repeat (first | exact bR _ _ | apply bS | apply bA | apply bD | refine bT ?_ (by assumption) ?_ | refine bO (by assumption) ?_ ?_))) <;> (first | omega | (simp <;> omega)))
set_option maxHeartbeats 800000 in
theorem rsub_any (a b c d : Int) (w : World) :
  Calls Tryz.prog 37 #[.agg #[.int .i64 a, .int .i64 b], .agg #[.int .i64 c, .int .i64 d]] w fun e w' => e = .returned (.agg #[.int .i64 (subR a b c d).1, .int .i64 (subR a b c d).2]) ∧ Below w.heap.size w w' := by
 unfold subR
 cases h1 : smallB a b
 · rw [if_neg (fun h => by cases h.1)]
   go_enter Tryz.func37, Tryz.ntmps37; (try simp only [List.append_eq, List.cons_append, List.nil_append])
   go_wp2_with (first | (go_at_call 67; refine (rsmall_any _ _ _).mono ?_; rintro e w1 ⟨rfl, hb1⟩; have hz1 : w.heap.size + 3 ≤ w1.heap.size := (by have h := hb1.size; (try simp at h); omega); have hbb := Below.mono hb1 (B' := w.heap.size + 3) (by (try simp) <;> omega); clear hb1; (with_reducible apply cel2 (b := w.heap.size) hbb); ((try simp) <;> omega); omega; (iterate 2 (focus (go_simp; try exact rfl))); (intro o; go_simp); intro cc cc fz hl; (with_reducible apply cel2 (b := w.heap.size + 1) hbb); ((try simp) <;> omega); omega; (iterate 2 (focus (go_simp; try exact rfl))); (intro o; go_simp); intro cc cc fz hl; (with_reducible apply cel2 (b := w.heap.size + 1 + 1) hbb); ((try simp) <;> omega); omega; (iterate 2 (focus (go_simp; try exact rfl))); (intro o; go_simp); intro cc cc fz hl))
   refine bodyPost_ret (v := .agg #[.int .i64 0, .int .i64 0]) (by simp only [results, Tryz.results37]; go_simp) rfl ⟨?_, ?_⟩
   · rfl
   · ((with_reducible (repeat (first | exact bR _ _ | apply bS | apply bA | apply bD | refine bT ?_ (by assumption) ?_ | refine bO (by assumption) ?_ ?_))) <;> (first | omega | (simp <;> omega)))
 · cases h2 : smallB c d
   · rw [if_neg (fun h => by cases h.2)]
     go_enter Tryz.func37, Tryz.ntmps37; (try simp only [List.append_eq, List.cons_append, List.nil_append])
     go_wp2_with (first | (go_at_call 67; refine (rsmall_any _ _ _).mono ?_; rintro e w1 ⟨rfl, hb1⟩; have hz1 : w.heap.size + 3 ≤ w1.heap.size := (by have h := hb1.size; (try simp at h); omega); have hbb := Below.mono hb1 (B' := w.heap.size + 3) (by (try simp) <;> omega); clear hb1; (with_reducible apply cel2 (b := w.heap.size) hbb); ((try simp) <;> omega); omega; (iterate 2 (focus (go_simp; try exact rfl))); (intro o; go_simp); intro cc cc fz hl; (with_reducible apply cel2 (b := w.heap.size + 1) hbb); ((try simp) <;> omega); omega; (iterate 2 (focus (go_simp; try exact rfl))); (intro o; go_simp); intro cc cc fz hl; (with_reducible apply cel2 (b := w.heap.size + 1 + 1) hbb); ((try simp) <;> omega); omega; (iterate 2 (focus (go_simp; try exact rfl))); (intro o; go_simp); intro cc cc fz hl))
     refine bodyPost_ret (v := .agg #[.int .i64 0, .int .i64 0]) (by simp only [results, Tryz.results37]; go_simp) rfl ⟨?_, ?_⟩
     · rfl
     · ((with_reducible (repeat (first | exact bR _ _ | apply bS | apply bA | apply bD | refine bT ?_ (by assumption) ?_ | refine bO (by assumption) ?_ ?_))) <;> (first | omega | (simp <;> omega)))
   · rw [if_pos ⟨rfl, rfl⟩]
     obtain ⟨q1, q2, q3, q4⟩ := small_bd h1
     obtain ⟨q5, q6, q7, q8⟩ := small_bd h2
     go_enter Tryz.func37, Tryz.ntmps37; (try simp only [List.append_eq, List.cons_append, List.nil_append])
     go_wp2_with (first | (go_at_call 67; refine (rsmall_any _ _ _).mono ?_; rintro e w1 ⟨rfl, hb1⟩; have hz1 : w.heap.size + 3 ≤ w1.heap.size := (by have h := hb1.size; (try simp at h); omega); have hbb := Below.mono hb1 (B' := w.heap.size + 3) (by (try simp) <;> omega); clear hb1; (with_reducible apply cel2 (b := w.heap.size) hbb); ((try simp) <;> omega); omega; (iterate 2 (focus (go_simp; try exact rfl))); (intro o; go_simp); intro cc cc fz hl; (with_reducible apply cel2 (b := w.heap.size + 1) hbb); ((try simp) <;> omega); omega; (iterate 2 (focus (go_simp; try exact rfl))); (intro o; go_simp); intro cc cc fz hl; (with_reducible apply cel2 (b := w.heap.size + 1 + 1) hbb); ((try simp) <;> omega); omega; (iterate 2 (focus (go_simp; try exact rfl))); (intro o; go_simp); intro cc cc fz hl) | (go_at_call 68; refine (rkept_ok _ _ _).mono ?_; rintro e w1 ⟨rfl, hb1⟩; have hz1 : w.heap.size + 3 ≤ w1.heap.size := (by have h := hb1.size; (try simp at h); omega); have hbb := Below.mono hb1 (B' := w.heap.size + 3) (by (try simp) <;> omega); clear hb1; (with_reducible apply cel2 (b := w.heap.size) hbb); ((try simp) <;> omega); omega; (iterate 2 (focus (go_simp; try exact rfl))); (intro o; go_simp); intro cc cc fz hl; (with_reducible apply cel2 (b := w.heap.size + 1) hbb); ((try simp) <;> omega); omega; (iterate 2 (focus (go_simp; try exact rfl))); (intro o; go_simp); intro cc cc fz hl; (with_reducible apply cel2 (b := w.heap.size + 1 + 1) hbb); ((try simp) <;> omega); omega; (iterate 2 (focus (go_simp; try exact rfl))); (intro o; go_simp); intro cc cc fz hl))
     refine bodyPost_ret (v := .agg #[.int .i64 (keptR (a - c) (b - d)).1, .int .i64 (keptR (a - c) (b - d)).2]) (by simp only [results, Tryz.results37]; go_simp) rfl ⟨?_, ?_⟩
     · rfl
     · ((with_reducible (repeat (first | exact bR _ _ | apply bS | apply bA | apply bD | refine bT ?_ (by assumption) ?_ | refine bO (by assumption) ?_ ?_))) <;> (first | omega | (simp <;> omega)))
set_option maxHeartbeats 400000 in
theorem vdot_any (a b c d : Int) (w : World) :
  Calls Tryz.prog 51 #[.agg #[.int .i64 a, .int .i64 b], .agg #[.int .i64 c, .int .i64 d]] w fun e w' => e = .returned (.int .i64 (dotR a b c d)) ∧ Below w.heap.size w w' := by
 unfold dotR
 cases h1 : smallB a b
 · rw [if_neg (fun h => by cases h.1)]
   go_enter Tryz.func51, Tryz.ntmps51; (try simp only [List.append_eq, List.cons_append, List.nil_append])
   go_wp2_with (first | (go_at_call 82; refine (vsmall_any _ _ _).mono ?_; rintro e w1 ⟨rfl, hb1⟩; have hz1 : w.heap.size + 2 ≤ w1.heap.size := (by have h := hb1.size; (try simp at h); omega); have hbb := Below.mono hb1 (B' := w.heap.size + 2) (by (try simp) <;> omega); clear hb1; (with_reducible apply cel2 (b := w.heap.size) hbb); ((try simp) <;> omega); omega; (iterate 2 (focus (go_simp; try exact rfl))); (intro o; go_simp); intro cc cc fz hl; (with_reducible apply cel2 (b := w.heap.size + 1) hbb); ((try simp) <;> omega); omega; (iterate 2 (focus (go_simp; try exact rfl))); (intro o; go_simp); intro cc cc fz hl))
   go_ret
   refine ⟨rfl, ?_⟩
   ((with_reducible (repeat (first | exact bR _ _ | apply bS | apply bA | apply bD | refine bT ?_ (by assumption) ?_ | refine bO (by assumption) ?_ ?_))) <;> (first | omega | (simp <;> omega)))
 · cases h2 : smallB c d
   · rw [if_neg (fun h => by cases h.2)]
     go_enter Tryz.func51, Tryz.ntmps51; (try simp only [List.append_eq, List.cons_append, List.nil_append])
     go_wp2_with (first | (go_at_call 82; refine (vsmall_any _ _ _).mono ?_; rintro e w1 ⟨rfl, hb1⟩; have hz1 : w.heap.size + 2 ≤ w1.heap.size := (by have h := hb1.size; (try simp at h); omega); have hbb := Below.mono hb1 (B' := w.heap.size + 2) (by (try simp) <;> omega); clear hb1; (with_reducible apply cel2 (b := w.heap.size) hbb); ((try simp) <;> omega); omega; (iterate 2 (focus (go_simp; try exact rfl))); (intro o; go_simp); intro cc cc fz hl; (with_reducible apply cel2 (b := w.heap.size + 1) hbb); ((try simp) <;> omega); omega; (iterate 2 (focus (go_simp; try exact rfl))); (intro o; go_simp); intro cc cc fz hl))
     go_ret
     refine ⟨rfl, ?_⟩
     ((with_reducible (repeat (first | exact bR _ _ | apply bS | apply bA | apply bD | refine bT ?_ (by assumption) ?_ | refine bO (by assumption) ?_ ?_))) <;> (first | omega | (simp <;> omega)))
   · rw [if_pos ⟨rfl, rfl⟩]
     obtain ⟨q1, q2, q3, q4⟩ := small_bd h1
     obtain ⟨r1, r2, r3, r4⟩ := small_bd h2
     obtain ⟨m1, m2⟩ := mul_bd a c 1073741824 1073741824 q1 q2 r1 r2
     obtain ⟨m3, m4⟩ := mul_bd b d 1073741824 1073741824 q3 q4 r3 r4
     go_enter Tryz.func51, Tryz.ntmps51; (try simp only [List.append_eq, List.cons_append, List.nil_append])
     go_wp2_with (first | (go_at_call 82; refine (vsmall_any _ _ _).mono ?_; rintro e w1 ⟨rfl, hb1⟩; have hz1 : w.heap.size + 2 ≤ w1.heap.size := (by have h := hb1.size; (try simp at h); omega); have hbb := Below.mono hb1 (B' := w.heap.size + 2) (by (try simp) <;> omega); clear hb1; (with_reducible apply cel2 (b := w.heap.size) hbb); ((try simp) <;> omega); omega; (iterate 2 (focus (go_simp; try exact rfl))); (intro o; go_simp); intro cc cc fz hl; (with_reducible apply cel2 (b := w.heap.size + 1) hbb); ((try simp) <;> omega); omega; (iterate 2 (focus (go_simp; try exact rfl))); (intro o; go_simp); intro cc cc fz hl))
     go_ret
     refine ⟨rfl, ?_⟩
     ((with_reducible (repeat (first | exact bR _ _ | apply bS | apply bA | apply bD | refine bT ?_ (by assumption) ?_ | refine bO (by assumption) ?_ ?_))) <;> (first | omega | (simp <;> omega)))
set_option maxHeartbeats 400000 in
theorem rdot_any (a b c d : Int) (w : World) :
  Calls Tryz.prog 36 #[.agg #[.int .i64 a, .int .i64 b], .agg #[.int .i64 c, .int .i64 d]] w fun e w' => e = .returned (.int .i64 (dotR a b c d)) ∧ Below w.heap.size w w' := by
 unfold dotR
 cases h1 : smallB a b
 · rw [if_neg (fun h => by cases h.1)]
   go_enter Tryz.func36, Tryz.ntmps36; (try simp only [List.append_eq, List.cons_append, List.nil_append])
   go_wp2_with (first | (go_at_call 67; refine (rsmall_any _ _ _).mono ?_; rintro e w1 ⟨rfl, hb1⟩; have hz1 : w.heap.size + 2 ≤ w1.heap.size := (by have h := hb1.size; (try simp at h); omega); have hbb := Below.mono hb1 (B' := w.heap.size + 2) (by (try simp) <;> omega); clear hb1; (with_reducible apply cel2 (b := w.heap.size) hbb); ((try simp) <;> omega); omega; (iterate 2 (focus (go_simp; try exact rfl))); (intro o; go_simp); intro cc cc fz hl; (with_reducible apply cel2 (b := w.heap.size + 1) hbb); ((try simp) <;> omega); omega; (iterate 2 (focus (go_simp; try exact rfl))); (intro o; go_simp); intro cc cc fz hl))
   go_ret
   refine ⟨rfl, ?_⟩
   ((with_reducible (repeat (first | exact bR _ _ | apply bS | apply bA | apply bD | refine bT ?_ (by assumption) ?_ | refine bO (by assumption) ?_ ?_))) <;> (first | omega | (simp <;> omega)))
 · cases h2 : smallB c d
   · rw [if_neg (fun h => by cases h.2)]
     go_enter Tryz.func36, Tryz.ntmps36; (try simp only [List.append_eq, List.cons_append, List.nil_append])
     go_wp2_with (first | (go_at_call 67; refine (rsmall_any _ _ _).mono ?_; rintro e w1 ⟨rfl, hb1⟩; have hz1 : w.heap.size + 2 ≤ w1.heap.size := (by have h := hb1.size; (try simp at h); omega); have hbb := Below.mono hb1 (B' := w.heap.size + 2) (by (try simp) <;> omega); clear hb1; (with_reducible apply cel2 (b := w.heap.size) hbb); ((try simp) <;> omega); omega; (iterate 2 (focus (go_simp; try exact rfl))); (intro o; go_simp); intro cc cc fz hl; (with_reducible apply cel2 (b := w.heap.size + 1) hbb); ((try simp) <;> omega); omega; (iterate 2 (focus (go_simp; try exact rfl))); (intro o; go_simp); intro cc cc fz hl))
     go_ret
     refine ⟨rfl, ?_⟩
     ((with_reducible (repeat (first | exact bR _ _ | apply bS | apply bA | apply bD | refine bT ?_ (by assumption) ?_ | refine bO (by assumption) ?_ ?_))) <;> (first | omega | (simp <;> omega)))
   · rw [if_pos ⟨rfl, rfl⟩]
     obtain ⟨q1, q2, q3, q4⟩ := small_bd h1
     obtain ⟨r1, r2, r3, r4⟩ := small_bd h2
     obtain ⟨m1, m2⟩ := mul_bd a c 1073741824 1073741824 q1 q2 r1 r2
     obtain ⟨m3, m4⟩ := mul_bd b d 1073741824 1073741824 q3 q4 r3 r4
     go_enter Tryz.func36, Tryz.ntmps36; (try simp only [List.append_eq, List.cons_append, List.nil_append])
     go_wp2_with (first | (go_at_call 67; refine (rsmall_any _ _ _).mono ?_; rintro e w1 ⟨rfl, hb1⟩; have hz1 : w.heap.size + 2 ≤ w1.heap.size := (by have h := hb1.size; (try simp at h); omega); have hbb := Below.mono hb1 (B' := w.heap.size + 2) (by (try simp) <;> omega); clear hb1; (with_reducible apply cel2 (b := w.heap.size) hbb); ((try simp) <;> omega); omega; (iterate 2 (focus (go_simp; try exact rfl))); (intro o; go_simp); intro cc cc fz hl; (with_reducible apply cel2 (b := w.heap.size + 1) hbb); ((try simp) <;> omega); omega; (iterate 2 (focus (go_simp; try exact rfl))); (intro o; go_simp); intro cc cc fz hl))
     go_ret
     refine ⟨rfl, ?_⟩
     ((with_reducible (repeat (first | exact bR _ _ | apply bS | apply bA | apply bD | refine bT ?_ (by assumption) ?_ | refine bO (by assumption) ?_ ?_))) <;> (first | omega | (simp <;> omega)))
end Go.Proofs.YtgejdaincnclpaaGreat
namespace Go.Proofs.YtgejdaincnclpaaGreat
open Go Go.RowKit
set_option linter.unusedVariables false
def permB (v1 v2 w1 w2 n1 n2 : Int) : Bool := withinB v1 v2 1048576 && withinB w1 w2 1048576 && withinB n1 n2 2097152
theorem rwithin_one (n a b : Int) (g : Nat) (w : World) (n0 : 0 ≤ n) (n1 : n ≤ 1000000000) (hg : g < w.heap.size) (h0 : w.cell? ⟨g, 0, none⟩ = some (.int .i64 a)) (h1 : w.cell? ⟨g, 1, none⟩ = some (.int .i64 b)) :
  Calls Tryz.prog 63 #[.int .i64 n, .slice (some ⟨g, 0, none⟩) 1 1] w fun e w' => e = .returned (.bool (withinB a b n)) ∧ Below w.heap.size w w' := by
 have := rwithin_any n [(a, b)] (some ⟨g, 0, none⟩) 1 w (by simp) (fun k x hx => by
  rcases k with _ | k
  · simp only [List.getElem?_cons_zero, Option.some.injEq] at hx
    subst hx
    exact ⟨g, 0, rfl, hg, by simpa using h0, by simpa using h1⟩
  · simp at hx) n0 n1
 simpa [nearB] using this
theorem rwithin_two (n a b c d : Int) (g : Nat) (w : World) (n0 : 0 ≤ n) (n1 : n ≤ 1000000000) (hg : g < w.heap.size) (h0 : w.cell? ⟨g, 0, none⟩ = some (.int .i64 a)) (h1 : w.cell? ⟨g, 1, none⟩ = some (.int .i64 b)) (h2 : w.cell? ⟨g, 2, none⟩ = some (.int .i64 c)) (h3 : w.cell? ⟨g, 3, none⟩ = some (.int .i64 d)) :
  Calls Tryz.prog 63 #[.int .i64 n, .slice (some ⟨g, 0, none⟩) 2 2] w fun e w' => e = .returned (.bool (withinB a b n && withinB c d n)) ∧ Below w.heap.size w w' := by
 have := rwithin_any n [(a, b), (c, d)] (some ⟨g, 0, none⟩) 2 w (by simp) (fun k x hx => by
  rcases k with _ | _ | k
  · simp only [List.getElem?_cons_zero, Option.some.injEq] at hx
    subst hx
    exact ⟨g, 0, rfl, hg, by simpa using h0, by simpa using h1⟩
  · simp only [List.getElem?_cons_succ, List.getElem?_cons_zero, Option.some.injEq] at hx
    subst hx
    exact ⟨g, 0, rfl, hg, by simpa using h2, by simpa using h3⟩
  · simp at hx) n0 n1
 simpa [nearB] using this
set_option maxHeartbeats 4000000 in
theorem permitted_any (v1 v2 w1 w2 n1 n2 : Int) (w : World) :
  Calls Tryz.prog 50 #[.agg #[.int .i64 v1, .int .i64 v2], .agg #[.int .i64 w1, .int .i64 w2], .agg #[.int .i64 n1, .int .i64 n2]] w fun e w' => e = .returned (.bool (permB v1 v2 w1 w2 n1 n2)) ∧ Below w.heap.size w w' := by
 have k1 := fun g w => rwithin_two 1048576 v1 v2 w1 w2 g w (by omega) (by omega)
 have k2 := fun g w => rwithin_one 2097152 n1 n2 g w (by omega) (by omega)
 unfold permB
 generalize (withinB v1 v2 1048576 && withinB w1 w2 1048576) = c1 at *
 generalize withinB n1 n2 2097152 = c2 at *
 have K1 := hQ0 k1
 have K2 := hQ0 k2
 clear k1 k2
 go_enter Tryz.func50, Tryz.ntmps50; (try simp only [List.append_eq, List.cons_append, List.nil_append])
 go_wp2_with fail
 (go_at_call 63; refine (K1.out _ _ (by simp) (by go_simp) (by go_simp) (by go_simp) (by go_simp)).mono ?_; rintro e w1 ⟨rfl, hb_w1⟩; have hz_w1 := hb_w1.size; (try simp at hz_w1); (with_reducible apply cal2 (b := w.heap.size) hb_w1); (focus (go_simp; try exact ⟨rfl, rfl⟩)); intro cc cc fz hl; (with_reducible apply cal2 (b := w.heap.size + 1) hb_w1); (focus (go_simp; try exact ⟨rfl, rfl⟩)); intro cc cc fz hl; (with_reducible apply cal2 (b := w.heap.size + 1 + 1) hb_w1); (focus (go_simp; try exact ⟨rfl, rfl⟩)); intro cc cc fz hl)
 cases c1
 · go_wp2_with fail
   go_ret
   exact ⟨rfl, by ((with_reducible (repeat (first | exact bR _ _ | apply bS | apply bA | apply bD | refine bT ?_ (by assumption) ?_ | refine bO (by assumption) ?_ ?_))) <;> (first | omega | (simp <;> omega)))⟩
 · go_wp2_with fail
   (go_at_call 63; refine (K2.out _ _ (by simp) (by go_simp) (by go_simp)).mono ?_; rintro e w2 ⟨rfl, hb_w2⟩; have hz_w2 := hb_w2.size; (try simp at hz_w2); (with_reducible apply cal2 (b := w.heap.size) hb_w2); (focus (go_simp; try exact ⟨rfl, rfl⟩)); intro cc cc fz hl; (with_reducible apply cal2 (b := w.heap.size + 1) hb_w2); (focus (go_simp; try exact ⟨rfl, rfl⟩)); intro cc cc fz hl; (with_reducible apply cal2 (b := w.heap.size + 1 + 1) hb_w2); (focus (go_simp; try exact ⟨rfl, rfl⟩)); intro cc cc fz hl)
   go_wp2_with fail
   go_ret
   exact ⟨by cases c2 <;> rfl, by ((with_reducible (repeat (first | exact bR _ _ | apply bS | apply bA | apply bD | refine bT ?_ (by assumption) ?_ | refine bO (by assumption) ?_ ?_))) <;> (first | omega | (simp <;> omega)))⟩
theorem all_take_suc {α : Type} {l : List α} {p : α → Bool} {k : Nat} {x : α} (hx : l[k]? = some x) : (l.take (k + 1)).all p = ((l.take k).all p && p x) := by rw [List.take_add_one, hx]; simp
def sixB (x : Int) : Bool := decide (0 ≤ x ∧ x ≤ 15)
set_option maxHeartbeats 2000000 in
theorem sixteenths_any (l : List Int) (A : Option Addr) (c : Nat) (w : World) (hl : l.length ≤ 1000000) (hV : IAt w A l) :
  Calls Tryz.prog 84 #[.slice A l.length c] w fun e w' => e = .returned (.bool (l.all sixB)) ∧ Below w.heap.size w w' := by
 have HV := hQ0 hV
 obtain ⟨R, hR⟩ : ∃ R, R = l.all sixB := ⟨_, rfl⟩
 rw [← hR]
 have HR := hQ0 hR
 clear hV hR
 go_enter Tryz.func84, Tryz.ntmps84; (try simp only [List.append_eq, List.cons_append, List.nil_append])
 go_wp2_with fail
 go_loopw [4, 7] (fun _ t wr => ∃ k : Nat, k ≤ l.length ∧ t = .int .i64 k ∧ Hid ((l.take k).all sixB = true) ∧ Below w.heap.size w wr) (fun _ t _ => l.length - (intOf t).toNat)
 case atStart => exact ⟨0, by omega, rfl, hQ0 rfl, Below.refl _ _⟩
 case round =>
  obtain ⟨k, hk, rfl, HA, hb_wr⟩ := hrel
  have hz_wr := hb_wr.size
  have HB := hQ0 hb_wr
  have i1 : (0 : Int) ≤ (k : Int) := by omega
  by_cases hlt : k < l.length
  · obtain ⟨a, hx⟩ : ∃ x, l[k]? = some x := ⟨l[k], by simp⟩
    obtain ⟨g, o, rfl, hg, a0⟩ := (HV.out.below HB.out (Nat.le_refl _)) k _ hx
    have hall := all_take_suc (p := sixB) hx
    have HX := hQ0 hx
    have HN := hQ0 hall
    have i2 : (k : Int) < (l.length : Int) := by omega
    clear hb_wr hx hall
    by_cases hin : 0 ≤ a ∧ a ≤ 15
    · obtain ⟨j1, j2⟩ := hin
      have HN2 := hQ0 (show (l.take (k + 1)).all sixB = true by rw [HN.out, HA.out]; simp [sixB]; omega)
      go_wp2_with fail
      go_roundw
      case rel => exact ⟨k + 1, by omega, by go_num, HN2, HB.out⟩
      case measure => simp [intOf]; omega
    · have hfin : R = false := by
       rw [HR.out, List.all_eq_false]
       exact ⟨a, List.mem_of_getElem? HX.out, by simp only [sixB, decide_eq_true_eq]; exact hin⟩
      subst hfin
      have h4 : a < 0 ∨ (0 ≤ a ∧ 15 < a) := by omega
      clear hin
      rcases h4 with h4 | ⟨h4, h5⟩
      all_goals
       go_wp2_with fail
       go_ret
       exact ⟨rfl, HB.out⟩
  · obtain rfl : k = l.length := by omega
    rw [List.take_length] at HA
    have hfin : R = true := by rw [HR.out, HA.out]
    subst hfin
    clear hb_wr
    go_wp2_with fail
    go_ret
    exact ⟨rfl, HB.out⟩
theorem sixteenths_one (a : Int) (g : Nat) (w : World) (hg : g < w.heap.size) (h0 : w.cell? ⟨g, 0, none⟩ = some (.int .i64 a)) :
  Calls Tryz.prog 84 #[.slice (some ⟨g, 0, none⟩) 1 1] w fun e w' => e = .returned (.bool (sixB a)) ∧ Below w.heap.size w w' := by
 have := sixteenths_any [a] (some ⟨g, 0, none⟩) 1 w (by simp) (fun k x hx => by
  rcases k with _ | k
  · simp only [List.getElem?_cons_zero, Option.some.injEq] at hx
    subst hx
    exact ⟨g, 0, rfl, hg, by simpa using h0⟩
  · simp at hx)
 simpa using this
theorem sixteenths_two (a b : Int) (g : Nat) (w : World) (hg : g < w.heap.size) (h0 : w.cell? ⟨g, 0, none⟩ = some (.int .i64 a)) (h1 : w.cell? ⟨g, 1, none⟩ = some (.int .i64 b)) :
  Calls Tryz.prog 84 #[.slice (some ⟨g, 0, none⟩) 2 2] w fun e w' => e = .returned (.bool (sixB a && sixB b)) ∧ Below w.heap.size w w' := by
 have := sixteenths_any [a, b] (some ⟨g, 0, none⟩) 2 w (by simp) (fun k x hx => by
  rcases k with _ | _ | k
  · simp only [List.getElem?_cons_zero, Option.some.injEq] at hx
    subst hx
    exact ⟨g, 0, rfl, hg, by simpa using h0⟩
  · simp only [List.getElem?_cons_succ, List.getElem?_cons_zero, Option.some.injEq] at hx
    subst hx
    exact ⟨g, 0, rfl, hg, by simpa using h1⟩
  · simp at hx)
 simpa using this
def apprB (v1 v2 w1 w2 n1 n2 : Int) : Bool := permB v1 v2 w1 w2 n1 n2 && decide (dotR (subR v1 v2 w1 w2).1 (subR v1 v2 w1 w2).2 n1 n2 < 0)
set_option maxHeartbeats 4000000 in
theorem approaches_any (v1 v2 w1 w2 n1 n2 : Int) (w : World) :
  Calls Tryz.prog 21 #[.agg #[.int .i64 v1, .int .i64 v2], .agg #[.int .i64 w1, .int .i64 w2], .agg #[.int .i64 n1, .int .i64 n2]] w fun e w' => e = .returned (.bool (apprB v1 v2 w1 w2 n1 n2)) ∧ Below w.heap.size w w' := by
 have k1 := fun w => permitted_any v1 v2 w1 w2 n1 n2 w
 have k2 := fun w => vsub_any v1 v2 w1 w2 w
 have k3 := fun w => vdot_any (subR v1 v2 w1 w2).1 (subR v1 v2 w1 w2).2 n1 n2 w
 unfold apprB
 generalize dotR (subR v1 v2 w1 w2).1 (subR v1 v2 w1 w2).2 n1 n2 = D at *
 generalize subR v1 v2 w1 w2 = S at *
 generalize permB v1 v2 w1 w2 n1 n2 = c1 at *
 have K1 := hQ0 k1
 have K2 := hQ0 k2
 have K3 := hQ0 k3
 clear k1 k2 k3
 cases c1
 all_goals
  go_enter Tryz.func21, Tryz.ntmps21; (try simp only [List.append_eq, List.cons_append, List.nil_append])
  go_wp2_with fail
  (refine pin_wp (N := _) (Nat.le_refl _) (fun w1 hb_w1 hz_w1 => ?_); (try simp at hz_w1); (with_reducible apply cal2 (b := w.heap.size) hb_w1); (focus (go_simp; try exact ⟨rfl, rfl⟩)); intro cc cc fz hl; (with_reducible apply cal2 (b := w.heap.size + 1) hb_w1); (focus (go_simp; try exact ⟨rfl, rfl⟩)); intro cc cc fz hl; (with_reducible apply cal2 (b := w.heap.size + 1 + 1) hb_w1); (focus (go_simp; try exact ⟨rfl, rfl⟩)); intro cc cc fz hl); refine wp_region_warm (Own w1.heap.size w1) (by kernel_rfl) (by kernel_rfl) (Own.refl (Nat.le_refl _)).drew ?_
  repeat (first | (refine wpWarm_step_off rfl (fun K hK => ?_); (go_simp; refine hK _ ?_; clear hK K)) | (apply wpWarm_step rfl; (focus (intro W' hS; have hcS := hS.cells; go_simp; (first | done | exact rfl | exact ⟨rfl, hS⟩ | (go_at_call 50; exact (K1.out _).mono (fun _ _ h => ⟨h.1, hS.call h.2⟩)) | (go_at_call 52; exact (K2.out _).mono (fun _ _ h => ⟨h.1, hS.call h.2⟩)) | (go_at_call 51; exact (K3.out _).mono (fun _ _ h => ⟨h.1, hS.call h.2⟩)) | (go_simp; exact rfl)))); (intro K hK; go_simp; (try go_bits); refine hK _ ?_; clear hK K)) | (apply wpWarm_step_on rfl; (focus (intro W' hS; have hcS := hS.cells; go_simp; (first | done | exact rfl | exact ⟨rfl, hS⟩ | (go_at_call 50; exact (K1.out _).mono (fun _ _ h => ⟨h.1, hS.call h.2⟩)) | (go_at_call 52; exact (K2.out _).mono (fun _ _ h => ⟨h.1, hS.call h.2⟩)) | (go_at_call 51; exact (K3.out _).mono (fun _ _ h => ⟨h.1, hS.call h.2⟩)) | (go_simp; exact rfl)))); (intro K hK; go_simp; (try go_bits); refine hK _ ?_; clear hK K)))
  (refine wpWarm_nil ?_; intro w2 hO; have hz_w2 := hO.1; have hb_w2 := hO.2; clear hO; (with_reducible apply cel2 (b := w.heap.size) hb_w2); ((try simp) <;> omega); omega; (iterate 2 (focus (go_simp; try exact rfl))); (intro o; go_simp); intro cc cc fz hl; (with_reducible apply cel2 (b := w.heap.size + 1) hb_w2); ((try simp) <;> omega); omega; (iterate 2 (focus (go_simp; try exact rfl))); (intro o; go_simp); intro cc cc fz hl; (with_reducible apply cel2 (b := w.heap.size + 1 + 1) hb_w2); ((try simp) <;> omega); omega; (iterate 2 (focus (go_simp; try exact rfl))); (intro o; go_simp); intro cc cc fz hl)
  go_wp2_with fail
  go_ret
  exact ⟨by first | rfl | simp, by ((with_reducible (repeat (first | exact bR _ _ | apply bS | apply bA | apply bD | refine bT ?_ (by assumption) ?_ | refine bO (by assumption) ?_ ?_))) <;> (first | omega | (simp <;> omega)))⟩
set_option maxHeartbeats 400000 in
theorem rnear_any (x y n : Int) (w : World) (h0 : 0 ≤ n) (h1 : n ≤ 1000000000) :
  Calls Tryz.prog 48 #[.agg #[.int .i64 x, .int .i64 y], .int .i64 n] w fun e w' => e = .returned (.bool (withinB x y n)) ∧ Below w.heap.size w w' := by
 go_enter Tryz.func48, Tryz.ntmps48; (try simp only [List.append_eq, List.cons_append, List.nil_append])
 go_wp2
 all_goals
  go_ret
  refine ⟨ret_bool (bool_iff ?_), (Below.refl _ _).alloc (Nat.le_refl _) _⟩
  simp only [withinB, decide_eq_true_eq, Bool.false_eq_true, false_iff]; omega
theorem rspeed_any (x y : Int) (w : World) :
  Calls Tryz.prog 34 #[.agg #[.int .i64 x, .int .i64 y]] w fun e w' => e = .returned (.bool (withinB x y 1048576)) ∧ Below w.heap.size w w' := by
 go_enter Tryz.func34, Tryz.ntmps34; (try simp only [List.append_eq, List.cons_append, List.nil_append])
 go_wp2_with fail
 (go_at_call 48; refine (rnear_any _ _ _ _ (by omega) (by omega)).mono ?_; rintro e w1 ⟨rfl, hb_w1⟩; have hz_w1 := hb_w1.size; (try simp at hz_w1); (with_reducible apply cal2 (b := w.heap.size) hb_w1); (focus (go_simp; try exact ⟨rfl, rfl⟩)); intro cc cc fz hl)
 go_wp2_with fail
 go_ret
 exact ⟨rfl, by ((with_reducible (repeat (first | exact bR _ _ | apply bS | apply bA | apply bD | refine bT ?_ (by assumption) ?_ | refine bO (by assumption) ?_ ?_))) <;> (first | omega | (simp <;> omega)))⟩
theorem rdirection_any (x y : Int) (w : World) :
  Calls Tryz.prog 35 #[.agg #[.int .i64 x, .int .i64 y]] w fun e w' => e = .returned (.bool (withinB x y 2097152)) ∧ Below w.heap.size w w' := by
 go_enter Tryz.func35, Tryz.ntmps35; (try simp only [List.append_eq, List.cons_append, List.nil_append])
 go_wp2_with fail
 (go_at_call 48; refine (rnear_any _ _ _ _ (by omega) (by omega)).mono ?_; rintro e w1 ⟨rfl, hb_w1⟩; have hz_w1 := hb_w1.size; (try simp at hz_w1); (with_reducible apply cal2 (b := w.heap.size) hb_w1); (focus (go_simp; try exact ⟨rfl, rfl⟩)); intro cc cc fz hl)
 go_wp2_with fail
 go_ret
 exact ⟨rfl, by ((with_reducible (repeat (first | exact bR _ _ | apply bS | apply bA | apply bD | refine bT ?_ (by assumption) ?_ | refine bO (by assumption) ?_ ?_))) <;> (first | omega | (simp <;> omega)))⟩
set_option maxHeartbeats 4000000 in
theorem rapproaches_any (v1 v2 w1 w2 n1 n2 : Int) (w : World) :
  Calls Tryz.prog 13 #[.agg #[.int .i64 v1, .int .i64 v2], .agg #[.int .i64 w1, .int .i64 w2], .agg #[.int .i64 n1, .int .i64 n2]] w fun e w' => e = .returned (.bool (apprB v1 v2 w1 w2 n1 n2)) ∧ Below w.heap.size w w' := by
 have k1 := fun w => rspeed_any v1 v2 w
 have k4 := fun w => rspeed_any w1 w2 w
 have k5 := fun w => rdirection_any n1 n2 w
 have k2 := fun w => rsub_any v1 v2 w1 w2 w
 have k3 := fun w => rdot_any (subR v1 v2 w1 w2).1 (subR v1 v2 w1 w2).2 n1 n2 w
 unfold apprB permB
 generalize dotR (subR v1 v2 w1 w2).1 (subR v1 v2 w1 w2).2 n1 n2 = D at *
 generalize subR v1 v2 w1 w2 = S at *
 generalize withinB v1 v2 1048576 = c1 at *
 generalize withinB w1 w2 1048576 = c2 at *
 generalize withinB n1 n2 2097152 = c3 at *
 have K1 := hQ0 k1
 have K2 := hQ0 k2
 have K3 := hQ0 k3
 have K4 := hQ0 k4
 have K5 := hQ0 k5
 clear k1 k2 k3 k4 k5
 go_enter Tryz.func13, Tryz.ntmps13; (try simp only [List.append_eq, List.cons_append, List.nil_append])
 go_wp2_with fail
 (go_at_call 34; refine (K1.out _).mono ?_; rintro e w1 ⟨rfl, hb_w1⟩; have hz_w1 := hb_w1.size; (try simp at hz_w1); (with_reducible apply cal2 (b := w.heap.size) hb_w1); (focus (go_simp; try exact ⟨rfl, rfl⟩)); intro cc cc fz hl; (with_reducible apply cal2 (b := w.heap.size + 1) hb_w1); (focus (go_simp; try exact ⟨rfl, rfl⟩)); intro cc cc fz hl; (with_reducible apply cal2 (b := w.heap.size + 1 + 1) hb_w1); (focus (go_simp; try exact ⟨rfl, rfl⟩)); intro cc cc fz hl)
 cases c1
 · go_wp2_with fail
   go_ret
   exact ⟨rfl, by ((with_reducible (repeat (first | exact bR _ _ | apply bS | apply bA | apply bD | refine bT ?_ (by assumption) ?_ | refine bO (by assumption) ?_ ?_))) <;> (first | omega | (simp <;> omega)))⟩
 · go_wp2_with fail
   (go_at_call 34; refine (K4.out _).mono ?_; rintro e w2 ⟨rfl, hb_w2⟩; have hz_w2 := hb_w2.size; (try simp at hz_w2); (with_reducible apply cal2 (b := w.heap.size) hb_w2); (focus (go_simp; try exact ⟨rfl, rfl⟩)); intro cc cc fz hl; (with_reducible apply cal2 (b := w.heap.size + 1) hb_w2); (focus (go_simp; try exact ⟨rfl, rfl⟩)); intro cc cc fz hl; (with_reducible apply cal2 (b := w.heap.size + 1 + 1) hb_w2); (focus (go_simp; try exact ⟨rfl, rfl⟩)); intro cc cc fz hl)
   cases c2
   · go_wp2_with fail
     go_ret
     exact ⟨rfl, by ((with_reducible (repeat (first | exact bR _ _ | apply bS | apply bA | apply bD | refine bT ?_ (by assumption) ?_ | refine bO (by assumption) ?_ ?_))) <;> (first | omega | (simp <;> omega)))⟩
   · go_wp2_with fail
     (go_at_call 35; refine (K5.out _).mono ?_; rintro e w3 ⟨rfl, hb_w3⟩; have hz_w3 := hb_w3.size; (try simp at hz_w3); (with_reducible apply cal2 (b := w.heap.size) hb_w3); (focus (go_simp; try exact ⟨rfl, rfl⟩)); intro cc cc fz hl; (with_reducible apply cal2 (b := w.heap.size + 1) hb_w3); (focus (go_simp; try exact ⟨rfl, rfl⟩)); intro cc cc fz hl; (with_reducible apply cal2 (b := w.heap.size + 1 + 1) hb_w3); (focus (go_simp; try exact ⟨rfl, rfl⟩)); intro cc cc fz hl)
     cases c3
     · go_wp2_with fail
       go_ret
       exact ⟨rfl, by ((with_reducible (repeat (first | exact bR _ _ | apply bS | apply bA | apply bD | refine bT ?_ (by assumption) ?_ | refine bO (by assumption) ?_ ?_))) <;> (first | omega | (simp <;> omega)))⟩
     · go_wp2_with fail
       (refine pin_wp (N := _) (Nat.le_refl _) (fun w4 hb_w4 hz_w4 => ?_); (try simp at hz_w4); (with_reducible apply cal2 (b := w.heap.size) hb_w4); (focus (go_simp; try exact ⟨rfl, rfl⟩)); intro cc cc fz hl; (with_reducible apply cal2 (b := w.heap.size + 1) hb_w4); (focus (go_simp; try exact ⟨rfl, rfl⟩)); intro cc cc fz hl; (with_reducible apply cal2 (b := w.heap.size + 1 + 1) hb_w4); (focus (go_simp; try exact ⟨rfl, rfl⟩)); intro cc cc fz hl); refine wp_region_warm (Own w4.heap.size w4) (by kernel_rfl) (by kernel_rfl) (Own.refl (Nat.le_refl _)).drew ?_
       repeat (first | (refine wpWarm_step_off rfl (fun K hK => ?_); (go_simp; refine hK _ ?_; clear hK K)) | (apply wpWarm_step rfl; (focus (intro W' hS; have hcS := hS.cells; go_simp; (first | done | exact rfl | exact ⟨rfl, hS⟩ | (go_at_call 37; exact (K2.out _).mono (fun _ _ h => ⟨h.1, hS.call h.2⟩)) | (go_at_call 36; exact (K3.out _).mono (fun _ _ h => ⟨h.1, hS.call h.2⟩)) | (go_simp; exact rfl)))); (intro K hK; go_simp; (try go_bits); refine hK _ ?_; clear hK K)) | (apply wpWarm_step_on rfl; (focus (intro W' hS; have hcS := hS.cells; go_simp; (first | done | exact rfl | exact ⟨rfl, hS⟩ | (go_at_call 37; exact (K2.out _).mono (fun _ _ h => ⟨h.1, hS.call h.2⟩)) | (go_at_call 36; exact (K3.out _).mono (fun _ _ h => ⟨h.1, hS.call h.2⟩)) | (go_simp; exact rfl)))); (intro K hK; go_simp; (try go_bits); refine hK _ ?_; clear hK K)))
       (refine wpWarm_nil ?_; intro w5 hO; have hz_w5 := hO.1; have hb_w5 := hO.2; clear hO; (with_reducible apply cel2 (b := w.heap.size) hb_w5); ((try simp) <;> omega); omega; (iterate 2 (focus (go_simp; try exact rfl))); (intro o; go_simp); intro cc cc fz hl; (with_reducible apply cel2 (b := w.heap.size + 1) hb_w5); ((try simp) <;> omega); omega; (iterate 2 (focus (go_simp; try exact rfl))); (intro o; go_simp); intro cc cc fz hl; (with_reducible apply cel2 (b := w.heap.size + 1 + 1) hb_w5); ((try simp) <;> omega); omega; (iterate 2 (focus (go_simp; try exact rfl))); (intro o; go_simp); intro cc cc fz hl)
       go_wp2_with fail
       go_ret
       exact ⟨by first | rfl | simp, by ((with_reducible (repeat (first | exact bR _ _ | apply bS | apply bA | apply bD | refine bT ?_ (by assumption) ?_ | refine bO (by assumption) ?_ ?_))) <;> (first | omega | (simp <;> omega)))⟩
end Go.Proofs.YtgejdaincnclpaaGreat
namespace Go.Proofs.YtgejdaincnclpaaGreat
set_option linter.unusedVariables false
def Lim (l : List Int) : Prop := ∀ x ∈ l, 0 ≤ x ∧ x < 4294967296
def PB (k : Nat) : Int := 4294967296 ^ k
theorem PB_zero : PB 0 = 1 := rfl
theorem PB_succ (k : Nat) : PB (k + 1) = 4294967296 * PB k := by unfold PB; rw [Int.pow_succ, Int.mul_comm]
theorem PB_pos (k : Nat) : 0 < PB k := Int.pow_pos (by decide)
theorem PB_add (a b : Nat) : PB (a + b) = PB a * PB b := Int.pow_add ..
theorem PB_mono {a b : Nat} (h : a ≤ b) : PB a ≤ PB b := by
 obtain ⟨c, rfl⟩ := Nat.le.dest h
 induction c with
 | zero => exact Int.le_refl _
 | succ c ih =>
  have h1 := ih (by omega)
  have h2 := PB_pos (a + c)
  rw [← Nat.add_assoc, PB_succ]
  omega
def mv : List Int → Int
  | [] => 0
  | x :: l => x + 4294967296 * mv l
theorem mv_cons (x : Int) (l : List Int) : mv (x :: l) = x + 4294967296 * mv l := rfl
theorem Lim.nil : Lim [] := fun _ h => by cases h
theorem Lim.cons {x : Int} {l : List Int} (h0 : 0 ≤ x) (h1 : x < 4294967296) (h : Lim l) : Lim (x :: l) := by
 intro y hy
 rcases List.mem_cons.1 hy with rfl | hy
 · exact ⟨h0, h1⟩
 · exact h y hy
theorem Lim.tail {x : Int} {l : List Int} (h : Lim (x :: l)) : Lim l := fun y hy => h y (by simp [hy])
theorem Lim.take {l : List Int} (h : Lim l) (k : Nat) : Lim (l.take k) := fun y hy => h y (List.mem_of_mem_take hy)
theorem Lim.drop {l : List Int} (h : Lim l) (k : Nat) : Lim (l.drop k) := fun y hy => h y (List.mem_of_mem_drop hy)
theorem Lim.append {a b : List Int} (h : Lim a) (h' : Lim b) : Lim (a ++ b) := fun y hy => by
 rcases List.mem_append.1 hy with g | g
 · exact h y g
 · exact h' y g
theorem Lim.snoc {x : Int} {l : List Int} (h : Lim l) (h0 : 0 ≤ x) (h1 : x < 4294967296) : Lim (l ++ [x]) := h.append (Lim.cons h0 h1 Lim.nil)
theorem Lim.set {x : Int} {l : List Int} (h : Lim l) (k : Nat) (h0 : 0 ≤ x) (h1 : x < 4294967296) : Lim (l.set k x) := fun y hy => by
 rcases List.mem_or_eq_of_mem_set hy with g | rfl
 · exact h y g
 · exact ⟨h0, h1⟩
theorem Lim.get {l : List Int} (h : Lim l) {k : Nat} {x : Int} (hx : l[k]? = some x) : 0 ≤ x ∧ x < 4294967296 := h x (List.mem_of_getElem? hx)
theorem Lim.replicate (n : Nat) : Lim (List.replicate n 0) := fun y hy => by
 rw [(List.mem_replicate.1 hy).2]; omega
theorem mv_nonneg {l : List Int} (h : Lim l) : 0 ≤ mv l := by
 induction l with
 | nil => exact Int.le_refl _
 | cons x l ih =>
  have h1 := h x (by simp)
  have h2 := ih h.tail
  unfold mv
  omega
theorem mv_lt {l : List Int} (h : Lim l) : mv l < PB l.length := by
 induction l with
 | nil => exact Int.one_pos
 | cons x l ih =>
  have h1 := h x (by simp)
  have h2 := ih h.tail
  rw [List.length_cons, PB_succ]
  unfold mv
  omega
theorem mv_append (a b : List Int) : mv (a ++ b) = mv a + PB a.length * mv b := by
 induction a with
 | nil => simp [mv, PB_zero]
 | cons x a ih =>
  rw [List.cons_append, List.length_cons, PB_succ]
  rw [mv_cons, mv_cons, ih]
  grind
theorem mv_one (x : Int) : mv [x] = x := by unfold mv mv; omega
theorem mv_two (x y : Int) : mv [x, y] = x + 4294967296 * y := by unfold mv mv mv; omega
theorem mv_snoc (l : List Int) (x : Int) : mv (l ++ [x]) = mv l + PB l.length * x := by rw [mv_append, mv_one]
theorem mv_replicate (n : Nat) : mv (List.replicate n 0) = 0 := by
 induction n with
 | zero => rfl
 | succ n ih => rw [List.replicate_succ]; unfold mv; omega
theorem take_snocI {l : List Int} {k : Nat} {x : Int} (hx : l[k]? = some x) : l.take (k + 1) = l.take k ++ [x] := by rw [List.take_add_one, hx]; rfl
theorem mv_take_succ {l : List Int} {k : Nat} {x : Int} (hx : l[k]? = some x) : mv (l.take (k + 1)) = mv (l.take k) + PB k * x := by
 have hk := (List.getElem?_eq_some_iff.1 hx).1
 rw [take_snocI hx, mv_snoc, List.length_take, Nat.min_eq_left (by omega)]
theorem drop_consI {l : List Int} {k : Nat} {x : Int} (hx : l[k]? = some x) : l.drop k = x :: l.drop (k + 1) := by
 obtain ⟨hk, e⟩ := List.getElem?_eq_some_iff.1 hx
 rw [List.drop_eq_getElem_cons hk, e]
theorem mv_drop_succ {l : List Int} {k : Nat} {x : Int} (hx : l[k]? = some x) : mv (l.drop k) = x + 4294967296 * mv (l.drop (k + 1)) := by
 rw [drop_consI hx]; rfl
theorem mv_split (l : List Int) (k : Nat) (h : k ≤ l.length) : mv l = mv (l.take k) + PB k * mv (l.drop k) := by
 have e := mv_append (l.take k) (l.drop k)
 rw [List.take_append_drop, List.length_take, Nat.min_eq_left h] at e
 exact e
theorem mv_set {l : List Int} {k : Nat} {y : Int} (hy : l[k]? = some y) (x : Int) : mv (l.set k x) = mv l + PB k * (x - y) := by
 have hk := (List.getElem?_eq_some_iff.1 hy).1
 induction l generalizing k with
 | nil => simp at hk
 | cons z l ih =>
  cases k with
  | zero =>
   simp only [List.getElem?_cons_zero, Option.some.injEq] at hy
   subst hy
   rw [List.set_cons_zero, PB_zero]
   unfold mv
   omega
  | succ k =>
   simp only [List.getElem?_cons_succ] at hy
   have := ih hy (by simpa using hk)
   rw [List.set_cons_succ, PB_succ, mv_cons, mv_cons, this]
   grind
def canN (n : Nat) : List Int := if h : n = 0 then [] else ((n % 4294967296 : Nat) : Int) :: canN (n / 4294967296)
termination_by n
decreasing_by omega
theorem canN_zero : canN 0 = [] := by unfold canN; rfl
theorem canN_pos {n : Nat} (h : n ≠ 0) : canN n = ((n % 4294967296 : Nat) : Int) :: canN (n / 4294967296) := by
 rw [canN, dif_neg h]
theorem canN_lim (n : Nat) : Lim (canN n) := by
 induction n using Nat.strongRecOn with
 | ind n ih =>
  by_cases h : n = 0
  · subst h; rw [canN_zero]; exact Lim.nil
  · rw [canN_pos h]; exact Lim.cons (by omega) (by omega) (ih _ (by omega))
theorem mv_canN (n : Nat) : mv (canN n) = n := by
 induction n using Nat.strongRecOn with
 | ind n ih =>
  by_cases h : n = 0
  · subst h; rw [canN_zero]; rfl
  · rw [canN_pos h]; unfold mv; rw [ih _ (by omega)]; omega
theorem canN_last (n : Nat) : ∀ x, (canN n).getLast? = some x → x ≠ 0 := by
 induction n using Nat.strongRecOn with
 | ind n ih =>
  by_cases h : n = 0
  · subst h; rw [canN_zero]; intro x hx; cases hx
  · rw [canN_pos h]
    intro x hx
    by_cases h2 : n / 4294967296 = 0
    · rw [h2, canN_zero] at hx
      simp only [List.getLast?_singleton, Option.some.injEq] at hx
      omega
    · have h3 := canN_pos h2
      rw [h3, List.getLast?_cons_cons, ← h3] at hx
      exact ih _ (by omega) x hx
theorem canN_of {l : List Int} (h : Lim l) (hl : ∀ x, l.getLast? = some x → x ≠ 0) : l = canN (mv l).toNat := by
 induction l with
 | nil => exact canN_zero.symm
 | cons x l ih =>
  have hx := h x (by simp)
  have h0 := mv_nonneg h.tail
  have ih' := ih h.tail (fun y hy => by
   cases l with
   | nil => cases hy
   | cons z l => exact hl y (by rw [List.getLast?_cons_cons]; exact hy))
  have hne : (mv (x :: l)).toNat ≠ 0 := by
   intro hz
   have hv : mv (x :: l) = x + 4294967296 * mv l := rfl
   have h1 : mv l = 0 := by omega
   rw [h1] at ih'
   have : canN (0 : Int).toNat = [] := canN_zero
   rw [this] at ih'
   subst ih'
   have := hl x rfl
   rw [h1] at hv
   omega
  have hv : mv (x :: l) = x + 4294967296 * mv l := rfl
  rw [canN_pos hne]
  have e1 : (((mv (x :: l)).toNat % 4294967296 : Nat) : Int) = x := by omega
  have e2 : (mv (x :: l)).toNat / 4294967296 = (mv l).toNat := by omega
  rw [e1, e2, ← ih']
theorem canN_len {n k : Nat} : (canN n).length ≤ k ↔ (n : Int) < PB k := by
 constructor
 · intro h
   have h1 := mv_lt (canN_lim n)
   rw [mv_canN] at h1
   have := PB_mono h
   omega
 · intro h
   induction k generalizing n with
   | zero =>
    have : n = 0 := by rw [PB_zero] at h; omega
    subst this; rw [canN_zero]; simp
   | succ k ih =>
    by_cases h0 : n = 0
    · subst h0; rw [canN_zero]; simp
    · rw [canN_pos h0, List.length_cons]
      have := @ih (n / 4294967296) (by rw [PB_succ] at h; omega)
      omega
theorem canN_len0 {n : Nat} : (canN n).length = 0 ↔ n = 0 := by
 constructor
 · intro h
   have := mv_canN n
   rw [List.length_eq_zero_iff.1 h] at this
   unfold mv at this
   omega
 · rintro rfl; rw [canN_zero]; rfl
theorem mv_take_of_zero {l : List Int} {n : Nat} (h : ∀ k x, l[k]? = some x → n ≤ k → x = 0) : mv (l.take n) = mv l := by
 have hz : ∀ l : List Int, (∀ x ∈ l, x = 0) → mv l = 0 := by
  intro l
  induction l with
  | nil => intro _; rfl
  | cons y l ih =>
   intro hl
   have h1 := hl y (by simp)
   have h2 := ih (fun x hx => hl x (by simp [hx]))
   unfold mv
   omega
 rcases Nat.le_total l.length n with hl | hl
 · rw [List.take_of_length_le hl]
 · have h1 := mv_split l n hl
   have h2 := hz (l.drop n) (fun x hx => by
    obtain ⟨i, hi⟩ := List.getElem?_of_mem hx
    rw [List.getElem?_drop] at hi
    exact h _ x hi (by omega))
   rw [h2] at h1
   omega
theorem canN_take {l : List Int} {n : Nat} (hl : Lim l) (hn : n ≤ l.length) (h : ∀ k x, l[k]? = some x → n ≤ k → x = 0) (h1 : ∀ x, 0 < n → l[n - 1]? = some x → x ≠ 0) :
  l.take n = canN (mv l).toNat := by
 have e := canN_of (hl.take n) (fun x hx => by
  rw [List.getLast?_eq_getElem?, List.length_take, Nat.min_eq_left hn] at hx
  by_cases h0 : n = 0
  · subst h0; simp at hx
  · rw [List.getElem?_take, if_pos (by omega)] at hx
    exact h1 x (by omega) hx)
 rw [mv_take_of_zero h] at e
 exact e
def sv (neg : Bool) (m : Int) : Int := if neg = true then -m else m
end Go.Proofs.YtgejdaincnclpaaGreat
namespace Go.Proofs.YtgejdaincnclpaaGreat
open Go Go.RowKit
set_option linter.unusedVariables false
def LAt (w : World) (A : Option Addr) (l : List Int) : Prop := ∀ k x, l[k]? = some x → ∃ g o, A = some ⟨g, o, none⟩ ∧ g < w.heap.size ∧ w.cell? ⟨g, o + k, none⟩ = some (.int .u32 x)
theorem LAt.nil (w : World) (A : Option Addr) : LAt w A [] := fun k x h => by simp at h
theorem LAt.below {w w1 : World} {A : Option Addr} {l : List Int} (h : LAt w A l) (hb : Below w.heap.size w w1) : LAt w1 A l := by
 intro k x hx
 obtain ⟨g, o, hA, hg, hc⟩ := h k x hx
 exact ⟨g, o, hA, Nat.lt_of_lt_of_le hg hb.size, by rw [hb.cell (by simpa using hg)]; exact hc⟩
theorem LAt.own {w w1 : World} {A : Option Addr} {l : List Int} {N : Nat} (h : LAt w A l) (hb : Own N w w1) (hN : w.heap.size ≤ N) : LAt w1 A l := h.below (hb.2.mono hN)
theorem LAt.cl (A : Option Addr) (l : List Int) : Cl (fun w => LAt w A l) := fun _ _ h hb => h.below hb
theorem LAt.drew {w : World} {A : Option Addr} {l : List Int} (h : LAt w A l) : LAt w.drew A l := h
theorem LAt.alloc {w : World} {A : Option Addr} {l : List Int} (h : LAt w A l) (o : Obj) : LAt (w.alloc o) A l := h.below ((Below.refl _ _).alloc (Nat.le_refl _) _)
theorem LAt.take {w : World} {A : Option Addr} {l : List Int} (h : LAt w A l) (n : Nat) : LAt w A (l.take n) := by
 intro k x hx
 rw [List.getElem?_take] at hx
 split at hx
 · exact h k x hx
 · cases hx
theorem LAt.setCell {w : World} {A : Option Addr} {l : List Int} (h : LAt w A l) {p : Addr} {u : Value} (hp : w.cell? p = some u) (hu : ∀ x, u ≠ .int .u32 x) (v : Value) : LAt (w.setCell p v) A l := by
 intro k x hx
 obtain ⟨g, o, hA, hg, hc⟩ := h k x hx
 refine ⟨g, o, hA, by simpa [World.setCell] using hg, ?_⟩
 rw [World.cell?_setCell_other w p _ v (fun e => by
  subst e
  rw [hc] at hp
  exact hu x (Option.some.inj hp).symm)]
 exact hc
theorem LAt.set2 {w : World} {A : Option Addr} {l : List Int} (h : LAt w A l) {b : Nat} {b0 : Bool} {a : Option Addr} {n c : Nat} (h0 : w.cell? ⟨b, 0, none⟩ = some (.bool b0)) (h1 : w.cell? ⟨b, 1, none⟩ = some (.slice a n c)) (x y : Value) :
  LAt ((w.setCell ⟨b, 0, none⟩ x).setCell ⟨b, 1, none⟩ y) A l := by
 refine (h.setCell h0 (fun _ e => by cases e) x).setCell (u := .slice a n c) ?_ (fun _ e => by cases e) y
 rw [World.cell?_setCell_other w _ _ x (fun e => by simp at e)]
 exact h1
theorem LAt.grown {w w1 : World} {A : Option Addr} {l : List Int} {row : Option Nat} (h : LAt w A l) (hg : w.grownBy w1 row) (hne : ∀ g o, A = some ⟨g, o, none⟩ → some g ≠ row) : LAt w1 A l := by
 intro k x hx
 obtain ⟨g, o, hA, hlt, hc⟩ := h k x hx
 exact ⟨g, o, hA, Nat.lt_of_lt_of_le hlt hg.size, by rw [World.cell?_of_block (hg.block g hlt (hne g o hA))]; exact hc⟩
def OwnL (w : World) (base : Nat) (v : Value) (l : List Int) : Prop := w.ownsRow base 107 1 v l.length (l.map (Value.int .u32))
theorem OwnL.nil (w : World) (base : Nat) : OwnL w base (.slice none 0 0) [] := World.ownsRow_nil _ _ _ _
theorem OwnL.fresh {w : World} {base : Nat} {v : Value} {l : List Int} (h : OwnL w base v l) : ∀ k, v.ownBlock = some k → base ≤ k := fun k hk => (World.ownsRow.lt h k hk).1
theorem OwnL.alloc {w : World} {base : Nat} {v : Value} {l : List Int} (h : OwnL w base v l) (o : Obj) : OwnL (w.alloc o) base v l := World.ownsRow.alloc h o
theorem OwnL.below {w w1 : World} {base : Nat} {v : Value} {l : List Int} (h : OwnL w base v l) (hb : Below w.heap.size w w1) : OwnL w1 base v l := by
 obtain ⟨h1, h2⟩ := h
 refine ⟨h1, ?_⟩
 rcases h2 with h2 | ⟨g, cap, cur, hv, hg, hh, r⟩
 · exact .inl h2
 · refine .inr ⟨g, cap, cur, hv, hg, ?_, r⟩
   have hlt : g < w.heap.size := (Array.getElem?_eq_some_iff.1 hh).1
   rw [hb.block _ hlt]; exact hh
theorem OwnL.setCell {w : World} {base : Nat} {v : Value} {l : List Int} (h : OwnL w base v l) {p : Addr} (hp : p.block < base) (u : Value) : OwnL (w.setCell p u) base v l := ownsRow_setCell_below h hp u
theorem OwnL.weak {w : World} {base base' : Nat} {v : Value} {l : List Int} (h : OwnL w base v l) (hb : base' ≤ base) : OwnL w base' v l := by
 obtain ⟨h1, h2⟩ := h
 refine ⟨h1, ?_⟩
 rcases h2 with h2 | ⟨g, cap, cur, hv, hg, r⟩
 · exact .inl h2
 · exact .inr ⟨g, cap, cur, hv, by omega, r⟩
theorem OwnL.cl (base : Nat) (v : Value) (l : List Int) : Cl (fun w => OwnL w base v l) := fun _ _ h hb => h.below hb
theorem OwnL.lat {w : World} {base : Nat} {A : Option Addr} {n c : Nat} {l : List Int} (h : OwnL w base (.slice A n c) l) : LAt w A l := by
 rcases h.2 with ⟨hv, h0⟩ | ⟨g, cap, cur, hv, hb, hh, hc, hm, hs, ht⟩
 · have hl := List.length_eq_zero_iff.1 h0
   subst hl
   exact LAt.nil _ _
 · have hA : A = some ⟨g, 0, none⟩ := by injection hv
   subst hA
   refine fun k x hx => ⟨g, 0, rfl, (Array.getElem?_eq_some_iff.1 hh).1, ?_⟩
   have hcell := World.ownsRow.cells h (g := g) rfl k (.int .u32 x) (by rw [List.getElem?_map, hx]; rfl)
   unfold Addr.add at hcell
   split at hcell
   · rename_i h0; rw [h0]; exact hcell
   · exact hcell
theorem lat_of_own {w : World} {base : Nat} {v : Value} {l : List Int} (h : OwnL w base v l) :
  ∃ A c, v = .slice A l.length c ∧ l.length ≤ c ∧ c ≤ maxLen ∧ LAt w A l := by
 rcases h.2 with ⟨hv, h0⟩ | ⟨g, cap, cur, hv, hb, hh, hc, hm, hs, ht⟩
 · have hl := List.length_eq_zero_iff.1 h0
   subst hl
   exact ⟨none, 0, hv, Nat.le_refl _, Nat.zero_le _, LAt.nil _ _⟩
 · refine ⟨some ⟨g, 0, none⟩, cap, hv, hc, hm, fun k x hx => ⟨g, 0, rfl, (Array.getElem?_eq_some_iff.1 hh).1, ?_⟩⟩
   have hcell := World.ownsRow.cells h (g := g) (by rw [hv]; rfl) k (.int .u32 x) (by rw [List.getElem?_map, hx]; rfl)
   unfold Addr.add at hcell
   split at hcell
   · rename_i h0; rw [h0]; exact hcell
   · exact hcell
theorem limbInfo : (Tryz.prog.info? 107).map (fun i => (i.zero, i.size, i.bytes)) = some (some (.int .u32 0), 1, 4) := by kernel_rfl
theorem run_append_limbs (w : World) (base : Nat) (ty : TypeId) (v : Value) (n : Nat) (xs : List Value) (hown : w.ownsRow base 107 1 v n xs)
  (A : Option Addr) (c : Nat) (l : List Int) (hA : LAt w A l) (h63 : n + l.length ≤ maxLen) (hbytes : (n + l.length) * 4 ≤ 140737488355328) (hbase : base ≤ w.heap.size) :
  ∃ v' w', (Builtin.append_ #[42, 42] ty #[v, .slice A l.length c]).run Tryz.prog w = .ok v' w' ∧ w'.ownsRow base 107 1 v' (n + l.length) (xs ++ l.map (Value.int .u32)) ∧ w.grownBy w' v.ownBlock ∧ (v'.ownBlock = v.ownBlock ∨ v'.ownBlock = some w.heap.size) := by
 obtain ⟨i, hi, hz, hs, hb⟩ := info_parts limbInfo
 by_cases h0 : l = []
 · subst h0
   cases A with
   | none =>
    refine ⟨v, w, ?_, by simpa using hown, World.grownBy.refl w _, .inl rfl⟩
    rcases hown.2 with ⟨rfl, rfl⟩ | ⟨g, cap, cur, rfl, _, _, hnc, _⟩
    · simp [Builtin.append_, run_underlying Tryz.underlying42, sizeOf, typeInfo, hi, Builtin.lenOf, Builtin.firstCells]
    · simp [Builtin.append_, run_underlying Tryz.underlying42, sizeOf, typeInfo, hi, Builtin.lenOf, Builtin.firstCells, hnc, storeCells]
   | some a =>
    obtain ⟨v', w', h1, h2, h3, _, h5⟩ := run_append_own_at (P := Tryz.prog) w base 42 ty 107 i _ 1 4 Tryz.underlying42 hi hz hs hb rfl (by decide) v n xs hown a 0 c [] (by simp) (by simp) (by simp) (by simpa using h63) (by simpa using hbytes) hbase
    exact ⟨v', w', h1, by simpa using h2, h3, h5⟩
 · obtain ⟨x, hx⟩ : ∃ x, l[0]? = some x := by
    cases l with
    | nil => exact absurd rfl h0
    | cons x l => exact ⟨x, rfl⟩
   obtain ⟨g, o, rfl, _, _⟩ := hA 0 x hx
   obtain ⟨v', w', h1, h2, h3, _, h5⟩ := run_append_own_at (P := Tryz.prog) w base 42 ty 107 i _ 1 4 Tryz.underlying42 hi hz hs hb rfl (by decide) v n xs hown ⟨g, o, none⟩ l.length c (l.map (Value.int .u32)) (by simp) (fun j u hu => by
    rw [List.getElem?_map] at hu
    obtain ⟨y, hy, rfl⟩ := Option.map_eq_some_iff.1 hu
    obtain ⟨g', o', he, _, hc⟩ := hA j y hy
    simp only [Option.some.injEq, Addr.mk.injEq] at he
    obtain ⟨rfl, rfl, _⟩ := he
    unfold Addr.add
    split
    · rename_i h; rw [h, Nat.add_zero] at hc; exact hc
    · exact hc) (fun u hu => by obtain ⟨y, _, rfl⟩ := List.mem_map.1 hu; rfl) h63 hbytes hbase
   exact ⟨v', w', h1, h2, h3, h5⟩
theorem wpList_append_limbs {w : World} {ops : Array Oper} {rest : List Oper} {o : Oper} {a : Act} {Q : Exit → Act → World → Prop} (hgd : o.guard = none) (s x : Operand)
  (ho : o.op = .call { callee := .builtin .append, args := #[s, x], argTypes := #[42, 42] })
  (base : Nat) (v : Value) (xs : List Int) (hs : a.eval s = v) (hown : OwnL w base v xs)
  (A : Option Addr) (c : Nat) (l : List Int) (hx : a.eval x = .slice A l.length c) (hA : LAt w A l) (h63 : xs.length + l.length ≤ 1000000000) (hbase : base ≤ w.heap.size)
  (h : ∀ v' w', OwnL w' base v' (xs ++ l) → w.grownBy w' v.ownBlock → wpList Tryz.prog ops Q rest (a.put o.dst v') w') : wpList Tryz.prog ops Q (o :: rest) a w := by
 refine wpList_plain hgd fun K hK => ?_
 obtain ⟨v', w', hrun, h2, h3, _⟩ := run_append_limbs w base o.type v _ _ hown A c l hA (by unfold maxLen; omega) (by omega) hbase
 unfold Oper.wp execOp
 simp only [ho, resolve, invoke, builtin, Sem.run_bind, Sem.run_pure, Result.andThen_ok, List.map_toArray, List.map_cons, List.map_nil, hs, hx, hrun]
 exact hK _ _ (h v' w' (by unfold OwnL; rw [List.length_append, List.map_append]; exact h2) h3)
theorem wpList_append_limbs2 {w : World} {ops : Array Oper} {rest : List Oper} {o : Oper} {a : Act} {Q : Exit → Act → World → Prop} (hgd : o.guard = none) (s x : Operand)
  (ho : o.op = .call { callee := .builtin .append, args := #[s, x], argTypes := #[42, 42] })
  (base : Nat) (v : Value) (xs : List Int) (hs : a.eval s = v) (hown : OwnL w base v xs)
  (A : Option Addr) (c : Nat) (l : List Int) (hx : a.eval x = .slice A l.length c) (hA : LAt w A l) (h63 : xs.length + l.length ≤ 1000000000) (hbase : base ≤ w.heap.size)
  (h : ∀ v' w', OwnL w' base v' (xs ++ l) → w.grownBy w' v.ownBlock → (v'.ownBlock = v.ownBlock ∨ v'.ownBlock = some w.heap.size) → wpList Tryz.prog ops Q rest (a.put o.dst v') w') : wpList Tryz.prog ops Q (o :: rest) a w := by
 refine wpList_plain hgd fun K hK => ?_
 obtain ⟨v', w', hrun, h2, h3, h5⟩ := run_append_limbs w base o.type v _ _ hown A c l hA (by unfold maxLen; omega) (by omega) hbase
 unfold Oper.wp execOp
 simp only [ho, resolve, invoke, builtin, Sem.run_bind, Sem.run_pure, Result.andThen_ok, List.map_toArray, List.map_cons, List.map_nil, hs, hx, hrun]
 exact hK _ _ (h v' w' (by unfold OwnL; rw [List.length_append, List.map_append]; exact h2) h3 h5)
def SlOut (m : Nat) (w : World) (e : Ending) (w' : World) : Prop := Below w.heap.size w w' ∧ ∃ A c, e = .returned (.slice A (canN m).length c) ∧ (canN m).length ≤ c ∧ LAt w' A (canN m)
def SlOwn (m : Nat) (w : World) (e : Ending) (w' : World) : Prop := Below w.heap.size w w' ∧ ∃ A c, e = .returned (.slice A (canN m).length c) ∧ (canN m).length ≤ c ∧ OwnL w' w.heap.size (.slice A (canN m).length c) (canN m)
theorem SlOwn.out {m : Nat} {w : World} {e : Ending} {w' : World} (h : SlOwn m w e w') : SlOut m w e w' := by
 obtain ⟨hb, A, c, h1, h2, h3⟩ := h
 exact ⟨hb, A, c, h1, h2, h3.lat⟩
def IsC (w : World) (v : Value) (z : Int) : Prop := ∃ A c, v = .agg #[.bool (decide (z < 0)), .slice A (canN z.natAbs).length c] ∧ (canN z.natAbs).length ≤ c ∧ LAt w A (canN z.natAbs)
def IsZ (w : World) (v : Value) (n : Nat) (z : Int) : Prop := ∃ neg A c l, v = .agg #[.bool neg, .slice A l.length c] ∧ l.length ≤ c ∧ Lim l ∧ l.length ≤ n ∧ LAt w A l ∧ z = sv neg (mv l)
theorem IsC.below {w w1 : World} {v : Value} {z : Int} (h : IsC w v z) (hb : Below w.heap.size w w1) : IsC w1 v z := by
 obtain ⟨A, c, h1, h2, h3⟩ := h
 exact ⟨A, c, h1, h2, h3.below hb⟩
theorem IsC.cl (v : Value) (z : Int) : Cl (fun w => IsC w v z) := fun _ _ h hb => h.below hb
theorem IsZ.below {w w1 : World} {v : Value} {n : Nat} {z : Int} (h : IsZ w v n z) (hb : Below w.heap.size w w1) : IsZ w1 v n z := by
 obtain ⟨neg, A, c, l, h1, h2, h3, h4, h5, h6⟩ := h
 exact ⟨neg, A, c, l, h1, h2, h3, h4, h5.below hb, h6⟩
theorem IsZ.cl (v : Value) (n : Nat) (z : Int) : Cl (fun w => IsZ w v n z) := fun _ _ h hb => h.below hb
theorem IsC.z {w : World} {v : Value} {z : Int} (h : IsC w v z) (n : Nat) (hn : (z.natAbs : Int) < PB n) : IsZ w v n z := by
 obtain ⟨A, c, h1, h2, h3⟩ := h
 refine ⟨_, A, c, _, h1, h2, canN_lim _, canN_len.2 hn, h3, ?_⟩
 rw [mv_canN]
 unfold sv
 split <;> rename_i hh <;> simp at hh <;> omega
def ZOut (z : Int) (w : World) (e : Ending) (w' : World) : Prop := Below w.heap.size w w' ∧ ∃ v, e = .returned v ∧ IsC w' v z
def ZOwn (z : Int) (w : World) (e : Ending) (w' : World) : Prop := Below w.heap.size w w' ∧ ∃ A c, e = .returned (.agg #[.bool (decide (z < 0)), .slice A (canN z.natAbs).length c]) ∧ (canN z.natAbs).length ≤ c ∧ OwnL w' w.heap.size (.slice A (canN z.natAbs).length c) (canN z.natAbs)
theorem ZOwn.out {z : Int} {w : World} {e : Ending} {w' : World} (h : ZOwn z w e w') : ZOut z w e w' := by
 obtain ⟨hb, A, c, h1, h2, h3⟩ := h
 exact ⟨hb, _, h1, A, c, rfl, h2, h3.lat⟩
theorem sv_neg_mk (neg : Bool) (l : List Int) (hl : Lim l) : ((neg && decide (0 < (canN (mv l).toNat).length)) = decide (sv neg (mv l) < 0)) ∧ (sv neg (mv l)).natAbs = (mv l).toNat := by
 have h0 := mv_nonneg hl
 have h1 := @canN_len0 (mv l).toNat
 constructor
 · cases neg
   · simp [sv]; omega
   · rw [Bool.true_and]
     apply decide_eq_decide.2
     simp only [sv, if_true]
     constructor
     · intro h
       have : (mv l).toNat ≠ 0 := fun e => by have := h1.2 e; omega
       omega
     · intro h
       rcases Nat.eq_zero_or_pos (canN (mv l).toNat).length with e | e
       · have := h1.1 e; omega
       · exact e
 · unfold sv; split <;> omega
theorem canN_len_le {l : List Int} (hL : Lim l) : (canN (mv l).toNat).length ≤ l.length := by
 rw [canN_len]
 have h1 := mv_lt hL
 have h0 := mv_nonneg hL
 omega
set_option maxHeartbeats 1000000 in
theorem mag_own (A : Option Addr) (l : List Int) (c : Nat) (w : World) (hL : Lim l) (hA : LAt w A l) (hc : l.length ≤ c) (hn : l.length ≤ 1000000) :
  Calls Tryz.prog 70 #[.slice A l.length c] w (SlOwn (mv l).toNat w) := by
 have HL := hQ0 hL
 have HA := hQ0 hA
 clear hL hA
 go_enter Tryz.func70, Tryz.ntmps70; (try simp only [List.append_eq, List.cons_append, List.nil_append])
 go_wp2_with fail
 go_loop [3] (fun vn => ∃ k : Nat, k ≤ l.length ∧ vn = .int .i64 k ∧ Hid (∀ j x, l[j]? = some x → k ≤ j → x = 0)) (fun vn => (intOf vn).toNat)
 case atStart => exact ⟨l.length, Nat.le_refl _, rfl, hQ0 (fun j x hx hj => by have := (List.getElem?_eq_some_iff.1 hx).1; omega)⟩
 case round =>
  obtain ⟨k, hk, rfl, HZ⟩ := hrel
  have fin : Hid (∀ (hz : ∀ x, 0 < k → l[k - 1]? = some x → x ≠ 0), l.take k = canN (mv l).toNat) := hQ0 (fun hz => canN_take HL.out hk HZ.out hz)
  rcases k with _ | j
  · have hfin := fin.out (fun x h _ => absurd h (by omega))
    rw [List.take_zero] at hfin
    have HF := hQ0 hfin
    clear hfin fin
    go_wp2_with (at_builtin; go_must (refine wpList_append_limbs rfl _ _ rfl w.heap.size (.slice none 0 0) [] rfl (OwnL.nil _ _) A c [] rfl (LAt.nil _ _) (by simp) (Nat.le_refl _) ?_))
    intro v1 w1 hown hg1
    have hb1 : Below w.heap.size w w1 := (Below.refl _ _).grown hg1 (Nat.le_refl _) (by simp [Value.ownBlock])
    obtain ⟨A1, c1, rfl, hc1, _, hA1⟩ := lat_of_own hown
    have hA1 := hQ0 hown
    clear hown hg1
    go_wp2_with fail
    go_ret
    exact ⟨hb1, A1, c1, by rw [← HF.out]; rfl, by rw [← HF.out]; exact hc1, by rw [← HF.out]; exact hA1.out⟩
  · obtain ⟨x, hx⟩ : ∃ x, l[j]? = some x := ⟨l[j], by simp⟩
    obtain ⟨g, o, rfl, hg, hcell⟩ := HA.out j x hx
    have HX := hQ0 hx
    have i1 : (0 : Int) ≤ (j : Int) := by omega
    have i2 : (j : Int) < (l.length : Int) := by omega
    have i3 : (0 : Int) < (j : Int) + 1 := by omega
    have i4 : (l.length : Int) ≤ 1000000 := by omega
    clear hx
    by_cases h0 : x = 0
    · subst h0
      clear fin
      go_wp2_with fail
      go_round
      case rel =>
       refine ⟨j, by omega, rfl, hQ0 (fun i y hy hj => ?_)⟩
       rcases Nat.lt_or_ge i (j + 1) with h | h
       · obtain rfl : i = j := by omega
         have := HX.out
         rw [hy] at this
         exact Option.some.inj this
       · exact HZ.out i y hy h
      case measure => simp [intOf]
    · have hne : (x == 0) = false := by simp [h0]
      have hfin := fin.out (fun y _ hy => by
       rw [Nat.add_sub_cancel, HX.out] at hy
       rw [← Option.some.inj hy]; exact h0)
      have HF := hQ0 hfin
      have hlt : (l.take (j + 1)).length = j + 1 := by rw [List.length_take]; omega
      have HT := hQ0 hlt
      have hAt := HA.out.take (j + 1)
      have HAt := hQ0 hAt
      clear hfin fin hlt hAt h0
      go_wp2_with (at_builtin; go_must (refine wpList_append_limbs rfl _ _ rfl w.heap.size (.slice none 0 0) [] rfl (OwnL.nil _ _) (some ⟨g, o, none⟩) c (l.take (j + 1)) (by rw [HT.out]; rfl) HAt.out (by rw [HT.out, List.length_nil]; omega) (Nat.le_refl _) ?_))
      intro v1 w1 hown hg1
      have hb1 : Below w.heap.size w w1 := (Below.refl _ _).grown hg1 (Nat.le_refl _) (by simp [Value.ownBlock])
      obtain ⟨A1, c1, rfl, hc1, _, hA1⟩ := lat_of_own hown
      have HA1 := hQ0 hown
      have HC1 := hQ0 hc1
      clear hown hg1 hA1 hc1
      go_wp2_with fail
      go_ret
      exact ⟨hb1, A1, c1, by rw [← HF.out]; rfl, by rw [← HF.out]; exact HC1.out, by rw [← HF.out]; exact HA1.out⟩
theorem mag_any (A : Option Addr) (l : List Int) (c : Nat) (w : World) (hL : Lim l) (hA : LAt w A l) (hc : l.length ≤ c) (hn : l.length ≤ 1000000) :
  Calls Tryz.prog 70 #[.slice A l.length c] w (SlOut (mv l).toNat w) := (mag_own A l c w hL hA hc hn).mono fun _ _ h => h.out
set_option maxHeartbeats 1000000 in
theorem make1_own (neg : Bool) (A : Option Addr) (l : List Int) (c : Nat) (w : World) (hL : Lim l) (hA : LAt w A l) (hc : l.length ≤ c) (hn : l.length ≤ 1000000) :
  Calls Tryz.prog 71 #[.bool neg, .slice A l.length c] w (ZOwn (sv neg (mv l)) w) := by
 obtain ⟨hs1, hs2⟩ := sv_neg_mk neg l hL
 have hm := fun w hA => mag_own A l c w hL hA hc hn
 obtain ⟨Z, hZ⟩ : ∃ Z, Z = sv neg (mv l) := ⟨_, rfl⟩
 obtain ⟨m, hmm⟩ : ∃ m, m = (mv l).toNat := ⟨_, rfl⟩
 rw [← hZ, ← hmm] at hs1
 rw [← hZ, ← hmm] at hs2
 rw [← hmm] at hm
 rw [← hZ]
 have HM := hQ0 hm
 have H1 := hQ0 hs1
 have H2 := hQ0 hs2
 have HA := hQ0 hA
 clear hm hs1 hs2 hA hZ hmm
 cases neg
 · go_enter Tryz.func71, Tryz.ntmps71; (try simp only [List.append_eq, List.cons_append, List.nil_append])
   go_wp2_with fail
   (go_at_call 70; refine (HM.out _ (HA.out.alloc _)).mono ?_; rintro e w1 ⟨hb_w1, A1, c1, rfl, hc1, hA1⟩; have hz_w1 := hb_w1.size; (try simp at hz_w1); (with_reducible apply cal2 (b := w.heap.size) hb_w1); (focus (go_simp; try exact ⟨rfl, rfl⟩)); intro cc cc fz hl)
   have HC := hQ0 hc1
   have HA1 := hQ0 hA1
   clear hc1 hA1
   go_wp2_with fail
   refine bodyPost_ret (v := .agg #[.bool false, .slice A1 (canN m).length c1]) (by simp only [results, Tryz.results71]; go_simp) rfl ⟨?_, ?_⟩
   · ((with_reducible (repeat (first | exact bR _ _ | apply bS | apply bA | apply bD | refine bT ?_ (by assumption) ?_ | refine bO (by assumption) ?_ ?_))) <;> (first | omega | (simp <;> omega)))
   · have hh := H2.out
     have h1 := H1.out
     subst hh
     exact ⟨A1, c1, by rw [← h1]; rfl, HC.out, ((HA1.out.setCell (by simp) _).setCell (by simp) _).weak (by simp)⟩
 · go_enter Tryz.func71, Tryz.ntmps71; (try simp only [List.append_eq, List.cons_append, List.nil_append])
   go_wp2_with fail
   (go_at_call 70; refine (HM.out _ (HA.out.alloc _)).mono ?_; rintro e w1 ⟨hb_w1, A1, c1, rfl, hc1, hA1⟩; have hz_w1 := hb_w1.size; (try simp at hz_w1); (with_reducible apply cal2 (b := w.heap.size) hb_w1); (focus (go_simp; try exact ⟨rfl, rfl⟩)); intro cc cc fz hl)
   have HC := hQ0 hc1
   have HA1 := hQ0 hA1
   clear hc1 hA1
   go_wp2_with fail
   refine bodyPost_ret (v := .agg #[.bool (decide (0 < (canN m).length)), .slice A1 (canN m).length c1]) (by simp only [results, Tryz.results71]; go_simp) rfl ⟨?_, ?_⟩
   · ((with_reducible (repeat (first | exact bR _ _ | apply bS | apply bA | apply bD | refine bT ?_ (by assumption) ?_ | refine bO (by assumption) ?_ ?_))) <;> (first | omega | (simp <;> omega)))
   · have hh := H2.out
     have h1 := H1.out
     subst hh
     exact ⟨A1, c1, by rw [← h1]; rfl, HC.out, ((HA1.out.setCell (by simp) _).setCell (by simp) _).weak (by simp)⟩
theorem make1_any (neg : Bool) (A : Option Addr) (l : List Int) (c : Nat) (w : World) (hL : Lim l) (hA : LAt w A l) (hc : l.length ≤ c) (hn : l.length ≤ 1000000) :
  Calls Tryz.prog 71 #[.bool neg, .slice A l.length c] w (ZOut (sv neg (mv l)) w) := (make1_own neg A l c w hL hA hc hn).mono fun _ _ h => h.out
set_option maxHeartbeats 1000000 in
theorem neg_any (n : Nat) (v : Value) (z : Int) (w : World) (h : IsZ w v n z) (hn : n ≤ 1000000) :
  Calls Tryz.prog 107 #[v] w (ZOut (-z) w) := by
 obtain ⟨neg, A, c, l, rfl, hc, hL, hl, hA, rfl⟩ := h
 have hm := fun w hA => make1_any (!neg) A l c w hL hA hc (by omega)
 have e : sv (!neg) (mv l) = -sv neg (mv l) := by cases neg <;> simp [sv]
 rw [e] at hm
 have HM := hQ0 hm
 have HA := hQ0 hA
 clear hm hA e
 go_enter Tryz.func107, Tryz.ntmps107; (try simp only [List.append_eq, List.cons_append, List.nil_append])
 go_wp2_with fail
 (go_at_call 71; refine (HM.out _ ((HA.out.alloc _).alloc _)).mono ?_; rintro e w1 ⟨hb_w1, v1, rfl, hv1⟩; have hz_w1 := hb_w1.size; (try simp at hz_w1); (with_reducible apply cal2 (b := w.heap.size) hb_w1); (focus (go_simp; try exact ⟨rfl, rfl⟩)); intro cc cc fz hl; (with_reducible apply cal2 (b := w.heap.size + 1) hb_w1); (focus (go_simp; try exact ⟨rfl, rfl⟩)); intro cc cc fz hl)
 obtain ⟨A1, c1, rfl, hc1, hA1⟩ := hv1
 have HC := hQ0 hc1
 have HA1 := hQ0 hA1
 clear hc1 hA1
 go_wp2_with fail
 refine bodyPost_ret (v := .agg #[.bool (decide (-sv neg (mv l) < 0)), .slice A1 (canN (-sv neg (mv l)).natAbs).length c1]) (by simp only [results, Tryz.results107]; go_simp) rfl ⟨?_, ?_⟩
 · ((with_reducible (repeat (first | exact bR _ _ | apply bS | apply bA | apply bD | refine bT ?_ (by assumption) ?_ | refine bO (by assumption) ?_ ?_))) <;> (first | omega | (simp <;> omega)))
 · exact ⟨_, rfl, A1, c1, rfl, HC.out, HA1.out.set2 (by assumption) (by assumption) _ _⟩
theorem lat_two {w : World} {b : Nat} {x y : Int} (hb : b < w.heap.size) (h0 : w.cell? ⟨b, 0, none⟩ = some (.int .u32 x)) (h1 : w.cell? ⟨b, 1, none⟩ = some (.int .u32 y)) : LAt w (some ⟨b, 0, none⟩) [x, y] := by
 intro k z hz
 refine ⟨b, 0, rfl, hb, ?_⟩
 rcases k with _ | _ | k
 · simp at hz; subst hz; exact h0
 · simp at hz; subst hz; exact h1
 · simp at hz
theorem lat_one {w : World} {b : Nat} {x : Int} (hb : b < w.heap.size) (h0 : w.cell? ⟨b, 0, none⟩ = some (.int .u32 x)) : LAt w (some ⟨b, 0, none⟩) [x] := by
 intro k z hz
 refine ⟨b, 0, rfl, hb, ?_⟩
 rcases k with _ | k
 · simp at hz; subst hz; exact h0
 · simp at hz
theorem make1_two (neg : Bool) (b : Nat) (x y z : Int) (w : World) (hb : b < w.heap.size) (h0 : w.cell? ⟨b, 0, none⟩ = some (.int .u32 x)) (h1 : w.cell? ⟨b, 1, none⟩ = some (.int .u32 y))
  (x0 : 0 ≤ x) (x1 : x < 4294967296) (y0 : 0 ≤ y) (y1 : y < 4294967296) (hz : z = sv neg (x + 4294967296 * y)) :
  Calls Tryz.prog 71 #[.bool neg, .slice (some ⟨b, 0, none⟩) 2 2] w (ZOut z w) := by
 have := make1_any neg (some ⟨b, 0, none⟩) [x, y] 2 w (Lim.cons x0 x1 (Lim.cons y0 y1 Lim.nil)) (lat_two hb h0 h1) (by simp) (by simp)
 rw [mv_two, ← hz] at this
 exact this
set_option maxHeartbeats 1000000 in
theorem of_any (n : Int) (w : World) (h1 : -9223372036854775808 ≤ n) (h2 : n ≤ 9223372036854775807) :
  Calls Tryz.prog 44 #[.int .i64 n] w (ZOut n w) := by
 rcases Int.lt_or_le n 0 with h | h
 · have e1 : IntKind.u64.wrap (-IntKind.u64.wrap n) = -n := by rw [IntKind.wrap_u64, IntKind.wrap_u64]; omega
   go_enter Tryz.func44, Tryz.ntmps44; (try simp only [List.append_eq, List.cons_append, List.nil_append])
   go_wp2_with fail
   clear e1
   (go_at_call 71; refine (make1_two _ _ (-n % 4294967296) (-n / 4294967296) n _ (by simp) (by go_simp) (by go_simp) (by omega) (by omega) (by omega) (by omega) (by unfold sv; rw [if_pos rfl]; omega)).mono ?_; rintro e w1 ⟨hb_w1, v1, rfl, hv1⟩; have hz_w1 := hb_w1.size; (try simp at hz_w1); (with_reducible apply cal2 (b := w.heap.size) hb_w1); (focus (go_simp; try exact ⟨rfl, rfl⟩)); intro cc cc fz hl)
   obtain ⟨A1, c1, rfl, hc1, hA1⟩ := hv1
   have HC := hQ0 hc1
   have HA1 := hQ0 hA1
   clear hc1 hA1
   go_wp2_with fail
   refine bodyPost_ret (v := .agg #[.bool (decide (n < 0)), .slice A1 (canN n.natAbs).length c1]) (by simp only [results, Tryz.results44]; go_simp) rfl ⟨?_, ?_⟩
   · ((with_reducible (repeat (first | exact bR _ _ | apply bS | apply bA | apply bD | refine bT ?_ (by assumption) ?_ | refine bO (by assumption) ?_ ?_))) <;> (first | omega | (simp <;> omega)))
   · exact ⟨_, rfl, A1, c1, rfl, HC.out, HA1.out.set2 (by assumption) (by assumption) _ _⟩
 · have hn : ¬ n < 0 := by omega
   go_enter Tryz.func44, Tryz.ntmps44; (try simp only [List.append_eq, List.cons_append, List.nil_append])
   go_wp2_with fail
   (go_at_call 71; refine (make1_two _ _ (n % 4294967296) (n / 4294967296) n _ (by simp) (by go_simp) (by go_simp) (by omega) (by omega) (by omega) (by omega) (by unfold sv; rw [if_neg (by simp)]; omega)).mono ?_; rintro e w1 ⟨hb_w1, v1, rfl, hv1⟩; have hz_w1 := hb_w1.size; (try simp at hz_w1); (with_reducible apply cal2 (b := w.heap.size) hb_w1); (focus (go_simp; try exact ⟨rfl, rfl⟩)); intro cc cc fz hl)
   obtain ⟨A1, c1, rfl, hc1, hA1⟩ := hv1
   have HC := hQ0 hc1
   have HA1 := hQ0 hA1
   clear hc1 hA1
   go_wp2_with fail
   refine bodyPost_ret (v := .agg #[.bool (decide (n < 0)), .slice A1 (canN n.natAbs).length c1]) (by simp only [results, Tryz.results44]; go_simp) rfl ⟨?_, ?_⟩
   · ((with_reducible (repeat (first | exact bR _ _ | apply bS | apply bA | apply bD | refine bT ?_ (by assumption) ?_ | refine bO (by assumption) ?_ ?_))) <;> (first | omega | (simp <;> omega)))
   · exact ⟨_, rfl, A1, c1, rfl, HC.out, HA1.out.set2 (by assumption) (by assumption) _ _⟩
def sgn (z : Int) : Int := if z = 0 then 0 else if z < 0 then -1 else 1
set_option maxHeartbeats 1000000 in
theorem sign_any (n : Nat) (v : Value) (z : Int) (w : World) (h : IsZ w v n z) (hn : n ≤ 1000000) :
  Calls Tryz.prog 77 #[v] w fun e w' => e = .returned (.int .i64 (sgn z)) ∧ Below w.heap.size w w' := by
 obtain ⟨neg, A, c, l, rfl, hc, hL, hl, hA, rfl⟩ := h
 have hm := fun w hA => mag_any A l c w hL hA hc (by omega)
 have hv0 := mv_nonneg hL
 have h00 := @canN_len0 (mv l).toNat
 have HM := hQ0 hm
 have HA := hQ0 hA
 obtain ⟨m, hmm⟩ : ∃ m, m = (mv l).toNat := ⟨_, rfl⟩
 rw [← hmm] at h00 hm
 have HM := hQ0 hm
 by_cases h0 : (canN m).length = 0
 · have h1 : mv l = 0 := by have := h00.1 h0; omega
   have e : sgn (sv neg (mv l)) = 0 := by rw [h1]; cases neg <;> rfl
   rw [e]
   have e0 : (((canN m).length : Int) == 0) = true := by rw [h0]; rfl
   clear hm hA e h1 h0 h00 hmm hv0
   go_enter Tryz.func77, Tryz.ntmps77; (try simp only [List.append_eq, List.cons_append, List.nil_append])
   go_wp2_with fail
   (go_at_call 70; refine (HM.out _ (HA.out.alloc _)).mono ?_; rintro e w1 ⟨hb_w1, A1, c1, rfl, hc1, hA1⟩; have hz_w1 := hb_w1.size; (try simp at hz_w1); (with_reducible apply cal2 (b := w.heap.size) hb_w1); (focus (go_simp; try exact ⟨rfl, rfl⟩)); intro cc cc fz hl)
   clear hc1 hA1
   go_wp2_with fail
   go_ret
   exact ⟨rfl, by ((with_reducible (repeat (first | exact bR _ _ | apply bS | apply bA | apply bD | refine bT ?_ (by assumption) ?_ | refine bO (by assumption) ?_ ?_))) <;> (first | omega | (simp <;> omega)))⟩
 · have h1 : mv l ≠ 0 := fun e => h0 (h00.2 (by omega))
   have e : sgn (sv neg (mv l)) = if neg = true then -1 else 1 := by
    have hp : 0 < mv l := by omega
    cases neg
    · show sgn (mv l) = 1; unfold sgn; rw [if_neg (by omega), if_neg (by omega)]
    · show sgn (-(mv l)) = -1; unfold sgn; rw [if_neg (by omega), if_pos (by omega)]
   rw [e]
   have e0 : (((canN m).length : Int) == 0) = false := by rw [beq_eq_false_iff_ne]; omega
   clear hm hA e h1 h0 h00 hmm hv0
   cases neg
   all_goals
    go_enter Tryz.func77, Tryz.ntmps77; (try simp only [List.append_eq, List.cons_append, List.nil_append])
    go_wp2_with fail
    (go_at_call 70; refine (HM.out _ (HA.out.alloc _)).mono ?_; rintro e w1 ⟨hb_w1, A1, c1, rfl, hc1, hA1⟩; have hz_w1 := hb_w1.size; (try simp at hz_w1); (with_reducible apply cal2 (b := w.heap.size) hb_w1); (focus (go_simp; try exact ⟨rfl, rfl⟩)); intro cc cc fz hl)
    clear hc1 hA1
    go_wp2_with fail
    go_ret
    exact ⟨rfl, by ((with_reducible (repeat (first | exact bR _ _ | apply bS | apply bA | apply bD | refine bT ?_ (by assumption) ?_ | refine bO (by assumption) ?_ ?_))) <;> (first | omega | (simp <;> omega)))⟩
theorem canN_lt {x y : Nat} (h : (canN x).length < (canN y).length) : x < y := by
 rcases Nat.lt_or_ge x y with h1 | h1
 · exact h1
 · have h2 : (y : Int) < PB (canN x).length := by
    have h3 := (@canN_len x (canN x).length).1 (Nat.le_refl _)
    omega
   have := (@canN_len y (canN x).length).2 h2
   omega
theorem mv_lt_of {l1 l2 : List Int} (h1 : Lim l1) (h2 : Lim l2) (hl : l1.length = l2.length) {j : Nat} {x y : Int} (hx : l1[j]? = some x) (hy : l2[j]? = some y) (hd : l1.drop (j + 1) = l2.drop (j + 1)) (hxy : x < y) : mv l1 < mv l2 := by
 have hj := (List.getElem?_eq_some_iff.1 hx).1
 have a1 := mv_split l1 j (by omega)
 have a2 := mv_split l2 j (by omega)
 have b1 := mv_drop_succ hx
 have b2 := mv_drop_succ hy
 have c1 := mv_lt (h1.take j)
 have c2 := mv_nonneg (h2.take j)
 rw [List.length_take, Nat.min_eq_left (by omega)] at c1
 rw [hd] at b1
 have hp := PB_pos j
 have : PB j * (mv (l1.drop j) + 1) ≤ PB j * mv (l2.drop j) := Int.mul_le_mul_of_nonneg_left (by omega) (by omega)
 rw [Int.mul_add] at this
 omega
def cmpI (a b : Int) : Int := if a < b then -1 else if b < a then 1 else 0
theorem cmpI_lt {a b : Int} (h : a < b) : cmpI a b = -1 := if_pos h
theorem cmpI_gt {a b : Int} (h : b < a) : cmpI a b = 1 := by unfold cmpI; rw [if_neg (by omega), if_pos h]
theorem cmpI_self (a : Int) : cmpI a a = 0 := by unfold cmpI; rw [if_neg (by omega), if_neg (by omega)]
set_option maxHeartbeats 1000000 in
theorem cmpmag_same (A B : Option Addr) (l1 l2 : List Int) (c d : Nat) (w : World) (h1 : Lim l1) (h2 : Lim l2) (hl : l1.length = l2.length) (hn : l1.length ≤ 1000000) (hA : LAt w A l1) (hB : LAt w B l2) :
  Calls Tryz.prog 73 #[.slice A l1.length c, .slice B l2.length d] w fun e w' => e = .returned (.int .i64 (cmpI (mv l1) (mv l2))) ∧ Below w.heap.size w w' := by
 obtain ⟨R, hR⟩ : ∃ R, R = cmpI (mv l1) (mv l2) := ⟨_, rfl⟩
 rw [← hR]
 have HR := hQ0 hR
 have HA := hQ0 hA
 have HB := hQ0 hB
 have HLI := hQ0 h1
 have HL2 := hQ0 h2
 rw [← hl]
 have HL := hQ0 hl
 clear hR hA hB h1 h2 hl
 go_enter Tryz.func73, Tryz.ntmps73; (try simp only [List.append_eq, List.cons_append, List.nil_append])
 go_wp2_with fail
 go_loopw [5] (fun vi wr => ∃ k : Nat, k ≤ l1.length ∧ vi = .int .i64 ((k : Int) - 1) ∧ Hid (l1.drop k = l2.drop k) ∧ Below w.heap.size w wr) (fun vi _ => (intOf vi + 1).toNat)
 case atStart => exact ⟨l1.length, Nat.le_refl _, rfl, hQ0 (by rw [List.drop_length, HL.out, List.drop_length]), Below.refl _ _⟩
 case round =>
  obtain ⟨k, hk, rfl, HD, hbel⟩ := hrel
  rcases k with _ | j
  · have hfin : R = 0 := by
     have := HD.out
     rw [List.drop_zero, List.drop_zero] at this
     rw [HR.out, this]; exact cmpI_self _
    subst hfin
    go_wp2_with fail
    go_ret
    exact ⟨rfl, hbel⟩
  · obtain ⟨x, hx⟩ : ∃ x, l1[j]? = some x := ⟨l1[j], by simp⟩
    obtain ⟨y, hy⟩ : ∃ y, l2[j]? = some y := ⟨l2[j]'(by have := HL.out; omega), by simp⟩
    obtain ⟨g, o, rfl, hg, hc1⟩ := HA.out.below hbel j x hx
    obtain ⟨g', o', rfl, hg', hc2⟩ := HB.out.below hbel j y hy
    have HX := hQ0 hx
    have HY := hQ0 hy
    have HB1 := hQ0 hbel
    have i1 : (0 : Int) ≤ (j : Int) := by omega
    have i2 : (j : Int) < (l1.length : Int) := by omega
    have i3 : (l1.length : Int) ≤ 1000000 := by omega
    have hz := hbel.size
    clear hx hy hbel
    by_cases hxy : x = y
    · subst hxy
      have b1 : (x != x) = false := by simp
      go_wp2_with fail
      refine wp_region_warm (Own wr.heap.size wr) (by kernel_rfl) (by kernel_rfl) (Own.refl (Nat.le_refl _)).drew ?_
      repeat (first | (refine wpWarm_step_off rfl (fun K hK => ?_); (go_simp; refine hK _ ?_; clear hK K)) | (apply wpWarm_step rfl; (focus (intro W' hS; have hcS := hS.cells; go_simp; (first | done | exact rfl | exact ⟨rfl, hS⟩ | (go_simp; exact rfl)))); (intro K hK; go_simp; (try go_bits); refine hK _ ?_; clear hK K)) | (apply wpWarm_step_on rfl; (focus (intro W' hS; have hcS := hS.cells; go_simp; (first | done | exact rfl | exact ⟨rfl, hS⟩ | (go_simp; exact rfl)))); (intro K hK; go_simp; (try go_bits); refine hK _ ?_; clear hK K)))
      refine wpWarm_nil ?_
      intro w4 hO
      go_wp2_with fail
      go_roundw
      case rel => exact ⟨j, by omega, rfl, hQ0 (by rw [drop_consI HX.out, drop_consI HY.out, HD.out]), HB1.out.trans (hO.2.mono hz)⟩
      case measure => simp [intOf]
    · have b1 : (x != y) = true := by simp [hxy]
      have hlt : x < y → R = -1 := fun h => by rw [HR.out]; exact cmpI_lt (mv_lt_of HLI.out HL2.out HL.out HX.out HY.out HD.out h)
      have hgt : y < x → R = 1 := fun h => by rw [HR.out]; exact cmpI_gt (mv_lt_of HL2.out HLI.out HL.out.symm HY.out HX.out HD.out.symm h)
      have HLT := hQ0 hlt
      have HGT := hQ0 hgt
      have HNE := hQ0 hxy
      clear hlt hgt hxy
      go_wp2_with fail
      refine wp_region_warm (Own wr.heap.size wr) (by kernel_rfl) (by kernel_rfl) (Own.refl (Nat.le_refl _)).drew ?_
      repeat (first | (refine wpWarm_step_off rfl (fun K hK => ?_); (go_simp; refine hK _ ?_; clear hK K)) | (apply wpWarm_step rfl; (focus (intro W' hS; have hcS := hS.cells; go_simp; (first | done | exact rfl | exact ⟨rfl, hS⟩ | (go_simp; exact rfl)))); (intro K hK; go_simp; (try go_bits); refine hK _ ?_; clear hK K)) | (apply wpWarm_step_on rfl; (focus (intro W' hS; have hcS := hS.cells; go_simp; (first | done | exact rfl | exact ⟨rfl, hS⟩ | (go_simp; exact rfl)))); (intro K hK; go_simp; (try go_bits); refine hK _ ?_; clear hK K)))
      refine wpWarm_nil ?_
      intro w4 hO
      have HB4 := hQ0 (HB1.out.trans (hO.2.mono hz))
      have d1 : w4.cell? ⟨g, o + j, none⟩ = some (.int .u32 x) := by rw [hO.cells.1 g _ hg]; exact hc1
      have d2 : w4.cell? ⟨g', o' + j, none⟩ = some (.int .u32 y) := by rw [hO.cells.1 g' _ hg']; exact hc2
      have hg4 : g < w4.heap.size := Nat.lt_of_lt_of_le hg hO.1
      have hg4' : g' < w4.heap.size := Nat.lt_of_lt_of_le hg' hO.1
      have hz4 := HB4.out.size
      clear hc1 hc2 hO
      by_cases hlt : x < y
      · have hR := HLT.out hlt
        subst hR
        go_wp2_with fail
        refine wp_region_warm (Own w4.heap.size w4) (by kernel_rfl) (by kernel_rfl) (Own.refl (Nat.le_refl _)).drew ?_
        repeat (first | (refine wpWarm_step_off rfl (fun K hK => ?_); (go_simp; refine hK _ ?_; clear hK K)) | (apply wpWarm_step rfl; (focus (intro W' hS; have hcS := hS.cells; go_simp; (first | done | exact rfl | exact ⟨rfl, hS⟩ | (go_simp; exact rfl)))); (intro K hK; go_simp; (try go_bits); refine hK _ ?_; clear hK K)) | (apply wpWarm_step_on rfl; (focus (intro W' hS; have hcS := hS.cells; go_simp; (first | done | exact rfl | exact ⟨rfl, hS⟩ | (go_simp; exact rfl)))); (intro K hK; go_simp; (try go_bits); refine hK _ ?_; clear hK K)))
        refine wpWarm_nil ?_
        intro w5 hO
        go_wp2_with fail
        go_ret
        exact ⟨rfl, HB4.out.trans (hO.2.mono hz4)⟩
      · have hR := HGT.out (by have := HNE.out; omega)
        subst hR
        go_wp2_with fail
        refine wp_region_warm (Own w4.heap.size w4) (by kernel_rfl) (by kernel_rfl) (Own.refl (Nat.le_refl _)).drew ?_
        repeat (first | (refine wpWarm_step_off rfl (fun K hK => ?_); (go_simp; refine hK _ ?_; clear hK K)) | (apply wpWarm_step rfl; (focus (intro W' hS; have hcS := hS.cells; go_simp; (first | done | exact rfl | exact ⟨rfl, hS⟩ | (go_simp; exact rfl)))); (intro K hK; go_simp; (try go_bits); refine hK _ ?_; clear hK K)) | (apply wpWarm_step_on rfl; (focus (intro W' hS; have hcS := hS.cells; go_simp; (first | done | exact rfl | exact ⟨rfl, hS⟩ | (go_simp; exact rfl)))); (intro K hK; go_simp; (try go_bits); refine hK _ ?_; clear hK K)))
        refine wpWarm_nil ?_
        intro w5 hO
        go_wp2_with fail
        go_ret
        exact ⟨rfl, HB4.out.trans (hO.2.mono hz4)⟩
set_option maxHeartbeats 1000000 in
theorem cmpmag_any (A B : Option Addr) (x y c d : Nat) (w : World) (hn : (canN x).length ≤ 1000000) (hn' : (canN y).length ≤ 1000000) (hA : LAt w A (canN x)) (hB : LAt w B (canN y)) :
  Calls Tryz.prog 73 #[.slice A (canN x).length c, .slice B (canN y).length d] w fun e w' => e = .returned (.int .i64 (cmpI x y)) ∧ Below w.heap.size w w' := by
 by_cases hl : (canN x).length = (canN y).length
 · have := cmpmag_same A B (canN x) (canN y) c d w (canN_lim _) (canN_lim _) hl hn hA hB
   rw [mv_canN, mv_canN] at this
   exact this
 · have hne : (((canN x).length : Int) != ((canN y).length : Int)) = true := by rw [bne_iff_ne]; omega
   clear hA hB
   rcases Nat.lt_or_ge (canN x).length (canN y).length with h | h
   · have hR : cmpI x y = -1 := cmpI_lt (by have := canN_lt h; omega)
     rw [hR]
     have h' : ((canN x).length : Int) < ((canN y).length : Int) := by omega
     clear hR hl
     go_enter Tryz.func73, Tryz.ntmps73; (try simp only [List.append_eq, List.cons_append, List.nil_append])
     go_wp2_with fail
     go_ret
     exact ⟨rfl, Below.refl _ _⟩
   · have hR : cmpI x y = 1 := cmpI_gt (by have := canN_lt (show (canN y).length < (canN x).length by omega); omega)
     rw [hR]
     have h' : ¬ ((canN x).length : Int) < ((canN y).length : Int) := by omega
     clear hR hl
     go_enter Tryz.func73, Tryz.ntmps73; (try simp only [List.append_eq, List.cons_append, List.nil_append])
     go_wp2_with fail
     go_ret
     exact ⟨rfl, Below.refl _ _⟩
def MOut (K : Nat) (m : Int) (w : World) (e : Ending) (w' : World) : Prop := Below w.heap.size w w' ∧ ∃ A c l, e = .returned (.slice A l.length c) ∧ l.length ≤ c ∧ Lim l ∧ l.length ≤ K ∧ mv l = m ∧ LAt w' A l
theorem mv_take_getD (l : List Int) (k : Nat) : mv (l.take (k + 1)) = mv (l.take k) + PB k * (l[k]?).getD 0 := by
 rcases Nat.lt_or_ge k l.length with h | h
 · rw [List.getElem?_eq_getElem h]; exact mv_take_succ (List.getElem?_eq_getElem h)
 · rw [List.getElem?_eq_none h, List.take_of_length_le h, List.take_of_length_le (by omega)]; simp
theorem add_step {a b out : List Int} {k : Nat} {cc x y s : Int} (hk : out.length = k) (h : mv out + PB k * cc = mv (a.take k) + mv (b.take k)) (hx : (a[k]?).getD 0 = x) (hy : (b[k]?).getD 0 = y) (hs : s = cc + x + y) :
  mv (out ++ [s % 4294967296]) + PB (k + 1) * (s / 4294967296) = mv (a.take (k + 1)) + mv (b.take (k + 1)) := by
 rw [mv_snoc, hk, PB_succ, mv_take_getD, mv_take_getD, hx, hy]
 have e : s = s % 4294967296 + 4294967296 * (s / 4294967296) := by omega
 have e2 : PB k * s = PB k * (s % 4294967296) + 4294967296 * PB k * (s / 4294967296) := by
  conv => lhs; rw [e]
  rw [Int.mul_add]
  grind
 have e3 : PB k * s = PB k * cc + PB k * x + PB k * y := by rw [hs]; grind
 omega
theorem getD_some {l : List Int} {k : Nat} {x : Int} (h : l[k]? = some x) : (l[k]?).getD 0 = x := by rw [h]; rfl
theorem getD_none {l : List Int} {k : Nat} (h : l.length ≤ k) : (l[k]?).getD 0 = 0 := by rw [List.getElem?_eq_none h]; rfl
set_option maxRecDepth 100000 in
set_option maxHeartbeats 2000000 in
theorem addmag_any (A B : Option Addr) (a b : List Int) (c d : Nat) (w : World) (ha : Lim a) (hb : Lim b) (hn : a.length ≤ 1000000) (hn' : b.length ≤ 1000000) (hA : LAt w A a) (hB : LAt w B b) :
  Calls Tryz.prog 72 #[.slice A a.length c, .slice B b.length d] w (MOut (max a.length b.length + 1) (mv a + mv b) w) := by
 obtain ⟨M, hM⟩ : ∃ M, M = max a.length b.length := ⟨_, rfl⟩
 rw [← hM]
 have m1 : a.length ≤ M := by omega
 have m2 : b.length ≤ M := by omega
 have m3 : M ≤ 1000000 := by omega
 have m4 : M ≤ a.length ∨ M ≤ b.length := by omega
 have HA := hQ0 hA
 have HB := hQ0 hB
 have HLA := hQ0 ha
 have HLB := hQ0 hb
 have M4 := hQ0 m4
 clear hA hB ha hb hM m4
 go_enter Tryz.func72, Tryz.ntmps72; (try simp only [List.append_eq, List.cons_append, List.nil_append])
 go_wp2_with fail
 go_loopw [5, 6, 7] (fun v vc vi wr => ∃ (k : Nat) (cc : Int) (out : List Int), k ≤ M + 1 ∧ vi = .int .i64 k ∧ vc = .int .u64 cc ∧ 0 ≤ cc ∧ cc ≤ 1 ∧ (k ≤ M ∨ cc = 0) ∧ OwnL wr w.heap.size v out ∧ Hid (Lim out ∧ out.length = k ∧ mv out + PB k * cc = mv (a.take k) + mv (b.take k)) ∧ Below w.heap.size w wr) (fun _ _ vi _ => (M + 1 - (intOf vi).toNat))
 case atStart => exact ⟨0, 0, [], by omega, rfl, rfl, by omega, by omega, by omega, OwnL.nil _ _, hQ0 ⟨Lim.nil, rfl, by simp [mv]⟩, Below.refl _ _⟩
 case round =>
  obtain ⟨k, cc, out, hk, rfl, rfl, c0, c1, hkc, hown, HO, hbel⟩ := hrel
  have i1 : (0 : Int) ≤ (k : Int) := by omega
  have i3 : (k : Int) ≤ 1000001 := by omega
  have hz := hbel.size
  have HBE := hQ0 hbel
  have HOW := hQ0 hown
  clear hbel hown
  by_cases hka : k < a.length
  · obtain ⟨x, hx⟩ : ∃ x, a[k]? = some x := ⟨a[k], by simp⟩
    obtain ⟨g, o, rfl, hg, hcg⟩ := HA.out.below HBE.out k x hx
    obtain ⟨x0, x1⟩ := HLA.out.get hx
    have Hx := hQ0 hx
    have j1 : (k : Int) < (a.length : Int) := by omega
    clear hx
    by_cases hkb : k < b.length
    · obtain ⟨y, hx⟩ : ∃ x, b[k]? = some x := ⟨b[k], by simp⟩
      obtain ⟨f, p, rfl, hf, hcf⟩ := HB.out.below HBE.out k y hx
      obtain ⟨y0, y1⟩ := HLB.out.get hx
      have Hy := hQ0 hx
      have j2 : (k : Int) < (b.length : Int) := by omega
      clear hx
      have HST := hQ0 (add_step (s := cc + x + y) HO.out.2.1 HO.out.2.2 (getD_some Hx.out) (getD_some Hy.out) (by omega))
      have q1 : 0 ≤ cc + x := by omega
      have q2 : cc + x < 18446744073709551616 := by omega
      have q3 : 0 ≤ cc + x + y := by omega
      have q4 : cc + x + y < 18446744073709551616 := by omega
      have hol : out.length ≤ 1000001 := by have := HO.out.2.1; omega
      go_wp2_with (at_builtin; go_must (refine wpList_append_limbs rfl _ _ rfl w.heap.size _ out rfl (HOW.out.alloc _) (some ⟨wr.heap.size, 0, none⟩) 1 [(cc + x + y) % 4294967296] rfl (lat_one (by simp) (by go_simp)) (by simp; omega) (by simp; omega) ?_))
      intro v1 w1 hown1 hg1
      have HB1 := hQ0 ((HBE.out.alloc hz _).grown hg1 (by simp; omega) HOW.out.fresh)
      have HO1 := hQ0 hown1
      clear hg1 hown1
      go_wp2_with fail
      go_roundw
      case rel => exact ⟨k + 1, (cc + x + y) / 4294967296, out ++ [(cc + x + y) % 4294967296], by omega, by go_num, rfl, by omega, by omega, by omega, HO1.out, hQ0 ⟨HO.out.1.snoc (by omega) (by omega), by rw [List.length_append, HO.out.2.1]; rfl, HST.out⟩, HB1.out⟩
      case measure => simp [intOf]; omega
    · have j2 : ¬ (k : Int) < (b.length : Int) := by omega
      have HST := hQ0 (add_step (s := cc + x) HO.out.2.1 HO.out.2.2 (getD_some Hx.out) (getD_none (by omega)) (by omega))
      have q1 : 0 ≤ cc + x := by omega
      have q2 : cc + x < 18446744073709551616 := by omega
      have hol : out.length ≤ 1000001 := by have := HO.out.2.1; omega
      go_wp2_with (at_builtin; go_must (refine wpList_append_limbs rfl _ _ rfl w.heap.size _ out rfl (HOW.out.alloc _) (some ⟨wr.heap.size, 0, none⟩) 1 [(cc + x) % 4294967296] rfl (lat_one (by simp) (by go_simp)) (by simp; omega) (by simp; omega) ?_))
      intro v1 w1 hown1 hg1
      have HB1 := hQ0 ((HBE.out.alloc hz _).grown hg1 (by simp; omega) HOW.out.fresh)
      have HO1 := hQ0 hown1
      clear hg1 hown1
      go_wp2_with fail
      go_roundw
      case rel => exact ⟨k + 1, (cc + x) / 4294967296, out ++ [(cc + x) % 4294967296], by omega, by go_num, rfl, by omega, by omega, by omega, HO1.out, hQ0 ⟨HO.out.1.snoc (by omega) (by omega), by rw [List.length_append, HO.out.2.1]; rfl, HST.out⟩, HB1.out⟩
      case measure => simp [intOf]; omega
  · have j1 : ¬ (k : Int) < (a.length : Int) := by omega
    by_cases hkb : k < b.length
    · obtain ⟨y, hx⟩ : ∃ x, b[k]? = some x := ⟨b[k], by simp⟩
      obtain ⟨f, p, rfl, hf, hcf⟩ := HB.out.below HBE.out k y hx
      obtain ⟨y0, y1⟩ := HLB.out.get hx
      have Hy := hQ0 hx
      have j2 : (k : Int) < (b.length : Int) := by omega
      clear hx
      have HST := hQ0 (add_step (s := cc + y) HO.out.2.1 HO.out.2.2 (getD_none (by omega)) (getD_some Hy.out) (by omega))
      have q3 : 0 ≤ cc + y := by omega
      have q4 : cc + y < 18446744073709551616 := by omega
      have hol : out.length ≤ 1000001 := by have := HO.out.2.1; omega
      go_wp2_with (at_builtin; go_must (refine wpList_append_limbs rfl _ _ rfl w.heap.size _ out rfl (HOW.out.alloc _) (some ⟨wr.heap.size, 0, none⟩) 1 [(cc + y) % 4294967296] rfl (lat_one (by simp) (by go_simp)) (by simp; omega) (by simp; omega) ?_))
      intro v1 w1 hown1 hg1
      have HB1 := hQ0 ((HBE.out.alloc hz _).grown hg1 (by simp; omega) HOW.out.fresh)
      have HO1 := hQ0 hown1
      clear hg1 hown1
      go_wp2_with fail
      go_roundw
      case rel => exact ⟨k + 1, (cc + y) / 4294967296, out ++ [(cc + y) % 4294967296], by omega, by go_num, rfl, by omega, by omega, by omega, HO1.out, hQ0 ⟨HO.out.1.snoc (by omega) (by omega), by rw [List.length_append, HO.out.2.1]; rfl, HST.out⟩, HB1.out⟩
      case measure => simp [intOf]; omega
    · have j2 : ¬ (k : Int) < (b.length : Int) := by omega
      by_cases hcc : cc = 0
      · subst hcc
        have HF := hQ0 (show mv out = mv a + mv b by
         have h := HO.out.2.2
         rw [List.take_of_length_le (by omega), List.take_of_length_le (by omega)] at h
         omega)
        have hol : out.length ≤ M + 1 := by have := HO.out.2.1; omega
        obtain ⟨A1, c1, rfl, hc1, _, hA1⟩ := lat_of_own HOW.out
        have HA1 := hQ0 hA1
        clear hA1
        go_wp2_with fail
        go_ret
        exact ⟨HBE.out, A1, c1, out, rfl, hc1, HO.out.1, hol, HF.out, HA1.out⟩
      · obtain rfl : cc = 1 := by omega
        have HST := hQ0 (add_step (s := 1) HO.out.2.1 HO.out.2.2 (getD_none (by omega)) (getD_none (by omega)) (by omega))
        have hol : out.length ≤ 1000001 := by have := HO.out.2.1; omega
        go_wp2_with (at_builtin; go_must (refine wpList_append_limbs rfl _ _ rfl w.heap.size _ out rfl (HOW.out.alloc _) (some ⟨wr.heap.size, 0, none⟩) 1 [(1) % 4294967296] rfl (lat_one (by simp) (by go_simp)) (by simp; omega) (by simp; omega) ?_))
        intro v1 w1 hown1 hg1
        have HB1 := hQ0 ((HBE.out.alloc hz _).grown hg1 (by simp; omega) HOW.out.fresh)
        have HO1 := hQ0 hown1
        clear hg1 hown1
        go_wp2_with fail
        go_roundw
        case rel => exact ⟨k + 1, (1) / 4294967296, out ++ [(1) % 4294967296], by omega, by go_num, rfl, by omega, by omega, by omega, HO1.out, hQ0 ⟨HO.out.1.snoc (by omega) (by omega), by rw [List.length_append, HO.out.2.1]; rfl, HST.out⟩, HB1.out⟩
        case measure => simp [intOf]; omega
theorem sub_step {a b out : List Int} {k : Nat} {cc x y D : Int} (hk : out.length = k) (h : mv out - PB k * cc = mv (a.take k) - mv (b.take k)) (hx : (a[k]?).getD 0 = x) (hy : (b[k]?).getD 0 = y)
  (hD : D % 4294967296 - 4294967296 * (D / 9223372036854775808) = x - y - cc) :
  mv (out ++ [D % 4294967296]) - PB (k + 1) * (D / 9223372036854775808) = mv (a.take (k + 1)) - mv (b.take (k + 1)) := by
 rw [mv_snoc, hk, PB_succ, mv_take_getD, mv_take_getD, hx, hy]
 have e2 : PB k * (D % 4294967296) - 4294967296 * PB k * (D / 9223372036854775808) = PB k * x - PB k * y - PB k * cc := by
  rw [← Int.mul_sub, ← Int.mul_sub, ← hD, Int.mul_sub]
  grind
 omega
theorem word_sub {x y cc I D : Int} (x0 : 0 ≤ x) (x1 : x < 4294967296) (y0 : 0 ≤ y) (y1 : y < 4294967296) (c0 : 0 ≤ cc) (c1 : cc ≤ 1) (hI : I = IntKind.u64.wrap (x - y)) (hD : D = IntKind.u64.wrap (I - cc)) :
  D % 4294967296 - 4294967296 * (D / 9223372036854775808) = x - y - cc ∧ 0 ≤ D ∧ D < 18446744073709551616 ∧ 0 ≤ D / 9223372036854775808 ∧ D / 9223372036854775808 ≤ 1 := by
 rw [IntKind.wrap_u64] at hI hD
 omega
set_option maxRecDepth 100000 in
set_option maxHeartbeats 2000000 in
theorem submag_any (A B : Option Addr) (a b : List Int) (c d : Nat) (w : World) (ha : Lim a) (hb : Lim b) (hn : a.length ≤ 1000000) (hn' : b.length ≤ a.length) (hle : mv b ≤ mv a) (hA : LAt w A a) (hB : LAt w B b) :
  Calls Tryz.prog 74 #[.slice A a.length c, .slice B b.length d] w (MOut a.length (mv a - mv b) w) := by
 have HA := hQ0 hA
 have HB := hQ0 hB
 have HLA := hQ0 ha
 have HLB := hQ0 hb
 have HLE := hQ0 hle
 clear hA hB ha hb hle
 go_enter Tryz.func74, Tryz.ntmps74; (try simp only [List.append_eq, List.cons_append, List.nil_append])
 go_wp2_with fail
 go_loopw [5, 6, 7, 8, 9] (fun v vc vi _ _ wr => ∃ (k : Nat) (cc : Int) (out : List Int), k ≤ a.length ∧ vi = .int .i64 k ∧ vc = .int .u64 cc ∧ 0 ≤ cc ∧ cc ≤ 1 ∧ OwnL wr w.heap.size v out ∧ Hid (Lim out ∧ out.length = k ∧ mv out - PB k * cc = mv (a.take k) - mv (b.take k)) ∧ Below w.heap.size w wr) (fun _ _ vi _ _ _ => (a.length - (intOf vi).toNat))
 case atStart => exact ⟨0, 0, [], by omega, rfl, rfl, by omega, by omega, OwnL.nil _ _, hQ0 ⟨Lim.nil, rfl, by simp [mv]⟩, Below.refl _ _⟩
 case round =>
  obtain ⟨k, cc, out, hk, rfl, rfl, c0, c1, hown, HO, hbel⟩ := hrel
  have i1 : (0 : Int) ≤ (k : Int) := by omega
  have i3 : (k : Int) ≤ 1000000 := by omega
  have hz := hbel.size
  have HBE := hQ0 hbel
  have HOW := hQ0 hown
  clear hbel hown
  by_cases hka : k < a.length
  · obtain ⟨x, hx⟩ : ∃ x, a[k]? = some x := ⟨a[k], by simp⟩
    obtain ⟨g, o, rfl, hg, hc1⟩ := HA.out.below HBE.out k x hx
    obtain ⟨x0, x1⟩ := HLA.out.get hx
    have HX := hQ0 hx
    have j1 : (k : Int) < (a.length : Int) := by omega
    clear hx
    by_cases hkb : k < b.length
    · obtain ⟨y, hy⟩ : ∃ y, b[k]? = some y := ⟨b[k], by simp⟩
      obtain ⟨g', o', rfl, hg', hc2⟩ := HB.out.below HBE.out k y hy
      obtain ⟨y0, y1⟩ := HLB.out.get hy
      have HY := hQ0 hy
      have j2 : (k : Int) < (b.length : Int) := by omega
      obtain ⟨I, hI⟩ : ∃ I, I = IntKind.u64.wrap (x - y) := ⟨_, rfl⟩
      obtain ⟨D, hD⟩ : ∃ D, D = IntKind.u64.wrap (I - cc) := ⟨_, rfl⟩
      obtain ⟨d1, d2, d3, d4, d5⟩ := word_sub x0 x1 y0 y1 c0 c1 hI hD
      have HST := hQ0 (sub_step HO.out.2.1 HO.out.2.2 (getD_some HX.out) (getD_some HY.out) d1)
      replace hI := hI.symm
      replace hD := hD.symm
      have hol : out.length ≤ 1000001 := by have := HO.out.2.1; omega
      clear hy d1
      go_wp2_with (at_builtin; go_must (refine wpList_append_limbs rfl _ _ rfl w.heap.size _ out rfl (HOW.out.alloc _) (some ⟨wr.heap.size, 0, none⟩) 1 [D % 4294967296] rfl (lat_one (by simp) (by go_simp)) (by simp; omega) (by simp; omega) ?_))
      intro v1 w1 hown1 hg1
      have HB1 := hQ0 ((HBE.out.alloc hz _).grown hg1 (by simp; omega) HOW.out.fresh)
      have HO1 := hQ0 hown1
      clear hg1 hown1 hI hD
      go_wp2_with fail
      go_roundw
      case rel => exact ⟨k + 1, D / 9223372036854775808, out ++ [D % 4294967296], by omega, by go_num, rfl, by omega, by omega, HO1.out, hQ0 ⟨HO.out.1.snoc (by omega) (by omega), by rw [List.length_append, HO.out.2.1]; rfl, HST.out⟩, HB1.out⟩
      case measure => simp [intOf]; omega
    · have j2 : ¬ (k : Int) < (b.length : Int) := by omega
      obtain ⟨D, hD⟩ : ∃ D, D = IntKind.u64.wrap (x - cc) := ⟨_, rfl⟩
      obtain ⟨d1, d2, d3, d4, d5⟩ := word_sub (y := 0) (I := x) x0 x1 (by omega) (by omega) c0 c1 (by rw [IntKind.wrap_u64]; omega) hD
      have HST := hQ0 (sub_step HO.out.2.1 HO.out.2.2 (getD_some HX.out) (getD_none (by omega)) d1)
      replace hD := hD.symm
      have hol : out.length ≤ 1000001 := by have := HO.out.2.1; omega
      clear d1
      go_wp2_with (at_builtin; go_must (refine wpList_append_limbs rfl _ _ rfl w.heap.size _ out rfl (HOW.out.alloc _) (some ⟨wr.heap.size, 0, none⟩) 1 [D % 4294967296] rfl (lat_one (by simp) (by go_simp)) (by simp; omega) (by simp; omega) ?_))
      intro v1 w1 hown1 hg1
      have HB1 := hQ0 ((HBE.out.alloc hz _).grown hg1 (by simp; omega) HOW.out.fresh)
      have HO1 := hQ0 hown1
      clear hg1 hown1 hD
      go_wp2_with fail
      go_roundw
      case rel => exact ⟨k + 1, D / 9223372036854775808, out ++ [D % 4294967296], by omega, by go_num, rfl, by omega, by omega, HO1.out, hQ0 ⟨HO.out.1.snoc (by omega) (by omega), by rw [List.length_append, HO.out.2.1]; rfl, HST.out⟩, HB1.out⟩
      case measure => simp [intOf]; omega
  · obtain rfl : k = a.length := by omega
    have HF := hQ0 (show mv out = mv a - mv b by
     have h := HO.out.2.2
     rw [List.take_of_length_le (by omega), List.take_of_length_le (by omega)] at h
     have h1 := mv_lt HO.out.1
     rw [HO.out.2.1] at h1
     have h2 := HLE.out
     have : cc = 0 ∨ cc = 1 := by omega
     rcases this with rfl | rfl
     · omega
     · omega)
    have hol : out.length ≤ a.length := by have := HO.out.2.1; omega
    obtain ⟨A1, c1, rfl, hc1, _, hA1⟩ := lat_of_own HOW.out
    have HA1 := hQ0 hA1
    clear hA1
    go_wp2_with fail
    go_ret
    exact ⟨HBE.out, A1, c1, out, rfl, hc1, HO.out.1, hol, HF.out, HA1.out⟩
def RowL (w : World) (g : Nat) (l : List Int) : Prop := w.rowIs g 107 l.length (fun i => .int .u32 (l.getD i 0))
theorem RowL.lt {w : World} {g : Nat} {l : List Int} (h : RowL w g l) : g < w.heap.size := World.rowIs.lt h
theorem RowL.cell {w : World} {g : Nat} {l : List Int} (h : RowL w g l) {i : Nat} {x : Int} (hx : l[i]? = some x) : w.cell? ⟨g, i, none⟩ = some (.int .u32 x) := by
 have hi := (List.getElem?_eq_some_iff.1 hx).1
 have h1 := World.rowIs.cell h hi
 rw [h1, List.getD_eq_getElem?_getD, hx]
 rfl
theorem RowL.frozen {w : World} {g : Nat} {l : List Int} (h : RowL w g l) : ∀ o, w.frozen? ⟨g, o, none⟩ = false := fun o => World.rowIs.frozen h o
theorem RowL.set {w : World} {g : Nat} {l : List Int} (h : RowL w g l) (i : Nat) (x : Int) : RowL (w.setCell ⟨g, i, none⟩ (.int .u32 x)) g (l.set i x) := by
 have h1 := World.rowIs.set h i (.int .u32 x)
 unfold RowL
 rw [List.length_set]
 refine World.rowIs.congr h1 (fun j hj => ?_)
 by_cases e : j = i
 · subst e
   simp [List.getD_eq_getElem?_getD, hj]
 · rw [if_neg e, List.getD_eq_getElem?_getD, List.getD_eq_getElem?_getD, List.getElem?_set, if_neg (fun h => e h.symm)]
theorem RowL.below {w w1 : World} {g : Nat} {l : List Int} (h : RowL w g l) (hb : Below w.heap.size w w1) : RowL w1 g l := World.rowIs.of_block h (hb.block g h.lt)
theorem RowL.lat {w : World} {g : Nat} {l : List Int} (h : RowL w g l) : LAt w (some ⟨g, 0, none⟩) l := fun k x hx => ⟨g, 0, rfl, h.lt, by rw [Nat.zero_add]; exact h.cell hx⟩
theorem RowL.made (w : World) (n : Nat) : RowL (w.alloc (.cells (madeCells #[.int .u32 0] n) 107)) w.heap.size (List.replicate n 0) := by
 have h := World.rowIs_made w (.int .u32 0) n 107
 unfold RowL
 rw [List.length_replicate]
 refine World.rowIs.congr h (fun i hi => ?_)
 simp [List.getD_eq_getElem?_getD, hi]
theorem mul_lim {x y : Int} (x0 : 0 ≤ x) (x1 : x < 4294967296) (y0 : 0 ≤ y) (y1 : y < 4294967296) : 0 ≤ x * y ∧ x * y ≤ 18446744065119617025 := by
 refine ⟨Int.mul_nonneg x0 y0, ?_⟩
 have : x * y ≤ 4294967295 * 4294967295 := Int.mul_le_mul (by omega) (by omega) y0 (by omega)
 omega
theorem mul_step {L b : List Int} {p k : Nat} {c x y z s M : Int} (h : mv L + PB (p + k) * c = M + PB p * x * mv (b.take k)) (hz : L[p + k]? = some z) (hy : b[k]? = some y) (hs : s = c + (z + x * y)) :
  mv (L.set (p + k) (s % 4294967296)) + PB (p + k + 1) * (s / 4294967296) = M + PB p * x * mv (b.take (k + 1)) := by
 rw [mv_set hz, mv_take_succ hy, PB_succ, PB_add] at *
 have e : s = s % 4294967296 + 4294967296 * (s / 4294967296) := by omega
 have e2 : PB p * PB k * s = PB p * PB k * (s % 4294967296) + 4294967296 * (PB p * PB k) * (s / 4294967296) := by
  conv => lhs; rw [e]
  rw [Int.mul_add]
  grind
 have e3 : PB p * PB k * s = PB p * PB k * c + PB p * PB k * z + PB p * PB k * (x * y) := by rw [hs]; grind
 grind
set_option maxRecDepth 100000 in
set_option maxHeartbeats 4000000 in
theorem mulmag_any (A B : Option Addr) (a b : List Int) (c d : Nat) (w : World) (ha : Lim a) (hb : Lim b) (hn : a.length ≤ 1000000) (hn' : b.length ≤ 1000000) (hA : LAt w A a) (hB : LAt w B b) :
  Calls Tryz.prog 75 #[.slice A a.length c, .slice B b.length d] w (MOut (a.length + b.length) (mv a * mv b) w) := by
 have hmk := fun w => run_make_row' (P := Tryz.prog) 42 107 (.int .u32 0) 4 Tryz.underlying42 limbInfo rfl .i64 .i64 (a.length + b.length) (by omega) (by omega) w
 obtain ⟨n, hnn⟩ : ∃ n, n = a.length + b.length := ⟨_, rfl⟩
 rw [Int.natCast_add] at hmk
 rw [← hnn] at hmk ⊢
 have n1 : (n : Int) ≤ 2000000 := by omega
 have HN := hQ0 hnn
 have HA := hQ0 hA
 have HB := hQ0 hB
 have HLA := hQ0 ha
 have HLB := hQ0 hb
 clear hA hB ha hb hnn
 go_enter Tryz.func75, Tryz.ntmps75; (try simp only [List.append_eq, List.cons_append, List.nil_append])
 go_wp2_with fail
 clear hmk
 have hg0 : w.heap.size < w.heap.size + 1 := by omega
 go_loopw [6, 7, 8] (fun vi _ _ wr => ∃ (p : Nat) (L : List Int), p ≤ a.length ∧ vi = .int .i64 p ∧ RowL wr w.heap.size L ∧ Hid (L.length = n ∧ Lim L ∧ mv L = mv (a.take p) * mv b ∧ ∀ j, p + b.length ≤ j → j < n → L[j]? = some 0) ∧ Below w.heap.size w wr) (fun vi _ _ _ => (a.length - (intOf vi).toNat))
 case atStart => exact ⟨0, List.replicate n 0, by omega, rfl, RowL.made w n, hQ0 ⟨by simp, Lim.replicate n, by rw [mv_replicate]; simp [mv], fun j _ hj => by simp [hj]⟩, (Below.refl _ _).alloc (Nat.le_refl _) _⟩
 case round =>
  obtain ⟨p, L, hp, rfl, hrow, HO, hbel⟩ := hrel
  obtain ⟨wo, rfl⟩ : ∃ wo : World, wo = wr := ⟨_, rfl⟩
  have i1 : (0 : Int) ≤ (p : Int) := by omega
  have i3 : (p : Int) ≤ 1000000 := by omega
  have HBE := hQ0 hbel
  have HR := hQ0 hrow
  clear hbel hrow
  by_cases hpa : p < a.length
  · obtain ⟨x, hx⟩ : ∃ x, a[p]? = some x := ⟨a[p], by simp⟩
    obtain ⟨x0, x1⟩ := HLA.out.get hx
    have HX := hQ0 hx
    have j1 : (p : Int) < (a.length : Int) := by omega
    clear hx
    obtain ⟨ga, oa, rfl, hga, _⟩ := HA.out p x HX.out
    go_wp2_with fail
    go_loopw [7, 8] (fun vc vk ws => ∃ (k : Nat) (cc : Int) (L' : List Int), k ≤ b.length ∧ vk = .int .i64 k ∧ vc = .int .u64 cc ∧ 0 ≤ cc ∧ cc < 4294967296 ∧ RowL ws w.heap.size L' ∧ Hid (L'.length = n ∧ Lim L' ∧ mv L' + PB (p + k) * cc = mv (a.take p) * mv b + PB p * x * mv (b.take k) ∧ ∀ j, p + b.length ≤ j → j < n → L'[j]? = some 0) ∧ Below w.heap.size w ws) (fun _ vk _ => (b.length - (intOf vk).toNat))
    case atStart => exact ⟨0, 0, L, by omega, rfl, rfl, by omega, by omega, HR.out, hQ0 ⟨HO.out.1, HO.out.2.1, by rw [HO.out.2.2.1]; simp [mv], HO.out.2.2.2⟩, HBE.out⟩
    case round =>
     obtain ⟨k, cc, L', hk, rfl, rfl, c0, c1, hrow, HO', hbel⟩ := hrel
     obtain ⟨g, o, he, hg, hc1⟩ := HA.out.below hbel p x HX.out
     simp only [Option.some.injEq, Addr.mk.injEq] at he
     obtain ⟨rfl, rfl, _⟩ := he
     have k1 : (0 : Int) ≤ (k : Int) := by omega
     have k2 : (k : Int) ≤ 1000000 := by omega
     have hlt := hrow.lt
     have hfz := hrow.frozen
     have hz := hbel.size
     have HBE2 := hQ0 hbel
     have HR2 := hQ0 hrow
     clear hbel hrow
     by_cases hkb : k < b.length
     · obtain ⟨y, hy⟩ : ∃ y, b[k]? = some y := ⟨b[k], by simp⟩
       obtain ⟨gb, ob, rfl, hgb, hc2⟩ := HB.out.below HBE2.out k y hy
       obtain ⟨y0, y1⟩ := HLB.out.get hy
       have hpn : p + k < n := by have := HN.out; omega
       obtain ⟨z, hzz⟩ : ∃ z, L'[p + k]? = some z := ⟨L'[p + k]'(by have := HO'.out.1; omega), by simp⟩
       obtain ⟨z0, z1⟩ := HO'.out.2.1.get hzz
       have hc3 := HR2.out.cell hzz
       have HY := hQ0 hy
       have HZ := hQ0 hzz
       have j2 : (k : Int) < (b.length : Int) := by omega
       have j3 : (0 : Int) ≤ (p : Int) + (k : Int) := by omega
       have j4 : (p : Int) + (k : Int) < (n : Int) := by omega
       obtain ⟨q1, q2⟩ := mul_lim x0 x1 y0 y1
       have q3 : 0 ≤ z + x * y := by omega
       have q4 : z + x * y < 18446744073709551616 := by omega
       have q5 : 0 ≤ cc + (z + x * y) := by omega
       have q6 : cc + (z + x * y) < 18446744073709551616 := by omega
       have HST := hQ0 (mul_step HO'.out.2.2.1 HZ.out HY.out (s := cc + (z + x * y)) rfl)
       clear hy hzz
       go_wp2_with fail
       refine wp_region_warm (Own wr.heap.size wr) (by kernel_rfl) (by kernel_rfl) (Own.refl (Nat.le_refl _)).drew ?_
       repeat (first | (refine wpWarm_step_off rfl (fun K hK => ?_); (go_simp; refine hK _ ?_; clear hK K)) | (apply wpWarm_step rfl; (focus (intro W' hS; have hcS := hS.cells; go_simp; (first | done | exact rfl | exact ⟨rfl, hS⟩ | (go_simp; exact rfl)))); (intro K hK; go_simp; (try go_bits); refine hK _ ?_; clear hK K)) | (apply wpWarm_step_on rfl; (focus (intro W' hS; have hcS := hS.cells; go_simp; (first | done | exact rfl | exact ⟨rfl, hS⟩ | (go_simp; exact rfl)))); (intro K hK; go_simp; (try go_bits); refine hK _ ?_; clear hK K)))
       refine wpWarm_nil ?_
       intro w4 hO
       have HR4 := hQ0 (HR2.out.below hO.2)
       have hc4 := HR4.out.cell HZ.out
       have hf4 := HR4.out.frozen
       have hl4 := HR4.out.lt
       have HB4 := hQ0 (HBE2.out.trans (hO.2.mono hz))
       clear hO hfz hc1 hc2 hc3 hlt
       go_wp2_with fail
       go_roundw
       case rel =>
        refine ⟨k + 1, (cc + (z + x * y)) / 4294967296, L'.set (p + k) ((cc + (z + x * y)) % 4294967296), by omega, by go_num, rfl, by omega, by omega, HR4.out.set _ _, hQ0 ⟨by rw [List.length_set]; exact HO'.out.1, HO'.out.2.1.set _ (by omega) (by omega), HST.out, fun j h1 h2 => ?_⟩, HB4.out.setCell (Nat.le_refl _) _⟩
        rw [List.getElem?_set_ne (by omega)]
        exact HO'.out.2.2.2 j h1 h2
       case measure => simp [intOf]; omega
     · obtain rfl : k = b.length := by omega
       have hpn : p + b.length < n := by have := HN.out; omega
       have hzz := HO'.out.2.2.2 (p + b.length) (Nat.le_refl _) hpn
       have hc3 := HR2.out.cell hzz
       have HZ := hQ0 hzz
       have j3 : (0 : Int) ≤ (p : Int) + (b.length : Int) := by omega
       have j4 : (p : Int) + (b.length : Int) < (n : Int) := by omega
       have j5 : ¬ (b.length : Int) < (b.length : Int) := by omega
       clear hzz hc1
       go_wp2_with fail
       go_roundw
       case rel =>
        refine ⟨p + 1, L'.set (p + b.length) cc, by omega, by go_num, HR2.out.set _ _, hQ0 ⟨by rw [List.length_set]; exact HO'.out.1, HO'.out.2.1.set _ (by omega) (by omega), ?_, fun j h1 h2 => ?_⟩, HBE2.out.setCell (Nat.le_refl _) _⟩
        · have h1 := HO'.out.2.2.1
          rw [List.take_length] at h1
          rw [mv_set HZ.out, mv_take_succ HX.out, Int.add_mul, Int.sub_zero]
          rw [← h1]
        · rw [List.getElem?_set_ne (by omega)]
          exact HO'.out.2.2.2 j (by omega) h2
       case measure => simp [intOf]; omega
  · obtain rfl : p = a.length := by omega
    have HF := hQ0 (show mv L = mv a * mv b by have := HO.out.2.2.1; rwa [List.take_length] at this)
    have HLL := HO.out.1
    have j5 : ¬ (a.length : Int) < (a.length : Int) := by omega
    subst HLL
    go_wp2_with fail
    go_ret
    exact ⟨HBE.out, _, _, L, rfl, Nat.le_refl _, HO.out.2.1, Nat.le_refl _, HF.out, HR.out.lat⟩
end Go.Proofs.YtgejdaincnclpaaGreat
