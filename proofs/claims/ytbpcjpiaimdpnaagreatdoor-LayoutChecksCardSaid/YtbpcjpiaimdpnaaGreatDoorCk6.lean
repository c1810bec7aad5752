/- Merged texts: SrcJ. -/
import Derived.Test.YtbpcjpiaimdpnaaGreatDoorCk3
set_option linter.unusedSimpArgs false
set_option linter.unusedVariables false
namespace Go.Proofs.YtbpcjpiaimdpnaaGreatDoor
open Go Go.RowKit
set_option linter.unusedVariables false
def eqL {α : Type} (f : α → α → Bool) : List α → List α → Bool
  | [], [] => true
  | x :: l, y :: m => f x y && eqL f l m
  | _, _ => false
def eqK (x y : KV) : Bool := decide (x.key = y.key) && decide (x.vals = y.vals)
def eqX (x y : IV) : Bool := decide (x.word = y.word) && decide (x.name = y.name) && eqL eqK x.keys y.keys
theorem eqL_len {α : Type} {f : α → α → Bool} : ∀ {l m : List α}, l.length ≠ m.length → eqL f l m = false
 | [], [], h => absurd rfl h
 | [], _ :: _, _ => rfl
 | _ :: _, [], _ => rfl
 | x :: l, y :: m, h => by
  unfold eqL
  rw [eqL_len (fun e => h (by simp [e])), Bool.and_false]
theorem eqL_drop {α : Type} {f : α → α → Bool} {l m : List α} {k : Nat} {x y : α} (hx : l[k]? = some x) (hy : m[k]? = some y) : eqL f (l.drop k) (m.drop k) = (f x y && eqL f (l.drop (k + 1)) (m.drop (k + 1))) := by
 obtain ⟨h1, rfl⟩ := List.getElem?_eq_some_iff.1 hx
 obtain ⟨h2, rfl⟩ := List.getElem?_eq_some_iff.1 hy
 rw [List.drop_eq_getElem_cons h1, List.drop_eq_getElem_cons h2]
 rfl
theorem eqL_end {α : Type} {f : α → α → Bool} {l m : List α} {k : Nat} (h1 : l.length ≤ k) (h2 : m.length ≤ k) : eqL f (l.drop k) (m.drop k) = true := by
 rw [List.drop_eq_nil_of_le h1, List.drop_eq_nil_of_le h2]
 rfl
theorem below_drewN (B : Nat) : ∀ (q : Nat) (w : World), Below B w (w.drewN q)
 | 0, w => Below.refl B w
 | q + 1, w => by first | exact ((Below.refl B w).drew).trans (below_drewN B q w.drew) | exact (below_drewN B q w).drew
theorem isl_any (l m : List Int) (A B : Option Addr) (c d : Nat) (w : World) (hA : IAt w A l) (hB : IAt w B m) (h1 : l.length ≤ 1000000) (h2 : m.length ≤ 1000000) :
  Calls Tryz.prog 45 #[.slice A l.length c, .slice B m.length d] w fun e w' => e = .returned (.bool (decide (l = m))) ∧ Below w.heap.size w w' := by
 by_cases hlm : l.length = m.length
 · cases l with
   | nil =>
    refine (Tryz.slices_Equal_int_empty A B c m.length d w (by omega)).mono ?_
    rintro e w' ⟨rfl, rfl⟩
    refine ⟨?_, Below.refl _ _⟩
    have : m = [] := List.length_eq_zero_iff.1 hlm.symm
    subst this
    rfl
   | cons x l =>
    cases m with
    | nil => simp at hlm
    | cons y m =>
     obtain ⟨g, o, rfl, _, _⟩ := hA 0 x rfl
     obtain ⟨g', o', rfl, _, _⟩ := hB 0 y rfl
     have get : ∀ (g o : Nat) (l : List Int), IAt w (some ⟨g, o, none⟩) l → ∀ j, j < l.length → w.cell? ⟨g, o + j, none⟩ = some (.int .i64 (l.getD j 0)) := by
      intro g o l h j hj
      obtain ⟨x, hx⟩ : ∃ x, l[j]? = some x := ⟨l[j], by simp⟩
      obtain ⟨g', o', hA', _, h1⟩ := h j x hx
      have e := Option.some.inj hA'
      simp only [Addr.mk.injEq, and_true] at e
      obtain ⟨rfl, rfl⟩ := e
      rw [h1, List.getD_eq_getElem?_getD, hx]; rfl
     refine (Tryz.slices_Equal_int g o (x :: l).length c g' o' (y :: m).length d (x :: l) (y :: m) w (Nat.le_refl _) (Nat.le_refl _) (by omega) (by omega) (get _ _ _ hA) (get _ _ _ hB)).mono ?_
     rintro e w' ⟨rfl, q, rfl⟩
     refine ⟨?_, below_drewN _ _ _⟩
     rw [List.take_length, List.take_length]
     have hbd : ((x :: l) == (y :: m)) = decide (x :: l = y :: m) := by rw [Bool.eq_iff_iff]; simp
     rw [hbd]
 · refine (Tryz.slices_Equal_int_lens A B l.length c m.length d w hlm).mono ?_
   rintro e w' ⟨rfl, rfl⟩
   refine ⟨?_, Below.refl _ _⟩
   have : ¬ l = m := fun e => hlm (by rw [e])
   simp [this]
set_option maxRecDepth 100000 in
set_option maxHeartbeats 1000000 in
theorem samek_any (x y : KV) (A B : Option Addr) (c d : Nat) (w : World) (hA : IAt w A x.vals) (hB : IAt w B y.vals) (h1 : x.vals.length ≤ 1000000) (h2 : y.vals.length ≤ 1000000) :
  Calls Tryz.prog 168 #[vOfK x A c, vOfK y B d] w fun e w' => e = .returned (.bool (eqK x y)) ∧ Below w.heap.size w w' := by
 unfold vOfK
 by_cases he : x.key = y.key
 · have b1 : (x.key.toList == y.key.toList) = true := by rw [he]; exact beq_self_eq_true _
   have hE : eqK x y = decide (x.vals = y.vals) := by unfold eqK; rw [decide_eq_true he, Bool.true_and]
   rw [hE]
   have K := fun (W : World) (hb : Below w.heap.size w W) => isl_any x.vals y.vals A B c d W (hA.below hb (Nat.le_refl _)) (hB.below hb (Nat.le_refl _)) h1 h2
   clear he hE hA hB
   go_enter Tryz.func168, Tryz.ntmps168; (try simp only [List.append_eq, List.cons_append, List.nil_append])
   go_wp2_with (go_at_call 45; refine (K _ (by ((with_reducible (repeat (first | exact bR _ _ | apply bS | apply bA | apply bD | refine bT ?_ (by assumption) ?_ | refine bO (by assumption) ?_ ?_))) <;> (first | omega | (simp <;> omega))))).mono ?_; rintro e w1 ⟨rfl, hb_w1⟩)
   go_ret
   have hz := hb_w1.size
   refine ⟨rfl, ?_⟩
   ((with_reducible (repeat (first | exact bR _ _ | apply bS | apply bA | apply bD | refine bT ?_ (by assumption) ?_ | refine bO (by assumption) ?_ ?_))) <;> (first | omega | (simp <;> omega)))
 · have b1 : (x.key.toList == y.key.toList) = false := txt_neT he
   have hE : eqK x y = false := by unfold eqK; rw [decide_eq_false he, Bool.false_and]
   rw [hE]
   clear he hE
   go_enter Tryz.func168, Tryz.ntmps168; (try simp only [List.append_eq, List.cons_append, List.nil_append])
   go_wp2_with fail
   go_ret
   refine ⟨rfl, ?_⟩
   ((with_reducible (repeat (first | exact bR _ _ | apply bS | apply bA | apply bD | refine bT ?_ (by assumption) ?_ | refine bO (by assumption) ?_ ?_))) <;> (first | omega | (simp <;> omega)))
set_option maxRecDepth 100000 in
set_option maxHeartbeats 2000000 in
theorem eqfk_any (l m : List KV) (A B : Option Addr) (c d : Nat) (w : World) (hA : KsAt w A l) (hB : KsAt w B m) (h1 : l.length ≤ 1000000) (h2 : m.length ≤ 1000000) (v1 : ∀ k ∈ l, k.vals.length ≤ 1000000) (v2 : ∀ k ∈ m, k.vals.length ≤ 1000000) :
  Calls Tryz.prog 167 #[.slice A l.length c, .slice B m.length d, .func (.func 168) #[] #[]] w fun e w' => e = .returned (.bool (eqL eqK l m)) ∧ Below w.heap.size w w' := by
 by_cases hlm : l.length = m.length
 · obtain ⟨R, hR⟩ : ∃ R, R = eqL eqK l m := ⟨_, rfl⟩
   rw [← hR]
   have HR : Hid (eqL eqK (l.drop 0) (m.drop 0) = R) := hQ0 (by rw [hR]; rfl)
   have HA := hQ0 hA
   have HB := hQ0 hB
   have V1 := hQ0 v1
   have V2 := hQ0 v2
   have HLM := hQ0 hlm
   rw [← hlm]
   clear hR hA hB v1 v2 hlm
   go_enter Tryz.func167, Tryz.ntmps167; (try simp only [List.append_eq, List.cons_append, List.nil_append])
   go_wp2_with fail
   go_loopw [17] (fun t wr => ∃ k : Nat, k ≤ l.length ∧ t = .int .i64 k ∧ Below w.heap.size w wr ∧ Hid (eqL eqK (l.drop k) (m.drop k) = R)) (fun t _ => l.length - (intOf t).toNat)
   case atStart => exact ⟨0, by omega, rfl, Below.refl _ _, HR⟩
   case round =>
    obtain ⟨k, hk, rfl, hb_wr, HJ⟩ := hrel
    have hz_wr := hb_wr.size
    by_cases hlt : k < l.length
    · obtain ⟨x, hx⟩ : ∃ x, l[k]? = some x := ⟨l[k], by simp⟩
      obtain ⟨y, hy⟩ : ∃ y, m[k]? = some y := ⟨m[k]'(by have := HLM.out; omega), by simp⟩
      obtain ⟨g, o, C, q, rfl, hg, ⟨c0, c1, c2⟩, hI⟩ := (HA.out.below hb_wr (Nat.le_refl _)) k x hx
      obtain ⟨g', o', C', q', rfl, hg', ⟨d0, d1, d2⟩, hI'⟩ := (HB.out.below hb_wr (Nat.le_refl _)) k y hy
      have hst := eqL_drop (f := eqK) hx hy
      have i1 : (k : Int) < (l.length : Int) := by omega
      have HI := hQ0 hI
      have HI' := hQ0 hI'
      have HBe := hQ0 hb_wr
      have KK := fun (W : World) (hb : Below wr.heap.size wr W) => samek_any x y C C' q q' W (HI.out.below hb (Nat.le_refl _)) (HI'.out.below hb (Nat.le_refl _)) (V1.out x (List.mem_of_getElem? hx)) (V2.out y (List.mem_of_getElem? hy))
      clear hI hI' hb_wr
      cases hxy : eqK x y
      · obtain rfl : R = false := by rw [← HJ.out, hst, hxy]; rfl
        clear hst HJ HR
        go_wp2_with (go_at_call 168; refine (KK _ (by ((with_reducible (repeat (first | exact bR _ _ | apply bS | apply bA | apply bD | refine bT ?_ (by assumption) ?_ | refine bO (by assumption) ?_ ?_))) <;> (first | omega | (simp <;> omega))))).mono ?_; rintro e w2 ⟨rfl, hb_w2⟩; rw [hxy])
        go_ret
        have hz2 := hb_w2.size
        simp at hz2
        exact ⟨rfl, ((HBe.out.alloc hz_wr _).alloc (by simp; omega) _).trans (hb_w2.mono (by simp; omega))⟩
      · have hnx : Hid (eqL eqK (l.drop (k + 1)) (m.drop (k + 1)) = R) := hQ0 (by rw [← HJ.out, hst, hxy, Bool.true_and])
        clear hst HJ HR
        go_wp2_with (go_at_call 168; refine (KK _ (by ((with_reducible (repeat (first | exact bR _ _ | apply bS | apply bA | apply bD | refine bT ?_ (by assumption) ?_ | refine bO (by assumption) ?_ ?_))) <;> (first | omega | (simp <;> omega))))).mono ?_; rintro e w2 ⟨rfl, hb_w2⟩; rw [hxy])
        have hz2 := hb_w2.size
        simp at hz2
        go_roundw
        case rel => exact ⟨k + 1, by omega, by go_num, ((HBe.out.alloc hz_wr _).alloc (by simp; omega) _).trans (hb_w2.mono (by simp; omega)), hnx⟩
        case measure => simp [intOf]; omega
    · obtain rfl : k = l.length := by omega
      obtain rfl : R = true := by rw [← HJ.out]; exact eqL_end (Nat.le_refl _) (by have := HLM.out; omega)
      go_wp2_with fail
      go_ret
      exact ⟨rfl, hb_wr⟩
 · rw [eqL_len hlm]
   have i0 : ¬ (l.length : Int) = (m.length : Int) := by omega
   go_enter Tryz.func167, Tryz.ntmps167; (try simp only [List.append_eq, List.cons_append, List.nil_append])
   go_wp2_with fail
   go_ret
   exact ⟨rfl, Below.refl _ _⟩
def okX (x : IV) : Prop := x.keys.length ≤ 1000000 ∧ ∀ k ∈ x.keys, k.vals.length ≤ 1000000
set_option maxRecDepth 100000 in
set_option maxHeartbeats 1000000 in
theorem samex_any (x y : IV) (A B : Option Addr) (c d : Nat) (w : World) (hA : KsAt w A x.keys) (hB : KsAt w B y.keys) (h1 : okX x) (h2 : okX y) :
  Calls Tryz.prog 118 #[vOfX x A c, vOfX y B d] w fun e w' => e = .returned (.bool (eqX x y)) ∧ Below w.heap.size w w' := by
 unfold vOfX
 by_cases he : x.word = y.word
 · have b1 : (x.word.toList == y.word.toList) = true := by rw [he]; exact beq_self_eq_true _
   by_cases hn : x.name = y.name
   · have b2 : (x.name.toList == y.name.toList) = true := by rw [hn]; exact beq_self_eq_true _
     have hE : eqX x y = eqL eqK x.keys y.keys := by unfold eqX; rw [decide_eq_true he, decide_eq_true hn, Bool.true_and, Bool.true_and]
     rw [hE]
     have K := fun (W : World) (hb : Below w.heap.size w W) => eqfk_any x.keys y.keys A B c d W (hA.below hb (Nat.le_refl _)) (hB.below hb (Nat.le_refl _)) h1.1 h2.1 h1.2 h2.2
     clear he hn hE hA hB
     go_enter Tryz.func118, Tryz.ntmps118; (try simp only [List.append_eq, List.cons_append, List.nil_append])
     go_wp2_with (go_at_call 167; refine (K _ (by ((with_reducible (repeat (first | exact bR _ _ | apply bS | apply bA | apply bD | refine bT ?_ (by assumption) ?_ | refine bO (by assumption) ?_ ?_))) <;> (first | omega | (simp <;> omega))))).mono ?_; rintro e w1 ⟨rfl, hb_w1⟩)
     go_ret
     have hz := hb_w1.size
     refine ⟨rfl, ?_⟩
     ((with_reducible (repeat (first | exact bR _ _ | apply bS | apply bA | apply bD | refine bT ?_ (by assumption) ?_ | refine bO (by assumption) ?_ ?_))) <;> (first | omega | (simp <;> omega)))
   · have b2 : (x.name.toList == y.name.toList) = false := txt_neT hn
     have hE : eqX x y = false := by unfold eqX; rw [decide_eq_true he, decide_eq_false hn]; rfl
     rw [hE]
     clear he hn hE
     go_enter Tryz.func118, Tryz.ntmps118; (try simp only [List.append_eq, List.cons_append, List.nil_append])
     go_wp2_with fail
     go_ret
     refine ⟨rfl, ?_⟩
     ((with_reducible (repeat (first | exact bR _ _ | apply bS | apply bA | apply bD | refine bT ?_ (by assumption) ?_ | refine bO (by assumption) ?_ ?_))) <;> (first | omega | (simp <;> omega)))
 · have b1 : (x.word.toList == y.word.toList) = false := txt_neT he
   have hE : eqX x y = false := by unfold eqX; rw [decide_eq_false he]; rfl
   rw [hE]
   clear he hE
   go_enter Tryz.func118, Tryz.ntmps118; (try simp only [List.append_eq, List.cons_append, List.nil_append])
   go_wp2_with fail
   go_ret
   refine ⟨rfl, ?_⟩
   ((with_reducible (repeat (first | exact bR _ _ | apply bS | apply bA | apply bD | refine bT ?_ (by assumption) ?_ | refine bO (by assumption) ?_ ?_))) <;> (first | omega | (simp <;> omega)))
set_option maxRecDepth 100000 in
set_option maxHeartbeats 2000000 in
theorem eqfx_any (l m : List IV) (A B : Option Addr) (c d : Nat) (w : World) (hA : XsAt w A l) (hB : XsAt w B m) (h1 : l.length ≤ 1000000) (h2 : m.length ≤ 1000000) (v1 : ∀ x ∈ l, okX x) (v2 : ∀ x ∈ m, okX x) :
  Calls Tryz.prog 117 #[.slice A l.length c, .slice B m.length d, .func (.func 118) #[] #[]] w fun e w' => e = .returned (.bool (eqL eqX l m)) ∧ Below w.heap.size w w' := by
 by_cases hlm : l.length = m.length
 · obtain ⟨R, hR⟩ : ∃ R, R = eqL eqX l m := ⟨_, rfl⟩
   rw [← hR]
   have HR : Hid (eqL eqX (l.drop 0) (m.drop 0) = R) := hQ0 (by rw [hR]; rfl)
   have HA := hQ0 hA
   have HB := hQ0 hB
   have V1 := hQ0 v1
   have V2 := hQ0 v2
   have HLM := hQ0 hlm
   rw [← hlm]
   clear hR hA hB v1 v2 hlm
   go_enter Tryz.func117, Tryz.ntmps117; (try simp only [List.append_eq, List.cons_append, List.nil_append])
   go_wp2_with fail
   go_loopw [17] (fun t wr => ∃ k : Nat, k ≤ l.length ∧ t = .int .i64 k ∧ Below w.heap.size w wr ∧ Hid (eqL eqX (l.drop k) (m.drop k) = R)) (fun t _ => l.length - (intOf t).toNat)
   case atStart => exact ⟨0, by omega, rfl, Below.refl _ _, HR⟩
   case round =>
    obtain ⟨k, hk, rfl, hb_wr, HJ⟩ := hrel
    have hz_wr := hb_wr.size
    by_cases hlt : k < l.length
    · obtain ⟨x, hx⟩ : ∃ x, l[k]? = some x := ⟨l[k], by simp⟩
      obtain ⟨y, hy⟩ : ∃ y, m[k]? = some y := ⟨m[k]'(by have := HLM.out; omega), by simp⟩
      obtain ⟨g, o, C, q, rfl, hg, ⟨c0, c1, c2, c3⟩, hI⟩ := (HA.out.below hb_wr (Nat.le_refl _)) k x hx
      obtain ⟨g', o', C', q', rfl, hg', ⟨d0, d1, d2, d3⟩, hI'⟩ := (HB.out.below hb_wr (Nat.le_refl _)) k y hy
      have hst := eqL_drop (f := eqX) hx hy
      have i1 : (k : Int) < (l.length : Int) := by omega
      have HI := hQ0 hI
      have HI' := hQ0 hI'
      have HBe := hQ0 hb_wr
      have KK := fun (W : World) (hb : Below wr.heap.size wr W) => samex_any x y C C' q q' W (HI.out.below hb (Nat.le_refl _)) (HI'.out.below hb (Nat.le_refl _)) (V1.out x (List.mem_of_getElem? hx)) (V2.out y (List.mem_of_getElem? hy))
      clear hI hI' hb_wr
      cases hxy : eqX x y
      · obtain rfl : R = false := by rw [← HJ.out, hst, hxy]; rfl
        clear hst HJ HR
        go_wp2_with (go_at_call 118; refine (KK _ (by ((with_reducible (repeat (first | exact bR _ _ | apply bS | apply bA | apply bD | refine bT ?_ (by assumption) ?_ | refine bO (by assumption) ?_ ?_))) <;> (first | omega | (simp <;> omega))))).mono ?_; rintro e w2 ⟨rfl, hb_w2⟩; rw [hxy])
        go_ret
        have hz2 := hb_w2.size
        simp at hz2
        exact ⟨rfl, ((HBe.out.alloc hz_wr _).alloc (by simp; omega) _).trans (hb_w2.mono (by simp; omega))⟩
      · have hnx : Hid (eqL eqX (l.drop (k + 1)) (m.drop (k + 1)) = R) := hQ0 (by rw [← HJ.out, hst, hxy, Bool.true_and])
        clear hst HJ HR
        go_wp2_with (go_at_call 118; refine (KK _ (by ((with_reducible (repeat (first | exact bR _ _ | apply bS | apply bA | apply bD | refine bT ?_ (by assumption) ?_ | refine bO (by assumption) ?_ ?_))) <;> (first | omega | (simp <;> omega))))).mono ?_; rintro e w2 ⟨rfl, hb_w2⟩; rw [hxy])
        have hz2 := hb_w2.size
        simp at hz2
        go_roundw
        case rel => exact ⟨k + 1, by omega, by go_num, ((HBe.out.alloc hz_wr _).alloc (by simp; omega) _).trans (hb_w2.mono (by simp; omega)), hnx⟩
        case measure => simp [intOf]; omega
    · obtain rfl : k = l.length := by omega
      obtain rfl : R = true := by rw [← HJ.out]; exact eqL_end (Nat.le_refl _) (by have := HLM.out; omega)
      go_wp2_with fail
      go_ret
      exact ⟨rfl, hb_wr⟩
 · rw [eqL_len hlm]
   have i0 : ¬ (l.length : Int) = (m.length : Int) := by omega
   go_enter Tryz.func117, Tryz.ntmps117; (try simp only [List.append_eq, List.cons_append, List.nil_append])
   go_wp2_with fail
   go_ret
   exact ⟨rfl, Below.refl _ _⟩
end Go.Proofs.YtbpcjpiaimdpnaaGreatDoor
