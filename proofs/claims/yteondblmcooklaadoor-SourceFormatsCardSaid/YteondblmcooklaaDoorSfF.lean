/- The contract of the reference's Format, and the walk of SourceFormats. -/
import Derived.Test.YteondblmcooklaaDoorSfW
import Derived.Test.YteondblmcooklaaDoorSrW
import Derived.Test.YteondblmcooklaaDoorSrcZ
namespace Go.Proofs.YteondblmcooklaaDoor
open Go Go.RowKit
set_option linter.unusedVariables false
theorem few_ok {l : List IV} (h : fewB l = true) : l.length ≤ 60 ∧ ∀ x ∈ l, okX x := by
  unfold fewB at h
  simp only [Bool.and_eq_true, List.all_eq_true, decide_eq_true_eq] at h
  refine ⟨h.1, fun x hx => ?_⟩
  have h2 := h.2 x hx
  unfold fewX fewK at h2
  simp only [Bool.and_eq_true, List.all_eq_true, decide_eq_true_eq] at h2
  exact ⟨by omega, fun k hk => by have := (h2.2 k hk).1; omega⟩
set_option maxRecDepth 100000 in
set_option maxHeartbeats 4000000 in
theorem rformat_any (l : List IV) (A : Option Addr) (c : Nat) (w : World) (hA : XsAt w A l) (hf : fewB l = true) (hok : ∀ x ∈ l, okF x) :
    Calls Tryd.prog 20 #[.slice A l.length c] w (FmtOut (fmtR l) w) := by
  have HA := Lib.hid hA
  obtain ⟨hl, hox⟩ := few_ok hf
  have HOX := Lib.hid hox
  have KW := fun (W : World) (h : XsAt W A l) => rwrite_any l A c W h hf hok
  obtain ⟨R, hRR⟩ : ∃ R, R = fmtR l := ⟨_, rfl⟩
  have HRR := Lib.hid hRR
  rw [← hRR]
  clear hA hf hok hox hRR
  go_enter Tryd.func20, Tryd.ntmps20; (try simp only [List.append_eq, List.cons_append, List.nil_append])
  go_wp2_with fail
  (go_at_call 38; refine (KW _ HA.out).mono ?_; rintro e w1 ⟨hb1, s, rfl, hW, hs⟩)
  have hS := fmt_same hW
  have hz1 := hb1.size
  have KP := fun W => rparse_any s W (by unfold maxLen; omega)
  have hPo := parseR_okX s
  have hRf : R = rfmtR s l := HRR.out.trans hS.symm
  unfold rfmtR at hRf
  obtain ⟨⟨M, er, pl⟩, hR⟩ : ∃ R, R = parseR s := ⟨_, rfl⟩
  rw [← hR] at KP hPo hRf
  simp only at hPo hRf
  obtain ⟨hm4, hom⟩ := hPo
  have HOM := Lib.hid hom
  have HF := Lib.hid hRf
  clear hS hR hW hom KW hRf
  go_wp2_with fail
  (go_at_call 10; refine (KP _).mono ?_; rintro e w2 ⟨hb2, A2, c2, rfl, hx2⟩)
  have hz2 := hb2.size
  have HX2 := Lib.hid hx2
  have HB2 := Lib.hid (hb1.trans (hb2.mono (by omega)))
  clear hx2 KP
  by_cases her : er = 0
  · subst her
    cases hE : eqL eqX M l
    · obtain rfl : R = (⟨#[]⟩, false) := by rw [HF.out, if_pos (.inr hE)]
      go_wp2_with fail
      (go_at_call 12; refine (rsame_any M l _ _ _ _ _ HX2.out.at ((HA.out.below hb1 (Nat.le_refl _)).below hb2 (Nat.le_refl _)) (by omega) (by omega) HOM.out HOX.out).mono ?_; rintro e w3 ⟨rfl, hb3⟩; rw [hE])
      go_wp2_with fail
      go_ret2
      exact ⟨rfl, HB2.out.trans (hb3.mono (by omega))⟩
    · obtain rfl : R = (s, true) := by rw [HF.out, if_neg (by rw [hE]; simp)]
      go_wp2_with fail
      (go_at_call 12; refine (rsame_any M l _ _ _ _ _ HX2.out.at ((HA.out.below hb1 (Nat.le_refl _)).below hb2 (Nat.le_refl _)) (by omega) (by omega) HOM.out HOX.out).mono ?_; rintro e w3 ⟨rfl, hb3⟩; rw [hE])
      go_wp2_with fail
      go_ret2
      exact ⟨rfl, HB2.out.trans (hb3.mono (by omega))⟩
  · obtain rfl : R = (⟨#[]⟩, false) := by rw [HF.out, if_pos (.inl her)]
    go_wp2_with fail
    go_ret2
    exact ⟨rfl, HB2.out⟩
theorem few_size {l : List IV} (h : fewB l = true) (hok : ∀ x ∈ l, okF x) : (textB l).length ≤ 1000000000 := by
  unfold fewB at h
  simp only [Bool.and_eq_true, List.all_eq_true, decide_eq_true_eq] at h
  have bound : ∀ {α : Type} (f : α → List UInt8) (n : Nat) (l : List α), (∀ x ∈ l, (f x).length ≤ n) → (l.flatMap f).length ≤ l.length * n := by
    intro α f n l hl
    induction l with
    | nil => simp
    | cons x l ih =>
      rw [List.flatMap_cons, List.length_append, List.length_cons, Nat.succ_mul]
      have := hl x (by simp)
      have := ih fun y hy => hl y (by simp [hy])
      omega
  have hv : ∀ x ∈ l, (itemB x).length ≤ 30 * 1000 + 300 := fun x hx => by
    have h2 := h.2 x hx
    unfold fewX fewK at h2
    simp only [Bool.and_eq_true, List.all_eq_true, decide_eq_true_eq] at h2
    have hk : (x.keys.flatMap keyB).length ≤ x.keys.length * 1000 := bound _ _ _ fun k hk => by
      have h3 := h2.2 k hk
      have h4 : (valsB k.vals).length ≤ k.vals.length * 21 := bound _ _ _ fun n hn => by
        have := (hok x hx).2 k hk n hn
        have := itoa_len this.1 this.2
        rw [List.length_cons]; omega
      have h5 := size_bytes k.key
      unfold bytes at h5
      unfold keyB
      rw [List.length_append, List.length_cons]
      have : k.vals.length * 21 ≤ 30 * 21 := Nat.mul_le_mul_right _ (by omega)
      omega
    have hk2 : x.keys.length * 1000 ≤ 30 * 1000 := Nat.mul_le_mul_right _ (by omega)
    have h5 := size_bytes x.word
    have h6 := size_bytes x.name
    unfold bytes at h5 h6
    unfold itemB headB
    simp only [List.length_append, List.length_cons, List.length_nil]
    split
    · simp only [List.length_nil]; omega
    · rw [List.length_cons]; omega
  have := bound itemB _ l hv
  have h9 : l.length * (30 * 1000 + 300) ≤ 60 * (30 * 1000 + 300) := Nat.mul_le_mul_right _ (by omega)
  unfold textB
  omega
set_option maxRecDepth 100000 in
set_option maxHeartbeats 4000000 in
theorem formats_walk (l : List IV) (A : Option Addr) (c : Nat) (w : World) (hA : XsAt w A l) (hln : l.length ≤ maxLen) (hin : ∀ x ∈ l, ∀ k ∈ x.keys, ∀ n ∈ k.vals, -9223372036854775808 ≤ n ∧ n ≤ 9223372036854775807) (ht : Tabs w) :
    Calls Tryd.prog 5 #[.slice A l.length c] w fun e w' => e = .returned (.bool true) ∧ Below w.heap.size w w' := by
  have h3 := ht.three
  have HT := Lib.hid ht
  have HA := Lib.hid hA
  cases hf : fewB l
  · have KF := fun (W : World) (h : XsAt W A l) => by have := few_any l A c W h hln; rw [hf] at this; exact this
    have KKF := Lib.hid KF
    clear KF hf hA ht hin
    go_enter Tryd.func5, Tryd.ntmps5; (try simp only [List.append_eq, List.cons_append, List.nil_append])
    go_wp2_with fail
    (go_at_call 8; refine (awake08_any _ HT.out).mono ?_; rintro e w1 ⟨rfl, hb1⟩)
    have hz1 := hb1.size
    go_wp2_with fail
    (go_at_call 14; refine (KKF.out _ (HA.out.below hb1 (Nat.le_refl _))).mono ?_; rintro e w2 ⟨rfl, rfl⟩)
    go_wp2_with fail
    (go_at_call 8; refine (awake08_any _ (HT.out.below hb1 h3)).mono ?_; rintro e w3 ⟨rfl, hb3⟩)
    go_wp2_with fail
    go_ret
    exact ⟨rfl, hb1.trans (hb3.mono (by omega))⟩
  · obtain ⟨hl60, hox⟩ := few_ok hf
    have hof : ∀ x ∈ l, okF x := fun x hx => ⟨hox x hx, hin x hx⟩
    have hsz := few_size hf hof
    have KF := fun (W : World) (h : XsAt W A l) => by have := few_any l A c W h hln; rw [hf] at this; exact this
    have KG := fun (W : World) (h : XsAt W A l) (h' : Tabs W) => format_any l A c W h h' (by omega) hof hsz
    have KI := fun (W : World) (h : XsAt W A l) => items_any l A c W h (by omega) hox
    have KR := fun (A : Option Addr) (c : Nat) (W : World) (h : XsAt W A l) => rformat_any l A c W h hf hof
    have KKF := Lib.hid KF
    have KKG := Lib.hid KG
    have KKI := Lib.hid KI
    have KKR := Lib.hid KR
    clear KF KG KI KR hf hA ht hin hox hof hsz
    obtain ⟨⟨T, b⟩, hT⟩ : ∃ R, R = fmtR l := ⟨_, rfl⟩
    rw [← hT] at KKG KKR
    clear hT
    go_enter Tryd.func5, Tryd.ntmps5; (try simp only [List.append_eq, List.cons_append, List.nil_append])
    go_wp2_with fail
    (go_at_call 8; refine (awake08_any _ HT.out).mono ?_; rintro e w1 ⟨rfl, hb1⟩)
    have hz1 := hb1.size
    have hA1 := Lib.hid (HA.out.below hb1 (Nat.le_refl _))
    go_wp2_with fail
    (go_at_call 14; refine (KKF.out _ hA1.out).mono ?_; rintro e w2 ⟨rfl, rfl⟩)
    go_wp2_with fail
    (go_at_call 19; refine (KKG.out _ hA1.out (HT.out.below hb1 h3)).mono ?_; rintro e w3 ⟨rfl, hb3⟩)
    have hz3 := hb3.size
    go_wp2_with fail
    (go_at_call 11; refine (KKI.out _ (hA1.out.below hb3 (Nat.le_refl _))).mono ?_; rintro e w4 ⟨hb4, A4, c4, rfl, hx4⟩)
    have hz4 := hb4.size
    have hx4 := Lib.hid hx4.at
    go_wp2_with fail
    (go_at_call 20; refine (KKR.out _ _ _ hx4.out).mono ?_; rintro e w5 ⟨rfl, hb5⟩)
    go_wp2_with fail
    go_ret
    exact ⟨by first | rfl | simp, ((hb1.trans (hb3.mono (by omega))).trans (hb4.mono (by omega))).trans (hb5.mono (by omega))⟩
end Go.Proofs.YteondblmcooklaaDoor
