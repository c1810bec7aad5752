/- The contract of places (two equal lists), and the walk of SourceParses. -/
import Derived.Test.YteondblmcooklaaDoorSrU
import Derived.Test.YteondblmcooklaaDoorSrV
namespace Go.Proofs.YteondblmcooklaaDoor
open Go Go.RowKit
set_option linter.unusedVariables false
set_option maxRecDepth 100000 in
set_option maxHeartbeats 4000000 in
theorem places_any (l : List IV) (A B : Option Addr) (c d : Nat) (w : World) (hA : XsAt w A l) (hB : XsAt w B l) (h1 : l.length ≤ 1000000) (v1 : ∀ x ∈ l, okX x) :
    Calls Tryd.prog 13 #[.slice A l.length c, .slice B l.length d] w fun e w' => e = .returned (.bool true) ∧ Below w.heap.size w w' := by
  have HA := Lib.hid hA
  have HB := Lib.hid hB
  have V1 := Lib.hid v1
  clear hA hB v1
  go_enter Tryd.func13, Tryd.ntmps13; (try simp only [List.append_eq, List.cons_append, List.nil_append])
  go_wp2_with fail
  go_loopg [5] (l.length + 1) (fun gk t wr => ∃ k : Nat, k ≤ l.length ∧ l.length - k < gk ∧ t = .int .i64 k ∧ Below w.heap.size w wr)
  case atStart => exact ⟨0, by omega, by omega, rfl, Below.refl _ _⟩
  case round =>
    obtain ⟨ws, rfl⟩ : ∃ z, z = wr := ⟨_, rfl⟩
    obtain ⟨i, hi, hik, rfl, hb_ws⟩ := hrel
    by_cases hlt : i < l.length
    · obtain ⟨x, hx⟩ : ∃ x, l[i]? = some x := ⟨l[i], by simp⟩
      obtain ⟨g, o, C, q, rfl, hg, ⟨c0, c1, c2, c3⟩, hI⟩ := (HA.out.below hb_ws (Nat.le_refl _)) i x hx
      obtain ⟨g', o', C', q', rfl, hg', ⟨d0, d1, d2, d3⟩, hI'⟩ := (HB.out.below hb_ws (Nat.le_refl _)) i x hx
      have i1 : (i : Int) < (l.length : Int) := by omega
      have HI := Lib.hid hI
      have HI' := Lib.hid hI'
      have HX := Lib.hid hx
      have HBe := Lib.hid hb_ws
      have hkx := V1.out x (List.mem_of_getElem? hx)
      have hk1 := hkx.1
      have HKX := Lib.hid hkx
      clear hI hI' hkx hx hb_ws
      go_wp2_with fail
      go_region
      go_wp2_with fail
      (refine pin_eq (fun w2 hE_w2 => ?_))
      have hb2 : Below w.heap.size w w2 := by rw [hE_w2]; exact HBe.out.drew
      clear hE_w2 c0 c1 c2 c3 d0 d1 d2 d3 hg hg'
      go_loopg [6] (x.keys.length + 1) (fun gk t wq => ∃ k : Nat, k ≤ x.keys.length ∧ x.keys.length - k < gk ∧ t = .int .i64 k ∧ Below w.heap.size w wq)
      case atStart => exact ⟨0, by omega, by omega, rfl, hb2⟩
      case round =>
        obtain ⟨wq, rfl⟩ : ∃ z, z = wr := ⟨_, rfl⟩
        clear hb2
        obtain ⟨k, hk, hkk, rfl, hb_wq⟩ := hrel
        obtain ⟨g1, o1, C, q, hE, hg, ⟨c0, c1, c2, c3⟩, hI⟩ := (HA.out.below hb_wq (Nat.le_refl _)) i x HX.out
        obtain ⟨rfl, rfl⟩ : g = g1 ∧ o = o1 := by simpa using hE
        obtain ⟨g1, o1, C', q', hE', hg', ⟨d0, d1, d2, d3⟩, hI'⟩ := (HB.out.below hb_wq (Nat.le_refl _)) i x HX.out
        obtain ⟨rfl, rfl⟩ : g' = g1 ∧ o' = o1 := by simpa using hE'
        have HBq := Lib.hid hb_wq
        clear hE hE' hb_wq
        by_cases hkt : k < x.keys.length
        · obtain ⟨a, ha⟩ : ∃ a, x.keys[k]? = some a := ⟨x.keys[k], by simp⟩
          obtain ⟨u, s, V, p, rfl, hu, ⟨e0, e1, e2⟩, hV⟩ := hI k a ha
          obtain ⟨u', s', V', p', rfl, hu', ⟨f0, f1, f2⟩, hV'⟩ := hI' k a ha
          have i2 : (k : Int) < (x.keys.length : Int) := by omega
          clear hI hI' hV hV' ha
          go_wp2_with fail
          go_region
          go_wp2_with fail
          go_roundg (x.keys.length - (k + 1) + 1)
          case measure => omega
          case rel => exact ⟨k + 1, by omega, by omega, by go_num, HBq.out.drew⟩
        · obtain rfl : k = x.keys.length := by omega
          clear hI hI'
          go_wp2_with fail
          go_roundg (l.length - (i + 1) + 1)
          case measure => omega
          case rel => exact ⟨i + 1, by omega, by omega, by go_num, HBq.out⟩
    · obtain rfl : i = l.length := by omega
      go_wp2_with fail
      go_ret
      exact ⟨rfl, hb_ws⟩
theorem eqL_refl {α : Type} {f : α → α → Bool} (hf : ∀ x, f x x = true) : ∀ l, eqL f l l = true
  | [] => rfl
  | x :: l => by simp [eqL, hf, eqL_refl hf l]
theorem eqX_refl (x : IV) : eqX x x = true := by unfold eqX; simp [eqL_refl (f := eqK) (fun k => by unfold eqK; simp)]
theorem parseR_okX (s : ByteArray) : (parseR s).1.length ≤ 400 ∧ ∀ x ∈ (parseR s).1, okX x := by
  refine parseR_ok s okX fun l x r hl _ h => ?_
  have h2 := itemF_two h
  have h3 := itemF_len h
  have h4 := scanR_len s
  exact ⟨by omega, fun k hk => by have := h2 k hk; omega⟩
set_option maxRecDepth 100000 in
set_option maxHeartbeats 4000000 in
theorem parses_walk (s : ByteArray) (hs : s.size ≤ maxLen) (w : World) (ht : Tabs w) :
    Calls Tryd.prog 3 #[.string s] w fun e w' => e = .returned (.bool true) ∧ Below w.heap.size w w' := by
  have h3 := ht.three
  have HT := Lib.hid ht
  have hok := parseR_okX s
  have KP := fun W (h : Tabs W) => parse_any s W hs h
  have KR := fun W => rparse_any s W hs
  obtain ⟨⟨L, er, pl⟩, hR⟩ : ∃ R, R = parseR s := ⟨_, rfl⟩
  rw [← hR] at hok KP KR
  simp only at hok
  obtain ⟨hl4, hokx⟩ := hok
  have HOK := Lib.hid hokx
  clear ht hR hokx
  have hE := eqL_refl (f := eqX) eqX_refl L
  go_enter Tryd.func3, Tryd.ntmps3; (try simp only [List.append_eq, List.cons_append, List.nil_append])
  go_wp2_with fail
  (go_at_call 8; refine (awake08_any _ HT.out).mono ?_; rintro e w1 ⟨rfl, hb1⟩)
  have hz1 := hb1.size
  go_wp2_with fail
  (go_at_call 9; refine (KP _ (HT.out.below hb1 h3)).mono ?_; rintro e w2 ⟨hb2, A2, c2, rfl, hx2⟩)
  have hz2 := hb2.size
  have hx2 := Lib.hid hx2
  go_wp2_with fail
  (go_at_call 10; refine (KR _).mono ?_; rintro e w3 ⟨hb3, A3, c3, rfl, hx3⟩)
  have hz3 := hb3.size
  have hx3 := Lib.hid hx3
  go_wp2_with fail
  (go_at_call 11; refine (items_any L _ _ _ (hx2.out.at.below hb3 (Nat.le_refl _)) (by omega) HOK.out).mono ?_; rintro e w4 ⟨hb4, A4, c4, rfl, hx4⟩)
  have hz4 := hb4.size
  have hx4 := Lib.hid hx4
  go_wp2_with fail
  (go_at_call 12; refine (rsame_any L L _ _ _ _ _ hx4.out.at (hx3.out.at.below hb4 (Nat.le_refl _)) (by omega) (by omega) HOK.out HOK.out).mono ?_; rintro e w5 ⟨rfl, hb5⟩; rw [hE])
  have hz5 := hb5.size
  go_wp2_with fail
  (go_at_call 13; refine (places_any L _ _ _ _ _ (hx4.out.at.below hb5 (Nat.le_refl _)) ((hx3.out.at.below hb4 (Nat.le_refl _)).below hb5 (Nat.le_refl _)) (by omega) HOK.out).mono ?_; rintro e w6 ⟨rfl, hb6⟩)
  go_wp2_with fail
  go_ret
  exact ⟨rfl, ((((hb1.trans (hb2.mono (by omega))).trans (hb3.mono (by omega))).trans (hb4.mono (by omega))).trans (hb5.mono (by omega))).trans (hb6.mono (by omega))⟩
end Go.Proofs.YteondblmcooklaaDoor
