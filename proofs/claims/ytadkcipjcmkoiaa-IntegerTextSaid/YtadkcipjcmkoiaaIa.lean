/- The contracts of integer.large, sized, Of, Trim, Sign, Cmp, Bits, Neg, Add, Sub, Mul. -/
import Derived.Test.YtadkcipjcmkoiaaWi
import Derived.Test.YtadkcipjcmkoiaaWj
import Derived.Test.YtadkcipjcmkoiaaWs
import Derived.Test.YtadkcipjcmkoiaaWt
namespace Go.Proofs.Ytadkcipjcmkoiaa
open Go Go.RowKit
set_option linter.unusedVariables false
/-- A number is large. -/
def lgB (z : Int) : Bool := decide (256 < (canN z.natAbs).length)
/-- The address leads to these integers' pairs of cells. -/
def SAt (w : World) (A : Option Addr) (l : List (Value × Value)) : Prop := ∀ k x, l[k]? = some x → ∃ g o, A = some ⟨g, o, none⟩ ∧ g < w.heap.size ∧ w.cell? ⟨g, o + k * 2, none⟩ = some x.1 ∧ w.cell? ⟨g, o + k * 2 + 1, none⟩ = some x.2
theorem SAt.below {w w1 : World} {A : Option Addr} {l : List (Value × Value)} (h : SAt w A l) (hb : Below w.heap.size w w1) : SAt w1 A l := by
  intro k x hx
  obtain ⟨g, o, hA, hg, h1, h2⟩ := h k x hx
  exact ⟨g, o, hA, Nat.lt_of_lt_of_le hg hb.size, by rw [hb.cell (by simpa using hg)]; exact h1, by rw [hb.cell (by simpa using hg)]; exact h2⟩
theorem sat_one {w : World} {b : Nat} {x y : Value} (hb : b < w.heap.size) (h0 : w.cell? ⟨b, 0, none⟩ = some x) (h1 : w.cell? ⟨b, 1, none⟩ = some y) : SAt w (some ⟨b, 0, none⟩) [(x, y)] := by
  intro k z hz
  rcases k with _ | k
  · simp at hz; subst hz; exact ⟨b, 0, rfl, hb, h0, h1⟩
  · simp at hz
theorem sat_two {w : World} {b : Nat} {x y u v : Value} (hb : b < w.heap.size) (h0 : w.cell? ⟨b, 0, none⟩ = some x) (h1 : w.cell? ⟨b, 1, none⟩ = some y) (h2 : w.cell? ⟨b, 2, none⟩ = some u) (h3 : w.cell? ⟨b, 3, none⟩ = some v) : SAt w (some ⟨b, 0, none⟩) [(x, y), (u, v)] := by
  intro k z hz
  rcases k with _ | _ | k
  · simp at hz; subst hz; exact ⟨b, 0, rfl, hb, h0, h1⟩
  · simp at hz; subst hz; exact ⟨b, 0, rfl, hb, h2, h3⟩
  · simp at hz
def AllZ (w : World) (n : Nat) (l : List (Value × Value)) (zs : List Int) : Prop := zs.length = l.length ∧ ∀ (k : Nat) (x : Value × Value) (z : Int), l[k]? = some x → zs[k]? = some z → IsZ w (.agg #[x.1, x.2]) n z
theorem isZ_parts {w : World} {u v : Value} {n : Nat} {z : Int} (h : IsZ w (.agg #[u, v]) n z) : ∃ p A c l, u = .bool p ∧ v = .slice A l c := by
  obtain ⟨p, A, c, l, h1, _⟩ := h
  injection h1 with h1
  have h2 := congrArg Array.toList h1
  simp only [List.cons.injEq, and_true] at h2
  exact ⟨p, A, c, l.length, h2.1, h2.2⟩
set_option maxRecDepth 100000 in
set_option maxHeartbeats 2000000 in
theorem large_any (n : Nat) (A : Option Addr) (l : List (Value × Value)) (zs : List Int) (c : Nat) (w : World) (hA : SAt w A l) (hz : AllZ w n l zs) (hl : l.length ≤ 100) (hn : n ≤ 400000) :
    Calls Try.prog 51 #[.slice A l.length c] w fun e w' => e = .returned (.bool (zs.any lgB)) ∧ Below w.heap.size w w' := by
  have HA := Lib.hid hA
  have HZ := Lib.hid hz
  obtain ⟨R, hR⟩ : ∃ R, R = zs.any lgB := ⟨_, rfl⟩
  rw [← hR]
  have HR := Lib.hid hR
  clear hA hz hR
  go_enter Try.func51, Try.ntmps51; (try simp only [List.append_eq, List.cons_append, List.nil_append])
  go_wp2_with fail
  go_loopw [4, 7] (fun _ vi wr => ∃ k : Nat, k ≤ l.length ∧ vi = .int .i64 k ∧ Hid ((zs.take k).any lgB = false) ∧ Below w.heap.size w wr) (fun _ vi _ => l.length - (intOf vi).toNat)
  case atStart => exact ⟨0, by omega, rfl, Lib.hid rfl, Below.refl _ _⟩
  case round =>
    obtain ⟨k, hk, rfl, HK, hbel⟩ := hrel
    have HBE := Lib.hid hbel
    have hz := hbel.size
    have i0 : (0 : Int) ≤ (k : Int) := by omega
    have i1 : (k : Int) ≤ 100 := by omega
    clear hbel
    by_cases hkl : k < l.length
    · obtain ⟨⟨x, y⟩, hx⟩ : ∃ x, l[k]? = some x := ⟨l[k], by simp⟩
      obtain ⟨z, hzk⟩ : ∃ z, zs[k]? = some z := ⟨zs[k]'(by have := HZ.out.1; omega), by simp⟩
      have hiz := HZ.out.2 k _ z hx hzk
      obtain ⟨g, o, rfl, hg, c0, c1⟩ := HA.out.below HBE.out k _ hx
      simp only at c0 c1 hiz
      obtain ⟨p2, A2, c2, l2, rfl, rfl⟩ := isZ_parts hiz
      have j1 : (k : Int) < (l.length : Int) := by omega
      have HI := Lib.hid (hiz.below HBE.out)
      have HTK := Lib.hid (show (zs.take (k + 1)).any lgB = lgB z by rw [List.take_add_one, hzk]; show ((zs.take k) ++ [z]).any lgB = _; rw [List.any_append, HK.out]; simp)
      have HRZ := Lib.hid (show lgB z = true → R = true from fun h => by rw [HR.out, List.any_eq_true]; exact ⟨z, List.mem_of_getElem? hzk, h⟩)
      obtain ⟨q, hq⟩ : ∃ q, q = (canN z.natAbs).length := ⟨_, rfl⟩
      have hlg : lgB z = decide (256 < q) := by rw [hq]; rfl
      have hsz := fun w' (h : Below wr.heap.size wr w') => wsize_any n _ z w' (HI.out.below h) (by omega)
      rw [← hq] at hsz
      have HSZ := Lib.hid hsz
      have HLG := Lib.hid hlg
      clear hx hzk hiz hsz hlg hq
      by_cases hqb : 256 < q
      · have hr := HRZ.out (by rw [HLG.out]; exact decide_eq_true hqb)
        subst hr
        have e1 : (256 : Int) < (q : Int) := by omega
        go_wp2_with fail
        -- own blocks: wr.heap.size:2
        (go_at_call 78; refine (HSZ.out _ ((Below.refl _ _).alloc (Nat.le_refl _) _)).mono ?_; rintro e w3 ⟨rfl, hb_w3⟩; have hz_w3 := hb_w3.size; (try simp at hz_w3); (with_reducible apply cel2 (b := wr.heap.size) hb_w3); (focus ((try simp) <;> omega)); (focus omega); (focus (go_simp; try exact rfl)); (focus (go_simp; try exact rfl)); (focus (intro o; go_simp)); intro cc cc fz hl)
        have HB3 := Lib.hid ((HBE.out.alloc hz _).trans (hb_w3.mono (by simp; omega)))
        clear hb_w3
        go_wp2_with fail
        go_ret
        exact ⟨rfl, HB3.out⟩
      · have e1 : ¬ (256 : Int) < (q : Int) := by omega
        have HT1 := Lib.hid (show (zs.take (k + 1)).any lgB = false by rw [HTK.out, HLG.out]; exact decide_eq_false hqb)
        go_wp2_with fail
        -- own blocks: wr.heap.size:2
        (go_at_call 78; refine (HSZ.out _ ((Below.refl _ _).alloc (Nat.le_refl _) _)).mono ?_; rintro e w3 ⟨rfl, hb_w3⟩; have hz_w3 := hb_w3.size; (try simp at hz_w3); (with_reducible apply cel2 (b := wr.heap.size) hb_w3); (focus ((try simp) <;> omega)); (focus omega); (focus (go_simp; try exact rfl)); (focus (go_simp; try exact rfl)); (focus (intro o; go_simp)); intro cc cc fz hl)
        have HB3 := Lib.hid ((HBE.out.alloc hz _).trans (hb_w3.mono (by simp; omega)))
        clear hb_w3
        go_wp2_with fail
        go_roundw
        case rel => exact ⟨k + 1, by omega, by go_num, HT1, HB3.out⟩
        case measure => simp [intOf]; omega
    · obtain rfl : k = l.length := by omega
      have hr : R = false := by rw [HR.out]; have := HK.out; rwa [← HZ.out.1, List.take_length] at this
      subst hr
      have j1 : ¬ (l.length : Int) < (l.length : Int) := by omega
      go_wp2_with fail
      go_ret
      exact ⟨rfl, HBE.out⟩
theorem large_one (n : Nat) (g : Nat) (x y : Value) (z : Int) (w : World) (hg : g < w.heap.size) (h0 : w.cell? ⟨g, 0, none⟩ = some x) (h1 : w.cell? ⟨g, 1, none⟩ = some y) (hz : IsZ w (.agg #[x, y]) n z) (hn : n ≤ 400000) :
    Calls Try.prog 51 #[.slice (some ⟨g, 0, none⟩) 1 1] w fun e w' => e = .returned (.bool (lgB z)) ∧ Below w.heap.size w w' := by
  have := large_any n (some ⟨g, 0, none⟩) [(x, y)] [z] 1 w (sat_one hg h0 h1) ⟨rfl, fun k a b ha hb => by
    rcases k with _ | k
    · simp at ha hb; subst ha; subst hb; exact hz
    · simp at ha⟩ (by simp) hn
  simpa using this
theorem large_two (n : Nat) (g : Nat) (x y u v : Value) (a b : Int) (w : World) (hg : g < w.heap.size) (h0 : w.cell? ⟨g, 0, none⟩ = some x) (h1 : w.cell? ⟨g, 1, none⟩ = some y) (h2 : w.cell? ⟨g, 2, none⟩ = some u) (h3 : w.cell? ⟨g, 3, none⟩ = some v) (hz : IsZ w (.agg #[x, y]) n a) (hz' : IsZ w (.agg #[u, v]) n b) (hn : n ≤ 400000) :
    Calls Try.prog 51 #[.slice (some ⟨g, 0, none⟩) 2 2] w fun e w' => e = .returned (.bool (lgB a || lgB b)) ∧ Below w.heap.size w w' := by
  have := large_any n (some ⟨g, 0, none⟩) [(x, y), (u, v)] [a, b] 2 w (sat_two hg h0 h1 h2 h3) ⟨rfl, fun k p q ha hb => by
    rcases k with _ | _ | k
    · simp at ha hb; subst ha; subst hb; exact hz
    · simp at ha hb; subst ha; subst hb; exact hz'
    · simp at ha⟩ (by simp) hn
  simpa using this
/-- A result: an integer and an error. -/
def EOut (z er : Int) (w : World) (e : Ending) (w' : World) : Prop := Below w.heap.size w w' ∧ ∃ A c, e = .returned (.tuple #[.agg #[.bool (decide (z < 0)), .slice A (canN z.natAbs).length c], .int .i64 er]) ∧ (canN z.natAbs).length ≤ c ∧ LAt w' A (canN z.natAbs)
theorem zero_val : (Value.agg #[.bool (decide ((0 : Int) < 0)), .slice none (canN (0 : Int).natAbs).length 0]) = .agg #[.bool false, .slice none 0 0] := by
  rw [show canN (0 : Int).natAbs = [] from canN_zero]; rfl
theorem eout_zero {er : Int} {w w' : World} (hb : Below w.heap.size w w') : EOut 0 er w (.returned (.tuple #[.agg #[.bool false, .slice none 0 0], .int .i64 er])) w' :=
  ⟨hb, none, 0, by rw [zero_val], by rw [show canN (0 : Int).natAbs = [] from canN_zero]; exact Nat.le_refl _, by rw [show canN (0 : Int).natAbs = [] from canN_zero]; exact LAt.nil _ _⟩
def sizedR (z : Int) : Int × Int := if lgB z then (0, 2) else (z, 0)
set_option maxHeartbeats 2000000 in
theorem sized_any (n : Nat) (v : Value) (z : Int) (w : World) (h : IsC w v z) (hz : (canN z.natAbs).length ≤ n) (hn : n ≤ 400000) :
    Calls Try.prog 48 #[v] w (EOut (sizedR z).1 (sizedR z).2 w) := by
  obtain ⟨A, c, rfl, hc, hA⟩ := h
  obtain ⟨q, hq⟩ : ∃ q, q = lgB z := ⟨_, rfl⟩
  have H := Lib.hid (show IsC w (.agg #[.bool (decide (z < 0)), .slice A (canN z.natAbs).length c]) z from ⟨A, c, rfl, hc, hA⟩)
  obtain ⟨s, hs⟩ : ∃ s, s = decide (z < 0) := ⟨_, rfl⟩
  obtain ⟨m, hm⟩ : ∃ m, m = (canN z.natAbs).length := ⟨_, rfl⟩
  rw [← hs, ← hm] at H ⊢
  have HA := Lib.hid hA
  have HC := Lib.hid hc
  have HS := Lib.hid (And.intro hs hm)
  have hlo := fun g w' hg h0 h1 (hb : Below w.heap.size w w') => large_one n g (.bool s) (.slice A m c) z w' hg h0 h1 ((H.out.below hb).zl hz) hn
  rw [← hq] at hlo
  have HLO := Lib.hid hlo
  cases hqq : q
  · have e : sizedR z = (z, 0) := by unfold sizedR; rw [← hq, hqq]; rfl
    rw [e]
    subst hqq
    clear hq hs hm hA hc hlo e
    go_enter Try.func48, Try.ntmps48; (try simp only [List.append_eq, List.cons_append, List.nil_append])
    go_wp2_with fail
    -- own blocks: w.heap.size:2, w.heap.size + 1:2
    (go_at_call 51; refine (HLO.out _ _ (by simp) (by go_simp) (by go_simp) (by ((with_reducible (repeat (first | exact bR _ _ | refine bS ?_ ?_ _ | refine bA ?_ ?_ _ | refine bD ?_ | refine bT ?_ (by assumption) ?_ | refine bO (by assumption) ?_ ?_))) <;> (first | omega | (simp; done) | (simp <;> omega))))).mono ?_; rintro e w1 ⟨rfl, hb_w1⟩; have hz_w1 := hb_w1.size; (try simp at hz_w1); (with_reducible apply cel2 (b := w.heap.size) hb_w1); (focus ((try simp) <;> omega)); (focus omega); (focus (go_simp; try exact rfl)); (focus (go_simp; try exact rfl)); (focus (intro o; go_simp)); intro cc cc fz hl; (with_reducible apply cel2 (b := w.heap.size + 1) hb_w1); (focus ((try simp) <;> omega)); (focus omega); (focus (go_simp; try exact rfl)); (focus (go_simp; try exact rfl)); (focus (intro o; go_simp)); intro cc cc fz hl)
    have HB1 := Lib.hid (show Below w.heap.size w w1 by ((with_reducible (repeat (first | exact bR _ _ | refine bS ?_ ?_ _ | refine bA ?_ ?_ _ | refine bD ?_ | refine bT ?_ (by assumption) ?_ | refine bO (by assumption) ?_ ?_))) <;> (first | omega | (simp; done) | (simp <;> omega))))
    go_wp2_with fail
    refine bodyPost_ret (v := .tuple #[.agg #[.bool s, .slice A m c], .int .i64 0]) (by simp only [results, Try.results48]; go_simp) rfl ⟨?_, ?_⟩
    · exact (HB1.out.setCell (by simp <;> omega) _).setCell (by simp <;> omega) _
    · exact ⟨A, c, by rw [HS.out.1, HS.out.2], HC.out, (HA.out.below HB1.out).set2 (by assumption) (by assumption) _ _⟩
  · have e : sizedR z = (0, 2) := by unfold sizedR; rw [← hq, hqq]; rfl
    rw [e]
    subst hqq
    clear hq hs hm hA hc hlo e
    go_enter Try.func48, Try.ntmps48; (try simp only [List.append_eq, List.cons_append, List.nil_append])
    go_wp2_with fail
    -- own blocks: w.heap.size:2, w.heap.size + 1:2
    (go_at_call 51; refine (HLO.out _ _ (by simp) (by go_simp) (by go_simp) (by ((with_reducible (repeat (first | exact bR _ _ | refine bS ?_ ?_ _ | refine bA ?_ ?_ _ | refine bD ?_ | refine bT ?_ (by assumption) ?_ | refine bO (by assumption) ?_ ?_))) <;> (first | omega | (simp; done) | (simp <;> omega))))).mono ?_; rintro e w1 ⟨rfl, hb_w1⟩; have hz_w1 := hb_w1.size; (try simp at hz_w1); (with_reducible apply cel2 (b := w.heap.size) hb_w1); (focus ((try simp) <;> omega)); (focus omega); (focus (go_simp; try exact rfl)); (focus (go_simp; try exact rfl)); (focus (intro o; go_simp)); intro cc cc fz hl; (with_reducible apply cel2 (b := w.heap.size + 1) hb_w1); (focus ((try simp) <;> omega)); (focus omega); (focus (go_simp; try exact rfl)); (focus (go_simp; try exact rfl)); (focus (intro o; go_simp)); intro cc cc fz hl)
    have HB1 := Lib.hid (show Below w.heap.size w w1 by ((with_reducible (repeat (first | exact bR _ _ | refine bS ?_ ?_ _ | refine bA ?_ ?_ _ | refine bD ?_ | refine bT ?_ (by assumption) ?_ | refine bO (by assumption) ?_ ?_))) <;> (first | omega | (simp; done) | (simp <;> omega))))
    go_wp2_with fail
    refine bodyPost_ret (v := .tuple #[.agg #[.bool false, .slice none 0 0], .int .i64 2]) (by simp only [results, Try.results48]; go_simp) rfl (eout_zero ((HB1.out.setCell (by simp <;> omega) _).setCell (by simp <;> omega) _))
end Go.Proofs.Ytadkcipjcmkoiaa
