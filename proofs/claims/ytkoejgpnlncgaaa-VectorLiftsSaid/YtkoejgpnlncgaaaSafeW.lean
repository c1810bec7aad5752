/- Lists of vectors wherever they lie; the contracts of vector.Lift at any list, and of the law's own flips. -/
import Derived.Test.YtkoejgpnlncgaaaVecR
import Derived.Test.YtkoejgpnlncgaaaLiftP
import Derived.Test.YtkoejgpnlncgaaaDraw
import Derived.Deep.RegionHeld3
namespace Go.Proofs.Ytkoejgpnlncgaaa
open Go Go.RowKit
set_option linter.unusedVariables false
def VAt (w : World) (A : Option Addr) (l : List V2) : Prop := ∀ k x, l[k]? = some x → ∃ g o, A = some ⟨g, o, none⟩ ∧ g < w.heap.size ∧ w.cell? ⟨g, o + k * 2, none⟩ = some (.int .i64 x.1) ∧ w.cell? ⟨g, o + k * 2 + 1, none⟩ = some (.int .i64 x.2)
theorem VAt.nil (w : World) (A : Option Addr) : VAt w A [] := fun k x h => by simp at h
theorem VAt.below {w w1 : World} {A : Option Addr} {l : List V2} {B : Nat} (h : VAt w A l) (hb : Below B w w1) (hB : w.heap.size ≤ B) : VAt w1 A l := by
  intro k x hx
  obtain ⟨g, o, e, hg, a, b⟩ := h k x hx
  have hs := hb.size
  refine ⟨g, o, e, ?_, ?_, ?_⟩
  · exact Nat.lt_of_lt_of_le hg hb.size
  · rw [hb.cell (by simp; omega)]; exact a
  · rw [hb.cell (by simp; omega)]; exact b
theorem VAt.own {w w1 : World} {A : Option Addr} {l : List V2} {N : Nat} (h : VAt w A l) (hb : Own N w w1) (hN : w.heap.size ≤ N) : VAt w1 A l := h.below hb.2 hN
theorem VAt.vs {w : World} {A : Option Addr} {l : List V2} (h : VAt w A l) (hl : 0 < l.length) : ∃ g o, A = some ⟨g, o, none⟩ ∧ g < w.heap.size ∧ VsAt w g o l := by
  obtain ⟨g, o, e, hg, _⟩ := h 0 (l[0]) (by simp)
  refine ⟨g, o, e, hg, fun k x hx => ?_⟩
  obtain ⟨g', o', e', _, a⟩ := h k x hx
  rw [e] at e'
  simp only [Option.some.injEq, Addr.mk.injEq] at e'
  obtain ⟨rfl, rfl, _⟩ := e'
  exact a
theorem VsAt.vat {w : World} {g o : Nat} {l : List V2} (h : VsAt w g o l) (hg : g < w.heap.size) : VAt w (some ⟨g, o, none⟩) l := fun k x hx => ⟨g, o, rfl, hg, h k x hx⟩
theorem own_vat {w : World} {base : Nat} {e : TypeId} {cap : Nat} {A : Option Addr} {l : List V2} (h : w.ownsRow base e 2 (.slice A l.length cap) l.length (flatV l)) : VAt w A l := by
  rcases Nat.eq_zero_or_pos l.length with h0 | h0
  · rw [List.length_eq_zero_iff.1 h0]; exact VAt.nil _ _
  · rcases own_formS h with ⟨hn, _⟩ | ⟨_, g, c, hv, _, hg, _⟩
    · omega
    · simp only [Value.slice.injEq] at hv
      obtain ⟨rfl, _, rfl⟩ := hv
      exact (own_vsAt h).vat hg
theorem liftR_nil (x : V2) : liftR x [] = if smB x = true then x else (0, 0) := by
  unfold liftR
  cases h : smB x
  · rw [if_pos rfl]; rfl
  · rw [if_neg (by decide), if_neg (by decide), if_pos (show allowedR x [] = true from rfl), if_pos rfl]
set_option maxHeartbeats 1000000 in
theorem lift_none (x : V2) (A : Option Addr) (c : Nat) (w : World) :
    Calls Try.prog 34 #[.agg #[.int .i64 x.1, .int .i64 x.2], .slice A 0 c] w fun e w' => e = .returned (.agg #[.int .i64 (liftR x []).1, .int .i64 (liftR x []).2]) ∧ Below w.heap.size w w' := by
  rw [liftR_nil]
  cases h : smB x
  · have hs : smallB x.1 x.2 = false := h
    rw [if_neg (by decide)]
    go_enter Try.func34, Try.ntmps34; (try simp only [List.append_eq, List.cons_append, List.nil_append])
    go_wp2_with (first | (go_at_call 45; refine (small_any _ _ _).mono ?_; rintro e w1 ⟨rfl, hb1⟩; have hz1 : w.heap.size + 2 ≤ w1.heap.size := (by have h := hb1.size; (try simp at h); omega); have hbb := Below.mono hb1 (B' := w.heap.size + 2) (by (try simp) <;> omega); clear hb1; (with_reducible apply cel2 (b := w.heap.size) hbb); (focus ((try simp) <;> omega)); (focus omega); (focus (go_simp; try exact rfl)); (focus (go_simp; try exact rfl)); (focus (intro o; go_simp)); intro cc cc fz hl; (with_reducible apply cel2 (b := w.heap.size + 1) hbb); (focus ((try simp) <;> omega)); (focus omega); (focus (go_simp; try exact rfl)); (focus (go_simp; try exact rfl)); (focus (intro o; go_simp)); intro cc cc fz hl))
    refine bodyPost_ret (v := .agg #[.int .i64 0, .int .i64 0]) (by simp only [results, Try.results34]; go_simp) rfl ⟨?_, ?_⟩
    · rfl
    · ((with_reducible (repeat (first | exact bR _ _ | refine bS ?_ ?_ _ | refine bA ?_ ?_ _ | refine bD ?_ | refine bT ?_ (by assumption) ?_ | refine bO (by assumption) ?_ ?_))) <;> (first | omega | (simp; done) | (simp <;> omega)))
  · have hs : smallB x.1 x.2 = true := h
    rw [if_pos rfl]
    go_enter Try.func34, Try.ntmps34; (try simp only [List.append_eq, List.cons_append, List.nil_append])
    go_wp2_with (first | (go_at_call 45; refine (small_any _ _ _).mono ?_; rintro e w1 ⟨rfl, hb1⟩; have hz1 : w.heap.size + 2 ≤ w1.heap.size := (by have h := hb1.size; (try simp at h); omega); have hbb := Below.mono hb1 (B' := w.heap.size + 2) (by (try simp) <;> omega); clear hb1; (with_reducible apply cel2 (b := w.heap.size) hbb); (focus ((try simp) <;> omega)); (focus omega); (focus (go_simp; try exact rfl)); (focus (go_simp; try exact rfl)); (focus (intro o; go_simp)); intro cc cc fz hl; (with_reducible apply cel2 (b := w.heap.size + 1) hbb); (focus ((try simp) <;> omega)); (focus omega); (focus (go_simp; try exact rfl)); (focus (go_simp; try exact rfl)); (focus (intro o; go_simp)); intro cc cc fz hl))
    have HB0 := Lib.hid hbb
    clear hbb
    go_loop [5, 26] (fun vb vi => vb = .bool true ∧ vi = .int .i64 0) (fun _ vi => 0)
    case atStart => exact ⟨rfl, rfl⟩
    case round =>
      obtain ⟨rfl, rfl⟩ := hrel
      go_wp2_with fail
      refine bodyPost_ret (v := .agg #[.int .i64 x.1, .int .i64 x.2]) (by simp only [results, Try.results34]; go_simp) rfl ⟨?_, ?_⟩
      · rfl
      · have hb := HB0.out
        ((with_reducible (repeat (first | exact bR _ _ | refine bS ?_ ?_ _ | refine bA ?_ ?_ _ | refine bD ?_ | refine bT ?_ (by assumption) ?_ | refine bO (by assumption) ?_ ?_))) <;> (first | omega | (simp; done) | (simp <;> omega)))
theorem lift_any (x : V2) (l : List V2) (A : Option Addr) (c : Nat) (w : World) (hl100 : l.length ≤ 1000) (hV : VAt w A l) (hxb : -9223372036854775808 ≤ x.1 ∧ x.1 ≤ 9223372036854775807 ∧ -9223372036854775808 ≤ x.2 ∧ x.2 ≤ 9223372036854775807) :
    Calls Try.prog 34 #[.agg #[.int .i64 x.1, .int .i64 x.2], .slice A l.length c] w fun e w' => e = .returned (.agg #[.int .i64 (liftR x l).1, .int .i64 (liftR x l).2]) ∧ Below w.heap.size w w' := by
  rcases Nat.eq_zero_or_pos l.length with h0 | h0
  · rw [List.length_eq_zero_iff.1 h0]; exact lift_none x A c w
  · obtain ⟨g, o, rfl, hg, hv⟩ := hV.vs h0
    exact lift_some x l g o c w h0 hl100 hg hv hxb
set_option maxHeartbeats 400000 in
theorem flip_sm (a b : Int) (w : World) (h : smallB a b = true) :
    Calls Try.prog 38 #[.agg #[.int .i64 a, .int .i64 b]] w fun e w' => e = .returned (.agg #[.int .i64 (flipV (a, b)).1, .int .i64 (flipV (a, b)).2]) ∧ Below w.heap.size w w' := by
  obtain ⟨q1, q2, q3, q4⟩ := small_bd h
  show Calls Try.prog 38 #[.agg #[.int .i64 a, .int .i64 b]] w fun e w' => e = .returned (.agg #[.int .i64 (-a), .int .i64 b]) ∧ Below w.heap.size w w'
  go_enter Try.func38, Try.ntmps38; (try simp only [List.append_eq, List.cons_append, List.nil_append])
  go_wp2_with fail
  refine bodyPost_ret (v := .agg #[.int .i64 (-a), .int .i64 b]) (by simp only [results, Try.results38]; go_simp) rfl ⟨?_, ?_⟩
  · rfl
  · ((with_reducible (repeat (first | exact bR _ _ | refine bS ?_ ?_ _ | refine bA ?_ ?_ _ | refine bD ?_ | refine bT ?_ (by assumption) ?_ | refine bO (by assumption) ?_ ?_))) <;> (first | omega | (simp; done) | (simp <;> omega)))
def FOut (l : List V2) (w : World) (e : Ending) (w' : World) : Prop := Below w.heap.size w w' ∧ ∃ A c, e = .returned (.slice A l.length c) ∧ VAt w' A l
theorem own_slice {w : World} {base size n : Nat} {e : TypeId} {v : Value} {xs : List Value} (h : w.ownsRow base e size v n xs) : ∃ A c, v = .slice A n c := by
  rcases h.2 with ⟨hv, hn⟩ | ⟨g, cap, cur, hv, _⟩
  · subst hn; exact ⟨_, _, hv⟩
  · exact ⟨_, _, hv⟩
set_option maxHeartbeats 2000000 in
theorem flips_any (l : List V2) (A : Option Addr) (c : Nat) (w : World) (hl : l.length ≤ 1000) (hV : VAt w A l) (hs : ∀ n ∈ l, smB n = true) :
    Calls Try.prog 39 #[.slice A l.length c] w (FOut (l.map flipV) w) := by
  obtain ⟨i0, hi0, hy0, hy1, hy2⟩ := info_parts vecInfo
  have HV := Lib.hid hV
  have HS := Lib.hid hs
  clear hV hs
  go_enter Try.func39, Try.ntmps39; (try simp only [List.append_eq, List.cons_append, List.nil_append])
  go_wp2_with fail
  go_loopw [3, 4] (fun v vi wr => ∃ k : Nat, k ≤ l.length ∧ vi = .int .i64 k ∧ wr.ownsRow w.heap.size 23 2 v k (flatV ((l.take k).map flipV)) ∧ Below w.heap.size w wr) (fun _ vi _ => l.length - (intOf vi).toNat)
  case atStart => exact ⟨0, by omega, rfl, World.ownsRow_nil _ _ _ _, Below.refl _ _⟩
  case round =>
    obtain ⟨k, hk, rfl, hown, hbel⟩ := hrel
    have hz := hbel.size
    have HO := Lib.hid hown
    have HB := Lib.hid hbel
    have i1 : (0 : Int) ≤ (k : Int) := by omega
    by_cases hlt : k < l.length
    · obtain ⟨⟨xa, xb⟩, hx⟩ : ∃ x, l[k]? = some x := ⟨l[k], by simp⟩
      obtain ⟨g, o, rfl, hg, c0, c1⟩ := (HV.out.below hbel (Nat.le_refl _)) k _ hx
      have hsx : smallB xa xb = true := HS.out _ (List.mem_of_getElem? hx)
      have HX := Lib.hid hx
      have i2 : (k : Int) < (l.length : Int) := by omega
      clear hx hown hbel
      simp only at c0 c1
      go_wp2_with fail
      -- own blocks: 
      (go_at_call 38; refine (flip_sm _ _ _ hsx).mono ?_; rintro e w2 ⟨rfl, hb_w2⟩; have hz_w2 := hb_w2.size; (try simp at hz_w2); skip)
      have HO2 := Lib.hid (own_below HO.out hb_w2 (Nat.le_refl _))
      have HB2 := Lib.hid (HB.out.trans (hb_w2.mono hz))
      have hz2 := HB2.out.size
      clear hb_w2 c0 c1
      go_wp2_with (at_builtin; go_must (refine wpList_append_own _ rfl _ _ 44 rfl w.heap.size 23 i0 _ 2 16 Try.underlying44 hi0 hy0 hy1 hy2 rfl (by decide) _ _ _ rfl (HO2.out.alloc _) ⟨w2.heap.size, 0, none⟩ 1 1 (cellsOfV (flipV (xa, xb))) rfl rfl (cells_new (cellsOfV (flipV (xa, xb))) 23 w2.heap.size rfl) ?c2 ?c3 ?c4 ?c5 ?_))
      case c2 => first | exact ⟨rfl, rfl⟩ | (intro u hu; simp [cellsOfV] at hu; rcases hu with rfl | rfl <;> rfl)
      case c3 => simp [maxLen]; omega
      case c4 => omega
      case c5 => first | omega | (simp; omega)
      intro v3 w3 hown3 hg3 _
      have HB3 := Lib.hid ((HB2.out.alloc (by omega) _).grown hg3 (by simp; omega) (own_fresh HO2.out))
      clear hg3
      go_wp2_with fail
      go_roundw
      case rel =>
        refine ⟨k + 1, by omega, by go_num, ?_, HB3.out⟩
        rw [List.take_add_one, HX.out]
        simp only [Option.toList_some, List.map_append, List.map_cons, List.map_nil, flatV_snoc]
        rw [List.map_take]
        exact hown3
      case measure => simp [intOf]; omega
    · obtain rfl : k = l.length := by omega
      rw [List.take_length] at HO
      obtain ⟨A', c', rfl⟩ := own_slice HO.out
      have hv : VAt wr A' (l.map flipV) := own_vat (by rw [List.length_map]; exact HO.out)
      have HV2 := Lib.hid hv
      have e1 : (l.map flipV).length = l.length := List.length_map ..
      have H1 := Lib.hid e1
      clear hown hbel hv e1
      go_wp2_with fail
      go_ret
      exact ⟨HB.out, A', c', by rw [List.length_map]; rfl, HV2.out⟩
end Go.Proofs.Ytkoejgpnlncgaaa
