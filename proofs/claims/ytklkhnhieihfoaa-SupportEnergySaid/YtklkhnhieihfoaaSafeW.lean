/- Lists of vectors wherever they lie; the contracts of vector.Lift at any list, and of the law's own flips. -/
import Derived.Test.YtklkhnhieihfoaaVecR
import Derived.Test.YtklkhnhieihfoaaLiftP
import Derived.Test.YtklkhnhieihfoaaDraw
import Derived.Deep.RegionHeld3
namespace Go.Proofs.Ytklkhnhieihfoaa
open Go Go.RowKit
set_option linter.unusedVariables false
def VAt (w : World) (A : Option Addr) (l : List V2) : Prop := ∀ k x, l[k]? = some x → ∃ g o, A = some ⟨g, o, none⟩ ∧ g < w.heap.size ∧ w.cell? ⟨g, o + k * 2, none⟩ = some (.int .i64 x.1) ∧ w.cell? ⟨g, o + k * 2 + 1, none⟩ = some (.int .i64 x.2)
theorem VAt.nil (w : World) (A : Option Addr) : VAt w A [] := fun k x h => by simp at h
theorem VAt.below {w w1 : World} {A : Option Addr} {l : List V2} {B : Nat} (h : VAt w A l) (hb : Below B w w1) (hB : w.heap.size ≤ B) : VAt w1 A l := by
  intro k x hx
  obtain ⟨g, o, e, hg, a, b⟩ := h k x hx
  have hs := hb.size
  refine ⟨g, o, e, ?_, ?_, ?_⟩
  · exact Nat.lt_of_lt_of_le hg hb.size
  · rw [hb.cell (by simp; omega)]; exact a
  · rw [hb.cell (by simp; omega)]; exact b
theorem VAt.own {w w1 : World} {A : Option Addr} {l : List V2} {N : Nat} (h : VAt w A l) (hb : Own N w w1) (hN : w.heap.size ≤ N) : VAt w1 A l := h.below hb.2 hN
theorem VAt.vs {w : World} {A : Option Addr} {l : List V2} (h : VAt w A l) (hl : 0 < l.length) : ∃ g o, A = some ⟨g, o, none⟩ ∧ g < w.heap.size ∧ VsAt w g o l := by
  obtain ⟨g, o, e, hg, _⟩ := h 0 (l[0]) (by simp)
  refine ⟨g, o, e, hg, fun k x hx => ?_⟩
  obtain ⟨g', o', e', _, a⟩ := h k x hx
  rw [e] at e'
  simp only [Option.some.injEq, Addr.mk.injEq] at e'
  obtain ⟨rfl, rfl, _⟩ := e'
  exact a
theorem VsAt.vat {w : World} {g o : Nat} {l : List V2} (h : VsAt w g o l) (hg : g < w.heap.size) : VAt w (some ⟨g, o, none⟩) l := fun k x hx => ⟨g, o, rfl, hg, h k x hx⟩
theorem own_vat {w : World} {base : Nat} {e : TypeId} {cap : Nat} {A : Option Addr} {l : List V2} (h : w.ownsRow base e 2 (.slice A l.length cap) l.length (flatV l)) : VAt w A l := by
  rcases Nat.eq_zero_or_pos l.length with h0 | h0
  · rw [List.length_eq_zero_iff.1 h0]; exact VAt.nil _ _
  · rcases own_formS h with ⟨hn, _⟩ | ⟨_, g, c, hv, _, hg, _⟩
    · omega
    · simp only [Value.slice.injEq] at hv
      obtain ⟨rfl, _, rfl⟩ := hv
      exact (own_vsAt h).vat hg
theorem liftR_nil (x : V2) : liftR x [] = if smB x = true then x else (0, 0) := by
  unfold liftR
  cases h : smB x
  · rw [if_pos rfl]; rfl
  · rw [if_neg (by decide), if_neg (by decide), if_pos (show allowedR x [] = true from rfl), if_pos rfl]
set_option maxHeartbeats 1000000 in
theorem lift_none (x : V2) (A : Option Addr) (c : Nat) (w : World) :
    Calls Try.prog 60 #[.agg #[.int .i64 x.1, .int .i64 x.2], .slice A 0 c] w fun e w' => e = .returned (.agg #[.int .i64 (liftR x []).1, .int .i64 (liftR x []).2]) ∧ Below w.heap.size w w' := by
  rw [liftR_nil]
  cases h : smB x
  · have hs : smallB x.1 x.2 = false := h
    rw [if_neg (by decide)]
    go_enter Try.func60, Try.ntmps60; (try simp only [List.append_eq, List.cons_append, List.nil_append])
    go_wp2_with (first | (go_at_call 67; refine (small_any _ _ _).mono ?_; rintro e w1 ⟨rfl, hb1⟩; have hz1 : w.heap.size + 2 ≤ w1.heap.size := (by have h := hb1.size; (try simp at h); omega); have hbb := Below.mono hb1 (B' := w.heap.size + 2) (by (try simp) <;> omega); clear hb1; (with_reducible apply cel2 (b := w.heap.size) hbb); (focus ((try simp) <;> omega)); (focus omega); (focus (go_simp; try exact rfl)); (focus (go_simp; try exact rfl)); (focus (intro o; go_simp)); intro cc cc fz hl; (with_reducible apply cel2 (b := w.heap.size + 1) hbb); (focus ((try simp) <;> omega)); (focus omega); (focus (go_simp; try exact rfl)); (focus (go_simp; try exact rfl)); (focus (intro o; go_simp)); intro cc cc fz hl))
    refine bodyPost_ret (v := .agg #[.int .i64 0, .int .i64 0]) (by simp only [results, Try.results60]; go_simp) rfl ⟨?_, ?_⟩
    · rfl
    · ((with_reducible (repeat (first | exact bR _ _ | refine bS ?_ ?_ _ | refine bA ?_ ?_ _ | refine bD ?_ | refine bT ?_ (by assumption) ?_ | refine bO (by assumption) ?_ ?_))) <;> (first | omega | (simp; done) | (simp <;> omega)))
  · have hs : smallB x.1 x.2 = true := h
    rw [if_pos rfl]
    go_enter Try.func60, Try.ntmps60; (try simp only [List.append_eq, List.cons_append, List.nil_append])
    go_wp2_with (first | (go_at_call 67; refine (small_any _ _ _).mono ?_; rintro e w1 ⟨rfl, hb1⟩; have hz1 : w.heap.size + 2 ≤ w1.heap.size := (by have h := hb1.size; (try simp at h); omega); have hbb := Below.mono hb1 (B' := w.heap.size + 2) (by (try simp) <;> omega); clear hb1; (with_reducible apply cel2 (b := w.heap.size) hbb); (focus ((try simp) <;> omega)); (focus omega); (focus (go_simp; try exact rfl)); (focus (go_simp; try exact rfl)); (focus (intro o; go_simp)); intro cc cc fz hl; (with_reducible apply cel2 (b := w.heap.size + 1) hbb); (focus ((try simp) <;> omega)); (focus omega); (focus (go_simp; try exact rfl)); (focus (go_simp; try exact rfl)); (focus (intro o; go_simp)); intro cc cc fz hl))
    have HB0 := Lib.hid hbb
    clear hbb
    go_loop [5, 26] (fun vb vi => vb = .bool true ∧ vi = .int .i64 0) (fun _ vi => 0)
    case atStart => exact ⟨rfl, rfl⟩
    case round =>
      obtain ⟨rfl, rfl⟩ := hrel
      go_wp2_with fail
      refine bodyPost_ret (v := .agg #[.int .i64 x.1, .int .i64 x.2]) (by simp only [results, Try.results60]; go_simp) rfl ⟨?_, ?_⟩
      · rfl
      · have hb := HB0.out
        ((with_reducible (repeat (first | exact bR _ _ | refine bS ?_ ?_ _ | refine bA ?_ ?_ _ | refine bD ?_ | refine bT ?_ (by assumption) ?_ | refine bO (by assumption) ?_ ?_))) <;> (first | omega | (simp; done) | (simp <;> omega)))
theorem lift_any (x : V2) (l : List V2) (A : Option Addr) (c : Nat) (w : World) (hl100 : l.length ≤ 1000) (hV : VAt w A l) (hxb : -9223372036854775808 ≤ x.1 ∧ x.1 ≤ 9223372036854775807 ∧ -9223372036854775808 ≤ x.2 ∧ x.2 ≤ 9223372036854775807) :
    Calls Try.prog 60 #[.agg #[.int .i64 x.1, .int .i64 x.2], .slice A l.length c] w fun e w' => e = .returned (.agg #[.int .i64 (liftR x l).1, .int .i64 (liftR x l).2]) ∧ Below w.heap.size w w' := by
  rcases Nat.eq_zero_or_pos l.length with h0 | h0
  · rw [List.length_eq_zero_iff.1 h0]; exact lift_none x A c w
  · obtain ⟨g, o, rfl, hg, hv⟩ := hV.vs h0
    exact lift_some x l g o c w h0 hl100 hg hv hxb
def FOut (l : List V2) (w : World) (e : Ending) (w' : World) : Prop := Below w.heap.size w w' ∧ ∃ A c, e = .returned (.slice A l.length c) ∧ VAt w' A l
theorem own_slice {w : World} {base size n : Nat} {e : TypeId} {v : Value} {xs : List Value} (h : w.ownsRow base e size v n xs) : ∃ A c, v = .slice A n c := by
  rcases h.2 with ⟨hv, hn⟩ | ⟨g, cap, cur, hv, _⟩
  · subst hn; exact ⟨_, _, hv⟩
  · exact ⟨_, _, hv⟩
end Go.Proofs.Ytklkhnhieihfoaa
