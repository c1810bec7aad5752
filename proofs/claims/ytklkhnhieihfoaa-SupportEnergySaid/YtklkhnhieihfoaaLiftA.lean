/- What Lift computes, and the contract of vector.allowed. -/
import Derived.Test.YtklkhnhieihfoaaVecC
namespace Go.Proofs.Ytklkhnhieihfoaa
open Go.RowKit
set_option linter.unusedVariables false
abbrev V2 := Int × Int
def smB (p : V2) : Bool := smallB p.1 p.2
def vd (x n : V2) : Int := x.1 * n.1 + x.2 * n.2
def allowedR (y : V2) (l : List V2) : Bool := l.all (fun n => decide (0 ≤ vd y n))
def candR (x : V2) (l : List V2) (best : List V2) (y : V2) : List V2 :=
  if smB y = true ∧ allowedR y l = true then
    (if orderR x.1 x.2 y.1 y.2 (best.headD (0, 0)).1 (best.headD (0, 0)).2 = -1 then [y] else if orderR x.1 x.2 y.1 y.2 (best.headD (0, 0)).1 (best.headD (0, 0)).2 = 0 then best ++ [y] else best)
  else best
def cornersR (x n : V2) : List V2 :=
  [(-(n.1 * x.2 - n.2 * x.1) * n.2 / vd n n, (n.1 * x.2 - n.2 * x.1) * n.1 / vd n n),
   (-(n.1 * x.2 - n.2 * x.1) * n.2 / vd n n, -((-((n.1 * x.2 - n.2 * x.1) * n.1)) / vd n n)),
   (-((-(-(n.1 * x.2 - n.2 * x.1) * n.2)) / vd n n), (n.1 * x.2 - n.2 * x.1) * n.1 / vd n n),
   (-((-(-(n.1 * x.2 - n.2 * x.1) * n.2)) / vd n n), -((-((n.1 * x.2 - n.2 * x.1) * n.1)) / vd n n))]
def stepR (x : V2) (l : List V2) (best : List V2) (n : V2) : List V2 := if 0 ≤ vd x n then best else (cornersR x n).foldl (candR x l) best
def bestR (x : V2) (l : List V2) : List V2 := l.foldl (stepR x l) [(0, 0)]
def pickR (b : List V2) : V2 := if b.all (fun y => decide (y = b.headD (0, 0))) then b.headD (0, 0) else (0, 0)
def liftR (x : V2) (l : List V2) : V2 :=
  if smB x = false then (0, 0) else if l.all smB = false then (0, 0) else if allowedR x l = true then x else pickR (bestR x l)
def VsAt (w : World) (g o : Nat) (l : List V2) : Prop := ∀ k x, l[k]? = some x → w.cell? ⟨g, o + k * 2, none⟩ = some (.int .i64 x.1) ∧ w.cell? ⟨g, o + k * 2 + 1, none⟩ = some (.int .i64 x.2)
theorem VsAt.below {w w1 : World} {g o B : Nat} {l : List V2} (h : VsAt w g o l) (hb : Below B w w1) (hg : g < B) : VsAt w1 g o l := by
  intro k x hx
  obtain ⟨a, b⟩ := h k x hx
  refine ⟨?_, ?_⟩ <;> rw [hb.cell (by simpa using hg)] <;> assumption
theorem vd_bd {x n : V2} (h1 : smB x = true) (h2 : smB n = true) : -(2 * 1152921504606846976) ≤ vd x n ∧ vd x n ≤ 2 * 1152921504606846976 := by
  obtain ⟨q1, q2, q3, q4⟩ := small_bd h1
  obtain ⟨r1, r2, r3, r4⟩ := small_bd h2
  obtain ⟨m1, m2⟩ := mul_bd x.1 n.1 1073741824 1073741824 q1 q2 r1 r2
  obtain ⟨m3, m4⟩ := mul_bd x.2 n.2 1073741824 1073741824 q3 q4 r3 r4
  unfold vd
  omega
theorem dot_vd (x n : V2) (w : World) (h1 : smB x = true) (h2 : smB n = true) :
    Calls Try.prog 19 #[.agg #[.int .i64 x.1, .int .i64 x.2], .agg #[.int .i64 n.1, .int .i64 n.2]] w fun e w' => e = .returned (.int .i64 (vd x n)) ∧ Below w.heap.size w w' := dot_in _ _ _ _ w h1 h2
theorem all_take_succ {p : V2 → Bool} {l : List V2} {k : Nat} {x : V2} (h : l[k]? = some x) : (l.take (k + 1)).all p = ((l.take k).all p && p x) := by
  rw [List.take_add_one, h]; simp
set_option maxRecDepth 100000 in
set_option maxHeartbeats 1000000 in
theorem allowed_some (y : V2) (l : List V2) (g o c : Nat) (w : World) (hn : 0 < l.length) (hl : l.length ≤ 1000) (hg : g < w.heap.size) (hV : VsAt w g o l) (hy : smB y = true) (hs : ∀ n ∈ l, smB n = true) :
    Calls Try.prog 111 #[.agg #[.int .i64 y.1, .int .i64 y.2], .slice (some ⟨g, o, none⟩) l.length c] w fun e w' => e = .returned (.bool (allowedR y l)) ∧ Below w.heap.size w w' := by
  have HV := Lib.hid hV
  have HS := Lib.hid hs
  have HY := Lib.hid hy
  obtain ⟨y1, y2⟩ := y
  obtain ⟨q1, q2, q3, q4⟩ := small_bd hy
  clear hV hs hy
  obtain ⟨R, hR⟩ : ∃ R, R = allowedR (y1, y2) l := ⟨_, rfl⟩
  rw [← hR]
  have HR := Lib.hid hR
  clear hR
  go_enter Try.func111, Try.ntmps111; (try simp only [List.append_eq, List.cons_append, List.nil_append])
  go_wp2_with fail
  refine pin_wp (N := w.heap.size + 1) (by (try simp) <;> omega) (fun w1 hbb hz1 => ?_); (with_reducible apply cel2 (b := w.heap.size) hbb); (focus ((try simp) <;> omega)); (focus omega); (focus (go_simp; try exact rfl)); (focus (go_simp; try exact rfl)); (focus (intro o; go_simp)); intro cc cc fz hl
  have HB0 := Lib.hid (((Below.refl w.heap.size w).alloc (Nat.le_refl _) _).trans (hbb.mono (by omega)))
  clear hbb
  go_loopw [9] (fun t wr => ∃ k : Nat, k ≤ l.length ∧ t = .int .i64 k ∧ Hid (allowedR (y1, y2) (l.take k) = true) ∧ Below (w.heap.size + 1) w1 wr) (fun t _ => l.length - (intOf t).toNat)
  case atStart => exact ⟨0, by omega, rfl, Lib.hid rfl, Below.refl _ _⟩
  case round =>
    obtain ⟨k, hk, rfl, HA, hb_wr⟩ := hrel
    have hz_wr := hb_wr.size
    by_cases hlt : k < l.length
    · obtain ⟨⟨a, b⟩, hx⟩ : ∃ x, l[k]? = some x := ⟨l[k], by simp⟩
      have HB := Lib.hid (HB0.out.trans (hb_wr.mono (by omega)))
      obtain ⟨a0, a1⟩ := (HV.out.below HB.out hg) k _ hx
      obtain ⟨r1, r2, r3, r4⟩ := small_bd (HS.out _ (List.mem_of_getElem? hx))
      obtain ⟨m1, m2⟩ := mul_bd y1 a 1073741824 1073741824 q1 q2 r1 r2
      obtain ⟨m3, m4⟩ := mul_bd y2 b 1073741824 1073741824 q3 q4 r3 r4
      have hall := all_take_succ (p := fun n => decide (0 ≤ vd (y1, y2) n)) hx
      have hal2 : allowedR (y1, y2) (l.take (k + 1)) = decide (0 ≤ y1 * a + y2 * b) := by
        have h1 := HA.out
        unfold allowedR at h1 ⊢
        rw [hall, h1, Bool.true_and]; rfl
      have HN := Lib.hid hal2
      have HX := Lib.hid hx
      have HBW := Lib.hid hb_wr
      -- own blocks: w.heap.size:2
      (with_reducible apply cel2 (b := w.heap.size) hb_wr); (focus ((try simp) <;> omega)); (focus omega); (focus (go_simp; try exact rfl)); (focus (go_simp; try exact rfl)); (focus (intro o; go_simp)); intro cc cc fz hl
      have i1 : (0 : Int) ≤ (k : Int) := by omega
      have i2 : (k : Int) < (l.length : Int) := by omega
      have l1 : g < wr.heap.size := by omega
      clear hb_wr hx hall hal2
      by_cases hneg : y1 * a + y2 * b < 0
      · have hfin : R = false := by
          rw [HR.out]
          unfold allowedR
          rw [List.all_eq_false]
          refine ⟨(a, b), List.mem_of_getElem? HX.out, ?_⟩
          show ¬ decide (0 ≤ y1 * a + y2 * b) = true
          rw [decide_eq_true_eq]; omega
        subst hfin
        go_wp2_with fail
        go_ret
        exact ⟨rfl, by have hb := HB.out; ((with_reducible (repeat (first | exact bR _ _ | refine bS ?_ ?_ _ | refine bA ?_ ?_ _ | refine bD ?_ | refine bT ?_ (by assumption) ?_ | refine bO (by assumption) ?_ ?_))) <;> (first | omega | (simp; done) | (simp <;> omega)))⟩
      · have HN2 := Lib.hid (show allowedR (y1, y2) (l.take (k + 1)) = true by rw [HN.out]; exact decide_eq_true (by omega))
        go_wp2_with fail
        go_roundw
        case rel => exact ⟨k + 1, by omega, by go_num, HN2, by have hb := HBW.out; ((with_reducible (repeat (first | exact bR _ _ | refine bS ?_ ?_ _ | refine bA ?_ ?_ _ | refine bD ?_ | refine bT ?_ (by assumption) ?_ | refine bO (by assumption) ?_ ?_))) <;> (first | omega | (simp; done) | (simp <;> omega)))⟩
        case measure => simp [intOf]; omega
    · obtain rfl : k = l.length := by omega
      have hfin : R = true := by rw [HR.out]; have := HA.out; rwa [List.take_length] at this
      subst hfin
      have HB := Lib.hid (HB0.out.trans (hb_wr.mono (by omega)))
      clear hb_wr
      go_wp2_with fail
      go_ret
      exact ⟨rfl, HB.out⟩
end Go.Proofs.Ytklkhnhieihfoaa
