/- The contract of the law's own value. -/
import Derived.Test.YtkoejgpnlncgaaaValR
import Derived.Test.YtkoejgpnlncgaaaFlE
import Derived.Test.YtkoejgpnlncgaaaAwakeJ
import Derived.Test.YtkoejgpnlncgaaaOpenV
import Derived.Test.YtkoejgpnlncgaaaBigS
namespace Go.Proofs.Ytkoejgpnlncgaaa
open Go Go.RowKit
set_option linter.unusedVariables false
def Short (zs : List Int) : Prop := zs.length ≤ 3 ∧ trimP zs = zs ∧ ∀ z ∈ zs, -16777216 ≤ z ∧ z ≤ 16777216
theorem short3 {a b c : Int} (ha : -16777216 ≤ a ∧ a ≤ 16777216) (hb : -16777216 ≤ b ∧ b ≤ 16777216) (hc : -16777216 ≤ c ∧ c ≤ 16777216) : Short (trimP [a, b, c]) := by
  refine ⟨Nat.le_trans (List.length_take_le _ _) (Nat.le_trans (tz_le _) (by simp)), trimP_trimP _, fun t ht => ?_⟩
  have := List.mem_of_mem_take ht
  simp only [List.mem_cons, List.not_mem_nil, or_false] at this
  rcases this with rfl | rfl | rfl
  · exact ha
  · exact hb
  · exact hc
set_option maxRecDepth 100000 in
set_option maxHeartbeats 4000000 in
theorem value_any (pv : Value) (zs : List Int) (j v : Int) (w : World) (hp : IsP w pv zs) (hs : Short zs) (j1 : 0 ≤ j) (j2 : j ≤ 16) (hv0 : hv zs j zs.length * 2 ^ (4 * (2 - (zs.length - 1))) = v) (hb : -9223372036854775808 ≤ v ∧ v ≤ 9223372036854775807) :
    Calls Try.prog 23 #[pv, .int .i64 j, .int .i64 v] w fun e w' => e = .returned (.bool true) ∧ Below w.heap.size w w' := by
  obtain ⟨hlen, htr, hz⟩ := hs
  have hcv := hv_canN hz j1 j2 zs.length hlen
  have hval := fun W nv (h : Below w.heap.size w W) (hN : IsC W nv j) => rvalue_any pv nv zs j W (hp.below h) hN hlen htr hz j1 j2
  obtain ⟨A, c, vs, rfl, hc, hA, hZ⟩ := hp
  obtain ⟨V, hV⟩ : ∃ V, V = hv zs j zs.length := ⟨_, rfl⟩
  rw [← hV] at hcv hv0 hval
  have hl : vs.length = zs.length := hZ.1
  have hup := fun W u (h : IsC W u V) => up_any 2 u V 0 (4 * (2 - (zs.length - 1))) W (h.zl hcv) (by omega) (by omega) (by omega)
  have e5 : V * (PB 0 * 2 ^ (4 * (2 - (zs.length - 1)))) = v := by rw [PB_zero, Int.one_mul]; exact hv0
  rw [e5] at hup
  have hsm := fun W u x (h1 : IsC W u v) (h2 : IsC W x v) => same_any u x v v W h1 h2 (Nat.le_trans (small_canN hb) (by decide)) (Nat.le_trans (small_canN hb) (by decide))
  rw [decide_eq_true rfl] at hsm
  obtain ⟨n, hn⟩ : ∃ n, n = vs.length := ⟨_, rfl⟩
  rw [← hn] at hval ⊢
  have e4 : 32 * ((0 : Nat) : Int) + ((4 * (2 - (zs.length - 1)) : Nat) : Int) = 4 * (2 - max ((n : Int) - 1) 0) := by omega
  rw [e4] at hup
  have n3 : (n : Int) ≤ 3 := by omega
  have n0 : (0 : Int) ≤ (n : Int) := by omega
  have HVAL := Lib.hid hval
  have HUP := Lib.hid hup
  have HSM := Lib.hid hsm
  obtain ⟨b1, b2⟩ := hb
  clear hval hup hsm e4 e5 hv0 hcv hlen htr hz hA hZ hl hn hV hc
  go_enter Try.func23, Try.ntmps23; (try simp only [List.append_eq, List.cons_append, List.nil_append])
  go_wp2_with fail
  -- own blocks: 
  (go_at_call 67; refine (of_any j _ (by omega) (by omega)).mono ?_; rintro e w1 ⟨hb_w1, v1, rfl, hv1⟩; have hz_w1 := hb_w1.size; (try simp at hz_w1); skip)
  have HV1 := Lib.hid hv1
  clear hv1
  go_wp2_with fail
  (go_at_call 66; refine (HVAL.out _ _ hb_w1 HV1.out).mono ?_; rintro e w2 ⟨hb_w2, v2, rfl, hv2⟩; have hz_w2 := hb_w2.size; (try simp at hz_w2); skip)
  obtain ⟨x2, y2, rfl⟩ := isC_parts hv2
  obtain ⟨A2, c2, rfl, rfl, _, _⟩ := isC_shape hv2
  have HV2 := Lib.hid hv2
  clear hv2
  go_wp2_with fail
  -- own blocks: w2.heap.size:2
  (go_at_call 69; refine (HUP.out _ _ (HV2.out.below (by ((with_reducible (repeat (first | exact bR _ _ | refine bS ?_ ?_ _ | refine bA ?_ ?_ _ | refine bD ?_ | refine bT ?_ (by assumption) ?_ | refine bO (by assumption) ?_ ?_))) <;> (first | omega | (simp; done) | (simp <;> omega)))))).mono ?_; rintro e w3 ⟨hb_w3, v3, rfl, hv3⟩; have hz_w3 := hb_w3.size; (try simp at hz_w3); (with_reducible apply cel2 (b := w2.heap.size) hb_w3); (focus ((try simp) <;> omega)); (focus omega); (focus (go_simp; try exact rfl)); (focus (go_simp; try exact rfl)); (focus (intro o; go_simp)); intro cc cc fz hl)
  have HV3 := Lib.hid hv3
  clear hv3
  go_wp2_with fail
  (go_at_call 67; refine (of_any v _ b1 b2).mono ?_; rintro e w4 ⟨hb_w4, v4, rfl, hv4⟩; have hz_w4 := hb_w4.size; (try simp at hz_w4); (with_reducible apply cel2 (b := w2.heap.size) hb_w4); (focus ((try simp) <;> omega)); (focus omega); (focus (go_simp; try exact rfl)); (focus (go_simp; try exact rfl)); (focus (intro o; go_simp)); intro cc cc fz hl)
  have HV4 := Lib.hid hv4
  clear hv4
  go_wp2_with fail
  (go_at_call 68; refine (HSM.out _ _ _ (HV3.out.below (by ((with_reducible (repeat (first | exact bR _ _ | refine bS ?_ ?_ _ | refine bA ?_ ?_ _ | refine bD ?_ | refine bT ?_ (by assumption) ?_ | refine bO (by assumption) ?_ ?_))) <;> (first | omega | (simp; done) | (simp <;> omega))))) HV4.out).mono ?_; rintro e w5 ⟨rfl, hb_w5⟩; have hz_w5 := hb_w5.size; (try simp at hz_w5); (with_reducible apply cel2 (b := w2.heap.size) hb_w5); (focus ((try simp) <;> omega)); (focus omega); (focus (go_simp; try exact rfl)); (focus (go_simp; try exact rfl)); (focus (intro o; go_simp)); intro cc cc fz hl)
  go_wp2_with fail
  go_ret
  refine ⟨rfl, ?_⟩
  ((with_reducible (repeat (first | exact bR _ _ | refine bS ?_ ?_ _ | refine bA ?_ ?_ _ | refine bD ?_ | refine bT ?_ (by assumption) ?_ | refine bO (by assumption) ?_ ?_))) <;> (first | omega | (simp; done) | (simp <;> omega)))
end Go.Proofs.Ytkoejgpnlncgaaa
