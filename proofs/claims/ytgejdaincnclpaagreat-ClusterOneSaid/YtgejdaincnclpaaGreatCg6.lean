/- Merged texts: RsK RsD (what no proof of the claim needs is left out). -/
import Derived.Test.YtgejdaincnclpaaGreatCg5
import Derived.Deep.LoopGhost
namespace Go.Proofs.YtgejdaincnclpaaGreat
open Go Go.RowKit
set_option linter.unusedVariables false
theorem bitN_le {n k : Nat} (h : n < 2 ^ k) : bitN n ≤ k := by
  unfold bitN
  split
  · omega
  · rename_i h0
    have := (Nat.log2_lt h0).2 h
    omega
structure Val (r : Int × Int × Int) : Prop where
  d : 0 < r.2.2
  lx : (canN r.1.natAbs).length ≤ 32
  ly : (canN r.2.1.natAbs).length ≤ 32
  ld : (canN r.2.2.natAbs).length ≤ 32
def RsAt (w : World) (A : Option Addr) (l : List (Int × Int × Int)) : Prop := ∀ k r, l[k]? = some r → ∃ g o, A = some ⟨g, o, none⟩ ∧ g < w.heap.size ∧ ∃ s1 A1 n1 c1 s2 A2 n2 c2 s3 A3 n3 c3,
  w.cell? ⟨g, o + k * 6, none⟩ = some (.bool s1) ∧ w.cell? ⟨g, o + k * 6 + 1, none⟩ = some (.slice A1 n1 c1) ∧ w.cell? ⟨g, o + k * 6 + 2, none⟩ = some (.bool s2) ∧ w.cell? ⟨g, o + k * 6 + 3, none⟩ = some (.slice A2 n2 c2) ∧ w.cell? ⟨g, o + k * 6 + 4, none⟩ = some (.bool s3) ∧ w.cell? ⟨g, o + k * 6 + 5, none⟩ = some (.slice A3 n3 c3) ∧
  RAt w (.agg #[.bool s1, .slice A1 n1 c1, .bool s2, .slice A2 n2 c2, .bool s3, .slice A3 n3 c3]) r.1 r.2.1 r.2.2
theorem RsAt.below {w w1 : World} {A : Option Addr} {l : List (Int × Int × Int)} (h : RsAt w A l) (hb : Below w.heap.size w w1) : RsAt w1 A l := by
  intro k r hr
  obtain ⟨g, o, h1, h2, s1, A1, n1, c1, s2, A2, n2, c2, s3, A3, n3, c3, e0, e1, e2, e3, e4, e5, hR⟩ := h k r hr
  refine ⟨g, o, h1, Nat.lt_of_lt_of_le h2 hb.size, s1, A1, n1, c1, s2, A2, n2, c2, s3, A3, n3, c3, ?_, ?_, ?_, ?_, ?_, ?_, hR.below hb⟩ <;> (rw [hb.cell h2]; assumption)
theorem lowR_bd {x y d : Int} {n : Nat} (hd : 0 < d) (lx : (canN x.natAbs).length ≤ n) (ly : (canN y.natAbs).length ≤ n) (ld : (canN d.natAbs).length ≤ n) :
    0 < (lowR x y d).2.2 ∧ (canN (lowR x y d).1.natAbs).length ≤ n ∧ (canN (lowR x y d).2.1.natAbs).length ≤ n ∧ (canN (lowR x y d).2.2.natAbs).length ≤ n := by
  have key : ∀ z g : Int, (canN z.natAbs).length ≤ n → (canN (z.tdiv g).natAbs).length ≤ n := fun z g h => Nat.le_trans (canN_mono (Int.natAbs_tdiv_le_natAbs z g)) h
  refine ⟨?_, key _ _ lx, key _ _ ly, key _ _ ld⟩
  unfold lowR lowG
  simp only
  have h1 : (Nat.gcd (Nat.gcd x.natAbs y.natAbs) d.natAbs : Int) ∣ d := by
    have : (Nat.gcd (Nat.gcd x.natAbs y.natAbs) d.natAbs) ∣ d.natAbs := Nat.gcd_dvd_right _ _
    exact Int.ofNat_dvd_left.2 this
  have h2 : 0 < (Nat.gcd (Nat.gcd x.natAbs y.natAbs) d.natAbs : Int) := by
    have : 0 < Nat.gcd (Nat.gcd x.natAbs y.natAbs) d.natAbs := Nat.gcd_pos_of_pos_right _ (by omega)
    omega
  rw [Int.tdiv_eq_ediv_of_nonneg (by omega)]
  exact Int.ediv_pos_of_pos_of_dvd hd (by omega) h1
def meanS (l : List (Int × Int × Int)) : Int × Int × Int := l.foldl sumR (0, 0, 1)
def meanR (l : List (Int × Int × Int)) : Int × Int := ((meanS l).1.tdiv ((meanS l).2.2 * l.length), (meanS l).2.1.tdiv ((meanS l).2.2 * l.length))
theorem meanS_take {l : List (Int × Int × Int)} {k : Nat} {r : Int × Int × Int} (h : l[k]? = some r) : meanS (l.take (k + 1)) = sumR (meanS (l.take k)) r := by
  unfold meanS
  rw [List.take_add_one, h, List.foldl_append]
  rfl
structure SumOk (k : Nat) (s : Int × Int × Int) : Prop where
  d : 0 < s.2.2
  lx : (canN s.1.natAbs).length ≤ 33 * k + 1
  ly : (canN s.2.1.natAbs).length ≤ 33 * k + 1
  ld : (canN s.2.2.natAbs).length ≤ 33 * k + 1
theorem SumOk.zero : SumOk 0 (0, 0, 1) := ⟨by decide, by rw [show ((0, 0, 1) : Int × Int × Int).1.natAbs = 0 from rfl, canN_zero]; decide, by rw [show ((0, 0, 1) : Int × Int × Int).2.1.natAbs = 0 from rfl, canN_zero]; decide, canN_len.2 (by decide)⟩
theorem SumOk.step {k : Nat} {s r : Int × Int × Int} (h : SumOk k s) (hr : Val r) : SumOk (k + 1) (sumR s r) := by
  obtain ⟨d, lx, ly, ld⟩ := h
  obtain ⟨d2, lx2, ly2, ld2⟩ := hr
  have a := len_add (a := 33 * k + 1 + 32) (len_mul lx ld2) (len_up (len_mul lx2 ld) (by omega))
  have b := len_add (a := 33 * k + 1 + 32) (len_mul ly ld2) (len_up (len_mul ly2 ld) (by omega))
  have c := len_mul ld ld2
  obtain ⟨h1, h2, h3, h4⟩ := lowR_bd (n := 33 * (k + 1) + 1) (Int.mul_pos d d2) (len_up a (by omega)) (len_up b (by omega)) (len_up c (by omega))
  exact ⟨h1, h2, h3, h4⟩
set_option maxRecDepth 100000 in
set_option maxHeartbeats 20000000 in
theorem valid_yes (x y d : Int) (v : Value) (w : World) (hu : RAt w v x y d) (hv : Val (x, y, d)) :
    Calls Tryz.prog 58 #[v] w fun e w' => e = .returned (.bool true) ∧ Below w.heap.size w w' := by
  have h0 := hu
  obtain ⟨spx, Apx, npx, cpx, spy, Apy, npy, cpy, spd, Apd, npd, cpd, rfl⟩ := hu.val
  obtain ⟨hd, lx, ly, ld⟩ := hv
  simp only at hd lx ly ld
  have hs : sgn d = 1 := by unfold sgn; rw [if_neg (by omega), if_neg (by omega)]
  have k1 := fun v w h => wsign_any 32 v d w h (by omega)
  rw [hs] at k1
  obtain ⟨p, hp⟩ : ∃ p : Int, p = ((canN x.natAbs).length : Int) := ⟨_, rfl⟩
  obtain ⟨q, hq⟩ : ∃ q : Int, q = ((canN y.natAbs).length : Int) := ⟨_, rfl⟩
  obtain ⟨r, hr⟩ : ∃ r : Int, r = ((canN d.natAbs).length : Int) := ⟨_, rfl⟩
  have k2 := fun v w h => wsize_any 32 v x w h (by omega)
  have k3 := fun v w h => wsize_any 32 v y w h (by omega)
  have k4 := fun v w h => wsize_any 32 v d w h (by omega)
  rw [← hp] at k2
  rw [← hq] at k3
  rw [← hr] at k4
  have p1 : 0 ≤ p := by omega
  have p2 : p ≤ 32 := by omega
  have q1 : 0 ≤ q := by omega
  have q2 : q ≤ 32 := by omega
  have r1 : 0 ≤ r := by omega
  have r2 : r ≤ 32 := by omega
  have K1 := Lib.hid k1
  have K2 := Lib.hid k2
  have K3 := Lib.hid k3
  have K4 := Lib.hid k4
  have H0 := Lib.hid h0
  have LX := Lib.hid lx
  have LY := Lib.hid ly
  have LD := Lib.hid ld
  clear k1 k2 k3 k4 h0 hu lx ly ld hd hs hp hq hr
  have hcase : (p < q ∧ r ≤ q) ∨ (p < q ∧ ¬ r ≤ q) ∨ (¬ p < q ∧ r ≤ p) ∨ (¬ p < q ∧ ¬ r ≤ p) := by omega
  rcases hcase with ⟨g1, g2⟩ | ⟨g1, g2⟩ | ⟨g1, g2⟩ | ⟨g1, g2⟩
  all_goals
    go_enter Tryz.func58, Tryz.ntmps58; (try simp only [List.append_eq, List.cons_append, List.nil_append])
    go_wp2_with fail
    (refine pin_wp (N := _) (Nat.le_refl _) (fun w4 hb_w4 hz_w4 => ?_); (try simp at hz_w4); (with_reducible apply cel6 (b := w.heap.size) hb_w4); (focus ((try simp) <;> omega)); (focus omega); (iterate 6 (focus (go_simp; try exact rfl))); (focus (intro o; go_simp)); intro c_w4_0_0 c_w4_0_1 c_w4_0_2 c_w4_0_3 c_w4_0_4 c_w4_0_5 fz_w4_0 hl_w4_0); refine wp_q (fun Q_ HQ_ => ?_); refine wp_region_floatQ w4.heap.size 18 [] (Nat.le_refl _) (fun _ => True) trivial Cl.tt (by kernel_rfl) (by kernel_rfl) ?_
    replace H0 := Lib.hid (RAt.below (v := .agg #[.bool spx, .slice Apx npx cpx, .bool spy, .slice Apy npy cpy, .bool spd, .slice Apd npd cpd]) (x := x) (y := y) (d := d) (by ((repeat (first | (with_reducible exact H0.out) | (with_reducible refine RAt.al ?_ _) | (with_reducible apply RAt.st1))) <;> (first | (with_reducible assumption) | (intro _ e; cases e; done) | (go_simp; first | done | exact rfl)))) hb_w4)
    have HB4 := Lib.hid (show Below w.heap.size w w4 by ((with_reducible (repeat (first | exact bR _ _ | refine bS ?_ ?_ _ | refine bA ?_ ?_ _ | refine bD ?_ | refine bT ?_ (by assumption) ?_ | refine bO (by assumption) ?_ ?_))) <;> (first | omega | (simp <;> omega))))
    have hz4 : w.heap.size + 1 ≤ w4.heap.size := by omega
    clear hb_w4
    skip
    refine wpQI_start [0, 1] ?_; (iterate 2 (first | (refine wpQI_off (by with_reducible (refine zA ?_; (repeat (first | exact zB | refine zC ?_)))) (by kernel_rfl) (by exact rfl) (fun K hK => ?_); go_simp; refine hK _ ?_; clear hK K) | ((first | apply wpQI_step (by with_reducible (refine zA ?_; (repeat (first | exact zB | refine zC ?_)))) (by kernel_rfl) (by exact rfl) | apply wpQI_on (by with_reducible (refine zA ?_; (repeat (first | exact zB | refine zC ?_)))) (by kernel_rfl) (by exact rfl)); (focus (intro W' hS; have hcS := hS.cells.1; have hfS := hS.cells.2; go_simp; (first | done | exact rfl | exact bB _ | (go_simp; first | done | exact rfl | exact bB _)))); intro K hK; go_simp; (try go_bits); refine hK _ ?_; clear hK K))); refine wpQI_nil ?_
    apply wpQ_call (i := 2) (by with_reducible (refine zA ?_; (repeat (first | exact zB | refine zC ?_)))) (by kernel_rfl) (by exact rfl); intro W hF hS; have hcS := hS.1.cells.1; have hfS := hS.1.cells.2; go_simp; (go_at_call 92; refine (K1.out _ _ ((RAt.pd (H0.out.below hS.1.2)).zl LD.out)).mono ?_; rintro e w5 ⟨rfl, hb_w5⟩; refine XPost.mk _ (fun _ => True) hb_w5 (trivial) (Cl.tt) ?_); clear hb_w5 hcS hfS hS hF
    intro K hK; go_simp; (try go_bits); refine hK _ ?_; clear hK K
    refine wpQI_start [3, 4, 5, 6] ?_; (iterate 4 (first | (refine wpQI_off (by with_reducible (refine zA ?_; (repeat (first | exact zB | refine zC ?_)))) (by kernel_rfl) (by exact rfl) (fun K hK => ?_); go_simp; refine hK _ ?_; clear hK K) | ((first | apply wpQI_step (by with_reducible (refine zA ?_; (repeat (first | exact zB | refine zC ?_)))) (by kernel_rfl) (by exact rfl) | apply wpQI_on (by with_reducible (refine zA ?_; (repeat (first | exact zB | refine zC ?_)))) (by kernel_rfl) (by exact rfl)); (focus (intro W' hS; have hcS := hS.cells.1; have hfS := hS.cells.2; go_simp; (first | done | exact rfl | exact bB _ | (go_simp; first | done | exact rfl | exact bB _)))); intro K hK; go_simp; (try go_bits); refine hK _ ?_; clear hK K))); refine wpQI_nil ?_
    refine wpQI_start [8, 9] ?_; (iterate 2 (first | (refine wpQI_off (by with_reducible (refine zA ?_; (repeat (first | exact zB | refine zC ?_)))) (by kernel_rfl) (by exact rfl) (fun K hK => ?_); go_simp; refine hK _ ?_; clear hK K) | ((first | apply wpQI_step (by with_reducible (refine zA ?_; (repeat (first | exact zB | refine zC ?_)))) (by kernel_rfl) (by exact rfl) | apply wpQI_on (by with_reducible (refine zA ?_; (repeat (first | exact zB | refine zC ?_)))) (by kernel_rfl) (by exact rfl)); (focus (intro W' hS; have hcS := hS.cells.1; have hfS := hS.cells.2; go_simp; (first | done | exact rfl | exact bB _ | (go_simp; first | done | exact rfl | exact bB _)))); intro K hK; go_simp; (try go_bits); refine hK _ ?_; clear hK K))); refine wpQI_nil ?_
    refine wpQI_start [11, 12] ?_; (iterate 2 (first | (refine wpQI_off (by with_reducible (refine zA ?_; (repeat (first | exact zB | refine zC ?_)))) (by kernel_rfl) (by exact rfl) (fun K hK => ?_); go_simp; refine hK _ ?_; clear hK K) | ((first | apply wpQI_step (by with_reducible (refine zA ?_; (repeat (first | exact zB | refine zC ?_)))) (by kernel_rfl) (by exact rfl) | apply wpQI_on (by with_reducible (refine zA ?_; (repeat (first | exact zB | refine zC ?_)))) (by kernel_rfl) (by exact rfl)); (focus (intro W' hS; have hcS := hS.cells.1; have hfS := hS.cells.2; go_simp; (first | done | exact rfl | exact bB _ | (go_simp; first | done | exact rfl | exact bB _)))); intro K hK; go_simp; (try go_bits); refine hK _ ?_; clear hK K))); refine wpQI_nil ?_
    apply wpQ_call (i := 7) (by with_reducible (refine zA ?_; (repeat (first | exact zB | refine zC ?_)))) (by kernel_rfl) (by exact rfl); intro W hF hS; have hcS := hS.1.cells.1; have hfS := hS.1.cells.2; go_simp; (go_at_call 93; refine (K2.out _ _ ((RAt.px (H0.out.below hS.1.2)).zl LX.out)).mono ?_; rintro e w6 ⟨rfl, hb_w6⟩; refine XPost.mk _ (fun _ => True) hb_w6 (trivial) (Cl.tt) ?_); clear hb_w6 hcS hfS hS hF
    intro K hK; go_simp; (try go_bits); refine hK _ ?_; clear hK K
    apply wpQ_call (i := 10) (by with_reducible (refine zA ?_; (repeat (first | exact zB | refine zC ?_)))) (by kernel_rfl) (by exact rfl); intro W hF hS; have hcS := hS.1.cells.1; have hfS := hS.1.cells.2; go_simp; (go_at_call 93; refine (K3.out _ _ ((RAt.py (H0.out.below hS.1.2)).zl LY.out)).mono ?_; rintro e w7 ⟨rfl, hb_w7⟩; refine XPost.mk _ (fun _ => True) hb_w7 (trivial) (Cl.tt) ?_); clear hb_w7 hcS hfS hS hF
    intro K hK; go_simp; (try go_bits); refine hK _ ?_; clear hK K
    apply wpQ_call (i := 13) (by with_reducible (refine zA ?_; (repeat (first | exact zB | refine zC ?_)))) (by kernel_rfl) (by exact rfl); intro W hF hS; have hcS := hS.1.cells.1; have hfS := hS.1.cells.2; go_simp; (go_at_call 93; refine (K4.out _ _ ((RAt.pd (H0.out.below hS.1.2)).zl LD.out)).mono ?_; rintro e w8 ⟨rfl, hb_w8⟩; refine XPost.mk _ (fun _ => True) hb_w8 (trivial) (Cl.tt) ?_); clear hb_w8 hcS hfS hS hF
    intro K hK; go_simp; (try go_bits); refine hK _ ?_; clear hK K
    refine wpQI_start [14, 15, 16, 17] ?_; (iterate 4 (first | (refine wpQI_off (by with_reducible (refine zA ?_; (repeat (first | exact zB | refine zC ?_)))) (by kernel_rfl) (by exact rfl) (fun K hK => ?_); go_simp; refine hK _ ?_; clear hK K) | ((first | apply wpQI_step (by with_reducible (refine zA ?_; (repeat (first | exact zB | refine zC ?_)))) (by kernel_rfl) (by exact rfl) | apply wpQI_on (by with_reducible (refine zA ?_; (repeat (first | exact zB | refine zC ?_)))) (by kernel_rfl) (by exact rfl)); (focus (intro W' hS; have hcS := hS.cells.1; have hfS := hS.cells.2; go_simp; (first | done | exact rfl | exact bB _ | (go_simp; first | done | exact rfl | exact bB _)))); intro K hK; go_simp; (try go_bits); refine hK _ ?_; clear hK K))); refine wpQI_nil ?_
    refine wpQ_done (by kernel_rfl) ?_
    intro w9 hF_w9 hSG
    have hz_w9 := hSG.1.1
    have hb_w9 := hSG.1.2
    clear hSG
    (with_reducible apply cel6 (b := w.heap.size) hb_w9); (focus ((try simp) <;> omega)); (focus omega); (iterate 6 (focus (go_simp; try exact rfl))); (focus (intro o; go_simp)); intro c_w9_0_0 c_w9_0_1 c_w9_0_2 c_w9_0_3 c_w9_0_4 c_w9_0_5 fz_w9_0 hl_w9_0
    (try simp only [List.filterMap_nil])
    clear H0
    have HB9 := Lib.hid (HB4.out.trans (hb_w9.mono (by have := HB4.out.size; omega)))
    have hz9 : w.heap.size + 1 ≤ w9.heap.size := by omega
    clear hF_w9 hb_w9
    clear c_w4_0_0 c_w4_0_1 c_w4_0_2 c_w4_0_3 c_w4_0_4 c_w4_0_5 fz_w4_0 hl_w4_0
    go_wp2_with fail
    refine HQ_.out _ _ _ ?_
    clear HQ_ Q_
    go_wp2_with fail
    refine bodyPost_ret (v := .bool true) (by simp only [results, Tryz.results58]; go_simp) rfl ⟨?_, ?_⟩
    · rfl
    · have hB := HB9.out; ((with_reducible (repeat (first | exact bR _ _ | refine bS ?_ ?_ _ | refine bA ?_ ?_ _ | refine bD ?_ | refine bT ?_ (by assumption) ?_ | refine bO (by assumption) ?_ ?_))) <;> (first | omega | (simp <;> omega)))
set_option maxRecDepth 100000 in
set_option maxHeartbeats 20000000 in
theorem trunc_ok (l : List (Int × Int × Int)) (A : Option Addr) (c : Nat) (w : World) (hl1 : 1 ≤ l.length) (hl : l.length ≤ 16) (hV : RsAt w A l) (hok : ∀ r ∈ l, Val r) (hm : withinB (meanR l).1 (meanR l).2 1073741824 = true) :
    Calls Tryz.prog 25 #[.slice A l.length c] w fun e w' => e = .returned (.tuple #[.agg #[.int .i64 (meanR l).1, .int .i64 (meanR l).2], .bool true]) ∧ Below w.heap.size w w' := by
  have HV := Lib.hid hV
  have HO := Lib.hid hok
  have ko := fun w => wof_any 1 w (by omega) (by omega)
  obtain ⟨U, hU⟩ : ∃ U : Int, U = 1 := ⟨_, rfl⟩
  have ko2 := fun w => ((by have := wof_any 1 w (by omega) (by omega); rw [hU]; exact this) : Calls Tryz.prog 57 #[.int .i64 1] w (ZOut U w))
  have KO := Lib.hid ko2
  have HU := Lib.hid hU
  obtain ⟨x, hm1⟩ : ∃ x, x = (meanR l).1 := ⟨_, rfl⟩
  obtain ⟨y, hm2⟩ : ∃ y, y = (meanR l).2 := ⟨_, rfl⟩
  rw [← hm1, ← hm2] at hm ⊢
  have HM := Lib.hid hm
  have HM1 := Lib.hid hm1
  have HM2 := Lib.hid hm2
  have n1 : ((l.length : Int) == 0) = false := by rw [beq_eq_false_iff_ne]; omega
  have n2 : (l.length : Int) ≤ 16 := by omega
  clear hV hok ko ko2 hU hm hm1 hm2
  go_enter Tryz.func25, Tryz.ntmps25; (try simp only [List.append_eq, List.cons_append, List.nil_append])
  go_wp2_with fail
  (go_at_call 57; refine (KO.out _).mono ?_; rintro e w101 ⟨hb_w101, v1, rfl, hv1⟩; have hz_w101 := hb_w101.size; (try simp at hz_w101); (with_reducible apply cel2 (b := w.heap.size) hb_w101); (focus ((try simp) <;> omega)); (focus omega); (iterate 2 (focus (go_simp; try exact rfl))); (focus (intro o; go_simp)); intro c_w101_0_0 c_w101_0_1 fz_w101_0 hl_w101_0)
  obtain ⟨s1, A1, n1', c1, rfl⟩ := IsC.val hv1
  have HI1 := Lib.hid hv1
  have HB101 := Lib.hid (show Below w.heap.size w w101 by ((with_reducible (repeat (first | exact bR _ _ | refine bS ?_ ?_ _ | refine bA ?_ ?_ _ | refine bD ?_ | refine bT ?_ (by assumption) ?_ | refine bO (by assumption) ?_ ?_))) <;> (first | omega | (simp <;> omega))))
  have hz101 : w.heap.size + 1 ≤ w101.heap.size := by omega
  clear hb_w101 hv1
  go_wp2_with fail
  go_loopw [6, 26] (fun _ vi wr => ∃ (k : Nat) (X Y D : Int) (sSx : Bool) (ASx : Option Addr) (nSx cSx : Nat) (sSy : Bool) (ASy : Option Addr) (nSy cSy : Nat) (sSd : Bool) (ASd : Option Addr) (nSd cSd : Nat),
      k ≤ l.length ∧ vi = .int .i64 k ∧ Below w101.heap.size w101 wr ∧ wr.cell? ⟨w101.heap.size, 0, none⟩ = some (.bool sSx) ∧ wr.cell? ⟨w101.heap.size, 1, none⟩ = some (.slice ASx nSx cSx) ∧ wr.cell? ⟨w101.heap.size, 2, none⟩ = some (.bool sSy) ∧ wr.cell? ⟨w101.heap.size, 3, none⟩ = some (.slice ASy nSy cSy) ∧ wr.cell? ⟨w101.heap.size, 4, none⟩ = some (.bool sSd) ∧ wr.cell? ⟨w101.heap.size, 5, none⟩ = some (.slice ASd nSd cSd) ∧ (∀ o, wr.frozen? ⟨w101.heap.size, o, none⟩ = false) ∧ w101.heap.size + 1 ≤ wr.heap.size ∧
      RAt wr (.agg #[.bool sSx, .slice ASx nSx cSx, .bool sSy, .slice ASy nSy cSy, .bool sSd, .slice ASd nSd cSd]) X Y D ∧ Hid ((X, Y, D) = meanS (l.take k) ∧ SumOk k (X, Y, D))) (fun _ vi _ => l.length - (intOf vi).toNat)
  case atStart =>
    have hu : U = 1 := HU.out
    refine ⟨0, 0, 0, 1, false, none, 0, 0, false, none, 0, 0, s1, A1, n1', c1, by omega, rfl, by ((with_reducible (repeat (first | exact bR _ _ | refine bS ?_ ?_ _ | refine bA ?_ ?_ _ | refine bD ?_ | refine bT ?_ (by assumption) ?_ | refine bO (by assumption) ?_ ?_))) <;> (first | omega | (simp <;> omega))), by go_simp, by go_simp, by go_simp, by go_simp, by go_simp, by go_simp, by intro o; go_simp, by (try simp) <;> omega, ?_, Lib.hid ⟨rfl, SumOk.zero⟩⟩
    have h1 := HI1.out
    rw [hu] at h1
    exact ⟨_, _, _, _, _, _, _, _, _, _, _, _, rfl, isC_zero _, isC_zero _, h1.below (by ((with_reducible (repeat (first | exact bR _ _ | refine bS ?_ ?_ _ | refine bA ?_ ?_ _ | refine bD ?_ | refine bT ?_ (by assumption) ?_ | refine bO (by assumption) ?_ ?_))) <;> (first | omega | (simp <;> omega))))⟩
  case round =>
    obtain ⟨k, X, Y, D, sSx, ASx, nSx, cSx, sSy, ASy, nSy, cSy, sSd, ASd, nSd, cSd, hk, rfl, hb_wr, c0, c1_, c2, c3, c4, c5, fzS, hzS, hS, HN⟩ := hrel
    have HS := Lib.hid hS
    have HBR := Lib.hid hb_wr
    have hz_wr := hb_wr.size
    have hlS : w101.heap.size < wr.heap.size ∧ w101.heap.size < wr.heap.size + 1 ∧ w101.heap.size < wr.heap.size + 1 + 1 ∧ w101.heap.size < wr.heap.size + 1 + 1 + 1 := by omega
    have hzR : w.heap.size + 1 ≤ wr.heap.size := by omega
    (with_reducible apply cel2 (b := w.heap.size) hb_wr); (focus ((try simp) <;> omega)); (focus omega); (iterate 2 (focus (go_simp; try exact rfl))); (focus (intro o; go_simp)); intro c_wr_0_0 c_wr_0_1 fz_wr_0 hl_wr_0
    clear hb_wr hS
    clear c_w101_0_0 c_w101_0_1 fz_w101_0 hl_w101_0
    have i1 : (0 : Int) ≤ (k : Int) := by omega
    obtain ⟨hsd, hsx, hsy, hsl⟩ := HN.out.2
    simp only at hsd hsx hsy hsl
    have hk16 : 33 * k + 1 ≤ 600 := by omega
    have LX := Lib.hid (len_up hsx hk16)
    have LY := Lib.hid (len_up hsy hk16)
    have LD := Lib.hid (len_up hsl hk16)
    by_cases hlt : k < l.length
    · obtain ⟨⟨x, y, d⟩, hx⟩ : ∃ x, l[k]? = some x := ⟨l[k], by simp⟩
      obtain ⟨g, o, rfl, hg, sEx, AEx, nEx, cEx, sEy, AEy, nEy, cEy, sEd, AEd, nEd, cEd, e0, e1, e2, e3, e4, e5, hE⟩ := (HV.out.below (HB101.out.trans (HBR.out.mono (by omega)))) k _ hx
      have hval := HO.out _ (List.mem_of_getElem? hx)
      have HX := Lib.hid hx
      have hN2 : (sumR (X, Y, D) (x, y, d)) = meanS (l.take (k + 1)) ∧ SumOk (k + 1) (sumR (X, Y, D) (x, y, d)) := ⟨by rw [meanS_take hx, ← HN.out.1], HN.out.2.step hval⟩
      have HE := Lib.hid hE
      simp only at hE
      have i2 : (k : Int) < (l.length : Int) := by omega
      have kv := fun v w h => valid_yes x y d v w h hval
      obtain ⟨hd, hlx, hly, hld⟩ := hval
      simp only at hd hlx hly hld
      have Lx := Lib.hid (len_up hlx (show 32 ≤ 600 by omega))
      have Ly := Lib.hid (len_up hly (show 32 ≤ 600 by omega))
      have Ld := Lib.hid (len_up hld (show 32 ≤ 600 by omega))
      have l1 := len_mul LX.out Ld.out
      have l2 := len_mul Lx.out LD.out
      have l3 := len_add l1 l2
      have l4 := len_mul LY.out Ld.out
      have l5 := len_mul Ly.out LD.out
      have l6 := len_add l4 l5
      have l7 := len_mul LD.out Ld.out
      have hdd : D * d ≠ 0 := Int.ne_of_gt (Int.mul_pos hsd hd)
      have k1 := fun u v w h1 h2 => wmul_any 600 u v X d w h1 h2 (by omega)
      have k2 := fun u v w h1 h2 => wmul_any 600 u v x D w h1 h2 (by omega)
      have k3 := fun u v w h1 h2 => wadd_any (600 + 600) u v (X * d) (x * D) w h1 h2 (by omega)
      have k4 := fun u v w h1 h2 => wmul_any 600 u v Y d w h1 h2 (by omega)
      have k5 := fun u v w h1 h2 => wmul_any 600 u v y D w h1 h2 (by omega)
      have k6 := fun u v w h1 h2 => wadd_any (600 + 600) u v (Y * d) (y * D) w h1 h2 (by omega)
      have k7 := fun u v w h1 h2 => wmul_any 600 u v D d w h1 h2 (by omega)
      have k8 := fun v w h => lowest_any (X * d + x * D) (Y * d + y * D) (D * d) v w h hdd (by omega) (by omega) (by omega)
      unfold sumR lowR at hN2
      simp only at hN2
      generalize (X * d + x * D).tdiv (lowG (X * d + x * D) (Y * d + y * D) (D * d)) = R1 at *
      generalize (Y * d + y * D).tdiv (lowG (X * d + x * D) (Y * d + y * D) (D * d)) = R2 at *
      generalize (D * d).tdiv (lowG (X * d + x * D) (Y * d + y * D) (D * d)) = R3 at *
      generalize X * d = P1 at *
      generalize x * D = P2 at *
      generalize Y * d = Q1 at *
      generalize y * D = Q2 at *
      generalize P1 + P2 = P at *
      generalize Q1 + Q2 = Q at *
      generalize D * d = E1 at *
      have HN2 := Lib.hid hN2
      have KV := Lib.hid kv
      have K1 := Lib.hid k1
      have K2 := Lib.hid k2
      have K3 := Lib.hid k3
      have K4 := Lib.hid k4
      have K5 := Lib.hid k5
      have K6 := Lib.hid k6
      have K7 := Lib.hid k7
      have K8 := Lib.hid k8
      have L1 := Lib.hid l1
      have L2 := Lib.hid l2
      have L4 := Lib.hid l4
      have L5 := Lib.hid l5
      clear kv k1 k2 k3 k4 k5 k6 k7 k8 l1 l2 l3 l4 l5 l6 l7 hN2 hE hx hdd hsd hsx hsy hsl hd hlx hly hld HX
      go_wp2_with fail
      (go_at_call 58; refine (KV.out _ _ ((show RAt _ (.agg #[.bool sEx, .slice AEx nEx cEx, .bool sEy, .slice AEy nEy cEy, .bool sEd, .slice AEd nEd cEd]) (x) (y) (d) by ((repeat (first | (with_reducible exact HE.out) | (with_reducible refine RAt.al ?_ _) | (with_reducible apply RAt.st1))) <;> (first | (with_reducible assumption) | (intro _ e; cases e; done) | (go_simp; first | done | exact rfl)))))).mono ?_; rintro e w201 ⟨rfl, hb_w201⟩; have hz_w201 := hb_w201.size; (try simp at hz_w201); (with_reducible apply cel2 (b := w.heap.size) hb_w201); (focus ((try simp) <;> omega)); (focus omega); (iterate 2 (focus (go_simp; try exact rfl))); (focus (intro o; go_simp)); intro c_w201_0_0 c_w201_0_1 fz_w201_0 hl_w201_0; (with_reducible apply cel6 (b := w101.heap.size) hb_w201); (focus ((try simp) <;> omega)); (focus omega); (iterate 6 (focus (go_simp; try exact rfl))); (focus (intro o; go_simp)); intro c_w201_1_0 c_w201_1_1 c_w201_1_2 c_w201_1_3 c_w201_1_4 c_w201_1_5 fz_w201_1 hl_w201_1; (with_reducible apply cel6 (b := wr.heap.size) hb_w201); (focus ((try simp) <;> omega)); (focus omega); (iterate 6 (focus (go_simp; try exact rfl))); (focus (intro o; go_simp)); intro c_w201_2_0 c_w201_2_1 c_w201_2_2 c_w201_2_3 c_w201_2_4 c_w201_2_5 fz_w201_2 hl_w201_2)
      replace HS := Lib.hid (RAt.below (v := .agg #[.bool sSx, .slice ASx nSx cSx, .bool sSy, .slice ASy nSy cSy, .bool sSd, .slice ASd nSd cSd]) (x := X) (y := Y) (d := D) (by ((repeat (first | (with_reducible exact HS.out) | (with_reducible refine RAt.al ?_ _) | (with_reducible apply RAt.st1))) <;> (first | (with_reducible assumption) | (intro _ e; cases e; done) | (go_simp; first | done | exact rfl)))) hb_w201)
      replace HE := Lib.hid (RAt.below (v := .agg #[.bool sEx, .slice AEx nEx cEx, .bool sEy, .slice AEy nEy cEy, .bool sEd, .slice AEd nEd cEd]) (x := x) (y := y) (d := d) (by ((repeat (first | (with_reducible exact HE.out) | (with_reducible refine RAt.al ?_ _) | (with_reducible apply RAt.st1))) <;> (first | (with_reducible assumption) | (intro _ e; cases e; done) | (go_simp; first | done | exact rfl)))) hb_w201)
      have HB201 := Lib.hid (show Below w101.heap.size w101 w201 by have hB := HBR.out; ((with_reducible (repeat (first | exact bR _ _ | refine bS ?_ ?_ _ | refine bA ?_ ?_ _ | refine bD ?_ | refine bT ?_ (by assumption) ?_ | refine bO (by assumption) ?_ ?_))) <;> (first | omega | (simp <;> omega))))
      have hz201 : w.heap.size + 1 ≤ w201.heap.size := by omega
      clear hb_w201
      skip
      go_wp2_with fail
      (refine pin_wp (N := _) (Nat.le_refl _) (fun w202 hb_w202 hz_w202 => ?_); (try simp at hz_w202); (with_reducible apply cel2 (b := w.heap.size) hb_w202); (focus ((try simp) <;> omega)); (focus omega); (iterate 2 (focus (go_simp; try exact rfl))); (focus (intro o; go_simp)); intro c_w202_0_0 c_w202_0_1 fz_w202_0 hl_w202_0; (with_reducible apply cel6 (b := w101.heap.size) hb_w202); (focus ((try simp) <;> omega)); (focus omega); (iterate 6 (focus (go_simp; try exact rfl))); (focus (intro o; go_simp)); intro c_w202_1_0 c_w202_1_1 c_w202_1_2 c_w202_1_3 c_w202_1_4 c_w202_1_5 fz_w202_1 hl_w202_1; (with_reducible apply cel6 (b := wr.heap.size) hb_w202); (focus ((try simp) <;> omega)); (focus omega); (iterate 6 (focus (go_simp; try exact rfl))); (focus (intro o; go_simp)); intro c_w202_2_0 c_w202_2_1 c_w202_2_2 c_w202_2_3 c_w202_2_4 c_w202_2_5 fz_w202_2 hl_w202_2); refine wp_q (fun Q_ HQ_ => ?_); refine wp_region_floatQ w202.heap.size 29 [29] (Nat.le_refl _) (fun _ => True) trivial Cl.tt (by kernel_rfl) (by kernel_rfl) ?_
      replace HS := Lib.hid (RAt.below (v := .agg #[.bool sSx, .slice ASx nSx cSx, .bool sSy, .slice ASy nSy cSy, .bool sSd, .slice ASd nSd cSd]) (x := X) (y := Y) (d := D) (by ((repeat (first | (with_reducible exact HS.out) | (with_reducible refine RAt.al ?_ _) | (with_reducible apply RAt.st1))) <;> (first | (with_reducible assumption) | (intro _ e; cases e; done) | (go_simp; first | done | exact rfl)))) hb_w202)
      replace HE := Lib.hid (RAt.below (v := .agg #[.bool sEx, .slice AEx nEx cEx, .bool sEy, .slice AEy nEy cEy, .bool sEd, .slice AEd nEd cEd]) (x := x) (y := y) (d := d) (by ((repeat (first | (with_reducible exact HE.out) | (with_reducible refine RAt.al ?_ _) | (with_reducible apply RAt.st1))) <;> (first | (with_reducible assumption) | (intro _ e; cases e; done) | (go_simp; first | done | exact rfl)))) hb_w202)
      have HB202 := Lib.hid (show Below w101.heap.size w101 w202 by have hB := HB201.out; ((with_reducible (repeat (first | exact bR _ _ | refine bS ?_ ?_ _ | refine bA ?_ ?_ _ | refine bD ?_ | refine bT ?_ (by assumption) ?_ | refine bO (by assumption) ?_ ?_))) <;> (first | omega | (simp <;> omega))))
      have hz202 : w.heap.size + 1 ≤ w202.heap.size := by omega
      clear hb_w202
      clear c_w201_0_0 c_w201_0_1 fz_w201_0 hl_w201_0 c_w201_1_0 c_w201_1_1 c_w201_1_2 c_w201_1_3 c_w201_1_4 c_w201_1_5 fz_w201_1 hl_w201_1 c_w201_2_0 c_w201_2_1 c_w201_2_2 c_w201_2_3 c_w201_2_4 c_w201_2_5 fz_w201_2 hl_w201_2
      refine wpQI_start [0, 1, 2, 3] ?_; (iterate 4 (first | (apply wpQI_step (by with_reducible (refine zA ?_; (repeat (first | exact zB | refine zC ?_)))) (by kernel_rfl) (by exact rfl); (focus (intro W' hS; have hcS := hS.cells.1; have hfS := hS.cells.2; go_simp; (first | done | exact rfl | exact bB _ | (go_simp; first | done | exact rfl | exact bB _)))); intro K hK; go_simp; (try go_bits); refine hK _ ?_; clear hK K))); refine wpQI_nil ?_
      refine wpQI_start [5, 6, 7, 8] ?_; (iterate 4 (first | (apply wpQI_step (by with_reducible (refine zA ?_; (repeat (first | exact zB | refine zC ?_)))) (by kernel_rfl) (by exact rfl); (focus (intro W' hS; have hcS := hS.cells.1; have hfS := hS.cells.2; go_simp; (first | done | exact rfl | exact bB _ | (go_simp; first | done | exact rfl | exact bB _)))); intro K hK; go_simp; (try go_bits); refine hK _ ?_; clear hK K))); refine wpQI_nil ?_
      refine wpQI_start [11, 12, 13, 14] ?_; (iterate 4 (first | (apply wpQI_step (by with_reducible (refine zA ?_; (repeat (first | exact zB | refine zC ?_)))) (by kernel_rfl) (by exact rfl); (focus (intro W' hS; have hcS := hS.cells.1; have hfS := hS.cells.2; go_simp; (first | done | exact rfl | exact bB _ | (go_simp; first | done | exact rfl | exact bB _)))); intro K hK; go_simp; (try go_bits); refine hK _ ?_; clear hK K))); refine wpQI_nil ?_
      refine wpQI_start [16, 17, 18, 19] ?_; (iterate 4 (first | (apply wpQI_step (by with_reducible (refine zA ?_; (repeat (first | exact zB | refine zC ?_)))) (by kernel_rfl) (by exact rfl); (focus (intro W' hS; have hcS := hS.cells.1; have hfS := hS.cells.2; go_simp; (first | done | exact rfl | exact bB _ | (go_simp; first | done | exact rfl | exact bB _)))); intro K hK; go_simp; (try go_bits); refine hK _ ?_; clear hK K))); refine wpQI_nil ?_
      refine wpQI_start [22, 23, 24, 25] ?_; (iterate 4 (first | (apply wpQI_step (by with_reducible (refine zA ?_; (repeat (first | exact zB | refine zC ?_)))) (by kernel_rfl) (by exact rfl); (focus (intro W' hS; have hcS := hS.cells.1; have hfS := hS.cells.2; go_simp; (first | done | exact rfl | exact bB _ | (go_simp; first | done | exact rfl | exact bB _)))); intro K hK; go_simp; (try go_bits); refine hK _ ?_; clear hK K))); refine wpQI_nil ?_
      apply wpQ_call (i := 4) (by with_reducible (refine zA ?_; (repeat (first | exact zB | refine zC ?_)))) (by kernel_rfl) (by exact rfl); intro W hF hS; have hcS := hS.1.cells.1; have hfS := hS.1.cells.2; go_simp; (go_at_call 56; refine (K1.out _ _ _ ((RAt.px (HS.out.below hS.1.2)).zl LX.out) ((RAt.pd (HE.out.below hS.1.2)).zl Ld.out)).mono ?_; rintro e w203 ⟨hb_w203, v203, rfl, hv203⟩; refine XPost.mk _ (fun W => IsC W v203 (P1)) hb_w203 (hv203) (IsC.cl _ _) ?_); clear hb_w203 hcS hfS hS hF
      intro K hK; go_simp; (try go_bits); refine hK _ ?_; clear hK K
      obtain ⟨s203, A203, n203, c203, rfl⟩ := IsC.val hv203
      clear hv203
      apply wpQ_call (i := 9) (by with_reducible (refine zA ?_; (repeat (first | exact zB | refine zC ?_)))) (by kernel_rfl) (by exact rfl); intro W hF hS; have hcS := hS.1.cells.1; have hfS := hS.1.cells.2; go_simp; (go_at_call 56; refine (K2.out _ _ _ ((RAt.px (HE.out.below hS.1.2)).zl Lx.out) ((RAt.pd (HS.out.below hS.1.2)).zl LD.out)).mono ?_; rintro e w204 ⟨hb_w204, v204, rfl, hv204⟩; refine XPost.mk _ (fun W => IsC W v204 (P2)) hb_w204 (hv204) (IsC.cl _ _) ?_); clear hb_w204 hcS hfS hS hF
      intro K hK; go_simp; (try go_bits); refine hK _ ?_; clear hK K
      obtain ⟨s204, A204, n204, c204, rfl⟩ := IsC.val hv204
      clear hv204
      apply wpQ_call (i := 10) (by with_reducible (refine zA ?_; (repeat (first | exact zB | refine zC ?_)))) (by kernel_rfl) (by exact rfl); intro W hF hS; have hcS := hS.1.cells.1; have hfS := hS.1.cells.2; go_simp; (go_at_call 55; refine (K3.out _ _ _ (hF.1.zl L1.out) (hF.2.zl L2.out)).mono ?_; rintro e w205 ⟨hb_w205, v205, rfl, hv205⟩; refine XPost.mk _ (fun W => IsC W v205 (P)) hb_w205 (hv205) (IsC.cl _ _) ?_); clear hb_w205 hcS hfS hS hF
      intro K hK; go_simp; (try go_bits); refine hK _ ?_; clear hK K
      obtain ⟨s205, A205, n205, c205, rfl⟩ := IsC.val hv205
      clear hv205
      apply wpQ_call (i := 15) (by with_reducible (refine zA ?_; (repeat (first | exact zB | refine zC ?_)))) (by kernel_rfl) (by exact rfl); intro W hF hS; have hcS := hS.1.cells.1; have hfS := hS.1.cells.2; go_simp; (go_at_call 56; refine (K4.out _ _ _ ((RAt.py (HS.out.below hS.1.2)).zl LY.out) ((RAt.pd (HE.out.below hS.1.2)).zl Ld.out)).mono ?_; rintro e w206 ⟨hb_w206, v206, rfl, hv206⟩; refine XPost.mk _ (fun W => IsC W v206 (Q1)) hb_w206 (hv206) (IsC.cl _ _) ?_); clear hb_w206 hcS hfS hS hF
      intro K hK; go_simp; (try go_bits); refine hK _ ?_; clear hK K
      obtain ⟨s206, A206, n206, c206, rfl⟩ := IsC.val hv206
      clear hv206
      apply wpQ_call (i := 20) (by with_reducible (refine zA ?_; (repeat (first | exact zB | refine zC ?_)))) (by kernel_rfl) (by exact rfl); intro W hF hS; have hcS := hS.1.cells.1; have hfS := hS.1.cells.2; go_simp; (go_at_call 56; refine (K5.out _ _ _ ((RAt.py (HE.out.below hS.1.2)).zl Ly.out) ((RAt.pd (HS.out.below hS.1.2)).zl LD.out)).mono ?_; rintro e w207 ⟨hb_w207, v207, rfl, hv207⟩; refine XPost.mk _ (fun W => IsC W v207 (Q2)) hb_w207 (hv207) (IsC.cl _ _) ?_); clear hb_w207 hcS hfS hS hF
      intro K hK; go_simp; (try go_bits); refine hK _ ?_; clear hK K
      obtain ⟨s207, A207, n207, c207, rfl⟩ := IsC.val hv207
      clear hv207
      apply wpQ_call (i := 21) (by with_reducible (refine zA ?_; (repeat (first | exact zB | refine zC ?_)))) (by kernel_rfl) (by exact rfl); intro W hF hS; have hcS := hS.1.cells.1; have hfS := hS.1.cells.2; go_simp; (go_at_call 55; refine (K6.out _ _ _ (hF.1.2.zl L4.out) (hF.2.zl L5.out)).mono ?_; rintro e w208 ⟨hb_w208, v208, rfl, hv208⟩; refine XPost.mk _ (fun W => IsC W v208 (Q)) hb_w208 (hv208) (IsC.cl _ _) ?_); clear hb_w208 hcS hfS hS hF
      intro K hK; go_simp; (try go_bits); refine hK _ ?_; clear hK K
      obtain ⟨s208, A208, n208, c208, rfl⟩ := IsC.val hv208
      clear hv208
      apply wpQ_call (i := 26) (by with_reducible (refine zA ?_; (repeat (first | exact zB | refine zC ?_)))) (by kernel_rfl) (by exact rfl); intro W hF hS; have hcS := hS.1.cells.1; have hfS := hS.1.cells.2; go_simp; (go_at_call 56; refine (K7.out _ _ _ ((RAt.pd (HS.out.below hS.1.2)).zl LD.out) ((RAt.pd (HE.out.below hS.1.2)).zl Ld.out)).mono ?_; rintro e w209 ⟨hb_w209, v209, rfl, hv209⟩; refine XPost.mk _ (fun W => IsC W v209 (E1)) hb_w209 (hv209) (IsC.cl _ _) ?_); clear hb_w209 hcS hfS hS hF
      intro K hK; go_simp; (try go_bits); refine hK _ ?_; clear hK K
      obtain ⟨s209, A209, n209, c209, rfl⟩ := IsC.val hv209
      clear hv209
      refine wpQI_start [27] ?_; (iterate 1 (first | (apply wpQI_step (by with_reducible (refine zA ?_; (repeat (first | exact zB | refine zC ?_)))) (by kernel_rfl) (by exact rfl); (focus (intro W' hS; have hcS := hS.cells.1; have hfS := hS.cells.2; go_simp; (first | done | exact rfl | exact bB _ | (go_simp; first | done | exact rfl | exact bB _)))); intro K hK; go_simp; (try go_bits); refine hK _ ?_; clear hK K))); refine wpQI_nil ?_
      apply wpQ_call (i := 28) (by with_reducible (refine zA ?_; (repeat (first | exact zB | refine zC ?_)))) (by kernel_rfl) (by exact rfl); intro W hF hS; have hcS := hS.1.cells.1; have hfS := hS.1.cells.2; go_simp; (go_at_call 59; refine (K8.out _ _ (⟨_, _, _, _, _, _, _, _, _, _, _, _, rfl, hF.1.1.1.1.2, hF.1.2, hF.2⟩)).mono ?_; rintro e w210 ⟨hb_w210, v210, rfl, hv210⟩; refine XPost.mk _ (fun W => RAt W v210 (R1) (R2) (R3)) hb_w210 (hv210) (RAt.cl _ _ _ _) ?_); clear hb_w210 hcS hfS hS hF
      intro K hK; go_simp; (try go_bits); refine hK _ ?_; clear hK K
      obtain ⟨s210x, A210x, n210x, c210x, s210y, A210y, n210y, c210y, s210d, A210d, n210d, c210d, rfl⟩ := RAt.val hv210
      clear hv210
      refine wpQ_done (by kernel_rfl) ?_
      intro w211 hF_w211 hSG
      have hz_w211 := hSG.1.1
      have hb_w211 := hSG.1.2
      clear hSG
      (with_reducible apply cel2 (b := w.heap.size) hb_w211); (focus ((try simp) <;> omega)); (focus omega); (iterate 2 (focus (go_simp; try exact rfl))); (focus (intro o; go_simp)); intro c_w211_0_0 c_w211_0_1 fz_w211_0 hl_w211_0; (with_reducible apply cel6 (b := w101.heap.size) hb_w211); (focus ((try simp) <;> omega)); (focus omega); (iterate 6 (focus (go_simp; try exact rfl))); (focus (intro o; go_simp)); intro c_w211_1_0 c_w211_1_1 c_w211_1_2 c_w211_1_3 c_w211_1_4 c_w211_1_5 fz_w211_1 hl_w211_1; (with_reducible apply cel6 (b := wr.heap.size) hb_w211); (focus ((try simp) <;> omega)); (focus omega); (iterate 6 (focus (go_simp; try exact rfl))); (focus (intro o; go_simp)); intro c_w211_2_0 c_w211_2_1 c_w211_2_2 c_w211_2_3 c_w211_2_4 c_w211_2_5 fz_w211_2 hl_w211_2
      (try simp only [List.filterMap_cons, List.filterMap_nil, List.getElem?_cons_succ, List.getElem?_cons_zero])
      clear HE
      replace HS := Lib.hid (HS.out.below hb_w211)
      have H203 := Lib.hid (show IsC w211 (.agg #[.bool s203, .slice A203 n203 c203]) (P1) from hF_w211.1.1.1.1.1.1.1)
      have H204 := Lib.hid (show IsC w211 (.agg #[.bool s204, .slice A204 n204 c204]) (P2) from hF_w211.1.1.1.1.1.1.2)
      have H205 := Lib.hid (show IsC w211 (.agg #[.bool s205, .slice A205 n205 c205]) (P) from hF_w211.1.1.1.1.1.2)
      have H206 := Lib.hid (show IsC w211 (.agg #[.bool s206, .slice A206 n206 c206]) (Q1) from hF_w211.1.1.1.1.2)
      have H207 := Lib.hid (show IsC w211 (.agg #[.bool s207, .slice A207 n207 c207]) (Q2) from hF_w211.1.1.1.2)
      have H208 := Lib.hid (show IsC w211 (.agg #[.bool s208, .slice A208 n208 c208]) (Q) from hF_w211.1.1.2)
      have H209 := Lib.hid (show IsC w211 (.agg #[.bool s209, .slice A209 n209 c209]) (E1) from hF_w211.1.2)
      have H210 := Lib.hid (show RAt w211 (.agg #[.bool s210x, .slice A210x n210x c210x, .bool s210y, .slice A210y n210y c210y, .bool s210d, .slice A210d n210d c210d]) (R1) (R2) (R3) from hF_w211.2)
      have HB211 := Lib.hid (HB202.out.trans (hb_w211.mono (by have := HB202.out.size; omega)))
      have hz211 : w.heap.size + 1 ≤ w211.heap.size := by omega
      clear hF_w211 hb_w211
      clear c_w202_0_0 c_w202_0_1 fz_w202_0 hl_w202_0 c_w202_1_0 c_w202_1_1 c_w202_1_2 c_w202_1_3 c_w202_1_4 c_w202_1_5 fz_w202_1 hl_w202_1 c_w202_2_0 c_w202_2_1 c_w202_2_2 c_w202_2_3 c_w202_2_4 c_w202_2_5 fz_w202_2 hl_w202_2
      go_wp2_with fail
      refine HQ_.out _ _ _ ?_
      clear HQ_ Q_
      go_wp2_with fail
      go_roundw
      case rel => exact ⟨k + 1, R1, R2, R3, s210x, A210x, n210x, c210x, s210y, A210y, n210y, c210y, s210d, A210d, n210d, c210d, by omega, by go_num, by have hB := HB211.out; ((with_reducible (repeat (first | exact bR _ _ | refine bS ?_ ?_ _ | refine bA ?_ ?_ _ | refine bD ?_ | refine bT ?_ (by assumption) ?_ | refine bO (by assumption) ?_ ?_))) <;> (first | omega | (simp <;> omega))), by go_simp, by go_simp, by go_simp, by go_simp, by go_simp, by go_simp, by intro o; go_simp, by (try simp) <;> omega, (by ((repeat (first | (with_reducible exact H210.out) | (with_reducible refine RAt.al ?_ _) | (with_reducible apply RAt.st1))) <;> (first | (with_reducible assumption) | (intro _ e; cases e; done) | (go_simp; first | done | exact rfl)))), HN2⟩
      case measure => simp [intOf]; omega
    · obtain rfl : k = l.length := by omega
      rw [List.take_length] at HN
      obtain ⟨hXY, _⟩ := HN.out
      have e1 : x = X.tdiv (D * (l.length : Int)) := by rw [HM1.out]; unfold meanR; rw [← hXY]
      have e2 : y = Y.tdiv (D * (l.length : Int)) := by rw [HM2.out]; unfold meanR; rw [← hXY]
      obtain ⟨n, hn⟩ : ∃ n : Int, n = (l.length : Int) := ⟨_, rfl⟩
      rw [← hn] at e1 e2
      have hn' := hn.symm
      have hdn : D * n ≠ 0 := Int.ne_of_gt (Int.mul_pos hsd (by omega))
      have hw := HM.out
      simp only [withinB, decide_eq_true_eq] at hw
      have b1 : bitN x.natAbs ≤ 31 := bitN_le (by omega)
      have b2 : bitN y.natAbs ≤ 31 := bitN_le (by omega)
      have k1 := fun w => wof_any n w (by omega) (by omega)
      have ln := len_up (len_wd (z := n) (by omega) (by omega)) (show _ ≤ 600 by omega)
      have ldn := len_mul LD.out ln
      have k2 := fun u v w h1 h2 => wmul_any 600 u v D n w h1 h2 (by omega)
      have k3 := fun u v w h1 h2 => wquo_any (600 + 600) u v X (D * n) w h1 h2 (by omega) hdn
      have k4 := fun u v w h1 h2 => wquo_any (600 + 600) u v Y (D * n) w h1 h2 (by omega) hdn
      rw [← e1] at k3
      rw [← e2] at k4
      replace LX := Lib.hid (len_up LX.out (show 600 ≤ 600 + 600 by omega))
      replace LY := Lib.hid (len_up LY.out (show 600 ≤ 600 + 600 by omega))
      have lx := len_wd (z := x) (by omega) (by omega)
      have ly := len_wd (z := y) (by omega) (by omega)
      have k5 := fun v w h => wbits_any 10 v x w h (by omega)
      have k6 := fun v w h => wbits_any 10 v y w h (by omega)
      have k7 := fun v w h => wint_any x v w h (by omega) (by omega)
      have k8 := fun v w h => wint_any y v w h (by omega) (by omega)
      have k9 := fun g w => rwithin_one2 1073741824 x y g w (by omega) (by omega)
      rw [HM.out] at k9
      obtain ⟨B1, hB1⟩ : ∃ B1 : Int, B1 = (bitN x.natAbs : Int) := ⟨_, rfl⟩
      obtain ⟨B2, hB2⟩ : ∃ B2 : Int, B2 = (bitN y.natAbs : Int) := ⟨_, rfl⟩
      rw [← hB1] at k5
      rw [← hB2] at k6
      have b1' : ¬ 31 < B1 := by omega
      have b2' : ¬ 31 < B2 := by omega
      have nb1 : n ≤ 16 := by omega
      have nb0 : 0 ≤ n := by omega
      have d1 : ¬ (l.length : Int) < (l.length : Int) := by omega
      generalize X.tmod (D * n) = x2 at *
      generalize Y.tmod (D * n) = y2 at *
      generalize D * n = DN at *
      have Ln := Lib.hid ln
      have LDN := Lib.hid ldn
      have Lx := Lib.hid lx
      have Ly := Lib.hid ly
      have K1 := Lib.hid k1
      have K2 := Lib.hid k2
      have K3 := Lib.hid k3
      have K4 := Lib.hid k4
      have K5 := Lib.hid k5
      have K6 := Lib.hid k6
      have K7 := Lib.hid k7
      have K8 := Lib.hid k8
      have K9 := Lib.hid k9
      clear k1 k2 k3 k4 k5 k6 k7 k8 k9 ln ldn lx ly hXY e1 e2 hdn hn b1 b2 hB1 hB2 hsd hsx hsy hsl
      go_wp2_with fail
      (refine pin_wp (N := _) (Nat.le_refl _) (fun w301 hb_w301 hz_w301 => ?_); (try simp at hz_w301); (with_reducible apply cel2 (b := w.heap.size) hb_w301); (focus ((try simp) <;> omega)); (focus omega); (iterate 2 (focus (go_simp; try exact rfl))); (focus (intro o; go_simp)); intro c_w301_0_0 c_w301_0_1 fz_w301_0 hl_w301_0; (with_reducible apply cel6 (b := w101.heap.size) hb_w301); (focus ((try simp) <;> omega)); (focus omega); (iterate 6 (focus (go_simp; try exact rfl))); (focus (intro o; go_simp)); intro c_w301_1_0 c_w301_1_1 c_w301_1_2 c_w301_1_3 c_w301_1_4 c_w301_1_5 fz_w301_1 hl_w301_1); refine wp_q (fun Q_ HQ_ => ?_); refine wp_region_floatQ w301.heap.size 7 [7] (Nat.le_refl _) (fun _ => True) trivial Cl.tt (by kernel_rfl) (by kernel_rfl) ?_
      replace HS := Lib.hid (RAt.below (v := .agg #[.bool sSx, .slice ASx nSx cSx, .bool sSy, .slice ASy nSy cSy, .bool sSd, .slice ASd nSd cSd]) (x := X) (y := Y) (d := D) (by ((repeat (first | (with_reducible exact HS.out) | (with_reducible refine RAt.al ?_ _) | (with_reducible apply RAt.st1))) <;> (first | (with_reducible assumption) | (intro _ e; cases e; done) | (go_simp; first | done | exact rfl)))) hb_w301)
      have HB301 := Lib.hid (show Below w101.heap.size w101 w301 by have hB := HBR.out; ((with_reducible (repeat (first | exact bR _ _ | refine bS ?_ ?_ _ | refine bA ?_ ?_ _ | refine bD ?_ | refine bT ?_ (by assumption) ?_ | refine bO (by assumption) ?_ ?_))) <;> (first | omega | (simp <;> omega))))
      have hz301 : w.heap.size + 1 ≤ w301.heap.size := by omega
      clear hb_w301
      skip
      refine wpQI_start [0, 1, 2, 3] ?_; (iterate 4 (first | (apply wpQI_step (by with_reducible (refine zA ?_; (repeat (first | exact zB | refine zC ?_)))) (by kernel_rfl) (by exact rfl); (focus (intro W' hS; have hcS := hS.cells.1; have hfS := hS.cells.2; go_simp; (first | done | exact rfl | exact bB _ | (go_simp; first | done | exact rfl | exact bB _)))); intro K hK; go_simp; (try go_bits); refine hK _ ?_; clear hK K))); refine wpQI_nil ?_
      apply wpQ_call (i := 4) (by with_reducible (refine zA ?_; (repeat (first | exact zB | refine zC ?_)))) (by kernel_rfl) (by exact rfl); intro W hF hS; have hcS := hS.1.cells.1; have hfS := hS.1.cells.2; go_simp; (go_at_call 57; refine (K1.out _).mono ?_; rintro e w302 ⟨hb_w302, v302, rfl, hv302⟩; refine XPost.mk _ (fun W => IsC W v302 (n)) hb_w302 (hv302) (IsC.cl _ _) ?_); clear hb_w302 hcS hfS hS hF
      intro K hK; go_simp; (try go_bits); refine hK _ ?_; clear hK K
      obtain ⟨s302, A302, n302, c302, rfl⟩ := IsC.val hv302
      clear hv302
      apply wpQ_call (i := 5) (by with_reducible (refine zA ?_; (repeat (first | exact zB | refine zC ?_)))) (by kernel_rfl) (by exact rfl); intro W hF hS; have hcS := hS.1.cells.1; have hfS := hS.1.cells.2; go_simp; (go_at_call 56; refine (K2.out _ _ _ ((RAt.pd (HS.out.below hS.1.2)).zl LD.out) (hF.zl Ln.out)).mono ?_; rintro e w303 ⟨hb_w303, v303, rfl, hv303⟩; refine XPost.mk _ (fun W => IsC W v303 (DN)) hb_w303 (hv303) (IsC.cl _ _) ?_); clear hb_w303 hcS hfS hS hF
      intro K hK; go_simp; (try go_bits); refine hK _ ?_; clear hK K
      obtain ⟨s303, A303, n303, c303, rfl⟩ := IsC.val hv303
      clear hv303
      apply wpQ_fresh (i := 6) LInv.std (by with_reducible (refine zA ?_; (repeat (first | exact zB | refine zC ?_)))) (by kernel_rfl) (fun g => Value.pointer (some ⟨g, 0, none⟩)) (by exact rfl); (focus (intro W; go_simp; first | done | exact rfl | exact ⟨rfl, rfl⟩))
      intro g_r11_6 hN_r11_6 hG_r11_6 K hK
      go_simp; refine hK _ ?_; clear hK K
      have hne : w.heap.size ≠ g_r11_6 := by have := hN_r11_6; omega
      have hne := Ne.symm hne
      have hne : w101.heap.size ≠ g_r11_6 := by have := hN_r11_6; omega
      have hne := Ne.symm hne
      refine wpQ_done (by kernel_rfl) ?_
      intro w304 hF_w304 hSG
      have hz_w304 := hSG.1.1
      have hb_w304 := hSG.1.2
      have hB_r11_6 := (hSG.2 _ (List.mem_cons_self ..)).2; simp only at hB_r11_6; have hl_r11_6 := (hSG.size (List.mem_cons_self ..)); simp only at hl_r11_6
      have c_w304_r11_6_0 := cell_of_row w304 g_r11_6 0 _ _ _ hB_r11_6; simp only [List.getElem?_toArray, List.getElem?_cons_zero] at c_w304_r11_6_0
      have c_w304_r11_6_1 := cell_of_row w304 g_r11_6 1 _ _ _ hB_r11_6; simp only [List.getElem?_toArray, List.getElem?_cons_zero, List.getElem?_cons_succ] at c_w304_r11_6_1
      have fz_w304_r11_6 : (∀ o, w304.frozen? ⟨g_r11_6, o, none⟩ = false) := (fun o => frozen_of_row w304 g_r11_6 o _ _ hB_r11_6); have HH_r11_6 := Lib.hid hB_r11_6; clear hB_r11_6
      clear hSG
      (with_reducible apply cel2 (b := w.heap.size) hb_w304); (focus ((try simp) <;> omega)); (focus omega); (iterate 2 (focus (go_simp; try exact rfl))); (focus (intro o; go_simp)); intro c_w304_0_0 c_w304_0_1 fz_w304_0 hl_w304_0; (with_reducible apply cel6 (b := w101.heap.size) hb_w304); (focus ((try simp) <;> omega)); (focus omega); (iterate 6 (focus (go_simp; try exact rfl))); (focus (intro o; go_simp)); intro c_w304_1_0 c_w304_1_1 c_w304_1_2 c_w304_1_3 c_w304_1_4 c_w304_1_5 fz_w304_1 hl_w304_1
      (try simp only [List.filterMap_cons, List.filterMap_nil, List.getElem?_cons_succ, List.getElem?_cons_zero])
      replace HS := Lib.hid (HS.out.below hb_w304)
      have H302 := Lib.hid (show IsC w304 (.agg #[.bool s302, .slice A302 n302 c302]) (n) from hF_w304.1)
      have H303 := Lib.hid (show IsC w304 (.agg #[.bool s303, .slice A303 n303 c303]) (DN) from hF_w304.2)
      have HB304 := Lib.hid (HB301.out.trans (hb_w304.mono (by have := HB301.out.size; omega)))
      have hz304 : w.heap.size + 1 ≤ w304.heap.size := by omega
      have hn_r11_6 : w.heap.size + 1 ≤ g_r11_6 := by have := hN_r11_6; omega
      have hnb_r11_6 : w101.heap.size ≤ g_r11_6 := by have := hN_r11_6; omega
      clear hF_w304 hb_w304 HH_r11_6 hG_r11_6 hN_r11_6
      clear c_w301_0_0 c_w301_0_1 fz_w301_0 hl_w301_0 c_w301_1_0 c_w301_1_1 c_w301_1_2 c_w301_1_3 c_w301_1_4 c_w301_1_5 fz_w301_1 hl_w301_1
      go_wp2_with fail
      refine HQ_.out _ _ _ ?_
      clear HQ_ Q_
      go_wp2_with fail
      (go_at_call 60; refine (K3.out _ _ _ ((RAt.px (show RAt _ (.agg #[.bool sSx, .slice ASx nSx cSx, .bool sSy, .slice ASy nSy cSy, .bool sSd, .slice ASd nSd cSd]) (X) (Y) (D) by ((repeat (first | (with_reducible exact HS.out) | (with_reducible refine RAt.al ?_ _) | (with_reducible apply RAt.st1))) <;> (first | (with_reducible assumption) | (intro _ e; cases e; done) | (go_simp; first | done | exact rfl))))).zl LX.out) ((show IsC _ (.agg #[.bool s303, .slice A303 n303 c303]) (DN) by ((repeat (first | (with_reducible exact H303.out) | (with_reducible refine IsC.al ?_ _) | (with_reducible apply IsC.st1))) <;> (first | (with_reducible assumption) | (intro _ e; cases e; done) | (go_simp; first | done | exact rfl)))).zl LDN.out)).mono ?_; rintro e w305 ⟨hb_w305, u305, v305, rfl, hu305, hv305⟩; have hz_w305 := hb_w305.size; (try simp at hz_w305); (with_reducible apply cel2 (b := w.heap.size) hb_w305); (focus ((try simp) <;> omega)); (focus omega); (iterate 2 (focus (go_simp; try exact rfl))); (focus (intro o; go_simp)); intro c_w305_0_0 c_w305_0_1 fz_w305_0 hl_w305_0; (with_reducible apply cel6 (b := w101.heap.size) hb_w305); (focus ((try simp) <;> omega)); (focus omega); (iterate 6 (focus (go_simp; try exact rfl))); (focus (intro o; go_simp)); intro c_w305_1_0 c_w305_1_1 c_w305_1_2 c_w305_1_3 c_w305_1_4 c_w305_1_5 fz_w305_1 hl_w305_1; (with_reducible apply cel2 (b := g_r11_6) hb_w305); (focus ((try simp) <;> omega)); (focus omega); (iterate 2 (focus (go_simp; try exact rfl))); (focus (intro o; go_simp)); intro c_w305_2_0 c_w305_2_1 fz_w305_2 hl_w305_2)
      obtain ⟨s305u, A305u, n305u, c305u, rfl⟩ := IsC.val hu305
      obtain ⟨s305, A305, n305, c305, rfl⟩ := IsC.val hv305
      clear H302
      replace HS := Lib.hid (RAt.below (v := .agg #[.bool sSx, .slice ASx nSx cSx, .bool sSy, .slice ASy nSy cSy, .bool sSd, .slice ASd nSd cSd]) (x := X) (y := Y) (d := D) (by ((repeat (first | (with_reducible exact HS.out) | (with_reducible refine RAt.al ?_ _) | (with_reducible apply RAt.st1))) <;> (first | (with_reducible assumption) | (intro _ e; cases e; done) | (go_simp; first | done | exact rfl)))) hb_w305)
      replace H303 := Lib.hid (IsC.below (v := .agg #[.bool s303, .slice A303 n303 c303]) (z := DN) (by ((repeat (first | (with_reducible exact H303.out) | (with_reducible refine IsC.al ?_ _) | (with_reducible apply IsC.st1))) <;> (first | (with_reducible assumption) | (intro _ e; cases e; done) | (go_simp; first | done | exact rfl)))) hb_w305)
      have HB305 := Lib.hid (show Below w101.heap.size w101 w305 by have hB := HB304.out; ((with_reducible (repeat (first | exact bR _ _ | refine bS ?_ ?_ _ | refine bA ?_ ?_ _ | refine bD ?_ | refine bT ?_ (by assumption) ?_ | refine bO (by assumption) ?_ ?_))) <;> (first | omega | (simp <;> omega))))
      have hz305 : w.heap.size + 1 ≤ w305.heap.size := by omega
      clear hb_w305
      clear c_w304_r11_6_0 c_w304_r11_6_1 fz_w304_r11_6 c_w304_0_0 c_w304_0_1 fz_w304_0 hl_w304_0 c_w304_1_0 c_w304_1_1 c_w304_1_2 c_w304_1_3 c_w304_1_4 c_w304_1_5 fz_w304_1 hl_w304_1
      have H305u := Lib.hid (show IsC w305 (.agg #[.bool s305u, .slice A305u n305u c305u]) (x) from hu305)
      clear hu305
      have H305 := Lib.hid (show IsC w305 (.agg #[.bool s305, .slice A305 n305 c305]) (x2) from hv305)
      clear hv305
      go_wp2_with fail
      (go_at_call 60; refine (K4.out _ _ _ ((RAt.py (show RAt _ (.agg #[.bool sSx, .slice ASx nSx cSx, .bool sSy, .slice ASy nSy cSy, .bool sSd, .slice ASd nSd cSd]) (X) (Y) (D) by ((repeat (first | (with_reducible exact HS.out) | (with_reducible refine RAt.al ?_ _) | (with_reducible apply RAt.st1))) <;> (first | (with_reducible assumption) | (intro _ e; cases e; done) | (go_simp; first | done | exact rfl))))).zl LY.out) ((show IsC _ (.agg #[.bool s303, .slice A303 n303 c303]) (DN) by ((repeat (first | (with_reducible exact H303.out) | (with_reducible refine IsC.al ?_ _) | (with_reducible apply IsC.st1))) <;> (first | (with_reducible assumption) | (intro _ e; cases e; done) | (go_simp; first | done | exact rfl)))).zl LDN.out)).mono ?_; rintro e w306 ⟨hb_w306, u306, v306, rfl, hu306, hv306⟩; have hz_w306 := hb_w306.size; (try simp at hz_w306); (with_reducible apply cel2 (b := w.heap.size) hb_w306); (focus ((try simp) <;> omega)); (focus omega); (iterate 2 (focus (go_simp; try exact rfl))); (focus (intro o; go_simp)); intro c_w306_0_0 c_w306_0_1 fz_w306_0 hl_w306_0; (with_reducible apply cel6 (b := w101.heap.size) hb_w306); (focus ((try simp) <;> omega)); (focus omega); (iterate 6 (focus (go_simp; try exact rfl))); (focus (intro o; go_simp)); intro c_w306_1_0 c_w306_1_1 c_w306_1_2 c_w306_1_3 c_w306_1_4 c_w306_1_5 fz_w306_1 hl_w306_1; (with_reducible apply cel2 (b := w305.heap.size) hb_w306); (focus ((try simp) <;> omega)); (focus omega); (iterate 2 (focus (go_simp; try exact rfl))); (focus (intro o; go_simp)); intro c_w306_2_0 c_w306_2_1 fz_w306_2 hl_w306_2)
      obtain ⟨s306u, A306u, n306u, c306u, rfl⟩ := IsC.val hu306
      obtain ⟨s306, A306, n306, c306, rfl⟩ := IsC.val hv306
      clear HS
      clear H303
      clear H305
      replace H305u := Lib.hid (IsC.below (v := .agg #[.bool s305u, .slice A305u n305u c305u]) (z := x) (by ((repeat (first | (with_reducible exact H305u.out) | (with_reducible refine IsC.al ?_ _) | (with_reducible apply IsC.st1))) <;> (first | (with_reducible assumption) | (intro _ e; cases e; done) | (go_simp; first | done | exact rfl)))) hb_w306)
      have HB306 := Lib.hid (show Below w101.heap.size w101 w306 by have hB := HB305.out; ((with_reducible (repeat (first | exact bR _ _ | refine bS ?_ ?_ _ | refine bA ?_ ?_ _ | refine bD ?_ | refine bT ?_ (by assumption) ?_ | refine bO (by assumption) ?_ ?_))) <;> (first | omega | (simp <;> omega))))
      have hz306 : w.heap.size + 1 ≤ w306.heap.size := by omega
      clear hb_w306
      clear c_w305_0_0 c_w305_0_1 fz_w305_0 hl_w305_0 c_w305_1_0 c_w305_1_1 c_w305_1_2 c_w305_1_3 c_w305_1_4 c_w305_1_5 fz_w305_1 hl_w305_1 c_w305_2_0 c_w305_2_1 fz_w305_2 hl_w305_2
      have H306u := Lib.hid (show IsC w306 (.agg #[.bool s306u, .slice A306u n306u c306u]) (y) from hu306)
      clear hu306
      have H306 := Lib.hid (show IsC w306 (.agg #[.bool s306, .slice A306 n306 c306]) (y2) from hv306)
      clear hv306
      go_wp2_with fail
      (go_at_call 61; refine (K5.out _ _ ((show IsC _ (.agg #[.bool s305u, .slice A305u n305u c305u]) (x) by ((repeat (first | (with_reducible exact H305u.out) | (with_reducible refine IsC.al ?_ _) | (with_reducible apply IsC.st1))) <;> (first | (with_reducible assumption) | (intro _ e; cases e; done) | (go_simp; first | done | exact rfl)))).zl Lx.out)).mono ?_; rintro e w307 ⟨rfl, hb_w307⟩; have hz_w307 := hb_w307.size; (try simp at hz_w307); (with_reducible apply cel2 (b := w.heap.size) hb_w307); (focus ((try simp) <;> omega)); (focus omega); (iterate 2 (focus (go_simp; try exact rfl))); (focus (intro o; go_simp)); intro c_w307_0_0 c_w307_0_1 fz_w307_0 hl_w307_0; (with_reducible apply cel6 (b := w101.heap.size) hb_w307); (focus ((try simp) <;> omega)); (focus omega); (iterate 6 (focus (go_simp; try exact rfl))); (focus (intro o; go_simp)); intro c_w307_1_0 c_w307_1_1 c_w307_1_2 c_w307_1_3 c_w307_1_4 c_w307_1_5 fz_w307_1 hl_w307_1; (with_reducible apply cel2 (b := w305.heap.size) hb_w307); (focus ((try simp) <;> omega)); (focus omega); (iterate 2 (focus (go_simp; try exact rfl))); (focus (intro o; go_simp)); intro c_w307_2_0 c_w307_2_1 fz_w307_2 hl_w307_2; (with_reducible apply cel2 (b := w306.heap.size) hb_w307); (focus ((try simp) <;> omega)); (focus omega); (iterate 2 (focus (go_simp; try exact rfl))); (focus (intro o; go_simp)); intro c_w307_3_0 c_w307_3_1 fz_w307_3 hl_w307_3)
      clear H306
      replace H305u := Lib.hid (IsC.below (v := .agg #[.bool s305u, .slice A305u n305u c305u]) (z := x) (by ((repeat (first | (with_reducible exact H305u.out) | (with_reducible refine IsC.al ?_ _) | (with_reducible apply IsC.st1))) <;> (first | (with_reducible assumption) | (intro _ e; cases e; done) | (go_simp; first | done | exact rfl)))) hb_w307)
      replace H306u := Lib.hid (IsC.below (v := .agg #[.bool s306u, .slice A306u n306u c306u]) (z := y) (by ((repeat (first | (with_reducible exact H306u.out) | (with_reducible refine IsC.al ?_ _) | (with_reducible apply IsC.st1))) <;> (first | (with_reducible assumption) | (intro _ e; cases e; done) | (go_simp; first | done | exact rfl)))) hb_w307)
      have HB307 := Lib.hid (show Below w101.heap.size w101 w307 by have hB := HB306.out; ((with_reducible (repeat (first | exact bR _ _ | refine bS ?_ ?_ _ | refine bA ?_ ?_ _ | refine bD ?_ | refine bT ?_ (by assumption) ?_ | refine bO (by assumption) ?_ ?_))) <;> (first | omega | (simp <;> omega))))
      have hz307 : w.heap.size + 1 ≤ w307.heap.size := by omega
      clear hb_w307
      clear c_w306_0_0 c_w306_0_1 fz_w306_0 hl_w306_0 c_w306_1_0 c_w306_1_1 c_w306_1_2 c_w306_1_3 c_w306_1_4 c_w306_1_5 fz_w306_1 hl_w306_1 c_w306_2_0 c_w306_2_1 fz_w306_2 hl_w306_2
      go_wp2_with fail
      (go_at_call 61; refine (K6.out _ _ ((show IsC _ (.agg #[.bool s306u, .slice A306u n306u c306u]) (y) by ((repeat (first | (with_reducible exact H306u.out) | (with_reducible refine IsC.al ?_ _) | (with_reducible apply IsC.st1))) <;> (first | (with_reducible assumption) | (intro _ e; cases e; done) | (go_simp; first | done | exact rfl)))).zl Ly.out)).mono ?_; rintro e w308 ⟨rfl, hb_w308⟩; have hz_w308 := hb_w308.size; (try simp at hz_w308); (with_reducible apply cel2 (b := w.heap.size) hb_w308); (focus ((try simp) <;> omega)); (focus omega); (iterate 2 (focus (go_simp; try exact rfl))); (focus (intro o; go_simp)); intro c_w308_0_0 c_w308_0_1 fz_w308_0 hl_w308_0; (with_reducible apply cel6 (b := w101.heap.size) hb_w308); (focus ((try simp) <;> omega)); (focus omega); (iterate 6 (focus (go_simp; try exact rfl))); (focus (intro o; go_simp)); intro c_w308_1_0 c_w308_1_1 c_w308_1_2 c_w308_1_3 c_w308_1_4 c_w308_1_5 fz_w308_1 hl_w308_1; (with_reducible apply cel2 (b := w305.heap.size) hb_w308); (focus ((try simp) <;> omega)); (focus omega); (iterate 2 (focus (go_simp; try exact rfl))); (focus (intro o; go_simp)); intro c_w308_2_0 c_w308_2_1 fz_w308_2 hl_w308_2; (with_reducible apply cel2 (b := w306.heap.size) hb_w308); (focus ((try simp) <;> omega)); (focus omega); (iterate 2 (focus (go_simp; try exact rfl))); (focus (intro o; go_simp)); intro c_w308_3_0 c_w308_3_1 fz_w308_3 hl_w308_3)
      replace H305u := Lib.hid (IsC.below (v := .agg #[.bool s305u, .slice A305u n305u c305u]) (z := x) (by ((repeat (first | (with_reducible exact H305u.out) | (with_reducible refine IsC.al ?_ _) | (with_reducible apply IsC.st1))) <;> (first | (with_reducible assumption) | (intro _ e; cases e; done) | (go_simp; first | done | exact rfl)))) hb_w308)
      replace H306u := Lib.hid (IsC.below (v := .agg #[.bool s306u, .slice A306u n306u c306u]) (z := y) (by ((repeat (first | (with_reducible exact H306u.out) | (with_reducible refine IsC.al ?_ _) | (with_reducible apply IsC.st1))) <;> (first | (with_reducible assumption) | (intro _ e; cases e; done) | (go_simp; first | done | exact rfl)))) hb_w308)
      have HB308 := Lib.hid (show Below w101.heap.size w101 w308 by have hB := HB307.out; ((with_reducible (repeat (first | exact bR _ _ | refine bS ?_ ?_ _ | refine bA ?_ ?_ _ | refine bD ?_ | refine bT ?_ (by assumption) ?_ | refine bO (by assumption) ?_ ?_))) <;> (first | omega | (simp <;> omega))))
      have hz308 : w.heap.size + 1 ≤ w308.heap.size := by omega
      clear hb_w308
      clear c_w307_0_0 c_w307_0_1 fz_w307_0 hl_w307_0 c_w307_1_0 c_w307_1_1 c_w307_1_2 c_w307_1_3 c_w307_1_4 c_w307_1_5 fz_w307_1 hl_w307_1 c_w307_2_0 c_w307_2_1 fz_w307_2 hl_w307_2 c_w307_3_0 c_w307_3_1 fz_w307_3 hl_w307_3
      go_wp2_with fail
      (refine pin_wp (N := _) (Nat.le_refl _) (fun w309 hb_w309 hz_w309 => ?_); (try simp at hz_w309); (with_reducible apply cel2 (b := w.heap.size) hb_w309); (focus ((try simp) <;> omega)); (focus omega); (iterate 2 (focus (go_simp; try exact rfl))); (focus (intro o; go_simp)); intro c_w309_0_0 c_w309_0_1 fz_w309_0 hl_w309_0; (with_reducible apply cel6 (b := w101.heap.size) hb_w309); (focus ((try simp) <;> omega)); (focus omega); (iterate 6 (focus (go_simp; try exact rfl))); (focus (intro o; go_simp)); intro c_w309_1_0 c_w309_1_1 c_w309_1_2 c_w309_1_3 c_w309_1_4 c_w309_1_5 fz_w309_1 hl_w309_1; (with_reducible apply cel2 (b := w305.heap.size) hb_w309); (focus ((try simp) <;> omega)); (focus omega); (iterate 2 (focus (go_simp; try exact rfl))); (focus (intro o; go_simp)); intro c_w309_2_0 c_w309_2_1 fz_w309_2 hl_w309_2; (with_reducible apply cel2 (b := w306.heap.size) hb_w309); (focus ((try simp) <;> omega)); (focus omega); (iterate 2 (focus (go_simp; try exact rfl))); (focus (intro o; go_simp)); intro c_w309_3_0 c_w309_3_1 fz_w309_3 hl_w309_3); refine wp_q (fun Q_ HQ_ => ?_); refine wp_region_floatQ w309.heap.size 6 [6] (Nat.le_refl _) (fun _ => True) trivial Cl.tt (by kernel_rfl) (by kernel_rfl) ?_
      replace H305u := Lib.hid (IsC.below (v := .agg #[.bool s305u, .slice A305u n305u c305u]) (z := x) (by ((repeat (first | (with_reducible exact H305u.out) | (with_reducible refine IsC.al ?_ _) | (with_reducible apply IsC.st1))) <;> (first | (with_reducible assumption) | (intro _ e; cases e; done) | (go_simp; first | done | exact rfl)))) hb_w309)
      replace H306u := Lib.hid (IsC.below (v := .agg #[.bool s306u, .slice A306u n306u c306u]) (z := y) (by ((repeat (first | (with_reducible exact H306u.out) | (with_reducible refine IsC.al ?_ _) | (with_reducible apply IsC.st1))) <;> (first | (with_reducible assumption) | (intro _ e; cases e; done) | (go_simp; first | done | exact rfl)))) hb_w309)
      have HB309 := Lib.hid (show Below w101.heap.size w101 w309 by have hB := HB308.out; ((with_reducible (repeat (first | exact bR _ _ | refine bS ?_ ?_ _ | refine bA ?_ ?_ _ | refine bD ?_ | refine bT ?_ (by assumption) ?_ | refine bO (by assumption) ?_ ?_))) <;> (first | omega | (simp <;> omega))))
      have hz309 : w.heap.size + 1 ≤ w309.heap.size := by omega
      clear hb_w309
      clear c_w308_0_0 c_w308_0_1 fz_w308_0 hl_w308_0 c_w308_1_0 c_w308_1_1 c_w308_1_2 c_w308_1_3 c_w308_1_4 c_w308_1_5 fz_w308_1 hl_w308_1 c_w308_2_0 c_w308_2_1 fz_w308_2 hl_w308_2 c_w308_3_0 c_w308_3_1 fz_w308_3 hl_w308_3
      refine wpQI_start [0] ?_; (iterate 1 (first | (apply wpQI_step (by with_reducible (refine zA ?_; (repeat (first | exact zB | refine zC ?_)))) (by kernel_rfl) (by exact rfl); (focus (intro W' hS; have hcS := hS.cells.1; have hfS := hS.cells.2; go_simp; (first | done | exact rfl | exact bB _ | (go_simp; first | done | exact rfl | exact bB _)))); intro K hK; go_simp; (try go_bits); refine hK _ ?_; clear hK K))); refine wpQI_nil ?_
      refine wpQI_start [2] ?_; (iterate 1 (first | (apply wpQI_step (by with_reducible (refine zA ?_; (repeat (first | exact zB | refine zC ?_)))) (by kernel_rfl) (by exact rfl); (focus (intro W' hS; have hcS := hS.cells.1; have hfS := hS.cells.2; go_simp; (first | done | exact rfl | exact bB _ | (go_simp; first | done | exact rfl | exact bB _)))); intro K hK; go_simp; (try go_bits); refine hK _ ?_; clear hK K))); refine wpQI_nil ?_
      apply wpQ_call (i := 1) (by with_reducible (refine zA ?_; (repeat (first | exact zB | refine zC ?_)))) (by kernel_rfl) (by exact rfl); intro W hF hS; have hcS := hS.1.cells.1; have hfS := hS.1.cells.2; go_simp; (go_at_call 62; refine (K7.out _ _ ((H305u.out.below hS.1.2))).mono ?_; rintro e w310 ⟨rfl, hb_w310⟩; refine XPost.mk _ (fun _ => True) hb_w310 (trivial) (Cl.tt) ?_); clear hb_w310 hcS hfS hS hF
      intro K hK; go_simp; (try go_bits); refine hK _ ?_; clear hK K
      apply wpQ_call (i := 3) (by with_reducible (refine zA ?_; (repeat (first | exact zB | refine zC ?_)))) (by kernel_rfl) (by exact rfl); intro W hF hS; have hcS := hS.1.cells.1; have hfS := hS.1.cells.2; go_simp; (go_at_call 62; refine (K8.out _ _ ((H306u.out.below hS.1.2))).mono ?_; rintro e w311 ⟨rfl, hb_w311⟩; refine XPost.mk _ (fun _ => True) hb_w311 (trivial) (Cl.tt) ?_); clear hb_w311 hcS hfS hS hF
      intro K hK; go_simp; (try go_bits); refine hK _ ?_; clear hK K
      refine wpQI_start [4] ?_; (iterate 1 (first | (apply wpQI_step (by with_reducible (refine zA ?_; (repeat (first | exact zB | refine zC ?_)))) (by kernel_rfl) (by exact rfl); (focus (intro W' hS; have hcS := hS.cells.1; have hfS := hS.cells.2; go_simp; (first | done | exact rfl | exact bB _ | (go_simp; first | done | exact rfl | exact bB _)))); intro K hK; go_simp; (try go_bits); refine hK _ ?_; clear hK K))); refine wpQI_nil ?_
      apply wpQ_fresh (i := 5) LInv.std (by with_reducible (refine zA ?_; (repeat (first | exact zB | refine zC ?_)))) (by kernel_rfl) (fun g => Value.pointer (some ⟨g, 0, none⟩)) (by exact rfl); (focus (intro W; go_simp; first | done | exact rfl | exact ⟨rfl, rfl⟩))
      intro g_r16_5 hN_r16_5 hG_r16_5 K hK
      go_simp; refine hK _ ?_; clear hK K
      have hne : w.heap.size ≠ g_r16_5 := by have := hN_r16_5; omega
      have hne := Ne.symm hne
      have hne : w101.heap.size ≠ g_r16_5 := by have := hN_r16_5; omega
      have hne := Ne.symm hne
      have hne : g_r11_6 ≠ g_r16_5 := by have := hN_r16_5; omega
      have hne := Ne.symm hne
      have hne : w305.heap.size ≠ g_r16_5 := by have := hN_r16_5; omega
      have hne := Ne.symm hne
      have hne : w305.heap.size + 1 ≠ g_r16_5 := by have := hN_r16_5; omega
      have hne := Ne.symm hne
      have hne : w306.heap.size ≠ g_r16_5 := by have := hN_r16_5; omega
      have hne := Ne.symm hne
      have hne : w306.heap.size + 1 ≠ g_r16_5 := by have := hN_r16_5; omega
      have hne := Ne.symm hne
      refine wpQ_done (by kernel_rfl) ?_
      intro w312 hF_w312 hSG
      have hz_w312 := hSG.1.1
      have hb_w312 := hSG.1.2
      have hB_r16_5 := (hSG.2 _ (List.mem_cons_self ..)).2; simp only at hB_r16_5; have hl_r16_5 := (hSG.size (List.mem_cons_self ..)); simp only at hl_r16_5
      have c_w312_r16_5_0 := cell_of_row w312 g_r16_5 0 _ _ _ hB_r16_5; simp only [List.getElem?_toArray, List.getElem?_cons_zero] at c_w312_r16_5_0
      have c_w312_r16_5_1 := cell_of_row w312 g_r16_5 1 _ _ _ hB_r16_5; simp only [List.getElem?_toArray, List.getElem?_cons_zero, List.getElem?_cons_succ] at c_w312_r16_5_1
      have fz_w312_r16_5 : (∀ o, w312.frozen? ⟨g_r16_5, o, none⟩ = false) := (fun o => frozen_of_row w312 g_r16_5 o _ _ hB_r16_5); have HH_r16_5 := Lib.hid hB_r16_5; clear hB_r16_5
      clear hSG
      (with_reducible apply cel2 (b := w.heap.size) hb_w312); (focus ((try simp) <;> omega)); (focus omega); (iterate 2 (focus (go_simp; try exact rfl))); (focus (intro o; go_simp)); intro c_w312_0_0 c_w312_0_1 fz_w312_0 hl_w312_0; (with_reducible apply cel6 (b := w101.heap.size) hb_w312); (focus ((try simp) <;> omega)); (focus omega); (iterate 6 (focus (go_simp; try exact rfl))); (focus (intro o; go_simp)); intro c_w312_1_0 c_w312_1_1 c_w312_1_2 c_w312_1_3 c_w312_1_4 c_w312_1_5 fz_w312_1 hl_w312_1; (with_reducible apply cel2 (b := w305.heap.size) hb_w312); (focus ((try simp) <;> omega)); (focus omega); (iterate 2 (focus (go_simp; try exact rfl))); (focus (intro o; go_simp)); intro c_w312_2_0 c_w312_2_1 fz_w312_2 hl_w312_2; (with_reducible apply cel2 (b := w306.heap.size) hb_w312); (focus ((try simp) <;> omega)); (focus omega); (iterate 2 (focus (go_simp; try exact rfl))); (focus (intro o; go_simp)); intro c_w312_3_0 c_w312_3_1 fz_w312_3 hl_w312_3
      (try simp only [List.filterMap_cons, List.filterMap_nil, List.getElem?_cons_succ, List.getElem?_cons_zero])
      clear H305u
      clear H306u
      have HB312 := Lib.hid (HB309.out.trans (hb_w312.mono (by have := HB309.out.size; omega)))
      have hz312 : w.heap.size + 1 ≤ w312.heap.size := by omega
      have hn_r16_5 : w.heap.size + 1 ≤ g_r16_5 := by have := hN_r16_5; omega
      have hnb_r16_5 : w101.heap.size ≤ g_r16_5 := by have := hN_r16_5; omega
      clear hF_w312 hb_w312 HH_r16_5 hG_r16_5 hN_r16_5
      clear c_w309_0_0 c_w309_0_1 fz_w309_0 hl_w309_0 c_w309_1_0 c_w309_1_1 c_w309_1_2 c_w309_1_3 c_w309_1_4 c_w309_1_5 fz_w309_1 hl_w309_1 c_w309_2_0 c_w309_2_1 fz_w309_2 hl_w309_2 c_w309_3_0 c_w309_3_1 fz_w309_3 hl_w309_3
      go_wp2_with fail
      refine HQ_.out _ _ _ ?_
      clear HQ_ Q_
      go_wp2_with fail
      (go_at_call 63; refine (K9.out _ _ (by simp <;> omega) (by go_simp) (by go_simp)).mono ?_; rintro e w313 ⟨rfl, hb_w313⟩; have hz_w313 := hb_w313.size; (try simp at hz_w313); (with_reducible apply cel2 (b := w.heap.size) hb_w313); (focus ((try simp) <;> omega)); (focus omega); (iterate 2 (focus (go_simp; try exact rfl))); (focus (intro o; go_simp)); intro c_w313_0_0 c_w313_0_1 fz_w313_0 hl_w313_0; (with_reducible apply cel6 (b := w101.heap.size) hb_w313); (focus ((try simp) <;> omega)); (focus omega); (iterate 6 (focus (go_simp; try exact rfl))); (focus (intro o; go_simp)); intro c_w313_1_0 c_w313_1_1 c_w313_1_2 c_w313_1_3 c_w313_1_4 c_w313_1_5 fz_w313_1 hl_w313_1; (with_reducible apply cel2 (b := g_r16_5) hb_w313); (focus ((try simp) <;> omega)); (focus omega); (iterate 2 (focus (go_simp; try exact rfl))); (focus (intro o; go_simp)); intro c_w313_2_0 c_w313_2_1 fz_w313_2 hl_w313_2)
      have HB313 := Lib.hid (show Below w101.heap.size w101 w313 by have hB := HB312.out; ((with_reducible (repeat (first | exact bR _ _ | refine bS ?_ ?_ _ | refine bA ?_ ?_ _ | refine bD ?_ | refine bT ?_ (by assumption) ?_ | refine bO (by assumption) ?_ ?_))) <;> (first | omega | (simp <;> omega))))
      have hz313 : w.heap.size + 1 ≤ w313.heap.size := by omega
      clear hb_w313
      clear c_w312_r16_5_0 c_w312_r16_5_1 fz_w312_r16_5 c_w312_0_0 c_w312_0_1 fz_w312_0 hl_w312_0 c_w312_1_0 c_w312_1_1 c_w312_1_2 c_w312_1_3 c_w312_1_4 c_w312_1_5 fz_w312_1 hl_w312_1 c_w312_2_0 c_w312_2_1 fz_w312_2 hl_w312_2 c_w312_3_0 c_w312_3_1 fz_w312_3 hl_w312_3
      go_wp2_with fail
      refine bodyPost_ret (v := .tuple #[.agg #[.int .i64 x, .int .i64 y], .bool true]) (by simp only [results, Tryz.results25]; go_simp) rfl ⟨?_, ?_⟩
      · rfl
      · have hB := HB101.out; have hB2 := HB313.out; ((with_reducible (repeat (first | exact bR _ _ | refine bS ?_ ?_ _ | refine bA ?_ ?_ _ | refine bD ?_ | refine bT ?_ (by assumption) ?_ | refine bO (by assumption) ?_ ?_))) <;> (first | omega | (simp <;> omega)))
attribute [local go_sem] makeFunc_run
theorem sm1 {v1 v2 w1 w2 n1 n2 rest grip : Int} (h : permB v1 v2 w1 w2 n1 n2 = true) (hr : sixB rest = true) (hg : sixB grip = true) : SmX v1 (v1 - w1) n1 (n1 * n1 + n2 * n2) ((v1 - w1) * n1 + (v2 - w2) * n2) rest grip := by
  obtain ⟨a, b, c⟩ := perm_bd h
  obtain ⟨d, e, f⟩ := perm_prod h
  simp only [sixB, decide_eq_true_eq] at hr hg
  exact ⟨by omega, by omega, by omega, by omega, by omega, by omega, by omega⟩
theorem sm2 {v1 v2 w1 w2 n1 n2 rest grip : Int} (h : permB v1 v2 w1 w2 n1 n2 = true) (hr : sixB rest = true) (hg : sixB grip = true) : SmX v2 (v2 - w2) n2 (n1 * n1 + n2 * n2) ((v1 - w1) * n1 + (v2 - w2) * n2) rest grip := by
  obtain ⟨a, b, c⟩ := perm_bd h
  obtain ⟨d, e, f⟩ := perm_prod h
  simp only [sixB, decide_eq_true_eq] at hr hg
  exact ⟨by omega, by omega, by omega, by omega, by omega, by omega, by omega⟩
def TOut (R : Int × Int × Int) (w : World) (e : Ending) (w' : World) : Prop := ROut R.1 R.2.1 R.2.2 w e w'
set_option maxRecDepth 100000 in
set_option maxHeartbeats 8000000 in
theorem static_bad (v1 v2 w1 w2 n1 n2 rest grip : Int) (w : World) (h : ¬ (permB v1 v2 w1 w2 n1 n2 = true ∧ (sixB rest && sixB grip) = true)) :
    Calls Tryz.prog 54 #[.agg #[.int .i64 v1, .int .i64 v2], .agg #[.int .i64 w1, .int .i64 w2], .agg #[.int .i64 n1, .int .i64 n2], .int .i64 rest, .int .i64 grip] w (ROut 0 0 0 w) := by
  have k1 := fun w => permitted_any v1 v2 w1 w2 n1 n2 w
  have k2 := fun g w => sixteenths_two rest grip g w
  generalize permB v1 v2 w1 w2 n1 n2 = c1 at *
  generalize (sixB rest && sixB grip) = c2 at *
  have K1 := Lib.hid k1
  have K2 := Lib.hid k2
  have H := Lib.hid h
  clear k1 k2 h
  go_enter Tryz.func54, Tryz.ntmps54; (try simp only [List.append_eq, List.cons_append, List.nil_append])
  go_wp2_with fail
  (go_at_call 50; refine (K1.out _).mono ?_; rintro e w1 ⟨rfl, hb_w1⟩; have hz_w1 := hb_w1.size; (try simp at hz_w1); (with_reducible apply cel2 (b := w.heap.size) hb_w1); (focus ((try simp) <;> omega)); (focus omega); (iterate 2 (focus (go_simp; try exact rfl))); (focus (intro o; go_simp)); intro cc cc fz hl; (with_reducible apply cel2 (b := w.heap.size + 1) hb_w1); (focus ((try simp) <;> omega)); (focus omega); (iterate 2 (focus (go_simp; try exact rfl))); (focus (intro o; go_simp)); intro cc cc fz hl; (with_reducible apply cel2 (b := w.heap.size + 1 + 1) hb_w1); (focus ((try simp) <;> omega)); (focus omega); (iterate 2 (focus (go_simp; try exact rfl))); (focus (intro o; go_simp)); intro cc cc fz hl; (with_reducible apply cel1 (b := w.heap.size + 1 + 1 + 1) hb_w1); (focus ((try simp) <;> omega)); (focus omega); (focus (go_simp; try exact rfl)); (focus (intro o; go_simp)); intro cc fz hl; (with_reducible apply cel1 (b := w.heap.size + 1 + 1 + 1 + 1) hb_w1); (focus ((try simp) <;> omega)); (focus omega); (focus (go_simp; try exact rfl)); (focus (intro o; go_simp)); intro cc fz hl; (with_reducible apply cel6 (b := w.heap.size + 1 + 1 + 1 + 1 + 1) hb_w1); (focus ((try simp) <;> omega)); (focus omega); (iterate 6 (focus (go_simp; try exact rfl))); (focus (intro o; go_simp)); intro cc cc cc cc cc cc fz hl)
  cases c1
  · go_wp2_with fail
    refine bodyPost_ret (v := .agg #[.bool false, .slice none 0 0, .bool false, .slice none 0 0, .bool false, .slice none 0 0]) (by simp only [results, Tryz.results54]; go_simp) rfl ⟨?_, ?_⟩
    · ((with_reducible (repeat (first | exact bR _ _ | refine bS ?_ ?_ _ | refine bA ?_ ?_ _ | refine bD ?_ | refine bT ?_ (by assumption) ?_ | refine bO (by assumption) ?_ ?_))) <;> (first | omega | (simp <;> omega)))
    · exact ⟨_, rfl, RAt.zero _⟩
  · go_wp2_with fail
    (go_at_call 84; refine (K2.out _ _ (by simp) (by go_simp) (by go_simp)).mono ?_; rintro e w2 ⟨rfl, hb_w2⟩; have hz_w2 := hb_w2.size; (try simp at hz_w2); (with_reducible apply cel2 (b := w.heap.size) hb_w2); (focus ((try simp) <;> omega)); (focus omega); (iterate 2 (focus (go_simp; try exact rfl))); (focus (intro o; go_simp)); intro cc cc fz hl; (with_reducible apply cel2 (b := w.heap.size + 1) hb_w2); (focus ((try simp) <;> omega)); (focus omega); (iterate 2 (focus (go_simp; try exact rfl))); (focus (intro o; go_simp)); intro cc cc fz hl; (with_reducible apply cel2 (b := w.heap.size + 1 + 1) hb_w2); (focus ((try simp) <;> omega)); (focus omega); (iterate 2 (focus (go_simp; try exact rfl))); (focus (intro o; go_simp)); intro cc cc fz hl; (with_reducible apply cel1 (b := w.heap.size + 1 + 1 + 1) hb_w2); (focus ((try simp) <;> omega)); (focus omega); (focus (go_simp; try exact rfl)); (focus (intro o; go_simp)); intro cc fz hl; (with_reducible apply cel1 (b := w.heap.size + 1 + 1 + 1 + 1) hb_w2); (focus ((try simp) <;> omega)); (focus omega); (focus (go_simp; try exact rfl)); (focus (intro o; go_simp)); intro cc fz hl; (with_reducible apply cel6 (b := w.heap.size + 1 + 1 + 1 + 1 + 1) hb_w2); (focus ((try simp) <;> omega)); (focus omega); (iterate 6 (focus (go_simp; try exact rfl))); (focus (intro o; go_simp)); intro cc cc cc cc cc cc fz hl)
    cases c2
    · go_wp2_with fail
      refine bodyPost_ret (v := .agg #[.bool false, .slice none 0 0, .bool false, .slice none 0 0, .bool false, .slice none 0 0]) (by simp only [results, Tryz.results54]; go_simp) rfl ⟨?_, ?_⟩
      · ((with_reducible (repeat (first | exact bR _ _ | refine bS ?_ ?_ _ | refine bA ?_ ?_ _ | refine bD ?_ | refine bT ?_ (by assumption) ?_ | refine bO (by assumption) ?_ ?_))) <;> (first | omega | (simp <;> omega)))
      · exact ⟨_, rfl, RAt.zero _⟩
    · exact absurd (by simp) H.out
set_option maxRecDepth 100000 in
set_option maxHeartbeats 20000000 in
theorem static_away (v1 v2 w1 w2 n1 n2 rest grip : Int) (w : World) (h : permB v1 v2 w1 w2 n1 n2 = true) (h2 : (sixB rest && sixB grip) = true) (ha : apprB v1 v2 w1 w2 n1 n2 = false) :
    Calls Tryz.prog 54 #[.agg #[.int .i64 v1, .int .i64 v2], .agg #[.int .i64 w1, .int .i64 w2], .agg #[.int .i64 n1, .int .i64 n2], .int .i64 rest, .int .i64 grip] w (ROut v1 v2 1 w) := by
  obtain ⟨bv, _, _⟩ := perm_bd h
  have k1 := fun w => permitted_any v1 v2 w1 w2 n1 n2 w
  have k2 := fun g w => sixteenths_two rest grip g w
  have k3 := fun w => approaches_any v1 v2 w1 w2 n1 n2 w
  have k4 := fun w => whole_any v1 v2 w (by omega) (by omega)
  rw [h] at k1
  rw [h2] at k2
  rw [ha] at k3
  have K1 := Lib.hid k1
  have K2 := Lib.hid k2
  have K3 := Lib.hid k3
  have K4 := Lib.hid k4
  clear k1 k2 k3 k4 h h2 ha bv
  go_enter Tryz.func54, Tryz.ntmps54; (try simp only [List.append_eq, List.cons_append, List.nil_append])
  go_wp2_with fail
  (go_at_call 50; refine (K1.out _).mono ?_; rintro e w2 ⟨rfl, hb_w2⟩; have hz_w2 := hb_w2.size; (try simp at hz_w2); (with_reducible apply cel2 (b := w.heap.size) hb_w2); (focus ((try simp) <;> omega)); (focus omega); (iterate 2 (focus (go_simp; try exact rfl))); (focus (intro o; go_simp)); intro c_w2_0_0 c_w2_0_1 fz_w2_0 hl_w2_0; (with_reducible apply cel2 (b := w.heap.size + 1) hb_w2); (focus ((try simp) <;> omega)); (focus omega); (iterate 2 (focus (go_simp; try exact rfl))); (focus (intro o; go_simp)); intro c_w2_1_0 c_w2_1_1 fz_w2_1 hl_w2_1; (with_reducible apply cel2 (b := w.heap.size + 1 + 1) hb_w2); (focus ((try simp) <;> omega)); (focus omega); (iterate 2 (focus (go_simp; try exact rfl))); (focus (intro o; go_simp)); intro c_w2_2_0 c_w2_2_1 fz_w2_2 hl_w2_2; (with_reducible apply cel1 (b := w.heap.size + 1 + 1 + 1) hb_w2); (focus ((try simp) <;> omega)); (focus omega); (focus (go_simp; try exact rfl)); (focus (intro o; go_simp)); intro c_w2_3_0 fz_w2_3 hl_w2_3; (with_reducible apply cel1 (b := w.heap.size + 1 + 1 + 1 + 1) hb_w2); (focus ((try simp) <;> omega)); (focus omega); (focus (go_simp; try exact rfl)); (focus (intro o; go_simp)); intro c_w2_4_0 fz_w2_4 hl_w2_4; (with_reducible apply cel6 (b := w.heap.size + 1 + 1 + 1 + 1 + 1) hb_w2); (focus ((try simp) <;> omega)); (focus omega); (iterate 6 (focus (go_simp; try exact rfl))); (focus (intro o; go_simp)); intro c_w2_5_0 c_w2_5_1 c_w2_5_2 c_w2_5_3 c_w2_5_4 c_w2_5_5 fz_w2_5 hl_w2_5)
  have HB2 := Lib.hid (show Below w.heap.size w w2 by ((with_reducible (repeat (first | exact bR _ _ | refine bS ?_ ?_ _ | refine bA ?_ ?_ _ | refine bD ?_ | refine bT ?_ (by assumption) ?_ | refine bO (by assumption) ?_ ?_))) <;> (first | omega | (simp <;> omega))))
  have hz2 : w.heap.size + 1 + 1 + 1 + 1 + 1 + 1 ≤ w2.heap.size := by omega
  clear hb_w2
  skip
  go_wp2_with fail
  (go_at_call 84; refine (K2.out _ _ (by simp) (by go_simp) (by go_simp)).mono ?_; rintro e w3 ⟨rfl, hb_w3⟩; have hz_w3 := hb_w3.size; (try simp at hz_w3); (with_reducible apply cel2 (b := w.heap.size) hb_w3); (focus ((try simp) <;> omega)); (focus omega); (iterate 2 (focus (go_simp; try exact rfl))); (focus (intro o; go_simp)); intro c_w3_0_0 c_w3_0_1 fz_w3_0 hl_w3_0; (with_reducible apply cel2 (b := w.heap.size + 1) hb_w3); (focus ((try simp) <;> omega)); (focus omega); (iterate 2 (focus (go_simp; try exact rfl))); (focus (intro o; go_simp)); intro c_w3_1_0 c_w3_1_1 fz_w3_1 hl_w3_1; (with_reducible apply cel2 (b := w.heap.size + 1 + 1) hb_w3); (focus ((try simp) <;> omega)); (focus omega); (iterate 2 (focus (go_simp; try exact rfl))); (focus (intro o; go_simp)); intro c_w3_2_0 c_w3_2_1 fz_w3_2 hl_w3_2; (with_reducible apply cel6 (b := w.heap.size + 1 + 1 + 1 + 1 + 1) hb_w3); (focus ((try simp) <;> omega)); (focus omega); (iterate 6 (focus (go_simp; try exact rfl))); (focus (intro o; go_simp)); intro c_w3_3_0 c_w3_3_1 c_w3_3_2 c_w3_3_3 c_w3_3_4 c_w3_3_5 fz_w3_3 hl_w3_3)
  have HB3 := Lib.hid (show Below w.heap.size w w3 by have hB := HB2.out; ((with_reducible (repeat (first | exact bR _ _ | refine bS ?_ ?_ _ | refine bA ?_ ?_ _ | refine bD ?_ | refine bT ?_ (by assumption) ?_ | refine bO (by assumption) ?_ ?_))) <;> (first | omega | (simp <;> omega))))
  have hz3 : w.heap.size + 1 + 1 + 1 + 1 + 1 + 1 ≤ w3.heap.size := by omega
  clear hb_w3
  clear c_w2_0_0 c_w2_0_1 fz_w2_0 hl_w2_0 c_w2_1_0 c_w2_1_1 fz_w2_1 hl_w2_1 c_w2_2_0 c_w2_2_1 fz_w2_2 hl_w2_2 c_w2_3_0 fz_w2_3 hl_w2_3 c_w2_4_0 fz_w2_4 hl_w2_4 c_w2_5_0 c_w2_5_1 c_w2_5_2 c_w2_5_3 c_w2_5_4 c_w2_5_5 fz_w2_5 hl_w2_5
  go_wp2_with fail
  (go_at_call 21; refine (K3.out _).mono ?_; rintro e w4 ⟨rfl, hb_w4⟩; have hz_w4 := hb_w4.size; (try simp at hz_w4); (with_reducible apply cel2 (b := w.heap.size) hb_w4); (focus ((try simp) <;> omega)); (focus omega); (iterate 2 (focus (go_simp; try exact rfl))); (focus (intro o; go_simp)); intro c_w4_0_0 c_w4_0_1 fz_w4_0 hl_w4_0; (with_reducible apply cel6 (b := w.heap.size + 1 + 1 + 1 + 1 + 1) hb_w4); (focus ((try simp) <;> omega)); (focus omega); (iterate 6 (focus (go_simp; try exact rfl))); (focus (intro o; go_simp)); intro c_w4_1_0 c_w4_1_1 c_w4_1_2 c_w4_1_3 c_w4_1_4 c_w4_1_5 fz_w4_1 hl_w4_1)
  have HB4 := Lib.hid (show Below w.heap.size w w4 by have hB := HB3.out; ((with_reducible (repeat (first | exact bR _ _ | refine bS ?_ ?_ _ | refine bA ?_ ?_ _ | refine bD ?_ | refine bT ?_ (by assumption) ?_ | refine bO (by assumption) ?_ ?_))) <;> (first | omega | (simp <;> omega))))
  have hz4 : w.heap.size + 1 + 1 + 1 + 1 + 1 + 1 ≤ w4.heap.size := by omega
  clear hb_w4
  clear c_w3_0_0 c_w3_0_1 fz_w3_0 hl_w3_0 c_w3_1_0 c_w3_1_1 fz_w3_1 hl_w3_1 c_w3_2_0 c_w3_2_1 fz_w3_2 hl_w3_2 c_w3_3_0 c_w3_3_1 c_w3_3_2 c_w3_3_3 c_w3_3_4 c_w3_3_5 fz_w3_3 hl_w3_3
  go_wp2_with fail
  (go_at_call 85; refine (K4.out _).mono ?_; rintro e w5 ⟨hb_w5, v5, rfl, hv5⟩; have hz_w5 := hb_w5.size; (try simp at hz_w5); (with_reducible apply cel6 (b := w.heap.size + 1 + 1 + 1 + 1 + 1) hb_w5); (focus ((try simp) <;> omega)); (focus omega); (iterate 6 (focus (go_simp; try exact rfl))); (focus (intro o; go_simp)); intro c_w5_0_0 c_w5_0_1 c_w5_0_2 c_w5_0_3 c_w5_0_4 c_w5_0_5 fz_w5_0 hl_w5_0)
  obtain ⟨s5x, A5x, n5x, c5x, s5y, A5y, n5y, c5y, s5d, A5d, n5d, c5d, rfl⟩ := RAt.val hv5
  have HB5 := Lib.hid (show Below w.heap.size w w5 by have hB := HB4.out; ((with_reducible (repeat (first | exact bR _ _ | refine bS ?_ ?_ _ | refine bA ?_ ?_ _ | refine bD ?_ | refine bT ?_ (by assumption) ?_ | refine bO (by assumption) ?_ ?_))) <;> (first | omega | (simp <;> omega))))
  have hz5 : w.heap.size + 1 + 1 + 1 + 1 + 1 + 1 ≤ w5.heap.size := by omega
  clear hb_w5
  clear c_w4_0_0 c_w4_0_1 fz_w4_0 hl_w4_0 c_w4_1_0 c_w4_1_1 c_w4_1_2 c_w4_1_3 c_w4_1_4 c_w4_1_5 fz_w4_1 hl_w4_1
  have H5 := Lib.hid (show RAt w5 (.agg #[.bool s5x, .slice A5x n5x c5x, .bool s5y, .slice A5y n5y c5y, .bool s5d, .slice A5d n5d c5d]) (v1) (v2) (1) from hv5)
  clear hv5
  go_wp2_with fail
  refine bodyPost_ret (v := .agg #[.bool s5x, .slice A5x n5x c5x, .bool s5y, .slice A5y n5y c5y, .bool s5d, .slice A5d n5d c5d]) (by simp only [results, Tryz.results54]; go_simp) rfl ⟨?_, ?_⟩
  · have hB := HB5.out; ((with_reducible (repeat (first | exact bR _ _ | refine bS ?_ ?_ _ | refine bA ?_ ?_ _ | refine bD ?_ | refine bT ?_ (by assumption) ?_ | refine bO (by assumption) ?_ ?_))) <;> (first | omega | (simp <;> omega)))
  · exact ⟨_, rfl, (by ((repeat (first | (with_reducible exact H5.out) | (with_reducible refine RAt.al ?_ _) | (with_reducible apply RAt.st1))) <;> (first | (with_reducible assumption) | (intro _ e; cases e; done) | (go_simp; first | done | exact rfl))))⟩
set_option maxRecDepth 100000 in
set_option maxHeartbeats 20000000 in
theorem static_on (v1 v2 w1 w2 n1 n2 rest grip : Int) (w : World) (h : permB v1 v2 w1 w2 n1 n2 = true) (hr : sixB rest = true) (hg : sixB grip = true) (ha : apprB v1 v2 w1 w2 n1 n2 = true) :
    Calls Tryz.prog 54 #[.agg #[.int .i64 v1, .int .i64 v2], .agg #[.int .i64 w1, .int .i64 w2], .agg #[.int .i64 n1, .int .i64 n2], .int .i64 rest, .int .i64 grip] w (TOut (lowR (statX v1 (v1 - w1) n1 (n1 * n1 + n2 * n2) ((v1 - w1) * n1 + (v2 - w2) * n2) rest grip) (statX v2 (v2 - w2) n2 (n1 * n1 + n2 * n2) ((v1 - w1) * n1 + (v2 - w2) * n2) rest grip) (16 * (n1 * n1 + n2 * n2))) w) := by
  obtain ⟨bv, bw, bn⟩ := perm_bd h
  obtain ⟨e1, e2, e3⟩ := perm_vals h
  obtain ⟨⟨p1, p2⟩, p3, p4⟩ := perm_prod h
  obtain ⟨_, _, q3⟩ := appr_bd ha
  have t1 := sm1 h hr hg
  have t2 := sm2 h hr hg
  have k1 := fun w => permitted_any v1 v2 w1 w2 n1 n2 w
  have k2 := fun g w => sixteenths_two rest grip g w
  have k3 := fun w => approaches_any v1 v2 w1 w2 n1 n2 w
  have k4 := fun w => vsub_any v1 v2 w1 w2 w
  have k5 := fun w => vdot_any (v1 - w1) (v2 - w2) n1 n2 w
  have k6 := fun w => vdot_any n1 n2 n1 n2 w
  rw [h] at k1
  rw [hr, hg] at k2
  rw [ha] at k3
  rw [e1] at k4
  rw [e2] at k5
  rw [e3] at k6
  simp only [Bool.and_self] at k2
  generalize (v1 - w1) * n1 + (v2 - w2) * n2 = C at *
  generalize n1 * n1 + n2 * n2 = M at *
  have k7 := fun b1 b2 b3 b4 w g1 g2 g3 g4 => static1_any v1 (v1 - w1) n1 M C rest grip b1 b2 b3 b4 w t1 g1 g2 g3 g4
  have k8 := fun b1 b2 b3 b4 w g1 g2 g3 g4 => static1_any v2 (v2 - w2) n2 M C rest grip b1 b2 b3 b4 w t2 g1 g2 g3 g4
  have k9 := fun w => wof_any (16 * M) w (by omega) (by omega)
  have l1 := t1.len
  have l2 := t2.len
  have l3 := len_wd (z := 16 * M) (by omega) (by omega)
  generalize statX v1 (v1 - w1) n1 M C rest grip = X at *
  generalize statX v2 (v2 - w2) n2 M C rest grip = Y at *
  have k10 := fun v w hv => lowest_any X Y (16 * M) v w hv (by omega) (by omega) (by omega) (by omega)
  unfold TOut lowR
  generalize X.tdiv (lowG X Y (16 * M)) = RX at *
  generalize Y.tdiv (lowG X Y (16 * M)) = RY at *
  generalize (16 * M).tdiv (lowG X Y (16 * M)) = RD at *
  have K1 := Lib.hid k1
  have K2 := Lib.hid k2
  have K3 := Lib.hid k3
  have K4 := Lib.hid k4
  have K5 := Lib.hid k5
  have K6 := Lib.hid k6
  have K7 := Lib.hid k7
  have K8 := Lib.hid k8
  have K9 := Lib.hid k9
  have K10 := Lib.hid k10
  obtain ⟨bv1, bv2, bv3, bv4⟩ := bv
  clear k1 k2 k3 k4 k5 k6 k7 k8 k9 k10 h hr hg ha e1 e2 e3 t1 t2 l1 l2 l3
  simp only
  go_enter Tryz.func54, Tryz.ntmps54; (try simp only [List.append_eq, List.cons_append, List.nil_append])
  go_wp2_with fail
  (go_at_call 50; refine (K1.out _).mono ?_; rintro e w2 ⟨rfl, hb_w2⟩; have hz_w2 := hb_w2.size; (try simp at hz_w2); (with_reducible apply cel2 (b := w.heap.size) hb_w2); (focus ((try simp) <;> omega)); (focus omega); (iterate 2 (focus (go_simp; try exact rfl))); (focus (intro o; go_simp)); intro c_w2_0_0 c_w2_0_1 fz_w2_0 hl_w2_0; (with_reducible apply cel2 (b := w.heap.size + 1) hb_w2); (focus ((try simp) <;> omega)); (focus omega); (iterate 2 (focus (go_simp; try exact rfl))); (focus (intro o; go_simp)); intro c_w2_1_0 c_w2_1_1 fz_w2_1 hl_w2_1; (with_reducible apply cel2 (b := w.heap.size + 1 + 1) hb_w2); (focus ((try simp) <;> omega)); (focus omega); (iterate 2 (focus (go_simp; try exact rfl))); (focus (intro o; go_simp)); intro c_w2_2_0 c_w2_2_1 fz_w2_2 hl_w2_2; (with_reducible apply cel1 (b := w.heap.size + 1 + 1 + 1) hb_w2); (focus ((try simp) <;> omega)); (focus omega); (focus (go_simp; try exact rfl)); (focus (intro o; go_simp)); intro c_w2_3_0 fz_w2_3 hl_w2_3; (with_reducible apply cel1 (b := w.heap.size + 1 + 1 + 1 + 1) hb_w2); (focus ((try simp) <;> omega)); (focus omega); (focus (go_simp; try exact rfl)); (focus (intro o; go_simp)); intro c_w2_4_0 fz_w2_4 hl_w2_4; (with_reducible apply cel6 (b := w.heap.size + 1 + 1 + 1 + 1 + 1) hb_w2); (focus ((try simp) <;> omega)); (focus omega); (iterate 6 (focus (go_simp; try exact rfl))); (focus (intro o; go_simp)); intro c_w2_5_0 c_w2_5_1 c_w2_5_2 c_w2_5_3 c_w2_5_4 c_w2_5_5 fz_w2_5 hl_w2_5)
  have HB2 := Lib.hid (show Below w.heap.size w w2 by ((with_reducible (repeat (first | exact bR _ _ | refine bS ?_ ?_ _ | refine bA ?_ ?_ _ | refine bD ?_ | refine bT ?_ (by assumption) ?_ | refine bO (by assumption) ?_ ?_))) <;> (first | omega | (simp <;> omega))))
  have hz2 : w.heap.size + 1 + 1 + 1 + 1 + 1 + 1 ≤ w2.heap.size := by omega
  clear hb_w2
  skip
  go_wp2_with fail
  (go_at_call 84; refine (K2.out _ _ (by simp) (by go_simp) (by go_simp)).mono ?_; rintro e w3 ⟨rfl, hb_w3⟩; have hz_w3 := hb_w3.size; (try simp at hz_w3); (with_reducible apply cel2 (b := w.heap.size) hb_w3); (focus ((try simp) <;> omega)); (focus omega); (iterate 2 (focus (go_simp; try exact rfl))); (focus (intro o; go_simp)); intro c_w3_0_0 c_w3_0_1 fz_w3_0 hl_w3_0; (with_reducible apply cel2 (b := w.heap.size + 1) hb_w3); (focus ((try simp) <;> omega)); (focus omega); (iterate 2 (focus (go_simp; try exact rfl))); (focus (intro o; go_simp)); intro c_w3_1_0 c_w3_1_1 fz_w3_1 hl_w3_1; (with_reducible apply cel2 (b := w.heap.size + 1 + 1) hb_w3); (focus ((try simp) <;> omega)); (focus omega); (iterate 2 (focus (go_simp; try exact rfl))); (focus (intro o; go_simp)); intro c_w3_2_0 c_w3_2_1 fz_w3_2 hl_w3_2; (with_reducible apply cel1 (b := w.heap.size + 1 + 1 + 1) hb_w3); (focus ((try simp) <;> omega)); (focus omega); (focus (go_simp; try exact rfl)); (focus (intro o; go_simp)); intro c_w3_3_0 fz_w3_3 hl_w3_3; (with_reducible apply cel1 (b := w.heap.size + 1 + 1 + 1 + 1) hb_w3); (focus ((try simp) <;> omega)); (focus omega); (focus (go_simp; try exact rfl)); (focus (intro o; go_simp)); intro c_w3_4_0 fz_w3_4 hl_w3_4; (with_reducible apply cel6 (b := w.heap.size + 1 + 1 + 1 + 1 + 1) hb_w3); (focus ((try simp) <;> omega)); (focus omega); (iterate 6 (focus (go_simp; try exact rfl))); (focus (intro o; go_simp)); intro c_w3_5_0 c_w3_5_1 c_w3_5_2 c_w3_5_3 c_w3_5_4 c_w3_5_5 fz_w3_5 hl_w3_5)
  have HB3 := Lib.hid (show Below w.heap.size w w3 by have hB := HB2.out; ((with_reducible (repeat (first | exact bR _ _ | refine bS ?_ ?_ _ | refine bA ?_ ?_ _ | refine bD ?_ | refine bT ?_ (by assumption) ?_ | refine bO (by assumption) ?_ ?_))) <;> (first | omega | (simp <;> omega))))
  have hz3 : w.heap.size + 1 + 1 + 1 + 1 + 1 + 1 ≤ w3.heap.size := by omega
  clear hb_w3
  clear c_w2_0_0 c_w2_0_1 fz_w2_0 hl_w2_0 c_w2_1_0 c_w2_1_1 fz_w2_1 hl_w2_1 c_w2_2_0 c_w2_2_1 fz_w2_2 hl_w2_2 c_w2_3_0 fz_w2_3 hl_w2_3 c_w2_4_0 fz_w2_4 hl_w2_4 c_w2_5_0 c_w2_5_1 c_w2_5_2 c_w2_5_3 c_w2_5_4 c_w2_5_5 fz_w2_5 hl_w2_5
  go_wp2_with fail
  (go_at_call 21; refine (K3.out _).mono ?_; rintro e w4 ⟨rfl, hb_w4⟩; have hz_w4 := hb_w4.size; (try simp at hz_w4); (with_reducible apply cel2 (b := w.heap.size) hb_w4); (focus ((try simp) <;> omega)); (focus omega); (iterate 2 (focus (go_simp; try exact rfl))); (focus (intro o; go_simp)); intro c_w4_0_0 c_w4_0_1 fz_w4_0 hl_w4_0; (with_reducible apply cel2 (b := w.heap.size + 1) hb_w4); (focus ((try simp) <;> omega)); (focus omega); (iterate 2 (focus (go_simp; try exact rfl))); (focus (intro o; go_simp)); intro c_w4_1_0 c_w4_1_1 fz_w4_1 hl_w4_1; (with_reducible apply cel2 (b := w.heap.size + 1 + 1) hb_w4); (focus ((try simp) <;> omega)); (focus omega); (iterate 2 (focus (go_simp; try exact rfl))); (focus (intro o; go_simp)); intro c_w4_2_0 c_w4_2_1 fz_w4_2 hl_w4_2; (with_reducible apply cel1 (b := w.heap.size + 1 + 1 + 1) hb_w4); (focus ((try simp) <;> omega)); (focus omega); (focus (go_simp; try exact rfl)); (focus (intro o; go_simp)); intro c_w4_3_0 fz_w4_3 hl_w4_3; (with_reducible apply cel1 (b := w.heap.size + 1 + 1 + 1 + 1) hb_w4); (focus ((try simp) <;> omega)); (focus omega); (focus (go_simp; try exact rfl)); (focus (intro o; go_simp)); intro c_w4_4_0 fz_w4_4 hl_w4_4; (with_reducible apply cel6 (b := w.heap.size + 1 + 1 + 1 + 1 + 1) hb_w4); (focus ((try simp) <;> omega)); (focus omega); (iterate 6 (focus (go_simp; try exact rfl))); (focus (intro o; go_simp)); intro c_w4_5_0 c_w4_5_1 c_w4_5_2 c_w4_5_3 c_w4_5_4 c_w4_5_5 fz_w4_5 hl_w4_5)
  have HB4 := Lib.hid (show Below w.heap.size w w4 by have hB := HB3.out; ((with_reducible (repeat (first | exact bR _ _ | refine bS ?_ ?_ _ | refine bA ?_ ?_ _ | refine bD ?_ | refine bT ?_ (by assumption) ?_ | refine bO (by assumption) ?_ ?_))) <;> (first | omega | (simp <;> omega))))
  have hz4 : w.heap.size + 1 + 1 + 1 + 1 + 1 + 1 ≤ w4.heap.size := by omega
  clear hb_w4
  clear c_w3_0_0 c_w3_0_1 fz_w3_0 hl_w3_0 c_w3_1_0 c_w3_1_1 fz_w3_1 hl_w3_1 c_w3_2_0 c_w3_2_1 fz_w3_2 hl_w3_2 c_w3_3_0 fz_w3_3 hl_w3_3 c_w3_4_0 fz_w3_4 hl_w3_4 c_w3_5_0 c_w3_5_1 c_w3_5_2 c_w3_5_3 c_w3_5_4 c_w3_5_5 fz_w3_5 hl_w3_5
  go_wp2_with fail
  (go_at_call 52; refine (K4.out _).mono ?_; rintro e w5 ⟨rfl, hb_w5⟩; have hz_w5 := hb_w5.size; (try simp at hz_w5); (with_reducible apply cel2 (b := w.heap.size) hb_w5); (focus ((try simp) <;> omega)); (focus omega); (iterate 2 (focus (go_simp; try exact rfl))); (focus (intro o; go_simp)); intro c_w5_0_0 c_w5_0_1 fz_w5_0 hl_w5_0; (with_reducible apply cel2 (b := w.heap.size + 1 + 1) hb_w5); (focus ((try simp) <;> omega)); (focus omega); (iterate 2 (focus (go_simp; try exact rfl))); (focus (intro o; go_simp)); intro c_w5_1_0 c_w5_1_1 fz_w5_1 hl_w5_1; (with_reducible apply cel1 (b := w.heap.size + 1 + 1 + 1) hb_w5); (focus ((try simp) <;> omega)); (focus omega); (focus (go_simp; try exact rfl)); (focus (intro o; go_simp)); intro c_w5_2_0 fz_w5_2 hl_w5_2; (with_reducible apply cel1 (b := w.heap.size + 1 + 1 + 1 + 1) hb_w5); (focus ((try simp) <;> omega)); (focus omega); (focus (go_simp; try exact rfl)); (focus (intro o; go_simp)); intro c_w5_3_0 fz_w5_3 hl_w5_3; (with_reducible apply cel6 (b := w.heap.size + 1 + 1 + 1 + 1 + 1) hb_w5); (focus ((try simp) <;> omega)); (focus omega); (iterate 6 (focus (go_simp; try exact rfl))); (focus (intro o; go_simp)); intro c_w5_4_0 c_w5_4_1 c_w5_4_2 c_w5_4_3 c_w5_4_4 c_w5_4_5 fz_w5_4 hl_w5_4)
  have HB5 := Lib.hid (show Below w.heap.size w w5 by have hB := HB4.out; ((with_reducible (repeat (first | exact bR _ _ | refine bS ?_ ?_ _ | refine bA ?_ ?_ _ | refine bD ?_ | refine bT ?_ (by assumption) ?_ | refine bO (by assumption) ?_ ?_))) <;> (first | omega | (simp <;> omega))))
  have hz5 : w.heap.size + 1 + 1 + 1 + 1 + 1 + 1 ≤ w5.heap.size := by omega
  clear hb_w5
  clear c_w4_0_0 c_w4_0_1 fz_w4_0 hl_w4_0 c_w4_1_0 c_w4_1_1 fz_w4_1 hl_w4_1 c_w4_2_0 c_w4_2_1 fz_w4_2 hl_w4_2 c_w4_3_0 fz_w4_3 hl_w4_3 c_w4_4_0 fz_w4_4 hl_w4_4 c_w4_5_0 c_w4_5_1 c_w4_5_2 c_w4_5_3 c_w4_5_4 c_w4_5_5 fz_w4_5 hl_w4_5
  go_wp2_with fail
  (refine pin_wp (N := _) (Nat.le_refl _) (fun w6 hb_w6 hz_w6 => ?_); (try simp at hz_w6); (with_reducible apply cel2 (b := w.heap.size) hb_w6); (focus ((try simp) <;> omega)); (focus omega); (iterate 2 (focus (go_simp; try exact rfl))); (focus (intro o; go_simp)); intro c_w6_0_0 c_w6_0_1 fz_w6_0 hl_w6_0; (with_reducible apply cel2 (b := w.heap.size + 1 + 1) hb_w6); (focus ((try simp) <;> omega)); (focus omega); (iterate 2 (focus (go_simp; try exact rfl))); (focus (intro o; go_simp)); intro c_w6_1_0 c_w6_1_1 fz_w6_1 hl_w6_1; (with_reducible apply cel1 (b := w.heap.size + 1 + 1 + 1) hb_w6); (focus ((try simp) <;> omega)); (focus omega); (focus (go_simp; try exact rfl)); (focus (intro o; go_simp)); intro c_w6_2_0 fz_w6_2 hl_w6_2; (with_reducible apply cel1 (b := w.heap.size + 1 + 1 + 1 + 1) hb_w6); (focus ((try simp) <;> omega)); (focus omega); (focus (go_simp; try exact rfl)); (focus (intro o; go_simp)); intro c_w6_3_0 fz_w6_3 hl_w6_3; (with_reducible apply cel6 (b := w.heap.size + 1 + 1 + 1 + 1 + 1) hb_w6); (focus ((try simp) <;> omega)); (focus omega); (iterate 6 (focus (go_simp; try exact rfl))); (focus (intro o; go_simp)); intro c_w6_4_0 c_w6_4_1 c_w6_4_2 c_w6_4_3 c_w6_4_4 c_w6_4_5 fz_w6_4 hl_w6_4; (with_reducible apply cel2 (b := w5.heap.size) hb_w6); (focus ((try simp) <;> omega)); (focus omega); (iterate 2 (focus (go_simp; try exact rfl))); (focus (intro o; go_simp)); intro c_w6_5_0 c_w6_5_1 fz_w6_5 hl_w6_5); refine wp_q (fun Q_ HQ_ => ?_); refine wp_region_floatQ w6.heap.size 8 [8, 9] (Nat.le_refl _) (fun _ => True) trivial Cl.tt (by kernel_rfl) (by kernel_rfl) ?_
  have HB6 := Lib.hid (show Below w.heap.size w w6 by have hB := HB5.out; ((with_reducible (repeat (first | exact bR _ _ | refine bS ?_ ?_ _ | refine bA ?_ ?_ _ | refine bD ?_ | refine bT ?_ (by assumption) ?_ | refine bO (by assumption) ?_ ?_))) <;> (first | omega | (simp <;> omega))))
  have hz6 : w.heap.size + 1 + 1 + 1 + 1 + 1 + 1 ≤ w6.heap.size := by omega
  clear hb_w6
  clear c_w5_0_0 c_w5_0_1 fz_w5_0 hl_w5_0 c_w5_1_0 c_w5_1_1 fz_w5_1 hl_w5_1 c_w5_2_0 fz_w5_2 hl_w5_2 c_w5_3_0 fz_w5_3 hl_w5_3 c_w5_4_0 c_w5_4_1 c_w5_4_2 c_w5_4_3 c_w5_4_4 c_w5_4_5 fz_w5_4 hl_w5_4
  refine wpQI_start [0, 1] ?_; (iterate 2 (first | (apply wpQI_step (by with_reducible (refine zA ?_; (repeat (first | exact zB | refine zC ?_)))) (by kernel_rfl) (by exact rfl); (focus (intro W' hS; have hcS := hS.cells.1; have hfS := hS.cells.2; go_simp; (first | done | exact rfl | exact bB _ | (go_simp; first | done | exact rfl | exact bB _)))); intro K hK; go_simp; (try go_bits); refine hK _ ?_; clear hK K))); refine wpQI_nil ?_
  refine wpQI_start [3, 4] ?_; (iterate 2 (first | (apply wpQI_step (by with_reducible (refine zA ?_; (repeat (first | exact zB | refine zC ?_)))) (by kernel_rfl) (by exact rfl); (focus (intro W' hS; have hcS := hS.cells.1; have hfS := hS.cells.2; go_simp; (first | done | exact rfl | exact bB _ | (go_simp; first | done | exact rfl | exact bB _)))); intro K hK; go_simp; (try go_bits); refine hK _ ?_; clear hK K))); refine wpQI_nil ?_
  refine wpQI_start [2] ?_; (iterate 1 (first | (apply wpQI_step (by with_reducible (refine zA ?_; (repeat (first | exact zB | refine zC ?_)))) (by kernel_rfl) (by exact rfl); (focus (intro W' hS; have hcS := hS.cells.1; have hfS := hS.cells.2; go_simp; (first | done | exact rfl | exact ⟨rfl, Below.refl _ _⟩ | (go_at_call 51; exact (K5.out _).mono (fun _ _ h => ⟨h.1, h.2⟩)) | (go_simp; first | done | exact rfl | exact ⟨rfl, Below.refl _ _⟩)))); intro K hK; go_simp; (try go_bits); refine hK _ ?_; clear hK K))); refine wpQI_nil ?_
  refine wpQI_start [5] ?_; (iterate 1 (first | (apply wpQI_step (by with_reducible (refine zA ?_; (repeat (first | exact zB | refine zC ?_)))) (by kernel_rfl) (by exact rfl); (focus (intro W' hS; have hcS := hS.cells.1; have hfS := hS.cells.2; go_simp; (first | done | exact rfl | exact ⟨rfl, Below.refl _ _⟩ | (go_at_call 51; exact (K6.out _).mono (fun _ _ h => ⟨h.1, h.2⟩)) | (go_simp; first | done | exact rfl | exact ⟨rfl, Below.refl _ _⟩)))); intro K hK; go_simp; (try go_bits); refine hK _ ?_; clear hK K))); refine wpQI_nil ?_
  apply wpQ_fresh (i := 6) LInv.std (by with_reducible (refine zA ?_; (repeat (first | exact zB | refine zC ?_)))) (by kernel_rfl) (fun g => Value.pointer (some ⟨g, 0, none⟩)) (by exact rfl); (focus (intro W; go_simp; first | done | exact rfl | exact ⟨rfl, rfl⟩))
  intro g_r6_6 hN_r6_6 hG_r6_6 K hK
  go_simp; refine hK _ ?_; clear hK K
  apply wpQ_fresh (i := 7) LInv.std (by with_reducible (refine zA ?_; (repeat (first | exact zB | refine zC ?_)))) (by kernel_rfl) (fun g => Value.pointer (some ⟨g, 0, none⟩)) (by exact rfl); (focus (intro W; go_simp; first | done | exact rfl | exact ⟨rfl, rfl⟩))
  intro g_r6_7 hN_r6_7 hG_r6_7 K hK
  go_simp; refine hK _ ?_; clear hK K
  have hne_r6_6_r6_7 : g_r6_6 ≠ g_r6_7 := hG_r6_7 _ (List.mem_cons_self ..)
  have hne_r6_7_r6_6 : g_r6_7 ≠ g_r6_6 := Ne.symm hne_r6_6_r6_7
  have hne : w.heap.size ≠ g_r6_6 := by have := hN_r6_6; omega
  have hne := Ne.symm hne
  have hne : w.heap.size ≠ g_r6_7 := by have := hN_r6_7; omega
  have hne := Ne.symm hne
  have hne : w.heap.size + 1 ≠ g_r6_6 := by have := hN_r6_6; omega
  have hne := Ne.symm hne
  have hne : w.heap.size + 1 ≠ g_r6_7 := by have := hN_r6_7; omega
  have hne := Ne.symm hne
  have hne : w.heap.size + 1 + 1 ≠ g_r6_6 := by have := hN_r6_6; omega
  have hne := Ne.symm hne
  have hne : w.heap.size + 1 + 1 ≠ g_r6_7 := by have := hN_r6_7; omega
  have hne := Ne.symm hne
  have hne : w.heap.size + 1 + 1 + 1 ≠ g_r6_6 := by have := hN_r6_6; omega
  have hne := Ne.symm hne
  have hne : w.heap.size + 1 + 1 + 1 ≠ g_r6_7 := by have := hN_r6_7; omega
  have hne := Ne.symm hne
  have hne : w.heap.size + 1 + 1 + 1 + 1 ≠ g_r6_6 := by have := hN_r6_6; omega
  have hne := Ne.symm hne
  have hne : w.heap.size + 1 + 1 + 1 + 1 ≠ g_r6_7 := by have := hN_r6_7; omega
  have hne := Ne.symm hne
  have hne : w.heap.size + 1 + 1 + 1 + 1 + 1 ≠ g_r6_6 := by have := hN_r6_6; omega
  have hne := Ne.symm hne
  have hne : w.heap.size + 1 + 1 + 1 + 1 + 1 ≠ g_r6_7 := by have := hN_r6_7; omega
  have hne := Ne.symm hne
  have hne : w5.heap.size ≠ g_r6_6 := by have := hN_r6_6; omega
  have hne := Ne.symm hne
  have hne : w5.heap.size ≠ g_r6_7 := by have := hN_r6_7; omega
  have hne := Ne.symm hne
  refine wpQ_done (by kernel_rfl) ?_
  intro w7 hF_w7 hSG
  have hz_w7 := hSG.1.1
  have hb_w7 := hSG.1.2
  have hB_r6_7 := (hSG.2 _ (List.mem_cons_self ..)).2; simp only at hB_r6_7; have hl_r6_7 := (hSG.size (List.mem_cons_self ..)); simp only at hl_r6_7
  have c_w7_r6_7_0 := cell_of_row w7 g_r6_7 0 _ _ _ hB_r6_7; simp only [List.getElem?_toArray, List.getElem?_cons_zero] at c_w7_r6_7_0
  have fz_w7_r6_7 : (∀ o, w7.frozen? ⟨g_r6_7, o, none⟩ = false) := (fun o => frozen_of_row w7 g_r6_7 o _ _ hB_r6_7); have HH_r6_7 := Lib.hid hB_r6_7; clear hB_r6_7
  have hB_r6_6 := (hSG.2 _ (List.mem_cons_of_mem _ (List.mem_cons_self ..))).2; simp only at hB_r6_6; have hl_r6_6 := (hSG.size (List.mem_cons_of_mem _ (List.mem_cons_self ..))); simp only at hl_r6_6
  have c_w7_r6_6_0 := cell_of_row w7 g_r6_6 0 _ _ _ hB_r6_6; simp only [List.getElem?_toArray, List.getElem?_cons_zero] at c_w7_r6_6_0
  have fz_w7_r6_6 : (∀ o, w7.frozen? ⟨g_r6_6, o, none⟩ = false) := (fun o => frozen_of_row w7 g_r6_6 o _ _ hB_r6_6); have HH_r6_6 := Lib.hid hB_r6_6; clear hB_r6_6
  clear hSG
  (with_reducible apply cel2 (b := w.heap.size) hb_w7); (focus ((try simp) <;> omega)); (focus omega); (iterate 2 (focus (go_simp; try exact rfl))); (focus (intro o; go_simp)); intro c_w7_0_0 c_w7_0_1 fz_w7_0 hl_w7_0; (with_reducible apply cel2 (b := w.heap.size + 1 + 1) hb_w7); (focus ((try simp) <;> omega)); (focus omega); (iterate 2 (focus (go_simp; try exact rfl))); (focus (intro o; go_simp)); intro c_w7_1_0 c_w7_1_1 fz_w7_1 hl_w7_1; (with_reducible apply cel1 (b := w.heap.size + 1 + 1 + 1) hb_w7); (focus ((try simp) <;> omega)); (focus omega); (focus (go_simp; try exact rfl)); (focus (intro o; go_simp)); intro c_w7_2_0 fz_w7_2 hl_w7_2; (with_reducible apply cel1 (b := w.heap.size + 1 + 1 + 1 + 1) hb_w7); (focus ((try simp) <;> omega)); (focus omega); (focus (go_simp; try exact rfl)); (focus (intro o; go_simp)); intro c_w7_3_0 fz_w7_3 hl_w7_3; (with_reducible apply cel6 (b := w.heap.size + 1 + 1 + 1 + 1 + 1) hb_w7); (focus ((try simp) <;> omega)); (focus omega); (iterate 6 (focus (go_simp; try exact rfl))); (focus (intro o; go_simp)); intro c_w7_4_0 c_w7_4_1 c_w7_4_2 c_w7_4_3 c_w7_4_4 c_w7_4_5 fz_w7_4 hl_w7_4; (with_reducible apply cel2 (b := w5.heap.size) hb_w7); (focus ((try simp) <;> omega)); (focus omega); (iterate 2 (focus (go_simp; try exact rfl))); (focus (intro o; go_simp)); intro c_w7_5_0 c_w7_5_1 fz_w7_5 hl_w7_5
  (try simp only [List.filterMap_cons, List.filterMap_nil, List.getElem?_cons_succ, List.getElem?_cons_zero])
  have HB7 := Lib.hid (HB6.out.trans (hb_w7.mono (by have := HB6.out.size; omega)))
  have hz7 : w.heap.size + 1 + 1 + 1 + 1 + 1 + 1 ≤ w7.heap.size := by omega
  have hn_r6_6 : w.heap.size + 1 + 1 + 1 + 1 + 1 + 1 ≤ g_r6_6 := by have := hN_r6_6; omega
  have hn_r6_7 : w.heap.size + 1 + 1 + 1 + 1 + 1 + 1 ≤ g_r6_7 := by have := hN_r6_7; omega
  clear hF_w7 hb_w7 HH_r6_6 hG_r6_6 hN_r6_6 HH_r6_7 hG_r6_7 hN_r6_7
  clear c_w6_0_0 c_w6_0_1 fz_w6_0 hl_w6_0 c_w6_1_0 c_w6_1_1 fz_w6_1 hl_w6_1 c_w6_2_0 fz_w6_2 hl_w6_2 c_w6_3_0 fz_w6_3 hl_w6_3 c_w6_4_0 c_w6_4_1 c_w6_4_2 c_w6_4_3 c_w6_4_4 c_w6_4_5 fz_w6_4 hl_w6_4 c_w6_5_0 c_w6_5_1 fz_w6_5 hl_w6_5
  go_wp2_with fail
  refine HQ_.out _ _ _ ?_
  clear HQ_ Q_
  go_wp2_with fail
  (refine pin_wp (N := _) (Nat.le_refl _) (fun w8 hb_w8 hz_w8 => ?_); (try simp at hz_w8); (with_reducible apply cel2 (b := w.heap.size) hb_w8); (focus ((try simp) <;> omega)); (focus omega); (iterate 2 (focus (go_simp; try exact rfl))); (focus (intro o; go_simp)); intro c_w8_0_0 c_w8_0_1 fz_w8_0 hl_w8_0; (with_reducible apply cel2 (b := w.heap.size + 1 + 1) hb_w8); (focus ((try simp) <;> omega)); (focus omega); (iterate 2 (focus (go_simp; try exact rfl))); (focus (intro o; go_simp)); intro c_w8_1_0 c_w8_1_1 fz_w8_1 hl_w8_1; (with_reducible apply cel1 (b := w.heap.size + 1 + 1 + 1) hb_w8); (focus ((try simp) <;> omega)); (focus omega); (focus (go_simp; try exact rfl)); (focus (intro o; go_simp)); intro c_w8_2_0 fz_w8_2 hl_w8_2; (with_reducible apply cel1 (b := w.heap.size + 1 + 1 + 1 + 1) hb_w8); (focus ((try simp) <;> omega)); (focus omega); (focus (go_simp; try exact rfl)); (focus (intro o; go_simp)); intro c_w8_3_0 fz_w8_3 hl_w8_3; (with_reducible apply cel6 (b := w.heap.size + 1 + 1 + 1 + 1 + 1) hb_w8); (focus ((try simp) <;> omega)); (focus omega); (iterate 6 (focus (go_simp; try exact rfl))); (focus (intro o; go_simp)); intro c_w8_4_0 c_w8_4_1 c_w8_4_2 c_w8_4_3 c_w8_4_4 c_w8_4_5 fz_w8_4 hl_w8_4; (with_reducible apply cel2 (b := w5.heap.size) hb_w8); (focus ((try simp) <;> omega)); (focus omega); (iterate 2 (focus (go_simp; try exact rfl))); (focus (intro o; go_simp)); intro c_w8_5_0 c_w8_5_1 fz_w8_5 hl_w8_5; (with_reducible apply cel1 (b := g_r6_6) hb_w8); (focus ((try simp) <;> omega)); (focus omega); (focus (go_simp; try exact rfl)); (focus (intro o; go_simp)); intro c_w8_6_0 fz_w8_6 hl_w8_6; (with_reducible apply cel1 (b := g_r6_7) hb_w8); (focus ((try simp) <;> omega)); (focus omega); (focus (go_simp; try exact rfl)); (focus (intro o; go_simp)); intro c_w8_7_0 fz_w8_7 hl_w8_7); refine wp_q (fun Q_ HQ_ => ?_); refine wp_region_floatQ w8.heap.size 21 [21] (Nat.le_refl _) (fun _ => True) trivial Cl.tt (by kernel_rfl) (by kernel_rfl) ?_
  have HB8 := Lib.hid (show Below w.heap.size w w8 by have hB := HB7.out; ((with_reducible (repeat (first | exact bR _ _ | refine bS ?_ ?_ _ | refine bA ?_ ?_ _ | refine bD ?_ | refine bT ?_ (by assumption) ?_ | refine bO (by assumption) ?_ ?_))) <;> (first | omega | (simp <;> omega))))
  have hz8 : w.heap.size + 1 + 1 + 1 + 1 + 1 + 1 ≤ w8.heap.size := by omega
  clear hb_w8
  clear c_w7_r6_7_0 fz_w7_r6_7 c_w7_r6_6_0 fz_w7_r6_6 c_w7_0_0 c_w7_0_1 fz_w7_0 hl_w7_0 c_w7_1_0 c_w7_1_1 fz_w7_1 hl_w7_1 c_w7_2_0 fz_w7_2 hl_w7_2 c_w7_3_0 fz_w7_3 hl_w7_3 c_w7_4_0 c_w7_4_1 c_w7_4_2 c_w7_4_3 c_w7_4_4 c_w7_4_5 fz_w7_4 hl_w7_4 c_w7_5_0 c_w7_5_1 fz_w7_5 hl_w7_5
  refine wpQI_start [0, 1, 2, 3, 4, 5, 6] ?_; (iterate 7 (first | (apply wpQI_step (by with_reducible (refine zA ?_; (repeat (first | exact zB | refine zC ?_)))) (by kernel_rfl) (by exact rfl); (focus (intro W' hS; have hcS := hS.cells.1; have hfS := hS.cells.2; go_simp; (first | done | exact rfl | exact bB _ | (go_simp; first | done | exact rfl | exact bB _)))); intro K hK; go_simp; (try go_bits); refine hK _ ?_; clear hK K))); refine wpQI_nil ?_
  refine wpQI_start [8, 9, 10, 11, 12, 13, 14] ?_; (iterate 7 (first | (apply wpQI_step (by with_reducible (refine zA ?_; (repeat (first | exact zB | refine zC ?_)))) (by kernel_rfl) (by exact rfl); (focus (intro W' hS; have hcS := hS.cells.1; have hfS := hS.cells.2; go_simp; (first | done | exact rfl | exact bB _ | (go_simp; first | done | exact rfl | exact bB _)))); intro K hK; go_simp; (try go_bits); refine hK _ ?_; clear hK K))); refine wpQI_nil ?_
  refine wpQI_start [16, 17] ?_; (iterate 2 (first | (apply wpQI_step (by with_reducible (refine zA ?_; (repeat (first | exact zB | refine zC ?_)))) (by kernel_rfl) (by exact rfl); (focus (intro W' hS; have hcS := hS.cells.1; have hfS := hS.cells.2; go_simp; (first | done | exact rfl | exact bB _ | (go_simp; first | done | exact rfl | exact bB _)))); intro K hK; go_simp; (try go_bits); refine hK _ ?_; clear hK K))); refine wpQI_nil ?_
  apply wpQ_call (i := 7) (by with_reducible (refine zA ?_; (repeat (first | exact zB | refine zC ?_)))) (by kernel_rfl) (by exact rfl); intro W hF hS; have hcS := hS.1.cells.1; have hfS := hS.1.cells.2; go_simp; (go_at_call 87; refine (K7.out _ _ _ _ _ (by go_simp) (by go_simp) (by go_simp) (by go_simp)).mono ?_; rintro e w9 ⟨hb_w9, v9, rfl, hv9⟩; refine XPost.mk _ (fun W => IsC W v9 (X)) hb_w9 (hv9) (IsC.cl _ _) ?_); clear hb_w9 hcS hfS hS hF
  intro K hK; go_simp; (try go_bits); refine hK _ ?_; clear hK K
  obtain ⟨s9, A9, n9, c9, rfl⟩ := IsC.val hv9
  clear hv9
  apply wpQ_call (i := 15) (by with_reducible (refine zA ?_; (repeat (first | exact zB | refine zC ?_)))) (by kernel_rfl) (by exact rfl); intro W hF hS; have hcS := hS.1.cells.1; have hfS := hS.1.cells.2; go_simp; (go_at_call 87; refine (K8.out _ _ _ _ _ (by go_simp) (by go_simp) (by go_simp) (by go_simp)).mono ?_; rintro e w10 ⟨hb_w10, v10, rfl, hv10⟩; refine XPost.mk _ (fun W => IsC W v10 (Y)) hb_w10 (hv10) (IsC.cl _ _) ?_); clear hb_w10 hcS hfS hS hF
  intro K hK; go_simp; (try go_bits); refine hK _ ?_; clear hK K
  obtain ⟨s10, A10, n10, c10, rfl⟩ := IsC.val hv10
  clear hv10
  apply wpQ_call (i := 18) (by with_reducible (refine zA ?_; (repeat (first | exact zB | refine zC ?_)))) (by kernel_rfl) (by exact rfl); intro W hF hS; have hcS := hS.1.cells.1; have hfS := hS.1.cells.2; go_simp; (go_at_call 57; refine (K9.out _).mono ?_; rintro e w11 ⟨hb_w11, v11, rfl, hv11⟩; refine XPost.mk _ (fun W => IsC W v11 ((16 * M))) hb_w11 (hv11) (IsC.cl _ _) ?_); clear hb_w11 hcS hfS hS hF
  intro K hK; go_simp; (try go_bits); refine hK _ ?_; clear hK K
  obtain ⟨s11, A11, n11, c11, rfl⟩ := IsC.val hv11
  clear hv11
  refine wpQI_start [19] ?_; (iterate 1 (first | (apply wpQI_step (by with_reducible (refine zA ?_; (repeat (first | exact zB | refine zC ?_)))) (by kernel_rfl) (by exact rfl); (focus (intro W' hS; have hcS := hS.cells.1; have hfS := hS.cells.2; go_simp; (first | done | exact rfl | exact bB _ | (go_simp; first | done | exact rfl | exact bB _)))); intro K hK; go_simp; (try go_bits); refine hK _ ?_; clear hK K))); refine wpQI_nil ?_
  apply wpQ_call (i := 20) (by with_reducible (refine zA ?_; (repeat (first | exact zB | refine zC ?_)))) (by kernel_rfl) (by exact rfl); intro W hF hS; have hcS := hS.1.cells.1; have hfS := hS.1.cells.2; go_simp; (go_at_call 59; refine (K10.out _ _ (⟨_, _, _, _, _, _, _, _, _, _, _, _, rfl, hF.1.1, hF.1.2, hF.2⟩)).mono ?_; rintro e w12 ⟨hb_w12, v12, rfl, hv12⟩; refine XPost.mk _ (fun W => RAt W v12 (RX) (RY) (RD)) hb_w12 (hv12) (RAt.cl _ _ _ _) ?_); clear hb_w12 hcS hfS hS hF
  intro K hK; go_simp; (try go_bits); refine hK _ ?_; clear hK K
  obtain ⟨s12x, A12x, n12x, c12x, s12y, A12y, n12y, c12y, s12d, A12d, n12d, c12d, rfl⟩ := RAt.val hv12
  clear hv12
  refine wpQ_done (by kernel_rfl) ?_
  intro w13 hF_w13 hSG
  have hz_w13 := hSG.1.1
  have hb_w13 := hSG.1.2
  clear hSG
  (with_reducible apply cel2 (b := w.heap.size) hb_w13); (focus ((try simp) <;> omega)); (focus omega); (iterate 2 (focus (go_simp; try exact rfl))); (focus (intro o; go_simp)); intro c_w13_0_0 c_w13_0_1 fz_w13_0 hl_w13_0; (with_reducible apply cel2 (b := w.heap.size + 1 + 1) hb_w13); (focus ((try simp) <;> omega)); (focus omega); (iterate 2 (focus (go_simp; try exact rfl))); (focus (intro o; go_simp)); intro c_w13_1_0 c_w13_1_1 fz_w13_1 hl_w13_1; (with_reducible apply cel1 (b := w.heap.size + 1 + 1 + 1) hb_w13); (focus ((try simp) <;> omega)); (focus omega); (focus (go_simp; try exact rfl)); (focus (intro o; go_simp)); intro c_w13_2_0 fz_w13_2 hl_w13_2; (with_reducible apply cel1 (b := w.heap.size + 1 + 1 + 1 + 1) hb_w13); (focus ((try simp) <;> omega)); (focus omega); (focus (go_simp; try exact rfl)); (focus (intro o; go_simp)); intro c_w13_3_0 fz_w13_3 hl_w13_3; (with_reducible apply cel6 (b := w.heap.size + 1 + 1 + 1 + 1 + 1) hb_w13); (focus ((try simp) <;> omega)); (focus omega); (iterate 6 (focus (go_simp; try exact rfl))); (focus (intro o; go_simp)); intro c_w13_4_0 c_w13_4_1 c_w13_4_2 c_w13_4_3 c_w13_4_4 c_w13_4_5 fz_w13_4 hl_w13_4; (with_reducible apply cel2 (b := w5.heap.size) hb_w13); (focus ((try simp) <;> omega)); (focus omega); (iterate 2 (focus (go_simp; try exact rfl))); (focus (intro o; go_simp)); intro c_w13_5_0 c_w13_5_1 fz_w13_5 hl_w13_5; (with_reducible apply cel1 (b := g_r6_6) hb_w13); (focus ((try simp) <;> omega)); (focus omega); (focus (go_simp; try exact rfl)); (focus (intro o; go_simp)); intro c_w13_6_0 fz_w13_6 hl_w13_6; (with_reducible apply cel1 (b := g_r6_7) hb_w13); (focus ((try simp) <;> omega)); (focus omega); (focus (go_simp; try exact rfl)); (focus (intro o; go_simp)); intro c_w13_7_0 fz_w13_7 hl_w13_7
  (try simp only [List.filterMap_cons, List.filterMap_nil, List.getElem?_cons_succ, List.getElem?_cons_zero])
  have H9 := Lib.hid (show IsC w13 (.agg #[.bool s9, .slice A9 n9 c9]) (X) from hF_w13.1.1.1)
  have H10 := Lib.hid (show IsC w13 (.agg #[.bool s10, .slice A10 n10 c10]) (Y) from hF_w13.1.1.2)
  have H11 := Lib.hid (show IsC w13 (.agg #[.bool s11, .slice A11 n11 c11]) ((16 * M)) from hF_w13.1.2)
  have H12 := Lib.hid (show RAt w13 (.agg #[.bool s12x, .slice A12x n12x c12x, .bool s12y, .slice A12y n12y c12y, .bool s12d, .slice A12d n12d c12d]) (RX) (RY) (RD) from hF_w13.2)
  have HB13 := Lib.hid (HB8.out.trans (hb_w13.mono (by have := HB8.out.size; omega)))
  have hz13 : w.heap.size + 1 + 1 + 1 + 1 + 1 + 1 ≤ w13.heap.size := by omega
  clear hF_w13 hb_w13
  clear c_w8_0_0 c_w8_0_1 fz_w8_0 hl_w8_0 c_w8_1_0 c_w8_1_1 fz_w8_1 hl_w8_1 c_w8_2_0 fz_w8_2 hl_w8_2 c_w8_3_0 fz_w8_3 hl_w8_3 c_w8_4_0 c_w8_4_1 c_w8_4_2 c_w8_4_3 c_w8_4_4 c_w8_4_5 fz_w8_4 hl_w8_4 c_w8_5_0 c_w8_5_1 fz_w8_5 hl_w8_5 c_w8_6_0 fz_w8_6 hl_w8_6 c_w8_7_0 fz_w8_7 hl_w8_7
  go_wp2_with fail
  refine HQ_.out _ _ _ ?_
  clear HQ_ Q_
  go_wp2_with fail
  refine bodyPost_ret (v := .agg #[.bool s12x, .slice A12x n12x c12x, .bool s12y, .slice A12y n12y c12y, .bool s12d, .slice A12d n12d c12d]) (by simp only [results, Tryz.results54]; go_simp) rfl ⟨?_, ?_⟩
  · have hB := HB13.out; ((with_reducible (repeat (first | exact bR _ _ | refine bS ?_ ?_ _ | refine bA ?_ ?_ _ | refine bD ?_ | refine bT ?_ (by assumption) ?_ | refine bO (by assumption) ?_ ?_))) <;> (first | omega | (simp <;> omega)))
  · exact ⟨_, rfl, (by ((repeat (first | (with_reducible exact H12.out) | (with_reducible refine RAt.al ?_ _) | (with_reducible apply RAt.st1))) <;> (first | (with_reducible assumption) | (intro _ e; cases e; done) | (go_simp; first | done | exact rfl))))⟩
end Go.Proofs.YtgejdaincnclpaaGreat
