/- Merged texts: ClF ClO ClP ClB ClL ClV (what no proof of the claim needs is left out). -/
import Derived.Test.YtgejdaincnclpaaGreatCh6
namespace Go.Proofs.YtgejdaincnclpaaGreat
open Go Go.RowKit
set_option linter.unusedVariables false
set_option maxRecDepth 100000 in
set_option maxHeartbeats 2000000 in
theorem rbits_any (n : Nat) (v : Value) (z : Int) (w : World) (h : IsZ w v n z) (hn : n ≤ 400000) :
  Calls Tryz.prog 78 #[v] w fun e w' => e = .returned (.int .i64 (bitN z.natAbs)) ∧ Below w.heap.size w w' := by
 obtain ⟨p, A, c, l, rfl, hc, hL, hl, hAt, ea, ma, ca⟩ := isZ_open h
 have hma := fun w' (h : Below w.heap.size w w') => mag_any A l c w' hL (hAt.below h) hc (by omega)
 rw [ma] at hma
 obtain ⟨x, hx⟩ : ∃ x, x = z.natAbs := ⟨_, rfl⟩
 rw [← hx] at hma ca ⊢
 obtain ⟨ln, hln⟩ : ∃ q, q = l.length := ⟨_, rfl⟩
 rw [← hln] at hma ⊢
 have HMA := hQ0 hma
 clear hma hAt ea ma h hx hc hL hl hln
 have HC := hQ0 ca
 go_enter Tryz.func78, Tryz.ntmps78; (try simp only [List.append_eq, List.cons_append, List.nil_append])
 go_wp2_with fail
 (go_at_call 70; refine (HMA.out _ (by ((with_reducible (repeat (first | exact bR _ _ | apply bS | apply bA | apply bD | refine bT ?_ (by assumption) ?_ | refine bO (by assumption) ?_ ?_))) <;> (first | omega | (simp <;> omega))))).mono ?_; rintro e w1 ⟨hb_w1, A1, c1, rfl, hc1, hA1⟩; have hz_w1 := hb_w1.size; (try simp at hz_w1); (with_reducible apply cal2 (b := w.heap.size) hb_w1); (focus (go_simp; try exact ⟨rfl, rfl⟩)); intro cc cc fz hl)
 have HB1 := hQ0 (show Below w.heap.size w w1 by ((with_reducible (repeat (first | exact bR _ _ | apply bS | apply bA | apply bD | refine bT ?_ (by assumption) ?_ | refine bO (by assumption) ?_ ?_))) <;> (first | omega | (simp <;> omega))))
 clear hb_w1
 by_cases h0 : x = 0
 · subst h0
   clear hA1 HC ca
   rw [canN_zero]
   simp only [List.length_nil]
   go_wp2_with fail
   go_ret
   exact ⟨rfl, HB1.out⟩
 · have hl0 : (canN x).length ≠ 0 := fun e => h0 (canN_len0.1 e)
   obtain ⟨m, hm⟩ : ∃ m, (canN x).length = m + 1 := ⟨(canN x).length - 1, by omega⟩
   obtain ⟨t, ht⟩ : ∃ t, (canN x)[m]? = some t := ⟨(canN x)[m], by simp⟩
   have hbt := bitN_limbs hm ht
   obtain ⟨t0, t1⟩ := (canN_lim x).get ht
   obtain ⟨g, o, rfl, hg, hcell⟩ := hA1 m t ht
   rw [hm]
   obtain ⟨tn, rfl⟩ : ∃ tn : Nat, t = tn := ⟨t.toNat, by omega⟩
   rw [Int.toNat_natCast] at hbt
   have HBT := hQ0 hbt
   have hm1 : (m : Int) + 1 ≤ 400000 := by omega
   have HT := hQ0 (show tn < 4294967296 from by omega)
   have t2 : (tn : Int) < 4294967296 := t1
   obtain ⟨xi, hxi⟩ : ∃ xi : Int, xi = (tn : Int) := ⟨_, rfl⟩
   rw [← hxi] at hcell t2
   have HXI := hQ0 hxi
   have x00 : 0 ≤ xi := by omega
   have c10 : (m : Int) + 1 ≤ (c1 : Int) := by omega
   have e0 : (((m + 1 : Nat) : Int) == 0) = false := by rw [beq_eq_false_iff_ne]; omega
   have e1 : (((m : Int) + 1) == 0) = false := by rw [beq_eq_false_iff_ne]; omega
   clear ca hbt ht hl0 h0 hA1 HC hc1 t0 t1 hxi hm
   go_wp2_with fail
   go_loop [4, 5] (fun vn vx => ∃ (n' : Nat) (x : Int), vn = .int .i64 n' ∧ vx = .int .u32 x ∧ 0 ≤ x ∧ x < 4294967296 ∧ n' ≤ 13000000 ∧ Hid (n' + Lib.bitLen x.toNat = 32 * m + Lib.bitLen tn)) (fun _ vx => (intOf vx).toNat)
   case atStart =>
    refine ⟨32 * m, xi, by go_num, rfl, x00, t2, by omega, hQ0 ?_⟩
    rw [show xi.toNat = tn by have := HXI.out; omega]
   case round =>
    obtain ⟨n', x, rfl, rfl, x0, x1, hn', HI⟩ := hrel
    have n0 : (0 : Int) ≤ (n' : Int) := by omega
    have n1 : (n' : Int) ≤ 13000000 := by omega
    by_cases hx : 0 < x
    · have hlen : Lib.bitLen x.toNat ≤ 32 := Lib.bitLen_le _ 32 (by decide) (by omega)
      have hhf := Lib.bitLen_half x.toNat (by omega) (by omega)
      have HST := hQ0 (show (n' + 1) + Lib.bitLen (x / 2).toNat = 32 * m + Lib.bitLen tn by
       have h1 := HI.out
       rw [hhf] at h1
       rw [show (x / 2).toNat = x.toNat / 2 by omega]
       omega)
      have hB : Lib.bitLen tn ≤ 32 := Lib.bitLen_le _ 32 (by decide) (by have := HT.out; omega)
      have hnn : n' + 1 ≤ 13000000 := by have := HST.out; omega
      clear hlen hhf hB
      go_wp2_with fail
      go_round
      case rel => exact ⟨n' + 1, x / 2, by go_num, by go_num, by omega, by omega, hnn, HST⟩
      case measure => simp [intOf]; omega
    · have hx0 : x = 0 := by omega
      have HF := hQ0 (show n' = 32 * m + Lib.bitLen tn by
       have h1 := HI.out
       rw [hx0] at h1
       have : Lib.bitLen (0 : Int).toNat = 0 := rfl
       omega)
      clear hx0
      go_wp2_with fail
      go_ret
      refine ⟨?_, HB1.out⟩
      rw [HF.out, HBT.out]
      rfl
set_option maxHeartbeats 400000 in
theorem rnear_any2 (x y n : Int) (w : World) (h0 : 0 ≤ n) (h1 : n ≤ 2000000000) :
  Calls Tryz.prog 48 #[.agg #[.int .i64 x, .int .i64 y], .int .i64 n] w fun e w' => e = .returned (.bool (withinB x y n)) ∧ Below w.heap.size w w' := by
 go_enter Tryz.func48, Tryz.ntmps48; (try simp only [List.append_eq, List.cons_append, List.nil_append])
 go_wp2
 all_goals
  go_ret
  refine ⟨ret_bool (bool_iff ?_), (Below.refl _ _).alloc (Nat.le_refl _) _⟩
  simp only [withinB, decide_eq_true_eq, Bool.false_eq_true, false_iff]; omega
theorem bits_len {z : Int} (h : (canN z.natAbs).length ≤ 32) : bitN z.natAbs ≤ 1024 := by
 rcases hl : (canN z.natAbs).length with _ | m
 · rw [canN_len0.1 hl]; decide
 · obtain ⟨t, ht⟩ : ∃ t, (canN z.natAbs)[m]? = some t := ⟨(canN z.natAbs)[m], by simp⟩
   rw [bitN_limbs hl ht]
   obtain ⟨t0, t1⟩ := (canN_lim z.natAbs).get ht
   have : Lib.bitLen t.toNat ≤ 32 := Lib.bitLen_le _ 32 (by decide) (by omega)
   omega
structure UOk (k : Nat) (S : Int × Int × Int) (X Y D : Int) : Prop where
  d : 0 < D
  lx : (canN X.natAbs).length ≤ 33 * k + 1
  ly : (canN Y.natAbs).length ≤ 33 * k + 1
  ld : (canN D.natAbs).length ≤ 33 * k + 1
  s : 0 < S.2.2
  g : ∃ G : Int, 0 < G ∧ X = G * S.1 ∧ Y = G * S.2.1 ∧ D = G * S.2.2
theorem UOk.zero : UOk 0 (0, 0, 1) 0 0 1 := ⟨by decide, SumOk.zero.lx, SumOk.zero.ly, SumOk.zero.ld, by decide, 1, by decide, rfl, rfl, rfl⟩
theorem UOk.step {k : Nat} {S : Int × Int × Int} {X Y D x y d : Int} (h : UOk k S X Y D) (hr : Val (x, y, d)) : UOk (k + 1) (sumR S (x, y, d)) (X * d + x * D) (Y * d + y * D) (D * d) := by
 obtain ⟨hd, lx, ly, ld, hs, G, hG, e1, e2, e3⟩ := h
 obtain ⟨d2, lx2, ly2, ld2⟩ := hr
 simp only at d2 lx2 ly2 ld2
 have a := len_add (a := 33 * k + 1 + 32) (len_mul lx ld2) (len_up (len_mul lx2 ld) (by omega))
 have b := len_add (a := 33 * k + 1 + 32) (len_mul ly ld2) (len_up (len_mul ly2 ld) (by omega))
 have c := len_mul ld ld2
 unfold sumR
 obtain ⟨H, hH, f1, f2, f3, hd'⟩ := lowR_mul (S.1 * d + x * S.2.2) (S.2.1 * d + y * S.2.2) (S.2.2 * d) (Int.mul_pos hs d2)
 simp only
 generalize lowR (S.1 * d + x * S.2.2) (S.2.1 * d + y * S.2.2) (S.2.2 * d) = L at *
 refine ⟨Int.mul_pos hd d2, len_up a (by omega), len_up b (by omega), len_up c (by omega), hd', G * H, Int.mul_pos hG hH, ?_, ?_, ?_⟩
 · rw [Int.mul_assoc, ← f1, e1, e3]; grind
 · rw [Int.mul_assoc, ← f2, e2, e3]; grind
 · rw [Int.mul_assoc, ← f3, e3]; grind
theorem UOk.mean {k : Nat} {S : Int × Int × Int} {X Y D n : Int} (h : UOk k S X Y D) : X.tdiv (D * n) = S.1.tdiv (S.2.2 * n) ∧ Y.tdiv (D * n) = S.2.1.tdiv (S.2.2 * n) := by
 obtain ⟨_, _, _, _, _, G, hG, e1, e2, e3⟩ := h
 rw [e1, e2, e3, Int.mul_assoc]
 exact ⟨Int.mul_tdiv_mul_of_pos _ _ hG, Int.mul_tdiv_mul_of_pos _ _ hG⟩
set_option maxRecDepth 100000 in
set_option maxHeartbeats 20000000 in
theorem fit_yes (x y d : Int) (v : Value) (w : World) (hu : RAt w v x y d) (hv : Val (x, y, d)) :
  Calls Tryz.prog 45 #[v] w fun e w' => e = .returned (.bool true) ∧ Below w.heap.size w w' := by
 have h0 := hu
 obtain ⟨spx, Apx, npx, cpx, spy, Apy, npy, cpy, spd, Apd, npd, cpd, rfl⟩ := hu.val
 obtain ⟨hd, lx, ly, ld⟩ := hv
 simp only at hd lx ly ld
 have hs : sgn d = 1 := by unfold sgn; rw [if_neg (by omega), if_neg (by omega)]
 have k1 := fun v w h => sign_any 32 v d w h (by omega)
 rw [hs] at k1
 obtain ⟨p, hp⟩ : ∃ p : Int, p = (bitN x.natAbs : Int) := ⟨_, rfl⟩
 obtain ⟨q, hq⟩ : ∃ q : Int, q = (bitN y.natAbs : Int) := ⟨_, rfl⟩
 obtain ⟨r, hr⟩ : ∃ r : Int, r = (bitN d.natAbs : Int) := ⟨_, rfl⟩
 have k2 := fun v w h => rbits_any 32 v x w h (by omega)
 have k3 := fun v w h => rbits_any 32 v y w h (by omega)
 have k4 := fun v w h => rbits_any 32 v d w h (by omega)
 rw [← hp] at k2
 rw [← hq] at k3
 rw [← hr] at k4
 have p2 : p ≤ 1024 := by have := bits_len lx; omega
 have q2 : q ≤ 1024 := by have := bits_len ly; omega
 have r2 : r ≤ 1024 := by have := bits_len ld; omega
 have K1 := hQ0 k1
 have K2 := hQ0 k2
 have K3 := hQ0 k3
 have K4 := hQ0 k4
 have H0 := hQ0 h0
 have LX := hQ0 lx
 have LY := hQ0 ly
 have LD := hQ0 ld
 clear k1 k2 k3 k4 h0 hu lx ly ld hd hs hp hq hr
 go_enter Tryz.func45, Tryz.ntmps45; (try simp only [List.append_eq, List.cons_append, List.nil_append])
 go_wp2_with fail
 (go_at_call 77; refine (K1.out _ _ ((RAt.pd (show RAt _ (.agg #[.bool spx, .slice Apx npx cpx, .bool spy, .slice Apy npy cpy, .bool spd, .slice Apd npd cpd]) (x) (y) (d) by ((with_reducible (repeat (first | exact H0.out | refine RAt.al ?_ _ | apply RAt.st1))) <;> (first | (with_reducible assumption) | (intro _ e; cases e; done) | (go_simp; first | done | exact rfl))))).zl LD.out)).mono ?_; rintro e w4 ⟨rfl, hb_w4⟩; have hz_w4 := hb_w4.size; (try simp at hz_w4); (with_reducible apply cal6 (b := w.heap.size) hb_w4); (focus (go_simp; try exact ⟨rfl, rfl, rfl, rfl, rfl, rfl⟩)); intro aP aI aC aB aT aU aV aX)
 replace H0 := hQ0 (RAt.below (v := .agg #[.bool spx, .slice Apx npx cpx, .bool spy, .slice Apy npy cpy, .bool spd, .slice Apd npd cpd]) (x := x) (y := y) (d := d) (by ((with_reducible (repeat (first | exact H0.out | refine RAt.al ?_ _ | apply RAt.st1))) <;> (first | (with_reducible assumption) | (intro _ e; cases e; done) | (go_simp; first | done | exact rfl)))) hb_w4)
 have HB4 := hQ0 (show Below w.heap.size w w4 by ((with_reducible (repeat (first | exact bR _ _ | apply bS | apply bA | apply bD | refine bT ?_ (by assumption) ?_ | refine bO (by assumption) ?_ ?_))) <;> (first | omega | (simp <;> omega))))
 have hz4 : w.heap.size + 1 ≤ w4.heap.size := by omega
 clear hb_w4
 skip
 go_wp2_with fail
 (go_at_call 78; refine (K2.out _ _ ((RAt.px (show RAt _ (.agg #[.bool spx, .slice Apx npx cpx, .bool spy, .slice Apy npy cpy, .bool spd, .slice Apd npd cpd]) (x) (y) (d) by ((with_reducible (repeat (first | exact H0.out | refine RAt.al ?_ _ | apply RAt.st1))) <;> (first | (with_reducible assumption) | (intro _ e; cases e; done) | (go_simp; first | done | exact rfl))))).zl LX.out)).mono ?_; rintro e w5 ⟨rfl, hb_w5⟩; have hz_w5 := hb_w5.size; (try simp at hz_w5); (with_reducible apply cal6 (b := w.heap.size) hb_w5); (focus (go_simp; try exact ⟨rfl, rfl, rfl, rfl, rfl, rfl⟩)); intro aA aW aF aL aO aR aN aQ)
 replace H0 := hQ0 (RAt.below (v := .agg #[.bool spx, .slice Apx npx cpx, .bool spy, .slice Apy npy cpy, .bool spd, .slice Apd npd cpd]) (x := x) (y := y) (d := d) (by ((with_reducible (repeat (first | exact H0.out | refine RAt.al ?_ _ | apply RAt.st1))) <;> (first | (with_reducible assumption) | (intro _ e; cases e; done) | (go_simp; first | done | exact rfl)))) hb_w5)
 have HB5 := hQ0 (show Below w.heap.size w w5 by have hB := HB4.out; ((with_reducible (repeat (first | exact bR _ _ | apply bS | apply bA | apply bD | refine bT ?_ (by assumption) ?_ | refine bO (by assumption) ?_ ?_))) <;> (first | omega | (simp <;> omega))))
 have hz5 : w.heap.size + 1 ≤ w5.heap.size := by omega
 clear hb_w5
 clear aP aI aC aB aT aU aV aX
 go_wp2_with fail
 (go_at_call 78; refine (K3.out _ _ ((RAt.py (show RAt _ (.agg #[.bool spx, .slice Apx npx cpx, .bool spy, .slice Apy npy cpy, .bool spd, .slice Apd npd cpd]) (x) (y) (d) by ((with_reducible (repeat (first | exact H0.out | refine RAt.al ?_ _ | apply RAt.st1))) <;> (first | (with_reducible assumption) | (intro _ e; cases e; done) | (go_simp; first | done | exact rfl))))).zl LY.out)).mono ?_; rintro e w6 ⟨rfl, hb_w6⟩; have hz_w6 := hb_w6.size; (try simp at hz_w6); (with_reducible apply cal6 (b := w.heap.size) hb_w6); (focus (go_simp; try exact ⟨rfl, rfl, rfl, rfl, rfl, rfl⟩)); intro aM aD aS aJ aE aG aK aH)
 replace H0 := hQ0 (RAt.below (v := .agg #[.bool spx, .slice Apx npx cpx, .bool spy, .slice Apy npy cpy, .bool spd, .slice Apd npd cpd]) (x := x) (y := y) (d := d) (by ((with_reducible (repeat (first | exact H0.out | refine RAt.al ?_ _ | apply RAt.st1))) <;> (first | (with_reducible assumption) | (intro _ e; cases e; done) | (go_simp; first | done | exact rfl)))) hb_w6)
 have HB6 := hQ0 (show Below w.heap.size w w6 by have hB := HB5.out; ((with_reducible (repeat (first | exact bR _ _ | apply bS | apply bA | apply bD | refine bT ?_ (by assumption) ?_ | refine bO (by assumption) ?_ ?_))) <;> (first | omega | (simp <;> omega))))
 have hz6 : w.heap.size + 1 ≤ w6.heap.size := by omega
 clear hb_w6
 clear aA aW aF aL aO aR aN aQ
 go_wp2_with fail
 (go_at_call 78; refine (K4.out _ _ ((RAt.pd (show RAt _ (.agg #[.bool spx, .slice Apx npx cpx, .bool spy, .slice Apy npy cpy, .bool spd, .slice Apd npd cpd]) (x) (y) (d) by ((with_reducible (repeat (first | exact H0.out | refine RAt.al ?_ _ | apply RAt.st1))) <;> (first | (with_reducible assumption) | (intro _ e; cases e; done) | (go_simp; first | done | exact rfl))))).zl LD.out)).mono ?_; rintro e w7 ⟨rfl, hb_w7⟩; have hz_w7 := hb_w7.size; (try simp at hz_w7); skip)
 clear H0
 have HB7 := hQ0 (show Below w.heap.size w w7 by have hB := HB6.out; ((with_reducible (repeat (first | exact bR _ _ | apply bS | apply bA | apply bD | refine bT ?_ (by assumption) ?_ | refine bO (by assumption) ?_ ?_))) <;> (first | omega | (simp <;> omega))))
 have hz7 : w.heap.size + 1 ≤ w7.heap.size := by omega
 clear hb_w7
 clear aM aD aS aJ aE aG aK aH
 go_wp2_with fail
 refine bodyPost_ret (v := .bool true) (by simp only [results, Tryz.results45]; go_simp) rfl ⟨?_, ?_⟩
 · rfl
 · have hB := HB7.out; ((with_reducible (repeat (first | exact bR _ _ | apply bS | apply bA | apply bD | refine bT ?_ (by assumption) ?_ | refine bO (by assumption) ?_ ?_))) <;> (first | omega | (simp <;> omega)))
set_option maxRecDepth 100000 in
set_option maxHeartbeats 20000000 in
theorem rmean_ok (l : List (Int × Int × Int)) (A : Option Addr) (c : Nat) (w : World) (hl1 : 1 ≤ l.length) (hl : l.length ≤ 16) (hV : RsAt w A l) (hok : ∀ r ∈ l, Val r) (hm : withinB (meanR l).1 (meanR l).2 1073741824 = true) :
  Calls Tryz.prog 17 #[.slice A l.length c] w fun e w' => e = .returned (.tuple #[.agg #[.int .i64 (meanR l).1, .int .i64 (meanR l).2], .bool true]) ∧ Below w.heap.size w w' := by
 have HV := hQ0 hV
 have HO := hQ0 hok
 obtain ⟨U, hU⟩ : ∃ U : Int, U = 1 := ⟨_, rfl⟩
 have ko2 := fun w => ((by have := of_any 1 w (by omega) (by omega); rw [hU]; exact this) : Calls Tryz.prog 44 #[.int .i64 1] w (ZOut U w))
 have KO := hQ0 ko2
 have HU := hQ0 hU
 obtain ⟨x, hm1⟩ : ∃ x, x = (meanR l).1 := ⟨_, rfl⟩
 obtain ⟨y, hm2⟩ : ∃ y, y = (meanR l).2 := ⟨_, rfl⟩
 rw [← hm1, ← hm2] at hm ⊢
 have HM := hQ0 hm
 have HM1 := hQ0 hm1
 have HM2 := hQ0 hm2
 have n1 : ((l.length : Int) == 0) = false := by rw [beq_eq_false_iff_ne]; omega
 have n2 : (l.length : Int) ≤ 16 := by omega
 clear hV hok ko2 hU hm hm1 hm2
 go_enter Tryz.func17, Tryz.ntmps17; (try simp only [List.append_eq, List.cons_append, List.nil_append])
 go_wp2_with fail
 (go_at_call 44; refine (KO.out _).mono ?_; rintro e w101 ⟨hb_w101, v1, rfl, hv1⟩; have hz_w101 := hb_w101.size; (try simp at hz_w101); (with_reducible apply cal2 (b := w.heap.size) hb_w101); (focus (go_simp; try exact ⟨rfl, rfl⟩)); intro gF gM kC bY)
 obtain ⟨s1, A1, n1', c1, rfl⟩ := IsC.val hv1
 have HI1 := hQ0 hv1
 have HB101 := hQ0 (show Below w.heap.size w w101 by ((with_reducible (repeat (first | exact bR _ _ | apply bS | apply bA | apply bD | refine bT ?_ (by assumption) ?_ | refine bO (by assumption) ?_ ?_))) <;> (first | omega | (simp <;> omega))))
 have hz101 : w.heap.size + 1 ≤ w101.heap.size := by omega
 clear hb_w101 hv1
 go_wp2_with fail
 go_loopw [7] (fun vi wr => ∃ (k : Nat) (X Y D : Int) (sX : Bool) (AX : Option Addr) (nX cX : Nat) (sY : Bool) (AY : Option Addr) (nY cY : Nat) (sD : Bool) (AD : Option Addr) (nD cD : Nat),
   k ≤ l.length ∧ vi = .int .i64 k ∧ Below w101.heap.size w101 wr ∧ wr.cell? ⟨w101.heap.size, 0, none⟩ = some (.bool sX) ∧ wr.cell? ⟨w101.heap.size, 1, none⟩ = some (.slice AX nX cX) ∧ (∀ o, wr.frozen? ⟨w101.heap.size, o, none⟩ = false) ∧ wr.cell? ⟨w101.heap.size + 1, 0, none⟩ = some (.bool sY) ∧ wr.cell? ⟨w101.heap.size + 1, 1, none⟩ = some (.slice AY nY cY) ∧ (∀ o, wr.frozen? ⟨w101.heap.size + 1, o, none⟩ = false) ∧ wr.cell? ⟨w101.heap.size + 1 + 1, 0, none⟩ = some (.bool sD) ∧ wr.cell? ⟨w101.heap.size + 1 + 1, 1, none⟩ = some (.slice AD nD cD) ∧ (∀ o, wr.frozen? ⟨w101.heap.size + 1 + 1, o, none⟩ = false) ∧ w101.heap.size + 3 ≤ wr.heap.size ∧
   IsC wr (.agg #[.bool sX, .slice AX nX cX]) X ∧ IsC wr (.agg #[.bool sY, .slice AY nY cY]) Y ∧ IsC wr (.agg #[.bool sD, .slice AD nD cD]) D ∧ Hid (UOk k (meanS (l.take k)) X Y D)) (fun vi _ => l.length - (intOf vi).toNat)
 case atStart =>
  have hu : U = 1 := HU.out
  have h1 := HI1.out
  rw [hu] at h1
  exact ⟨0, 0, 0, 1, false, none, 0, 0, false, none, 0, 0, s1, A1, n1', c1, by omega, rfl, by ((with_reducible (repeat (first | exact bR _ _ | apply bS | apply bA | apply bD | refine bT ?_ (by assumption) ?_ | refine bO (by assumption) ?_ ?_))) <;> (first | omega | (simp <;> omega))), by go_simp, by go_simp, by intro o; go_simp, by go_simp, by go_simp, by intro o; go_simp, by go_simp, by go_simp, by intro o; go_simp, by (try simp) <;> omega, isC_zero _, isC_zero _, h1.below (by ((with_reducible (repeat (first | exact bR _ _ | apply bS | apply bA | apply bD | refine bT ?_ (by assumption) ?_ | refine bO (by assumption) ?_ ?_))) <;> (first | omega | (simp <;> omega)))), hQ0 UOk.zero⟩
 case round =>
  obtain ⟨k, X, Y, D, sX, AX, nX, cX, sY, AY, nY, cY, sD, AD, nD, cD, hk, rfl, hb_wr, cx0, cx1, cxf, cy0, cy1, cyf, cd0, cd1, cdf, hzS, hX, hY, hD, HN⟩ := hrel
  have HX := hQ0 hX
  have HY := hQ0 hY
  have HD := hQ0 hD
  have HBR := hQ0 hb_wr
  have hz_wr := hb_wr.size
  have hlS : w101.heap.size < wr.heap.size ∧ w101.heap.size + 1 < wr.heap.size ∧ w101.heap.size + 1 + 1 < wr.heap.size ∧ w101.heap.size < wr.heap.size + 1 ∧ w101.heap.size + 1 < wr.heap.size + 1 ∧ w101.heap.size + 1 + 1 < wr.heap.size + 1 := by omega
  have hzR : w.heap.size + 1 ≤ wr.heap.size := by omega
  (with_reducible apply cel2 (b := w.heap.size) hb_wr); ((try simp) <;> omega); omega; (iterate 2 (focus (go_simp; try exact rfl))); (intro o; go_simp); intro c_wr_0_0 c_wr_0_1 fz_wr_0 hl_wr_0
  clear hb_wr hX hY hD
  clear gF gM kC bY
  have i1 : (0 : Int) ≤ (k : Int) := by omega
  obtain ⟨hsd, hsx, hsy, hsl, _, _⟩ := HN.out
  have hk16 : 33 * k + 1 ≤ 600 := by omega
  have LX := hQ0 (len_up hsx hk16)
  have LY := hQ0 (len_up hsy hk16)
  have LD := hQ0 (len_up hsl hk16)
  by_cases hlt : k < l.length
  · obtain ⟨⟨x, y, d⟩, hx⟩ : ∃ x, l[k]? = some x := ⟨l[k], by simp⟩
    obtain ⟨g, o, rfl, hg, sEx, AEx, nEx, cEx, sEy, AEy, nEy, cEy, sEd, AEd, nEd, cEd, e0, e1, e2, e3, e4, e5, hE⟩ := HV.out k _ hx
    have HBW := hQ0 (HB101.out.trans (HBR.out.mono (by have := HB101.out.size; omega)))
    have C0 := hQ0 e0
    have C1 := hQ0 e1
    have C2 := hQ0 e2
    have C3 := hQ0 e3
    have C4 := hQ0 e4
    have C5 := hQ0 e5
    replace e0 := (HBW.out.cell (p := ⟨g, o + k * 6, none⟩) hg).trans C0.out
    replace e1 := (HBW.out.cell (p := ⟨g, o + k * 6 + 1, none⟩) hg).trans C1.out
    replace e2 := (HBW.out.cell (p := ⟨g, o + k * 6 + 2, none⟩) hg).trans C2.out
    replace e3 := (HBW.out.cell (p := ⟨g, o + k * 6 + 3, none⟩) hg).trans C3.out
    replace e4 := (HBW.out.cell (p := ⟨g, o + k * 6 + 4, none⟩) hg).trans C4.out
    replace e5 := (HBW.out.cell (p := ⟨g, o + k * 6 + 5, none⟩) hg).trans C5.out
    have hgr : g < wr.heap.size := by have := HBW.out.size; omega
    have hval := HO.out _ (List.mem_of_getElem? hx)
    have hN2 : UOk (k + 1) (meanS (l.take (k + 1))) (X * d + x * D) (Y * d + y * D) (D * d) := by rw [meanS_take hx]; exact HN.out.step hval
    have HE := hQ0 (hE.below HBW.out)
    simp only at hE
    have i2 : (k : Int) < (l.length : Int) := by omega
    have kv := fun v w h => fit_yes x y d v w h hval
    obtain ⟨hd, hlx, hly, hld⟩ := hval
    simp only at hd hlx hly hld
    have Lx := hQ0 (len_up hlx (show 32 ≤ 600 by omega))
    have Ly := hQ0 (len_up hly (show 32 ≤ 600 by omega))
    have Ld := hQ0 (len_up hld (show 32 ≤ 600 by omega))
    have l1 := len_mul LX.out Ld.out
    have l2 := len_mul Lx.out LD.out
    have l4 := len_mul LY.out Ld.out
    have l5 := len_mul Ly.out LD.out
    have k1 := fun u v w h1 h2 => times_any 600 u v X d w h1 h2 (by omega)
    have k2 := fun u v w h1 h2 => times_any 600 u v x D w h1 h2 (by omega)
    have k3 := fun u v w h1 h2 => plus_any (600 + 600) u v (X * d) (x * D) w h1 h2 (by omega)
    have k4 := fun u v w h1 h2 => times_any 600 u v Y d w h1 h2 (by omega)
    have k5 := fun u v w h1 h2 => times_any 600 u v y D w h1 h2 (by omega)
    have k6 := fun u v w h1 h2 => plus_any (600 + 600) u v (Y * d) (y * D) w h1 h2 (by omega)
    have k7 := fun u v w h1 h2 => times_any 600 u v D d w h1 h2 (by omega)
    generalize X * d = P1 at *
    generalize x * D = P2 at *
    generalize Y * d = Q1 at *
    generalize y * D = Q2 at *
    generalize P1 + P2 = P at *
    generalize Q1 + Q2 = Q at *
    generalize D * d = E1 at *
    have HN2 := hQ0 hN2
    have KF := hQ0 kv
    have K1 := hQ0 k1
    have K2 := hQ0 k2
    have K3 := hQ0 k3
    have K4 := hQ0 k4
    have K5 := hQ0 k5
    have K6 := hQ0 k6
    have K7 := hQ0 k7
    have L1 := hQ0 l1
    have L2 := hQ0 l2
    have L4 := hQ0 l4
    have L5 := hQ0 l5
    clear kv k1 k2 k3 k4 k5 k6 k7 l1 l2 l4 l5 hN2 hE hx hsd hsx hsy hsl hd hlx hly hld
    go_wp2_with fail
    (go_at_call 45; refine (KF.out _ _ ((show RAt _ (.agg #[.bool sEx, .slice AEx nEx cEx, .bool sEy, .slice AEy nEy cEy, .bool sEd, .slice AEd nEd cEd]) (x) (y) (d) by ((with_reducible (repeat (first | exact HE.out | refine RAt.al ?_ _ | apply RAt.st1))) <;> (first | (with_reducible assumption) | (intro _ e; cases e; done) | (go_simp; first | done | exact rfl)))))).mono ?_; rintro e w201 ⟨rfl, hb_w201⟩; have hz_w201 := hb_w201.size; (try simp at hz_w201); (with_reducible apply cal2 (b := w.heap.size) hb_w201); (focus (go_simp; try exact ⟨rfl, rfl⟩)); intro aO gU bX gQ; (with_reducible apply cal2 (b := w101.heap.size) hb_w201); (focus (go_simp; try exact ⟨rfl, rfl⟩)); intro dH jI bU aE; (with_reducible apply cal2 (b := w101.heap.size + 1) hb_w201); (focus (go_simp; try exact ⟨rfl, rfl⟩)); intro dC gV iA eC; (with_reducible apply cal2 (b := w101.heap.size + 1 + 1) hb_w201); (focus (go_simp; try exact ⟨rfl, rfl⟩)); intro iN jX iD aW)
    replace HX := hQ0 (IsC.below (v := .agg #[.bool sX, .slice AX nX cX]) (z := X) (by ((with_reducible (repeat (first | exact HX.out | refine IsC.al ?_ _ | apply IsC.st1))) <;> (first | (with_reducible assumption) | (intro _ e; cases e; done) | (go_simp; first | done | exact rfl)))) hb_w201)
    replace HY := hQ0 (IsC.below (v := .agg #[.bool sY, .slice AY nY cY]) (z := Y) (by ((with_reducible (repeat (first | exact HY.out | refine IsC.al ?_ _ | apply IsC.st1))) <;> (first | (with_reducible assumption) | (intro _ e; cases e; done) | (go_simp; first | done | exact rfl)))) hb_w201)
    replace HD := hQ0 (IsC.below (v := .agg #[.bool sD, .slice AD nD cD]) (z := D) (by ((with_reducible (repeat (first | exact HD.out | refine IsC.al ?_ _ | apply IsC.st1))) <;> (first | (with_reducible assumption) | (intro _ e; cases e; done) | (go_simp; first | done | exact rfl)))) hb_w201)
    replace HE := hQ0 (RAt.below (v := .agg #[.bool sEx, .slice AEx nEx cEx, .bool sEy, .slice AEy nEy cEy, .bool sEd, .slice AEd nEd cEd]) (x := x) (y := y) (d := d) (by ((with_reducible (repeat (first | exact HE.out | refine RAt.al ?_ _ | apply RAt.st1))) <;> (first | (with_reducible assumption) | (intro _ e; cases e; done) | (go_simp; first | done | exact rfl)))) hb_w201)
    have HB201 := hQ0 (show Below w101.heap.size w101 w201 by have hB := HBR.out; ((with_reducible (repeat (first | exact bR _ _ | apply bS | apply bA | apply bD | refine bT ?_ (by assumption) ?_ | refine bO (by assumption) ?_ ?_))) <;> (first | omega | (simp <;> omega))))
    have hz201 : w.heap.size + 1 ≤ w201.heap.size := by omega
    clear hb_w201
    skip
    have HBW := hQ0 (HB101.out.trans (HB201.out.mono (by have := HB101.out.size; omega)))
    replace e0 := (HBW.out.cell (p := ⟨g, o + k * 6, none⟩) hg).trans C0.out
    replace e1 := (HBW.out.cell (p := ⟨g, o + k * 6 + 1, none⟩) hg).trans C1.out
    replace e2 := (HBW.out.cell (p := ⟨g, o + k * 6 + 2, none⟩) hg).trans C2.out
    replace e3 := (HBW.out.cell (p := ⟨g, o + k * 6 + 3, none⟩) hg).trans C3.out
    replace e4 := (HBW.out.cell (p := ⟨g, o + k * 6 + 4, none⟩) hg).trans C4.out
    replace e5 := (HBW.out.cell (p := ⟨g, o + k * 6 + 5, none⟩) hg).trans C5.out
    have hgw : g < w201.heap.size := by have := HBW.out.size; omega
    go_wp2_with fail
    (refine pin_wp (N := _) (Nat.le_refl _) (fun w202 hb_w202 hz_w202 => ?_); (try simp at hz_w202); (with_reducible apply cal2 (b := w.heap.size) hb_w202); (focus (go_simp; try exact ⟨rfl, rfl⟩)); intro jL eF iJ dN; (with_reducible apply cal2 (b := w101.heap.size) hb_w202); (focus (go_simp; try exact ⟨rfl, rfl⟩)); intro aB bF jN fH; (with_reducible apply cal2 (b := w101.heap.size + 1) hb_w202); (focus (go_simp; try exact ⟨rfl, rfl⟩)); intro aI bW eN fQ; (with_reducible apply cal2 (b := w101.heap.size + 1 + 1) hb_w202); (focus (go_simp; try exact ⟨rfl, rfl⟩)); intro jJ jW fU aX); refine wp_q (fun Q_ HQ_ => ?_); refine wp_region_floatQ w202.heap.size 15 [15] (Nat.le_refl _) (fun _ => True) trivial Cl.tt (by kernel_rfl) (by kernel_rfl) ?_
    replace HX := hQ0 (IsC.below (v := .agg #[.bool sX, .slice AX nX cX]) (z := X) (by ((with_reducible (repeat (first | exact HX.out | refine IsC.al ?_ _ | apply IsC.st1))) <;> (first | (with_reducible assumption) | (intro _ e; cases e; done) | (go_simp; first | done | exact rfl)))) hb_w202)
    replace HY := hQ0 (IsC.below (v := .agg #[.bool sY, .slice AY nY cY]) (z := Y) (by ((with_reducible (repeat (first | exact HY.out | refine IsC.al ?_ _ | apply IsC.st1))) <;> (first | (with_reducible assumption) | (intro _ e; cases e; done) | (go_simp; first | done | exact rfl)))) hb_w202)
    replace HD := hQ0 (IsC.below (v := .agg #[.bool sD, .slice AD nD cD]) (z := D) (by ((with_reducible (repeat (first | exact HD.out | refine IsC.al ?_ _ | apply IsC.st1))) <;> (first | (with_reducible assumption) | (intro _ e; cases e; done) | (go_simp; first | done | exact rfl)))) hb_w202)
    replace HE := hQ0 (RAt.below (v := .agg #[.bool sEx, .slice AEx nEx cEx, .bool sEy, .slice AEy nEy cEy, .bool sEd, .slice AEd nEd cEd]) (x := x) (y := y) (d := d) (by ((with_reducible (repeat (first | exact HE.out | refine RAt.al ?_ _ | apply RAt.st1))) <;> (first | (with_reducible assumption) | (intro _ e; cases e; done) | (go_simp; first | done | exact rfl)))) hb_w202)
    have HB202 := hQ0 (show Below w101.heap.size w101 w202 by have hB := HB201.out; ((with_reducible (repeat (first | exact bR _ _ | apply bS | apply bA | apply bD | refine bT ?_ (by assumption) ?_ | refine bO (by assumption) ?_ ?_))) <;> (first | omega | (simp <;> omega))))
    have hz202 : w.heap.size + 1 ≤ w202.heap.size := by omega
    clear hb_w202
    clear aO gU bX gQ dH jI bU aE dC gV iA eC iN jX iD aW
    have HBW := hQ0 (HB101.out.trans (HB202.out.mono (by have := HB101.out.size; omega)))
    replace e0 := (HBW.out.cell (p := ⟨g, o + k * 6, none⟩) hg).trans C0.out
    replace e1 := (HBW.out.cell (p := ⟨g, o + k * 6 + 1, none⟩) hg).trans C1.out
    replace e2 := (HBW.out.cell (p := ⟨g, o + k * 6 + 2, none⟩) hg).trans C2.out
    replace e3 := (HBW.out.cell (p := ⟨g, o + k * 6 + 3, none⟩) hg).trans C3.out
    replace e4 := (HBW.out.cell (p := ⟨g, o + k * 6 + 4, none⟩) hg).trans C4.out
    replace e5 := (HBW.out.cell (p := ⟨g, o + k * 6 + 5, none⟩) hg).trans C5.out
    have hgw : g < w202.heap.size := by have := HBW.out.size; omega
    refine wpQI_start [0, 1, 2, 3, 4, 5] ?_; (iterate 6 (first | (apply wpQI_step (zA rfl) (by kernel_rfl) (by exact rfl); (focus (intro W' hS; have hcS := hS.cells; go_simp; (iterate 2 (first | done | exact rfl | exact bB _ | go_simp)))); intro K hK; go_simp; (try go_bits); refine hK _ ?_; clear hK K))); refine wpQI_nil ?_
    refine wpQI_start [7, 8, 9, 10, 11, 12] ?_; (iterate 6 (first | (apply wpQI_step (zA rfl) (by kernel_rfl) (by exact rfl); (focus (intro W' hS; have hcS := hS.cells; go_simp; (iterate 2 (first | done | exact rfl | exact bB _ | go_simp)))); intro K hK; go_simp; (try go_bits); refine hK _ ?_; clear hK K))); refine wpQI_nil ?_
    apply wpQ_call (i := 6) (zA rfl) (by kernel_rfl) (by exact rfl); intro W hF hS; have hcS := hS.1.cells; go_simp; (go_at_call 40; refine (K1.out _ _ _ ((HX.out.below hS.1.2).zl LX.out) ((RAt.pd (HE.out.below hS.1.2)).zl Ld.out)).mono ?_; rintro e w203 ⟨hb_w203, v203, rfl, hv203⟩; refine XPost.mk _ (fun W => IsC W v203 (P1)) hb_w203 (hv203) (IsC.cl _ _) ?_); clear hb_w203 hcS hS hF
    intro K hK; go_simp; (try go_bits); refine hK _ ?_; clear hK K
    obtain ⟨s203, A203, n203, c203, rfl⟩ := IsC.val hv203
    clear hv203
    apply wpQ_call (i := 13) (zA rfl) (by kernel_rfl) (by exact rfl); intro W hF hS; have hcS := hS.1.cells; go_simp; (go_at_call 40; refine (K2.out _ _ _ ((RAt.px (HE.out.below hS.1.2)).zl Lx.out) ((HD.out.below hS.1.2).zl LD.out)).mono ?_; rintro e w204 ⟨hb_w204, v204, rfl, hv204⟩; refine XPost.mk _ (fun W => IsC W v204 (P2)) hb_w204 (hv204) (IsC.cl _ _) ?_); clear hb_w204 hcS hS hF
    intro K hK; go_simp; (try go_bits); refine hK _ ?_; clear hK K
    obtain ⟨s204, A204, n204, c204, rfl⟩ := IsC.val hv204
    clear hv204
    apply wpQ_call (i := 14) (zA rfl) (by kernel_rfl) (by exact rfl); intro W hF hS; have hcS := hS.1.cells; go_simp; (go_at_call 39; refine (K3.out _ _ _ (hF.1.zl L1.out) (hF.2.zl L2.out)).mono ?_; rintro e w205 ⟨hb_w205, v205, rfl, hv205⟩; refine XPost.mk _ (fun W => IsC W v205 (P)) hb_w205 (hv205) (IsC.cl _ _) ?_); clear hb_w205 hcS hS hF
    intro K hK; go_simp; (try go_bits); refine hK _ ?_; clear hK K
    obtain ⟨s205, A205, n205, c205, rfl⟩ := IsC.val hv205
    clear hv205
    refine wpQ_done (by kernel_rfl) ?_
    intro w206 hF_w206 hSG
    have hz_w206 := hSG.1.1
    have hb_w206 := hSG.1.2
    clear hSG
    (with_reducible apply cel2 (b := w.heap.size) hb_w206); ((try simp) <;> omega); omega; (iterate 2 (focus (go_simp; try exact rfl))); (intro o; go_simp); intro dM dS dF dT; (with_reducible apply cel2 (b := w101.heap.size) hb_w206); ((try simp) <;> omega); omega; (iterate 2 (focus (go_simp; try exact rfl))); (intro o; go_simp); intro eQ jT jP aH; (with_reducible apply cel2 (b := w101.heap.size + 1) hb_w206); ((try simp) <;> omega); omega; (iterate 2 (focus (go_simp; try exact rfl))); (intro o; go_simp); intro eR bZ kA aP; (with_reducible apply cel2 (b := w101.heap.size + 1 + 1) hb_w206); ((try simp) <;> omega); omega; (iterate 2 (focus (go_simp; try exact rfl))); (intro o; go_simp); intro iT bG eK gL
    (try simp only [List.filterMap_cons, List.filterMap_nil, List.getElem?_cons_succ, List.getElem?_cons_zero])
    replace HX := hQ0 (HX.out.below hb_w206)
    replace HY := hQ0 (HY.out.below hb_w206)
    replace HD := hQ0 (HD.out.below hb_w206)
    replace HE := hQ0 (HE.out.below hb_w206)
    have H203 := hQ0 (show IsC w206 (.agg #[.bool s203, .slice A203 n203 c203]) (P1) from hF_w206.1.1)
    have H204 := hQ0 (show IsC w206 (.agg #[.bool s204, .slice A204 n204 c204]) (P2) from hF_w206.1.2)
    have H205 := hQ0 (show IsC w206 (.agg #[.bool s205, .slice A205 n205 c205]) (P) from hF_w206.2)
    have HB206 := hQ0 (HB202.out.trans (hb_w206.mono (by have := HB202.out.size; omega)))
    have hz206 : w.heap.size + 1 ≤ w206.heap.size := by omega
    clear hF_w206 hb_w206
    clear jL eF iJ dN aB bF jN fH aI bW eN fQ jJ jW fU aX
    go_wp2_with fail
    refine HQ_.out _ _ _ ?_
    clear HQ_ Q_
    go_wp2_with fail
    (refine pin_wp (N := _) (Nat.le_refl _) (fun w207 hb_w207 hz_w207 => ?_); (try simp at hz_w207); (with_reducible apply cal2 (b := w.heap.size) hb_w207); (focus (go_simp; try exact ⟨rfl, rfl⟩)); intro fN iW aK eB; (with_reducible apply cal2 (b := w101.heap.size) hb_w207); (focus (go_simp; try exact ⟨rfl, rfl⟩)); intro eI fM jR bM; (with_reducible apply cal2 (b := w101.heap.size + 1) hb_w207); (focus (go_simp; try exact ⟨rfl, rfl⟩)); intro iY gN eM fA; (with_reducible apply cal2 (b := w101.heap.size + 1 + 1) hb_w207); (focus (go_simp; try exact ⟨rfl, rfl⟩)); intro dL gI eL iH); refine wp_q (fun Q_ HQ_ => ?_); refine wp_region_floatQ w207.heap.size 15 [15] (Nat.le_refl _) (fun _ => True) trivial Cl.tt (by kernel_rfl) (by kernel_rfl) ?_
    clear HX
    clear H203
    clear H204
    replace HY := hQ0 (IsC.below (v := .agg #[.bool sY, .slice AY nY cY]) (z := Y) (by ((with_reducible (repeat (first | exact HY.out | refine IsC.al ?_ _ | apply IsC.st1))) <;> (first | (with_reducible assumption) | (intro _ e; cases e; done) | (go_simp; first | done | exact rfl)))) hb_w207)
    replace HD := hQ0 (IsC.below (v := .agg #[.bool sD, .slice AD nD cD]) (z := D) (by ((with_reducible (repeat (first | exact HD.out | refine IsC.al ?_ _ | apply IsC.st1))) <;> (first | (with_reducible assumption) | (intro _ e; cases e; done) | (go_simp; first | done | exact rfl)))) hb_w207)
    replace HE := hQ0 (RAt.below (v := .agg #[.bool sEx, .slice AEx nEx cEx, .bool sEy, .slice AEy nEy cEy, .bool sEd, .slice AEd nEd cEd]) (x := x) (y := y) (d := d) (by ((with_reducible (repeat (first | exact HE.out | refine RAt.al ?_ _ | apply RAt.st1))) <;> (first | (with_reducible assumption) | (intro _ e; cases e; done) | (go_simp; first | done | exact rfl)))) hb_w207)
    replace H205 := hQ0 (IsC.below (v := .agg #[.bool s205, .slice A205 n205 c205]) (z := P) (by ((with_reducible (repeat (first | exact H205.out | refine IsC.al ?_ _ | apply IsC.st1))) <;> (first | (with_reducible assumption) | (intro _ e; cases e; done) | (go_simp; first | done | exact rfl)))) hb_w207)
    have HB207 := hQ0 (show Below w101.heap.size w101 w207 by have hB := HB206.out; ((with_reducible (repeat (first | exact bR _ _ | apply bS | apply bA | apply bD | refine bT ?_ (by assumption) ?_ | refine bO (by assumption) ?_ ?_))) <;> (first | omega | (simp <;> omega))))
    have hz207 : w.heap.size + 1 ≤ w207.heap.size := by omega
    clear hb_w207
    clear dM dS dF dT eQ jT jP aH eR bZ kA aP iT bG eK gL
    have HBW := hQ0 (HB101.out.trans (HB207.out.mono (by have := HB101.out.size; omega)))
    replace e0 := (HBW.out.cell (p := ⟨g, o + k * 6, none⟩) hg).trans C0.out
    replace e1 := (HBW.out.cell (p := ⟨g, o + k * 6 + 1, none⟩) hg).trans C1.out
    replace e2 := (HBW.out.cell (p := ⟨g, o + k * 6 + 2, none⟩) hg).trans C2.out
    replace e3 := (HBW.out.cell (p := ⟨g, o + k * 6 + 3, none⟩) hg).trans C3.out
    replace e4 := (HBW.out.cell (p := ⟨g, o + k * 6 + 4, none⟩) hg).trans C4.out
    replace e5 := (HBW.out.cell (p := ⟨g, o + k * 6 + 5, none⟩) hg).trans C5.out
    have hgw : g < w207.heap.size := by have := HBW.out.size; omega
    refine wpQI_start [0, 1, 2, 3, 4, 5] ?_; (iterate 6 (first | (apply wpQI_step (zA rfl) (by kernel_rfl) (by exact rfl); (focus (intro W' hS; have hcS := hS.cells; go_simp; (iterate 2 (first | done | exact rfl | exact bB _ | go_simp)))); intro K hK; go_simp; (try go_bits); refine hK _ ?_; clear hK K))); refine wpQI_nil ?_
    refine wpQI_start [7, 8, 9, 10, 11, 12] ?_; (iterate 6 (first | (apply wpQI_step (zA rfl) (by kernel_rfl) (by exact rfl); (focus (intro W' hS; have hcS := hS.cells; go_simp; (iterate 2 (first | done | exact rfl | exact bB _ | go_simp)))); intro K hK; go_simp; (try go_bits); refine hK _ ?_; clear hK K))); refine wpQI_nil ?_
    apply wpQ_call (i := 6) (zA rfl) (by kernel_rfl) (by exact rfl); intro W hF hS; have hcS := hS.1.cells; go_simp; (go_at_call 40; refine (K4.out _ _ _ ((HY.out.below hS.1.2).zl LY.out) ((RAt.pd (HE.out.below hS.1.2)).zl Ld.out)).mono ?_; rintro e w208 ⟨hb_w208, v208, rfl, hv208⟩; refine XPost.mk _ (fun W => IsC W v208 (Q1)) hb_w208 (hv208) (IsC.cl _ _) ?_); clear hb_w208 hcS hS hF
    intro K hK; go_simp; (try go_bits); refine hK _ ?_; clear hK K
    obtain ⟨s208, A208, n208, c208, rfl⟩ := IsC.val hv208
    clear hv208
    apply wpQ_call (i := 13) (zA rfl) (by kernel_rfl) (by exact rfl); intro W hF hS; have hcS := hS.1.cells; go_simp; (go_at_call 40; refine (K5.out _ _ _ ((RAt.py (HE.out.below hS.1.2)).zl Ly.out) ((HD.out.below hS.1.2).zl LD.out)).mono ?_; rintro e w209 ⟨hb_w209, v209, rfl, hv209⟩; refine XPost.mk _ (fun W => IsC W v209 (Q2)) hb_w209 (hv209) (IsC.cl _ _) ?_); clear hb_w209 hcS hS hF
    intro K hK; go_simp; (try go_bits); refine hK _ ?_; clear hK K
    obtain ⟨s209, A209, n209, c209, rfl⟩ := IsC.val hv209
    clear hv209
    apply wpQ_call (i := 14) (zA rfl) (by kernel_rfl) (by exact rfl); intro W hF hS; have hcS := hS.1.cells; go_simp; (go_at_call 39; refine (K6.out _ _ _ (hF.1.zl L4.out) (hF.2.zl L5.out)).mono ?_; rintro e w210 ⟨hb_w210, v210, rfl, hv210⟩; refine XPost.mk _ (fun W => IsC W v210 (Q)) hb_w210 (hv210) (IsC.cl _ _) ?_); clear hb_w210 hcS hS hF
    intro K hK; go_simp; (try go_bits); refine hK _ ?_; clear hK K
    obtain ⟨s210, A210, n210, c210, rfl⟩ := IsC.val hv210
    clear hv210
    refine wpQ_done (by kernel_rfl) ?_
    intro w211 hF_w211 hSG
    have hz_w211 := hSG.1.1
    have hb_w211 := hSG.1.2
    clear hSG
    (with_reducible apply cel2 (b := w.heap.size) hb_w211); ((try simp) <;> omega); omega; (iterate 2 (focus (go_simp; try exact rfl))); (intro o; go_simp); intro eW iL dQ dE; (with_reducible apply cel2 (b := w101.heap.size) hb_w211); ((try simp) <;> omega); omega; (iterate 2 (focus (go_simp; try exact rfl))); (intro o; go_simp); intro iX iF gG fK; (with_reducible apply cel2 (b := w101.heap.size + 1) hb_w211); ((try simp) <;> omega); omega; (iterate 2 (focus (go_simp; try exact rfl))); (intro o; go_simp); intro jC aL iZ aF; (with_reducible apply cel2 (b := w101.heap.size + 1 + 1) hb_w211); ((try simp) <;> omega); omega; (iterate 2 (focus (go_simp; try exact rfl))); (intro o; go_simp); intro fJ fE jF jS
    (try simp only [List.filterMap_cons, List.filterMap_nil, List.getElem?_cons_succ, List.getElem?_cons_zero])
    replace HY := hQ0 (HY.out.below hb_w211)
    replace HD := hQ0 (HD.out.below hb_w211)
    replace HE := hQ0 (HE.out.below hb_w211)
    replace H205 := hQ0 (H205.out.below hb_w211)
    have H208 := hQ0 (show IsC w211 (.agg #[.bool s208, .slice A208 n208 c208]) (Q1) from hF_w211.1.1)
    have H209 := hQ0 (show IsC w211 (.agg #[.bool s209, .slice A209 n209 c209]) (Q2) from hF_w211.1.2)
    have H210 := hQ0 (show IsC w211 (.agg #[.bool s210, .slice A210 n210 c210]) (Q) from hF_w211.2)
    have HB211 := hQ0 (HB207.out.trans (hb_w211.mono (by have := HB207.out.size; omega)))
    have hz211 : w.heap.size + 1 ≤ w211.heap.size := by omega
    clear hF_w211 hb_w211
    clear fN iW aK eB eI fM jR bM iY gN eM fA dL gI eL iH
    go_wp2_with fail
    refine HQ_.out _ _ _ ?_
    clear HQ_ Q_
    go_wp2_with fail
    (refine pin_wp (N := _) (Nat.le_refl _) (fun w212 hb_w212 hz_w212 => ?_); (try simp at hz_w212); (with_reducible apply cal2 (b := w.heap.size) hb_w212); (focus (go_simp; try exact ⟨rfl, rfl⟩)); intro jK gD eY iO; (with_reducible apply cal2 (b := w101.heap.size) hb_w212); (focus (go_simp; try exact ⟨rfl, rfl⟩)); intro fL jQ jH gA; (with_reducible apply cal2 (b := w101.heap.size + 1) hb_w212); (focus (go_simp; try exact ⟨rfl, rfl⟩)); intro gP fB dY bV; (with_reducible apply cal2 (b := w101.heap.size + 1 + 1) hb_w212); (focus (go_simp; try exact ⟨rfl, rfl⟩)); intro jO eV gW aN); refine wp_q (fun Q_ HQ_ => ?_); refine wp_region_floatQ w212.heap.size 7 [7] (Nat.le_refl _) (fun _ => True) trivial Cl.tt (by kernel_rfl) (by kernel_rfl) ?_
    clear HY
    clear H208
    clear H209
    replace HD := hQ0 (IsC.below (v := .agg #[.bool sD, .slice AD nD cD]) (z := D) (by ((with_reducible (repeat (first | exact HD.out | refine IsC.al ?_ _ | apply IsC.st1))) <;> (first | (with_reducible assumption) | (intro _ e; cases e; done) | (go_simp; first | done | exact rfl)))) hb_w212)
    replace HE := hQ0 (RAt.below (v := .agg #[.bool sEx, .slice AEx nEx cEx, .bool sEy, .slice AEy nEy cEy, .bool sEd, .slice AEd nEd cEd]) (x := x) (y := y) (d := d) (by ((with_reducible (repeat (first | exact HE.out | refine RAt.al ?_ _ | apply RAt.st1))) <;> (first | (with_reducible assumption) | (intro _ e; cases e; done) | (go_simp; first | done | exact rfl)))) hb_w212)
    replace H205 := hQ0 (IsC.below (v := .agg #[.bool s205, .slice A205 n205 c205]) (z := P) (by ((with_reducible (repeat (first | exact H205.out | refine IsC.al ?_ _ | apply IsC.st1))) <;> (first | (with_reducible assumption) | (intro _ e; cases e; done) | (go_simp; first | done | exact rfl)))) hb_w212)
    replace H210 := hQ0 (IsC.below (v := .agg #[.bool s210, .slice A210 n210 c210]) (z := Q) (by ((with_reducible (repeat (first | exact H210.out | refine IsC.al ?_ _ | apply IsC.st1))) <;> (first | (with_reducible assumption) | (intro _ e; cases e; done) | (go_simp; first | done | exact rfl)))) hb_w212)
    have HB212 := hQ0 (show Below w101.heap.size w101 w212 by have hB := HB211.out; ((with_reducible (repeat (first | exact bR _ _ | apply bS | apply bA | apply bD | refine bT ?_ (by assumption) ?_ | refine bO (by assumption) ?_ ?_))) <;> (first | omega | (simp <;> omega))))
    have hz212 : w.heap.size + 1 ≤ w212.heap.size := by omega
    clear hb_w212
    clear eW iL dQ dE iX iF gG fK jC aL iZ aF fJ fE jF jS
    have HBW := hQ0 (HB101.out.trans (HB212.out.mono (by have := HB101.out.size; omega)))
    replace e0 := (HBW.out.cell (p := ⟨g, o + k * 6, none⟩) hg).trans C0.out
    replace e1 := (HBW.out.cell (p := ⟨g, o + k * 6 + 1, none⟩) hg).trans C1.out
    replace e2 := (HBW.out.cell (p := ⟨g, o + k * 6 + 2, none⟩) hg).trans C2.out
    replace e3 := (HBW.out.cell (p := ⟨g, o + k * 6 + 3, none⟩) hg).trans C3.out
    replace e4 := (HBW.out.cell (p := ⟨g, o + k * 6 + 4, none⟩) hg).trans C4.out
    replace e5 := (HBW.out.cell (p := ⟨g, o + k * 6 + 5, none⟩) hg).trans C5.out
    have hgw : g < w212.heap.size := by have := HBW.out.size; omega
    refine wpQI_start [0, 1, 2, 3, 4, 5] ?_; (iterate 6 (first | (apply wpQI_step (zA rfl) (by kernel_rfl) (by exact rfl); (focus (intro W' hS; have hcS := hS.cells; go_simp; (iterate 2 (first | done | exact rfl | exact bB _ | go_simp)))); intro K hK; go_simp; (try go_bits); refine hK _ ?_; clear hK K))); refine wpQI_nil ?_
    apply wpQ_call (i := 6) (zA rfl) (by kernel_rfl) (by exact rfl); intro W hF hS; have hcS := hS.1.cells; go_simp; (go_at_call 40; refine (K7.out _ _ _ ((HD.out.below hS.1.2).zl LD.out) ((RAt.pd (HE.out.below hS.1.2)).zl Ld.out)).mono ?_; rintro e w213 ⟨hb_w213, v213, rfl, hv213⟩; refine XPost.mk _ (fun W => IsC W v213 (E1)) hb_w213 (hv213) (IsC.cl _ _) ?_); clear hb_w213 hcS hS hF
    intro K hK; go_simp; (try go_bits); refine hK _ ?_; clear hK K
    obtain ⟨s213, A213, n213, c213, rfl⟩ := IsC.val hv213
    clear hv213
    refine wpQ_done (by kernel_rfl) ?_
    intro w214 hF_w214 hSG
    have hz_w214 := hSG.1.1
    have hb_w214 := hSG.1.2
    clear hSG
    (with_reducible apply cel2 (b := w.heap.size) hb_w214); ((try simp) <;> omega); omega; (iterate 2 (focus (go_simp; try exact rfl))); (intro o; go_simp); intro kM kK lH kY; (with_reducible apply cel2 (b := w101.heap.size) hb_w214); ((try simp) <;> omega); omega; (iterate 2 (focus (go_simp; try exact rfl))); (intro o; go_simp); intro lD kO kI lG; (with_reducible apply cel2 (b := w101.heap.size + 1) hb_w214); ((try simp) <;> omega); omega; (iterate 2 (focus (go_simp; try exact rfl))); (intro o; go_simp); intro kH kU kV kL; (with_reducible apply cel2 (b := w101.heap.size + 1 + 1) hb_w214); ((try simp) <;> omega); omega; (iterate 2 (focus (go_simp; try exact rfl))); (intro o; go_simp); intro lA kD kT lE
    (try simp only [List.filterMap_cons, List.filterMap_nil, List.getElem?_cons_succ, List.getElem?_cons_zero])
    replace HD := hQ0 (HD.out.below hb_w214)
    replace HE := hQ0 (HE.out.below hb_w214)
    replace H205 := hQ0 (H205.out.below hb_w214)
    replace H210 := hQ0 (H210.out.below hb_w214)
    have H213 := hQ0 (show IsC w214 (.agg #[.bool s213, .slice A213 n213 c213]) (E1) from hF_w214)
    have HB214 := hQ0 (HB212.out.trans (hb_w214.mono (by have := HB212.out.size; omega)))
    have hz214 : w.heap.size + 1 ≤ w214.heap.size := by omega
    clear hF_w214 hb_w214
    clear jK gD eY iO fL jQ jH gA gP fB dY bV jO eV gW aN
    go_wp2_with fail
    refine HQ_.out _ _ _ ?_
    clear HQ_ Q_
    go_wp2_with fail
    go_roundw
    case rel => exact ⟨k + 1, P, Q, E1, s205, A205, n205, c205, s210, A210, n210, c210, s213, A213, n213, c213, by omega, by go_num, by have hB := HB214.out; ((with_reducible (repeat (first | exact bR _ _ | apply bS | apply bA | apply bD | refine bT ?_ (by assumption) ?_ | refine bO (by assumption) ?_ ?_))) <;> (first | omega | (simp <;> omega))), by go_simp, by go_simp, by intro o; go_simp, by go_simp, by go_simp, by intro o; go_simp, by go_simp, by go_simp, by intro o; go_simp, by (try simp) <;> omega, (by ((with_reducible (repeat (first | exact H205.out | refine IsC.al ?_ _ | apply IsC.st1))) <;> (first | (with_reducible assumption) | (intro _ e; cases e; done) | (go_simp; first | done | exact rfl)))), (by ((with_reducible (repeat (first | exact H210.out | refine IsC.al ?_ _ | apply IsC.st1))) <;> (first | (with_reducible assumption) | (intro _ e; cases e; done) | (go_simp; first | done | exact rfl)))), (by ((with_reducible (repeat (first | exact H213.out | refine IsC.al ?_ _ | apply IsC.st1))) <;> (first | (with_reducible assumption) | (intro _ e; cases e; done) | (go_simp; first | done | exact rfl)))), HN2⟩
    case measure => simp [intOf]; omega
  · obtain rfl : k = l.length := by omega
    rw [List.take_length] at HN
    obtain ⟨e1, e2⟩ := HN.out.mean (n := (l.length : Int))
    have e1 : x = X.tdiv (D * (l.length : Int)) := by rw [HM1.out]; exact e1.symm
    have e2 : y = Y.tdiv (D * (l.length : Int)) := by rw [HM2.out]; exact e2.symm
    obtain ⟨n, hn⟩ : ∃ n : Int, n = (l.length : Int) := ⟨_, rfl⟩
    rw [← hn] at e1 e2
    have hn' := hn.symm
    have hdn : D * n ≠ 0 := Int.ne_of_gt (Int.mul_pos hsd (by omega))
    have hw := HM.out
    simp only [withinB, decide_eq_true_eq] at hw
    have k1 := fun w => of_any n w (by omega) (by omega)
    have ln := len_up (len_wd (z := n) (by omega) (by omega)) (show _ ≤ 600 by omega)
    have ldn := len_mul LD.out ln
    have k2 := fun u v w h1 h2 => times_any 600 u v D n w h1 h2 (by omega)
    have k3 := fun u v w h1 h2 => div_any (600 + 600) u v X (D * n) w h1 h2 (by omega) hdn
    have k4 := fun u v w h1 h2 => div_any (600 + 600) u v Y (D * n) w h1 h2 (by omega) hdn
    rw [← e1] at k3
    rw [← e2] at k4
    replace LX := hQ0 (len_up LX.out (show 600 ≤ 600 + 600 by omega))
    replace LY := hQ0 (len_up LY.out (show 600 ≤ 600 + 600 by omega))
    have lx := len_wd (z := x) (by omega) (by omega)
    have ly := len_wd (z := y) (by omega) (by omega)
    have k5 := fun v w h => number_any 10 v x w h (by omega)
    have k6 := fun v w h => number_any 10 v y w h (by omega)
    rw [show numR x = (x, true) by unfold numR; rw [if_pos (by omega)]] at k5
    rw [show numR y = (y, true) by unfold numR; rw [if_pos (by omega)]] at k6
    have k7 := fun w => rnear_any2 x y 1073741824 w (by omega) (by omega)
    rw [HM.out] at k7
    have nb1 : n ≤ 16 := by omega
    have nb0 : 0 ≤ n := by omega
    have d1 : ¬ (l.length : Int) < (l.length : Int) := by omega
    generalize X.tmod (D * n) = x2 at *
    generalize Y.tmod (D * n) = y2 at *
    generalize D * n = DN at *
    have Ln := hQ0 ln
    have LDN := hQ0 ldn
    have Lx := hQ0 lx
    have Ly := hQ0 ly
    have K1 := hQ0 k1
    have K2 := hQ0 k2
    have K3 := hQ0 k3
    have K4 := hQ0 k4
    have K5 := hQ0 k5
    have K6 := hQ0 k6
    have K7 := hQ0 k7
    clear k1 k2 k3 k4 k5 k6 k7 ln ldn lx ly e1 e2 hdn hn hsd hsx hsy hsl
    go_wp2_with fail
    (refine pin_wp (N := _) (Nat.le_refl _) (fun w301 hb_w301 hz_w301 => ?_); (try simp at hz_w301); (with_reducible apply cal2 (b := w.heap.size) hb_w301); (focus (go_simp; try exact ⟨rfl, rfl⟩)); intro dJ jU eX gT; (with_reducible apply cal2 (b := w101.heap.size) hb_w301); (focus (go_simp; try exact ⟨rfl, rfl⟩)); intro aZ aD aM fP; (with_reducible apply cal2 (b := w101.heap.size + 1) hb_w301); (focus (go_simp; try exact ⟨rfl, rfl⟩)); intro aU fV eO bE; (with_reducible apply cal2 (b := w101.heap.size + 1 + 1) hb_w301); (focus (go_simp; try exact ⟨rfl, rfl⟩)); intro gZ eS bH aC); refine wp_q (fun Q_ HQ_ => ?_); refine wp_region_floatQ w301.heap.size 5 [5] (Nat.le_refl _) (fun _ => True) trivial Cl.tt (by kernel_rfl) (by kernel_rfl) ?_
    replace HX := hQ0 (IsC.below (v := .agg #[.bool sX, .slice AX nX cX]) (z := X) (by ((with_reducible (repeat (first | exact HX.out | refine IsC.al ?_ _ | apply IsC.st1))) <;> (first | (with_reducible assumption) | (intro _ e; cases e; done) | (go_simp; first | done | exact rfl)))) hb_w301)
    replace HY := hQ0 (IsC.below (v := .agg #[.bool sY, .slice AY nY cY]) (z := Y) (by ((with_reducible (repeat (first | exact HY.out | refine IsC.al ?_ _ | apply IsC.st1))) <;> (first | (with_reducible assumption) | (intro _ e; cases e; done) | (go_simp; first | done | exact rfl)))) hb_w301)
    replace HD := hQ0 (IsC.below (v := .agg #[.bool sD, .slice AD nD cD]) (z := D) (by ((with_reducible (repeat (first | exact HD.out | refine IsC.al ?_ _ | apply IsC.st1))) <;> (first | (with_reducible assumption) | (intro _ e; cases e; done) | (go_simp; first | done | exact rfl)))) hb_w301)
    have HB301 := hQ0 (show Below w101.heap.size w101 w301 by have hB := HBR.out; ((with_reducible (repeat (first | exact bR _ _ | apply bS | apply bA | apply bD | refine bT ?_ (by assumption) ?_ | refine bO (by assumption) ?_ ?_))) <;> (first | omega | (simp <;> omega))))
    have hz301 : w.heap.size + 1 ≤ w301.heap.size := by omega
    clear hb_w301
    skip
    refine wpQI_start [0, 1, 2] ?_; (iterate 3 (first | (apply wpQI_step (zA rfl) (by kernel_rfl) (by exact rfl); (focus (intro W' hS; have hcS := hS.cells; go_simp; (iterate 2 (first | done | exact rfl | exact bB _ | go_simp)))); intro K hK; go_simp; (try go_bits); refine hK _ ?_; clear hK K))); refine wpQI_nil ?_
    apply wpQ_call (i := 3) (zA rfl) (by kernel_rfl) (by exact rfl); intro W hF hS; have hcS := hS.1.cells; go_simp; (go_at_call 44; refine (K1.out _).mono ?_; rintro e w302 ⟨hb_w302, v302, rfl, hv302⟩; refine XPost.mk _ (fun W => IsC W v302 (n)) hb_w302 (hv302) (IsC.cl _ _) ?_); clear hb_w302 hcS hS hF
    intro K hK; go_simp; (try go_bits); refine hK _ ?_; clear hK K
    obtain ⟨s302, A302, n302, c302, rfl⟩ := IsC.val hv302
    clear hv302
    apply wpQ_call (i := 4) (zA rfl) (by kernel_rfl) (by exact rfl); intro W hF hS; have hcS := hS.1.cells; go_simp; (go_at_call 40; refine (K2.out _ _ _ ((HD.out.below hS.1.2).zl LD.out) (hF.zl Ln.out)).mono ?_; rintro e w303 ⟨hb_w303, v303, rfl, hv303⟩; refine XPost.mk _ (fun W => IsC W v303 (DN)) hb_w303 (hv303) (IsC.cl _ _) ?_); clear hb_w303 hcS hS hF
    intro K hK; go_simp; (try go_bits); refine hK _ ?_; clear hK K
    obtain ⟨s303, A303, n303, c303, rfl⟩ := IsC.val hv303
    clear hv303
    refine wpQ_done (by kernel_rfl) ?_
    intro w304 hF_w304 hSG
    have hz_w304 := hSG.1.1
    have hb_w304 := hSG.1.2
    clear hSG
    (with_reducible apply cel2 (b := w.heap.size) hb_w304); ((try simp) <;> omega); omega; (iterate 2 (focus (go_simp; try exact rfl))); (intro o; go_simp); intro dZ aT fI fG; (with_reducible apply cel2 (b := w101.heap.size) hb_w304); ((try simp) <;> omega); omega; (iterate 2 (focus (go_simp; try exact rfl))); (intro o; go_simp); intro aQ dO dA aA; (with_reducible apply cel2 (b := w101.heap.size + 1) hb_w304); ((try simp) <;> omega); omega; (iterate 2 (focus (go_simp; try exact rfl))); (intro o; go_simp); intro fZ jD dV fD; (with_reducible apply cel2 (b := w101.heap.size + 1 + 1) hb_w304); ((try simp) <;> omega); omega; (iterate 2 (focus (go_simp; try exact rfl))); (intro o; go_simp); intro fW gS dI gJ
    (try simp only [List.filterMap_cons, List.filterMap_nil, List.getElem?_cons_succ, List.getElem?_cons_zero])
    replace HX := hQ0 (HX.out.below hb_w304)
    replace HY := hQ0 (HY.out.below hb_w304)
    replace HD := hQ0 (HD.out.below hb_w304)
    have H302 := hQ0 (show IsC w304 (.agg #[.bool s302, .slice A302 n302 c302]) (n) from hF_w304.1)
    have H303 := hQ0 (show IsC w304 (.agg #[.bool s303, .slice A303 n303 c303]) (DN) from hF_w304.2)
    have HB304 := hQ0 (HB301.out.trans (hb_w304.mono (by have := HB301.out.size; omega)))
    have hz304 : w.heap.size + 1 ≤ w304.heap.size := by omega
    clear hF_w304 hb_w304
    clear dJ jU eX gT aZ aD aM fP aU fV eO bE gZ eS bH aC
    go_wp2_with fail
    refine HQ_.out _ _ _ ?_
    clear HQ_ Q_
    go_wp2_with fail
    (go_at_call 46; refine (K3.out _ _ _ ((show IsC _ (.agg #[.bool sX, .slice AX nX cX]) (X) by ((with_reducible (repeat (first | exact HX.out | refine IsC.al ?_ _ | apply IsC.st1))) <;> (first | (with_reducible assumption) | (intro _ e; cases e; done) | (go_simp; first | done | exact rfl)))).zl LX.out) ((show IsC _ (.agg #[.bool s303, .slice A303 n303 c303]) (DN) by ((with_reducible (repeat (first | exact H303.out | refine IsC.al ?_ _ | apply IsC.st1))) <;> (first | (with_reducible assumption) | (intro _ e; cases e; done) | (go_simp; first | done | exact rfl)))).zl LDN.out)).mono ?_; rintro e w305 ⟨hb_w305, u305, v305, rfl, hu305, hv305⟩; have hz_w305 := hb_w305.size; (try simp at hz_w305); (with_reducible apply cal2 (b := w.heap.size) hb_w305); (focus (go_simp; try exact ⟨rfl, rfl⟩)); intro aV dB fR gX; (with_reducible apply cal2 (b := w101.heap.size) hb_w305); (focus (go_simp; try exact ⟨rfl, rfl⟩)); intro eH jG dX iU; (with_reducible apply cal2 (b := w101.heap.size + 1) hb_w305); (focus (go_simp; try exact ⟨rfl, rfl⟩)); intro iP gY fF eA; (with_reducible apply cal2 (b := w101.heap.size + 1 + 1) hb_w305); (focus (go_simp; try exact ⟨rfl, rfl⟩)); intro gB aR iV fS)
    obtain ⟨s305u, A305u, n305u, c305u, rfl⟩ := IsC.val hu305
    obtain ⟨s305, A305, n305, c305, rfl⟩ := IsC.val hv305
    clear HX
    clear HD
    clear H302
    replace HY := hQ0 (IsC.below (v := .agg #[.bool sY, .slice AY nY cY]) (z := Y) (by ((with_reducible (repeat (first | exact HY.out | refine IsC.al ?_ _ | apply IsC.st1))) <;> (first | (with_reducible assumption) | (intro _ e; cases e; done) | (go_simp; first | done | exact rfl)))) hb_w305)
    replace H303 := hQ0 (IsC.below (v := .agg #[.bool s303, .slice A303 n303 c303]) (z := DN) (by ((with_reducible (repeat (first | exact H303.out | refine IsC.al ?_ _ | apply IsC.st1))) <;> (first | (with_reducible assumption) | (intro _ e; cases e; done) | (go_simp; first | done | exact rfl)))) hb_w305)
    have HB305 := hQ0 (show Below w101.heap.size w101 w305 by have hB := HB304.out; ((with_reducible (repeat (first | exact bR _ _ | apply bS | apply bA | apply bD | refine bT ?_ (by assumption) ?_ | refine bO (by assumption) ?_ ?_))) <;> (first | omega | (simp <;> omega))))
    have hz305 : w.heap.size + 1 ≤ w305.heap.size := by omega
    clear hb_w305
    clear dZ aT fI fG aQ dO dA aA fZ jD dV fD fW gS dI gJ
    have H305u := hQ0 (show IsC w305 (.agg #[.bool s305u, .slice A305u n305u c305u]) (x) from hu305)
    clear hu305
    have H305 := hQ0 (show IsC w305 (.agg #[.bool s305, .slice A305 n305 c305]) (x2) from hv305)
    clear hv305
    go_wp2_with fail
    (go_at_call 46; refine (K4.out _ _ _ ((show IsC _ (.agg #[.bool sY, .slice AY nY cY]) (Y) by ((with_reducible (repeat (first | exact HY.out | refine IsC.al ?_ _ | apply IsC.st1))) <;> (first | (with_reducible assumption) | (intro _ e; cases e; done) | (go_simp; first | done | exact rfl)))).zl LY.out) ((show IsC _ (.agg #[.bool s303, .slice A303 n303 c303]) (DN) by ((with_reducible (repeat (first | exact H303.out | refine IsC.al ?_ _ | apply IsC.st1))) <;> (first | (with_reducible assumption) | (intro _ e; cases e; done) | (go_simp; first | done | exact rfl)))).zl LDN.out)).mono ?_; rintro e w306 ⟨hb_w306, u306, v306, rfl, hu306, hv306⟩; have hz_w306 := hb_w306.size; (try simp at hz_w306); (with_reducible apply cal2 (b := w.heap.size) hb_w306); (focus (go_simp; try exact ⟨rfl, rfl⟩)); intro iE bI iG bN; (with_reducible apply cal2 (b := w101.heap.size) hb_w306); (focus (go_simp; try exact ⟨rfl, rfl⟩)); intro aG fX eU aS; (with_reducible apply cal2 (b := w101.heap.size + 1) hb_w306); (focus (go_simp; try exact ⟨rfl, rfl⟩)); intro bC eP jA eJ; (with_reducible apply cal2 (b := w101.heap.size + 1 + 1) hb_w306); (focus (go_simp; try exact ⟨rfl, rfl⟩)); intro jE dK jB dP; (with_reducible apply cal2 (b := w305.heap.size) hb_w306); (focus (go_simp; try exact ⟨rfl, rfl⟩)); intro dU iQ fO dR)
    obtain ⟨s306u, A306u, n306u, c306u, rfl⟩ := IsC.val hu306
    obtain ⟨s306, A306, n306, c306, rfl⟩ := IsC.val hv306
    clear HY
    clear H303
    clear H305
    replace H305u := hQ0 (IsC.below (v := .agg #[.bool s305u, .slice A305u n305u c305u]) (z := x) (by ((with_reducible (repeat (first | exact H305u.out | refine IsC.al ?_ _ | apply IsC.st1))) <;> (first | (with_reducible assumption) | (intro _ e; cases e; done) | (go_simp; first | done | exact rfl)))) hb_w306)
    have HB306 := hQ0 (show Below w101.heap.size w101 w306 by have hB := HB305.out; ((with_reducible (repeat (first | exact bR _ _ | apply bS | apply bA | apply bD | refine bT ?_ (by assumption) ?_ | refine bO (by assumption) ?_ ?_))) <;> (first | omega | (simp <;> omega))))
    have hz306 : w.heap.size + 1 ≤ w306.heap.size := by omega
    clear hb_w306
    clear aV dB fR gX eH jG dX iU iP gY fF eA gB aR iV fS
    have H306u := hQ0 (show IsC w306 (.agg #[.bool s306u, .slice A306u n306u c306u]) (y) from hu306)
    clear hu306
    have H306 := hQ0 (show IsC w306 (.agg #[.bool s306, .slice A306 n306 c306]) (y2) from hv306)
    clear hv306
    go_wp2_with fail
    (go_at_call 47; refine (K5.out _ _ ((show IsC _ (.agg #[.bool s305u, .slice A305u n305u c305u]) (x) by ((with_reducible (repeat (first | exact H305u.out | refine IsC.al ?_ _ | apply IsC.st1))) <;> (first | (with_reducible assumption) | (intro _ e; cases e; done) | (go_simp; first | done | exact rfl)))).zl Lx.out)).mono ?_; rintro e w307 ⟨rfl, hb_w307⟩; have hz_w307 := hb_w307.size; (try simp at hz_w307); (with_reducible apply cal2 (b := w.heap.size) hb_w307); (focus (go_simp; try exact ⟨rfl, rfl⟩)); intro eZ bK jM bJ; (with_reducible apply cal2 (b := w101.heap.size) hb_w307); (focus (go_simp; try exact ⟨rfl, rfl⟩)); intro fC iS dG dW; (with_reducible apply cal2 (b := w101.heap.size + 1) hb_w307); (focus (go_simp; try exact ⟨rfl, rfl⟩)); intro aJ iR bL eD; (with_reducible apply cal2 (b := w101.heap.size + 1 + 1) hb_w307); (focus (go_simp; try exact ⟨rfl, rfl⟩)); intro iC gC gH jZ; (with_reducible apply cal2 (b := w306.heap.size) hb_w307); (focus (go_simp; try exact ⟨rfl, rfl⟩)); intro eE bP eG eT)
    clear H305u
    clear H306
    replace H306u := hQ0 (IsC.below (v := .agg #[.bool s306u, .slice A306u n306u c306u]) (z := y) (by ((with_reducible (repeat (first | exact H306u.out | refine IsC.al ?_ _ | apply IsC.st1))) <;> (first | (with_reducible assumption) | (intro _ e; cases e; done) | (go_simp; first | done | exact rfl)))) hb_w307)
    have HB307 := hQ0 (show Below w101.heap.size w101 w307 by have hB := HB306.out; ((with_reducible (repeat (first | exact bR _ _ | apply bS | apply bA | apply bD | refine bT ?_ (by assumption) ?_ | refine bO (by assumption) ?_ ?_))) <;> (first | omega | (simp <;> omega))))
    have hz307 : w.heap.size + 1 ≤ w307.heap.size := by omega
    clear hb_w307
    clear iE bI iG bN aG fX eU aS bC eP jA eJ jE dK jB dP dU iQ fO dR
    go_wp2_with fail
    (go_at_call 47; refine (K6.out _ _ ((show IsC _ (.agg #[.bool s306u, .slice A306u n306u c306u]) (y) by ((with_reducible (repeat (first | exact H306u.out | refine IsC.al ?_ _ | apply IsC.st1))) <;> (first | (with_reducible assumption) | (intro _ e; cases e; done) | (go_simp; first | done | exact rfl)))).zl Ly.out)).mono ?_; rintro e w308 ⟨rfl, hb_w308⟩; have hz_w308 := hb_w308.size; (try simp at hz_w308); (with_reducible apply cal2 (b := w.heap.size) hb_w308); (focus (go_simp; try exact ⟨rfl, rfl⟩)); intro jY iM kB fY; (with_reducible apply cal2 (b := w101.heap.size) hb_w308); (focus (go_simp; try exact ⟨rfl, rfl⟩)); intro iB gE bQ gO; (with_reducible apply cal2 (b := w101.heap.size + 1) hb_w308); (focus (go_simp; try exact ⟨rfl, rfl⟩)); intro gR jV iK dD; (with_reducible apply cal2 (b := w101.heap.size + 1 + 1) hb_w308); (focus (go_simp; try exact ⟨rfl, rfl⟩)); intro iI fT aY gK)
    clear H306u
    have HB308 := hQ0 (show Below w101.heap.size w101 w308 by have hB := HB307.out; ((with_reducible (repeat (first | exact bR _ _ | apply bS | apply bA | apply bD | refine bT ?_ (by assumption) ?_ | refine bO (by assumption) ?_ ?_))) <;> (first | omega | (simp <;> omega))))
    have hz308 : w.heap.size + 1 ≤ w308.heap.size := by omega
    clear hb_w308
    clear eZ bK jM bJ fC iS dG dW aJ iR bL eD iC gC gH jZ eE bP eG eT
    go_wp2_with fail
    (go_at_call 48; refine (K7.out _).mono ?_; rintro e w309 ⟨rfl, hb_w309⟩; have hz_w309 := hb_w309.size; (try simp at hz_w309); (with_reducible apply cal2 (b := w.heap.size) hb_w309); (focus (go_simp; try exact ⟨rfl, rfl⟩)); intro kX kJ lC kN; (with_reducible apply cal2 (b := w101.heap.size) hb_w309); (focus (go_simp; try exact ⟨rfl, rfl⟩)); intro kZ kR kF kP; (with_reducible apply cal2 (b := w101.heap.size + 1) hb_w309); (focus (go_simp; try exact ⟨rfl, rfl⟩)); intro lF kQ kE lI; (with_reducible apply cal2 (b := w101.heap.size + 1 + 1) hb_w309); (focus (go_simp; try exact ⟨rfl, rfl⟩)); intro kG kS lB kW)
    have HB309 := hQ0 (show Below w101.heap.size w101 w309 by have hB := HB308.out; ((with_reducible (repeat (first | exact bR _ _ | apply bS | apply bA | apply bD | refine bT ?_ (by assumption) ?_ | refine bO (by assumption) ?_ ?_))) <;> (first | omega | (simp <;> omega))))
    have hz309 : w.heap.size + 1 ≤ w309.heap.size := by omega
    clear hb_w309
    clear jY iM kB fY iB gE bQ gO gR jV iK dD iI fT aY gK
    go_wp2_with fail
    refine bodyPost_ret (v := .tuple #[.agg #[.int .i64 x, .int .i64 y], .bool true]) (by simp only [results, Tryz.results17]; go_simp) rfl ⟨?_, ?_⟩
    · rfl
    · have hB := HB101.out; have hB2 := HB309.out; ((with_reducible (repeat (first | exact bR _ _ | apply bS | apply bA | apply bD | refine bT ?_ (by assumption) ?_ | refine bO (by assumption) ?_ ?_))) <;> (first | omega | (simp <;> omega)))
end Go.Proofs.YtgejdaincnclpaaGreat
namespace Go.Proofs.YtgejdaincnclpaaGreat
open Go Go.RowKit
theorem cel10 {G : Prop} {N b : Nat} {W w : World} {v0 v1 v2 v3 v4 v5 v6 v7 v8 v9 : Value} (hb : Below N W w) (h1 : b < N) (h2 : b < w.heap.size) (c0 : W.cell? ⟨b, 0, none⟩ = some v0) (c1 : W.cell? ⟨b, 1, none⟩ = some v1) (c2 : W.cell? ⟨b, 2, none⟩ = some v2) (c3 : W.cell? ⟨b, 3, none⟩ = some v3) (c4 : W.cell? ⟨b, 4, none⟩ = some v4) (c5 : W.cell? ⟨b, 5, none⟩ = some v5) (c6 : W.cell? ⟨b, 6, none⟩ = some v6) (c7 : W.cell? ⟨b, 7, none⟩ = some v7) (c8 : W.cell? ⟨b, 8, none⟩ = some v8) (c9 : W.cell? ⟨b, 9, none⟩ = some v9) (hf : ∀ o, W.frozen? ⟨b, o, none⟩ = false) (k : w.cell? ⟨b, 0, none⟩ = some v0 → w.cell? ⟨b, 1, none⟩ = some v1 → w.cell? ⟨b, 2, none⟩ = some v2 → w.cell? ⟨b, 3, none⟩ = some v3 → w.cell? ⟨b, 4, none⟩ = some v4 → w.cell? ⟨b, 5, none⟩ = some v5 → w.cell? ⟨b, 6, none⟩ = some v6 → w.cell? ⟨b, 7, none⟩ = some v7 → w.cell? ⟨b, 8, none⟩ = some v8 → w.cell? ⟨b, 9, none⟩ = some v9 → (∀ o, w.frozen? ⟨b, o, none⟩ = false) → (b < w.heap.size ∧ b < w.heap.size + 1 ∧ b < w.heap.size + 1 + 1 ∧ b < w.heap.size + 1 + 1 + 1) → G) : G :=
 k (by rw [hb.cell (p := ⟨b, 0, none⟩) h1]; exact c0) (by rw [hb.cell (p := ⟨b, 1, none⟩) h1]; exact c1) (by rw [hb.cell (p := ⟨b, 2, none⟩) h1]; exact c2) (by rw [hb.cell (p := ⟨b, 3, none⟩) h1]; exact c3) (by rw [hb.cell (p := ⟨b, 4, none⟩) h1]; exact c4) (by rw [hb.cell (p := ⟨b, 5, none⟩) h1]; exact c5) (by rw [hb.cell (p := ⟨b, 6, none⟩) h1]; exact c6) (by rw [hb.cell (p := ⟨b, 7, none⟩) h1]; exact c7) (by rw [hb.cell (p := ⟨b, 8, none⟩) h1]; exact c8) (by rw [hb.cell (p := ⟨b, 9, none⟩) h1]; exact c9) (fun o => by rw [hb.frozen (p := ⟨b, o, none⟩) h1]; exact hf o) ⟨h2, by omega, by omega, by omega⟩
structure Mt where
  (a b n1 n2 w1 w2 k1 k2 e g : Int)
  deriving DecidableEq
def Mt.cells (m : Mt) : List Value := [.int .i64 m.a, .int .i64 m.b, .int .i64 m.n1, .int .i64 m.n2, .int .i64 m.w1, .int .i64 m.w2, .int .i64 m.k1, .int .i64 m.k2, .int .i64 m.e, .int .i64 m.g]
def Mt.v (m : Mt) : Value := .agg #[.int .i64 m.a, .int .i64 m.b, .int .i64 m.n1, .int .i64 m.n2, .int .i64 m.w1, .int .i64 m.w2, .int .i64 m.k1, .int .i64 m.k2, .int .i64 m.e, .int .i64 m.g]
def MAt (w : World) (A : Option Addr) (l : List Mt) : Prop := ∀ k m, l[k]? = some m → ∃ g o, A = some ⟨g, o, none⟩ ∧ g < w.heap.size ∧ w.cell? ⟨g, o + k * 10, none⟩ = some (.int .i64 m.a) ∧ w.cell? ⟨g, o + k * 10 + 1, none⟩ = some (.int .i64 m.b) ∧ w.cell? ⟨g, o + k * 10 + 2, none⟩ = some (.int .i64 m.n1) ∧ w.cell? ⟨g, o + k * 10 + 3, none⟩ = some (.int .i64 m.n2) ∧ w.cell? ⟨g, o + k * 10 + 4, none⟩ = some (.int .i64 m.w1) ∧ w.cell? ⟨g, o + k * 10 + 5, none⟩ = some (.int .i64 m.w2) ∧ w.cell? ⟨g, o + k * 10 + 6, none⟩ = some (.int .i64 m.k1) ∧ w.cell? ⟨g, o + k * 10 + 7, none⟩ = some (.int .i64 m.k2) ∧ w.cell? ⟨g, o + k * 10 + 8, none⟩ = some (.int .i64 m.e) ∧ w.cell? ⟨g, o + k * 10 + 9, none⟩ = some (.int .i64 m.g)
theorem MAt.below {w w1 : World} {A : Option Addr} {l : List Mt} {B : Nat} (h : MAt w A l) (hb : Below B w w1) (hB : w.heap.size ≤ B) : MAt w1 A l := by
 intro k m hm
 obtain ⟨g, o, hA, hg, c0, c1, c2, c3, c4, c5, c6, c7, c8, c9⟩ := h k m hm
 refine ⟨g, o, hA, Nat.lt_of_lt_of_le hg hb.size, ?_, ?_, ?_, ?_, ?_, ?_, ?_, ?_, ?_, ?_⟩ <;> (rw [hb.cell (Nat.lt_of_lt_of_le hg hB)]; assumption)
structure Ct where
  (b k i : Int)
  (r0 r1 r2 r3 r4 r5 r6 : Value)
def Ct.cells (x : Ct) : List Value := [.int .i64 x.b, .int .i64 x.k, .int .i64 x.i, x.r0, x.r1, x.r2, x.r3, x.r4, x.r5, x.r6]
def Ct.v (x : Ct) : Value := .agg #[.int .i64 x.b, .int .i64 x.k, .int .i64 x.i, x.r0, x.r1, x.r2, x.r3, x.r4, x.r5, x.r6]
def CAt (w : World) (A : Option Addr) (l : List Ct) : Prop := ∀ k x, l[k]? = some x → ∃ g o, A = some ⟨g, o, none⟩ ∧ g < w.heap.size ∧ w.cell? ⟨g, o + k * 10, none⟩ = some (.int .i64 x.b) ∧ w.cell? ⟨g, o + k * 10 + 1, none⟩ = some (.int .i64 x.k) ∧ w.cell? ⟨g, o + k * 10 + 2, none⟩ = some (.int .i64 x.i) ∧ w.cell? ⟨g, o + k * 10 + 3, none⟩ = some x.r0 ∧ w.cell? ⟨g, o + k * 10 + 4, none⟩ = some x.r1 ∧ w.cell? ⟨g, o + k * 10 + 5, none⟩ = some x.r2 ∧ w.cell? ⟨g, o + k * 10 + 6, none⟩ = some x.r3 ∧ w.cell? ⟨g, o + k * 10 + 7, none⟩ = some x.r4 ∧ w.cell? ⟨g, o + k * 10 + 8, none⟩ = some x.r5 ∧ w.cell? ⟨g, o + k * 10 + 9, none⟩ = some x.r6
theorem CAt.below {w w1 : World} {A : Option Addr} {l : List Ct} {B : Nat} (h : CAt w A l) (hb : Below B w w1) (hB : w.heap.size ≤ B) : CAt w1 A l := by
 intro k m hm
 obtain ⟨g, o, hA, hg, c0, c1, c2, c3, c4, c5, c6, c7, c8, c9⟩ := h k m hm
 refine ⟨g, o, hA, Nat.lt_of_lt_of_le hg hb.size, ?_, ?_, ?_, ?_, ?_, ?_, ?_, ?_, ?_, ?_⟩ <;> (rw [hb.cell (Nat.lt_of_lt_of_le hg hB)]; assumption)
end Go.Proofs.YtgejdaincnclpaaGreat
namespace Go.Proofs.YtgejdaincnclpaaGreat
set_option linter.unusedVariables false
inductive Reach (n : Nat) (sh : Nat → Nat → Bool) (i : Nat) : Nat → Prop
  | refl : Reach n sh i i
  | step {j k : Nat} : Reach n sh i j → k < n → sh j k = true → Reach n sh i k
theorem Reach.lt {n : Nat} {sh : Nat → Nat → Bool} {i j : Nat} (h : Reach n sh i j) (hi : i < n) : j < n := by
 cases h with
 | refl => exact hi
 | step _ hk _ => exact hk
theorem Reach.trans {n : Nat} {sh : Nat → Nat → Bool} {i j k : Nat} (h : Reach n sh i j) (g : Reach n sh j k) : Reach n sh i k := by
 induction g with
 | refl => exact h
 | step _ hk hs ih => exact ih.step hk hs
theorem Reach.symm {n : Nat} {sh : Nat → Nat → Bool} (hs : ∀ a b, sh a b = sh b a) {i j : Nat} (hi : i < n) (h : Reach n sh i j) : Reach n sh j i := by
 induction h with
 | refl => exact .refl
 | step hr hk hsh ih =>
  have := hr.lt hi
  exact (Reach.step .refl this (by rw [hs]; exact hsh)).trans ih
def Old (n : Nat) (sh : Nat → Nat → Bool) (m j : Nat) : Prop := ∃ i, i < m ∧ Reach n sh i j
open Classical in
noncomputable def grpOf (n : Nat) (sh : Nat → Nat → Bool) (i : Nat) : List Nat := (List.range n).filter (fun j => decide (Reach n sh i j))
open Classical in
noncomputable def groupsTo (n : Nat) (sh : Nat → Nat → Bool) : Nat → List (List Nat)
  | 0 => []
  | m + 1 => groupsTo n sh m ++ (if Old n sh m m then [] else [grpOf n sh m])
theorem groupsTo_old {n : Nat} {sh : Nat → Nat → Bool} {m : Nat} (h : Old n sh m m) : groupsTo n sh (m + 1) = groupsTo n sh m := by
 show groupsTo n sh m ++ _ = _; rw [if_pos h, List.append_nil]
theorem groupsTo_new {n : Nat} {sh : Nat → Nat → Bool} {m : Nat} (h : ¬ Old n sh m m) : groupsTo n sh (m + 1) = groupsTo n sh m ++ [grpOf n sh m] := by
 show groupsTo n sh m ++ _ = _; rw [if_neg h]
theorem groupsTo_len (n : Nat) (sh : Nat → Nat → Bool) (m : Nat) : (groupsTo n sh m).length ≤ m := by
 induction m with
 | zero => exact Nat.le_refl _
 | succ m ih =>
  by_cases h : Old n sh m m
  · rw [groupsTo_old h]; omega
  · rw [groupsTo_new h, List.length_append, List.length_singleton]; omega
open Classical in
theorem mem_grp {n : Nat} {sh : Nat → Nat → Bool} {i j : Nat} : j ∈ grpOf n sh i ↔ j < n ∧ Reach n sh i j := by
 unfold grpOf
 rw [List.mem_filter, List.mem_range, decide_eq_true_eq]
theorem old_suc {n : Nat} {sh : Nat → Nat → Bool} {m j : Nat} : Old n sh (m + 1) j ↔ Old n sh m j ∨ Reach n sh m j := by
 constructor
 · rintro ⟨i, hi, h⟩
   rcases Nat.lt_or_eq_of_le (Nat.le_of_lt_succ hi) with h' | rfl
   · exact .inl ⟨i, h', h⟩
   · exact .inr h
 · rintro (⟨i, hi, h⟩ | h)
   · exact ⟨i, by omega, h⟩
   · exact ⟨m, by omega, h⟩
theorem old_same {n : Nat} {sh : Nat → Nat → Bool} {m j : Nat} (h : Old n sh m m) : Old n sh (m + 1) j ↔ Old n sh m j := by
 rw [old_suc]
 constructor
 · rintro (h' | h')
   · exact h'
   · obtain ⟨i, hi, g⟩ := h; exact ⟨i, hi, g.trans h'⟩
 · exact .inl
def DoneI (n : Nat) (sh : Nat → Nat → Bool) (i : Nat) (d : List Bool) : Prop := d.length = n ∧ ∀ j, d[j]? = some true ↔ j < n ∧ Old n sh i j
theorem DoneI.zero (n : Nat) (sh : Nat → Nat → Bool) : DoneI n sh 0 (List.replicate n false) := ⟨by simp, fun j => by
 constructor
 · intro h
   have := List.mem_of_getElem? h
   rw [List.mem_replicate] at this
   exact absurd this.2 (by decide)
 · rintro ⟨_, i, hi, _⟩; omega⟩
theorem DoneI.old {n : Nat} {sh : Nat → Nat → Bool} {i : Nat} {d : List Bool} (h : DoneI n sh i d) (hi : d[i]? = some true) : Old n sh i i := ((h.2 i).1 hi).2
theorem DoneI.new {n : Nat} {sh : Nat → Nat → Bool} {i : Nat} {d : List Bool} (h : DoneI n sh i d) (hn : i < n) (hi : d[i]? = some false) : ¬ Old n sh i i := fun g => by
 have := (h.2 i).2 ⟨hn, g⟩
 rw [hi] at this
 exact absurd this (by decide)
theorem DoneI.skip {n : Nat} {sh : Nat → Nat → Bool} {i : Nat} {d : List Bool} (h : DoneI n sh i d) (hi : d[i]? = some true) : DoneI n sh (i + 1) d :=
 ⟨h.1, fun j => by rw [h.2, old_same (h.old hi)]⟩
structure GI (n : Nat) (sh : Nat → Nat → Bool) (i : Nat) (d : List Bool) (g : List Nat) (p k : Nat) : Prop where
  new : ¬ Old n sh i i
  lt : i < n
  len : d.length = n
  don : ∀ j, d[j]? = some true ↔ (j < n ∧ (Old n sh i j ∨ j ∈ g))
  mem : ∀ j ∈ g, j < n ∧ Reach n sh i j
  nod : g.Nodup
  self : i ∈ g
  ple : p ≤ g.length
  clo : ∀ q a, q < p → g[q]? = some a → ∀ c, c < n → sh a c = true → d[c]? = some true
  cur : ∀ a, g[p]? = some a → ∀ c, c < k → c < n → sh a c = true → d[c]? = some true
theorem set_true_iff {d : List Bool} {k j : Nat} (hk : k < d.length) : (d.set k true)[j]? = some true ↔ d[j]? = some true ∨ j = k := by
 rw [List.getElem?_set]
 by_cases h : k = j
 · subst h; rw [if_pos rfl, if_pos hk]; simp
 · rw [if_neg h]
   constructor
   · exact .inl
   · rintro (h' | h')
     · exact h'
     · exact absurd h'.symm h
theorem GI.start {n : Nat} {sh : Nat → Nat → Bool} {i : Nat} {d : List Bool} (h : DoneI n sh i d) (hn : i < n) (hi : d[i]? = some false) : GI n sh i (d.set i true) [i] 0 0 where
 new := h.new hn hi
 lt := hn
 len := by simp [h.1]
 don := fun j => by
  rw [set_true_iff (by rw [h.1]; exact hn), h.2, List.mem_singleton]
  constructor
  · rintro (⟨a, b⟩ | rfl)
    · exact ⟨a, .inl b⟩
    · exact ⟨hn, .inr rfl⟩
  · rintro ⟨a, b | b⟩
    · exact .inl ⟨a, b⟩
    · exact .inr b
 mem := fun j hj => by rw [List.mem_singleton] at hj; subst hj; exact ⟨hn, .refl⟩
 nod := by simp
 self := by simp
 ple := Nat.zero_le _
 clo := fun q a hq => by omega
 cur := fun a _ c hc => by omega
theorem GI.len_le {n : Nat} {sh : Nat → Nat → Bool} {i : Nat} {d : List Bool} {g : List Nat} {p k : Nat} (h : GI n sh i d g p k) : g.length ≤ n := by
 simpa using h.nod.length_le_of_subset (l₂ := List.range n) (fun x hx => List.mem_range.2 (h.mem x hx).1)
theorem GI.pass {n : Nat} {sh : Nat → Nat → Bool} {i : Nat} {d : List Bool} {g : List Nat} {p k a : Nat} (h : GI n sh i d g p k) (ha : g[p]? = some a) (hk : k < n) (hno : d[k]? = some true ∨ sh a k = false) : GI n sh i d g p (k + 1) :=
 { h with
  cur := fun a' ha' c hc hcn hs => by
   rw [ha] at ha'
   obtain rfl := Option.some.inj ha'
   rcases Nat.lt_or_eq_of_le (Nat.le_of_lt_succ hc) with h' | rfl
   · exact h.cur a ha c h' hcn hs
   · rcases hno with h1 | h1
     · exact h1
     · rw [hs] at h1; exact absurd h1 (by decide) }
theorem GI.add {n : Nat} {sh : Nat → Nat → Bool} {i : Nat} {d : List Bool} {g : List Nat} {p k a : Nat} (h : GI n sh i d g p k) (ha : g[p]? = some a) (hk : k < n) (hd : d[k]? = some false) (hs : sh a k = true) : GI n sh i (d.set k true) (g ++ [k]) p (k + 1) where
 new := h.new
 lt := h.lt
 len := by simp [h.len]
 don := fun j => by
  rw [set_true_iff (by rw [h.len]; exact hk), h.don, List.mem_append, List.mem_singleton]
  constructor
  · rintro (⟨x, y | y⟩ | rfl)
    · exact ⟨x, .inl y⟩
    · exact ⟨x, .inr (.inl y)⟩
    · exact ⟨hk, .inr (.inr rfl)⟩
  · rintro ⟨x, y | y | y⟩
    · exact .inl ⟨x, .inl y⟩
    · exact .inl ⟨x, .inr y⟩
    · exact .inr y
 mem := fun j hj => by
  rw [List.mem_append, List.mem_singleton] at hj
  rcases hj with hj | rfl
  · exact h.mem j hj
  · exact ⟨hk, (h.mem a (List.mem_of_getElem? ha)).2.step hk hs⟩
 nod := by
  rw [List.nodup_append]
  refine ⟨h.nod, by simp, fun x hx y hy => ?_⟩
  rw [List.mem_singleton] at hy
  subst hy
  intro e
  subst e
  have := (h.don x).2 ⟨hk, .inr hx⟩
  rw [hd] at this
  exact absurd this (by decide)
 self := List.mem_append_left _ h.self
 ple := by have := h.ple; rw [List.length_append]; omega
 clo := fun q b hq hb c hc hsh => by
  have hlt : q < g.length := Nat.lt_of_lt_of_le hq h.ple
  rw [List.getElem?_append_left hlt] at hb
  rw [set_true_iff (by rw [h.len]; exact hk)]
  exact .inl (h.clo q b hq hb c hc hsh)
 cur := fun b hb c hc hcn hsh => by
  have hlt : p < g.length := (List.getElem?_eq_some_iff.1 ha).1
  rw [List.getElem?_append_left hlt] at hb
  rw [set_true_iff (by rw [h.len]; exact hk)]
  rcases Nat.lt_or_eq_of_le (Nat.le_of_lt_succ hc) with h' | rfl
  · exact .inl (h.cur b hb c h' hcn hsh)
  · exact .inr rfl
theorem GI.next {n : Nat} {sh : Nat → Nat → Bool} {i : Nat} {d : List Bool} {g : List Nat} {p : Nat} (h : GI n sh i d g p n) (hp : p < g.length) : GI n sh i d g (p + 1) 0 :=
 { h with
  ple := hp
  clo := fun q a hq ha c hc hs => by
   rcases Nat.lt_or_eq_of_le (Nat.le_of_lt_succ hq) with h' | rfl
   · exact h.clo q a h' ha c hc hs
   · exact h.cur a ha c hc hc hs
  cur := fun a _ c hc => by omega }
theorem GI.all {n : Nat} {sh : Nat → Nat → Bool} {i : Nat} {d : List Bool} {g : List Nat} {k : Nat} (hsy : ∀ a b, sh a b = sh b a) (h : GI n sh i d g g.length k) (j : Nat) : j ∈ g ↔ j < n ∧ Reach n sh i j := by
 constructor
 · exact h.mem j
 · rintro ⟨hj, hr⟩
   induction hr with
   | refl => exact h.self
   | step hr hk hs ih =>
    rename_i x y
    have hx := ih (hr.lt h.lt)
    obtain ⟨q, hq⟩ := List.getElem?_of_mem hx
    have hql := (List.getElem?_eq_some_iff.1 hq).1
    have hd := h.clo q x hql hq y hk hs
    rcases ((h.don y).1 hd).2 with ⟨i', hi', hr'⟩ | hy
    · exfalso
      apply h.new
      exact ⟨i', hi', (hr'.step (h.mem x hx).1 (by rw [hsy]; exact hs)).trans (hr.symm hsy h.lt)⟩
    · exact hy
theorem GI.done {n : Nat} {sh : Nat → Nat → Bool} {i : Nat} {d : List Bool} {g : List Nat} {k : Nat} (hsy : ∀ a b, sh a b = sh b a) (h : GI n sh i d g g.length k) : DoneI n sh (i + 1) d :=
 ⟨h.len, fun j => by
  rw [h.don, old_suc]
  constructor
  · rintro ⟨a, b | b⟩
    · exact ⟨a, .inl b⟩
    · exact ⟨a, .inr (h.mem j b).2⟩
  · rintro ⟨a, b | b⟩
    · exact ⟨a, .inl b⟩
    · exact ⟨a, .inr ((h.all hsy j).2 ⟨a, b⟩)⟩⟩
def natI (l : List Nat) : List Int := l.map (fun j : Nat => (j : Int))
theorem sorted_grp {n : Nat} {sh : Nat → Nat → Bool} {i : Nat} {d : List Bool} {g : List Nat} {k : Nat} (hsy : ∀ a b, sh a b = sh b a) (h : GI n sh i d g g.length k) : (natI g).mergeSort (fun x y => decide (x ≤ y)) = natI (grpOf n sh i) := by
 have hp : g.Perm (grpOf n sh i) := (List.perm_ext_iff_of_nodup h.nod (by unfold grpOf; exact List.nodup_range.filter _)).2 fun j => by rw [h.all hsy, mem_grp]
 have hp2 : ((natI g).mergeSort (fun x y => decide (x ≤ y))).Perm (natI (grpOf n sh i)) := (List.mergeSort_perm _ _).trans (hp.map _)
 refine hp2.eq_of_pairwise (le := fun x y => x ≤ y) (fun a b _ _ h1 h2 => Int.le_antisymm h1 h2) ?_ ?_
 · have := List.pairwise_mergeSort (le := fun x y : Int => decide (x ≤ y)) (fun a b c h1 h2 => by simp only [decide_eq_true_eq] at *; omega) (fun a b => by simp only [Bool.or_eq_true, decide_eq_true_eq]; omega) (natI g)
   simpa using this
 · unfold natI grpOf
   rw [List.pairwise_map]
   refine List.Pairwise.imp ?_ (List.pairwise_lt_range.filter _)
   intro a b hab
   omega
end Go.Proofs.YtgejdaincnclpaaGreat
namespace Go.Proofs.YtgejdaincnclpaaGreat
open Go Go.RowKit
set_option linter.unusedVariables false
set_option maxHeartbeats 2000000 in
theorem cwithin_any (n : Int) (l : List V2) (A : Option Addr) (c : Nat) (w : World) (hl : l.length ≤ 1000000) (hV : VAt w A l) (n0 : 0 ≤ n) (n1 : n ≤ 1000000000) :
  Calls Tryz.prog 19 #[.int .i64 n, .slice A l.length c] w fun e w' => e = .returned (.bool (l.all (nearB n))) ∧ Below w.heap.size w w' := by
 have HV := hQ0 hV
 obtain ⟨R, hR⟩ : ∃ R, R = l.all (nearB n) := ⟨_, rfl⟩
 rw [← hR]
 have HR := hQ0 hR
 clear hV hR
 go_enter Tryz.func19, Tryz.ntmps19; (try simp only [List.append_eq, List.cons_append, List.nil_append])
 go_wp2_with fail
 go_loopw [9] (fun t wr => ∃ k : Nat, k ≤ l.length ∧ t = .int .i64 k ∧ Hid ((l.take k).all (nearB n) = true) ∧ Below w.heap.size w wr) (fun t _ => l.length - (intOf t).toNat)
 case atStart => exact ⟨0, by omega, rfl, hQ0 rfl, Below.refl _ _⟩
 case round =>
  obtain ⟨k, hk, rfl, HA, hb_wr⟩ := hrel
  have hz_wr := hb_wr.size
  have HB := hQ0 hb_wr
  have i1 : (0 : Int) ≤ (k : Int) := by omega
  by_cases hlt : k < l.length
  · obtain ⟨⟨a, b⟩, hx⟩ : ∃ x, l[k]? = some x := ⟨l[k], by simp⟩
    obtain ⟨g, o, rfl, hg, a0, a1⟩ := (HV.out.below HB.out (Nat.le_refl _)) k _ hx
    have hall := all_take_succ (p := nearB n) hx
    have HX := hQ0 hx
    have HN := hQ0 hall
    have i2 : (k : Int) < (l.length : Int) := by omega
    simp only at a0 a1
    clear hb_wr hx hall
    by_cases hin : -n ≤ a ∧ a ≤ n ∧ -n ≤ b ∧ b ≤ n
    · obtain ⟨j1, j2, j3, j4⟩ := hin
      have HN2 := hQ0 (show (l.take (k + 1)).all (nearB n) = true by rw [HN.out, HA.out]; simp [nearB, withinB]; omega)
      go_wp2_with fail
      go_roundw
      case rel => exact ⟨k + 1, by omega, by go_num, HN2, HB.out.trans (show Below w.heap.size wr _ by ((with_reducible (repeat (first | exact bR _ _ | apply bS | apply bA | apply bD | refine bT ?_ (by assumption) ?_ | refine bO (by assumption) ?_ ?_))) <;> (first | omega | (simp <;> omega))))⟩
      case measure => simp [intOf]; omega
    · have hfin : R = false := by
       rw [HR.out, List.all_eq_false]
       exact ⟨(a, b), List.mem_of_getElem? HX.out, by simp only [nearB, withinB, decide_eq_true_eq]; exact hin⟩
      subst hfin
      have h4 : a < -n ∨ (-n ≤ a ∧ n < a) ∨ (-n ≤ a ∧ a ≤ n ∧ b < -n) ∨ (-n ≤ a ∧ a ≤ n ∧ -n ≤ b ∧ n < b) := by omega
      clear hin
      rcases h4 with h4 | ⟨h4, h5⟩ | ⟨h4, h5, h6⟩ | ⟨h4, h5, h6, h7⟩
      all_goals
       go_wp2_with fail
       go_ret
       exact ⟨rfl, HB.out.trans (show Below w.heap.size wr _ by ((with_reducible (repeat (first | exact bR _ _ | apply bS | apply bA | apply bD | refine bT ?_ (by assumption) ?_ | refine bO (by assumption) ?_ ?_))) <;> (first | omega | (simp <;> omega))))⟩
  · obtain rfl : k = l.length := by omega
    have hfin : R = true := by rw [HR.out]; have := HA.out; rwa [List.take_length] at this
    subst hfin
    clear hb_wr
    go_wp2_with fail
    go_ret
    exact ⟨rfl, HB.out⟩
theorem cwithin_one (n a b : Int) (g : Nat) (w : World) (n0 : 0 ≤ n) (n1 : n ≤ 1000000000) (hg : g < w.heap.size) (h0 : w.cell? ⟨g, 0, none⟩ = some (.int .i64 a)) (h1 : w.cell? ⟨g, 1, none⟩ = some (.int .i64 b)) :
  Calls Tryz.prog 19 #[.int .i64 n, .slice (some ⟨g, 0, none⟩) 1 1] w fun e w' => e = .returned (.bool (withinB a b n)) ∧ Below w.heap.size w w' := by
 have := cwithin_any n [(a, b)] (some ⟨g, 0, none⟩) 1 w (by simp) (fun k x hx => by
  rcases k with _ | k
  · simp only [List.getElem?_cons_zero, Option.some.injEq] at hx
    subst hx
    exact ⟨g, 0, rfl, hg, by simpa using h0, by simpa using h1⟩
  · simp at hx) n0 n1
 simpa [nearB] using this
theorem cwithin_two (n a b c d : Int) (g : Nat) (w : World) (n0 : 0 ≤ n) (n1 : n ≤ 1000000000) (hg : g < w.heap.size) (h0 : w.cell? ⟨g, 0, none⟩ = some (.int .i64 a)) (h1 : w.cell? ⟨g, 1, none⟩ = some (.int .i64 b)) (h2 : w.cell? ⟨g, 2, none⟩ = some (.int .i64 c)) (h3 : w.cell? ⟨g, 3, none⟩ = some (.int .i64 d)) :
  Calls Tryz.prog 19 #[.int .i64 n, .slice (some ⟨g, 0, none⟩) 2 2] w fun e w' => e = .returned (.bool (withinB a b n && withinB c d n)) ∧ Below w.heap.size w w' := by
 have := cwithin_any n [(a, b), (c, d)] (some ⟨g, 0, none⟩) 2 w (by simp) (fun k x hx => by
  rcases k with _ | _ | k
  · simp only [List.getElem?_cons_zero, Option.some.injEq] at hx
    subst hx
    exact ⟨g, 0, rfl, hg, by simpa using h0, by simpa using h1⟩
  · simp only [List.getElem?_cons_succ, List.getElem?_cons_zero, Option.some.injEq] at hx
    subst hx
    exact ⟨g, 0, rfl, hg, by simpa using h2, by simpa using h3⟩
  · simp at hx) n0 n1
 simpa [nearB] using this
def permM (m : Mt) (n : Int) : Bool := decide (0 ≤ m.a ∧ m.a < n ∧ -1 ≤ m.b ∧ m.b < n ∧ ¬ m.a = m.b) && (decide (m.b = -1) || decide (m.w1 = 0 ∧ m.w2 = 0 ∧ m.k1 = 0 ∧ m.k2 = 0)) && (withinB m.n1 m.n2 2097152 && (withinB m.w1 m.w2 1048576 && withinB m.k1 m.k2 1048576) && (sixB m.e && sixB m.g))
set_option maxRecDepth 100000 in
set_option maxHeartbeats 20000000 in
theorem permitted16_any (m : Mt) (n : Int) (w : World) :
  Calls Tryz.prog 20 #[m.v, .int .i64 n] w fun e w' => e = .returned (.bool (permM m n)) ∧ Below w.heap.size w w' := by
 obtain ⟨a, b, n1, n2, x1, x2, y1, y2, e, g⟩ := m
 obtain ⟨R, hR⟩ : ∃ R, R = permM ⟨a, b, n1, n2, x1, x2, y1, y2, e, g⟩ n := ⟨_, rfl⟩
 rw [← hR]
 unfold permM at hR
 simp only [Mt.v] at *
 have k1 := fun g w => cwithin_one 2097152 n1 n2 g w (by omega) (by omega)
 have k2 := fun g w => cwithin_two 1048576 x1 x2 y1 y2 g w (by omega) (by omega)
 generalize withinB n1 n2 2097152 = c1 at *
 generalize (withinB x1 x2 1048576 && withinB y1 y2 1048576) = c2 at *
 have K1 := hQ0 k1
 have K2 := hQ0 k2
 clear k1 k2
 by_cases hA : 0 ≤ a ∧ a < n ∧ -1 ≤ b ∧ b < n ∧ ¬ a = b
 · rw [decide_eq_true hA, Bool.true_and] at hR
   obtain ⟨a1, a2, b1, b2, ab⟩ := hA
   have hab : (a != b) = true := by rw [bne_iff_ne]; exact ab
   have hcase : (b = -1) ∨ (¬ b = -1 ∧ ¬ x1 = 0) ∨ (¬ b = -1 ∧ x1 = 0 ∧ ¬ x2 = 0) ∨ (¬ b = -1 ∧ x1 = 0 ∧ x2 = 0 ∧ ¬ y1 = 0) ∨ (¬ b = -1 ∧ x1 = 0 ∧ x2 = 0 ∧ y1 = 0 ∧ ¬ y2 = 0) ∨ (¬ b = -1 ∧ x1 = 0 ∧ x2 = 0 ∧ y1 = 0 ∧ y2 = 0) := by omega
   rcases hcase with h | ⟨h, h2⟩ | ⟨h, rfl, h2⟩ | ⟨h, rfl, rfl, h2⟩ | ⟨h, rfl, rfl, rfl, h2⟩ | ⟨h, rfl, rfl, rfl, rfl⟩
   case inr.inl | inr.inr.inl | inr.inr.inr.inl | inr.inr.inr.inr.inl =>
    have hfin : R = false := by rw [hR]; simp [h, h2]
    subst hfin
    have hb1 : (b == -1) = false := by rw [beq_eq_false_iff_ne]; exact h
    have hz := h2
    clear hR
    go_enter Tryz.func20, Tryz.ntmps20; (try simp only [List.append_eq, List.cons_append, List.nil_append])
    go_wp2_with fail
    go_ret
    exact ⟨rfl, by ((with_reducible (repeat (first | exact bR _ _ | apply bS | apply bA | apply bD | refine bT ?_ (by assumption) ?_ | refine bO (by assumption) ?_ ?_))) <;> (first | omega | (simp <;> omega)))⟩
   all_goals
    have hfin : R = (c1 && c2 && (sixB e && sixB g)) := by rw [hR]; simp [h]
    have HF := hQ0 hfin
    clear hR hfin
    first
     | subst h
     | have hb1 : (b == -1) = false := by rw [beq_eq_false_iff_ne]; exact h
    go_enter Tryz.func20, Tryz.ntmps20; (try simp only [List.append_eq, List.cons_append, List.nil_append])
    go_wp2_with fail
    (go_at_call 19; refine (K1.out _ _ (by simp) (by go_simp) (by go_simp)).mono ?_; rintro e w1 ⟨rfl, hb_w1⟩; have hz_w1 := hb_w1.size; (try simp at hz_w1); (with_reducible apply cel10 (b := w.heap.size) hb_w1); ((try simp) <;> omega); omega; (iterate 10 (focus (go_simp; try exact rfl))); (intro o; go_simp); intro cc cc cc cc cc cc cc cc cc cc fz hl; (with_reducible apply cal2 (b := w.heap.size + 1) hb_w1); (focus (go_simp; try exact ⟨rfl, rfl⟩)); intro cc cc fz hl)
    cases c1
    · have hr : R = false := by rw [HF.out]; rfl
      subst hr
      go_wp2_with fail
      go_ret
      exact ⟨rfl, by ((with_reducible (repeat (first | exact bR _ _ | apply bS | apply bA | apply bD | refine bT ?_ (by assumption) ?_ | refine bO (by assumption) ?_ ?_))) <;> (first | omega | (simp <;> omega)))⟩
    · go_wp2_with fail
      (go_at_call 19; refine (K2.out _ _ (by simp) (by go_simp) (by go_simp) (by go_simp) (by go_simp)).mono ?_; rintro e w2 ⟨rfl, hb_w2⟩; have hz_w2 := hb_w2.size; (try simp at hz_w2); (with_reducible apply cel10 (b := w.heap.size) hb_w2); ((try simp) <;> omega); omega; (iterate 10 (focus (go_simp; try exact rfl))); (intro o; go_simp); intro cc cc cc cc cc cc cc cc cc cc fz hl; (with_reducible apply cal2 (b := w.heap.size + 1) hb_w2); (focus (go_simp; try exact ⟨rfl, rfl⟩)); intro cc cc fz hl)
      cases c2
      · have hr : R = false := by rw [HF.out]; rfl
        subst hr
        go_wp2_with fail
        go_ret
        exact ⟨rfl, by ((with_reducible (repeat (first | exact bR _ _ | apply bS | apply bA | apply bD | refine bT ?_ (by assumption) ?_ | refine bO (by assumption) ?_ ?_))) <;> (first | omega | (simp <;> omega)))⟩
      · have h4 : e < 0 ∨ (0 ≤ e ∧ 15 < e) ∨ (0 ≤ e ∧ e ≤ 15 ∧ g < 0) ∨ (0 ≤ e ∧ e ≤ 15 ∧ 0 ≤ g ∧ 15 < g) ∨ (0 ≤ e ∧ e ≤ 15 ∧ 0 ≤ g ∧ g ≤ 15) := by omega
        rcases h4 with h4 | ⟨h4, h5⟩ | ⟨h4, h5, h6⟩ | ⟨h4, h5, h6, h7⟩ | ⟨h4, h5, h6, h7⟩
        case inr.inr.inr.inr =>
         have hr : R = true := by rw [HF.out]; simp only [sixB, Bool.true_and, Bool.and_eq_true, decide_eq_true_eq]; omega
         subst hr
         go_wp2_with fail
         go_ret
         exact ⟨rfl, by ((with_reducible (repeat (first | exact bR _ _ | apply bS | apply bA | apply bD | refine bT ?_ (by assumption) ?_ | refine bO (by assumption) ?_ ?_))) <;> (first | omega | (simp <;> omega)))⟩
        all_goals
         have hr : R = false := by rw [HF.out]; simp only [sixB, Bool.true_and, Bool.and_eq_false_iff, decide_eq_false_iff_not]; omega
         subst hr
         go_wp2_with fail
         go_ret
         refine ⟨?_, by ((with_reducible (repeat (first | exact bR _ _ | apply bS | apply bA | apply bD | refine bT ?_ (by assumption) ?_ | refine bO (by assumption) ?_ ?_))) <;> (first | omega | (simp <;> omega)))⟩
         first | rfl | (show Ending.returned (.bool (decide (g ≤ 15))) = _; rw [decide_eq_false (by omega)])
 · have hfin : R = false := by rw [hR, decide_eq_false hA]; rfl
   subst hfin
   have h4 : a < 0 ∨ (0 ≤ a ∧ n ≤ a) ∨ (0 ≤ a ∧ a < n ∧ b < -1) ∨ (0 ≤ a ∧ a < n ∧ -1 ≤ b ∧ n ≤ b) ∨ (0 ≤ a ∧ a < n ∧ -1 ≤ b ∧ b < n ∧ a = b) := by omega
   clear hA hR
   rcases h4 with h4 | ⟨h4, h5⟩ | ⟨h4, h5, h6⟩ | ⟨h4, h5, h6, h7⟩ | ⟨h4, h5, h6, h7, h8⟩
   case inr.inr.inr.inr =>
    subst h8
    have hbb : (a == -1) = false := by rw [beq_eq_false_iff_ne]; omega
    go_enter Tryz.func20, Tryz.ntmps20; (try simp only [List.append_eq, List.cons_append, List.nil_append])
    go_wp2_with fail
    go_ret
    exact ⟨rfl, by ((with_reducible (repeat (first | exact bR _ _ | apply bS | apply bA | apply bD | refine bT ?_ (by assumption) ?_ | refine bO (by assumption) ?_ ?_))) <;> (first | omega | (simp <;> omega)))⟩
   all_goals
    cases hbb : (b == -1)
    all_goals
     go_enter Tryz.func20, Tryz.ntmps20; (try simp only [List.append_eq, List.cons_append, List.nil_append])
     go_wp2_with fail
     go_ret
     exact ⟨rfl, by ((with_reducible (repeat (first | exact bR _ _ | apply bS | apply bA | apply bD | refine bT ?_ (by assumption) ?_ | refine bO (by assumption) ?_ ?_))) <;> (first | omega | (simp <;> omega)))⟩
theorem pair_ap {v1 v2 w1 w2 n1 n2 e : Int} (w : World) (h : permB v1 v2 w1 w2 n1 n2 = true) (hr : sixB e = true) (ha : apprB v1 v2 w1 w2 n1 n2 = true) : Calls Tryz.prog 53 #[.agg #[.int .i64 v1, .int .i64 v2], .agg #[.int .i64 w1, .int .i64 w2], .agg #[.int .i64 n1, .int .i64 n2], .int .i64 e] w (POut2 (pairR v1 v2 w1 w2 n1 n2 e) w) := by
 rw [pairR_on ha hr]
 exact pair_on v1 v2 w1 w2 n1 n2 e w h hr ha
theorem stat_ap {v1 v2 w1 w2 n1 n2 e g : Int} (w : World) (h : permB v1 v2 w1 w2 n1 n2 = true) (hr : sixB e = true) (hg : sixB g = true) (ha : apprB v1 v2 w1 w2 n1 n2 = true) : Calls Tryz.prog 54 #[.agg #[.int .i64 v1, .int .i64 v2], .agg #[.int .i64 w1, .int .i64 w2], .agg #[.int .i64 n1, .int .i64 n2], .int .i64 e, .int .i64 g] w (TOut (statR v1 v2 w1 w2 n1 n2 e g) w) := by
 rw [statR_on ha hr hg]
 exact static_on v1 v2 w1 w2 n1 n2 e g w h hr hg ha
def kickS (r : Int × Int × Int) (k1 k2 : Int) : Int × Int × Int := (r.1 + r.2.2 * k1, r.2.1 + r.2.2 * k2, r.2.2)
def aloneR (m : Mt) (v : List V2) (k : Int) : Int × Int × Int :=
  if ¬ m.b = -1 ∧ k = m.a then (pairR (v.getD m.a.toNat (0, 0)).1 (v.getD m.a.toNat (0, 0)).2 (v.getD m.b.toNat (0, 0)).1 (v.getD m.b.toNat (0, 0)).2 m.n1 m.n2 m.e).1
  else if ¬ m.b = -1 ∧ k = m.b then (pairR (v.getD m.a.toNat (0, 0)).1 (v.getD m.a.toNat (0, 0)).2 (v.getD m.b.toNat (0, 0)).1 (v.getD m.b.toNat (0, 0)).2 m.n1 m.n2 m.e).2
  else if k = m.a then kickS (statR (v.getD m.a.toNat (0, 0)).1 (v.getD m.a.toNat (0, 0)).2 m.w1 m.w2 m.n1 m.n2 m.e m.g) m.k1 m.k2
  else ((v.getD k.toNat (0, 0)).1, (v.getD k.toNat (0, 0)).2, 1)
theorem vat_cell {w : World} {A : Option Addr} {v : List V2} (h : VAt w A v) {k : Int} (h0 : 0 ≤ k) (h1 : k < v.length) : ∃ g o, A = some ⟨g, o, none⟩ ∧ g < w.heap.size ∧ w.cell? ⟨g, o + k.toNat * 2, none⟩ = some (.int .i64 (v.getD k.toNat (0, 0)).1) ∧ w.cell? ⟨g, o + k.toNat * 2 + 1, none⟩ = some (.int .i64 (v.getD k.toNat (0, 0)).2) := by
 obtain ⟨x, hx⟩ : ∃ x, v[k.toNat]? = some x := ⟨v[k.toNat]'(by omega), by simp⟩
 obtain ⟨g, o, hA, hg, c0, c1⟩ := h _ _ hx
 have e : v.getD k.toNat (0, 0) = x := by simp [hx]
 rw [e]
 exact ⟨g, o, hA, hg, c0, c1⟩
set_option maxRecDepth 100000 in
set_option maxHeartbeats 20000000 in
theorem alone_a (a b n1 n2 x1 x2 y1 y2 e f p1 p2 q1 q2 : Int) (g o n c : Nat) (w : World)
  (hg : g < w.heap.size) (i1 : 0 ≤ a) (i2 : a < (n : Int)) (c0 : w.cell? ⟨g, o + a.toNat * 2, none⟩ = some (.int .i64 p1)) (c1 : w.cell? ⟨g, o + a.toNat * 2 + 1, none⟩ = some (.int .i64 p2))
  (j1 : 0 ≤ b) (j2 : b < (n : Int)) (d0 : w.cell? ⟨g, o + b.toNat * 2, none⟩ = some (.int .i64 q1)) (d1 : w.cell? ⟨g, o + b.toNat * 2 + 1, none⟩ = some (.int .i64 q2)) (hpp : permB p1 p2 q1 q2 n1 n2 = true) (hse : sixB e = true) (hap : apprB p1 p2 q1 q2 n1 n2 = true) :
  Calls Tryz.prog 24 #[.agg #[.int .i64 a, .int .i64 b, .int .i64 n1, .int .i64 n2, .int .i64 x1, .int .i64 x2, .int .i64 y1, .int .i64 y2, .int .i64 e, .int .i64 f], .slice (some ⟨g, o, none⟩) n c, .int .i64 a] w (TOut (pairR p1 p2 q1 q2 n1 n2 e).1 w) := by
 have k1 := fun w => pair_ap w hpp hse hap
 clear hpp hse hap
 generalize hP : pairR p1 p2 q1 q2 n1 n2 e = P at *
 obtain ⟨⟨r1, r2, r3⟩, s1, s2, s3⟩ := P
 unfold POut2 at k1
 simp only at k1 ⊢
 have K1 := hQ0 k1
 clear k1 hP
 have hb0 : (b != -1) = true := by rw [bne_iff_ne]; omega
 have hb1 : ¬ b = -1 := by omega
 go_enter Tryz.func24, Tryz.ntmps24; (try simp only [List.append_eq, List.cons_append, List.nil_append])
 go_wp2_with fail
 (refine pin_wp (N := _) (Nat.le_refl _) (fun w101 hb_w101 hz_w101 => ?_); (try simp at hz_w101); (with_reducible apply cel10 (b := w.heap.size) hb_w101); ((try simp) <;> omega); omega; (iterate 10 (focus (go_simp; try exact rfl))); (intro o; go_simp); intro aL aX aE aY aZ bH aC aI aJ aM bI bF; (with_reducible apply cal6 (b := w.heap.size + 1) hb_w101); (focus (go_simp; try exact ⟨rfl, rfl, rfl, rfl, rfl, rfl⟩)); intro aH aF aG aK aD aV aN bE); refine wp_q (fun Q_ HQ_ => ?_); refine wp_region_floatQ w101.heap.size 21 [21] (Nat.le_refl _) (fun _ => True) trivial Cl.tt (by kernel_rfl) (by kernel_rfl) ?_
 have HB101 := hQ0 (show Below w.heap.size w w101 by ((with_reducible (repeat (first | exact bR _ _ | apply bS | apply bA | apply bD | refine bT ?_ (by assumption) ?_ | refine bO (by assumption) ?_ ?_))) <;> (first | omega | (simp <;> omega))))
 have hz101 : w.heap.size + 1 + 1 ≤ w101.heap.size := by omega
 clear hb_w101
 skip
 have c0_w101 := (HB101.out.cell (p := ⟨g, o + a.toNat * 2, none⟩) hg).trans c0
 have c1_w101 := (HB101.out.cell (p := ⟨g, o + a.toNat * 2 + 1, none⟩) hg).trans c1
 have d0_w101 := (HB101.out.cell (p := ⟨g, o + b.toNat * 2, none⟩) hg).trans d0
 have d1_w101 := (HB101.out.cell (p := ⟨g, o + b.toNat * 2 + 1, none⟩) hg).trans d1
 have hg_w101 : g < w101.heap.size := by have := HB101.out.size; omega
 refine wpQI_start [0, 1, 2, 3, 4, 5, 6, 7, 8, 9, 10, 11, 12, 13] ?_; (iterate 14 (first | (apply wpQI_step (zA rfl) (by kernel_rfl) (by exact rfl); (focus (intro W' hS; have hcS := hS.cells; go_simp; (iterate 2 (first | done | exact rfl | exact bB _ | go_simp)))); intro K hK; go_simp; (try go_bits); refine hK _ ?_; clear hK K))); refine wpQI_nil ?_
 apply wpQ_call (i := 14) (zA rfl) (by kernel_rfl) (by exact rfl); intro W hF hS; have hcS := hS.1.cells; go_simp; (go_at_call 53; refine (K1.out _).mono ?_; rintro e w102 ⟨hb_w102, u102, v102, rfl, hu102, hv102⟩; refine XPost.mk _ (fun W => RAt W u102 (r1) (r2) (r3) ∧ RAt W v102 (s1) (s2) (s3)) hb_w102 (⟨hu102, hv102⟩) (Cl.and (RAt.cl _ _ _ _) (RAt.cl _ _ _ _)) ?_); clear hb_w102 hcS hS hF
 intro K hK; go_simp; (try go_bits); refine hK _ ?_; clear hK K
 obtain ⟨s102ux, A102ux, n102ux, c102ux, s102uy, A102uy, n102uy, c102uy, s102ud, A102ud, n102ud, c102ud, rfl⟩ := RAt.val hu102
 clear hu102
 obtain ⟨s102x, A102x, n102x, c102x, s102y, A102y, n102y, c102y, s102d, A102d, n102d, c102d, rfl⟩ := RAt.val hv102
 clear hv102
 refine wpQI_start [15, 16, 17] ?_; (iterate 3 (first | (apply wpQI_step (zA rfl) (by kernel_rfl) (by exact rfl); (focus (intro W' hS; have hcS := hS.cells; go_simp; (iterate 2 (first | done | exact rfl | exact bB _ | go_simp)))); intro K hK; go_simp; (try go_bits); refine hK _ ?_; clear hK K))); refine wpQI_nil ?_
 apply wpQ_fresh (i := 19) LInv.std (zA rfl) (by kernel_rfl) (fun g => Value.pointer (some ⟨g, 0, none⟩)) (by exact rfl); (focus (intro W; go_simp; first | done | exact rfl | exact ⟨rfl, rfl⟩))
 intro g_r2_19 hN_r2_19 hG_r2_19 K hK
 go_simp; refine hK _ ?_; clear hK K
 apply wpQ_fresh (i := 18) LInv.std (zA rfl) (by kernel_rfl) (fun g => Value.pointer (some ⟨g, 0, none⟩)) (by exact rfl); (focus (intro W; go_simp; first | done | exact rfl | exact ⟨rfl, rfl⟩))
 intro g_r2_18 hN_r2_18 hG_r2_18 K hK
 go_simp; refine hK _ ?_; clear hK K
 have hne_r2_19_r2_18 : g_r2_19 ≠ g_r2_18 := hG_r2_18 _ (List.mem_cons_self ..)
 have hne_r2_18_r2_19 : g_r2_18 ≠ g_r2_19 := Ne.symm hne_r2_19_r2_18
 have hne : w.heap.size ≠ g_r2_19 ∧ g_r2_19 ≠ w.heap.size := by have := hN_r2_19; omega
 have hne : w.heap.size ≠ g_r2_18 ∧ g_r2_18 ≠ w.heap.size := by have := hN_r2_18; omega
 have hne : w.heap.size + 1 ≠ g_r2_19 ∧ g_r2_19 ≠ w.heap.size + 1 := by have := hN_r2_19; omega
 have hne : w.heap.size + 1 ≠ g_r2_18 ∧ g_r2_18 ≠ w.heap.size + 1 := by have := hN_r2_18; omega
 apply wpQ_wild (i := 20) rfl (by kernel_rfl) (by kernel_rfl); intro W hF hS; have hcS := hS.1.cells; have hb0 := (hS.2 _ (List.mem_cons_self ..)).2; simp only at hb0; have fz : (∀ o, W.frozen? ⟨g_r2_18, o, none⟩ = false) := (fun o => frozen_of_row W g_r2_18 o _ _ hb0); have cc0 := cell_of_row W g_r2_18 0 _ _ _ hb0; simp only [List.getElem?_toArray, List.getElem?_cons_zero] at cc0; have cc1 := cell_of_row W g_r2_18 1 _ _ _ hb0; simp only [List.getElem?_toArray, List.getElem?_cons_zero, List.getElem?_cons_succ] at cc1; have cc2 := cell_of_row W g_r2_18 2 _ _ _ hb0; simp only [List.getElem?_toArray, List.getElem?_cons_zero, List.getElem?_cons_succ] at cc2; have cc3 := cell_of_row W g_r2_18 3 _ _ _ hb0; simp only [List.getElem?_toArray, List.getElem?_cons_zero, List.getElem?_cons_succ] at cc3; have cc4 := cell_of_row W g_r2_18 4 _ _ _ hb0; simp only [List.getElem?_toArray, List.getElem?_cons_zero, List.getElem?_cons_succ] at cc4; have cc5 := cell_of_row W g_r2_18 5 _ _ _ hb0; simp only [List.getElem?_toArray, List.getElem?_cons_zero, List.getElem?_cons_succ] at cc5; go_simp
 have hP := ((((((hS.put hG_r2_18 0 (.bool s102ux)).put hG_r2_18 1 (.slice A102ux n102ux c102ux)).put hG_r2_18 2 (.bool s102uy)).put hG_r2_18 3 (.slice A102uy n102uy c102uy)).put hG_r2_18 4 (.bool s102ud)).put hG_r2_18 5 (.slice A102ud n102ud c102ud))
 simp only [List.setIfInBounds_toArray, List.set_cons_zero, List.set_cons_succ] at hP
 refine WPost.mk _ (fun W => RAt W (.agg #[.bool s102ux, .slice A102ux n102ux c102ux, .bool s102uy, .slice A102uy n102uy c102uy, .bool s102ud, .slice A102ud n102ud c102ud]) (r1) (r2) (r3) ∧ RAt W (.agg #[.bool s102x, .slice A102x n102x c102x, .bool s102y, .slice A102y n102y c102y, .bool s102d, .slice A102d n102d c102d]) (s1) (s2) (s3)) _ ⟨(by ((with_reducible (repeat (first | exact hF.1 | apply RAt.st1))) <;> (first | (with_reducible assumption) | (intro _ e; cases e; done) | (go_simp; first | done | exact rfl)))), (by ((with_reducible (repeat (first | exact hF.2 | apply RAt.st1))) <;> (first | (with_reducible assumption) | (intro _ e; cases e; done) | (go_simp; first | done | exact rfl))))⟩ (Cl.and (RAt.cl _ _ _ _) (RAt.cl _ _ _ _)) hP ?_
 clear hP fz hb0 cc0 cc1 cc2 cc3 cc4 cc5 hcS hS hF
 intro K hK; go_simp; refine hK _ ?_; clear hK K
 refine wpQ_done (by kernel_rfl) ?_
 intro w103 hF_w103 hSG
 have hz_w103 := hSG.1.1
 have hb_w103 := hSG.1.2
 have hB_r2_18 := (hSG.2 _ (List.mem_cons_self ..)).2; simp only at hB_r2_18; have hl_r2_18 := (hSG.size (List.mem_cons_self ..)); simp only at hl_r2_18
 have bC := cell_of_row w103 g_r2_18 0 _ _ _ hB_r2_18; simp only [List.getElem?_toArray, List.getElem?_cons_zero] at bC
 have aR := cell_of_row w103 g_r2_18 1 _ _ _ hB_r2_18; simp only [List.getElem?_toArray, List.getElem?_cons_zero, List.getElem?_cons_succ] at aR
 have aP := cell_of_row w103 g_r2_18 2 _ _ _ hB_r2_18; simp only [List.getElem?_toArray, List.getElem?_cons_zero, List.getElem?_cons_succ] at aP
 have aA := cell_of_row w103 g_r2_18 3 _ _ _ hB_r2_18; simp only [List.getElem?_toArray, List.getElem?_cons_zero, List.getElem?_cons_succ] at aA
 have bG := cell_of_row w103 g_r2_18 4 _ _ _ hB_r2_18; simp only [List.getElem?_toArray, List.getElem?_cons_zero, List.getElem?_cons_succ] at bG
 have aU := cell_of_row w103 g_r2_18 5 _ _ _ hB_r2_18; simp only [List.getElem?_toArray, List.getElem?_cons_zero, List.getElem?_cons_succ] at aU
 have bM : (∀ o, w103.frozen? ⟨g_r2_18, o, none⟩ = false) := (fun o => frozen_of_row w103 g_r2_18 o _ _ hB_r2_18); have HH_r2_18 := hQ0 hB_r2_18; clear hB_r2_18
 have hB_r2_19 := (hSG.2 _ (List.mem_cons_of_mem _ (List.mem_cons_self ..))).2; simp only at hB_r2_19; have hl_r2_19 := (hSG.size (List.mem_cons_of_mem _ (List.mem_cons_self ..))); simp only at hl_r2_19
 have aW := cell_of_row w103 g_r2_19 0 _ _ _ hB_r2_19; simp only [List.getElem?_toArray, List.getElem?_cons_zero] at aW
 have aS := cell_of_row w103 g_r2_19 1 _ _ _ hB_r2_19; simp only [List.getElem?_toArray, List.getElem?_cons_zero, List.getElem?_cons_succ] at aS
 have aQ := cell_of_row w103 g_r2_19 2 _ _ _ hB_r2_19; simp only [List.getElem?_toArray, List.getElem?_cons_zero, List.getElem?_cons_succ] at aQ
 have aO := cell_of_row w103 g_r2_19 3 _ _ _ hB_r2_19; simp only [List.getElem?_toArray, List.getElem?_cons_zero, List.getElem?_cons_succ] at aO
 have aT := cell_of_row w103 g_r2_19 4 _ _ _ hB_r2_19; simp only [List.getElem?_toArray, List.getElem?_cons_zero, List.getElem?_cons_succ] at aT
 have aB := cell_of_row w103 g_r2_19 5 _ _ _ hB_r2_19; simp only [List.getElem?_toArray, List.getElem?_cons_zero, List.getElem?_cons_succ] at aB
 have dI : (∀ o, w103.frozen? ⟨g_r2_19, o, none⟩ = false) := (fun o => frozen_of_row w103 g_r2_19 o _ _ hB_r2_19); have HH_r2_19 := hQ0 hB_r2_19; clear hB_r2_19
 clear hSG
 (with_reducible apply cel10 (b := w.heap.size) hb_w103); ((try simp) <;> omega); omega; (iterate 10 (focus (go_simp; try exact rfl))); (intro o; go_simp); intro bU bP bK dF bJ bY dB dG bZ bL dA dD; (with_reducible apply cel6 (b := w.heap.size + 1) hb_w103); ((try simp) <;> omega); omega; (iterate 6 (focus (go_simp; try exact rfl))); (intro o; go_simp); intro bQ dE bV bN bW bX dC dH
 (try simp only [List.filterMap_cons, List.filterMap_nil, List.getElem?_cons_succ, List.getElem?_cons_zero])
 have H102u := hQ0 (show RAt w103 (.agg #[.bool s102ux, .slice A102ux n102ux c102ux, .bool s102uy, .slice A102uy n102uy c102uy, .bool s102ud, .slice A102ud n102ud c102ud]) (r1) (r2) (r3) from hF_w103.1)
 have H102 := hQ0 (show RAt w103 (.agg #[.bool s102x, .slice A102x n102x c102x, .bool s102y, .slice A102y n102y c102y, .bool s102d, .slice A102d n102d c102d]) (s1) (s2) (s3) from hF_w103.2)
 have HB103 := hQ0 (HB101.out.trans (hb_w103.mono (by have := HB101.out.size; omega)))
 have hz103 : w.heap.size + 1 + 1 ≤ w103.heap.size := by omega
 have hn_r2_19 : w.heap.size + 1 + 1 ≤ g_r2_19 := by have := hN_r2_19; omega
 have hn_r2_18 : w.heap.size + 1 + 1 ≤ g_r2_18 := by have := hN_r2_18; omega
 clear hF_w103 hb_w103 HH_r2_19 hG_r2_19 hN_r2_19 HH_r2_18 hG_r2_18 hN_r2_18
 clear aL aX aE aY aZ bH aC aI aJ aM bI bF aH aF aG aK aD aV aN bE
 go_wp2_with fail
 refine HQ_.out _ _ _ ?_
 clear HQ_ Q_
 go_wp2_with fail
 refine bodyPost_ret (v := .agg #[.bool s102ux, .slice A102ux n102ux c102ux, .bool s102uy, .slice A102uy n102uy c102uy, .bool s102ud, .slice A102ud n102ud c102ud]) (by simp only [results, Tryz.results24]; go_simp) rfl ⟨?_, ?_⟩
 · have hB := HB103.out; ((with_reducible (repeat (first | exact bR _ _ | apply bS | apply bA | apply bD | refine bT ?_ (by assumption) ?_ | refine bO (by assumption) ?_ ?_))) <;> (first | omega | (simp <;> omega)))
 · exact ⟨_, rfl, (by ((with_reducible (repeat (first | exact H102u.out | refine RAt.al ?_ _ | apply RAt.st1))) <;> (first | (with_reducible assumption) | (intro _ e; cases e; done) | (go_simp; first | done | exact rfl))))⟩
set_option maxRecDepth 100000 in
set_option maxHeartbeats 20000000 in
theorem alone_b (a b n1 n2 x1 x2 y1 y2 e f p1 p2 q1 q2 : Int) (g o n c : Nat) (w : World)
  (hg : g < w.heap.size) (i1 : 0 ≤ a) (i2 : a < (n : Int)) (c0 : w.cell? ⟨g, o + a.toNat * 2, none⟩ = some (.int .i64 p1)) (c1 : w.cell? ⟨g, o + a.toNat * 2 + 1, none⟩ = some (.int .i64 p2))
  (j1 : 0 ≤ b) (j2 : b < (n : Int)) (d0 : w.cell? ⟨g, o + b.toNat * 2, none⟩ = some (.int .i64 q1)) (d1 : w.cell? ⟨g, o + b.toNat * 2 + 1, none⟩ = some (.int .i64 q2)) (hpp : permB p1 p2 q1 q2 n1 n2 = true) (hse : sixB e = true) (hap : apprB p1 p2 q1 q2 n1 n2 = true) (hab : ¬ b = a) :
  Calls Tryz.prog 24 #[.agg #[.int .i64 a, .int .i64 b, .int .i64 n1, .int .i64 n2, .int .i64 x1, .int .i64 x2, .int .i64 y1, .int .i64 y2, .int .i64 e, .int .i64 f], .slice (some ⟨g, o, none⟩) n c, .int .i64 b] w (TOut (pairR p1 p2 q1 q2 n1 n2 e).2 w) := by
 have k1 := fun w => pair_ap w hpp hse hap
 clear hpp hse hap
 generalize hP : pairR p1 p2 q1 q2 n1 n2 e = P at *
 obtain ⟨⟨r1, r2, r3⟩, s1, s2, s3⟩ := P
 unfold POut2 at k1
 simp only at k1 ⊢
 have K1 := hQ0 k1
 clear k1 hP
 have hb0 : (b != -1) = true := by rw [bne_iff_ne]; omega
 have hb1 : ¬ b = -1 := by omega
 have hab0 : (b == a) = false := by rw [beq_eq_false_iff_ne]; exact hab
 go_enter Tryz.func24, Tryz.ntmps24; (try simp only [List.append_eq, List.cons_append, List.nil_append])
 go_wp2_with fail
 (refine pin_wp (N := _) (Nat.le_refl _) (fun w101 hb_w101 hz_w101 => ?_); (try simp at hz_w101); (with_reducible apply cel10 (b := w.heap.size) hb_w101); ((try simp) <;> omega); omega; (iterate 10 (focus (go_simp; try exact rfl))); (intro o; go_simp); intro aN aU aD aV aW bH aA aK aL aO bI bC; (with_reducible apply cal6 (b := w.heap.size + 1) hb_w101); (focus (go_simp; try exact ⟨rfl, rfl, rfl, rfl, rfl, rfl⟩)); intro aJ aE aF aM aC aT aP aY); refine wp_q (fun Q_ HQ_ => ?_); refine wp_region_floatQ w101.heap.size 21 [21] (Nat.le_refl _) (fun _ => True) trivial Cl.tt (by kernel_rfl) (by kernel_rfl) ?_
 have HB101 := hQ0 (show Below w.heap.size w w101 by ((with_reducible (repeat (first | exact bR _ _ | apply bS | apply bA | apply bD | refine bT ?_ (by assumption) ?_ | refine bO (by assumption) ?_ ?_))) <;> (first | omega | (simp <;> omega))))
 have hz101 : w.heap.size + 1 + 1 ≤ w101.heap.size := by omega
 clear hb_w101
 skip
 have c0_w101 := (HB101.out.cell (p := ⟨g, o + a.toNat * 2, none⟩) hg).trans c0
 have c1_w101 := (HB101.out.cell (p := ⟨g, o + a.toNat * 2 + 1, none⟩) hg).trans c1
 have d0_w101 := (HB101.out.cell (p := ⟨g, o + b.toNat * 2, none⟩) hg).trans d0
 have d1_w101 := (HB101.out.cell (p := ⟨g, o + b.toNat * 2 + 1, none⟩) hg).trans d1
 have hg_w101 : g < w101.heap.size := by have := HB101.out.size; omega
 refine wpQI_start [0, 1, 2, 3, 4, 5, 6, 7, 8, 9, 10, 11, 12, 13] ?_; (iterate 14 (first | (apply wpQI_step (zA rfl) (by kernel_rfl) (by exact rfl); (focus (intro W' hS; have hcS := hS.cells; go_simp; (iterate 2 (first | done | exact rfl | exact bB _ | go_simp)))); intro K hK; go_simp; (try go_bits); refine hK _ ?_; clear hK K))); refine wpQI_nil ?_
 apply wpQ_call (i := 14) (zA rfl) (by kernel_rfl) (by exact rfl); intro W hF hS; have hcS := hS.1.cells; go_simp; (go_at_call 53; refine (K1.out _).mono ?_; rintro e w102 ⟨hb_w102, u102, v102, rfl, hu102, hv102⟩; refine XPost.mk _ (fun W => RAt W u102 (r1) (r2) (r3) ∧ RAt W v102 (s1) (s2) (s3)) hb_w102 (⟨hu102, hv102⟩) (Cl.and (RAt.cl _ _ _ _) (RAt.cl _ _ _ _)) ?_); clear hb_w102 hcS hS hF
 intro K hK; go_simp; (try go_bits); refine hK _ ?_; clear hK K
 obtain ⟨s102ux, A102ux, n102ux, c102ux, s102uy, A102uy, n102uy, c102uy, s102ud, A102ud, n102ud, c102ud, rfl⟩ := RAt.val hu102
 clear hu102
 obtain ⟨s102x, A102x, n102x, c102x, s102y, A102y, n102y, c102y, s102d, A102d, n102d, c102d, rfl⟩ := RAt.val hv102
 clear hv102
 refine wpQI_start [15, 16, 17] ?_; (iterate 3 (first | (apply wpQI_step (zA rfl) (by kernel_rfl) (by exact rfl); (focus (intro W' hS; have hcS := hS.cells; go_simp; (iterate 2 (first | done | exact rfl | exact bB _ | go_simp)))); intro K hK; go_simp; (try go_bits); refine hK _ ?_; clear hK K))); refine wpQI_nil ?_
 apply wpQ_fresh (i := 19) LInv.std (zA rfl) (by kernel_rfl) (fun g => Value.pointer (some ⟨g, 0, none⟩)) (by exact rfl); (focus (intro W; go_simp; first | done | exact rfl | exact ⟨rfl, rfl⟩))
 intro g_r5_19 hN_r5_19 hG_r5_19 K hK
 go_simp; refine hK _ ?_; clear hK K
 apply wpQ_fresh (i := 18) LInv.std (zA rfl) (by kernel_rfl) (fun g => Value.pointer (some ⟨g, 0, none⟩)) (by exact rfl); (focus (intro W; go_simp; first | done | exact rfl | exact ⟨rfl, rfl⟩))
 intro g_r5_18 hN_r5_18 hG_r5_18 K hK
 go_simp; refine hK _ ?_; clear hK K
 have hne_r5_19_r5_18 : g_r5_19 ≠ g_r5_18 := hG_r5_18 _ (List.mem_cons_self ..)
 have hne_r5_18_r5_19 : g_r5_18 ≠ g_r5_19 := Ne.symm hne_r5_19_r5_18
 have hne : w.heap.size ≠ g_r5_19 ∧ g_r5_19 ≠ w.heap.size := by have := hN_r5_19; omega
 have hne : w.heap.size ≠ g_r5_18 ∧ g_r5_18 ≠ w.heap.size := by have := hN_r5_18; omega
 have hne : w.heap.size + 1 ≠ g_r5_19 ∧ g_r5_19 ≠ w.heap.size + 1 := by have := hN_r5_19; omega
 have hne : w.heap.size + 1 ≠ g_r5_18 ∧ g_r5_18 ≠ w.heap.size + 1 := by have := hN_r5_18; omega
 apply wpQ_wild (i := 20) rfl (by kernel_rfl) (by kernel_rfl); intro W hF hS; have hcS := hS.1.cells; have hb0 := (hS.2 _ (List.mem_cons_self ..)).2; simp only at hb0; have fz : (∀ o, W.frozen? ⟨g_r5_18, o, none⟩ = false) := (fun o => frozen_of_row W g_r5_18 o _ _ hb0); have cc0 := cell_of_row W g_r5_18 0 _ _ _ hb0; simp only [List.getElem?_toArray, List.getElem?_cons_zero] at cc0; have cc1 := cell_of_row W g_r5_18 1 _ _ _ hb0; simp only [List.getElem?_toArray, List.getElem?_cons_zero, List.getElem?_cons_succ] at cc1; have cc2 := cell_of_row W g_r5_18 2 _ _ _ hb0; simp only [List.getElem?_toArray, List.getElem?_cons_zero, List.getElem?_cons_succ] at cc2; have cc3 := cell_of_row W g_r5_18 3 _ _ _ hb0; simp only [List.getElem?_toArray, List.getElem?_cons_zero, List.getElem?_cons_succ] at cc3; have cc4 := cell_of_row W g_r5_18 4 _ _ _ hb0; simp only [List.getElem?_toArray, List.getElem?_cons_zero, List.getElem?_cons_succ] at cc4; have cc5 := cell_of_row W g_r5_18 5 _ _ _ hb0; simp only [List.getElem?_toArray, List.getElem?_cons_zero, List.getElem?_cons_succ] at cc5; go_simp
 have hP := ((((((hS.put hG_r5_18 0 (.bool s102ux)).put hG_r5_18 1 (.slice A102ux n102ux c102ux)).put hG_r5_18 2 (.bool s102uy)).put hG_r5_18 3 (.slice A102uy n102uy c102uy)).put hG_r5_18 4 (.bool s102ud)).put hG_r5_18 5 (.slice A102ud n102ud c102ud))
 simp only [List.setIfInBounds_toArray, List.set_cons_zero, List.set_cons_succ] at hP
 refine WPost.mk _ (fun W => RAt W (.agg #[.bool s102ux, .slice A102ux n102ux c102ux, .bool s102uy, .slice A102uy n102uy c102uy, .bool s102ud, .slice A102ud n102ud c102ud]) (r1) (r2) (r3) ∧ RAt W (.agg #[.bool s102x, .slice A102x n102x c102x, .bool s102y, .slice A102y n102y c102y, .bool s102d, .slice A102d n102d c102d]) (s1) (s2) (s3)) _ ⟨(by ((with_reducible (repeat (first | exact hF.1 | apply RAt.st1))) <;> (first | (with_reducible assumption) | (intro _ e; cases e; done) | (go_simp; first | done | exact rfl)))), (by ((with_reducible (repeat (first | exact hF.2 | apply RAt.st1))) <;> (first | (with_reducible assumption) | (intro _ e; cases e; done) | (go_simp; first | done | exact rfl))))⟩ (Cl.and (RAt.cl _ _ _ _) (RAt.cl _ _ _ _)) hP ?_
 clear hP fz hb0 cc0 cc1 cc2 cc3 cc4 cc5 hcS hS hF
 intro K hK; go_simp; refine hK _ ?_; clear hK K
 refine wpQ_done (by kernel_rfl) ?_
 intro w103 hF_w103 hSG
 have hz_w103 := hSG.1.1
 have hb_w103 := hSG.1.2
 have hB_r5_18 := (hSG.2 _ (List.mem_cons_self ..)).2; simp only at hB_r5_18; have hl_r5_18 := (hSG.size (List.mem_cons_self ..)); simp only at hl_r5_18
 have bF := cell_of_row w103 g_r5_18 0 _ _ _ hB_r5_18; simp only [List.getElem?_toArray, List.getElem?_cons_zero] at bF
 have aG := cell_of_row w103 g_r5_18 1 _ _ _ hB_r5_18; simp only [List.getElem?_toArray, List.getElem?_cons_zero, List.getElem?_cons_succ] at aG
 have bE := cell_of_row w103 g_r5_18 2 _ _ _ hB_r5_18; simp only [List.getElem?_toArray, List.getElem?_cons_zero, List.getElem?_cons_succ] at bE
 have aQ := cell_of_row w103 g_r5_18 3 _ _ _ hB_r5_18; simp only [List.getElem?_toArray, List.getElem?_cons_zero, List.getElem?_cons_succ] at aQ
 have aS := cell_of_row w103 g_r5_18 4 _ _ _ hB_r5_18; simp only [List.getElem?_toArray, List.getElem?_cons_zero, List.getElem?_cons_succ] at aS
 have aX := cell_of_row w103 g_r5_18 5 _ _ _ hB_r5_18; simp only [List.getElem?_toArray, List.getElem?_cons_zero, List.getElem?_cons_succ] at aX
 have bK : (∀ o, w103.frozen? ⟨g_r5_18, o, none⟩ = false) := (fun o => frozen_of_row w103 g_r5_18 o _ _ hB_r5_18); have HH_r5_18 := hQ0 hB_r5_18; clear hB_r5_18
 have hB_r5_19 := (hSG.2 _ (List.mem_cons_of_mem _ (List.mem_cons_self ..))).2; simp only at hB_r5_19; have hl_r5_19 := (hSG.size (List.mem_cons_of_mem _ (List.mem_cons_self ..))); simp only at hl_r5_19
 have aR := cell_of_row w103 g_r5_19 0 _ _ _ hB_r5_19; simp only [List.getElem?_toArray, List.getElem?_cons_zero] at aR
 have aH := cell_of_row w103 g_r5_19 1 _ _ _ hB_r5_19; simp only [List.getElem?_toArray, List.getElem?_cons_zero, List.getElem?_cons_succ] at aH
 have aB := cell_of_row w103 g_r5_19 2 _ _ _ hB_r5_19; simp only [List.getElem?_toArray, List.getElem?_cons_zero, List.getElem?_cons_succ] at aB
 have aZ := cell_of_row w103 g_r5_19 3 _ _ _ hB_r5_19; simp only [List.getElem?_toArray, List.getElem?_cons_zero, List.getElem?_cons_succ] at aZ
 have bG := cell_of_row w103 g_r5_19 4 _ _ _ hB_r5_19; simp only [List.getElem?_toArray, List.getElem?_cons_zero, List.getElem?_cons_succ] at bG
 have aI := cell_of_row w103 g_r5_19 5 _ _ _ hB_r5_19; simp only [List.getElem?_toArray, List.getElem?_cons_zero, List.getElem?_cons_succ] at aI
 have bP : (∀ o, w103.frozen? ⟨g_r5_19, o, none⟩ = false) := (fun o => frozen_of_row w103 g_r5_19 o _ _ hB_r5_19); have HH_r5_19 := hQ0 hB_r5_19; clear hB_r5_19
 clear hSG
 (with_reducible apply cel10 (b := w.heap.size) hb_w103); ((try simp) <;> omega); omega; (iterate 10 (focus (go_simp; try exact rfl))); (intro o; go_simp); intro bV bQ bL dF bJ bZ dC dG dA bM dB dI; (with_reducible apply cel6 (b := w.heap.size + 1) hb_w103); ((try simp) <;> omega); omega; (iterate 6 (focus (go_simp; try exact rfl))); (intro o; go_simp); intro bU dE bW bN bX bY dD dH
 (try simp only [List.filterMap_cons, List.filterMap_nil, List.getElem?_cons_succ, List.getElem?_cons_zero])
 have H102u := hQ0 (show RAt w103 (.agg #[.bool s102ux, .slice A102ux n102ux c102ux, .bool s102uy, .slice A102uy n102uy c102uy, .bool s102ud, .slice A102ud n102ud c102ud]) (r1) (r2) (r3) from hF_w103.1)
 have H102 := hQ0 (show RAt w103 (.agg #[.bool s102x, .slice A102x n102x c102x, .bool s102y, .slice A102y n102y c102y, .bool s102d, .slice A102d n102d c102d]) (s1) (s2) (s3) from hF_w103.2)
 have HB103 := hQ0 (HB101.out.trans (hb_w103.mono (by have := HB101.out.size; omega)))
 have hz103 : w.heap.size + 1 + 1 ≤ w103.heap.size := by omega
 have hn_r5_19 : w.heap.size + 1 + 1 ≤ g_r5_19 := by have := hN_r5_19; omega
 have hn_r5_18 : w.heap.size + 1 + 1 ≤ g_r5_18 := by have := hN_r5_18; omega
 clear hF_w103 hb_w103 HH_r5_19 hG_r5_19 hN_r5_19 HH_r5_18 hG_r5_18 hN_r5_18
 clear aN aU aD aV aW bH aA aK aL aO bI bC aJ aE aF aM aC aT aP aY
 go_wp2_with fail
 refine HQ_.out _ _ _ ?_
 clear HQ_ Q_
 go_wp2_with fail
 refine bodyPost_ret (v := .agg #[.bool s102x, .slice A102x n102x c102x, .bool s102y, .slice A102y n102y c102y, .bool s102d, .slice A102d n102d c102d]) (by simp only [results, Tryz.results24]; go_simp) rfl ⟨?_, ?_⟩
 · have hB := HB103.out; ((with_reducible (repeat (first | exact bR _ _ | apply bS | apply bA | apply bD | refine bT ?_ (by assumption) ?_ | refine bO (by assumption) ?_ ?_))) <;> (first | omega | (simp <;> omega)))
 · exact ⟨_, rfl, (by ((with_reducible (repeat (first | exact H102.out | refine RAt.al ?_ _ | apply RAt.st1))) <;> (first | (with_reducible assumption) | (intro _ e; cases e; done) | (go_simp; first | done | exact rfl))))⟩
set_option maxRecDepth 100000 in
set_option maxHeartbeats 20000000 in
theorem alone_s (a n1 n2 x1 x2 y1 y2 e f p1 p2 : Int) (g o n c : Nat) (w : World)
  (hg : g < w.heap.size) (i1 : 0 ≤ a) (i2 : a < (n : Int)) (c0 : w.cell? ⟨g, o + a.toNat * 2, none⟩ = some (.int .i64 p1)) (c1 : w.cell? ⟨g, o + a.toNat * 2 + 1, none⟩ = some (.int .i64 p2)) (hy1 : -1048576 ≤ y1 ∧ y1 ≤ 1048576) (hy2 : -1048576 ≤ y2 ∧ y2 ≤ 1048576) (hpp : permB p1 p2 x1 x2 n1 n2 = true) (hse : sixB e = true) (hsg : sixB f = true) (hap : apprB p1 p2 x1 x2 n1 n2 = true) :
  Calls Tryz.prog 24 #[.agg #[.int .i64 a, .int .i64 (-1), .int .i64 n1, .int .i64 n2, .int .i64 x1, .int .i64 x2, .int .i64 y1, .int .i64 y2, .int .i64 e, .int .i64 f], .slice (some ⟨g, o, none⟩) n c, .int .i64 a] w (TOut (kickS (statR p1 p2 x1 x2 n1 n2 e f) y1 y2) w) := by
 have k1 := fun w => stat_ap w hpp hse hsg hap
 clear hpp hse hsg hap
 obtain ⟨⟨lx, ly, ld⟩, _⟩ := stat_lens p1 p2 x1 x2 n1 n2 e f
 unfold TOut at k1
 generalize hP : statR p1 p2 x1 x2 n1 n2 e f = P at *
 obtain ⟨r1, r2, r3⟩ := P
 unfold kickS
 simp only at *
 have ly1 := len_wd (z := y1) (by omega) (by omega)
 have ly2 := len_wd (z := y2) (by omega) (by omega)
 have LX := hQ0 (len_up lx (show 10 ≤ 600 by omega))
 have LY := hQ0 (len_up ly (show 10 ≤ 600 by omega))
 have LD := hQ0 (len_up ld (show 10 ≤ 600 by omega))
 have LK1 := hQ0 (len_up ly1 (show 10 ≤ 600 by omega))
 have LK2 := hQ0 (len_up ly2 (show 10 ≤ 600 by omega))
 have LM1 := hQ0 (len_up (len_mul ld ly1) (show 10 + 10 ≤ 600 by omega))
 have LM2 := hQ0 (len_up (len_mul ld ly2) (show 10 + 10 ≤ 600 by omega))
 have k2 := fun w => wof_any y1 w (by omega) (by omega)
 have k3 := fun u v w h1 h2 => wmul_any 600 u v r3 y1 w h1 h2 (by omega)
 have k4 := fun u v w h1 h2 => wadd_any 600 u v r1 (r3 * y1) w h1 h2 (by omega)
 have k5 := fun w => wof_any y2 w (by omega) (by omega)
 have k6 := fun u v w h1 h2 => wmul_any 600 u v r3 y2 w h1 h2 (by omega)
 have k7 := fun u v w h1 h2 => wadd_any 600 u v r2 (r3 * y2) w h1 h2 (by omega)
 generalize r3 * y1 = M1 at *
 generalize r3 * y2 = M2 at *
 generalize r1 + M1 = S1 at *
 generalize r2 + M2 = S2 at *
 have K1 := hQ0 k1
 have K2 := hQ0 k2
 have K3 := hQ0 k3
 have K4 := hQ0 k4
 have K5 := hQ0 k5
 have K6 := hQ0 k6
 have K7 := hQ0 k7
 clear k1 k2 k3 k4 k5 k6 k7 hP lx ly ld ly1 ly2 hy1 hy2
 go_enter Tryz.func24, Tryz.ntmps24; (try simp only [List.append_eq, List.cons_append, List.nil_append])
 go_wp2_with fail
 (refine pin_wp (N := _) (Nat.le_refl _) (fun w101 hb_w101 hz_w101 => ?_); (try simp at hz_w101); (with_reducible apply cel10 (b := w.heap.size) hb_w101); ((try simp) <;> omega); omega; (iterate 10 (focus (go_simp; try exact rfl))); (intro o; go_simp); intro dW eD aH fX eG eM eR aN fI fK gF bC; (with_reducible apply cal6 (b := w.heap.size + 1) hb_w101); (focus (go_simp; try exact ⟨rfl, rfl, rfl, rfl, rfl, rfl⟩)); intro bV dQ dR fJ bP aU dB gA); refine wp_q (fun Q_ HQ_ => ?_); refine wp_region_floatQ w101.heap.size 15 [15] (Nat.le_refl _) (fun _ => True) trivial Cl.tt (by kernel_rfl) (by kernel_rfl) ?_
 have HB101 := hQ0 (show Below w.heap.size w w101 by ((with_reducible (repeat (first | exact bR _ _ | apply bS | apply bA | apply bD | refine bT ?_ (by assumption) ?_ | refine bO (by assumption) ?_ ?_))) <;> (first | omega | (simp <;> omega))))
 have hz101 : w.heap.size + 1 + 1 ≤ w101.heap.size := by omega
 clear hb_w101
 skip
 have c0_w101 := (HB101.out.cell (p := ⟨g, o + a.toNat * 2, none⟩) hg).trans c0
 have c1_w101 := (HB101.out.cell (p := ⟨g, o + a.toNat * 2 + 1, none⟩) hg).trans c1
 have hg_w101 : g < w101.heap.size := by have := HB101.out.size; omega
 refine wpQI_start [0, 1, 2, 3, 4, 5, 6, 7, 8, 9, 10, 11, 12] ?_; (iterate 13 (first | (apply wpQI_step (zA rfl) (by kernel_rfl) (by exact rfl); (focus (intro W' hS; have hcS := hS.cells; go_simp; (iterate 2 (first | done | exact rfl | exact bB _ | go_simp)))); intro K hK; go_simp; (try go_bits); refine hK _ ?_; clear hK K))); refine wpQI_nil ?_
 apply wpQ_call (i := 13) (zA rfl) (by kernel_rfl) (by exact rfl); intro W hF hS; have hcS := hS.1.cells; go_simp; (go_at_call 54; refine (K1.out _).mono ?_; rintro e w102 ⟨hb_w102, v102, rfl, hv102⟩; refine XPost.mk _ (fun W => RAt W v102 (r1) (r2) (r3)) hb_w102 (hv102) (RAt.cl _ _ _ _) ?_); clear hb_w102 hcS hS hF
 intro K hK; go_simp; (try go_bits); refine hK _ ?_; clear hK K
 obtain ⟨s102x, A102x, n102x, c102x, s102y, A102y, n102y, c102y, s102d, A102d, n102d, c102d, rfl⟩ := RAt.val hv102
 clear hv102
 apply wpQ_fresh (i := 14) LInv.std (zA rfl) (by kernel_rfl) (fun g => Value.pointer (some ⟨g, 0, none⟩)) (by exact rfl); (focus (intro W; go_simp; first | done | exact rfl | exact ⟨rfl, rfl⟩))
 intro g_r8_14 hN_r8_14 hG_r8_14 K hK
 go_simp; refine hK _ ?_; clear hK K
 have hne : w.heap.size ≠ g_r8_14 ∧ g_r8_14 ≠ w.heap.size := by have := hN_r8_14; omega
 have hne : w.heap.size + 1 ≠ g_r8_14 ∧ g_r8_14 ≠ w.heap.size + 1 := by have := hN_r8_14; omega
 refine wpQ_done (by kernel_rfl) ?_
 intro w103 hF_w103 hSG
 have hz_w103 := hSG.1.1
 have hb_w103 := hSG.1.2
 have hB_r8_14 := (hSG.2 _ (List.mem_cons_self ..)).2; simp only at hB_r8_14; have hl_r8_14 := (hSG.size (List.mem_cons_self ..)); simp only at hl_r8_14
 have aA := cell_of_row w103 g_r8_14 0 _ _ _ hB_r8_14; simp only [List.getElem?_toArray, List.getElem?_cons_zero] at aA
 have aE := cell_of_row w103 g_r8_14 1 _ _ _ hB_r8_14; simp only [List.getElem?_toArray, List.getElem?_cons_zero, List.getElem?_cons_succ] at aE
 have aB := cell_of_row w103 g_r8_14 2 _ _ _ hB_r8_14; simp only [List.getElem?_toArray, List.getElem?_cons_zero, List.getElem?_cons_succ] at aB
 have aC := cell_of_row w103 g_r8_14 3 _ _ _ hB_r8_14; simp only [List.getElem?_toArray, List.getElem?_cons_zero, List.getElem?_cons_succ] at aC
 have aF := cell_of_row w103 g_r8_14 4 _ _ _ hB_r8_14; simp only [List.getElem?_toArray, List.getElem?_cons_zero, List.getElem?_cons_succ] at aF
 have aD := cell_of_row w103 g_r8_14 5 _ _ _ hB_r8_14; simp only [List.getElem?_toArray, List.getElem?_cons_zero, List.getElem?_cons_succ] at aD
 have eB : (∀ o, w103.frozen? ⟨g_r8_14, o, none⟩ = false) := (fun o => frozen_of_row w103 g_r8_14 o _ _ hB_r8_14); have HH_r8_14 := hQ0 hB_r8_14; clear hB_r8_14
 clear hSG
 (with_reducible apply cel10 (b := w.heap.size) hb_w103); ((try simp) <;> omega); omega; (iterate 10 (focus (go_simp; try exact rfl))); (intro o; go_simp); intro fE bU dL bG bL fO eI bI dF eW fY gH; (with_reducible apply cel6 (b := w.heap.size + 1) hb_w103); ((try simp) <;> omega); omega; (iterate 6 (focus (go_simp; try exact rfl))); (intro o; go_simp); intro dS eK fG aJ dA aR gB gE
 (try simp only [List.filterMap_cons, List.filterMap_nil, List.getElem?_cons_succ, List.getElem?_cons_zero])
 have H102 := hQ0 (show RAt w103 (.agg #[.bool s102x, .slice A102x n102x c102x, .bool s102y, .slice A102y n102y c102y, .bool s102d, .slice A102d n102d c102d]) (r1) (r2) (r3) from hF_w103)
 have HB103 := hQ0 (HB101.out.trans (hb_w103.mono (by have := HB101.out.size; omega)))
 have hz103 : w.heap.size + 1 + 1 ≤ w103.heap.size := by omega
 have hn_r8_14 : w.heap.size + 1 + 1 ≤ g_r8_14 := by have := hN_r8_14; omega
 clear hF_w103 hb_w103 HH_r8_14 hG_r8_14 hN_r8_14
 clear dW eD aH fX eG eM eR aN fI fK gF bC bV dQ dR fJ bP aU dB gA
 go_wp2_with fail
 refine HQ_.out _ _ _ ?_
 clear HQ_ Q_
 go_wp2_with fail
 (refine pin_wp (N := _) (Nat.le_refl _) (fun w104 hb_w104 hz_w104 => ?_); (try simp at hz_w104); (with_reducible apply cel10 (b := w.heap.size) hb_w104); ((try simp) <;> omega); omega; (iterate 10 (focus (go_simp; try exact rfl))); (intro o; go_simp); intro fZ dY aI eF fR aY aG fV bQ dU aS eT; (with_reducible apply cal6 (b := w.heap.size + 1) hb_w104); (focus (go_simp; try exact ⟨rfl, rfl, rfl, rfl, rfl, rfl⟩)); intro eS dG aK dZ bX eE eO eJ; (with_reducible apply cal6 (b := g_r8_14) hb_w104); (focus (go_simp; try exact ⟨rfl, rfl, rfl, rfl, rfl, rfl⟩)); intro aL eX fA bE fD bZ fM aX); refine wp_q (fun Q_ HQ_ => ?_); refine wp_region_floatQ w104.heap.size 11 [11] (Nat.le_refl _) (fun _ => True) trivial Cl.tt (by kernel_rfl) (by kernel_rfl) ?_
 replace H102 := hQ0 (RAt.below (v := .agg #[.bool s102x, .slice A102x n102x c102x, .bool s102y, .slice A102y n102y c102y, .bool s102d, .slice A102d n102d c102d]) (x := r1) (y := r2) (d := r3) (by ((with_reducible (repeat (first | exact H102.out | refine RAt.al ?_ _ | apply RAt.st1))) <;> (first | (with_reducible assumption) | (intro _ e; cases e; done) | (go_simp; first | done | exact rfl)))) hb_w104)
 have HB104 := hQ0 (show Below w.heap.size w w104 by have hB := HB103.out; ((with_reducible (repeat (first | exact bR _ _ | apply bS | apply bA | apply bD | refine bT ?_ (by assumption) ?_ | refine bO (by assumption) ?_ ?_))) <;> (first | omega | (simp <;> omega))))
 have hz104 : w.heap.size + 1 + 1 ≤ w104.heap.size := by omega
 clear hb_w104
 clear aA aE aB aC aF aD eB fE bU dL bG bL fO eI bI dF eW fY gH dS eK fG aJ dA aR gB gE
 refine wpQI_start [0, 1, 2, 3, 4, 5, 6] ?_; (iterate 7 (first | (apply wpQI_step (zA rfl) (by kernel_rfl) (by exact rfl); (focus (intro W' hS; have hcS := hS.cells; go_simp; (iterate 2 (first | done | exact rfl | exact bB _ | go_simp)))); intro K hK; go_simp; (try go_bits); refine hK _ ?_; clear hK K))); refine wpQI_nil ?_
 apply wpQ_call (i := 7) (zA rfl) (by kernel_rfl) (by exact rfl); intro W hF hS; have hcS := hS.1.cells; go_simp; (go_at_call 57; refine (K2.out _).mono ?_; rintro e w105 ⟨hb_w105, v105, rfl, hv105⟩; refine XPost.mk _ (fun W => IsC W v105 (y1)) hb_w105 (hv105) (IsC.cl _ _) ?_); clear hb_w105 hcS hS hF
 intro K hK; go_simp; (try go_bits); refine hK _ ?_; clear hK K
 obtain ⟨s105, A105, n105, c105, rfl⟩ := IsC.val hv105
 clear hv105
 apply wpQ_call (i := 8) (zA rfl) (by kernel_rfl) (by exact rfl); intro W hF hS; have hcS := hS.1.cells; go_simp; (go_at_call 56; refine (K3.out _ _ _ ((RAt.pd (H102.out.below hS.1.2)).zl LD.out) (hF.zl LK1.out)).mono ?_; rintro e w106 ⟨hb_w106, v106, rfl, hv106⟩; refine XPost.mk _ (fun W => IsC W v106 (M1)) hb_w106 (hv106) (IsC.cl _ _) ?_); clear hb_w106 hcS hS hF
 intro K hK; go_simp; (try go_bits); refine hK _ ?_; clear hK K
 obtain ⟨s106, A106, n106, c106, rfl⟩ := IsC.val hv106
 clear hv106
 apply wpQ_call (i := 9) (zA rfl) (by kernel_rfl) (by exact rfl); intro W hF hS; have hcS := hS.1.cells; go_simp; (go_at_call 55; refine (K4.out _ _ _ ((RAt.px (H102.out.below hS.1.2)).zl LX.out) (hF.2.zl LM1.out)).mono ?_; rintro e w107 ⟨hb_w107, v107, rfl, hv107⟩; refine XPost.mk _ (fun W => IsC W v107 (S1)) hb_w107 (hv107) (IsC.cl _ _) ?_); clear hb_w107 hcS hS hF
 intro K hK; go_simp; (try go_bits); refine hK _ ?_; clear hK K
 obtain ⟨s107, A107, n107, c107, rfl⟩ := IsC.val hv107
 clear hv107
 refine wpQI_start [10] ?_; (iterate 1 (first | (apply wpQI_step (zA rfl) (by kernel_rfl) (by exact rfl); (focus (intro W' hS; have hcS := hS.cells; go_simp; (iterate 2 (first | done | exact rfl | exact bB _ | go_simp)))); intro K hK; go_simp; (try go_bits); refine hK _ ?_; clear hK K))); refine wpQI_nil ?_
 refine wpQ_done (by kernel_rfl) ?_
 intro w108 hF_w108 hSG
 have hz_w108 := hSG.1.1
 have hb_w108 := hSG.1.2
 clear hSG
 (with_reducible apply cel10 (b := w.heap.size) hb_w108); ((try simp) <;> omega); omega; (iterate 10 (focus (go_simp; try exact rfl))); (intro o; go_simp); intro fS dM gG eN gC dV dX fH aV eQ eC fN; (with_reducible apply cel6 (b := w.heap.size + 1) hb_w108); ((try simp) <;> omega); omega; (iterate 6 (focus (go_simp; try exact rfl))); (intro o; go_simp); intro dD gD aQ bK dC aW fW eH; (with_reducible apply cel6 (b := g_r8_14) hb_w108); ((try simp) <;> omega); omega; (iterate 6 (focus (go_simp; try exact rfl))); (intro o; go_simp); intro fQ dI dN fF bH eY dH fU
 (try simp only [List.filterMap_cons, List.filterMap_nil, List.getElem?_cons_succ, List.getElem?_cons_zero])
 replace H102 := hQ0 (H102.out.below hb_w108)
 have H105 := hQ0 (show IsC w108 (.agg #[.bool s105, .slice A105 n105 c105]) (y1) from hF_w108.1.1)
 have H106 := hQ0 (show IsC w108 (.agg #[.bool s106, .slice A106 n106 c106]) (M1) from hF_w108.1.2)
 have H107 := hQ0 (show IsC w108 (.agg #[.bool s107, .slice A107 n107 c107]) (S1) from hF_w108.2)
 have HB108 := hQ0 (HB104.out.trans (hb_w108.mono (by have := HB104.out.size; omega)))
 have hz108 : w.heap.size + 1 + 1 ≤ w108.heap.size := by omega
 clear hF_w108 hb_w108
 clear fZ dY aI eF fR aY aG fV bQ dU aS eT eS dG aK dZ bX eE eO eJ aL eX fA bE fD bZ fM aX
 go_wp2_with fail
 refine HQ_.out _ _ _ ?_
 clear HQ_ Q_
 go_wp2_with fail
 (refine pin_wp (N := _) (Nat.le_refl _) (fun w109 hb_w109 hz_w109 => ?_); (try simp at hz_w109); (with_reducible apply cel10 (b := w.heap.size) hb_w109); ((try simp) <;> omega); omega; (iterate 10 (focus (go_simp; try exact rfl))); (intro o; go_simp); intro bN aP aT aZ eP bF aM dK bJ eA fL eV; (with_reducible apply cal6 (b := w.heap.size + 1) hb_w109); (focus (go_simp; try exact ⟨rfl, rfl, rfl, rfl, rfl, rfl⟩)); intro dP eU eZ dE dO aO fT dJ; (with_reducible apply cal6 (b := g_r8_14) hb_w109); (focus (go_simp; try exact ⟨rfl, rfl, rfl, rfl, rfl, rfl⟩)); intro dT bM eL fC fP bW bY fB); refine wp_q (fun Q_ HQ_ => ?_); refine wp_region_floatQ w109.heap.size 11 [11] (Nat.le_refl _) (fun _ => True) trivial Cl.tt (by kernel_rfl) (by kernel_rfl) ?_
 clear H105
 clear H106
 replace H102 := hQ0 (RAt.below (v := .agg #[.bool s102x, .slice A102x n102x c102x, .bool s102y, .slice A102y n102y c102y, .bool s102d, .slice A102d n102d c102d]) (x := r1) (y := r2) (d := r3) (by ((with_reducible (repeat (first | exact H102.out | refine RAt.al ?_ _ | apply RAt.st1))) <;> (first | (with_reducible assumption) | (intro _ e; cases e; done) | (go_simp; first | done | exact rfl)))) hb_w109)
 replace H107 := hQ0 (IsC.below (v := .agg #[.bool s107, .slice A107 n107 c107]) (z := S1) (by ((with_reducible (repeat (first | exact H107.out | refine IsC.al ?_ _ | apply IsC.st1))) <;> (first | (with_reducible assumption) | (intro _ e; cases e; done) | (go_simp; first | done | exact rfl)))) hb_w109)
 have HB109 := hQ0 (show Below w.heap.size w w109 by have hB := HB108.out; ((with_reducible (repeat (first | exact bR _ _ | apply bS | apply bA | apply bD | refine bT ?_ (by assumption) ?_ | refine bO (by assumption) ?_ ?_))) <;> (first | omega | (simp <;> omega))))
 have hz109 : w.heap.size + 1 + 1 ≤ w109.heap.size := by omega
 clear hb_w109
 clear fS dM gG eN gC dV dX fH aV eQ eC fN dD gD aQ bK dC aW fW eH fQ dI dN fF bH eY dH fU
 refine wpQI_start [0, 1, 2, 3, 4, 5, 6] ?_; (iterate 7 (first | (apply wpQI_step (zA rfl) (by kernel_rfl) (by exact rfl); (focus (intro W' hS; have hcS := hS.cells; go_simp; (iterate 2 (first | done | exact rfl | exact bB _ | go_simp)))); intro K hK; go_simp; (try go_bits); refine hK _ ?_; clear hK K))); refine wpQI_nil ?_
 apply wpQ_call (i := 7) (zA rfl) (by kernel_rfl) (by exact rfl); intro W hF hS; have hcS := hS.1.cells; go_simp; (go_at_call 57; refine (K5.out _).mono ?_; rintro e w110 ⟨hb_w110, v110, rfl, hv110⟩; refine XPost.mk _ (fun W => IsC W v110 (y2)) hb_w110 (hv110) (IsC.cl _ _) ?_); clear hb_w110 hcS hS hF
 intro K hK; go_simp; (try go_bits); refine hK _ ?_; clear hK K
 obtain ⟨s110, A110, n110, c110, rfl⟩ := IsC.val hv110
 clear hv110
 apply wpQ_call (i := 8) (zA rfl) (by kernel_rfl) (by exact rfl); intro W hF hS; have hcS := hS.1.cells; go_simp; (go_at_call 56; refine (K6.out _ _ _ ((RAt.pd (H102.out.below hS.1.2)).zl LD.out) (hF.zl LK2.out)).mono ?_; rintro e w111 ⟨hb_w111, v111, rfl, hv111⟩; refine XPost.mk _ (fun W => IsC W v111 (M2)) hb_w111 (hv111) (IsC.cl _ _) ?_); clear hb_w111 hcS hS hF
 intro K hK; go_simp; (try go_bits); refine hK _ ?_; clear hK K
 obtain ⟨s111, A111, n111, c111, rfl⟩ := IsC.val hv111
 clear hv111
 apply wpQ_call (i := 9) (zA rfl) (by kernel_rfl) (by exact rfl); intro W hF hS; have hcS := hS.1.cells; go_simp; (go_at_call 55; refine (K7.out _ _ _ ((RAt.py (H102.out.below hS.1.2)).zl LY.out) (hF.2.zl LM2.out)).mono ?_; rintro e w112 ⟨hb_w112, v112, rfl, hv112⟩; refine XPost.mk _ (fun W => IsC W v112 (S2)) hb_w112 (hv112) (IsC.cl _ _) ?_); clear hb_w112 hcS hS hF
 intro K hK; go_simp; (try go_bits); refine hK _ ?_; clear hK K
 obtain ⟨s112, A112, n112, c112, rfl⟩ := IsC.val hv112
 clear hv112
 refine wpQI_start [10] ?_; (iterate 1 (first | (apply wpQI_step (zA rfl) (by kernel_rfl) (by exact rfl); (focus (intro W' hS; have hcS := hS.cells; go_simp; (iterate 2 (first | done | exact rfl | exact bB _ | go_simp)))); intro K hK; go_simp; (try go_bits); refine hK _ ?_; clear hK K))); refine wpQI_nil ?_
 refine wpQ_done (by kernel_rfl) ?_
 intro w113 hF_w113 hSG
 have hz_w113 := hSG.1.1
 have hb_w113 := hSG.1.2
 clear hSG
 (with_reducible apply cel10 (b := w.heap.size) hb_w113); ((try simp) <;> omega); omega; (iterate 10 (focus (go_simp; try exact rfl))); (intro o; go_simp); intro gJ gO gY iF gX iE gR gQ gT iC iB iH; (with_reducible apply cel6 (b := w.heap.size + 1) hb_w113); ((try simp) <;> omega); omega; (iterate 6 (focus (go_simp; try exact rfl))); (intro o; go_simp); intro gL gZ iD gM gP iJ gV gW; (with_reducible apply cel6 (b := g_r8_14) hb_w113); ((try simp) <;> omega); omega; (iterate 6 (focus (go_simp; try exact rfl))); (intro o; go_simp); intro iI gI gU iG iA gS gN gK
 (try simp only [List.filterMap_cons, List.filterMap_nil, List.getElem?_cons_succ, List.getElem?_cons_zero])
 replace H102 := hQ0 (H102.out.below hb_w113)
 replace H107 := hQ0 (H107.out.below hb_w113)
 have H110 := hQ0 (show IsC w113 (.agg #[.bool s110, .slice A110 n110 c110]) (y2) from hF_w113.1.1)
 have H111 := hQ0 (show IsC w113 (.agg #[.bool s111, .slice A111 n111 c111]) (M2) from hF_w113.1.2)
 have H112 := hQ0 (show IsC w113 (.agg #[.bool s112, .slice A112 n112 c112]) (S2) from hF_w113.2)
 have HB113 := hQ0 (HB109.out.trans (hb_w113.mono (by have := HB109.out.size; omega)))
 have hz113 : w.heap.size + 1 + 1 ≤ w113.heap.size := by omega
 clear hF_w113 hb_w113
 clear bN aP aT aZ eP bF aM dK bJ eA fL eV dP eU eZ dE dO aO fT dJ dT bM eL fC fP bW bY fB
 go_wp2_with fail
 refine HQ_.out _ _ _ ?_
 clear HQ_ Q_
 go_wp2_with fail
 refine bodyPost_ret (v := .agg #[.bool s107, .slice A107 n107 c107, .bool s112, .slice A112 n112 c112, .bool s102d, .slice A102d n102d c102d]) (by simp only [results, Tryz.results24]; go_simp) rfl ⟨?_, ?_⟩
 · have hB := HB113.out; ((with_reducible (repeat (first | exact bR _ _ | apply bS | apply bA | apply bD | refine bT ?_ (by assumption) ?_ | refine bO (by assumption) ?_ ?_))) <;> (first | omega | (simp <;> omega)))
 · exact ⟨_, rfl, ⟨_, _, _, _, _, _, _, _, _, _, _, _, rfl, (by ((with_reducible (repeat (first | exact H107.out | refine IsC.al ?_ _ | apply IsC.st1))) <;> (first | (with_reducible assumption) | (intro _ e; cases e; done) | (go_simp; first | done | exact rfl)))), (by ((with_reducible (repeat (first | exact H112.out | refine IsC.al ?_ _ | apply IsC.st1))) <;> (first | (with_reducible assumption) | (intro _ e; cases e; done) | (go_simp; first | done | exact rfl)))), (RAt.pd (by ((with_reducible (repeat (first | exact H102.out | refine RAt.al ?_ _ | apply RAt.st1))) <;> (first | (with_reducible assumption) | (intro _ e; cases e; done) | (go_simp; first | done | exact rfl)))))⟩⟩
set_option maxRecDepth 100000 in
set_option maxHeartbeats 20000000 in
theorem alone_o (a b n1 n2 x1 x2 y1 y2 e f p1 p2 k : Int) (g o n c : Nat) (w : World)
  (hg : g < w.heap.size) (i1 : 0 ≤ k) (i2 : k < (n : Int)) (c0 : w.cell? ⟨g, o + k.toNat * 2, none⟩ = some (.int .i64 p1)) (c1 : w.cell? ⟨g, o + k.toNat * 2 + 1, none⟩ = some (.int .i64 p2)) (hp1 : -1048576 ≤ p1 ∧ p1 ≤ 1048576) (hp2 : -1048576 ≤ p2 ∧ p2 ≤ 1048576) (h1 : ¬ k = a) (h2 : b = -1 ∨ ¬ k = b) :
  Calls Tryz.prog 24 #[.agg #[.int .i64 a, .int .i64 b, .int .i64 n1, .int .i64 n2, .int .i64 x1, .int .i64 x2, .int .i64 y1, .int .i64 y2, .int .i64 e, .int .i64 f], .slice (some ⟨g, o, none⟩) n c, .int .i64 k] w (TOut (p1, p2, 1) w) := by
 obtain ⟨U, hU⟩ : ∃ U : Int, U = 1 := ⟨_, rfl⟩
 have k1 := fun w => wof_any p1 w (by omega) (by omega)
 have k2 := fun w => wof_any p2 w (by omega) (by omega)
 have k3 := fun w => ((by have := wof_any 1 w (by omega) (by omega); rw [hU]; exact this) : Calls Tryz.prog 57 #[.int .i64 1] w (ZOut U w))
 unfold TOut
 simp only
 rw [← hU]
 have K1 := hQ0 k1
 have K2 := hQ0 k2
 have K3 := hQ0 k3
 have hka : (k == a) = false := by rw [beq_eq_false_iff_ne]; exact h1
 clear k1 k2 k3 hU hp1 hp2
 have hcase : (b = -1) ∨ (¬ b = -1 ∧ ¬ k = b) := by omega
 clear h2
 rcases hcase with rfl | ⟨hb1, hb2⟩
 case' inr =>
  have hb0 : (b != -1) = true := by rw [bne_iff_ne]; exact hb1
  have hkb : (k == b) = false := by rw [beq_eq_false_iff_ne]; exact hb2
 all_goals
  go_enter Tryz.func24, Tryz.ntmps24; (try simp only [List.append_eq, List.cons_append, List.nil_append])
  go_wp2_with fail
  (refine pin_wp (N := _) (Nat.le_refl _) (fun w101 hb_w101 hz_w101 => ?_); (try simp at hz_w101); (with_reducible apply cal6 (b := w.heap.size + 1) hb_w101); (focus (go_simp; try exact ⟨rfl, rfl, rfl, rfl, rfl, rfl⟩)); intro aB aD aC aE aF aG aH aA); refine wp_q (fun Q_ HQ_ => ?_); refine wp_region_floatQ w101.heap.size 14 [14] (Nat.le_refl _) (fun _ => True) trivial Cl.tt (by kernel_rfl) (by kernel_rfl) ?_
  have HB101 := hQ0 (show Below w.heap.size w w101 by ((with_reducible (repeat (first | exact bR _ _ | apply bS | apply bA | apply bD | refine bT ?_ (by assumption) ?_ | refine bO (by assumption) ?_ ?_))) <;> (first | omega | (simp <;> omega))))
  have hz101 : w.heap.size + 1 + 1 ≤ w101.heap.size := by omega
  clear hb_w101
  skip
  have c0_w101 := (HB101.out.cell (p := ⟨g, o + k.toNat * 2, none⟩) hg).trans c0
  have c1_w101 := (HB101.out.cell (p := ⟨g, o + k.toNat * 2 + 1, none⟩) hg).trans c1
  have hg_w101 : g < w101.heap.size := by have := HB101.out.size; omega
  refine wpQI_start [0, 1, 2, 3, 4] ?_; (iterate 5 (first | (apply wpQI_step (zA rfl) (by kernel_rfl) (by exact rfl); (focus (intro W' hS; have hcS := hS.cells; go_simp; (iterate 2 (first | done | exact rfl | exact bB _ | go_simp)))); intro K hK; go_simp; (try go_bits); refine hK _ ?_; clear hK K))); refine wpQI_nil ?_
  refine wpQI_start [6, 7, 8, 9, 10] ?_; (iterate 5 (first | (apply wpQI_step (zA rfl) (by kernel_rfl) (by exact rfl); (focus (intro W' hS; have hcS := hS.cells; go_simp; (iterate 2 (first | done | exact rfl | exact bB _ | go_simp)))); intro K hK; go_simp; (try go_bits); refine hK _ ?_; clear hK K))); refine wpQI_nil ?_
  apply wpQ_call (i := 5) (zA rfl) (by kernel_rfl) (by exact rfl); intro W hF hS; have hcS := hS.1.cells; go_simp; (go_at_call 57; refine (K1.out _).mono ?_; rintro e w102 ⟨hb_w102, v102, rfl, hv102⟩; refine XPost.mk _ (fun W => IsC W v102 (p1)) hb_w102 (hv102) (IsC.cl _ _) ?_); clear hb_w102 hcS hS hF
  intro K hK; go_simp; (try go_bits); refine hK _ ?_; clear hK K
  obtain ⟨s102, A102, n102, c102, rfl⟩ := IsC.val hv102
  clear hv102
  apply wpQ_call (i := 11) (zA rfl) (by kernel_rfl) (by exact rfl); intro W hF hS; have hcS := hS.1.cells; go_simp; (go_at_call 57; refine (K2.out _).mono ?_; rintro e w103 ⟨hb_w103, v103, rfl, hv103⟩; refine XPost.mk _ (fun W => IsC W v103 (p2)) hb_w103 (hv103) (IsC.cl _ _) ?_); clear hb_w103 hcS hS hF
  intro K hK; go_simp; (try go_bits); refine hK _ ?_; clear hK K
  obtain ⟨s103, A103, n103, c103, rfl⟩ := IsC.val hv103
  clear hv103
  apply wpQ_call (i := 12) (zA rfl) (by kernel_rfl) (by exact rfl); intro W hF hS; have hcS := hS.1.cells; go_simp; (go_at_call 57; refine (K3.out _).mono ?_; rintro e w104 ⟨hb_w104, v104, rfl, hv104⟩; refine XPost.mk _ (fun W => IsC W v104 (U)) hb_w104 (hv104) (IsC.cl _ _) ?_); clear hb_w104 hcS hS hF
  intro K hK; go_simp; (try go_bits); refine hK _ ?_; clear hK K
  obtain ⟨s104, A104, n104, c104, rfl⟩ := IsC.val hv104
  clear hv104
  refine wpQI_start [13] ?_; (iterate 1 (first | (apply wpQI_step (zA rfl) (by kernel_rfl) (by exact rfl); (focus (intro W' hS; have hcS := hS.cells; go_simp; (iterate 2 (first | done | exact rfl | exact bB _ | go_simp)))); intro K hK; go_simp; (try go_bits); refine hK _ ?_; clear hK K))); refine wpQI_nil ?_
  refine wpQ_done (by kernel_rfl) ?_
  intro w105 hF_w105 hSG
  have hz_w105 := hSG.1.1
  have hb_w105 := hSG.1.2
  clear hSG
  (with_reducible apply cel6 (b := w.heap.size + 1) hb_w105); ((try simp) <;> omega); omega; (iterate 6 (focus (go_simp; try exact rfl))); (intro o; go_simp); intro aI aN aL aJ aK aP aM aO
  (try simp only [List.filterMap_cons, List.filterMap_nil, List.getElem?_cons_succ, List.getElem?_cons_zero])
  have H102 := hQ0 (show IsC w105 (.agg #[.bool s102, .slice A102 n102 c102]) (p1) from hF_w105.1.1)
  have H103 := hQ0 (show IsC w105 (.agg #[.bool s103, .slice A103 n103 c103]) (p2) from hF_w105.1.2)
  have H104 := hQ0 (show IsC w105 (.agg #[.bool s104, .slice A104 n104 c104]) (U) from hF_w105.2)
  have HB105 := hQ0 (HB101.out.trans (hb_w105.mono (by have := HB101.out.size; omega)))
  have hz105 : w.heap.size + 1 + 1 ≤ w105.heap.size := by omega
  clear hF_w105 hb_w105
  clear aB aD aC aE aF aG aH aA
  go_wp2_with fail
  refine HQ_.out _ _ _ ?_
  clear HQ_ Q_
  go_wp2_with fail
  refine bodyPost_ret (v := .agg #[.bool s102, .slice A102 n102 c102, .bool s103, .slice A103 n103 c103, .bool s104, .slice A104 n104 c104]) (by simp only [results, Tryz.results24]; go_simp) rfl ⟨?_, ?_⟩
  · have hB := HB105.out; ((with_reducible (repeat (first | exact bR _ _ | apply bS | apply bA | apply bD | refine bT ?_ (by assumption) ?_ | refine bO (by assumption) ?_ ?_))) <;> (first | omega | (simp <;> omega)))
  · exact ⟨_, rfl, ⟨_, _, _, _, _, _, _, _, _, _, _, _, rfl, (by ((with_reducible (repeat (first | exact H102.out | refine IsC.al ?_ _ | apply IsC.st1))) <;> (first | (with_reducible assumption) | (intro _ e; cases e; done) | (go_simp; first | done | exact rfl)))), (by ((with_reducible (repeat (first | exact H103.out | refine IsC.al ?_ _ | apply IsC.st1))) <;> (first | (with_reducible assumption) | (intro _ e; cases e; done) | (go_simp; first | done | exact rfl)))), (by ((with_reducible (repeat (first | exact H104.out | refine IsC.al ?_ _ | apply IsC.st1))) <;> (first | (with_reducible assumption) | (intro _ e; cases e; done) | (go_simp; first | done | exact rfl))))⟩⟩
def Bnd (B : Int) (r : Int × Int × Int) : Prop := (-(B * r.2.2) ≤ r.1 ∧ r.1 ≤ B * r.2.2) ∧ -(B * r.2.2) ≤ r.2.1 ∧ r.2.1 ≤ B * r.2.2
theorem leq_bd {r : Int × Int × Int} {n B : Int} (h : Leq r n) (hd : 0 ≤ r.2.2) (hB : 0 ≤ B) (hn : n ≤ B * B) : Bnd B r := by
 unfold Leq at h
 have h1 := Int.mul_le_mul_of_nonneg_left hn (sq_nn r.2.2)
 have e : r.2.2 * r.2.2 * (B * B) = B * r.2.2 * (B * r.2.2) := by grind
 rw [e] at h1
 have h0 : 0 ≤ B * r.2.2 := Int.mul_nonneg hB hd
 have a := sq_nn r.1
 have b := sq_nn r.2.1
 exact ⟨sq_le h0 (by omega), sq_le h0 (by omega)⟩
structure PermM (m : Mt) (n : Int) : Prop where
  a0 : 0 ≤ m.a
  a1 : m.a < n
  b0 : -1 ≤ m.b
  b1 : m.b < n
  ab : ¬ m.a = m.b
  z : m.b = -1 ∨ (m.w1 = 0 ∧ m.w2 = 0 ∧ m.k1 = 0 ∧ m.k2 = 0)
  nn : withinB m.n1 m.n2 2097152 = true
  w : withinB m.w1 m.w2 1048576 = true
  k : withinB m.k1 m.k2 1048576 = true
  e : sixB m.e = true
  g : sixB m.g = true
theorem permM_iff {m : Mt} {n : Int} : permM m n = true ↔ PermM m n := by
 unfold permM
 simp only [Bool.and_eq_true, Bool.or_eq_true, decide_eq_true_eq]
 constructor
 · rintro ⟨⟨⟨a, b, c, d, e⟩, f⟩, ⟨g, h, i⟩, j, k⟩
   exact ⟨a, b, c, d, e, f, g, h, i, j, k⟩
 · rintro ⟨a, b, c, d, e, f, g, h, i, j, k⟩
   exact ⟨⟨⟨a, b, c, d, e⟩, f⟩, ⟨g, h, i⟩, j, k⟩
theorem near_get {v : List V2} {B : Int} (hv : v.all (nearB B) = true) {k : Int} (h0 : 0 ≤ k) (h1 : k < v.length) : withinB (v.getD k.toNat (0, 0)).1 (v.getD k.toNat (0, 0)).2 B = true := by
 have : (v.getD k.toNat (0, 0)) = v[k.toNat]'(by omega) := by rw [List.getD_eq_getElem?_getD, List.getElem?_eq_getElem (by omega)]; rfl
 rw [this]
 exact List.all_eq_true.1 hv _ (List.getElem_mem _)
theorem permB_of {a b c d n1 n2 : Int} (h1 : withinB a b 1048576 = true) (h2 : withinB c d 1048576 = true) (h3 : withinB n1 n2 2097152 = true) : permB a b c d n1 n2 = true := by unfold permB; rw [h1, h2, h3]; rfl
theorem alone_any (m : Mt) (v : List V2) (A : Option Addr) (c : Nat) (k : Int) (w : World) (hV : VAt w A v) (hp : PermM m v.length) (hv : v.all (nearB 1048576) = true) (h0 : 0 ≤ k) (h1 : k < v.length) (hs : m.b = -1 → apprB (v.getD m.a.toNat (0, 0)).1 (v.getD m.a.toNat (0, 0)).2 m.w1 m.w2 m.n1 m.n2 = true) (ht : ¬ m.b = -1 → apprB (v.getD m.a.toNat (0, 0)).1 (v.getD m.a.toNat (0, 0)).2 (v.getD m.b.toNat (0, 0)).1 (v.getD m.b.toNat (0, 0)).2 m.n1 m.n2 = true) :
  Calls Tryz.prog 24 #[m.v, .slice A v.length c, .int .i64 k] w (TOut (aloneR m v k) w) := by
 obtain ⟨g, o, hA, hg, c0, c1⟩ := vat_cell hV hp.a0 hp.a1
 obtain ⟨g3, o3, hA3, _, f0, f1⟩ := vat_cell hV h0 h1
 obtain rfl := hA
 simp only [Option.some.injEq, Addr.mk.injEq, and_true] at hA3
 obtain ⟨rfl, rfl⟩ := hA3
 have na := near_get hv hp.a0 hp.a1
 unfold aloneR
 by_cases hb : m.b = -1
 · rw [if_neg (fun h => h.1 hb), if_neg (fun h => h.1 hb)]
   by_cases hk : k = m.a
   · rw [if_pos hk]
     subst hk
     have hpp := permB_of na hp.w hp.nn
     have hap := hs hb
     obtain ⟨a, b, n1, n2, x1, x2, y1, y2, e, f⟩ := m
     simp only at hb
     subst hb
     have hy := within_bd2 hp.k
     simp only at hy hpp hap
     exact alone_s a n1 n2 x1 x2 y1 y2 e f _ _ g o v.length c w hg hp.a0 hp.a1 c0 c1 ⟨hy.1, hy.2.1⟩ hy.2.2 hpp hp.e hp.g hap
   · rw [if_neg hk]
     have hw := within_bd2 (near_get hv h0 h1)
     exact alone_o m.a m.b m.n1 m.n2 m.w1 m.w2 m.k1 m.k2 m.e m.g _ _ k g o v.length c w hg h0 h1 f0 f1 ⟨hw.1, hw.2.1⟩ hw.2.2 hk (.inl hb)
 · have hb0 : 0 ≤ m.b := by have := hp.b0; omega
   obtain ⟨g2, o2, hA2, _, d0, d1⟩ := vat_cell hV hb0 hp.b1
   simp only [Option.some.injEq, Addr.mk.injEq, and_true] at hA2
   obtain ⟨rfl, rfl⟩ := hA2
   by_cases hk : k = m.a
   · rw [if_pos ⟨hb, hk⟩]
     subst hk
     exact alone_a m.a m.b m.n1 m.n2 m.w1 m.w2 m.k1 m.k2 m.e m.g _ _ _ _ g o v.length c w hg hp.a0 hp.a1 c0 c1 hb0 hp.b1 d0 d1 (permB_of na (near_get hv hb0 hp.b1) hp.nn) hp.e (ht hb)
   · rw [if_neg (fun h => hk h.2)]
     by_cases hk2 : k = m.b
     · rw [if_pos ⟨hb, hk2⟩]
       subst hk2
       exact alone_b m.a m.b m.n1 m.n2 m.w1 m.w2 m.k1 m.k2 m.e m.g _ _ _ _ g o v.length c w hg hp.a0 hp.a1 c0 c1 hb0 hp.b1 d0 d1 (permB_of na (near_get hv hb0 hp.b1) hp.nn) hp.e (ht hb) (fun h => hp.ab h.symm)
     · rw [if_neg (fun h => hk2 h.2), if_neg hk]
       have hw := within_bd2 (near_get hv h0 h1)
       exact alone_o m.a m.b m.n1 m.n2 m.w1 m.w2 m.k1 m.k2 m.e m.g _ _ k g o v.length c w hg h0 h1 f0 f1 ⟨hw.1, hw.2.1⟩ hw.2.2 hk (.inr hk2)
theorem pair_bds {v1 v2 w1 w2 n1 n2 e : Int} (hp : permB v1 v2 w1 w2 n1 n2 = true) (he : sixB e = true) : Bnd 8388608 (pairR v1 v2 w1 w2 n1 n2 e).1 ∧ Bnd 8388608 (pairR v1 v2 w1 w2 n1 n2 e).2 := by
 have h := pair_leq hp he
 obtain ⟨d1, d2⟩ := (pair_lens v1 v2 w1 w2 n1 n2 e).2 hp he
 obtain ⟨⟨v11, v12, v21, v22⟩, ⟨w11, w12, w21, w22⟩, _⟩ := perm_bd hp
 have B1 := (mulB v1 v1 1048576 1048576 ⟨v11, v12⟩ ⟨v11, v12⟩).2
 have B2 := (mulB v2 v2 1048576 1048576 ⟨v21, v22⟩ ⟨v21, v22⟩).2
 have B3 := (mulB w1 w1 1048576 1048576 ⟨w11, w12⟩ ⟨w11, w12⟩).2
 have B4 := (mulB w2 w2 1048576 1048576 ⟨w21, w22⟩ ⟨w21, w22⟩).2
 generalize pairR v1 v2 w1 w2 n1 n2 e = P at *
 obtain ⟨⟨x, y, d⟩, x', y', d'⟩ := P
 simp only at *
 generalize hN : v1 * v1 + v2 * v2 + (w1 * w1 + w2 * w2) = N at *
 have q1 := Int.mul_nonneg (Int.add_nonneg (sq_nn x) (sq_nn y)) (sq_nn d')
 have q2 := Int.mul_nonneg (Int.add_nonneg (sq_nn x') (sq_nn y')) (sq_nn d)
 have s1 : Leq (x, y, d) N := by
  unfold Leq
  simp only
  have : d' * d' * (x * x + y * y) ≤ d' * d' * (d * d * N) := by
   have e1 : d' * d' * (x * x + y * y) = (x * x + y * y) * (d' * d') := by grind
   have e2 : d' * d' * (d * d * N) = d * d * (d' * d') * N := by grind
   rw [e1, e2]; omega
  exact Int.le_of_mul_le_mul_left this (Int.mul_pos d2 d2)
 have s2 : Leq (x', y', d') N := by
  unfold Leq
  simp only
  have : d * d * (x' * x' + y' * y') ≤ d * d * (d' * d' * N) := by
   have e1 : d * d * (x' * x' + y' * y') = (x' * x' + y' * y') * (d * d) := by grind
   have e2 : d * d * (d' * d' * N) = d * d * (d' * d') * N := by grind
   rw [e1, e2]; omega
  exact Int.le_of_mul_le_mul_left this (Int.mul_pos d1 d1)
 exact ⟨leq_bd s1 (Int.le_of_lt d1) (by omega) (by omega), leq_bd s2 (Int.le_of_lt d2) (by omega) (by omega)⟩
theorem stat_bds {v1 v2 w1 w2 n1 n2 e g : Int} (hp : permB v1 v2 w1 w2 n1 n2 = true) (he : sixB e = true) (hg : sixB g = true) : Bnd 5242880 (statR v1 v2 w1 w2 n1 n2 e g) := by
 have h := stat_rel hp he hg
 have d1 := (stat_lens v1 v2 w1 w2 n1 n2 e g).2 hp he hg
 obtain ⟨⟨v11, v12, v21, v22⟩, ⟨w11, w12, w21, w22⟩, _⟩ := perm_bd hp
 have B1 := (mulB (v1 - w1) (v1 - w1) 2097152 2097152 ⟨by omega, by omega⟩ ⟨by omega, by omega⟩).2
 have B2 := (mulB (v2 - w2) (v2 - w2) 2097152 2097152 ⟨by omega, by omega⟩ ⟨by omega, by omega⟩).2
 generalize statR v1 v2 w1 w2 n1 n2 e g = P at *
 obtain ⟨x, y, d⟩ := P
 simp only at *
 unfold sumR at h
 simp only [Int.mul_one] at h
 obtain ⟨G, hG, e1, e2, e3, hd'⟩ := lowR_mul (x + -w1 * d) (y + -w2 * d) d d1
 have hb := leq_bd h (Int.le_of_lt hd') (B := 4194304) (by omega) (by omega)
 generalize lowR (x + -w1 * d) (y + -w2 * d) d = L at *
 obtain ⟨x', y', d'⟩ := L
 simp only at *
 obtain ⟨⟨b1, b2⟩, b3, b4⟩ := hb
 simp only at b1 b2 b3 b4
 have c1 := Int.mul_le_mul_of_nonneg_left b1 (Int.le_of_lt hG)
 have c2 := Int.mul_le_mul_of_nonneg_left b2 (Int.le_of_lt hG)
 have c3 := Int.mul_le_mul_of_nonneg_left b3 (Int.le_of_lt hG)
 have c4 := Int.mul_le_mul_of_nonneg_left b4 (Int.le_of_lt hG)
 have k1 : G * (4194304 * d') = 4194304 * d := by rw [e3]; grind
 rw [Int.mul_neg] at c1 c3
 rw [k1, ← e1] at c1 c2
 rw [k1, ← e2] at c3 c4
 have m1 := Int.mul_le_mul_of_nonneg_right w11 (Int.le_of_lt d1)
 have m2 := Int.mul_le_mul_of_nonneg_right w12 (Int.le_of_lt d1)
 have m3 := Int.mul_le_mul_of_nonneg_right w21 (Int.le_of_lt d1)
 have m4 := Int.mul_le_mul_of_nonneg_right w22 (Int.le_of_lt d1)
 rw [Int.neg_mul] at c1 c2 c3 c4
 unfold Bnd
 simp only
 generalize w1 * d = p at *
 generalize w2 * d = q at *
 omega
theorem alone_ok {m : Mt} {v : List V2} {k : Int} (hp : PermM m v.length) (hv : v.all (nearB 1048576) = true) (h0 : 0 ≤ k) (h1 : k < v.length) : Val (aloneR m v k) ∧ Bnd 8388608 (aloneR m v k) := by
 have na := near_get hv hp.a0 hp.a1
 have nk := near_get hv h0 h1
 unfold aloneR
 by_cases hb : m.b = -1
 · rw [if_neg (fun h => h.1 hb), if_neg (fun h => h.1 hb)]
   by_cases hk : k = m.a
   · rw [if_pos hk]
     have hpb := permB_of na hp.w hp.nn
     obtain ⟨hl, hd⟩ := stat_lens (v.getD m.a.toNat (0, 0)).1 (v.getD m.a.toNat (0, 0)).2 m.w1 m.w2 m.n1 m.n2 m.e m.g
     have hd := hd hpb hp.e hp.g
     obtain ⟨⟨b1, b2⟩, b3, b4⟩ := stat_bds hpb hp.e hp.g
     generalize statR (v.getD m.a.toNat (0, 0)).1 (v.getD m.a.toNat (0, 0)).2 m.w1 m.w2 m.n1 m.n2 m.e m.g = P at *
     obtain ⟨x, y, d⟩ := P
     obtain ⟨lx, ly, ld⟩ := hl
     obtain ⟨k11, k12, k21, k22⟩ := within_bd2 hp.k
     unfold kickS Bnd
     simp only at *
     refine ⟨⟨hd, ?_, ?_, by simp only; omega⟩, ?_⟩
     · exact len_up (len_add (len_up lx (show 10 ≤ 20 by omega)) (len_mul ld (len_wd (z := m.k1) (by omega) (by omega)))) (by omega)
     · exact len_up (len_add (len_up ly (show 10 ≤ 20 by omega)) (len_mul ld (len_wd (z := m.k2) (by omega) (by omega)))) (by omega)
     · have m1 := Int.mul_le_mul_of_nonneg_left k11 (Int.le_of_lt hd)
       have m2 := Int.mul_le_mul_of_nonneg_left k12 (Int.le_of_lt hd)
       have m3 := Int.mul_le_mul_of_nonneg_left k21 (Int.le_of_lt hd)
       have m4 := Int.mul_le_mul_of_nonneg_left k22 (Int.le_of_lt hd)
       generalize d * m.k1 = p at *
       generalize d * m.k2 = q at *
       omega
   · rw [if_neg hk]
     obtain ⟨p1, p2, p3, p4⟩ := within_bd2 nk
     exact ⟨(lens_vec ⟨p1, p2⟩ ⟨p3, p4⟩).val (by simp only; omega), by unfold Bnd; simp only; omega⟩
 · have hb0 : 0 ≤ m.b := by have := hp.b0; omega
   have nb := near_get hv hb0 hp.b1
   have hpb := permB_of na nb hp.nn
   obtain ⟨⟨l1, l2⟩, hd⟩ := pair_lens (v.getD m.a.toNat (0, 0)).1 (v.getD m.a.toNat (0, 0)).2 (v.getD m.b.toNat (0, 0)).1 (v.getD m.b.toNat (0, 0)).2 m.n1 m.n2 m.e
   obtain ⟨d1, d2⟩ := hd hpb hp.e
   obtain ⟨b1, b2⟩ := pair_bds hpb hp.e
   by_cases hk : k = m.a
   · rw [if_pos ⟨hb, hk⟩]
     exact ⟨l1.val d1, b1⟩
   · rw [if_neg (fun h => hk h.2)]
     by_cases hk2 : k = m.b
     · rw [if_pos ⟨hb, hk2⟩]
       exact ⟨l2.val d2, b2⟩
     · rw [if_neg (fun h => hk2 h.2), if_neg hk]
       obtain ⟨p1, p2, p3, p4⟩ := within_bd2 nk
       exact ⟨(lens_vec ⟨p1, p2⟩ ⟨p3, p4⟩).val (by simp only; omega), by unfold Bnd; simp only; omega⟩
theorem sumR_bnd {s r : Int × Int × Int} {K B : Int} (hs : 0 < s.2.2) (hr : 0 < r.2.2) (h : Bnd K s) (g : Bnd B r) : 0 < (sumR s r).2.2 ∧ Bnd (K + B) (sumR s r) := by
 obtain ⟨X, Y, D⟩ := s
 obtain ⟨x, y, d⟩ := r
 unfold sumR Bnd at *
 simp only at *
 obtain ⟨G, hG, e1, e2, e3, hd'⟩ := lowR_mul (X * d + x * D) (Y * d + y * D) (D * d) (Int.mul_pos hs hr)
 refine ⟨hd', ?_⟩
 generalize lowR (X * d + x * D) (Y * d + y * D) (D * d) = L at *
 obtain ⟨x', y', d'⟩ := L
 simp only at *
 obtain ⟨⟨a1, a2⟩, a3, a4⟩ := h
 obtain ⟨⟨b1, b2⟩, b3, b4⟩ := g
 have key : ∀ U u z : Int, -(K * D) ≤ U → U ≤ K * D → -(B * d) ≤ u → u ≤ B * d → U * d + u * D = G * z → -((K + B) * d') ≤ z ∧ z ≤ (K + B) * d' := fun U u z q1 q2 q3 q4 e => by
  have r1 := Int.mul_le_mul_of_nonneg_right q1 (Int.le_of_lt hr)
  have r2 := Int.mul_le_mul_of_nonneg_right q2 (Int.le_of_lt hr)
  have r3 := Int.mul_le_mul_of_nonneg_right q3 (Int.le_of_lt hs)
  have r4 := Int.mul_le_mul_of_nonneg_right q4 (Int.le_of_lt hs)
  have t : K * D * d + B * d * D = G * ((K + B) * d') := by
   have : G * ((K + B) * d') = (K + B) * (D * d) := by rw [e3]; grind
   rw [this]; grind
  rw [Int.neg_mul] at r1 r3
  constructor
  · refine Int.le_of_mul_le_mul_left (a := G) ?_ hG
    rw [Int.mul_neg, ← t, ← e]; omega
  · refine Int.le_of_mul_le_mul_left (a := G) ?_ hG
    rw [← t, ← e]; omega
 exact ⟨key X x x' a1 a2 b1 b2 e1, key Y y y' a3 a4 b3 b4 e2⟩
theorem meanS_bnd {l : List (Int × Int × Int)} {B : Int} (h : ∀ r ∈ l, 0 < r.2.2 ∧ Bnd B r) : 0 < (meanS l).2.2 ∧ Bnd (l.length * B) (meanS l) := by
 have key : ∀ (l : List (Int × Int × Int)) (s : Int × Int × Int) (K : Int), 0 < s.2.2 → Bnd K s → (∀ r ∈ l, 0 < r.2.2 ∧ Bnd B r) → 0 < (l.foldl sumR s).2.2 ∧ Bnd (K + l.length * B) (l.foldl sumR s) := by
  intro l
  induction l with
  | nil => intro s K h1 h2 _; exact ⟨h1, by simpa using h2⟩
  | cons r l ih =>
   intro s K h1 h2 h3
   obtain ⟨g1, g2⟩ := h3 r (by simp)
   obtain ⟨k1, k2⟩ := sumR_bnd h1 g1 h2 g2
   obtain ⟨j1, j2⟩ := ih (sumR s r) (K + B) k1 k2 (fun q hq => h3 q (List.mem_cons_of_mem _ hq))
   refine ⟨j1, ?_⟩
   have e : K + ((r :: l).length : Int) * B = K + B + (l.length : Int) * B := by rw [List.length_cons, Int.natCast_add, Int.add_mul]; omega
   rw [e]
   exact j2
 have := key l (0, 0, 1) 0 (by decide) (by unfold Bnd; simp) h
 simpa [meanS] using this
theorem tdiv_bds {x D B n : Int} (hD : 0 < D) (hn : 0 < n) (hB : 0 ≤ B) (h1 : -(n * B * D) ≤ x) (h2 : x ≤ n * B * D) : -B ≤ x.tdiv (D * n) ∧ x.tdiv (D * n) ≤ B := by
 have hp : 0 < D * n := Int.mul_pos hD hn
 have e : n * B * D = B * (D * n) := by grind
 rw [e] at h1 h2
 have e2 : (B * (D * n)).tdiv (D * n) = B := Int.mul_tdiv_cancel _ (by omega)
 have e3 : (-(B * (D * n))).tdiv (D * n) = -B := by rw [Int.neg_tdiv, e2]
 have m1 := Int.tdiv_le_tdiv (c := D * n) hp h1
 have m2 := Int.tdiv_le_tdiv (c := D * n) hp h2
 rw [e3] at m1
 rw [e2] at m2
 exact ⟨m1, m2⟩
theorem mean_within {l : List (Int × Int × Int)} (hl : 1 ≤ l.length) (h : ∀ r ∈ l, 0 < r.2.2 ∧ Bnd 8388608 r) : withinB (meanR l).1 (meanR l).2 8388608 = true := by
 obtain ⟨d, ⟨a1, a2⟩, a3, a4⟩ := meanS_bnd h
 unfold meanR
 simp only [withinB, decide_eq_true_eq]
 obtain ⟨p1, p2⟩ := tdiv_bds d (show (0 : Int) < (l.length : Int) by omega) (show (0 : Int) ≤ 8388608 by omega) a1 a2
 obtain ⟨p3, p4⟩ := tdiv_bds d (show (0 : Int) < (l.length : Int) by omega) (show (0 : Int) ≤ 8388608 by omega) a3 a4
 exact ⟨p1, p2, p3, p4⟩
end Go.Proofs.YtgejdaincnclpaaGreat
